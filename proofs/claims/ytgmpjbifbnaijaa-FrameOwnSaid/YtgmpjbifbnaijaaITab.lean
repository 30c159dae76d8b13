/- What the tables of the program say of its types and functions, as equations. Written by tab.py. No condition. -/
import Derived.Test.YtgmpjbifbnaijaaISim
import Derived.Test.YtgmpjbifbnaijaaProg
namespace Go.Proofs.Ytgmpjbifbnaijaa.I
open Go Go.RowKit
set_option linter.unusedVariables false
@[go_sem] theorem tSize_1 : tSize Try.prog 1 = some 1 := by kernel_rfl
@[go_sem] theorem tBytes_1 : tBytes Try.prog 1 = some 8 := by kernel_rfl
@[go_sem] theorem tZero_1 : tZero Try.prog 1 = some (.nilFunc) := by kernel_rfl
@[go_sem] theorem tAgg_1 : tAgg Try.prog 1 = some false := by kernel_rfl
@[go_sem] theorem tKind_1 : tKind Try.prog 1 = some .func := by kernel_rfl
@[go_sem] theorem isRowT_1 : isRowT Try.prog 1 = false := by kernel_rfl
@[go_sem] theorem tSize_2 : tSize Try.prog 2 = some 1 := by kernel_rfl
@[go_sem] theorem tBytes_2 : tBytes Try.prog 2 = some 8 := by kernel_rfl
@[go_sem] theorem tZero_2 : tZero Try.prog 2 = some (.int .i64 0) := by kernel_rfl
@[go_sem] theorem tAgg_2 : tAgg Try.prog 2 = some false := by kernel_rfl
@[go_sem] theorem tKind_2 : tKind Try.prog 2 = some (.int .i64) := by kernel_rfl
@[go_sem] theorem isRowT_2 : isRowT Try.prog 2 = false := by kernel_rfl
@[go_sem] theorem tSize_3 : tSize Try.prog 3 = some 1 := by kernel_rfl
@[go_sem] theorem tBytes_3 : tBytes Try.prog 3 = some 8 := by kernel_rfl
@[go_sem] theorem tZero_3 : tZero Try.prog 3 = some (.int .i64 0) := by kernel_rfl
@[go_sem] theorem tAgg_3 : tAgg Try.prog 3 = some false := by kernel_rfl
@[go_sem] theorem tKind_3 : tKind Try.prog 3 = some (.int .i64) := by kernel_rfl
@[go_sem] theorem isRowT_3 : isRowT Try.prog 3 = false := by kernel_rfl
@[go_sem] theorem tSize_4 : tSize Try.prog 4 = some 1 := by kernel_rfl
@[go_sem] theorem tBytes_4 : tBytes Try.prog 4 = some 1 := by kernel_rfl
@[go_sem] theorem tZero_4 : tZero Try.prog 4 = some (.bool false) := by kernel_rfl
@[go_sem] theorem tAgg_4 : tAgg Try.prog 4 = some false := by kernel_rfl
@[go_sem] theorem tKind_4 : tKind Try.prog 4 = some .bool := by kernel_rfl
@[go_sem] theorem isRowT_4 : isRowT Try.prog 4 = false := by kernel_rfl
@[go_sem] theorem tSize_5 : tSize Try.prog 5 = some 1 := by kernel_rfl
@[go_sem] theorem tBytes_5 : tBytes Try.prog 5 = some 1 := by kernel_rfl
@[go_sem] theorem tZero_5 : tZero Try.prog 5 = some (.int .u8 0) := by kernel_rfl
@[go_sem] theorem tAgg_5 : tAgg Try.prog 5 = some false := by kernel_rfl
@[go_sem] theorem tKind_5 : tKind Try.prog 5 = some (.int .u8) := by kernel_rfl
@[go_sem] theorem isRowT_5 : isRowT Try.prog 5 = false := by kernel_rfl
@[go_sem] theorem tSize_9 : tSize Try.prog 9 = some 1 := by kernel_rfl
@[go_sem] theorem tBytes_9 : tBytes Try.prog 9 = some 16 := by kernel_rfl
@[go_sem] theorem tZero_9 : tZero Try.prog 9 = some (.string ⟨#[]⟩) := by kernel_rfl
@[go_sem] theorem tAgg_9 : tAgg Try.prog 9 = some false := by kernel_rfl
@[go_sem] theorem tKind_9 : tKind Try.prog 9 = some .string := by kernel_rfl
@[go_sem] theorem isRowT_9 : isRowT Try.prog 9 = false := by kernel_rfl
@[go_sem] theorem tSize_12 : tSize Try.prog 12 = some 1 := by kernel_rfl
@[go_sem] theorem tBytes_12 : tBytes Try.prog 12 = some 8 := by kernel_rfl
@[go_sem] theorem tZero_12 : tZero Try.prog 12 = some (.int .u64 0) := by kernel_rfl
@[go_sem] theorem tAgg_12 : tAgg Try.prog 12 = some false := by kernel_rfl
@[go_sem] theorem tKind_12 : tKind Try.prog 12 = some (.int .u64) := by kernel_rfl
@[go_sem] theorem isRowT_12 : isRowT Try.prog 12 = false := by kernel_rfl
@[go_sem] theorem tSize_13 : tSize Try.prog 13 = some 2 := by kernel_rfl
@[go_sem] theorem tBytes_13 : tBytes Try.prog 13 = some 24 := by kernel_rfl
@[go_sem] theorem tZero_13 : tZero Try.prog 13 = some (.agg #[.string ⟨#[]⟩, .int .u64 0]) := by kernel_rfl
@[go_sem] theorem tAgg_13 : tAgg Try.prog 13 = some true := by kernel_rfl
@[go_sem] theorem tKind_13 : tKind Try.prog 13 = some .other := by kernel_rfl
@[go_sem] theorem isRowT_13 : isRowT Try.prog 13 = false := by kernel_rfl
@[go_sem] theorem tField_13_0 : tField Try.prog 13 0 = some (0, 9, 1) := by kernel_rfl
@[go_sem] theorem tField_13_1 : tField Try.prog 13 1 = some (1, 12, 1) := by kernel_rfl
@[go_sem] theorem tPlaces_13 : tPlaces Try.prog 13 = some [(0, 1), (1, 1)] := by kernel_rfl
@[go_sem] theorem tSize_20 : tSize Try.prog 20 = some 1 := by kernel_rfl
@[go_sem] theorem tBytes_20 : tBytes Try.prog 20 = some 16 := by kernel_rfl
@[go_sem] theorem tZero_20 : tZero Try.prog 20 = some (.nilIface) := by kernel_rfl
@[go_sem] theorem tAgg_20 : tAgg Try.prog 20 = some false := by kernel_rfl
@[go_sem] theorem tKind_20 : tKind Try.prog 20 = some .iface := by kernel_rfl
@[go_sem] theorem isRowT_20 : isRowT Try.prog 20 = false := by kernel_rfl
@[go_sem] theorem tSize_21 : tSize Try.prog 21 = some 1 := by kernel_rfl
@[go_sem] theorem tBytes_21 : tBytes Try.prog 21 = some 4 := by kernel_rfl
@[go_sem] theorem tZero_21 : tZero Try.prog 21 = some (.int .i32 0) := by kernel_rfl
@[go_sem] theorem tAgg_21 : tAgg Try.prog 21 = some false := by kernel_rfl
@[go_sem] theorem tKind_21 : tKind Try.prog 21 = some (.int .i32) := by kernel_rfl
@[go_sem] theorem isRowT_21 : isRowT Try.prog 21 = false := by kernel_rfl
@[go_sem] theorem tSize_22 : tSize Try.prog 22 = some 1 := by kernel_rfl
@[go_sem] theorem tBytes_22 : tBytes Try.prog 22 = some 24 := by kernel_rfl
@[go_sem] theorem tZero_22 : tZero Try.prog 22 = some (.slice none 0 0) := by kernel_rfl
@[go_sem] theorem tAgg_22 : tAgg Try.prog 22 = some false := by kernel_rfl
@[go_sem] theorem tKind_22 : tKind Try.prog 22 = some .slice := by kernel_rfl
@[go_sem] theorem isRowT_22 : isRowT Try.prog 22 = true := by kernel_rfl
@[go_sem] theorem isU8_22 : isU8 Try.prog 22 = false := by kernel_rfl
@[go_sem] theorem tElem_22 : tElem Try.prog 22 = some 28 := by kernel_rfl
@[go_sem] theorem tSize_23 : tSize Try.prog 23 = some 1 := by kernel_rfl
@[go_sem] theorem tBytes_23 : tBytes Try.prog 23 = some 8 := by kernel_rfl
@[go_sem] theorem tZero_23 : tZero Try.prog 23 = some (.nilFunc) := by kernel_rfl
@[go_sem] theorem tAgg_23 : tAgg Try.prog 23 = some false := by kernel_rfl
@[go_sem] theorem tKind_23 : tKind Try.prog 23 = some .func := by kernel_rfl
@[go_sem] theorem isRowT_23 : isRowT Try.prog 23 = false := by kernel_rfl
@[go_sem] theorem tSize_24 : tSize Try.prog 24 = some 1 := by kernel_rfl
@[go_sem] theorem tBytes_24 : tBytes Try.prog 24 = some 8 := by kernel_rfl
@[go_sem] theorem tZero_24 : tZero Try.prog 24 = some (.nilFunc) := by kernel_rfl
@[go_sem] theorem tAgg_24 : tAgg Try.prog 24 = some false := by kernel_rfl
@[go_sem] theorem tKind_24 : tKind Try.prog 24 = some .func := by kernel_rfl
@[go_sem] theorem isRowT_24 : isRowT Try.prog 24 = false := by kernel_rfl
@[go_sem] theorem tSize_25 : tSize Try.prog 25 = some 1 := by kernel_rfl
@[go_sem] theorem tBytes_25 : tBytes Try.prog 25 = some 24 := by kernel_rfl
@[go_sem] theorem tZero_25 : tZero Try.prog 25 = some (.slice none 0 0) := by kernel_rfl
@[go_sem] theorem tAgg_25 : tAgg Try.prog 25 = some false := by kernel_rfl
@[go_sem] theorem tKind_25 : tKind Try.prog 25 = some .slice := by kernel_rfl
@[go_sem] theorem isRowT_25 : isRowT Try.prog 25 = true := by kernel_rfl
@[go_sem] theorem isU8_25 : isU8 Try.prog 25 = false := by kernel_rfl
@[go_sem] theorem tElem_25 : tElem Try.prog 25 = some 26 := by kernel_rfl
@[go_sem] theorem tSize_26 : tSize Try.prog 26 = some 1 := by kernel_rfl
@[go_sem] theorem tBytes_26 : tBytes Try.prog 26 = some 24 := by kernel_rfl
@[go_sem] theorem tZero_26 : tZero Try.prog 26 = some (.slice none 0 0) := by kernel_rfl
@[go_sem] theorem tAgg_26 : tAgg Try.prog 26 = some false := by kernel_rfl
@[go_sem] theorem tKind_26 : tKind Try.prog 26 = some .slice := by kernel_rfl
@[go_sem] theorem isRowT_26 : isRowT Try.prog 26 = true := by kernel_rfl
@[go_sem] theorem isU8_26 : isU8 Try.prog 26 = true := by kernel_rfl
@[go_sem] theorem tElem_26 : tElem Try.prog 26 = some 5 := by kernel_rfl
@[go_sem] theorem tSize_27 : tSize Try.prog 27 = some 4 := by kernel_rfl
@[go_sem] theorem tBytes_27 : tBytes Try.prog 27 = some 40 := by kernel_rfl
@[go_sem] theorem tZero_27 : tZero Try.prog 27 = some (.agg #[.int .u8 0, .slice none 0 0, .int .u8 0, .int .u8 0]) := by kernel_rfl
@[go_sem] theorem tAgg_27 : tAgg Try.prog 27 = some true := by kernel_rfl
@[go_sem] theorem tKind_27 : tKind Try.prog 27 = some .other := by kernel_rfl
@[go_sem] theorem isRowT_27 : isRowT Try.prog 27 = false := by kernel_rfl
@[go_sem] theorem tField_27_0 : tField Try.prog 27 0 = some (0, 5, 1) := by kernel_rfl
@[go_sem] theorem tField_27_1 : tField Try.prog 27 1 = some (1, 26, 1) := by kernel_rfl
@[go_sem] theorem tField_27_2 : tField Try.prog 27 2 = some (2, 5, 1) := by kernel_rfl
@[go_sem] theorem tField_27_3 : tField Try.prog 27 3 = some (3, 5, 1) := by kernel_rfl
@[go_sem] theorem tPlaces_27 : tPlaces Try.prog 27 = some [(0, 1), (1, 1), (2, 1), (3, 1)] := by kernel_rfl
@[go_sem] theorem tSize_28 : tSize Try.prog 28 = some 4 := by kernel_rfl
@[go_sem] theorem tBytes_28 : tBytes Try.prog 28 = some 40 := by kernel_rfl
@[go_sem] theorem tZero_28 : tZero Try.prog 28 = some (.agg #[.int .u8 0, .slice none 0 0, .int .u8 0, .int .u8 0]) := by kernel_rfl
@[go_sem] theorem tAgg_28 : tAgg Try.prog 28 = some true := by kernel_rfl
@[go_sem] theorem tKind_28 : tKind Try.prog 28 = some .other := by kernel_rfl
@[go_sem] theorem isRowT_28 : isRowT Try.prog 28 = false := by kernel_rfl
@[go_sem] theorem tField_28_0 : tField Try.prog 28 0 = some (0, 5, 1) := by kernel_rfl
@[go_sem] theorem tField_28_1 : tField Try.prog 28 1 = some (1, 26, 1) := by kernel_rfl
@[go_sem] theorem tField_28_2 : tField Try.prog 28 2 = some (2, 5, 1) := by kernel_rfl
@[go_sem] theorem tField_28_3 : tField Try.prog 28 3 = some (3, 5, 1) := by kernel_rfl
@[go_sem] theorem tPlaces_28 : tPlaces Try.prog 28 = some [(0, 1), (1, 1), (2, 1), (3, 1)] := by kernel_rfl
@[go_sem] theorem tSize_29 : tSize Try.prog 29 = some 1 := by kernel_rfl
@[go_sem] theorem tBytes_29 : tBytes Try.prog 29 = some 8 := by kernel_rfl
@[go_sem] theorem tZero_29 : tZero Try.prog 29 = some (.nilFunc) := by kernel_rfl
@[go_sem] theorem tAgg_29 : tAgg Try.prog 29 = some false := by kernel_rfl
@[go_sem] theorem tKind_29 : tKind Try.prog 29 = some .func := by kernel_rfl
@[go_sem] theorem isRowT_29 : isRowT Try.prog 29 = false := by kernel_rfl
@[go_sem] theorem tSize_30 : tSize Try.prog 30 = some 1 := by kernel_rfl
@[go_sem] theorem tBytes_30 : tBytes Try.prog 30 = some 8 := by kernel_rfl
@[go_sem] theorem tZero_30 : tZero Try.prog 30 = some (.nilFunc) := by kernel_rfl
@[go_sem] theorem tAgg_30 : tAgg Try.prog 30 = some false := by kernel_rfl
@[go_sem] theorem tKind_30 : tKind Try.prog 30 = some .func := by kernel_rfl
@[go_sem] theorem isRowT_30 : isRowT Try.prog 30 = false := by kernel_rfl
@[go_sem] theorem tSize_31 : tSize Try.prog 31 = some 1 := by kernel_rfl
@[go_sem] theorem tBytes_31 : tBytes Try.prog 31 = some 8 := by kernel_rfl
@[go_sem] theorem tZero_31 : tZero Try.prog 31 = some (.nilFunc) := by kernel_rfl
@[go_sem] theorem tAgg_31 : tAgg Try.prog 31 = some false := by kernel_rfl
@[go_sem] theorem tKind_31 : tKind Try.prog 31 = some .func := by kernel_rfl
@[go_sem] theorem isRowT_31 : isRowT Try.prog 31 = false := by kernel_rfl
@[go_sem] theorem tSize_32 : tSize Try.prog 32 = some 1 := by kernel_rfl
@[go_sem] theorem tBytes_32 : tBytes Try.prog 32 = some 8 := by kernel_rfl
@[go_sem] theorem tZero_32 : tZero Try.prog 32 = some (.pointer none) := by kernel_rfl
@[go_sem] theorem tAgg_32 : tAgg Try.prog 32 = some false := by kernel_rfl
@[go_sem] theorem tKind_32 : tKind Try.prog 32 = some .pointer := by kernel_rfl
@[go_sem] theorem isRowT_32 : isRowT Try.prog 32 = false := by kernel_rfl
@[go_sem] theorem tSize_33 : tSize Try.prog 33 = some 1 := by kernel_rfl
@[go_sem] theorem tBytes_33 : tBytes Try.prog 33 = some 8 := by kernel_rfl
@[go_sem] theorem tZero_33 : tZero Try.prog 33 = some (.nilFunc) := by kernel_rfl
@[go_sem] theorem tAgg_33 : tAgg Try.prog 33 = some false := by kernel_rfl
@[go_sem] theorem tKind_33 : tKind Try.prog 33 = some .func := by kernel_rfl
@[go_sem] theorem isRowT_33 : isRowT Try.prog 33 = false := by kernel_rfl
@[go_sem] theorem tSize_34 : tSize Try.prog 34 = some 1 := by kernel_rfl
@[go_sem] theorem tBytes_34 : tBytes Try.prog 34 = some 8 := by kernel_rfl
@[go_sem] theorem tZero_34 : tZero Try.prog 34 = some (.nilFunc) := by kernel_rfl
@[go_sem] theorem tAgg_34 : tAgg Try.prog 34 = some false := by kernel_rfl
@[go_sem] theorem tKind_34 : tKind Try.prog 34 = some .func := by kernel_rfl
@[go_sem] theorem isRowT_34 : isRowT Try.prog 34 = false := by kernel_rfl
@[go_sem] theorem tSize_35 : tSize Try.prog 35 = some 1 := by kernel_rfl
@[go_sem] theorem tBytes_35 : tBytes Try.prog 35 = some 8 := by kernel_rfl
@[go_sem] theorem tZero_35 : tZero Try.prog 35 = some (.nilFunc) := by kernel_rfl
@[go_sem] theorem tAgg_35 : tAgg Try.prog 35 = some false := by kernel_rfl
@[go_sem] theorem tKind_35 : tKind Try.prog 35 = some .func := by kernel_rfl
@[go_sem] theorem isRowT_35 : isRowT Try.prog 35 = false := by kernel_rfl
@[go_sem] theorem tSize_36 : tSize Try.prog 36 = some 1 := by kernel_rfl
@[go_sem] theorem tBytes_36 : tBytes Try.prog 36 = some 8 := by kernel_rfl
@[go_sem] theorem tZero_36 : tZero Try.prog 36 = some (.nilFunc) := by kernel_rfl
@[go_sem] theorem tAgg_36 : tAgg Try.prog 36 = some false := by kernel_rfl
@[go_sem] theorem tKind_36 : tKind Try.prog 36 = some .func := by kernel_rfl
@[go_sem] theorem isRowT_36 : isRowT Try.prog 36 = false := by kernel_rfl
@[go_sem] theorem tSize_38 : tSize Try.prog 38 = some 1 := by kernel_rfl
@[go_sem] theorem tBytes_38 : tBytes Try.prog 38 = some 8 := by kernel_rfl
@[go_sem] theorem tZero_38 : tZero Try.prog 38 = some (.nilFunc) := by kernel_rfl
@[go_sem] theorem tAgg_38 : tAgg Try.prog 38 = some false := by kernel_rfl
@[go_sem] theorem tKind_38 : tKind Try.prog 38 = some .func := by kernel_rfl
@[go_sem] theorem isRowT_38 : isRowT Try.prog 38 = false := by kernel_rfl
@[go_sem] theorem tSize_39 : tSize Try.prog 39 = some 1 := by kernel_rfl
@[go_sem] theorem tBytes_39 : tBytes Try.prog 39 = some 8 := by kernel_rfl
@[go_sem] theorem tZero_39 : tZero Try.prog 39 = some (.nilFunc) := by kernel_rfl
@[go_sem] theorem tAgg_39 : tAgg Try.prog 39 = some false := by kernel_rfl
@[go_sem] theorem tKind_39 : tKind Try.prog 39 = some .func := by kernel_rfl
@[go_sem] theorem isRowT_39 : isRowT Try.prog 39 = false := by kernel_rfl
@[go_sem] theorem tSize_40 : tSize Try.prog 40 = some 1 := by kernel_rfl
@[go_sem] theorem tBytes_40 : tBytes Try.prog 40 = some 8 := by kernel_rfl
@[go_sem] theorem tZero_40 : tZero Try.prog 40 = some (.nilFunc) := by kernel_rfl
@[go_sem] theorem tAgg_40 : tAgg Try.prog 40 = some false := by kernel_rfl
@[go_sem] theorem tKind_40 : tKind Try.prog 40 = some .func := by kernel_rfl
@[go_sem] theorem isRowT_40 : isRowT Try.prog 40 = false := by kernel_rfl
@[go_sem] theorem tSize_41 : tSize Try.prog 41 = some 1 := by kernel_rfl
@[go_sem] theorem tBytes_41 : tBytes Try.prog 41 = some 8 := by kernel_rfl
@[go_sem] theorem tZero_41 : tZero Try.prog 41 = some (.nilFunc) := by kernel_rfl
@[go_sem] theorem tAgg_41 : tAgg Try.prog 41 = some false := by kernel_rfl
@[go_sem] theorem tKind_41 : tKind Try.prog 41 = some .func := by kernel_rfl
@[go_sem] theorem isRowT_41 : isRowT Try.prog 41 = false := by kernel_rfl
@[go_sem] theorem tSize_42 : tSize Try.prog 42 = some 2 := by kernel_rfl
@[go_sem] theorem tBytes_42 : tBytes Try.prog 42 = some 32 := by kernel_rfl
@[go_sem] theorem tZero_42 : tZero Try.prog 42 = some (.agg #[.slice none 0 0, .int .i64 0]) := by kernel_rfl
@[go_sem] theorem tAgg_42 : tAgg Try.prog 42 = some true := by kernel_rfl
@[go_sem] theorem tKind_42 : tKind Try.prog 42 = some .other := by kernel_rfl
@[go_sem] theorem isRowT_42 : isRowT Try.prog 42 = false := by kernel_rfl
@[go_sem] theorem tField_42_0 : tField Try.prog 42 0 = some (0, 26, 1) := by kernel_rfl
@[go_sem] theorem tField_42_1 : tField Try.prog 42 1 = some (1, 3, 1) := by kernel_rfl
@[go_sem] theorem tPlaces_42 : tPlaces Try.prog 42 = some [(0, 1), (1, 1)] := by kernel_rfl
@[go_sem] theorem tSize_43 : tSize Try.prog 43 = some 2 := by kernel_rfl
@[go_sem] theorem tBytes_43 : tBytes Try.prog 43 = some 32 := by kernel_rfl
@[go_sem] theorem tZero_43 : tZero Try.prog 43 = some (.agg #[.slice none 0 0, .int .i64 0]) := by kernel_rfl
@[go_sem] theorem tAgg_43 : tAgg Try.prog 43 = some true := by kernel_rfl
@[go_sem] theorem tKind_43 : tKind Try.prog 43 = some .other := by kernel_rfl
@[go_sem] theorem isRowT_43 : isRowT Try.prog 43 = false := by kernel_rfl
@[go_sem] theorem tField_43_0 : tField Try.prog 43 0 = some (0, 26, 1) := by kernel_rfl
@[go_sem] theorem tField_43_1 : tField Try.prog 43 1 = some (1, 3, 1) := by kernel_rfl
@[go_sem] theorem tPlaces_43 : tPlaces Try.prog 43 = some [(0, 1), (1, 1)] := by kernel_rfl
@[go_sem] theorem tSize_45 : tSize Try.prog 45 = some 1 := by kernel_rfl
@[go_sem] theorem tBytes_45 : tBytes Try.prog 45 = some 8 := by kernel_rfl
@[go_sem] theorem tZero_45 : tZero Try.prog 45 = some (.nilFunc) := by kernel_rfl
@[go_sem] theorem tAgg_45 : tAgg Try.prog 45 = some false := by kernel_rfl
@[go_sem] theorem tKind_45 : tKind Try.prog 45 = some .func := by kernel_rfl
@[go_sem] theorem isRowT_45 : isRowT Try.prog 45 = false := by kernel_rfl
@[go_sem] theorem tSize_46 : tSize Try.prog 46 = some 1 := by kernel_rfl
@[go_sem] theorem tBytes_46 : tBytes Try.prog 46 = some 2 := by kernel_rfl
@[go_sem] theorem tZero_46 : tZero Try.prog 46 = some (.int .u16 0) := by kernel_rfl
@[go_sem] theorem tAgg_46 : tAgg Try.prog 46 = some false := by kernel_rfl
@[go_sem] theorem tKind_46 : tKind Try.prog 46 = some (.int .u16) := by kernel_rfl
@[go_sem] theorem isRowT_46 : isRowT Try.prog 46 = false := by kernel_rfl
@[go_sem] theorem tSize_47 : tSize Try.prog 47 = some 1 := by kernel_rfl
@[go_sem] theorem tBytes_47 : tBytes Try.prog 47 = some 8 := by kernel_rfl
@[go_sem] theorem tZero_47 : tZero Try.prog 47 = some (.nilFunc) := by kernel_rfl
@[go_sem] theorem tAgg_47 : tAgg Try.prog 47 = some false := by kernel_rfl
@[go_sem] theorem tKind_47 : tKind Try.prog 47 = some .func := by kernel_rfl
@[go_sem] theorem isRowT_47 : isRowT Try.prog 47 = false := by kernel_rfl
@[go_sem] theorem tSize_48 : tSize Try.prog 48 = some 1 := by kernel_rfl
@[go_sem] theorem tBytes_48 : tBytes Try.prog 48 = some 8 := by kernel_rfl
@[go_sem] theorem tZero_48 : tZero Try.prog 48 = some (.int .u64 0) := by kernel_rfl
@[go_sem] theorem tAgg_48 : tAgg Try.prog 48 = some false := by kernel_rfl
@[go_sem] theorem tKind_48 : tKind Try.prog 48 = some (.int .u64) := by kernel_rfl
@[go_sem] theorem isRowT_48 : isRowT Try.prog 48 = false := by kernel_rfl
@[go_sem] theorem tSize_49 : tSize Try.prog 49 = some 1 := by kernel_rfl
@[go_sem] theorem tBytes_49 : tBytes Try.prog 49 = some 8 := by kernel_rfl
@[go_sem] theorem tZero_49 : tZero Try.prog 49 = some (.nilFunc) := by kernel_rfl
@[go_sem] theorem tAgg_49 : tAgg Try.prog 49 = some false := by kernel_rfl
@[go_sem] theorem tKind_49 : tKind Try.prog 49 = some .func := by kernel_rfl
@[go_sem] theorem isRowT_49 : isRowT Try.prog 49 = false := by kernel_rfl
@[go_sem] theorem tSize_50 : tSize Try.prog 50 = some 3 := by kernel_rfl
@[go_sem] theorem tBytes_50 : tBytes Try.prog 50 = some 24 := by kernel_rfl
@[go_sem] theorem tZero_50 : tZero Try.prog 50 = some (.agg #[.nilFunc, .nilFunc, .nilFunc]) := by kernel_rfl
@[go_sem] theorem tAgg_50 : tAgg Try.prog 50 = some true := by kernel_rfl
@[go_sem] theorem tKind_50 : tKind Try.prog 50 = some .other := by kernel_rfl
@[go_sem] theorem isRowT_50 : isRowT Try.prog 50 = false := by kernel_rfl
@[go_sem] theorem tArr_50 : tArr Try.prog 50 = some (3, 49) := by kernel_rfl
@[go_sem] theorem tPlaces_50 : tPlaces Try.prog 50 = some [(0, 1), (1, 1), (2, 1)] := by kernel_rfl
@[go_sem] theorem tSize_51 : tSize Try.prog 51 = some 1 := by kernel_rfl
@[go_sem] theorem tBytes_51 : tBytes Try.prog 51 = some 8 := by kernel_rfl
@[go_sem] theorem tZero_51 : tZero Try.prog 51 = some (.int .i64 0) := by kernel_rfl
@[go_sem] theorem tAgg_51 : tAgg Try.prog 51 = some false := by kernel_rfl
@[go_sem] theorem tKind_51 : tKind Try.prog 51 = some (.int .i64) := by kernel_rfl
@[go_sem] theorem isRowT_51 : isRowT Try.prog 51 = false := by kernel_rfl
@[go_sem] theorem tSize_53 : tSize Try.prog 53 = some 1 := by kernel_rfl
@[go_sem] theorem tBytes_53 : tBytes Try.prog 53 = some 8 := by kernel_rfl
@[go_sem] theorem tZero_53 : tZero Try.prog 53 = some (.nilFunc) := by kernel_rfl
@[go_sem] theorem tAgg_53 : tAgg Try.prog 53 = some false := by kernel_rfl
@[go_sem] theorem tKind_53 : tKind Try.prog 53 = some .func := by kernel_rfl
@[go_sem] theorem isRowT_53 : isRowT Try.prog 53 = false := by kernel_rfl
@[go_sem] theorem tSize_54 : tSize Try.prog 54 = some 16 := by kernel_rfl
@[go_sem] theorem tBytes_54 : tBytes Try.prog 54 = some 16 := by kernel_rfl
@[go_sem] theorem tZero_54 : tZero Try.prog 54 = some (.agg #[.bool false, .bool false, .bool false, .bool false, .bool false, .bool false, .bool false, .bool false, .bool false, .bool false, .bool false, .bool false, .bool false, .bool false, .bool false, .bool false]) := by kernel_rfl
@[go_sem] theorem tAgg_54 : tAgg Try.prog 54 = some true := by kernel_rfl
@[go_sem] theorem tKind_54 : tKind Try.prog 54 = some .other := by kernel_rfl
@[go_sem] theorem isRowT_54 : isRowT Try.prog 54 = false := by kernel_rfl
@[go_sem] theorem tArr_54 : tArr Try.prog 54 = some (16, 4) := by kernel_rfl
@[go_sem] theorem tPlaces_54 : tPlaces Try.prog 54 = some [(0, 1), (1, 1), (2, 1), (3, 1), (4, 1), (5, 1), (6, 1), (7, 1), (8, 1), (9, 1), (10, 1), (11, 1), (12, 1), (13, 1), (14, 1), (15, 1)] := by kernel_rfl
@[go_sem] theorem tSize_55 : tSize Try.prog 55 = some 1 := by kernel_rfl
@[go_sem] theorem tBytes_55 : tBytes Try.prog 55 = some 8 := by kernel_rfl
@[go_sem] theorem tZero_55 : tZero Try.prog 55 = some (.nilFunc) := by kernel_rfl
@[go_sem] theorem tAgg_55 : tAgg Try.prog 55 = some false := by kernel_rfl
@[go_sem] theorem tKind_55 : tKind Try.prog 55 = some .func := by kernel_rfl
@[go_sem] theorem isRowT_55 : isRowT Try.prog 55 = false := by kernel_rfl
@[go_sem] theorem tSize_58 : tSize Try.prog 58 = some 0 := by kernel_rfl
@[go_sem] theorem tBytes_58 : tBytes Try.prog 58 = some 0 := by kernel_rfl
@[go_sem] theorem tZero_58 : tZero Try.prog 58 = some (.agg #[]) := by kernel_rfl
@[go_sem] theorem tAgg_58 : tAgg Try.prog 58 = some true := by kernel_rfl
@[go_sem] theorem tKind_58 : tKind Try.prog 58 = some .other := by kernel_rfl
@[go_sem] theorem isRowT_58 : isRowT Try.prog 58 = false := by kernel_rfl
@[go_sem] theorem tArr_58 : tArr Try.prog 58 = some (0, 16) := by kernel_rfl
@[go_sem] theorem tPlaces_58 : tPlaces Try.prog 58 = some [] := by kernel_rfl
@[go_sem] theorem tSize_61 : tSize Try.prog 61 = some 1 := by kernel_rfl
@[go_sem] theorem tBytes_61 : tBytes Try.prog 61 = some 4 := by kernel_rfl
@[go_sem] theorem tZero_61 : tZero Try.prog 61 = some (.int .u32 0) := by kernel_rfl
@[go_sem] theorem tAgg_61 : tAgg Try.prog 61 = some false := by kernel_rfl
@[go_sem] theorem tKind_61 : tKind Try.prog 61 = some (.int .u32) := by kernel_rfl
@[go_sem] theorem isRowT_61 : isRowT Try.prog 61 = false := by kernel_rfl
@[go_sem] theorem tSize_64 : tSize Try.prog 64 = some 1 := by kernel_rfl
@[go_sem] theorem tBytes_64 : tBytes Try.prog 64 = some 8 := by kernel_rfl
@[go_sem] theorem tZero_64 : tZero Try.prog 64 = some (.nilFunc) := by kernel_rfl
@[go_sem] theorem tAgg_64 : tAgg Try.prog 64 = some false := by kernel_rfl
@[go_sem] theorem tKind_64 : tKind Try.prog 64 = some .func := by kernel_rfl
@[go_sem] theorem isRowT_64 : isRowT Try.prog 64 = false := by kernel_rfl
@[go_sem] theorem tSize_65 : tSize Try.prog 65 = some 1 := by kernel_rfl
@[go_sem] theorem tBytes_65 : tBytes Try.prog 65 = some 8 := by kernel_rfl
@[go_sem] theorem tZero_65 : tZero Try.prog 65 = some (.pointer none) := by kernel_rfl
@[go_sem] theorem tAgg_65 : tAgg Try.prog 65 = some false := by kernel_rfl
@[go_sem] theorem tKind_65 : tKind Try.prog 65 = some .pointer := by kernel_rfl
@[go_sem] theorem isRowT_65 : isRowT Try.prog 65 = false := by kernel_rfl
@[go_sem] theorem tSize_70 : tSize Try.prog 70 = some 1 := by kernel_rfl
@[go_sem] theorem tBytes_70 : tBytes Try.prog 70 = some 8 := by kernel_rfl
@[go_sem] theorem tZero_70 : tZero Try.prog 70 = some (.pointer none) := by kernel_rfl
@[go_sem] theorem tAgg_70 : tAgg Try.prog 70 = some false := by kernel_rfl
@[go_sem] theorem tKind_70 : tKind Try.prog 70 = some .other := by kernel_rfl
@[go_sem] theorem isRowT_70 : isRowT Try.prog 70 = false := by kernel_rfl
theorem follows : Try.prog.follows .mixedOrders = true := by kernel_rfl
end Go.Proofs.Ytgmpjbifbnaijaa.I
