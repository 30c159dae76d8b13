/- What the tables of the program say of its types and functions, as equations. Written by tab.py. No condition. -/
import Derived.Test.YtdimnoeldnfikaaISim
import Derived.Test.YtdimnoeldnfikaaProg
namespace Go.Proofs.Ytdimnoeldnfikaa.I
open Go Go.RowKit
set_option linter.unusedVariables false
@[go_sem] theorem tSize_1 : tSize Try.prog 1 = some 1 := by kernel_rfl
@[go_sem] theorem tBytes_1 : tBytes Try.prog 1 = some 8 := by kernel_rfl
@[go_sem] theorem tZero_1 : tZero Try.prog 1 = some (.nilFunc) := by kernel_rfl
@[go_sem] theorem tAgg_1 : tAgg Try.prog 1 = some false := by kernel_rfl
@[go_sem] theorem tKind_1 : tKind Try.prog 1 = some .func := by kernel_rfl
@[go_sem] theorem isRowT_1 : isRowT Try.prog 1 = false := by kernel_rfl
@[go_sem] theorem tSize_2 : tSize Try.prog 2 = some 1 := by kernel_rfl
@[go_sem] theorem tBytes_2 : tBytes Try.prog 2 = some 8 := by kernel_rfl
@[go_sem] theorem tZero_2 : tZero Try.prog 2 = some (.int .i64 0) := by kernel_rfl
@[go_sem] theorem tAgg_2 : tAgg Try.prog 2 = some false := by kernel_rfl
@[go_sem] theorem tKind_2 : tKind Try.prog 2 = some (.int .i64) := by kernel_rfl
@[go_sem] theorem isRowT_2 : isRowT Try.prog 2 = false := by kernel_rfl
@[go_sem] theorem tSize_3 : tSize Try.prog 3 = some 1 := by kernel_rfl
@[go_sem] theorem tBytes_3 : tBytes Try.prog 3 = some 8 := by kernel_rfl
@[go_sem] theorem tZero_3 : tZero Try.prog 3 = some (.int .i64 0) := by kernel_rfl
@[go_sem] theorem tAgg_3 : tAgg Try.prog 3 = some false := by kernel_rfl
@[go_sem] theorem tKind_3 : tKind Try.prog 3 = some (.int .i64) := by kernel_rfl
@[go_sem] theorem isRowT_3 : isRowT Try.prog 3 = false := by kernel_rfl
@[go_sem] theorem tSize_4 : tSize Try.prog 4 = some 1 := by kernel_rfl
@[go_sem] theorem tBytes_4 : tBytes Try.prog 4 = some 1 := by kernel_rfl
@[go_sem] theorem tZero_4 : tZero Try.prog 4 = some (.bool false) := by kernel_rfl
@[go_sem] theorem tAgg_4 : tAgg Try.prog 4 = some false := by kernel_rfl
@[go_sem] theorem tKind_4 : tKind Try.prog 4 = some .bool := by kernel_rfl
@[go_sem] theorem isRowT_4 : isRowT Try.prog 4 = false := by kernel_rfl
@[go_sem] theorem tSize_5 : tSize Try.prog 5 = some 1 := by kernel_rfl
@[go_sem] theorem tBytes_5 : tBytes Try.prog 5 = some 1 := by kernel_rfl
@[go_sem] theorem tZero_5 : tZero Try.prog 5 = some (.int .u8 0) := by kernel_rfl
@[go_sem] theorem tAgg_5 : tAgg Try.prog 5 = some false := by kernel_rfl
@[go_sem] theorem tKind_5 : tKind Try.prog 5 = some (.int .u8) := by kernel_rfl
@[go_sem] theorem isRowT_5 : isRowT Try.prog 5 = false := by kernel_rfl
@[go_sem] theorem tSize_9 : tSize Try.prog 9 = some 1 := by kernel_rfl
@[go_sem] theorem tBytes_9 : tBytes Try.prog 9 = some 16 := by kernel_rfl
@[go_sem] theorem tZero_9 : tZero Try.prog 9 = some (.string ⟨#[]⟩) := by kernel_rfl
@[go_sem] theorem tAgg_9 : tAgg Try.prog 9 = some false := by kernel_rfl
@[go_sem] theorem tKind_9 : tKind Try.prog 9 = some .string := by kernel_rfl
@[go_sem] theorem isRowT_9 : isRowT Try.prog 9 = false := by kernel_rfl
@[go_sem] theorem tSize_12 : tSize Try.prog 12 = some 1 := by kernel_rfl
@[go_sem] theorem tBytes_12 : tBytes Try.prog 12 = some 8 := by kernel_rfl
@[go_sem] theorem tZero_12 : tZero Try.prog 12 = some (.int .u64 0) := by kernel_rfl
@[go_sem] theorem tAgg_12 : tAgg Try.prog 12 = some false := by kernel_rfl
@[go_sem] theorem tKind_12 : tKind Try.prog 12 = some (.int .u64) := by kernel_rfl
@[go_sem] theorem isRowT_12 : isRowT Try.prog 12 = false := by kernel_rfl
@[go_sem] theorem tSize_13 : tSize Try.prog 13 = some 2 := by kernel_rfl
@[go_sem] theorem tBytes_13 : tBytes Try.prog 13 = some 24 := by kernel_rfl
@[go_sem] theorem tZero_13 : tZero Try.prog 13 = some (.agg #[.string ⟨#[]⟩, .int .u64 0]) := by kernel_rfl
@[go_sem] theorem tAgg_13 : tAgg Try.prog 13 = some true := by kernel_rfl
@[go_sem] theorem tKind_13 : tKind Try.prog 13 = some .other := by kernel_rfl
@[go_sem] theorem isRowT_13 : isRowT Try.prog 13 = false := by kernel_rfl
@[go_sem] theorem tField_13_0 : tField Try.prog 13 0 = some (0, 9, 1) := by kernel_rfl
@[go_sem] theorem tField_13_1 : tField Try.prog 13 1 = some (1, 12, 1) := by kernel_rfl
@[go_sem] theorem tPlaces_13 : tPlaces Try.prog 13 = some [(0, 1), (1, 1)] := by kernel_rfl
@[go_sem] theorem tSize_20 : tSize Try.prog 20 = some 1 := by kernel_rfl
@[go_sem] theorem tBytes_20 : tBytes Try.prog 20 = some 16 := by kernel_rfl
@[go_sem] theorem tZero_20 : tZero Try.prog 20 = some (.nilIface) := by kernel_rfl
@[go_sem] theorem tAgg_20 : tAgg Try.prog 20 = some false := by kernel_rfl
@[go_sem] theorem tKind_20 : tKind Try.prog 20 = some .iface := by kernel_rfl
@[go_sem] theorem isRowT_20 : isRowT Try.prog 20 = false := by kernel_rfl
@[go_sem] theorem tSize_21 : tSize Try.prog 21 = some 1 := by kernel_rfl
@[go_sem] theorem tBytes_21 : tBytes Try.prog 21 = some 4 := by kernel_rfl
@[go_sem] theorem tZero_21 : tZero Try.prog 21 = some (.int .i32 0) := by kernel_rfl
@[go_sem] theorem tAgg_21 : tAgg Try.prog 21 = some false := by kernel_rfl
@[go_sem] theorem tKind_21 : tKind Try.prog 21 = some (.int .i32) := by kernel_rfl
@[go_sem] theorem isRowT_21 : isRowT Try.prog 21 = false := by kernel_rfl
@[go_sem] theorem tSize_22 : tSize Try.prog 22 = some 1 := by kernel_rfl
@[go_sem] theorem tBytes_22 : tBytes Try.prog 22 = some 24 := by kernel_rfl
@[go_sem] theorem tZero_22 : tZero Try.prog 22 = some (.slice none 0 0) := by kernel_rfl
@[go_sem] theorem tAgg_22 : tAgg Try.prog 22 = some false := by kernel_rfl
@[go_sem] theorem tKind_22 : tKind Try.prog 22 = some .slice := by kernel_rfl
@[go_sem] theorem isRowT_22 : isRowT Try.prog 22 = true := by kernel_rfl
@[go_sem] theorem isU8_22 : isU8 Try.prog 22 = false := by kernel_rfl
@[go_sem] theorem tElem_22 : tElem Try.prog 22 = some 2 := by kernel_rfl
@[go_sem] theorem tSize_23 : tSize Try.prog 23 = some 1 := by kernel_rfl
@[go_sem] theorem tBytes_23 : tBytes Try.prog 23 = some 8 := by kernel_rfl
@[go_sem] theorem tZero_23 : tZero Try.prog 23 = some (.nilFunc) := by kernel_rfl
@[go_sem] theorem tAgg_23 : tAgg Try.prog 23 = some false := by kernel_rfl
@[go_sem] theorem tKind_23 : tKind Try.prog 23 = some .func := by kernel_rfl
@[go_sem] theorem isRowT_23 : isRowT Try.prog 23 = false := by kernel_rfl
@[go_sem] theorem tSize_24 : tSize Try.prog 24 = some 1 := by kernel_rfl
@[go_sem] theorem tBytes_24 : tBytes Try.prog 24 = some 8 := by kernel_rfl
@[go_sem] theorem tZero_24 : tZero Try.prog 24 = some (.pointer none) := by kernel_rfl
@[go_sem] theorem tAgg_24 : tAgg Try.prog 24 = some false := by kernel_rfl
@[go_sem] theorem tKind_24 : tKind Try.prog 24 = some .pointer := by kernel_rfl
@[go_sem] theorem isRowT_24 : isRowT Try.prog 24 = false := by kernel_rfl
@[go_sem] theorem tSize_25 : tSize Try.prog 25 = some 1 := by kernel_rfl
@[go_sem] theorem tBytes_25 : tBytes Try.prog 25 = some 8 := by kernel_rfl
@[go_sem] theorem tZero_25 : tZero Try.prog 25 = some (.nilFunc) := by kernel_rfl
@[go_sem] theorem tAgg_25 : tAgg Try.prog 25 = some false := by kernel_rfl
@[go_sem] theorem tKind_25 : tKind Try.prog 25 = some .func := by kernel_rfl
@[go_sem] theorem isRowT_25 : isRowT Try.prog 25 = false := by kernel_rfl
@[go_sem] theorem tSize_26 : tSize Try.prog 26 = some 1 := by kernel_rfl
@[go_sem] theorem tBytes_26 : tBytes Try.prog 26 = some 8 := by kernel_rfl
@[go_sem] theorem tZero_26 : tZero Try.prog 26 = some (.nilFunc) := by kernel_rfl
@[go_sem] theorem tAgg_26 : tAgg Try.prog 26 = some false := by kernel_rfl
@[go_sem] theorem tKind_26 : tKind Try.prog 26 = some .func := by kernel_rfl
@[go_sem] theorem isRowT_26 : isRowT Try.prog 26 = false := by kernel_rfl
@[go_sem] theorem tSize_27 : tSize Try.prog 27 = some 1 := by kernel_rfl
@[go_sem] theorem tBytes_27 : tBytes Try.prog 27 = some 24 := by kernel_rfl
@[go_sem] theorem tZero_27 : tZero Try.prog 27 = some (.slice none 0 0) := by kernel_rfl
@[go_sem] theorem tAgg_27 : tAgg Try.prog 27 = some false := by kernel_rfl
@[go_sem] theorem tKind_27 : tKind Try.prog 27 = some .slice := by kernel_rfl
@[go_sem] theorem isRowT_27 : isRowT Try.prog 27 = true := by kernel_rfl
@[go_sem] theorem isU8_27 : isU8 Try.prog 27 = false := by kernel_rfl
@[go_sem] theorem tElem_27 : tElem Try.prog 27 = some 3 := by kernel_rfl
@[go_sem] theorem tSize_28 : tSize Try.prog 28 = some 1 := by kernel_rfl
@[go_sem] theorem tBytes_28 : tBytes Try.prog 28 = some 8 := by kernel_rfl
@[go_sem] theorem tZero_28 : tZero Try.prog 28 = some (.nilFunc) := by kernel_rfl
@[go_sem] theorem tAgg_28 : tAgg Try.prog 28 = some false := by kernel_rfl
@[go_sem] theorem tKind_28 : tKind Try.prog 28 = some .func := by kernel_rfl
@[go_sem] theorem isRowT_28 : isRowT Try.prog 28 = false := by kernel_rfl
@[go_sem] theorem tSize_29 : tSize Try.prog 29 = some 1 := by kernel_rfl
@[go_sem] theorem tBytes_29 : tBytes Try.prog 29 = some 8 := by kernel_rfl
@[go_sem] theorem tZero_29 : tZero Try.prog 29 = some (.nilFunc) := by kernel_rfl
@[go_sem] theorem tAgg_29 : tAgg Try.prog 29 = some false := by kernel_rfl
@[go_sem] theorem tKind_29 : tKind Try.prog 29 = some .func := by kernel_rfl
@[go_sem] theorem isRowT_29 : isRowT Try.prog 29 = false := by kernel_rfl
@[go_sem] theorem tSize_30 : tSize Try.prog 30 = some 1 := by kernel_rfl
@[go_sem] theorem tBytes_30 : tBytes Try.prog 30 = some 8 := by kernel_rfl
@[go_sem] theorem tZero_30 : tZero Try.prog 30 = some (.nilFunc) := by kernel_rfl
@[go_sem] theorem tAgg_30 : tAgg Try.prog 30 = some false := by kernel_rfl
@[go_sem] theorem tKind_30 : tKind Try.prog 30 = some .func := by kernel_rfl
@[go_sem] theorem isRowT_30 : isRowT Try.prog 30 = false := by kernel_rfl
@[go_sem] theorem tSize_31 : tSize Try.prog 31 = some 1 := by kernel_rfl
@[go_sem] theorem tBytes_31 : tBytes Try.prog 31 = some 8 := by kernel_rfl
@[go_sem] theorem tZero_31 : tZero Try.prog 31 = some (.nilFunc) := by kernel_rfl
@[go_sem] theorem tAgg_31 : tAgg Try.prog 31 = some false := by kernel_rfl
@[go_sem] theorem tKind_31 : tKind Try.prog 31 = some .func := by kernel_rfl
@[go_sem] theorem isRowT_31 : isRowT Try.prog 31 = false := by kernel_rfl
@[go_sem] theorem tSize_32 : tSize Try.prog 32 = some 1 := by kernel_rfl
@[go_sem] theorem tBytes_32 : tBytes Try.prog 32 = some 8 := by kernel_rfl
@[go_sem] theorem tZero_32 : tZero Try.prog 32 = some (.nilFunc) := by kernel_rfl
@[go_sem] theorem tAgg_32 : tAgg Try.prog 32 = some false := by kernel_rfl
@[go_sem] theorem tKind_32 : tKind Try.prog 32 = some .func := by kernel_rfl
@[go_sem] theorem isRowT_32 : isRowT Try.prog 32 = false := by kernel_rfl
@[go_sem] theorem tSize_33 : tSize Try.prog 33 = some 1 := by kernel_rfl
@[go_sem] theorem tBytes_33 : tBytes Try.prog 33 = some 4 := by kernel_rfl
@[go_sem] theorem tZero_33 : tZero Try.prog 33 = some (.int .u32 0) := by kernel_rfl
@[go_sem] theorem tAgg_33 : tAgg Try.prog 33 = some false := by kernel_rfl
@[go_sem] theorem tKind_33 : tKind Try.prog 33 = some (.int .u32) := by kernel_rfl
@[go_sem] theorem isRowT_33 : isRowT Try.prog 33 = false := by kernel_rfl
@[go_sem] theorem tSize_34 : tSize Try.prog 34 = some 1 := by kernel_rfl
@[go_sem] theorem tBytes_34 : tBytes Try.prog 34 = some 8 := by kernel_rfl
@[go_sem] theorem tZero_34 : tZero Try.prog 34 = some (.nilFunc) := by kernel_rfl
@[go_sem] theorem tAgg_34 : tAgg Try.prog 34 = some false := by kernel_rfl
@[go_sem] theorem tKind_34 : tKind Try.prog 34 = some .func := by kernel_rfl
@[go_sem] theorem isRowT_34 : isRowT Try.prog 34 = false := by kernel_rfl
@[go_sem] theorem tSize_35 : tSize Try.prog 35 = some 1 := by kernel_rfl
@[go_sem] theorem tBytes_35 : tBytes Try.prog 35 = some 8 := by kernel_rfl
@[go_sem] theorem tZero_35 : tZero Try.prog 35 = some (.nilFunc) := by kernel_rfl
@[go_sem] theorem tAgg_35 : tAgg Try.prog 35 = some false := by kernel_rfl
@[go_sem] theorem tKind_35 : tKind Try.prog 35 = some .func := by kernel_rfl
@[go_sem] theorem isRowT_35 : isRowT Try.prog 35 = false := by kernel_rfl
@[go_sem] theorem tSize_36 : tSize Try.prog 36 = some 1 := by kernel_rfl
@[go_sem] theorem tBytes_36 : tBytes Try.prog 36 = some 24 := by kernel_rfl
@[go_sem] theorem tZero_36 : tZero Try.prog 36 = some (.slice none 0 0) := by kernel_rfl
@[go_sem] theorem tAgg_36 : tAgg Try.prog 36 = some false := by kernel_rfl
@[go_sem] theorem tKind_36 : tKind Try.prog 36 = some .slice := by kernel_rfl
@[go_sem] theorem isRowT_36 : isRowT Try.prog 36 = true := by kernel_rfl
@[go_sem] theorem isU8_36 : isU8 Try.prog 36 = false := by kernel_rfl
@[go_sem] theorem tElem_36 : tElem Try.prog 36 = some 39 := by kernel_rfl
@[go_sem] theorem tSize_37 : tSize Try.prog 37 = some 1 := by kernel_rfl
@[go_sem] theorem tBytes_37 : tBytes Try.prog 37 = some 24 := by kernel_rfl
@[go_sem] theorem tZero_37 : tZero Try.prog 37 = some (.slice none 0 0) := by kernel_rfl
@[go_sem] theorem tAgg_37 : tAgg Try.prog 37 = some false := by kernel_rfl
@[go_sem] theorem tKind_37 : tKind Try.prog 37 = some .slice := by kernel_rfl
@[go_sem] theorem isRowT_37 : isRowT Try.prog 37 = true := by kernel_rfl
@[go_sem] theorem isU8_37 : isU8 Try.prog 37 = false := by kernel_rfl
@[go_sem] theorem tElem_37 : tElem Try.prog 37 = some 97 := by kernel_rfl
@[go_sem] theorem tSize_38 : tSize Try.prog 38 = some 3 := by kernel_rfl
@[go_sem] theorem tBytes_38 : tBytes Try.prog 38 = some 24 := by kernel_rfl
@[go_sem] theorem tZero_38 : tZero Try.prog 38 = some (.agg #[.int .u8 0, .int .i64 0, .int .i64 0]) := by kernel_rfl
@[go_sem] theorem tAgg_38 : tAgg Try.prog 38 = some true := by kernel_rfl
@[go_sem] theorem tKind_38 : tKind Try.prog 38 = some .other := by kernel_rfl
@[go_sem] theorem isRowT_38 : isRowT Try.prog 38 = false := by kernel_rfl
@[go_sem] theorem tField_38_0 : tField Try.prog 38 0 = some (0, 5, 1) := by kernel_rfl
@[go_sem] theorem tField_38_1 : tField Try.prog 38 1 = some (1, 3, 1) := by kernel_rfl
@[go_sem] theorem tField_38_2 : tField Try.prog 38 2 = some (2, 2, 1) := by kernel_rfl
@[go_sem] theorem tPlaces_38 : tPlaces Try.prog 38 = some [(0, 1), (1, 1), (2, 1)] := by kernel_rfl
@[go_sem] theorem tSize_39 : tSize Try.prog 39 = some 3 := by kernel_rfl
@[go_sem] theorem tBytes_39 : tBytes Try.prog 39 = some 24 := by kernel_rfl
@[go_sem] theorem tZero_39 : tZero Try.prog 39 = some (.agg #[.int .u8 0, .int .i64 0, .int .i64 0]) := by kernel_rfl
@[go_sem] theorem tAgg_39 : tAgg Try.prog 39 = some true := by kernel_rfl
@[go_sem] theorem tKind_39 : tKind Try.prog 39 = some .other := by kernel_rfl
@[go_sem] theorem isRowT_39 : isRowT Try.prog 39 = false := by kernel_rfl
@[go_sem] theorem tField_39_0 : tField Try.prog 39 0 = some (0, 5, 1) := by kernel_rfl
@[go_sem] theorem tField_39_1 : tField Try.prog 39 1 = some (1, 3, 1) := by kernel_rfl
@[go_sem] theorem tField_39_2 : tField Try.prog 39 2 = some (2, 2, 1) := by kernel_rfl
@[go_sem] theorem tPlaces_39 : tPlaces Try.prog 39 = some [(0, 1), (1, 1), (2, 1)] := by kernel_rfl
@[go_sem] theorem tSize_40 : tSize Try.prog 40 = some 1 := by kernel_rfl
@[go_sem] theorem tBytes_40 : tBytes Try.prog 40 = some 8 := by kernel_rfl
@[go_sem] theorem tZero_40 : tZero Try.prog 40 = some (.nilFunc) := by kernel_rfl
@[go_sem] theorem tAgg_40 : tAgg Try.prog 40 = some false := by kernel_rfl
@[go_sem] theorem tKind_40 : tKind Try.prog 40 = some .func := by kernel_rfl
@[go_sem] theorem isRowT_40 : isRowT Try.prog 40 = false := by kernel_rfl
@[go_sem] theorem tSize_42 : tSize Try.prog 42 = some 1 := by kernel_rfl
@[go_sem] theorem tBytes_42 : tBytes Try.prog 42 = some 8 := by kernel_rfl
@[go_sem] theorem tZero_42 : tZero Try.prog 42 = some (.nilFunc) := by kernel_rfl
@[go_sem] theorem tAgg_42 : tAgg Try.prog 42 = some false := by kernel_rfl
@[go_sem] theorem tKind_42 : tKind Try.prog 42 = some .func := by kernel_rfl
@[go_sem] theorem isRowT_42 : isRowT Try.prog 42 = false := by kernel_rfl
@[go_sem] theorem tSize_43 : tSize Try.prog 43 = some 1 := by kernel_rfl
@[go_sem] theorem tBytes_43 : tBytes Try.prog 43 = some 8 := by kernel_rfl
@[go_sem] theorem tZero_43 : tZero Try.prog 43 = some (.nilFunc) := by kernel_rfl
@[go_sem] theorem tAgg_43 : tAgg Try.prog 43 = some false := by kernel_rfl
@[go_sem] theorem tKind_43 : tKind Try.prog 43 = some .func := by kernel_rfl
@[go_sem] theorem isRowT_43 : isRowT Try.prog 43 = false := by kernel_rfl
@[go_sem] theorem tSize_45 : tSize Try.prog 45 = some 1 := by kernel_rfl
@[go_sem] theorem tBytes_45 : tBytes Try.prog 45 = some 8 := by kernel_rfl
@[go_sem] theorem tZero_45 : tZero Try.prog 45 = some (.nilFunc) := by kernel_rfl
@[go_sem] theorem tAgg_45 : tAgg Try.prog 45 = some false := by kernel_rfl
@[go_sem] theorem tKind_45 : tKind Try.prog 45 = some .func := by kernel_rfl
@[go_sem] theorem isRowT_45 : isRowT Try.prog 45 = false := by kernel_rfl
@[go_sem] theorem tSize_46 : tSize Try.prog 46 = some 1 := by kernel_rfl
@[go_sem] theorem tBytes_46 : tBytes Try.prog 46 = some 8 := by kernel_rfl
@[go_sem] theorem tZero_46 : tZero Try.prog 46 = some (.nilFunc) := by kernel_rfl
@[go_sem] theorem tAgg_46 : tAgg Try.prog 46 = some false := by kernel_rfl
@[go_sem] theorem tKind_46 : tKind Try.prog 46 = some .func := by kernel_rfl
@[go_sem] theorem isRowT_46 : isRowT Try.prog 46 = false := by kernel_rfl
@[go_sem] theorem tSize_48 : tSize Try.prog 48 = some 1 := by kernel_rfl
@[go_sem] theorem tBytes_48 : tBytes Try.prog 48 = some 8 := by kernel_rfl
@[go_sem] theorem tZero_48 : tZero Try.prog 48 = some (.nilFunc) := by kernel_rfl
@[go_sem] theorem tAgg_48 : tAgg Try.prog 48 = some false := by kernel_rfl
@[go_sem] theorem tKind_48 : tKind Try.prog 48 = some .func := by kernel_rfl
@[go_sem] theorem isRowT_48 : isRowT Try.prog 48 = false := by kernel_rfl
@[go_sem] theorem tSize_49 : tSize Try.prog 49 = some 1 := by kernel_rfl
@[go_sem] theorem tBytes_49 : tBytes Try.prog 49 = some 8 := by kernel_rfl
@[go_sem] theorem tZero_49 : tZero Try.prog 49 = some (.nilFunc) := by kernel_rfl
@[go_sem] theorem tAgg_49 : tAgg Try.prog 49 = some false := by kernel_rfl
@[go_sem] theorem tKind_49 : tKind Try.prog 49 = some .func := by kernel_rfl
@[go_sem] theorem isRowT_49 : isRowT Try.prog 49 = false := by kernel_rfl
@[go_sem] theorem tSize_50 : tSize Try.prog 50 = some 1 := by kernel_rfl
@[go_sem] theorem tBytes_50 : tBytes Try.prog 50 = some 8 := by kernel_rfl
@[go_sem] theorem tZero_50 : tZero Try.prog 50 = some (.nilFunc) := by kernel_rfl
@[go_sem] theorem tAgg_50 : tAgg Try.prog 50 = some false := by kernel_rfl
@[go_sem] theorem tKind_50 : tKind Try.prog 50 = some .func := by kernel_rfl
@[go_sem] theorem isRowT_50 : isRowT Try.prog 50 = false := by kernel_rfl
@[go_sem] theorem tSize_51 : tSize Try.prog 51 = some 1 := by kernel_rfl
@[go_sem] theorem tBytes_51 : tBytes Try.prog 51 = some 8 := by kernel_rfl
@[go_sem] theorem tZero_51 : tZero Try.prog 51 = some (.nilFunc) := by kernel_rfl
@[go_sem] theorem tAgg_51 : tAgg Try.prog 51 = some false := by kernel_rfl
@[go_sem] theorem tKind_51 : tKind Try.prog 51 = some .func := by kernel_rfl
@[go_sem] theorem isRowT_51 : isRowT Try.prog 51 = false := by kernel_rfl
@[go_sem] theorem tSize_52 : tSize Try.prog 52 = some 1 := by kernel_rfl
@[go_sem] theorem tBytes_52 : tBytes Try.prog 52 = some 24 := by kernel_rfl
@[go_sem] theorem tZero_52 : tZero Try.prog 52 = some (.slice none 0 0) := by kernel_rfl
@[go_sem] theorem tAgg_52 : tAgg Try.prog 52 = some false := by kernel_rfl
@[go_sem] theorem tKind_52 : tKind Try.prog 52 = some .slice := by kernel_rfl
@[go_sem] theorem isRowT_52 : isRowT Try.prog 52 = true := by kernel_rfl
@[go_sem] theorem isU8_52 : isU8 Try.prog 52 = false := by kernel_rfl
@[go_sem] theorem tElem_52 : tElem Try.prog 52 = some 99 := by kernel_rfl
@[go_sem] theorem tSize_53 : tSize Try.prog 53 = some 1 := by kernel_rfl
@[go_sem] theorem tBytes_53 : tBytes Try.prog 53 = some 24 := by kernel_rfl
@[go_sem] theorem tZero_53 : tZero Try.prog 53 = some (.slice none 0 0) := by kernel_rfl
@[go_sem] theorem tAgg_53 : tAgg Try.prog 53 = some false := by kernel_rfl
@[go_sem] theorem tKind_53 : tKind Try.prog 53 = some .slice := by kernel_rfl
@[go_sem] theorem isRowT_53 : isRowT Try.prog 53 = true := by kernel_rfl
@[go_sem] theorem isU8_53 : isU8 Try.prog 53 = false := by kernel_rfl
@[go_sem] theorem tElem_53 : tElem Try.prog 53 = some 69 := by kernel_rfl
@[go_sem] theorem tSize_54 : tSize Try.prog 54 = some 1 := by kernel_rfl
@[go_sem] theorem tBytes_54 : tBytes Try.prog 54 = some 24 := by kernel_rfl
@[go_sem] theorem tZero_54 : tZero Try.prog 54 = some (.slice none 0 0) := by kernel_rfl
@[go_sem] theorem tAgg_54 : tAgg Try.prog 54 = some false := by kernel_rfl
@[go_sem] theorem tKind_54 : tKind Try.prog 54 = some .slice := by kernel_rfl
@[go_sem] theorem isRowT_54 : isRowT Try.prog 54 = true := by kernel_rfl
@[go_sem] theorem isU8_54 : isU8 Try.prog 54 = false := by kernel_rfl
@[go_sem] theorem tElem_54 : tElem Try.prog 54 = some 102 := by kernel_rfl
@[go_sem] theorem tSize_56 : tSize Try.prog 56 = some 1 := by kernel_rfl
@[go_sem] theorem tBytes_56 : tBytes Try.prog 56 = some 8 := by kernel_rfl
@[go_sem] theorem tZero_56 : tZero Try.prog 56 = some (.nilFunc) := by kernel_rfl
@[go_sem] theorem tAgg_56 : tAgg Try.prog 56 = some false := by kernel_rfl
@[go_sem] theorem tKind_56 : tKind Try.prog 56 = some .func := by kernel_rfl
@[go_sem] theorem isRowT_56 : isRowT Try.prog 56 = false := by kernel_rfl
@[go_sem] theorem tSize_57 : tSize Try.prog 57 = some 1 := by kernel_rfl
@[go_sem] theorem tBytes_57 : tBytes Try.prog 57 = some 8 := by kernel_rfl
@[go_sem] theorem tZero_57 : tZero Try.prog 57 = some (.nilFunc) := by kernel_rfl
@[go_sem] theorem tAgg_57 : tAgg Try.prog 57 = some false := by kernel_rfl
@[go_sem] theorem tKind_57 : tKind Try.prog 57 = some .func := by kernel_rfl
@[go_sem] theorem isRowT_57 : isRowT Try.prog 57 = false := by kernel_rfl
@[go_sem] theorem tSize_58 : tSize Try.prog 58 = some 1 := by kernel_rfl
@[go_sem] theorem tBytes_58 : tBytes Try.prog 58 = some 24 := by kernel_rfl
@[go_sem] theorem tZero_58 : tZero Try.prog 58 = some (.slice none 0 0) := by kernel_rfl
@[go_sem] theorem tAgg_58 : tAgg Try.prog 58 = some false := by kernel_rfl
@[go_sem] theorem tKind_58 : tKind Try.prog 58 = some .slice := by kernel_rfl
@[go_sem] theorem isRowT_58 : isRowT Try.prog 58 = true := by kernel_rfl
@[go_sem] theorem isU8_58 : isU8 Try.prog 58 = false := by kernel_rfl
@[go_sem] theorem tElem_58 : tElem Try.prog 58 = some 104 := by kernel_rfl
@[go_sem] theorem tSize_59 : tSize Try.prog 59 = some 1 := by kernel_rfl
@[go_sem] theorem tBytes_59 : tBytes Try.prog 59 = some 8 := by kernel_rfl
@[go_sem] theorem tZero_59 : tZero Try.prog 59 = some (.nilFunc) := by kernel_rfl
@[go_sem] theorem tAgg_59 : tAgg Try.prog 59 = some false := by kernel_rfl
@[go_sem] theorem tKind_59 : tKind Try.prog 59 = some .func := by kernel_rfl
@[go_sem] theorem isRowT_59 : isRowT Try.prog 59 = false := by kernel_rfl
@[go_sem] theorem tSize_60 : tSize Try.prog 60 = some 6 := by kernel_rfl
@[go_sem] theorem tBytes_60 : tBytes Try.prog 60 = some 40 := by kernel_rfl
@[go_sem] theorem tZero_60 : tZero Try.prog 60 = some (.agg #[.int .i64 0, .slice none 0 0, .int .u8 0, .bool false, .bool false, .bool false]) := by kernel_rfl
@[go_sem] theorem tAgg_60 : tAgg Try.prog 60 = some true := by kernel_rfl
@[go_sem] theorem tKind_60 : tKind Try.prog 60 = some .other := by kernel_rfl
@[go_sem] theorem isRowT_60 : isRowT Try.prog 60 = false := by kernel_rfl
@[go_sem] theorem tField_60_0 : tField Try.prog 60 0 = some (0, 2, 1) := by kernel_rfl
@[go_sem] theorem tField_60_1 : tField Try.prog 60 1 = some (1, 58, 1) := by kernel_rfl
@[go_sem] theorem tField_60_2 : tField Try.prog 60 2 = some (2, 5, 1) := by kernel_rfl
@[go_sem] theorem tField_60_3 : tField Try.prog 60 3 = some (3, 4, 1) := by kernel_rfl
@[go_sem] theorem tField_60_4 : tField Try.prog 60 4 = some (4, 4, 1) := by kernel_rfl
@[go_sem] theorem tField_60_5 : tField Try.prog 60 5 = some (5, 4, 1) := by kernel_rfl
@[go_sem] theorem tPlaces_60 : tPlaces Try.prog 60 = some [(0, 1), (1, 1), (2, 1), (3, 1), (4, 1), (5, 1)] := by kernel_rfl
@[go_sem] theorem tSize_61 : tSize Try.prog 61 = some 6 := by kernel_rfl
@[go_sem] theorem tBytes_61 : tBytes Try.prog 61 = some 40 := by kernel_rfl
@[go_sem] theorem tZero_61 : tZero Try.prog 61 = some (.agg #[.int .i64 0, .slice none 0 0, .int .u8 0, .bool false, .bool false, .bool false]) := by kernel_rfl
@[go_sem] theorem tAgg_61 : tAgg Try.prog 61 = some true := by kernel_rfl
@[go_sem] theorem tKind_61 : tKind Try.prog 61 = some .other := by kernel_rfl
@[go_sem] theorem isRowT_61 : isRowT Try.prog 61 = false := by kernel_rfl
@[go_sem] theorem tField_61_0 : tField Try.prog 61 0 = some (0, 2, 1) := by kernel_rfl
@[go_sem] theorem tField_61_1 : tField Try.prog 61 1 = some (1, 58, 1) := by kernel_rfl
@[go_sem] theorem tField_61_2 : tField Try.prog 61 2 = some (2, 5, 1) := by kernel_rfl
@[go_sem] theorem tField_61_3 : tField Try.prog 61 3 = some (3, 4, 1) := by kernel_rfl
@[go_sem] theorem tField_61_4 : tField Try.prog 61 4 = some (4, 4, 1) := by kernel_rfl
@[go_sem] theorem tField_61_5 : tField Try.prog 61 5 = some (5, 4, 1) := by kernel_rfl
@[go_sem] theorem tPlaces_61 : tPlaces Try.prog 61 = some [(0, 1), (1, 1), (2, 1), (3, 1), (4, 1), (5, 1)] := by kernel_rfl
@[go_sem] theorem tSize_62 : tSize Try.prog 62 = some 1 := by kernel_rfl
@[go_sem] theorem tBytes_62 : tBytes Try.prog 62 = some 8 := by kernel_rfl
@[go_sem] theorem tZero_62 : tZero Try.prog 62 = some (.nilFunc) := by kernel_rfl
@[go_sem] theorem tAgg_62 : tAgg Try.prog 62 = some false := by kernel_rfl
@[go_sem] theorem tKind_62 : tKind Try.prog 62 = some .func := by kernel_rfl
@[go_sem] theorem isRowT_62 : isRowT Try.prog 62 = false := by kernel_rfl
@[go_sem] theorem tSize_63 : tSize Try.prog 63 = some 1 := by kernel_rfl
@[go_sem] theorem tBytes_63 : tBytes Try.prog 63 = some 8 := by kernel_rfl
@[go_sem] theorem tZero_63 : tZero Try.prog 63 = some (.nilFunc) := by kernel_rfl
@[go_sem] theorem tAgg_63 : tAgg Try.prog 63 = some false := by kernel_rfl
@[go_sem] theorem tKind_63 : tKind Try.prog 63 = some .func := by kernel_rfl
@[go_sem] theorem isRowT_63 : isRowT Try.prog 63 = false := by kernel_rfl
@[go_sem] theorem tSize_64 : tSize Try.prog 64 = some 1 := by kernel_rfl
@[go_sem] theorem tBytes_64 : tBytes Try.prog 64 = some 8 := by kernel_rfl
@[go_sem] theorem tZero_64 : tZero Try.prog 64 = some (.nilFunc) := by kernel_rfl
@[go_sem] theorem tAgg_64 : tAgg Try.prog 64 = some false := by kernel_rfl
@[go_sem] theorem tKind_64 : tKind Try.prog 64 = some .func := by kernel_rfl
@[go_sem] theorem isRowT_64 : isRowT Try.prog 64 = false := by kernel_rfl
@[go_sem] theorem tSize_65 : tSize Try.prog 65 = some 1 := by kernel_rfl
@[go_sem] theorem tBytes_65 : tBytes Try.prog 65 = some 8 := by kernel_rfl
@[go_sem] theorem tZero_65 : tZero Try.prog 65 = some (.nilFunc) := by kernel_rfl
@[go_sem] theorem tAgg_65 : tAgg Try.prog 65 = some false := by kernel_rfl
@[go_sem] theorem tKind_65 : tKind Try.prog 65 = some .func := by kernel_rfl
@[go_sem] theorem isRowT_65 : isRowT Try.prog 65 = false := by kernel_rfl
@[go_sem] theorem tSize_66 : tSize Try.prog 66 = some 5 := by kernel_rfl
@[go_sem] theorem tBytes_66 : tBytes Try.prog 66 = some 24 := by kernel_rfl
@[go_sem] theorem tZero_66 : tZero Try.prog 66 = some (.agg #[.bool false, .bool false, .bool false, .int .i64 0, .int .i64 0]) := by kernel_rfl
@[go_sem] theorem tAgg_66 : tAgg Try.prog 66 = some true := by kernel_rfl
@[go_sem] theorem tKind_66 : tKind Try.prog 66 = some .other := by kernel_rfl
@[go_sem] theorem isRowT_66 : isRowT Try.prog 66 = false := by kernel_rfl
@[go_sem] theorem tField_66_0 : tField Try.prog 66 0 = some (0, 4, 1) := by kernel_rfl
@[go_sem] theorem tField_66_1 : tField Try.prog 66 1 = some (1, 4, 1) := by kernel_rfl
@[go_sem] theorem tField_66_2 : tField Try.prog 66 2 = some (2, 4, 1) := by kernel_rfl
@[go_sem] theorem tField_66_3 : tField Try.prog 66 3 = some (3, 2, 1) := by kernel_rfl
@[go_sem] theorem tField_66_4 : tField Try.prog 66 4 = some (4, 3, 1) := by kernel_rfl
@[go_sem] theorem tPlaces_66 : tPlaces Try.prog 66 = some [(0, 1), (1, 1), (2, 1), (3, 1), (4, 1)] := by kernel_rfl
@[go_sem] theorem tSize_67 : tSize Try.prog 67 = some 5 := by kernel_rfl
@[go_sem] theorem tBytes_67 : tBytes Try.prog 67 = some 24 := by kernel_rfl
@[go_sem] theorem tZero_67 : tZero Try.prog 67 = some (.agg #[.bool false, .bool false, .bool false, .int .i64 0, .int .i64 0]) := by kernel_rfl
@[go_sem] theorem tAgg_67 : tAgg Try.prog 67 = some true := by kernel_rfl
@[go_sem] theorem tKind_67 : tKind Try.prog 67 = some .other := by kernel_rfl
@[go_sem] theorem isRowT_67 : isRowT Try.prog 67 = false := by kernel_rfl
@[go_sem] theorem tField_67_0 : tField Try.prog 67 0 = some (0, 4, 1) := by kernel_rfl
@[go_sem] theorem tField_67_1 : tField Try.prog 67 1 = some (1, 4, 1) := by kernel_rfl
@[go_sem] theorem tField_67_2 : tField Try.prog 67 2 = some (2, 4, 1) := by kernel_rfl
@[go_sem] theorem tField_67_3 : tField Try.prog 67 3 = some (3, 2, 1) := by kernel_rfl
@[go_sem] theorem tField_67_4 : tField Try.prog 67 4 = some (4, 3, 1) := by kernel_rfl
@[go_sem] theorem tPlaces_67 : tPlaces Try.prog 67 = some [(0, 1), (1, 1), (2, 1), (3, 1), (4, 1)] := by kernel_rfl
@[go_sem] theorem tSize_68 : tSize Try.prog 68 = some 7 := by kernel_rfl
@[go_sem] theorem tBytes_68 : tBytes Try.prog 68 = some 40 := by kernel_rfl
@[go_sem] theorem tZero_68 : tZero Try.prog 68 = some (.agg #[.int .i64 0, .int .u8 0, .bool false, .bool false, .bool false, .int .i64 0, .int .i64 0]) := by kernel_rfl
@[go_sem] theorem tAgg_68 : tAgg Try.prog 68 = some true := by kernel_rfl
@[go_sem] theorem tKind_68 : tKind Try.prog 68 = some .other := by kernel_rfl
@[go_sem] theorem isRowT_68 : isRowT Try.prog 68 = false := by kernel_rfl
@[go_sem] theorem tField_68_0 : tField Try.prog 68 0 = some (0, 3, 1) := by kernel_rfl
@[go_sem] theorem tField_68_1 : tField Try.prog 68 1 = some (1, 5, 1) := by kernel_rfl
@[go_sem] theorem tField_68_2 : tField Try.prog 68 2 = some (2, 67, 5) := by kernel_rfl
@[go_sem] theorem tPlaces_68 : tPlaces Try.prog 68 = some [(0, 1), (1, 1), (2, 5)] := by kernel_rfl
@[go_sem] theorem tSize_69 : tSize Try.prog 69 = some 7 := by kernel_rfl
@[go_sem] theorem tBytes_69 : tBytes Try.prog 69 = some 40 := by kernel_rfl
@[go_sem] theorem tZero_69 : tZero Try.prog 69 = some (.agg #[.int .i64 0, .int .u8 0, .bool false, .bool false, .bool false, .int .i64 0, .int .i64 0]) := by kernel_rfl
@[go_sem] theorem tAgg_69 : tAgg Try.prog 69 = some true := by kernel_rfl
@[go_sem] theorem tKind_69 : tKind Try.prog 69 = some .other := by kernel_rfl
@[go_sem] theorem isRowT_69 : isRowT Try.prog 69 = false := by kernel_rfl
@[go_sem] theorem tField_69_0 : tField Try.prog 69 0 = some (0, 3, 1) := by kernel_rfl
@[go_sem] theorem tField_69_1 : tField Try.prog 69 1 = some (1, 5, 1) := by kernel_rfl
@[go_sem] theorem tField_69_2 : tField Try.prog 69 2 = some (2, 67, 5) := by kernel_rfl
@[go_sem] theorem tPlaces_69 : tPlaces Try.prog 69 = some [(0, 1), (1, 1), (2, 5)] := by kernel_rfl
@[go_sem] theorem tSize_70 : tSize Try.prog 70 = some 1 := by kernel_rfl
@[go_sem] theorem tBytes_70 : tBytes Try.prog 70 = some 8 := by kernel_rfl
@[go_sem] theorem tZero_70 : tZero Try.prog 70 = some (.nilFunc) := by kernel_rfl
@[go_sem] theorem tAgg_70 : tAgg Try.prog 70 = some false := by kernel_rfl
@[go_sem] theorem tKind_70 : tKind Try.prog 70 = some .func := by kernel_rfl
@[go_sem] theorem isRowT_70 : isRowT Try.prog 70 = false := by kernel_rfl
@[go_sem] theorem tSize_71 : tSize Try.prog 71 = some 1 := by kernel_rfl
@[go_sem] theorem tBytes_71 : tBytes Try.prog 71 = some 24 := by kernel_rfl
@[go_sem] theorem tZero_71 : tZero Try.prog 71 = some (.slice none 0 0) := by kernel_rfl
@[go_sem] theorem tAgg_71 : tAgg Try.prog 71 = some false := by kernel_rfl
@[go_sem] theorem tKind_71 : tKind Try.prog 71 = some .slice := by kernel_rfl
@[go_sem] theorem isRowT_71 : isRowT Try.prog 71 = true := by kernel_rfl
@[go_sem] theorem isU8_71 : isU8 Try.prog 71 = false := by kernel_rfl
@[go_sem] theorem tElem_71 : tElem Try.prog 71 = some 78 := by kernel_rfl
@[go_sem] theorem tSize_72 : tSize Try.prog 72 = some 1 := by kernel_rfl
@[go_sem] theorem tBytes_72 : tBytes Try.prog 72 = some 2 := by kernel_rfl
@[go_sem] theorem tZero_72 : tZero Try.prog 72 = some (.int .u16 0) := by kernel_rfl
@[go_sem] theorem tAgg_72 : tAgg Try.prog 72 = some false := by kernel_rfl
@[go_sem] theorem tKind_72 : tKind Try.prog 72 = some (.int .u16) := by kernel_rfl
@[go_sem] theorem isRowT_72 : isRowT Try.prog 72 = false := by kernel_rfl
@[go_sem] theorem tSize_73 : tSize Try.prog 73 = some 1 := by kernel_rfl
@[go_sem] theorem tBytes_73 : tBytes Try.prog 73 = some 8 := by kernel_rfl
@[go_sem] theorem tZero_73 : tZero Try.prog 73 = some (.pointer none) := by kernel_rfl
@[go_sem] theorem tAgg_73 : tAgg Try.prog 73 = some false := by kernel_rfl
@[go_sem] theorem tKind_73 : tKind Try.prog 73 = some .pointer := by kernel_rfl
@[go_sem] theorem isRowT_73 : isRowT Try.prog 73 = false := by kernel_rfl
@[go_sem] theorem tSize_74 : tSize Try.prog 74 = some 1 := by kernel_rfl
@[go_sem] theorem tBytes_74 : tBytes Try.prog 74 = some 8 := by kernel_rfl
@[go_sem] theorem tZero_74 : tZero Try.prog 74 = some (.nilFunc) := by kernel_rfl
@[go_sem] theorem tAgg_74 : tAgg Try.prog 74 = some false := by kernel_rfl
@[go_sem] theorem tKind_74 : tKind Try.prog 74 = some .func := by kernel_rfl
@[go_sem] theorem isRowT_74 : isRowT Try.prog 74 = false := by kernel_rfl
@[go_sem] theorem tSize_75 : tSize Try.prog 75 = some 2 := by kernel_rfl
@[go_sem] theorem tBytes_75 : tBytes Try.prog 75 = some 16 := by kernel_rfl
@[go_sem] theorem tZero_75 : tZero Try.prog 75 = some (.agg #[.int .u8 0, .int .i64 0]) := by kernel_rfl
@[go_sem] theorem tAgg_75 : tAgg Try.prog 75 = some true := by kernel_rfl
@[go_sem] theorem tKind_75 : tKind Try.prog 75 = some .other := by kernel_rfl
@[go_sem] theorem isRowT_75 : isRowT Try.prog 75 = false := by kernel_rfl
@[go_sem] theorem tField_75_0 : tField Try.prog 75 0 = some (0, 5, 1) := by kernel_rfl
@[go_sem] theorem tField_75_1 : tField Try.prog 75 1 = some (1, 2, 1) := by kernel_rfl
@[go_sem] theorem tPlaces_75 : tPlaces Try.prog 75 = some [(0, 1), (1, 1)] := by kernel_rfl
@[go_sem] theorem tSize_76 : tSize Try.prog 76 = some 2 := by kernel_rfl
@[go_sem] theorem tBytes_76 : tBytes Try.prog 76 = some 16 := by kernel_rfl
@[go_sem] theorem tZero_76 : tZero Try.prog 76 = some (.agg #[.int .u8 0, .int .i64 0]) := by kernel_rfl
@[go_sem] theorem tAgg_76 : tAgg Try.prog 76 = some true := by kernel_rfl
@[go_sem] theorem tKind_76 : tKind Try.prog 76 = some .other := by kernel_rfl
@[go_sem] theorem isRowT_76 : isRowT Try.prog 76 = false := by kernel_rfl
@[go_sem] theorem tField_76_0 : tField Try.prog 76 0 = some (0, 5, 1) := by kernel_rfl
@[go_sem] theorem tField_76_1 : tField Try.prog 76 1 = some (1, 2, 1) := by kernel_rfl
@[go_sem] theorem tPlaces_76 : tPlaces Try.prog 76 = some [(0, 1), (1, 1)] := by kernel_rfl
@[go_sem] theorem tSize_77 : tSize Try.prog 77 = some 4 := by kernel_rfl
@[go_sem] theorem tBytes_77 : tBytes Try.prog 77 = some 40 := by kernel_rfl
@[go_sem] theorem tZero_77 : tZero Try.prog 77 = some (.agg #[.int .u8 0, .slice none 0 0, .int .u8 0, .int .u8 0]) := by kernel_rfl
@[go_sem] theorem tAgg_77 : tAgg Try.prog 77 = some true := by kernel_rfl
@[go_sem] theorem tKind_77 : tKind Try.prog 77 = some .other := by kernel_rfl
@[go_sem] theorem isRowT_77 : isRowT Try.prog 77 = false := by kernel_rfl
@[go_sem] theorem tField_77_0 : tField Try.prog 77 0 = some (0, 5, 1) := by kernel_rfl
@[go_sem] theorem tField_77_1 : tField Try.prog 77 1 = some (1, 52, 1) := by kernel_rfl
@[go_sem] theorem tField_77_2 : tField Try.prog 77 2 = some (2, 5, 1) := by kernel_rfl
@[go_sem] theorem tField_77_3 : tField Try.prog 77 3 = some (3, 5, 1) := by kernel_rfl
@[go_sem] theorem tPlaces_77 : tPlaces Try.prog 77 = some [(0, 1), (1, 1), (2, 1), (3, 1)] := by kernel_rfl
@[go_sem] theorem tSize_78 : tSize Try.prog 78 = some 4 := by kernel_rfl
@[go_sem] theorem tBytes_78 : tBytes Try.prog 78 = some 40 := by kernel_rfl
@[go_sem] theorem tZero_78 : tZero Try.prog 78 = some (.agg #[.int .u8 0, .slice none 0 0, .int .u8 0, .int .u8 0]) := by kernel_rfl
@[go_sem] theorem tAgg_78 : tAgg Try.prog 78 = some true := by kernel_rfl
@[go_sem] theorem tKind_78 : tKind Try.prog 78 = some .other := by kernel_rfl
@[go_sem] theorem isRowT_78 : isRowT Try.prog 78 = false := by kernel_rfl
@[go_sem] theorem tField_78_0 : tField Try.prog 78 0 = some (0, 5, 1) := by kernel_rfl
@[go_sem] theorem tField_78_1 : tField Try.prog 78 1 = some (1, 52, 1) := by kernel_rfl
@[go_sem] theorem tField_78_2 : tField Try.prog 78 2 = some (2, 5, 1) := by kernel_rfl
@[go_sem] theorem tField_78_3 : tField Try.prog 78 3 = some (3, 5, 1) := by kernel_rfl
@[go_sem] theorem tPlaces_78 : tPlaces Try.prog 78 = some [(0, 1), (1, 1), (2, 1), (3, 1)] := by kernel_rfl
@[go_sem] theorem tSize_79 : tSize Try.prog 79 = some 3 := by kernel_rfl
@[go_sem] theorem tBytes_79 : tBytes Try.prog 79 = some 24 := by kernel_rfl
@[go_sem] theorem tZero_79 : tZero Try.prog 79 = some (.agg #[.int .i64 0, .int .i64 0, .int .u8 0]) := by kernel_rfl
@[go_sem] theorem tAgg_79 : tAgg Try.prog 79 = some true := by kernel_rfl
@[go_sem] theorem tKind_79 : tKind Try.prog 79 = some .other := by kernel_rfl
@[go_sem] theorem isRowT_79 : isRowT Try.prog 79 = false := by kernel_rfl
@[go_sem] theorem tField_79_0 : tField Try.prog 79 0 = some (0, 2, 1) := by kernel_rfl
@[go_sem] theorem tField_79_1 : tField Try.prog 79 1 = some (1, 2, 1) := by kernel_rfl
@[go_sem] theorem tField_79_2 : tField Try.prog 79 2 = some (2, 5, 1) := by kernel_rfl
@[go_sem] theorem tPlaces_79 : tPlaces Try.prog 79 = some [(0, 1), (1, 1), (2, 1)] := by kernel_rfl
@[go_sem] theorem tSize_80 : tSize Try.prog 80 = some 3 := by kernel_rfl
@[go_sem] theorem tBytes_80 : tBytes Try.prog 80 = some 24 := by kernel_rfl
@[go_sem] theorem tZero_80 : tZero Try.prog 80 = some (.agg #[.int .i64 0, .int .i64 0, .int .u8 0]) := by kernel_rfl
@[go_sem] theorem tAgg_80 : tAgg Try.prog 80 = some true := by kernel_rfl
@[go_sem] theorem tKind_80 : tKind Try.prog 80 = some .other := by kernel_rfl
@[go_sem] theorem isRowT_80 : isRowT Try.prog 80 = false := by kernel_rfl
@[go_sem] theorem tField_80_0 : tField Try.prog 80 0 = some (0, 2, 1) := by kernel_rfl
@[go_sem] theorem tField_80_1 : tField Try.prog 80 1 = some (1, 2, 1) := by kernel_rfl
@[go_sem] theorem tField_80_2 : tField Try.prog 80 2 = some (2, 5, 1) := by kernel_rfl
@[go_sem] theorem tPlaces_80 : tPlaces Try.prog 80 = some [(0, 1), (1, 1), (2, 1)] := by kernel_rfl
@[go_sem] theorem tSize_82 : tSize Try.prog 82 = some 1 := by kernel_rfl
@[go_sem] theorem tBytes_82 : tBytes Try.prog 82 = some 8 := by kernel_rfl
@[go_sem] theorem tZero_82 : tZero Try.prog 82 = some (.nilFunc) := by kernel_rfl
@[go_sem] theorem tAgg_82 : tAgg Try.prog 82 = some false := by kernel_rfl
@[go_sem] theorem tKind_82 : tKind Try.prog 82 = some .func := by kernel_rfl
@[go_sem] theorem isRowT_82 : isRowT Try.prog 82 = false := by kernel_rfl
@[go_sem] theorem tSize_83 : tSize Try.prog 83 = some 3 := by kernel_rfl
@[go_sem] theorem tBytes_83 : tBytes Try.prog 83 = some 24 := by kernel_rfl
@[go_sem] theorem tZero_83 : tZero Try.prog 83 = some (.agg #[.int .i64 0, .int .i64 0, .int .u8 0]) := by kernel_rfl
@[go_sem] theorem tAgg_83 : tAgg Try.prog 83 = some true := by kernel_rfl
@[go_sem] theorem tKind_83 : tKind Try.prog 83 = some .other := by kernel_rfl
@[go_sem] theorem isRowT_83 : isRowT Try.prog 83 = false := by kernel_rfl
@[go_sem] theorem tField_83_0 : tField Try.prog 83 0 = some (0, 2, 1) := by kernel_rfl
@[go_sem] theorem tField_83_1 : tField Try.prog 83 1 = some (1, 2, 1) := by kernel_rfl
@[go_sem] theorem tField_83_2 : tField Try.prog 83 2 = some (2, 5, 1) := by kernel_rfl
@[go_sem] theorem tPlaces_83 : tPlaces Try.prog 83 = some [(0, 1), (1, 1), (2, 1)] := by kernel_rfl
@[go_sem] theorem tSize_84 : tSize Try.prog 84 = some 1 := by kernel_rfl
@[go_sem] theorem tBytes_84 : tBytes Try.prog 84 = some 8 := by kernel_rfl
@[go_sem] theorem tZero_84 : tZero Try.prog 84 = some (.nilFunc) := by kernel_rfl
@[go_sem] theorem tAgg_84 : tAgg Try.prog 84 = some false := by kernel_rfl
@[go_sem] theorem tKind_84 : tKind Try.prog 84 = some .func := by kernel_rfl
@[go_sem] theorem isRowT_84 : isRowT Try.prog 84 = false := by kernel_rfl
@[go_sem] theorem tSize_85 : tSize Try.prog 85 = some 1 := by kernel_rfl
@[go_sem] theorem tBytes_85 : tBytes Try.prog 85 = some 8 := by kernel_rfl
@[go_sem] theorem tZero_85 : tZero Try.prog 85 = some (.nilFunc) := by kernel_rfl
@[go_sem] theorem tAgg_85 : tAgg Try.prog 85 = some false := by kernel_rfl
@[go_sem] theorem tKind_85 : tKind Try.prog 85 = some .func := by kernel_rfl
@[go_sem] theorem isRowT_85 : isRowT Try.prog 85 = false := by kernel_rfl
@[go_sem] theorem tSize_86 : tSize Try.prog 86 = some 1 := by kernel_rfl
@[go_sem] theorem tBytes_86 : tBytes Try.prog 86 = some 8 := by kernel_rfl
@[go_sem] theorem tZero_86 : tZero Try.prog 86 = some (.nilFunc) := by kernel_rfl
@[go_sem] theorem tAgg_86 : tAgg Try.prog 86 = some false := by kernel_rfl
@[go_sem] theorem tKind_86 : tKind Try.prog 86 = some .func := by kernel_rfl
@[go_sem] theorem isRowT_86 : isRowT Try.prog 86 = false := by kernel_rfl
@[go_sem] theorem tSize_87 : tSize Try.prog 87 = some 1 := by kernel_rfl
@[go_sem] theorem tBytes_87 : tBytes Try.prog 87 = some 8 := by kernel_rfl
@[go_sem] theorem tZero_87 : tZero Try.prog 87 = some (.nilFunc) := by kernel_rfl
@[go_sem] theorem tAgg_87 : tAgg Try.prog 87 = some false := by kernel_rfl
@[go_sem] theorem tKind_87 : tKind Try.prog 87 = some .func := by kernel_rfl
@[go_sem] theorem isRowT_87 : isRowT Try.prog 87 = false := by kernel_rfl
@[go_sem] theorem tSize_88 : tSize Try.prog 88 = some 1 := by kernel_rfl
@[go_sem] theorem tBytes_88 : tBytes Try.prog 88 = some 8 := by kernel_rfl
@[go_sem] theorem tZero_88 : tZero Try.prog 88 = some (.map none) := by kernel_rfl
@[go_sem] theorem tAgg_88 : tAgg Try.prog 88 = some false := by kernel_rfl
@[go_sem] theorem tKind_88 : tKind Try.prog 88 = some .map := by kernel_rfl
@[go_sem] theorem isRowT_88 : isRowT Try.prog 88 = false := by kernel_rfl
@[go_sem] theorem tSize_89 : tSize Try.prog 89 = some 1 := by kernel_rfl
@[go_sem] theorem tBytes_89 : tBytes Try.prog 89 = some 8 := by kernel_rfl
@[go_sem] theorem tZero_89 : tZero Try.prog 89 = some (.agg #[.map none]) := by kernel_rfl
@[go_sem] theorem tAgg_89 : tAgg Try.prog 89 = some true := by kernel_rfl
@[go_sem] theorem tKind_89 : tKind Try.prog 89 = some .other := by kernel_rfl
@[go_sem] theorem isRowT_89 : isRowT Try.prog 89 = false := by kernel_rfl
@[go_sem] theorem tField_89_0 : tField Try.prog 89 0 = some (0, 88, 1) := by kernel_rfl
@[go_sem] theorem tPlaces_89 : tPlaces Try.prog 89 = some [(0, 1)] := by kernel_rfl
@[go_sem] theorem tSize_90 : tSize Try.prog 90 = some 1 := by kernel_rfl
@[go_sem] theorem tBytes_90 : tBytes Try.prog 90 = some 8 := by kernel_rfl
@[go_sem] theorem tZero_90 : tZero Try.prog 90 = some (.agg #[.map none]) := by kernel_rfl
@[go_sem] theorem tAgg_90 : tAgg Try.prog 90 = some true := by kernel_rfl
@[go_sem] theorem tKind_90 : tKind Try.prog 90 = some .other := by kernel_rfl
@[go_sem] theorem isRowT_90 : isRowT Try.prog 90 = false := by kernel_rfl
@[go_sem] theorem tField_90_0 : tField Try.prog 90 0 = some (0, 88, 1) := by kernel_rfl
@[go_sem] theorem tPlaces_90 : tPlaces Try.prog 90 = some [(0, 1)] := by kernel_rfl
@[go_sem] theorem tSize_91 : tSize Try.prog 91 = some 1 := by kernel_rfl
@[go_sem] theorem tBytes_91 : tBytes Try.prog 91 = some 8 := by kernel_rfl
@[go_sem] theorem tZero_91 : tZero Try.prog 91 = some (.nilFunc) := by kernel_rfl
@[go_sem] theorem tAgg_91 : tAgg Try.prog 91 = some false := by kernel_rfl
@[go_sem] theorem tKind_91 : tKind Try.prog 91 = some .func := by kernel_rfl
@[go_sem] theorem isRowT_91 : isRowT Try.prog 91 = false := by kernel_rfl
@[go_sem] theorem tSize_92 : tSize Try.prog 92 = some 1 := by kernel_rfl
@[go_sem] theorem tBytes_92 : tBytes Try.prog 92 = some 8 := by kernel_rfl
@[go_sem] theorem tZero_92 : tZero Try.prog 92 = some (.nilFunc) := by kernel_rfl
@[go_sem] theorem tAgg_92 : tAgg Try.prog 92 = some false := by kernel_rfl
@[go_sem] theorem tKind_92 : tKind Try.prog 92 = some .func := by kernel_rfl
@[go_sem] theorem isRowT_92 : isRowT Try.prog 92 = false := by kernel_rfl
@[go_sem] theorem tSize_93 : tSize Try.prog 93 = some 1 := by kernel_rfl
@[go_sem] theorem tBytes_93 : tBytes Try.prog 93 = some 8 := by kernel_rfl
@[go_sem] theorem tZero_93 : tZero Try.prog 93 = some (.nilFunc) := by kernel_rfl
@[go_sem] theorem tAgg_93 : tAgg Try.prog 93 = some false := by kernel_rfl
@[go_sem] theorem tKind_93 : tKind Try.prog 93 = some .func := by kernel_rfl
@[go_sem] theorem isRowT_93 : isRowT Try.prog 93 = false := by kernel_rfl
@[go_sem] theorem tSize_94 : tSize Try.prog 94 = some 1 := by kernel_rfl
@[go_sem] theorem tBytes_94 : tBytes Try.prog 94 = some 8 := by kernel_rfl
@[go_sem] theorem tZero_94 : tZero Try.prog 94 = some (.nilFunc) := by kernel_rfl
@[go_sem] theorem tAgg_94 : tAgg Try.prog 94 = some false := by kernel_rfl
@[go_sem] theorem tKind_94 : tKind Try.prog 94 = some .func := by kernel_rfl
@[go_sem] theorem isRowT_94 : isRowT Try.prog 94 = false := by kernel_rfl
@[go_sem] theorem tSize_95 : tSize Try.prog 95 = some 1 := by kernel_rfl
@[go_sem] theorem tBytes_95 : tBytes Try.prog 95 = some 8 := by kernel_rfl
@[go_sem] theorem tZero_95 : tZero Try.prog 95 = some (.nilFunc) := by kernel_rfl
@[go_sem] theorem tAgg_95 : tAgg Try.prog 95 = some false := by kernel_rfl
@[go_sem] theorem tKind_95 : tKind Try.prog 95 = some .func := by kernel_rfl
@[go_sem] theorem isRowT_95 : isRowT Try.prog 95 = false := by kernel_rfl
@[go_sem] theorem tSize_96 : tSize Try.prog 96 = some 2 := by kernel_rfl
@[go_sem] theorem tBytes_96 : tBytes Try.prog 96 = some 16 := by kernel_rfl
@[go_sem] theorem tZero_96 : tZero Try.prog 96 = some (.agg #[.int .i64 0, .int .i64 0]) := by kernel_rfl
@[go_sem] theorem tAgg_96 : tAgg Try.prog 96 = some true := by kernel_rfl
@[go_sem] theorem tKind_96 : tKind Try.prog 96 = some .other := by kernel_rfl
@[go_sem] theorem isRowT_96 : isRowT Try.prog 96 = false := by kernel_rfl
@[go_sem] theorem tField_96_0 : tField Try.prog 96 0 = some (0, 3, 1) := by kernel_rfl
@[go_sem] theorem tField_96_1 : tField Try.prog 96 1 = some (1, 2, 1) := by kernel_rfl
@[go_sem] theorem tPlaces_96 : tPlaces Try.prog 96 = some [(0, 1), (1, 1)] := by kernel_rfl
@[go_sem] theorem tSize_97 : tSize Try.prog 97 = some 2 := by kernel_rfl
@[go_sem] theorem tBytes_97 : tBytes Try.prog 97 = some 16 := by kernel_rfl
@[go_sem] theorem tZero_97 : tZero Try.prog 97 = some (.agg #[.int .i64 0, .int .i64 0]) := by kernel_rfl
@[go_sem] theorem tAgg_97 : tAgg Try.prog 97 = some true := by kernel_rfl
@[go_sem] theorem tKind_97 : tKind Try.prog 97 = some .other := by kernel_rfl
@[go_sem] theorem isRowT_97 : isRowT Try.prog 97 = false := by kernel_rfl
@[go_sem] theorem tField_97_0 : tField Try.prog 97 0 = some (0, 3, 1) := by kernel_rfl
@[go_sem] theorem tField_97_1 : tField Try.prog 97 1 = some (1, 2, 1) := by kernel_rfl
@[go_sem] theorem tPlaces_97 : tPlaces Try.prog 97 = some [(0, 1), (1, 1)] := by kernel_rfl
@[go_sem] theorem tSize_98 : tSize Try.prog 98 = some 4 := by kernel_rfl
@[go_sem] theorem tBytes_98 : tBytes Try.prog 98 = some 6 := by kernel_rfl
@[go_sem] theorem tZero_98 : tZero Try.prog 98 = some (.agg #[.int .u8 0, .int .u8 0, .int .u8 0, .int .u16 0]) := by kernel_rfl
@[go_sem] theorem tAgg_98 : tAgg Try.prog 98 = some true := by kernel_rfl
@[go_sem] theorem tKind_98 : tKind Try.prog 98 = some .other := by kernel_rfl
@[go_sem] theorem isRowT_98 : isRowT Try.prog 98 = false := by kernel_rfl
@[go_sem] theorem tField_98_0 : tField Try.prog 98 0 = some (0, 5, 1) := by kernel_rfl
@[go_sem] theorem tField_98_1 : tField Try.prog 98 1 = some (1, 5, 1) := by kernel_rfl
@[go_sem] theorem tField_98_2 : tField Try.prog 98 2 = some (2, 5, 1) := by kernel_rfl
@[go_sem] theorem tField_98_3 : tField Try.prog 98 3 = some (3, 72, 1) := by kernel_rfl
@[go_sem] theorem tPlaces_98 : tPlaces Try.prog 98 = some [(0, 1), (1, 1), (2, 1), (3, 1)] := by kernel_rfl
@[go_sem] theorem tSize_99 : tSize Try.prog 99 = some 4 := by kernel_rfl
@[go_sem] theorem tBytes_99 : tBytes Try.prog 99 = some 6 := by kernel_rfl
@[go_sem] theorem tZero_99 : tZero Try.prog 99 = some (.agg #[.int .u8 0, .int .u8 0, .int .u8 0, .int .u16 0]) := by kernel_rfl
@[go_sem] theorem tAgg_99 : tAgg Try.prog 99 = some true := by kernel_rfl
@[go_sem] theorem tKind_99 : tKind Try.prog 99 = some .other := by kernel_rfl
@[go_sem] theorem isRowT_99 : isRowT Try.prog 99 = false := by kernel_rfl
@[go_sem] theorem tField_99_0 : tField Try.prog 99 0 = some (0, 5, 1) := by kernel_rfl
@[go_sem] theorem tField_99_1 : tField Try.prog 99 1 = some (1, 5, 1) := by kernel_rfl
@[go_sem] theorem tField_99_2 : tField Try.prog 99 2 = some (2, 5, 1) := by kernel_rfl
@[go_sem] theorem tField_99_3 : tField Try.prog 99 3 = some (3, 72, 1) := by kernel_rfl
@[go_sem] theorem tPlaces_99 : tPlaces Try.prog 99 = some [(0, 1), (1, 1), (2, 1), (3, 1)] := by kernel_rfl
@[go_sem] theorem tSize_100 : tSize Try.prog 100 = some 5 := by kernel_rfl
@[go_sem] theorem tBytes_100 : tBytes Try.prog 100 = some 24 := by kernel_rfl
@[go_sem] theorem tZero_100 : tZero Try.prog 100 = some (.agg #[.bool false, .bool false, .bool false, .int .i64 0, .int .i64 0]) := by kernel_rfl
@[go_sem] theorem tAgg_100 : tAgg Try.prog 100 = some true := by kernel_rfl
@[go_sem] theorem tKind_100 : tKind Try.prog 100 = some .other := by kernel_rfl
@[go_sem] theorem isRowT_100 : isRowT Try.prog 100 = false := by kernel_rfl
@[go_sem] theorem tField_100_0 : tField Try.prog 100 0 = some (0, 4, 1) := by kernel_rfl
@[go_sem] theorem tField_100_1 : tField Try.prog 100 1 = some (1, 4, 1) := by kernel_rfl
@[go_sem] theorem tField_100_2 : tField Try.prog 100 2 = some (2, 4, 1) := by kernel_rfl
@[go_sem] theorem tField_100_3 : tField Try.prog 100 3 = some (3, 2, 1) := by kernel_rfl
@[go_sem] theorem tField_100_4 : tField Try.prog 100 4 = some (4, 3, 1) := by kernel_rfl
@[go_sem] theorem tPlaces_100 : tPlaces Try.prog 100 = some [(0, 1), (1, 1), (2, 1), (3, 1), (4, 1)] := by kernel_rfl
@[go_sem] theorem tSize_101 : tSize Try.prog 101 = some 7 := by kernel_rfl
@[go_sem] theorem tBytes_101 : tBytes Try.prog 101 = some 40 := by kernel_rfl
@[go_sem] theorem tZero_101 : tZero Try.prog 101 = some (.agg #[.int .i64 0, .int .u8 0, .bool false, .bool false, .bool false, .int .i64 0, .int .i64 0]) := by kernel_rfl
@[go_sem] theorem tAgg_101 : tAgg Try.prog 101 = some true := by kernel_rfl
@[go_sem] theorem tKind_101 : tKind Try.prog 101 = some .other := by kernel_rfl
@[go_sem] theorem isRowT_101 : isRowT Try.prog 101 = false := by kernel_rfl
@[go_sem] theorem tField_101_0 : tField Try.prog 101 0 = some (0, 3, 1) := by kernel_rfl
@[go_sem] theorem tField_101_1 : tField Try.prog 101 1 = some (1, 5, 1) := by kernel_rfl
@[go_sem] theorem tField_101_2 : tField Try.prog 101 2 = some (2, 100, 5) := by kernel_rfl
@[go_sem] theorem tPlaces_101 : tPlaces Try.prog 101 = some [(0, 1), (1, 1), (2, 5)] := by kernel_rfl
@[go_sem] theorem tSize_102 : tSize Try.prog 102 = some 7 := by kernel_rfl
@[go_sem] theorem tBytes_102 : tBytes Try.prog 102 = some 40 := by kernel_rfl
@[go_sem] theorem tZero_102 : tZero Try.prog 102 = some (.agg #[.int .i64 0, .int .u8 0, .bool false, .bool false, .bool false, .int .i64 0, .int .i64 0]) := by kernel_rfl
@[go_sem] theorem tAgg_102 : tAgg Try.prog 102 = some true := by kernel_rfl
@[go_sem] theorem tKind_102 : tKind Try.prog 102 = some .other := by kernel_rfl
@[go_sem] theorem isRowT_102 : isRowT Try.prog 102 = false := by kernel_rfl
@[go_sem] theorem tField_102_0 : tField Try.prog 102 0 = some (0, 3, 1) := by kernel_rfl
@[go_sem] theorem tField_102_1 : tField Try.prog 102 1 = some (1, 5, 1) := by kernel_rfl
@[go_sem] theorem tField_102_2 : tField Try.prog 102 2 = some (2, 100, 5) := by kernel_rfl
@[go_sem] theorem tPlaces_102 : tPlaces Try.prog 102 = some [(0, 1), (1, 1), (2, 5)] := by kernel_rfl
@[go_sem] theorem tSize_103 : tSize Try.prog 103 = some 5 := by kernel_rfl
@[go_sem] theorem tBytes_103 : tBytes Try.prog 103 = some 32 := by kernel_rfl
@[go_sem] theorem tZero_103 : tZero Try.prog 103 = some (.agg #[.int .i64 0, .int .u8 0, .int .i64 0, .bool false, .bool false]) := by kernel_rfl
@[go_sem] theorem tAgg_103 : tAgg Try.prog 103 = some true := by kernel_rfl
@[go_sem] theorem tKind_103 : tKind Try.prog 103 = some .other := by kernel_rfl
@[go_sem] theorem isRowT_103 : isRowT Try.prog 103 = false := by kernel_rfl
@[go_sem] theorem tField_103_0 : tField Try.prog 103 0 = some (0, 3, 1) := by kernel_rfl
@[go_sem] theorem tField_103_1 : tField Try.prog 103 1 = some (1, 5, 1) := by kernel_rfl
@[go_sem] theorem tField_103_2 : tField Try.prog 103 2 = some (2, 3, 1) := by kernel_rfl
@[go_sem] theorem tField_103_3 : tField Try.prog 103 3 = some (3, 4, 1) := by kernel_rfl
@[go_sem] theorem tField_103_4 : tField Try.prog 103 4 = some (4, 4, 1) := by kernel_rfl
@[go_sem] theorem tPlaces_103 : tPlaces Try.prog 103 = some [(0, 1), (1, 1), (2, 1), (3, 1), (4, 1)] := by kernel_rfl
@[go_sem] theorem tSize_104 : tSize Try.prog 104 = some 5 := by kernel_rfl
@[go_sem] theorem tBytes_104 : tBytes Try.prog 104 = some 32 := by kernel_rfl
@[go_sem] theorem tZero_104 : tZero Try.prog 104 = some (.agg #[.int .i64 0, .int .u8 0, .int .i64 0, .bool false, .bool false]) := by kernel_rfl
@[go_sem] theorem tAgg_104 : tAgg Try.prog 104 = some true := by kernel_rfl
@[go_sem] theorem tKind_104 : tKind Try.prog 104 = some .other := by kernel_rfl
@[go_sem] theorem isRowT_104 : isRowT Try.prog 104 = false := by kernel_rfl
@[go_sem] theorem tField_104_0 : tField Try.prog 104 0 = some (0, 3, 1) := by kernel_rfl
@[go_sem] theorem tField_104_1 : tField Try.prog 104 1 = some (1, 5, 1) := by kernel_rfl
@[go_sem] theorem tField_104_2 : tField Try.prog 104 2 = some (2, 3, 1) := by kernel_rfl
@[go_sem] theorem tField_104_3 : tField Try.prog 104 3 = some (3, 4, 1) := by kernel_rfl
@[go_sem] theorem tField_104_4 : tField Try.prog 104 4 = some (4, 4, 1) := by kernel_rfl
@[go_sem] theorem tPlaces_104 : tPlaces Try.prog 104 = some [(0, 1), (1, 1), (2, 1), (3, 1), (4, 1)] := by kernel_rfl
@[go_sem] theorem tSize_105 : tSize Try.prog 105 = some 1 := by kernel_rfl
@[go_sem] theorem tBytes_105 : tBytes Try.prog 105 = some 8 := by kernel_rfl
@[go_sem] theorem tZero_105 : tZero Try.prog 105 = some (.nilFunc) := by kernel_rfl
@[go_sem] theorem tAgg_105 : tAgg Try.prog 105 = some false := by kernel_rfl
@[go_sem] theorem tKind_105 : tKind Try.prog 105 = some .func := by kernel_rfl
@[go_sem] theorem isRowT_105 : isRowT Try.prog 105 = false := by kernel_rfl
@[go_sem] theorem tSize_106 : tSize Try.prog 106 = some 1 := by kernel_rfl
@[go_sem] theorem tBytes_106 : tBytes Try.prog 106 = some 8 := by kernel_rfl
@[go_sem] theorem tZero_106 : tZero Try.prog 106 = some (.nilFunc) := by kernel_rfl
@[go_sem] theorem tAgg_106 : tAgg Try.prog 106 = some false := by kernel_rfl
@[go_sem] theorem tKind_106 : tKind Try.prog 106 = some .func := by kernel_rfl
@[go_sem] theorem isRowT_106 : isRowT Try.prog 106 = false := by kernel_rfl
@[go_sem] theorem tSize_107 : tSize Try.prog 107 = some 1 := by kernel_rfl
@[go_sem] theorem tBytes_107 : tBytes Try.prog 107 = some 8 := by kernel_rfl
@[go_sem] theorem tZero_107 : tZero Try.prog 107 = some (.nilFunc) := by kernel_rfl
@[go_sem] theorem tAgg_107 : tAgg Try.prog 107 = some false := by kernel_rfl
@[go_sem] theorem tKind_107 : tKind Try.prog 107 = some .func := by kernel_rfl
@[go_sem] theorem isRowT_107 : isRowT Try.prog 107 = false := by kernel_rfl
@[go_sem] theorem tSize_108 : tSize Try.prog 108 = some 1 := by kernel_rfl
@[go_sem] theorem tBytes_108 : tBytes Try.prog 108 = some 8 := by kernel_rfl
@[go_sem] theorem tZero_108 : tZero Try.prog 108 = some (.nilFunc) := by kernel_rfl
@[go_sem] theorem tAgg_108 : tAgg Try.prog 108 = some false := by kernel_rfl
@[go_sem] theorem tKind_108 : tKind Try.prog 108 = some .func := by kernel_rfl
@[go_sem] theorem isRowT_108 : isRowT Try.prog 108 = false := by kernel_rfl
@[go_sem] theorem tSize_109 : tSize Try.prog 109 = some 1 := by kernel_rfl
@[go_sem] theorem tBytes_109 : tBytes Try.prog 109 = some 8 := by kernel_rfl
@[go_sem] theorem tZero_109 : tZero Try.prog 109 = some (.nilFunc) := by kernel_rfl
@[go_sem] theorem tAgg_109 : tAgg Try.prog 109 = some false := by kernel_rfl
@[go_sem] theorem tKind_109 : tKind Try.prog 109 = some .func := by kernel_rfl
@[go_sem] theorem isRowT_109 : isRowT Try.prog 109 = false := by kernel_rfl
@[go_sem] theorem tSize_110 : tSize Try.prog 110 = some 2 := by kernel_rfl
@[go_sem] theorem tBytes_110 : tBytes Try.prog 110 = some 16 := by kernel_rfl
@[go_sem] theorem tZero_110 : tZero Try.prog 110 = some (.agg #[.int .u8 0, .int .i64 0]) := by kernel_rfl
@[go_sem] theorem tAgg_110 : tAgg Try.prog 110 = some true := by kernel_rfl
@[go_sem] theorem tKind_110 : tKind Try.prog 110 = some .other := by kernel_rfl
@[go_sem] theorem isRowT_110 : isRowT Try.prog 110 = false := by kernel_rfl
@[go_sem] theorem tField_110_0 : tField Try.prog 110 0 = some (0, 5, 1) := by kernel_rfl
@[go_sem] theorem tField_110_1 : tField Try.prog 110 1 = some (1, 2, 1) := by kernel_rfl
@[go_sem] theorem tPlaces_110 : tPlaces Try.prog 110 = some [(0, 1), (1, 1)] := by kernel_rfl
@[go_sem] theorem tSize_111 : tSize Try.prog 111 = some 2 := by kernel_rfl
@[go_sem] theorem tBytes_111 : tBytes Try.prog 111 = some 16 := by kernel_rfl
@[go_sem] theorem tZero_111 : tZero Try.prog 111 = some (.agg #[.int .u8 0, .int .i64 0]) := by kernel_rfl
@[go_sem] theorem tAgg_111 : tAgg Try.prog 111 = some true := by kernel_rfl
@[go_sem] theorem tKind_111 : tKind Try.prog 111 = some .other := by kernel_rfl
@[go_sem] theorem isRowT_111 : isRowT Try.prog 111 = false := by kernel_rfl
@[go_sem] theorem tField_111_0 : tField Try.prog 111 0 = some (0, 5, 1) := by kernel_rfl
@[go_sem] theorem tField_111_1 : tField Try.prog 111 1 = some (1, 2, 1) := by kernel_rfl
@[go_sem] theorem tPlaces_111 : tPlaces Try.prog 111 = some [(0, 1), (1, 1)] := by kernel_rfl
@[go_sem] theorem tSize_112 : tSize Try.prog 112 = some 1 := by kernel_rfl
@[go_sem] theorem tBytes_112 : tBytes Try.prog 112 = some 8 := by kernel_rfl
@[go_sem] theorem tZero_112 : tZero Try.prog 112 = some (.nilFunc) := by kernel_rfl
@[go_sem] theorem tAgg_112 : tAgg Try.prog 112 = some false := by kernel_rfl
@[go_sem] theorem tKind_112 : tKind Try.prog 112 = some .func := by kernel_rfl
@[go_sem] theorem isRowT_112 : isRowT Try.prog 112 = false := by kernel_rfl
@[go_sem] theorem tSize_113 : tSize Try.prog 113 = some 1 := by kernel_rfl
@[go_sem] theorem tBytes_113 : tBytes Try.prog 113 = some 8 := by kernel_rfl
@[go_sem] theorem tZero_113 : tZero Try.prog 113 = some (.nilFunc) := by kernel_rfl
@[go_sem] theorem tAgg_113 : tAgg Try.prog 113 = some false := by kernel_rfl
@[go_sem] theorem tKind_113 : tKind Try.prog 113 = some .func := by kernel_rfl
@[go_sem] theorem isRowT_113 : isRowT Try.prog 113 = false := by kernel_rfl
@[go_sem] theorem tSize_114 : tSize Try.prog 114 = some 1 := by kernel_rfl
@[go_sem] theorem tBytes_114 : tBytes Try.prog 114 = some 8 := by kernel_rfl
@[go_sem] theorem tZero_114 : tZero Try.prog 114 = some (.nilFunc) := by kernel_rfl
@[go_sem] theorem tAgg_114 : tAgg Try.prog 114 = some false := by kernel_rfl
@[go_sem] theorem tKind_114 : tKind Try.prog 114 = some .func := by kernel_rfl
@[go_sem] theorem isRowT_114 : isRowT Try.prog 114 = false := by kernel_rfl
@[go_sem] theorem tSize_115 : tSize Try.prog 115 = some 1 := by kernel_rfl
@[go_sem] theorem tBytes_115 : tBytes Try.prog 115 = some 8 := by kernel_rfl
@[go_sem] theorem tZero_115 : tZero Try.prog 115 = some (.nilFunc) := by kernel_rfl
@[go_sem] theorem tAgg_115 : tAgg Try.prog 115 = some false := by kernel_rfl
@[go_sem] theorem tKind_115 : tKind Try.prog 115 = some .func := by kernel_rfl
@[go_sem] theorem isRowT_115 : isRowT Try.prog 115 = false := by kernel_rfl
@[go_sem] theorem tSize_116 : tSize Try.prog 116 = some 1 := by kernel_rfl
@[go_sem] theorem tBytes_116 : tBytes Try.prog 116 = some 8 := by kernel_rfl
@[go_sem] theorem tZero_116 : tZero Try.prog 116 = some (.int .u64 0) := by kernel_rfl
@[go_sem] theorem tAgg_116 : tAgg Try.prog 116 = some false := by kernel_rfl
@[go_sem] theorem tKind_116 : tKind Try.prog 116 = some (.int .u64) := by kernel_rfl
@[go_sem] theorem isRowT_116 : isRowT Try.prog 116 = false := by kernel_rfl
@[go_sem] theorem tSize_117 : tSize Try.prog 117 = some 1 := by kernel_rfl
@[go_sem] theorem tBytes_117 : tBytes Try.prog 117 = some 8 := by kernel_rfl
@[go_sem] theorem tZero_117 : tZero Try.prog 117 = some (.nilFunc) := by kernel_rfl
@[go_sem] theorem tAgg_117 : tAgg Try.prog 117 = some false := by kernel_rfl
@[go_sem] theorem tKind_117 : tKind Try.prog 117 = some .func := by kernel_rfl
@[go_sem] theorem isRowT_117 : isRowT Try.prog 117 = false := by kernel_rfl
@[go_sem] theorem tSize_118 : tSize Try.prog 118 = some 1 := by kernel_rfl
@[go_sem] theorem tBytes_118 : tBytes Try.prog 118 = some 8 := by kernel_rfl
@[go_sem] theorem tZero_118 : tZero Try.prog 118 = some (.nilFunc) := by kernel_rfl
@[go_sem] theorem tAgg_118 : tAgg Try.prog 118 = some false := by kernel_rfl
@[go_sem] theorem tKind_118 : tKind Try.prog 118 = some .func := by kernel_rfl
@[go_sem] theorem isRowT_118 : isRowT Try.prog 118 = false := by kernel_rfl
@[go_sem] theorem tSize_120 : tSize Try.prog 120 = some 1 := by kernel_rfl
@[go_sem] theorem tBytes_120 : tBytes Try.prog 120 = some 8 := by kernel_rfl
@[go_sem] theorem tZero_120 : tZero Try.prog 120 = some (.nilFunc) := by kernel_rfl
@[go_sem] theorem tAgg_120 : tAgg Try.prog 120 = some false := by kernel_rfl
@[go_sem] theorem tKind_120 : tKind Try.prog 120 = some .func := by kernel_rfl
@[go_sem] theorem isRowT_120 : isRowT Try.prog 120 = false := by kernel_rfl
@[go_sem] theorem tSize_121 : tSize Try.prog 121 = some 1 := by kernel_rfl
@[go_sem] theorem tBytes_121 : tBytes Try.prog 121 = some 8 := by kernel_rfl
@[go_sem] theorem tZero_121 : tZero Try.prog 121 = some (.nilFunc) := by kernel_rfl
@[go_sem] theorem tAgg_121 : tAgg Try.prog 121 = some false := by kernel_rfl
@[go_sem] theorem tKind_121 : tKind Try.prog 121 = some .func := by kernel_rfl
@[go_sem] theorem isRowT_121 : isRowT Try.prog 121 = false := by kernel_rfl
@[go_sem] theorem tSize_122 : tSize Try.prog 122 = some 1 := by kernel_rfl
@[go_sem] theorem tBytes_122 : tBytes Try.prog 122 = some 8 := by kernel_rfl
@[go_sem] theorem tZero_122 : tZero Try.prog 122 = some (.nilFunc) := by kernel_rfl
@[go_sem] theorem tAgg_122 : tAgg Try.prog 122 = some false := by kernel_rfl
@[go_sem] theorem tKind_122 : tKind Try.prog 122 = some .func := by kernel_rfl
@[go_sem] theorem isRowT_122 : isRowT Try.prog 122 = false := by kernel_rfl
@[go_sem] theorem tSize_123 : tSize Try.prog 123 = some 1 := by kernel_rfl
@[go_sem] theorem tBytes_123 : tBytes Try.prog 123 = some 8 := by kernel_rfl
@[go_sem] theorem tZero_123 : tZero Try.prog 123 = some (.nilFunc) := by kernel_rfl
@[go_sem] theorem tAgg_123 : tAgg Try.prog 123 = some false := by kernel_rfl
@[go_sem] theorem tKind_123 : tKind Try.prog 123 = some .func := by kernel_rfl
@[go_sem] theorem isRowT_123 : isRowT Try.prog 123 = false := by kernel_rfl
@[go_sem] theorem tSize_124 : tSize Try.prog 124 = some 1 := by kernel_rfl
@[go_sem] theorem tBytes_124 : tBytes Try.prog 124 = some 8 := by kernel_rfl
@[go_sem] theorem tZero_124 : tZero Try.prog 124 = some (.int .i64 0) := by kernel_rfl
@[go_sem] theorem tAgg_124 : tAgg Try.prog 124 = some false := by kernel_rfl
@[go_sem] theorem tKind_124 : tKind Try.prog 124 = some (.int .i64) := by kernel_rfl
@[go_sem] theorem isRowT_124 : isRowT Try.prog 124 = false := by kernel_rfl
@[go_sem] theorem tSize_126 : tSize Try.prog 126 = some 1 := by kernel_rfl
@[go_sem] theorem tBytes_126 : tBytes Try.prog 126 = some 8 := by kernel_rfl
@[go_sem] theorem tZero_126 : tZero Try.prog 126 = some (.nilFunc) := by kernel_rfl
@[go_sem] theorem tAgg_126 : tAgg Try.prog 126 = some false := by kernel_rfl
@[go_sem] theorem tKind_126 : tKind Try.prog 126 = some .func := by kernel_rfl
@[go_sem] theorem isRowT_126 : isRowT Try.prog 126 = false := by kernel_rfl
@[go_sem] theorem tSize_127 : tSize Try.prog 127 = some 1 := by kernel_rfl
@[go_sem] theorem tBytes_127 : tBytes Try.prog 127 = some 8 := by kernel_rfl
@[go_sem] theorem tZero_127 : tZero Try.prog 127 = some (.nilFunc) := by kernel_rfl
@[go_sem] theorem tAgg_127 : tAgg Try.prog 127 = some false := by kernel_rfl
@[go_sem] theorem tKind_127 : tKind Try.prog 127 = some .func := by kernel_rfl
@[go_sem] theorem isRowT_127 : isRowT Try.prog 127 = false := by kernel_rfl
@[go_sem] theorem tSize_128 : tSize Try.prog 128 = some 1 := by kernel_rfl
@[go_sem] theorem tBytes_128 : tBytes Try.prog 128 = some 8 := by kernel_rfl
@[go_sem] theorem tZero_128 : tZero Try.prog 128 = some (.nilFunc) := by kernel_rfl
@[go_sem] theorem tAgg_128 : tAgg Try.prog 128 = some false := by kernel_rfl
@[go_sem] theorem tKind_128 : tKind Try.prog 128 = some .func := by kernel_rfl
@[go_sem] theorem isRowT_128 : isRowT Try.prog 128 = false := by kernel_rfl
@[go_sem] theorem tSize_130 : tSize Try.prog 130 = some 1 := by kernel_rfl
@[go_sem] theorem tBytes_130 : tBytes Try.prog 130 = some 8 := by kernel_rfl
@[go_sem] theorem tZero_130 : tZero Try.prog 130 = some (.nilFunc) := by kernel_rfl
@[go_sem] theorem tAgg_130 : tAgg Try.prog 130 = some false := by kernel_rfl
@[go_sem] theorem tKind_130 : tKind Try.prog 130 = some .func := by kernel_rfl
@[go_sem] theorem isRowT_130 : isRowT Try.prog 130 = false := by kernel_rfl
@[go_sem] theorem tSize_131 : tSize Try.prog 131 = some 1 := by kernel_rfl
@[go_sem] theorem tBytes_131 : tBytes Try.prog 131 = some 8 := by kernel_rfl
@[go_sem] theorem tZero_131 : tZero Try.prog 131 = some (.nilFunc) := by kernel_rfl
@[go_sem] theorem tAgg_131 : tAgg Try.prog 131 = some false := by kernel_rfl
@[go_sem] theorem tKind_131 : tKind Try.prog 131 = some .func := by kernel_rfl
@[go_sem] theorem isRowT_131 : isRowT Try.prog 131 = false := by kernel_rfl
@[go_sem] theorem tSize_132 : tSize Try.prog 132 = some 1 := by kernel_rfl
@[go_sem] theorem tBytes_132 : tBytes Try.prog 132 = some 8 := by kernel_rfl
@[go_sem] theorem tZero_132 : tZero Try.prog 132 = some (.nilFunc) := by kernel_rfl
@[go_sem] theorem tAgg_132 : tAgg Try.prog 132 = some false := by kernel_rfl
@[go_sem] theorem tKind_132 : tKind Try.prog 132 = some .func := by kernel_rfl
@[go_sem] theorem isRowT_132 : isRowT Try.prog 132 = false := by kernel_rfl
@[go_sem] theorem tSize_133 : tSize Try.prog 133 = some 1 := by kernel_rfl
@[go_sem] theorem tBytes_133 : tBytes Try.prog 133 = some 8 := by kernel_rfl
@[go_sem] theorem tZero_133 : tZero Try.prog 133 = some (.int .u64 0) := by kernel_rfl
@[go_sem] theorem tAgg_133 : tAgg Try.prog 133 = some false := by kernel_rfl
@[go_sem] theorem tKind_133 : tKind Try.prog 133 = some (.int .u64) := by kernel_rfl
@[go_sem] theorem isRowT_133 : isRowT Try.prog 133 = false := by kernel_rfl
@[go_sem] theorem tSize_134 : tSize Try.prog 134 = some 1 := by kernel_rfl
@[go_sem] theorem tBytes_134 : tBytes Try.prog 134 = some 8 := by kernel_rfl
@[go_sem] theorem tZero_134 : tZero Try.prog 134 = some (.nilFunc) := by kernel_rfl
@[go_sem] theorem tAgg_134 : tAgg Try.prog 134 = some false := by kernel_rfl
@[go_sem] theorem tKind_134 : tKind Try.prog 134 = some .func := by kernel_rfl
@[go_sem] theorem isRowT_134 : isRowT Try.prog 134 = false := by kernel_rfl
@[go_sem] theorem tSize_135 : tSize Try.prog 135 = some 1 := by kernel_rfl
@[go_sem] theorem tBytes_135 : tBytes Try.prog 135 = some 8 := by kernel_rfl
@[go_sem] theorem tZero_135 : tZero Try.prog 135 = some (.nilFunc) := by kernel_rfl
@[go_sem] theorem tAgg_135 : tAgg Try.prog 135 = some false := by kernel_rfl
@[go_sem] theorem tKind_135 : tKind Try.prog 135 = some .func := by kernel_rfl
@[go_sem] theorem isRowT_135 : isRowT Try.prog 135 = false := by kernel_rfl
@[go_sem] theorem tSize_136 : tSize Try.prog 136 = some 1 := by kernel_rfl
@[go_sem] theorem tBytes_136 : tBytes Try.prog 136 = some 8 := by kernel_rfl
@[go_sem] theorem tZero_136 : tZero Try.prog 136 = some (.nilFunc) := by kernel_rfl
@[go_sem] theorem tAgg_136 : tAgg Try.prog 136 = some false := by kernel_rfl
@[go_sem] theorem tKind_136 : tKind Try.prog 136 = some .func := by kernel_rfl
@[go_sem] theorem isRowT_136 : isRowT Try.prog 136 = false := by kernel_rfl
@[go_sem] theorem tSize_137 : tSize Try.prog 137 = some 1 := by kernel_rfl
@[go_sem] theorem tBytes_137 : tBytes Try.prog 137 = some 8 := by kernel_rfl
@[go_sem] theorem tZero_137 : tZero Try.prog 137 = some (.nilFunc) := by kernel_rfl
@[go_sem] theorem tAgg_137 : tAgg Try.prog 137 = some false := by kernel_rfl
@[go_sem] theorem tKind_137 : tKind Try.prog 137 = some .func := by kernel_rfl
@[go_sem] theorem isRowT_137 : isRowT Try.prog 137 = false := by kernel_rfl
@[go_sem] theorem tSize_138 : tSize Try.prog 138 = some 1 := by kernel_rfl
@[go_sem] theorem tBytes_138 : tBytes Try.prog 138 = some 8 := by kernel_rfl
@[go_sem] theorem tZero_138 : tZero Try.prog 138 = some (.nilFunc) := by kernel_rfl
@[go_sem] theorem tAgg_138 : tAgg Try.prog 138 = some false := by kernel_rfl
@[go_sem] theorem tKind_138 : tKind Try.prog 138 = some .func := by kernel_rfl
@[go_sem] theorem isRowT_138 : isRowT Try.prog 138 = false := by kernel_rfl
@[go_sem] theorem tSize_139 : tSize Try.prog 139 = some 1 := by kernel_rfl
@[go_sem] theorem tBytes_139 : tBytes Try.prog 139 = some 8 := by kernel_rfl
@[go_sem] theorem tZero_139 : tZero Try.prog 139 = some (.int .u64 0) := by kernel_rfl
@[go_sem] theorem tAgg_139 : tAgg Try.prog 139 = some false := by kernel_rfl
@[go_sem] theorem tKind_139 : tKind Try.prog 139 = some (.int .u64) := by kernel_rfl
@[go_sem] theorem isRowT_139 : isRowT Try.prog 139 = false := by kernel_rfl
@[go_sem] theorem tSize_140 : tSize Try.prog 140 = some 1 := by kernel_rfl
@[go_sem] theorem tBytes_140 : tBytes Try.prog 140 = some 8 := by kernel_rfl
@[go_sem] theorem tZero_140 : tZero Try.prog 140 = some (.nilFunc) := by kernel_rfl
@[go_sem] theorem tAgg_140 : tAgg Try.prog 140 = some false := by kernel_rfl
@[go_sem] theorem tKind_140 : tKind Try.prog 140 = some .func := by kernel_rfl
@[go_sem] theorem isRowT_140 : isRowT Try.prog 140 = false := by kernel_rfl
@[go_sem] theorem tSize_141 : tSize Try.prog 141 = some 1 := by kernel_rfl
@[go_sem] theorem tBytes_141 : tBytes Try.prog 141 = some 8 := by kernel_rfl
@[go_sem] theorem tZero_141 : tZero Try.prog 141 = some (.nilFunc) := by kernel_rfl
@[go_sem] theorem tAgg_141 : tAgg Try.prog 141 = some false := by kernel_rfl
@[go_sem] theorem tKind_141 : tKind Try.prog 141 = some .func := by kernel_rfl
@[go_sem] theorem isRowT_141 : isRowT Try.prog 141 = false := by kernel_rfl
@[go_sem] theorem tSize_142 : tSize Try.prog 142 = some 1 := by kernel_rfl
@[go_sem] theorem tBytes_142 : tBytes Try.prog 142 = some 8 := by kernel_rfl
@[go_sem] theorem tZero_142 : tZero Try.prog 142 = some (.nilFunc) := by kernel_rfl
@[go_sem] theorem tAgg_142 : tAgg Try.prog 142 = some false := by kernel_rfl
@[go_sem] theorem tKind_142 : tKind Try.prog 142 = some .func := by kernel_rfl
@[go_sem] theorem isRowT_142 : isRowT Try.prog 142 = false := by kernel_rfl
@[go_sem] theorem tSize_143 : tSize Try.prog 143 = some 1 := by kernel_rfl
@[go_sem] theorem tBytes_143 : tBytes Try.prog 143 = some 8 := by kernel_rfl
@[go_sem] theorem tZero_143 : tZero Try.prog 143 = some (.pointer none) := by kernel_rfl
@[go_sem] theorem tAgg_143 : tAgg Try.prog 143 = some false := by kernel_rfl
@[go_sem] theorem tKind_143 : tKind Try.prog 143 = some .pointer := by kernel_rfl
@[go_sem] theorem isRowT_143 : isRowT Try.prog 143 = false := by kernel_rfl
@[go_sem] theorem tSize_144 : tSize Try.prog 144 = some 1 := by kernel_rfl
@[go_sem] theorem tBytes_144 : tBytes Try.prog 144 = some 8 := by kernel_rfl
@[go_sem] theorem tZero_144 : tZero Try.prog 144 = some (.nilFunc) := by kernel_rfl
@[go_sem] theorem tAgg_144 : tAgg Try.prog 144 = some false := by kernel_rfl
@[go_sem] theorem tKind_144 : tKind Try.prog 144 = some .func := by kernel_rfl
@[go_sem] theorem isRowT_144 : isRowT Try.prog 144 = false := by kernel_rfl
@[go_sem] theorem tSize_145 : tSize Try.prog 145 = some 1 := by kernel_rfl
@[go_sem] theorem tBytes_145 : tBytes Try.prog 145 = some 8 := by kernel_rfl
@[go_sem] theorem tZero_145 : tZero Try.prog 145 = some (.nilFunc) := by kernel_rfl
@[go_sem] theorem tAgg_145 : tAgg Try.prog 145 = some false := by kernel_rfl
@[go_sem] theorem tKind_145 : tKind Try.prog 145 = some .func := by kernel_rfl
@[go_sem] theorem isRowT_145 : isRowT Try.prog 145 = false := by kernel_rfl
@[go_sem] theorem tSize_146 : tSize Try.prog 146 = some 1 := by kernel_rfl
@[go_sem] theorem tBytes_146 : tBytes Try.prog 146 = some 8 := by kernel_rfl
@[go_sem] theorem tZero_146 : tZero Try.prog 146 = some (.nilFunc) := by kernel_rfl
@[go_sem] theorem tAgg_146 : tAgg Try.prog 146 = some false := by kernel_rfl
@[go_sem] theorem tKind_146 : tKind Try.prog 146 = some .func := by kernel_rfl
@[go_sem] theorem isRowT_146 : isRowT Try.prog 146 = false := by kernel_rfl
@[go_sem] theorem tSize_147 : tSize Try.prog 147 = some 1 := by kernel_rfl
@[go_sem] theorem tBytes_147 : tBytes Try.prog 147 = some 8 := by kernel_rfl
@[go_sem] theorem tZero_147 : tZero Try.prog 147 = some (.pointer none) := by kernel_rfl
@[go_sem] theorem tAgg_147 : tAgg Try.prog 147 = some false := by kernel_rfl
@[go_sem] theorem tKind_147 : tKind Try.prog 147 = some .pointer := by kernel_rfl
@[go_sem] theorem isRowT_147 : isRowT Try.prog 147 = false := by kernel_rfl
@[go_sem] theorem tSize_149 : tSize Try.prog 149 = some 1 := by kernel_rfl
@[go_sem] theorem tBytes_149 : tBytes Try.prog 149 = some 8 := by kernel_rfl
@[go_sem] theorem tZero_149 : tZero Try.prog 149 = some (.nilFunc) := by kernel_rfl
@[go_sem] theorem tAgg_149 : tAgg Try.prog 149 = some false := by kernel_rfl
@[go_sem] theorem tKind_149 : tKind Try.prog 149 = some .func := by kernel_rfl
@[go_sem] theorem isRowT_149 : isRowT Try.prog 149 = false := by kernel_rfl
@[go_sem] theorem tSize_150 : tSize Try.prog 150 = some 1 := by kernel_rfl
@[go_sem] theorem tBytes_150 : tBytes Try.prog 150 = some 8 := by kernel_rfl
@[go_sem] theorem tZero_150 : tZero Try.prog 150 = some (.nilFunc) := by kernel_rfl
@[go_sem] theorem tAgg_150 : tAgg Try.prog 150 = some false := by kernel_rfl
@[go_sem] theorem tKind_150 : tKind Try.prog 150 = some .func := by kernel_rfl
@[go_sem] theorem isRowT_150 : isRowT Try.prog 150 = false := by kernel_rfl
@[go_sem] theorem tSize_151 : tSize Try.prog 151 = some 1 := by kernel_rfl
@[go_sem] theorem tBytes_151 : tBytes Try.prog 151 = some 8 := by kernel_rfl
@[go_sem] theorem tZero_151 : tZero Try.prog 151 = some (.nilFunc) := by kernel_rfl
@[go_sem] theorem tAgg_151 : tAgg Try.prog 151 = some false := by kernel_rfl
@[go_sem] theorem tKind_151 : tKind Try.prog 151 = some .func := by kernel_rfl
@[go_sem] theorem isRowT_151 : isRowT Try.prog 151 = false := by kernel_rfl
@[go_sem] theorem tSize_154 : tSize Try.prog 154 = some 0 := by kernel_rfl
@[go_sem] theorem tBytes_154 : tBytes Try.prog 154 = some 0 := by kernel_rfl
@[go_sem] theorem tZero_154 : tZero Try.prog 154 = some (.agg #[]) := by kernel_rfl
@[go_sem] theorem tAgg_154 : tAgg Try.prog 154 = some true := by kernel_rfl
@[go_sem] theorem tKind_154 : tKind Try.prog 154 = some .other := by kernel_rfl
@[go_sem] theorem isRowT_154 : isRowT Try.prog 154 = false := by kernel_rfl
@[go_sem] theorem tArr_154 : tArr Try.prog 154 = some (0, 16) := by kernel_rfl
@[go_sem] theorem tPlaces_154 : tPlaces Try.prog 154 = some [] := by kernel_rfl
@[go_sem] theorem tSize_159 : tSize Try.prog 159 = some 1 := by kernel_rfl
@[go_sem] theorem tBytes_159 : tBytes Try.prog 159 = some 8 := by kernel_rfl
@[go_sem] theorem tZero_159 : tZero Try.prog 159 = some (.nilFunc) := by kernel_rfl
@[go_sem] theorem tAgg_159 : tAgg Try.prog 159 = some false := by kernel_rfl
@[go_sem] theorem tKind_159 : tKind Try.prog 159 = some .func := by kernel_rfl
@[go_sem] theorem isRowT_159 : isRowT Try.prog 159 = false := by kernel_rfl
@[go_sem] theorem tSize_160 : tSize Try.prog 160 = some 1 := by kernel_rfl
@[go_sem] theorem tBytes_160 : tBytes Try.prog 160 = some 8 := by kernel_rfl
@[go_sem] theorem tZero_160 : tZero Try.prog 160 = some (.pointer none) := by kernel_rfl
@[go_sem] theorem tAgg_160 : tAgg Try.prog 160 = some false := by kernel_rfl
@[go_sem] theorem tKind_160 : tKind Try.prog 160 = some .pointer := by kernel_rfl
@[go_sem] theorem isRowT_160 : isRowT Try.prog 160 = false := by kernel_rfl
@[go_sem] theorem tSize_165 : tSize Try.prog 165 = some 1 := by kernel_rfl
@[go_sem] theorem tBytes_165 : tBytes Try.prog 165 = some 8 := by kernel_rfl
@[go_sem] theorem tZero_165 : tZero Try.prog 165 = some (.pointer none) := by kernel_rfl
@[go_sem] theorem tAgg_165 : tAgg Try.prog 165 = some false := by kernel_rfl
@[go_sem] theorem tKind_165 : tKind Try.prog 165 = some .other := by kernel_rfl
@[go_sem] theorem isRowT_165 : isRowT Try.prog 165 = false := by kernel_rfl
@[go_sem] theorem tEq_39 : tEq Try.prog 39 = some [(0, 5), (1, 3), (2, 2)] := by kernel_rfl
@[go_sem] theorem tEq_67 : tEq Try.prog 67 = some [(0, 4), (1, 4), (2, 4), (3, 2), (4, 3)] := by kernel_rfl
@[go_sem] theorem tEq_76 : tEq Try.prog 76 = some [(0, 5), (1, 2)] := by kernel_rfl
@[go_sem] theorem tEq_80 : tEq Try.prog 80 = some [(0, 2), (1, 2), (2, 5)] := by kernel_rfl
@[go_sem] theorem tEq_83 : tEq Try.prog 83 = some [(0, 2), (1, 2), (2, 5)] := by kernel_rfl
@[go_sem] theorem tEq_97 : tEq Try.prog 97 = some [(0, 3), (1, 2)] := by kernel_rfl
@[go_sem] theorem tEq_99 : tEq Try.prog 99 = some [(0, 5), (1, 5), (2, 5), (3, 72)] := by kernel_rfl
@[go_sem] theorem tEq_100 : tEq Try.prog 100 = some [(0, 4), (1, 4), (2, 4), (3, 2), (4, 3)] := by kernel_rfl
@[go_sem] theorem tEq_104 : tEq Try.prog 104 = some [(0, 3), (1, 5), (2, 3), (3, 4), (4, 4)] := by kernel_rfl
@[go_sem] theorem tEq_110 : tEq Try.prog 110 = some [(0, 5), (1, 2)] := by kernel_rfl
@[go_sem] theorem tEq_111 : tEq Try.prog 111 = some [(0, 5), (1, 2)] := by kernel_rfl
theorem follows : Try.prog.follows .mixedOrders = true := by kernel_rfl
end Go.Proofs.Ytdimnoeldnfikaa.I
