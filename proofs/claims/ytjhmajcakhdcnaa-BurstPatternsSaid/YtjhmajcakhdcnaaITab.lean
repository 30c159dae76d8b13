/- What the tables of the program say of its types and functions, as equations. Written by tab.py. No condition. -/
import Derived.Test.YtjhmajcakhdcnaaISim
import Derived.Test.YtjhmajcakhdcnaaProg
namespace Go.Proofs.Ytjhmajcakhdcnaa.I
open Go Go.RowKit
set_option linter.unusedVariables false
@[go_sem] theorem tSize_1 : tSize Try.prog 1 = some 1 := by kernel_rfl
@[go_sem] theorem tBytes_1 : tBytes Try.prog 1 = some 8 := by kernel_rfl
@[go_sem] theorem tZero_1 : tZero Try.prog 1 = some (.nilFunc) := by kernel_rfl
@[go_sem] theorem tAgg_1 : tAgg Try.prog 1 = some false := by kernel_rfl
@[go_sem] theorem tKind_1 : tKind Try.prog 1 = some .func := by kernel_rfl
@[go_sem] theorem isRowT_1 : isRowT Try.prog 1 = false := by kernel_rfl
@[go_sem] theorem tSize_2 : tSize Try.prog 2 = some 1 := by kernel_rfl
@[go_sem] theorem tBytes_2 : tBytes Try.prog 2 = some 8 := by kernel_rfl
@[go_sem] theorem tZero_2 : tZero Try.prog 2 = some (.int .i64 0) := by kernel_rfl
@[go_sem] theorem tAgg_2 : tAgg Try.prog 2 = some false := by kernel_rfl
@[go_sem] theorem tKind_2 : tKind Try.prog 2 = some (.int .i64) := by kernel_rfl
@[go_sem] theorem isRowT_2 : isRowT Try.prog 2 = false := by kernel_rfl
@[go_sem] theorem tSize_3 : tSize Try.prog 3 = some 1 := by kernel_rfl
@[go_sem] theorem tBytes_3 : tBytes Try.prog 3 = some 8 := by kernel_rfl
@[go_sem] theorem tZero_3 : tZero Try.prog 3 = some (.int .i64 0) := by kernel_rfl
@[go_sem] theorem tAgg_3 : tAgg Try.prog 3 = some false := by kernel_rfl
@[go_sem] theorem tKind_3 : tKind Try.prog 3 = some (.int .i64) := by kernel_rfl
@[go_sem] theorem isRowT_3 : isRowT Try.prog 3 = false := by kernel_rfl
@[go_sem] theorem tSize_4 : tSize Try.prog 4 = some 1 := by kernel_rfl
@[go_sem] theorem tBytes_4 : tBytes Try.prog 4 = some 1 := by kernel_rfl
@[go_sem] theorem tZero_4 : tZero Try.prog 4 = some (.bool false) := by kernel_rfl
@[go_sem] theorem tAgg_4 : tAgg Try.prog 4 = some false := by kernel_rfl
@[go_sem] theorem tKind_4 : tKind Try.prog 4 = some .bool := by kernel_rfl
@[go_sem] theorem isRowT_4 : isRowT Try.prog 4 = false := by kernel_rfl
@[go_sem] theorem tSize_5 : tSize Try.prog 5 = some 1 := by kernel_rfl
@[go_sem] theorem tBytes_5 : tBytes Try.prog 5 = some 1 := by kernel_rfl
@[go_sem] theorem tZero_5 : tZero Try.prog 5 = some (.int .u8 0) := by kernel_rfl
@[go_sem] theorem tAgg_5 : tAgg Try.prog 5 = some false := by kernel_rfl
@[go_sem] theorem tKind_5 : tKind Try.prog 5 = some (.int .u8) := by kernel_rfl
@[go_sem] theorem isRowT_5 : isRowT Try.prog 5 = false := by kernel_rfl
@[go_sem] theorem tSize_9 : tSize Try.prog 9 = some 1 := by kernel_rfl
@[go_sem] theorem tBytes_9 : tBytes Try.prog 9 = some 16 := by kernel_rfl
@[go_sem] theorem tZero_9 : tZero Try.prog 9 = some (.string ⟨#[]⟩) := by kernel_rfl
@[go_sem] theorem tAgg_9 : tAgg Try.prog 9 = some false := by kernel_rfl
@[go_sem] theorem tKind_9 : tKind Try.prog 9 = some .string := by kernel_rfl
@[go_sem] theorem isRowT_9 : isRowT Try.prog 9 = false := by kernel_rfl
@[go_sem] theorem tSize_12 : tSize Try.prog 12 = some 1 := by kernel_rfl
@[go_sem] theorem tBytes_12 : tBytes Try.prog 12 = some 8 := by kernel_rfl
@[go_sem] theorem tZero_12 : tZero Try.prog 12 = some (.int .u64 0) := by kernel_rfl
@[go_sem] theorem tAgg_12 : tAgg Try.prog 12 = some false := by kernel_rfl
@[go_sem] theorem tKind_12 : tKind Try.prog 12 = some (.int .u64) := by kernel_rfl
@[go_sem] theorem isRowT_12 : isRowT Try.prog 12 = false := by kernel_rfl
@[go_sem] theorem tSize_13 : tSize Try.prog 13 = some 2 := by kernel_rfl
@[go_sem] theorem tBytes_13 : tBytes Try.prog 13 = some 24 := by kernel_rfl
@[go_sem] theorem tZero_13 : tZero Try.prog 13 = some (.agg #[.string ⟨#[]⟩, .int .u64 0]) := by kernel_rfl
@[go_sem] theorem tAgg_13 : tAgg Try.prog 13 = some true := by kernel_rfl
@[go_sem] theorem tKind_13 : tKind Try.prog 13 = some .other := by kernel_rfl
@[go_sem] theorem isRowT_13 : isRowT Try.prog 13 = false := by kernel_rfl
@[go_sem] theorem tField_13_0 : tField Try.prog 13 0 = some (0, 9, 1) := by kernel_rfl
@[go_sem] theorem tField_13_1 : tField Try.prog 13 1 = some (1, 12, 1) := by kernel_rfl
@[go_sem] theorem tPlaces_13 : tPlaces Try.prog 13 = some [(0, 1), (1, 1)] := by kernel_rfl
@[go_sem] theorem tSize_20 : tSize Try.prog 20 = some 1 := by kernel_rfl
@[go_sem] theorem tBytes_20 : tBytes Try.prog 20 = some 16 := by kernel_rfl
@[go_sem] theorem tZero_20 : tZero Try.prog 20 = some (.nilIface) := by kernel_rfl
@[go_sem] theorem tAgg_20 : tAgg Try.prog 20 = some false := by kernel_rfl
@[go_sem] theorem tKind_20 : tKind Try.prog 20 = some .iface := by kernel_rfl
@[go_sem] theorem isRowT_20 : isRowT Try.prog 20 = false := by kernel_rfl
@[go_sem] theorem tSize_21 : tSize Try.prog 21 = some 1 := by kernel_rfl
@[go_sem] theorem tBytes_21 : tBytes Try.prog 21 = some 4 := by kernel_rfl
@[go_sem] theorem tZero_21 : tZero Try.prog 21 = some (.int .i32 0) := by kernel_rfl
@[go_sem] theorem tAgg_21 : tAgg Try.prog 21 = some false := by kernel_rfl
@[go_sem] theorem tKind_21 : tKind Try.prog 21 = some (.int .i32) := by kernel_rfl
@[go_sem] theorem isRowT_21 : isRowT Try.prog 21 = false := by kernel_rfl
@[go_sem] theorem tSize_22 : tSize Try.prog 22 = some 1 := by kernel_rfl
@[go_sem] theorem tBytes_22 : tBytes Try.prog 22 = some 8 := by kernel_rfl
@[go_sem] theorem tZero_22 : tZero Try.prog 22 = some (.nilFunc) := by kernel_rfl
@[go_sem] theorem tAgg_22 : tAgg Try.prog 22 = some false := by kernel_rfl
@[go_sem] theorem tKind_22 : tKind Try.prog 22 = some .func := by kernel_rfl
@[go_sem] theorem isRowT_22 : isRowT Try.prog 22 = false := by kernel_rfl
@[go_sem] theorem tSize_23 : tSize Try.prog 23 = some 1 := by kernel_rfl
@[go_sem] theorem tBytes_23 : tBytes Try.prog 23 = some 8 := by kernel_rfl
@[go_sem] theorem tZero_23 : tZero Try.prog 23 = some (.nilFunc) := by kernel_rfl
@[go_sem] theorem tAgg_23 : tAgg Try.prog 23 = some false := by kernel_rfl
@[go_sem] theorem tKind_23 : tKind Try.prog 23 = some .func := by kernel_rfl
@[go_sem] theorem isRowT_23 : isRowT Try.prog 23 = false := by kernel_rfl
@[go_sem] theorem tSize_24 : tSize Try.prog 24 = some 1 := by kernel_rfl
@[go_sem] theorem tBytes_24 : tBytes Try.prog 24 = some 4 := by kernel_rfl
@[go_sem] theorem tZero_24 : tZero Try.prog 24 = some (.int .u32 0) := by kernel_rfl
@[go_sem] theorem tAgg_24 : tAgg Try.prog 24 = some false := by kernel_rfl
@[go_sem] theorem tKind_24 : tKind Try.prog 24 = some (.int .u32) := by kernel_rfl
@[go_sem] theorem isRowT_24 : isRowT Try.prog 24 = false := by kernel_rfl
@[go_sem] theorem tSize_25 : tSize Try.prog 25 = some 1 := by kernel_rfl
@[go_sem] theorem tBytes_25 : tBytes Try.prog 25 = some 8 := by kernel_rfl
@[go_sem] theorem tZero_25 : tZero Try.prog 25 = some (.nilFunc) := by kernel_rfl
@[go_sem] theorem tAgg_25 : tAgg Try.prog 25 = some false := by kernel_rfl
@[go_sem] theorem tKind_25 : tKind Try.prog 25 = some .func := by kernel_rfl
@[go_sem] theorem isRowT_25 : isRowT Try.prog 25 = false := by kernel_rfl
@[go_sem] theorem tSize_26 : tSize Try.prog 26 = some 1 := by kernel_rfl
@[go_sem] theorem tBytes_26 : tBytes Try.prog 26 = some 8 := by kernel_rfl
@[go_sem] theorem tZero_26 : tZero Try.prog 26 = some (.nilFunc) := by kernel_rfl
@[go_sem] theorem tAgg_26 : tAgg Try.prog 26 = some false := by kernel_rfl
@[go_sem] theorem tKind_26 : tKind Try.prog 26 = some .func := by kernel_rfl
@[go_sem] theorem isRowT_26 : isRowT Try.prog 26 = false := by kernel_rfl
@[go_sem] theorem tSize_27 : tSize Try.prog 27 = some 1 := by kernel_rfl
@[go_sem] theorem tBytes_27 : tBytes Try.prog 27 = some 24 := by kernel_rfl
@[go_sem] theorem tZero_27 : tZero Try.prog 27 = some (.slice none 0 0) := by kernel_rfl
@[go_sem] theorem tAgg_27 : tAgg Try.prog 27 = some false := by kernel_rfl
@[go_sem] theorem tKind_27 : tKind Try.prog 27 = some .slice := by kernel_rfl
@[go_sem] theorem isRowT_27 : isRowT Try.prog 27 = true := by kernel_rfl
@[go_sem] theorem isU8_27 : isU8 Try.prog 27 = false := by kernel_rfl
@[go_sem] theorem tElem_27 : tElem Try.prog 27 = some 31 := by kernel_rfl
@[go_sem] theorem tSize_28 : tSize Try.prog 28 = some 1 := by kernel_rfl
@[go_sem] theorem tBytes_28 : tBytes Try.prog 28 = some 8 := by kernel_rfl
@[go_sem] theorem tZero_28 : tZero Try.prog 28 = some (.pointer none) := by kernel_rfl
@[go_sem] theorem tAgg_28 : tAgg Try.prog 28 = some false := by kernel_rfl
@[go_sem] theorem tKind_28 : tKind Try.prog 28 = some .pointer := by kernel_rfl
@[go_sem] theorem isRowT_28 : isRowT Try.prog 28 = false := by kernel_rfl
@[go_sem] theorem tSize_29 : tSize Try.prog 29 = some 1 := by kernel_rfl
@[go_sem] theorem tBytes_29 : tBytes Try.prog 29 = some 8 := by kernel_rfl
@[go_sem] theorem tZero_29 : tZero Try.prog 29 = some (.nilFunc) := by kernel_rfl
@[go_sem] theorem tAgg_29 : tAgg Try.prog 29 = some false := by kernel_rfl
@[go_sem] theorem tKind_29 : tKind Try.prog 29 = some .func := by kernel_rfl
@[go_sem] theorem isRowT_29 : isRowT Try.prog 29 = false := by kernel_rfl
@[go_sem] theorem tSize_30 : tSize Try.prog 30 = some 4 := by kernel_rfl
@[go_sem] theorem tBytes_30 : tBytes Try.prog 30 = some 32 := by kernel_rfl
@[go_sem] theorem tZero_30 : tZero Try.prog 30 = some (.agg #[.int .i64 0, .int .u8 0, .int .i64 0, .bool false]) := by kernel_rfl
@[go_sem] theorem tAgg_30 : tAgg Try.prog 30 = some true := by kernel_rfl
@[go_sem] theorem tKind_30 : tKind Try.prog 30 = some .other := by kernel_rfl
@[go_sem] theorem isRowT_30 : isRowT Try.prog 30 = false := by kernel_rfl
@[go_sem] theorem tField_30_0 : tField Try.prog 30 0 = some (0, 3, 1) := by kernel_rfl
@[go_sem] theorem tField_30_1 : tField Try.prog 30 1 = some (1, 5, 1) := by kernel_rfl
@[go_sem] theorem tField_30_2 : tField Try.prog 30 2 = some (2, 3, 1) := by kernel_rfl
@[go_sem] theorem tField_30_3 : tField Try.prog 30 3 = some (3, 4, 1) := by kernel_rfl
@[go_sem] theorem tPlaces_30 : tPlaces Try.prog 30 = some [(0, 1), (1, 1), (2, 1), (3, 1)] := by kernel_rfl
@[go_sem] theorem tSize_31 : tSize Try.prog 31 = some 4 := by kernel_rfl
@[go_sem] theorem tBytes_31 : tBytes Try.prog 31 = some 32 := by kernel_rfl
@[go_sem] theorem tZero_31 : tZero Try.prog 31 = some (.agg #[.int .i64 0, .int .u8 0, .int .i64 0, .bool false]) := by kernel_rfl
@[go_sem] theorem tAgg_31 : tAgg Try.prog 31 = some true := by kernel_rfl
@[go_sem] theorem tKind_31 : tKind Try.prog 31 = some .other := by kernel_rfl
@[go_sem] theorem isRowT_31 : isRowT Try.prog 31 = false := by kernel_rfl
@[go_sem] theorem tField_31_0 : tField Try.prog 31 0 = some (0, 3, 1) := by kernel_rfl
@[go_sem] theorem tField_31_1 : tField Try.prog 31 1 = some (1, 5, 1) := by kernel_rfl
@[go_sem] theorem tField_31_2 : tField Try.prog 31 2 = some (2, 3, 1) := by kernel_rfl
@[go_sem] theorem tField_31_3 : tField Try.prog 31 3 = some (3, 4, 1) := by kernel_rfl
@[go_sem] theorem tPlaces_31 : tPlaces Try.prog 31 = some [(0, 1), (1, 1), (2, 1), (3, 1)] := by kernel_rfl
@[go_sem] theorem tSize_32 : tSize Try.prog 32 = some 1 := by kernel_rfl
@[go_sem] theorem tBytes_32 : tBytes Try.prog 32 = some 8 := by kernel_rfl
@[go_sem] theorem tZero_32 : tZero Try.prog 32 = some (.int .u64 0) := by kernel_rfl
@[go_sem] theorem tAgg_32 : tAgg Try.prog 32 = some false := by kernel_rfl
@[go_sem] theorem tKind_32 : tKind Try.prog 32 = some (.int .u64) := by kernel_rfl
@[go_sem] theorem isRowT_32 : isRowT Try.prog 32 = false := by kernel_rfl
@[go_sem] theorem tSize_34 : tSize Try.prog 34 = some 1 := by kernel_rfl
@[go_sem] theorem tBytes_34 : tBytes Try.prog 34 = some 8 := by kernel_rfl
@[go_sem] theorem tZero_34 : tZero Try.prog 34 = some (.nilFunc) := by kernel_rfl
@[go_sem] theorem tAgg_34 : tAgg Try.prog 34 = some false := by kernel_rfl
@[go_sem] theorem tKind_34 : tKind Try.prog 34 = some .func := by kernel_rfl
@[go_sem] theorem isRowT_34 : isRowT Try.prog 34 = false := by kernel_rfl
@[go_sem] theorem tSize_35 : tSize Try.prog 35 = some 1 := by kernel_rfl
@[go_sem] theorem tBytes_35 : tBytes Try.prog 35 = some 8 := by kernel_rfl
@[go_sem] theorem tZero_35 : tZero Try.prog 35 = some (.nilFunc) := by kernel_rfl
@[go_sem] theorem tAgg_35 : tAgg Try.prog 35 = some false := by kernel_rfl
@[go_sem] theorem tKind_35 : tKind Try.prog 35 = some .func := by kernel_rfl
@[go_sem] theorem isRowT_35 : isRowT Try.prog 35 = false := by kernel_rfl
@[go_sem] theorem tSize_37 : tSize Try.prog 37 = some 1 := by kernel_rfl
@[go_sem] theorem tBytes_37 : tBytes Try.prog 37 = some 8 := by kernel_rfl
@[go_sem] theorem tZero_37 : tZero Try.prog 37 = some (.nilFunc) := by kernel_rfl
@[go_sem] theorem tAgg_37 : tAgg Try.prog 37 = some false := by kernel_rfl
@[go_sem] theorem tKind_37 : tKind Try.prog 37 = some .func := by kernel_rfl
@[go_sem] theorem isRowT_37 : isRowT Try.prog 37 = false := by kernel_rfl
@[go_sem] theorem tSize_38 : tSize Try.prog 38 = some 1 := by kernel_rfl
@[go_sem] theorem tBytes_38 : tBytes Try.prog 38 = some 8 := by kernel_rfl
@[go_sem] theorem tZero_38 : tZero Try.prog 38 = some (.nilFunc) := by kernel_rfl
@[go_sem] theorem tAgg_38 : tAgg Try.prog 38 = some false := by kernel_rfl
@[go_sem] theorem tKind_38 : tKind Try.prog 38 = some .func := by kernel_rfl
@[go_sem] theorem isRowT_38 : isRowT Try.prog 38 = false := by kernel_rfl
@[go_sem] theorem tSize_39 : tSize Try.prog 39 = some 1 := by kernel_rfl
@[go_sem] theorem tBytes_39 : tBytes Try.prog 39 = some 8 := by kernel_rfl
@[go_sem] theorem tZero_39 : tZero Try.prog 39 = some (.nilFunc) := by kernel_rfl
@[go_sem] theorem tAgg_39 : tAgg Try.prog 39 = some false := by kernel_rfl
@[go_sem] theorem tKind_39 : tKind Try.prog 39 = some .func := by kernel_rfl
@[go_sem] theorem isRowT_39 : isRowT Try.prog 39 = false := by kernel_rfl
@[go_sem] theorem tSize_40 : tSize Try.prog 40 = some 1 := by kernel_rfl
@[go_sem] theorem tBytes_40 : tBytes Try.prog 40 = some 2 := by kernel_rfl
@[go_sem] theorem tZero_40 : tZero Try.prog 40 = some (.int .u16 0) := by kernel_rfl
@[go_sem] theorem tAgg_40 : tAgg Try.prog 40 = some false := by kernel_rfl
@[go_sem] theorem tKind_40 : tKind Try.prog 40 = some (.int .u16) := by kernel_rfl
@[go_sem] theorem isRowT_40 : isRowT Try.prog 40 = false := by kernel_rfl
@[go_sem] theorem tSize_41 : tSize Try.prog 41 = some 1 := by kernel_rfl
@[go_sem] theorem tBytes_41 : tBytes Try.prog 41 = some 8 := by kernel_rfl
@[go_sem] theorem tZero_41 : tZero Try.prog 41 = some (.nilFunc) := by kernel_rfl
@[go_sem] theorem tAgg_41 : tAgg Try.prog 41 = some false := by kernel_rfl
@[go_sem] theorem tKind_41 : tKind Try.prog 41 = some .func := by kernel_rfl
@[go_sem] theorem isRowT_41 : isRowT Try.prog 41 = false := by kernel_rfl
@[go_sem] theorem tSize_42 : tSize Try.prog 42 = some 1 := by kernel_rfl
@[go_sem] theorem tBytes_42 : tBytes Try.prog 42 = some 8 := by kernel_rfl
@[go_sem] theorem tZero_42 : tZero Try.prog 42 = some (.nilFunc) := by kernel_rfl
@[go_sem] theorem tAgg_42 : tAgg Try.prog 42 = some false := by kernel_rfl
@[go_sem] theorem tKind_42 : tKind Try.prog 42 = some .func := by kernel_rfl
@[go_sem] theorem isRowT_42 : isRowT Try.prog 42 = false := by kernel_rfl
@[go_sem] theorem tSize_43 : tSize Try.prog 43 = some 1 := by kernel_rfl
@[go_sem] theorem tBytes_43 : tBytes Try.prog 43 = some 24 := by kernel_rfl
@[go_sem] theorem tZero_43 : tZero Try.prog 43 = some (.slice none 0 0) := by kernel_rfl
@[go_sem] theorem tAgg_43 : tAgg Try.prog 43 = some false := by kernel_rfl
@[go_sem] theorem tKind_43 : tKind Try.prog 43 = some .slice := by kernel_rfl
@[go_sem] theorem isRowT_43 : isRowT Try.prog 43 = true := by kernel_rfl
@[go_sem] theorem isU8_43 : isU8 Try.prog 43 = true := by kernel_rfl
@[go_sem] theorem tElem_43 : tElem Try.prog 43 = some 5 := by kernel_rfl
@[go_sem] theorem tSize_44 : tSize Try.prog 44 = some 1 := by kernel_rfl
@[go_sem] theorem tBytes_44 : tBytes Try.prog 44 = some 8 := by kernel_rfl
@[go_sem] theorem tZero_44 : tZero Try.prog 44 = some (.nilFunc) := by kernel_rfl
@[go_sem] theorem tAgg_44 : tAgg Try.prog 44 = some false := by kernel_rfl
@[go_sem] theorem tKind_44 : tKind Try.prog 44 = some .func := by kernel_rfl
@[go_sem] theorem isRowT_44 : isRowT Try.prog 44 = false := by kernel_rfl
@[go_sem] theorem tSize_45 : tSize Try.prog 45 = some 1 := by kernel_rfl
@[go_sem] theorem tBytes_45 : tBytes Try.prog 45 = some 8 := by kernel_rfl
@[go_sem] theorem tZero_45 : tZero Try.prog 45 = some (.nilFunc) := by kernel_rfl
@[go_sem] theorem tAgg_45 : tAgg Try.prog 45 = some false := by kernel_rfl
@[go_sem] theorem tKind_45 : tKind Try.prog 45 = some .func := by kernel_rfl
@[go_sem] theorem isRowT_45 : isRowT Try.prog 45 = false := by kernel_rfl
@[go_sem] theorem tSize_46 : tSize Try.prog 46 = some 1 := by kernel_rfl
@[go_sem] theorem tBytes_46 : tBytes Try.prog 46 = some 24 := by kernel_rfl
@[go_sem] theorem tZero_46 : tZero Try.prog 46 = some (.slice none 0 0) := by kernel_rfl
@[go_sem] theorem tAgg_46 : tAgg Try.prog 46 = some false := by kernel_rfl
@[go_sem] theorem tKind_46 : tKind Try.prog 46 = some .slice := by kernel_rfl
@[go_sem] theorem isRowT_46 : isRowT Try.prog 46 = true := by kernel_rfl
@[go_sem] theorem isU8_46 : isU8 Try.prog 46 = false := by kernel_rfl
@[go_sem] theorem tElem_46 : tElem Try.prog 46 = some 53 := by kernel_rfl
@[go_sem] theorem tSize_47 : tSize Try.prog 47 = some 1 := by kernel_rfl
@[go_sem] theorem tBytes_47 : tBytes Try.prog 47 = some 8 := by kernel_rfl
@[go_sem] theorem tZero_47 : tZero Try.prog 47 = some (.nilFunc) := by kernel_rfl
@[go_sem] theorem tAgg_47 : tAgg Try.prog 47 = some false := by kernel_rfl
@[go_sem] theorem tKind_47 : tKind Try.prog 47 = some .func := by kernel_rfl
@[go_sem] theorem isRowT_47 : isRowT Try.prog 47 = false := by kernel_rfl
@[go_sem] theorem tSize_48 : tSize Try.prog 48 = some 1 := by kernel_rfl
@[go_sem] theorem tBytes_48 : tBytes Try.prog 48 = some 8 := by kernel_rfl
@[go_sem] theorem tZero_48 : tZero Try.prog 48 = some (.int .i64 0) := by kernel_rfl
@[go_sem] theorem tAgg_48 : tAgg Try.prog 48 = some false := by kernel_rfl
@[go_sem] theorem tKind_48 : tKind Try.prog 48 = some (.int .i64) := by kernel_rfl
@[go_sem] theorem isRowT_48 : isRowT Try.prog 48 = false := by kernel_rfl
@[go_sem] theorem tSize_50 : tSize Try.prog 50 = some 1 := by kernel_rfl
@[go_sem] theorem tBytes_50 : tBytes Try.prog 50 = some 8 := by kernel_rfl
@[go_sem] theorem tZero_50 : tZero Try.prog 50 = some (.nilFunc) := by kernel_rfl
@[go_sem] theorem tAgg_50 : tAgg Try.prog 50 = some false := by kernel_rfl
@[go_sem] theorem tKind_50 : tKind Try.prog 50 = some .func := by kernel_rfl
@[go_sem] theorem isRowT_50 : isRowT Try.prog 50 = false := by kernel_rfl
@[go_sem] theorem tSize_51 : tSize Try.prog 51 = some 1 := by kernel_rfl
@[go_sem] theorem tBytes_51 : tBytes Try.prog 51 = some 8 := by kernel_rfl
@[go_sem] theorem tZero_51 : tZero Try.prog 51 = some (.nilFunc) := by kernel_rfl
@[go_sem] theorem tAgg_51 : tAgg Try.prog 51 = some false := by kernel_rfl
@[go_sem] theorem tKind_51 : tKind Try.prog 51 = some .func := by kernel_rfl
@[go_sem] theorem isRowT_51 : isRowT Try.prog 51 = false := by kernel_rfl
@[go_sem] theorem tSize_52 : tSize Try.prog 52 = some 2 := by kernel_rfl
@[go_sem] theorem tBytes_52 : tBytes Try.prog 52 = some 16 := by kernel_rfl
@[go_sem] theorem tZero_52 : tZero Try.prog 52 = some (.agg #[.int .i64 0, .int .i64 0]) := by kernel_rfl
@[go_sem] theorem tAgg_52 : tAgg Try.prog 52 = some true := by kernel_rfl
@[go_sem] theorem tKind_52 : tKind Try.prog 52 = some .other := by kernel_rfl
@[go_sem] theorem isRowT_52 : isRowT Try.prog 52 = false := by kernel_rfl
@[go_sem] theorem tField_52_0 : tField Try.prog 52 0 = some (0, 3, 1) := by kernel_rfl
@[go_sem] theorem tField_52_1 : tField Try.prog 52 1 = some (1, 3, 1) := by kernel_rfl
@[go_sem] theorem tPlaces_52 : tPlaces Try.prog 52 = some [(0, 1), (1, 1)] := by kernel_rfl
@[go_sem] theorem tSize_53 : tSize Try.prog 53 = some 2 := by kernel_rfl
@[go_sem] theorem tBytes_53 : tBytes Try.prog 53 = some 16 := by kernel_rfl
@[go_sem] theorem tZero_53 : tZero Try.prog 53 = some (.agg #[.int .i64 0, .int .i64 0]) := by kernel_rfl
@[go_sem] theorem tAgg_53 : tAgg Try.prog 53 = some true := by kernel_rfl
@[go_sem] theorem tKind_53 : tKind Try.prog 53 = some .other := by kernel_rfl
@[go_sem] theorem isRowT_53 : isRowT Try.prog 53 = false := by kernel_rfl
@[go_sem] theorem tField_53_0 : tField Try.prog 53 0 = some (0, 3, 1) := by kernel_rfl
@[go_sem] theorem tField_53_1 : tField Try.prog 53 1 = some (1, 3, 1) := by kernel_rfl
@[go_sem] theorem tPlaces_53 : tPlaces Try.prog 53 = some [(0, 1), (1, 1)] := by kernel_rfl
@[go_sem] theorem tSize_54 : tSize Try.prog 54 = some 1 := by kernel_rfl
@[go_sem] theorem tBytes_54 : tBytes Try.prog 54 = some 8 := by kernel_rfl
@[go_sem] theorem tZero_54 : tZero Try.prog 54 = some (.nilFunc) := by kernel_rfl
@[go_sem] theorem tAgg_54 : tAgg Try.prog 54 = some false := by kernel_rfl
@[go_sem] theorem tKind_54 : tKind Try.prog 54 = some .func := by kernel_rfl
@[go_sem] theorem isRowT_54 : isRowT Try.prog 54 = false := by kernel_rfl
@[go_sem] theorem tSize_55 : tSize Try.prog 55 = some 1 := by kernel_rfl
@[go_sem] theorem tBytes_55 : tBytes Try.prog 55 = some 24 := by kernel_rfl
@[go_sem] theorem tZero_55 : tZero Try.prog 55 = some (.slice none 0 0) := by kernel_rfl
@[go_sem] theorem tAgg_55 : tAgg Try.prog 55 = some false := by kernel_rfl
@[go_sem] theorem tKind_55 : tKind Try.prog 55 = some .slice := by kernel_rfl
@[go_sem] theorem isRowT_55 : isRowT Try.prog 55 = true := by kernel_rfl
@[go_sem] theorem isU8_55 : isU8 Try.prog 55 = false := by kernel_rfl
@[go_sem] theorem tElem_55 : tElem Try.prog 55 = some 2 := by kernel_rfl
@[go_sem] theorem tSize_57 : tSize Try.prog 57 = some 1 := by kernel_rfl
@[go_sem] theorem tBytes_57 : tBytes Try.prog 57 = some 8 := by kernel_rfl
@[go_sem] theorem tZero_57 : tZero Try.prog 57 = some (.nilFunc) := by kernel_rfl
@[go_sem] theorem tAgg_57 : tAgg Try.prog 57 = some false := by kernel_rfl
@[go_sem] theorem tKind_57 : tKind Try.prog 57 = some .func := by kernel_rfl
@[go_sem] theorem isRowT_57 : isRowT Try.prog 57 = false := by kernel_rfl
@[go_sem] theorem tSize_58 : tSize Try.prog 58 = some 1 := by kernel_rfl
@[go_sem] theorem tBytes_58 : tBytes Try.prog 58 = some 8 := by kernel_rfl
@[go_sem] theorem tZero_58 : tZero Try.prog 58 = some (.nilFunc) := by kernel_rfl
@[go_sem] theorem tAgg_58 : tAgg Try.prog 58 = some false := by kernel_rfl
@[go_sem] theorem tKind_58 : tKind Try.prog 58 = some .func := by kernel_rfl
@[go_sem] theorem isRowT_58 : isRowT Try.prog 58 = false := by kernel_rfl
@[go_sem] theorem tSize_59 : tSize Try.prog 59 = some 1 := by kernel_rfl
@[go_sem] theorem tBytes_59 : tBytes Try.prog 59 = some 8 := by kernel_rfl
@[go_sem] theorem tZero_59 : tZero Try.prog 59 = some (.nilFunc) := by kernel_rfl
@[go_sem] theorem tAgg_59 : tAgg Try.prog 59 = some false := by kernel_rfl
@[go_sem] theorem tKind_59 : tKind Try.prog 59 = some .func := by kernel_rfl
@[go_sem] theorem isRowT_59 : isRowT Try.prog 59 = false := by kernel_rfl
@[go_sem] theorem tSize_60 : tSize Try.prog 60 = some 1 := by kernel_rfl
@[go_sem] theorem tBytes_60 : tBytes Try.prog 60 = some 8 := by kernel_rfl
@[go_sem] theorem tZero_60 : tZero Try.prog 60 = some (.nilFunc) := by kernel_rfl
@[go_sem] theorem tAgg_60 : tAgg Try.prog 60 = some false := by kernel_rfl
@[go_sem] theorem tKind_60 : tKind Try.prog 60 = some .func := by kernel_rfl
@[go_sem] theorem isRowT_60 : isRowT Try.prog 60 = false := by kernel_rfl
@[go_sem] theorem tSize_61 : tSize Try.prog 61 = some 1 := by kernel_rfl
@[go_sem] theorem tBytes_61 : tBytes Try.prog 61 = some 8 := by kernel_rfl
@[go_sem] theorem tZero_61 : tZero Try.prog 61 = some (.nilFunc) := by kernel_rfl
@[go_sem] theorem tAgg_61 : tAgg Try.prog 61 = some false := by kernel_rfl
@[go_sem] theorem tKind_61 : tKind Try.prog 61 = some .func := by kernel_rfl
@[go_sem] theorem isRowT_61 : isRowT Try.prog 61 = false := by kernel_rfl
@[go_sem] theorem tSize_62 : tSize Try.prog 62 = some 1 := by kernel_rfl
@[go_sem] theorem tBytes_62 : tBytes Try.prog 62 = some 24 := by kernel_rfl
@[go_sem] theorem tZero_62 : tZero Try.prog 62 = some (.slice none 0 0) := by kernel_rfl
@[go_sem] theorem tAgg_62 : tAgg Try.prog 62 = some false := by kernel_rfl
@[go_sem] theorem tKind_62 : tKind Try.prog 62 = some .slice := by kernel_rfl
@[go_sem] theorem isRowT_62 : isRowT Try.prog 62 = true := by kernel_rfl
@[go_sem] theorem isU8_62 : isU8 Try.prog 62 = false := by kernel_rfl
@[go_sem] theorem tElem_62 : tElem Try.prog 62 = some 68 := by kernel_rfl
@[go_sem] theorem tSize_63 : tSize Try.prog 63 = some 1 := by kernel_rfl
@[go_sem] theorem tBytes_63 : tBytes Try.prog 63 = some 24 := by kernel_rfl
@[go_sem] theorem tZero_63 : tZero Try.prog 63 = some (.agg #[.slice none 0 0]) := by kernel_rfl
@[go_sem] theorem tAgg_63 : tAgg Try.prog 63 = some true := by kernel_rfl
@[go_sem] theorem tKind_63 : tKind Try.prog 63 = some .other := by kernel_rfl
@[go_sem] theorem isRowT_63 : isRowT Try.prog 63 = false := by kernel_rfl
@[go_sem] theorem tField_63_0 : tField Try.prog 63 0 = some (0, 62, 1) := by kernel_rfl
@[go_sem] theorem tPlaces_63 : tPlaces Try.prog 63 = some [(0, 1)] := by kernel_rfl
@[go_sem] theorem tSize_64 : tSize Try.prog 64 = some 1 := by kernel_rfl
@[go_sem] theorem tBytes_64 : tBytes Try.prog 64 = some 24 := by kernel_rfl
@[go_sem] theorem tZero_64 : tZero Try.prog 64 = some (.agg #[.slice none 0 0]) := by kernel_rfl
@[go_sem] theorem tAgg_64 : tAgg Try.prog 64 = some true := by kernel_rfl
@[go_sem] theorem tKind_64 : tKind Try.prog 64 = some .other := by kernel_rfl
@[go_sem] theorem isRowT_64 : isRowT Try.prog 64 = false := by kernel_rfl
@[go_sem] theorem tField_64_0 : tField Try.prog 64 0 = some (0, 62, 1) := by kernel_rfl
@[go_sem] theorem tPlaces_64 : tPlaces Try.prog 64 = some [(0, 1)] := by kernel_rfl
@[go_sem] theorem tSize_65 : tSize Try.prog 65 = some 1 := by kernel_rfl
@[go_sem] theorem tBytes_65 : tBytes Try.prog 65 = some 8 := by kernel_rfl
@[go_sem] theorem tZero_65 : tZero Try.prog 65 = some (.pointer none) := by kernel_rfl
@[go_sem] theorem tAgg_65 : tAgg Try.prog 65 = some false := by kernel_rfl
@[go_sem] theorem tKind_65 : tKind Try.prog 65 = some .pointer := by kernel_rfl
@[go_sem] theorem isRowT_65 : isRowT Try.prog 65 = false := by kernel_rfl
@[go_sem] theorem tSize_66 : tSize Try.prog 66 = some 1 := by kernel_rfl
@[go_sem] theorem tBytes_66 : tBytes Try.prog 66 = some 8 := by kernel_rfl
@[go_sem] theorem tZero_66 : tZero Try.prog 66 = some (.nilFunc) := by kernel_rfl
@[go_sem] theorem tAgg_66 : tAgg Try.prog 66 = some false := by kernel_rfl
@[go_sem] theorem tKind_66 : tKind Try.prog 66 = some .func := by kernel_rfl
@[go_sem] theorem isRowT_66 : isRowT Try.prog 66 = false := by kernel_rfl
@[go_sem] theorem tSize_67 : tSize Try.prog 67 = some 4 := by kernel_rfl
@[go_sem] theorem tBytes_67 : tBytes Try.prog 67 = some 24 := by kernel_rfl
@[go_sem] theorem tZero_67 : tZero Try.prog 67 = some (.agg #[.int .u8 0, .bool false, .int .i64 0, .int .i64 0]) := by kernel_rfl
@[go_sem] theorem tAgg_67 : tAgg Try.prog 67 = some true := by kernel_rfl
@[go_sem] theorem tKind_67 : tKind Try.prog 67 = some .other := by kernel_rfl
@[go_sem] theorem isRowT_67 : isRowT Try.prog 67 = false := by kernel_rfl
@[go_sem] theorem tField_67_0 : tField Try.prog 67 0 = some (0, 5, 1) := by kernel_rfl
@[go_sem] theorem tField_67_1 : tField Try.prog 67 1 = some (1, 4, 1) := by kernel_rfl
@[go_sem] theorem tField_67_2 : tField Try.prog 67 2 = some (2, 3, 1) := by kernel_rfl
@[go_sem] theorem tField_67_3 : tField Try.prog 67 3 = some (3, 3, 1) := by kernel_rfl
@[go_sem] theorem tPlaces_67 : tPlaces Try.prog 67 = some [(0, 1), (1, 1), (2, 1), (3, 1)] := by kernel_rfl
@[go_sem] theorem tSize_68 : tSize Try.prog 68 = some 4 := by kernel_rfl
@[go_sem] theorem tBytes_68 : tBytes Try.prog 68 = some 24 := by kernel_rfl
@[go_sem] theorem tZero_68 : tZero Try.prog 68 = some (.agg #[.int .u8 0, .bool false, .int .i64 0, .int .i64 0]) := by kernel_rfl
@[go_sem] theorem tAgg_68 : tAgg Try.prog 68 = some true := by kernel_rfl
@[go_sem] theorem tKind_68 : tKind Try.prog 68 = some .other := by kernel_rfl
@[go_sem] theorem isRowT_68 : isRowT Try.prog 68 = false := by kernel_rfl
@[go_sem] theorem tField_68_0 : tField Try.prog 68 0 = some (0, 5, 1) := by kernel_rfl
@[go_sem] theorem tField_68_1 : tField Try.prog 68 1 = some (1, 4, 1) := by kernel_rfl
@[go_sem] theorem tField_68_2 : tField Try.prog 68 2 = some (2, 3, 1) := by kernel_rfl
@[go_sem] theorem tField_68_3 : tField Try.prog 68 3 = some (3, 3, 1) := by kernel_rfl
@[go_sem] theorem tPlaces_68 : tPlaces Try.prog 68 = some [(0, 1), (1, 1), (2, 1), (3, 1)] := by kernel_rfl
@[go_sem] theorem tSize_69 : tSize Try.prog 69 = some 1 := by kernel_rfl
@[go_sem] theorem tBytes_69 : tBytes Try.prog 69 = some 8 := by kernel_rfl
@[go_sem] theorem tZero_69 : tZero Try.prog 69 = some (.pointer none) := by kernel_rfl
@[go_sem] theorem tAgg_69 : tAgg Try.prog 69 = some false := by kernel_rfl
@[go_sem] theorem tKind_69 : tKind Try.prog 69 = some .pointer := by kernel_rfl
@[go_sem] theorem isRowT_69 : isRowT Try.prog 69 = false := by kernel_rfl
@[go_sem] theorem tSize_70 : tSize Try.prog 70 = some 1 := by kernel_rfl
@[go_sem] theorem tBytes_70 : tBytes Try.prog 70 = some 24 := by kernel_rfl
@[go_sem] theorem tZero_70 : tZero Try.prog 70 = some (.agg #[.slice none 0 0]) := by kernel_rfl
@[go_sem] theorem tAgg_70 : tAgg Try.prog 70 = some true := by kernel_rfl
@[go_sem] theorem tKind_70 : tKind Try.prog 70 = some .other := by kernel_rfl
@[go_sem] theorem isRowT_70 : isRowT Try.prog 70 = false := by kernel_rfl
@[go_sem] theorem tField_70_0 : tField Try.prog 70 0 = some (0, 43, 1) := by kernel_rfl
@[go_sem] theorem tPlaces_70 : tPlaces Try.prog 70 = some [(0, 1)] := by kernel_rfl
@[go_sem] theorem tSize_71 : tSize Try.prog 71 = some 1 := by kernel_rfl
@[go_sem] theorem tBytes_71 : tBytes Try.prog 71 = some 24 := by kernel_rfl
@[go_sem] theorem tZero_71 : tZero Try.prog 71 = some (.agg #[.slice none 0 0]) := by kernel_rfl
@[go_sem] theorem tAgg_71 : tAgg Try.prog 71 = some true := by kernel_rfl
@[go_sem] theorem tKind_71 : tKind Try.prog 71 = some .other := by kernel_rfl
@[go_sem] theorem isRowT_71 : isRowT Try.prog 71 = false := by kernel_rfl
@[go_sem] theorem tField_71_0 : tField Try.prog 71 0 = some (0, 43, 1) := by kernel_rfl
@[go_sem] theorem tPlaces_71 : tPlaces Try.prog 71 = some [(0, 1)] := by kernel_rfl
@[go_sem] theorem tSize_72 : tSize Try.prog 72 = some 1 := by kernel_rfl
@[go_sem] theorem tBytes_72 : tBytes Try.prog 72 = some 8 := by kernel_rfl
@[go_sem] theorem tZero_72 : tZero Try.prog 72 = some (.nilFunc) := by kernel_rfl
@[go_sem] theorem tAgg_72 : tAgg Try.prog 72 = some false := by kernel_rfl
@[go_sem] theorem tKind_72 : tKind Try.prog 72 = some .func := by kernel_rfl
@[go_sem] theorem isRowT_72 : isRowT Try.prog 72 = false := by kernel_rfl
@[go_sem] theorem tSize_73 : tSize Try.prog 73 = some 1 := by kernel_rfl
@[go_sem] theorem tBytes_73 : tBytes Try.prog 73 = some 8 := by kernel_rfl
@[go_sem] theorem tZero_73 : tZero Try.prog 73 = some (.nilFunc) := by kernel_rfl
@[go_sem] theorem tAgg_73 : tAgg Try.prog 73 = some false := by kernel_rfl
@[go_sem] theorem tKind_73 : tKind Try.prog 73 = some .func := by kernel_rfl
@[go_sem] theorem isRowT_73 : isRowT Try.prog 73 = false := by kernel_rfl
@[go_sem] theorem tSize_74 : tSize Try.prog 74 = some 1 := by kernel_rfl
@[go_sem] theorem tBytes_74 : tBytes Try.prog 74 = some 8 := by kernel_rfl
@[go_sem] theorem tZero_74 : tZero Try.prog 74 = some (.nilFunc) := by kernel_rfl
@[go_sem] theorem tAgg_74 : tAgg Try.prog 74 = some false := by kernel_rfl
@[go_sem] theorem tKind_74 : tKind Try.prog 74 = some .func := by kernel_rfl
@[go_sem] theorem isRowT_74 : isRowT Try.prog 74 = false := by kernel_rfl
@[go_sem] theorem tSize_75 : tSize Try.prog 75 = some 1 := by kernel_rfl
@[go_sem] theorem tBytes_75 : tBytes Try.prog 75 = some 8 := by kernel_rfl
@[go_sem] theorem tZero_75 : tZero Try.prog 75 = some (.nilFunc) := by kernel_rfl
@[go_sem] theorem tAgg_75 : tAgg Try.prog 75 = some false := by kernel_rfl
@[go_sem] theorem tKind_75 : tKind Try.prog 75 = some .func := by kernel_rfl
@[go_sem] theorem isRowT_75 : isRowT Try.prog 75 = false := by kernel_rfl
@[go_sem] theorem tSize_76 : tSize Try.prog 76 = some 1 := by kernel_rfl
@[go_sem] theorem tBytes_76 : tBytes Try.prog 76 = some 8 := by kernel_rfl
@[go_sem] theorem tZero_76 : tZero Try.prog 76 = some (.nilFunc) := by kernel_rfl
@[go_sem] theorem tAgg_76 : tAgg Try.prog 76 = some false := by kernel_rfl
@[go_sem] theorem tKind_76 : tKind Try.prog 76 = some .func := by kernel_rfl
@[go_sem] theorem isRowT_76 : isRowT Try.prog 76 = false := by kernel_rfl
@[go_sem] theorem tSize_77 : tSize Try.prog 77 = some 1 := by kernel_rfl
@[go_sem] theorem tBytes_77 : tBytes Try.prog 77 = some 8 := by kernel_rfl
@[go_sem] theorem tZero_77 : tZero Try.prog 77 = some (.nilFunc) := by kernel_rfl
@[go_sem] theorem tAgg_77 : tAgg Try.prog 77 = some false := by kernel_rfl
@[go_sem] theorem tKind_77 : tKind Try.prog 77 = some .func := by kernel_rfl
@[go_sem] theorem isRowT_77 : isRowT Try.prog 77 = false := by kernel_rfl
@[go_sem] theorem tSize_78 : tSize Try.prog 78 = some 1 := by kernel_rfl
@[go_sem] theorem tBytes_78 : tBytes Try.prog 78 = some 8 := by kernel_rfl
@[go_sem] theorem tZero_78 : tZero Try.prog 78 = some (.nilFunc) := by kernel_rfl
@[go_sem] theorem tAgg_78 : tAgg Try.prog 78 = some false := by kernel_rfl
@[go_sem] theorem tKind_78 : tKind Try.prog 78 = some .func := by kernel_rfl
@[go_sem] theorem isRowT_78 : isRowT Try.prog 78 = false := by kernel_rfl
@[go_sem] theorem tSize_79 : tSize Try.prog 79 = some 1 := by kernel_rfl
@[go_sem] theorem tBytes_79 : tBytes Try.prog 79 = some 8 := by kernel_rfl
@[go_sem] theorem tZero_79 : tZero Try.prog 79 = some (.pointer none) := by kernel_rfl
@[go_sem] theorem tAgg_79 : tAgg Try.prog 79 = some false := by kernel_rfl
@[go_sem] theorem tKind_79 : tKind Try.prog 79 = some .pointer := by kernel_rfl
@[go_sem] theorem isRowT_79 : isRowT Try.prog 79 = false := by kernel_rfl
@[go_sem] theorem tSize_80 : tSize Try.prog 80 = some 1 := by kernel_rfl
@[go_sem] theorem tBytes_80 : tBytes Try.prog 80 = some 8 := by kernel_rfl
@[go_sem] theorem tZero_80 : tZero Try.prog 80 = some (.nilFunc) := by kernel_rfl
@[go_sem] theorem tAgg_80 : tAgg Try.prog 80 = some false := by kernel_rfl
@[go_sem] theorem tKind_80 : tKind Try.prog 80 = some .func := by kernel_rfl
@[go_sem] theorem isRowT_80 : isRowT Try.prog 80 = false := by kernel_rfl
@[go_sem] theorem tSize_81 : tSize Try.prog 81 = some 1 := by kernel_rfl
@[go_sem] theorem tBytes_81 : tBytes Try.prog 81 = some 8 := by kernel_rfl
@[go_sem] theorem tZero_81 : tZero Try.prog 81 = some (.nilFunc) := by kernel_rfl
@[go_sem] theorem tAgg_81 : tAgg Try.prog 81 = some false := by kernel_rfl
@[go_sem] theorem tKind_81 : tKind Try.prog 81 = some .func := by kernel_rfl
@[go_sem] theorem isRowT_81 : isRowT Try.prog 81 = false := by kernel_rfl
@[go_sem] theorem tSize_82 : tSize Try.prog 82 = some 1 := by kernel_rfl
@[go_sem] theorem tBytes_82 : tBytes Try.prog 82 = some 8 := by kernel_rfl
@[go_sem] theorem tZero_82 : tZero Try.prog 82 = some (.nilFunc) := by kernel_rfl
@[go_sem] theorem tAgg_82 : tAgg Try.prog 82 = some false := by kernel_rfl
@[go_sem] theorem tKind_82 : tKind Try.prog 82 = some .func := by kernel_rfl
@[go_sem] theorem isRowT_82 : isRowT Try.prog 82 = false := by kernel_rfl
@[go_sem] theorem tSize_84 : tSize Try.prog 84 = some 1 := by kernel_rfl
@[go_sem] theorem tBytes_84 : tBytes Try.prog 84 = some 8 := by kernel_rfl
@[go_sem] theorem tZero_84 : tZero Try.prog 84 = some (.nilFunc) := by kernel_rfl
@[go_sem] theorem tAgg_84 : tAgg Try.prog 84 = some false := by kernel_rfl
@[go_sem] theorem tKind_84 : tKind Try.prog 84 = some .func := by kernel_rfl
@[go_sem] theorem isRowT_84 : isRowT Try.prog 84 = false := by kernel_rfl
@[go_sem] theorem tSize_85 : tSize Try.prog 85 = some 1 := by kernel_rfl
@[go_sem] theorem tBytes_85 : tBytes Try.prog 85 = some 8 := by kernel_rfl
@[go_sem] theorem tZero_85 : tZero Try.prog 85 = some (.pointer none) := by kernel_rfl
@[go_sem] theorem tAgg_85 : tAgg Try.prog 85 = some false := by kernel_rfl
@[go_sem] theorem tKind_85 : tKind Try.prog 85 = some .pointer := by kernel_rfl
@[go_sem] theorem isRowT_85 : isRowT Try.prog 85 = false := by kernel_rfl
@[go_sem] theorem tSize_86 : tSize Try.prog 86 = some 3 := by kernel_rfl
@[go_sem] theorem tBytes_86 : tBytes Try.prog 86 = some 40 := by kernel_rfl
@[go_sem] theorem tZero_86 : tZero Try.prog 86 = some (.agg #[.slice none 0 0, .int .i64 0, .int .i64 0]) := by kernel_rfl
@[go_sem] theorem tAgg_86 : tAgg Try.prog 86 = some true := by kernel_rfl
@[go_sem] theorem tKind_86 : tKind Try.prog 86 = some .other := by kernel_rfl
@[go_sem] theorem isRowT_86 : isRowT Try.prog 86 = false := by kernel_rfl
@[go_sem] theorem tField_86_0 : tField Try.prog 86 0 = some (0, 43, 1) := by kernel_rfl
@[go_sem] theorem tField_86_1 : tField Try.prog 86 1 = some (1, 3, 1) := by kernel_rfl
@[go_sem] theorem tField_86_2 : tField Try.prog 86 2 = some (2, 48, 1) := by kernel_rfl
@[go_sem] theorem tPlaces_86 : tPlaces Try.prog 86 = some [(0, 1), (1, 1), (2, 1)] := by kernel_rfl
@[go_sem] theorem tSize_87 : tSize Try.prog 87 = some 3 := by kernel_rfl
@[go_sem] theorem tBytes_87 : tBytes Try.prog 87 = some 40 := by kernel_rfl
@[go_sem] theorem tZero_87 : tZero Try.prog 87 = some (.agg #[.slice none 0 0, .int .i64 0, .int .i64 0]) := by kernel_rfl
@[go_sem] theorem tAgg_87 : tAgg Try.prog 87 = some true := by kernel_rfl
@[go_sem] theorem tKind_87 : tKind Try.prog 87 = some .other := by kernel_rfl
@[go_sem] theorem isRowT_87 : isRowT Try.prog 87 = false := by kernel_rfl
@[go_sem] theorem tField_87_0 : tField Try.prog 87 0 = some (0, 43, 1) := by kernel_rfl
@[go_sem] theorem tField_87_1 : tField Try.prog 87 1 = some (1, 3, 1) := by kernel_rfl
@[go_sem] theorem tField_87_2 : tField Try.prog 87 2 = some (2, 48, 1) := by kernel_rfl
@[go_sem] theorem tPlaces_87 : tPlaces Try.prog 87 = some [(0, 1), (1, 1), (2, 1)] := by kernel_rfl
@[go_sem] theorem tSize_88 : tSize Try.prog 88 = some 1 := by kernel_rfl
@[go_sem] theorem tBytes_88 : tBytes Try.prog 88 = some 8 := by kernel_rfl
@[go_sem] theorem tZero_88 : tZero Try.prog 88 = some (.nilFunc) := by kernel_rfl
@[go_sem] theorem tAgg_88 : tAgg Try.prog 88 = some false := by kernel_rfl
@[go_sem] theorem tKind_88 : tKind Try.prog 88 = some .func := by kernel_rfl
@[go_sem] theorem isRowT_88 : isRowT Try.prog 88 = false := by kernel_rfl
@[go_sem] theorem tSize_89 : tSize Try.prog 89 = some 1 := by kernel_rfl
@[go_sem] theorem tBytes_89 : tBytes Try.prog 89 = some 8 := by kernel_rfl
@[go_sem] theorem tZero_89 : tZero Try.prog 89 = some (.nilFunc) := by kernel_rfl
@[go_sem] theorem tAgg_89 : tAgg Try.prog 89 = some false := by kernel_rfl
@[go_sem] theorem tKind_89 : tKind Try.prog 89 = some .func := by kernel_rfl
@[go_sem] theorem isRowT_89 : isRowT Try.prog 89 = false := by kernel_rfl
@[go_sem] theorem tSize_90 : tSize Try.prog 90 = some 1 := by kernel_rfl
@[go_sem] theorem tBytes_90 : tBytes Try.prog 90 = some 8 := by kernel_rfl
@[go_sem] theorem tZero_90 : tZero Try.prog 90 = some (.nilFunc) := by kernel_rfl
@[go_sem] theorem tAgg_90 : tAgg Try.prog 90 = some false := by kernel_rfl
@[go_sem] theorem tKind_90 : tKind Try.prog 90 = some .func := by kernel_rfl
@[go_sem] theorem isRowT_90 : isRowT Try.prog 90 = false := by kernel_rfl
@[go_sem] theorem tSize_91 : tSize Try.prog 91 = some 1 := by kernel_rfl
@[go_sem] theorem tBytes_91 : tBytes Try.prog 91 = some 8 := by kernel_rfl
@[go_sem] theorem tZero_91 : tZero Try.prog 91 = some (.int .u64 0) := by kernel_rfl
@[go_sem] theorem tAgg_91 : tAgg Try.prog 91 = some false := by kernel_rfl
@[go_sem] theorem tKind_91 : tKind Try.prog 91 = some (.int .u64) := by kernel_rfl
@[go_sem] theorem isRowT_91 : isRowT Try.prog 91 = false := by kernel_rfl
@[go_sem] theorem tSize_92 : tSize Try.prog 92 = some 3 := by kernel_rfl
@[go_sem] theorem tBytes_92 : tBytes Try.prog 92 = some 40 := by kernel_rfl
@[go_sem] theorem tZero_92 : tZero Try.prog 92 = some (.agg #[.slice none 0 0, .int .i64 0, .int .i64 0]) := by kernel_rfl
@[go_sem] theorem tAgg_92 : tAgg Try.prog 92 = some true := by kernel_rfl
@[go_sem] theorem tKind_92 : tKind Try.prog 92 = some .other := by kernel_rfl
@[go_sem] theorem isRowT_92 : isRowT Try.prog 92 = false := by kernel_rfl
@[go_sem] theorem tField_92_0 : tField Try.prog 92 0 = some (0, 43, 1) := by kernel_rfl
@[go_sem] theorem tField_92_1 : tField Try.prog 92 1 = some (1, 3, 1) := by kernel_rfl
@[go_sem] theorem tField_92_2 : tField Try.prog 92 2 = some (2, 48, 1) := by kernel_rfl
@[go_sem] theorem tPlaces_92 : tPlaces Try.prog 92 = some [(0, 1), (1, 1), (2, 1)] := by kernel_rfl
@[go_sem] theorem tSize_93 : tSize Try.prog 93 = some 3 := by kernel_rfl
@[go_sem] theorem tBytes_93 : tBytes Try.prog 93 = some 40 := by kernel_rfl
@[go_sem] theorem tZero_93 : tZero Try.prog 93 = some (.agg #[.slice none 0 0, .int .i64 0, .int .i64 0]) := by kernel_rfl
@[go_sem] theorem tAgg_93 : tAgg Try.prog 93 = some true := by kernel_rfl
@[go_sem] theorem tKind_93 : tKind Try.prog 93 = some .other := by kernel_rfl
@[go_sem] theorem isRowT_93 : isRowT Try.prog 93 = false := by kernel_rfl
@[go_sem] theorem tField_93_0 : tField Try.prog 93 0 = some (0, 43, 1) := by kernel_rfl
@[go_sem] theorem tField_93_1 : tField Try.prog 93 1 = some (1, 3, 1) := by kernel_rfl
@[go_sem] theorem tField_93_2 : tField Try.prog 93 2 = some (2, 48, 1) := by kernel_rfl
@[go_sem] theorem tPlaces_93 : tPlaces Try.prog 93 = some [(0, 1), (1, 1), (2, 1)] := by kernel_rfl
@[go_sem] theorem tSize_94 : tSize Try.prog 94 = some 1 := by kernel_rfl
@[go_sem] theorem tBytes_94 : tBytes Try.prog 94 = some 8 := by kernel_rfl
@[go_sem] theorem tZero_94 : tZero Try.prog 94 = some (.nilFunc) := by kernel_rfl
@[go_sem] theorem tAgg_94 : tAgg Try.prog 94 = some false := by kernel_rfl
@[go_sem] theorem tKind_94 : tKind Try.prog 94 = some .func := by kernel_rfl
@[go_sem] theorem isRowT_94 : isRowT Try.prog 94 = false := by kernel_rfl
@[go_sem] theorem tSize_95 : tSize Try.prog 95 = some 1 := by kernel_rfl
@[go_sem] theorem tBytes_95 : tBytes Try.prog 95 = some 8 := by kernel_rfl
@[go_sem] theorem tZero_95 : tZero Try.prog 95 = some (.nilFunc) := by kernel_rfl
@[go_sem] theorem tAgg_95 : tAgg Try.prog 95 = some false := by kernel_rfl
@[go_sem] theorem tKind_95 : tKind Try.prog 95 = some .func := by kernel_rfl
@[go_sem] theorem isRowT_95 : isRowT Try.prog 95 = false := by kernel_rfl
@[go_sem] theorem tSize_96 : tSize Try.prog 96 = some 1 := by kernel_rfl
@[go_sem] theorem tBytes_96 : tBytes Try.prog 96 = some 8 := by kernel_rfl
@[go_sem] theorem tZero_96 : tZero Try.prog 96 = some (.nilFunc) := by kernel_rfl
@[go_sem] theorem tAgg_96 : tAgg Try.prog 96 = some false := by kernel_rfl
@[go_sem] theorem tKind_96 : tKind Try.prog 96 = some .func := by kernel_rfl
@[go_sem] theorem isRowT_96 : isRowT Try.prog 96 = false := by kernel_rfl
@[go_sem] theorem tSize_97 : tSize Try.prog 97 = some 1 := by kernel_rfl
@[go_sem] theorem tBytes_97 : tBytes Try.prog 97 = some 8 := by kernel_rfl
@[go_sem] theorem tZero_97 : tZero Try.prog 97 = some (.nilFunc) := by kernel_rfl
@[go_sem] theorem tAgg_97 : tAgg Try.prog 97 = some false := by kernel_rfl
@[go_sem] theorem tKind_97 : tKind Try.prog 97 = some .func := by kernel_rfl
@[go_sem] theorem isRowT_97 : isRowT Try.prog 97 = false := by kernel_rfl
@[go_sem] theorem tSize_99 : tSize Try.prog 99 = some 1 := by kernel_rfl
@[go_sem] theorem tBytes_99 : tBytes Try.prog 99 = some 8 := by kernel_rfl
@[go_sem] theorem tZero_99 : tZero Try.prog 99 = some (.nilFunc) := by kernel_rfl
@[go_sem] theorem tAgg_99 : tAgg Try.prog 99 = some false := by kernel_rfl
@[go_sem] theorem tKind_99 : tKind Try.prog 99 = some .func := by kernel_rfl
@[go_sem] theorem isRowT_99 : isRowT Try.prog 99 = false := by kernel_rfl
@[go_sem] theorem tSize_100 : tSize Try.prog 100 = some 1 := by kernel_rfl
@[go_sem] theorem tBytes_100 : tBytes Try.prog 100 = some 8 := by kernel_rfl
@[go_sem] theorem tZero_100 : tZero Try.prog 100 = some (.nilFunc) := by kernel_rfl
@[go_sem] theorem tAgg_100 : tAgg Try.prog 100 = some false := by kernel_rfl
@[go_sem] theorem tKind_100 : tKind Try.prog 100 = some .func := by kernel_rfl
@[go_sem] theorem isRowT_100 : isRowT Try.prog 100 = false := by kernel_rfl
@[go_sem] theorem tSize_103 : tSize Try.prog 103 = some 0 := by kernel_rfl
@[go_sem] theorem tBytes_103 : tBytes Try.prog 103 = some 0 := by kernel_rfl
@[go_sem] theorem tZero_103 : tZero Try.prog 103 = some (.agg #[]) := by kernel_rfl
@[go_sem] theorem tAgg_103 : tAgg Try.prog 103 = some true := by kernel_rfl
@[go_sem] theorem tKind_103 : tKind Try.prog 103 = some .other := by kernel_rfl
@[go_sem] theorem isRowT_103 : isRowT Try.prog 103 = false := by kernel_rfl
@[go_sem] theorem tArr_103 : tArr Try.prog 103 = some (0, 16) := by kernel_rfl
@[go_sem] theorem tPlaces_103 : tPlaces Try.prog 103 = some [] := by kernel_rfl
@[go_sem] theorem tSize_108 : tSize Try.prog 108 = some 1 := by kernel_rfl
@[go_sem] theorem tBytes_108 : tBytes Try.prog 108 = some 8 := by kernel_rfl
@[go_sem] theorem tZero_108 : tZero Try.prog 108 = some (.nilFunc) := by kernel_rfl
@[go_sem] theorem tAgg_108 : tAgg Try.prog 108 = some false := by kernel_rfl
@[go_sem] theorem tKind_108 : tKind Try.prog 108 = some .func := by kernel_rfl
@[go_sem] theorem isRowT_108 : isRowT Try.prog 108 = false := by kernel_rfl
@[go_sem] theorem tSize_109 : tSize Try.prog 109 = some 1 := by kernel_rfl
@[go_sem] theorem tBytes_109 : tBytes Try.prog 109 = some 8 := by kernel_rfl
@[go_sem] theorem tZero_109 : tZero Try.prog 109 = some (.pointer none) := by kernel_rfl
@[go_sem] theorem tAgg_109 : tAgg Try.prog 109 = some false := by kernel_rfl
@[go_sem] theorem tKind_109 : tKind Try.prog 109 = some .pointer := by kernel_rfl
@[go_sem] theorem isRowT_109 : isRowT Try.prog 109 = false := by kernel_rfl
@[go_sem] theorem tSize_114 : tSize Try.prog 114 = some 1 := by kernel_rfl
@[go_sem] theorem tBytes_114 : tBytes Try.prog 114 = some 8 := by kernel_rfl
@[go_sem] theorem tZero_114 : tZero Try.prog 114 = some (.pointer none) := by kernel_rfl
@[go_sem] theorem tAgg_114 : tAgg Try.prog 114 = some false := by kernel_rfl
@[go_sem] theorem tKind_114 : tKind Try.prog 114 = some .other := by kernel_rfl
@[go_sem] theorem isRowT_114 : isRowT Try.prog 114 = false := by kernel_rfl
@[go_sem] theorem tEq_31 : tEq Try.prog 31 = some [(0, 3), (1, 5), (2, 3), (3, 4)] := by kernel_rfl
@[go_sem] theorem tEq_53 : tEq Try.prog 53 = some [(0, 3), (1, 3)] := by kernel_rfl
@[go_sem] theorem tEq_67 : tEq Try.prog 67 = some [(0, 5), (1, 4), (2, 3), (3, 3)] := by kernel_rfl
@[go_sem] theorem tEq_68 : tEq Try.prog 68 = some [(0, 5), (1, 4), (2, 3), (3, 3)] := by kernel_rfl
theorem follows : Try.prog.follows .mixedOrders = true := by kernel_rfl
end Go.Proofs.Ytjhmajcakhdcnaa.I
