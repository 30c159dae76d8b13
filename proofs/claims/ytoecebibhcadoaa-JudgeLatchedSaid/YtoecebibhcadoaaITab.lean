/- What the tables of the program say of its types and functions, as equations. Written by tab.py. No condition. -/
import Derived.Test.YtoecebibhcadoaaISim
import Derived.Test.YtoecebibhcadoaaProg
namespace Go.Proofs.Ytoecebibhcadoaa.I
open Go Go.RowKit
set_option linter.unusedVariables false
@[go_sem] theorem tSize_1 : tSize Try.prog 1 = some 1 := by kernel_rfl
@[go_sem] theorem tBytes_1 : tBytes Try.prog 1 = some 8 := by kernel_rfl
@[go_sem] theorem tZero_1 : tZero Try.prog 1 = some (.nilFunc) := by kernel_rfl
@[go_sem] theorem tAgg_1 : tAgg Try.prog 1 = some false := by kernel_rfl
@[go_sem] theorem tKind_1 : tKind Try.prog 1 = some .func := by kernel_rfl
@[go_sem] theorem isRowT_1 : isRowT Try.prog 1 = false := by kernel_rfl
@[go_sem] theorem tSize_2 : tSize Try.prog 2 = some 1 := by kernel_rfl
@[go_sem] theorem tBytes_2 : tBytes Try.prog 2 = some 8 := by kernel_rfl
@[go_sem] theorem tZero_2 : tZero Try.prog 2 = some (.int .i64 0) := by kernel_rfl
@[go_sem] theorem tAgg_2 : tAgg Try.prog 2 = some false := by kernel_rfl
@[go_sem] theorem tKind_2 : tKind Try.prog 2 = some (.int .i64) := by kernel_rfl
@[go_sem] theorem isRowT_2 : isRowT Try.prog 2 = false := by kernel_rfl
@[go_sem] theorem tSize_3 : tSize Try.prog 3 = some 1 := by kernel_rfl
@[go_sem] theorem tBytes_3 : tBytes Try.prog 3 = some 8 := by kernel_rfl
@[go_sem] theorem tZero_3 : tZero Try.prog 3 = some (.int .i64 0) := by kernel_rfl
@[go_sem] theorem tAgg_3 : tAgg Try.prog 3 = some false := by kernel_rfl
@[go_sem] theorem tKind_3 : tKind Try.prog 3 = some (.int .i64) := by kernel_rfl
@[go_sem] theorem isRowT_3 : isRowT Try.prog 3 = false := by kernel_rfl
@[go_sem] theorem tSize_4 : tSize Try.prog 4 = some 1 := by kernel_rfl
@[go_sem] theorem tBytes_4 : tBytes Try.prog 4 = some 1 := by kernel_rfl
@[go_sem] theorem tZero_4 : tZero Try.prog 4 = some (.bool false) := by kernel_rfl
@[go_sem] theorem tAgg_4 : tAgg Try.prog 4 = some false := by kernel_rfl
@[go_sem] theorem tKind_4 : tKind Try.prog 4 = some .bool := by kernel_rfl
@[go_sem] theorem isRowT_4 : isRowT Try.prog 4 = false := by kernel_rfl
@[go_sem] theorem tSize_5 : tSize Try.prog 5 = some 1 := by kernel_rfl
@[go_sem] theorem tBytes_5 : tBytes Try.prog 5 = some 1 := by kernel_rfl
@[go_sem] theorem tZero_5 : tZero Try.prog 5 = some (.int .u8 0) := by kernel_rfl
@[go_sem] theorem tAgg_5 : tAgg Try.prog 5 = some false := by kernel_rfl
@[go_sem] theorem tKind_5 : tKind Try.prog 5 = some (.int .u8) := by kernel_rfl
@[go_sem] theorem isRowT_5 : isRowT Try.prog 5 = false := by kernel_rfl
@[go_sem] theorem tSize_9 : tSize Try.prog 9 = some 1 := by kernel_rfl
@[go_sem] theorem tBytes_9 : tBytes Try.prog 9 = some 16 := by kernel_rfl
@[go_sem] theorem tZero_9 : tZero Try.prog 9 = some (.string ⟨#[]⟩) := by kernel_rfl
@[go_sem] theorem tAgg_9 : tAgg Try.prog 9 = some false := by kernel_rfl
@[go_sem] theorem tKind_9 : tKind Try.prog 9 = some .string := by kernel_rfl
@[go_sem] theorem isRowT_9 : isRowT Try.prog 9 = false := by kernel_rfl
@[go_sem] theorem tSize_12 : tSize Try.prog 12 = some 1 := by kernel_rfl
@[go_sem] theorem tBytes_12 : tBytes Try.prog 12 = some 8 := by kernel_rfl
@[go_sem] theorem tZero_12 : tZero Try.prog 12 = some (.int .u64 0) := by kernel_rfl
@[go_sem] theorem tAgg_12 : tAgg Try.prog 12 = some false := by kernel_rfl
@[go_sem] theorem tKind_12 : tKind Try.prog 12 = some (.int .u64) := by kernel_rfl
@[go_sem] theorem isRowT_12 : isRowT Try.prog 12 = false := by kernel_rfl
@[go_sem] theorem tSize_13 : tSize Try.prog 13 = some 2 := by kernel_rfl
@[go_sem] theorem tBytes_13 : tBytes Try.prog 13 = some 24 := by kernel_rfl
@[go_sem] theorem tZero_13 : tZero Try.prog 13 = some (.agg #[.string ⟨#[]⟩, .int .u64 0]) := by kernel_rfl
@[go_sem] theorem tAgg_13 : tAgg Try.prog 13 = some true := by kernel_rfl
@[go_sem] theorem tKind_13 : tKind Try.prog 13 = some .other := by kernel_rfl
@[go_sem] theorem isRowT_13 : isRowT Try.prog 13 = false := by kernel_rfl
@[go_sem] theorem tField_13_0 : tField Try.prog 13 0 = some (0, 9, 1) := by kernel_rfl
@[go_sem] theorem tField_13_1 : tField Try.prog 13 1 = some (1, 12, 1) := by kernel_rfl
@[go_sem] theorem tPlaces_13 : tPlaces Try.prog 13 = some [(0, 1), (1, 1)] := by kernel_rfl
@[go_sem] theorem tSize_20 : tSize Try.prog 20 = some 1 := by kernel_rfl
@[go_sem] theorem tBytes_20 : tBytes Try.prog 20 = some 16 := by kernel_rfl
@[go_sem] theorem tZero_20 : tZero Try.prog 20 = some (.nilIface) := by kernel_rfl
@[go_sem] theorem tAgg_20 : tAgg Try.prog 20 = some false := by kernel_rfl
@[go_sem] theorem tKind_20 : tKind Try.prog 20 = some .iface := by kernel_rfl
@[go_sem] theorem isRowT_20 : isRowT Try.prog 20 = false := by kernel_rfl
@[go_sem] theorem tSize_21 : tSize Try.prog 21 = some 1 := by kernel_rfl
@[go_sem] theorem tBytes_21 : tBytes Try.prog 21 = some 4 := by kernel_rfl
@[go_sem] theorem tZero_21 : tZero Try.prog 21 = some (.int .i32 0) := by kernel_rfl
@[go_sem] theorem tAgg_21 : tAgg Try.prog 21 = some false := by kernel_rfl
@[go_sem] theorem tKind_21 : tKind Try.prog 21 = some (.int .i32) := by kernel_rfl
@[go_sem] theorem isRowT_21 : isRowT Try.prog 21 = false := by kernel_rfl
@[go_sem] theorem tSize_22 : tSize Try.prog 22 = some 1 := by kernel_rfl
@[go_sem] theorem tBytes_22 : tBytes Try.prog 22 = some 24 := by kernel_rfl
@[go_sem] theorem tZero_22 : tZero Try.prog 22 = some (.slice none 0 0) := by kernel_rfl
@[go_sem] theorem tAgg_22 : tAgg Try.prog 22 = some false := by kernel_rfl
@[go_sem] theorem tKind_22 : tKind Try.prog 22 = some .slice := by kernel_rfl
@[go_sem] theorem isRowT_22 : isRowT Try.prog 22 = true := by kernel_rfl
@[go_sem] theorem isU8_22 : isU8 Try.prog 22 = false := by kernel_rfl
@[go_sem] theorem tElem_22 : tElem Try.prog 22 = some 47 := by kernel_rfl
@[go_sem] theorem tSize_23 : tSize Try.prog 23 = some 1 := by kernel_rfl
@[go_sem] theorem tBytes_23 : tBytes Try.prog 23 = some 24 := by kernel_rfl
@[go_sem] theorem tZero_23 : tZero Try.prog 23 = some (.slice none 0 0) := by kernel_rfl
@[go_sem] theorem tAgg_23 : tAgg Try.prog 23 = some false := by kernel_rfl
@[go_sem] theorem tKind_23 : tKind Try.prog 23 = some .slice := by kernel_rfl
@[go_sem] theorem isRowT_23 : isRowT Try.prog 23 = true := by kernel_rfl
@[go_sem] theorem isU8_23 : isU8 Try.prog 23 = false := by kernel_rfl
@[go_sem] theorem tElem_23 : tElem Try.prog 23 = some 50 := by kernel_rfl
@[go_sem] theorem tSize_24 : tSize Try.prog 24 = some 1 := by kernel_rfl
@[go_sem] theorem tBytes_24 : tBytes Try.prog 24 = some 24 := by kernel_rfl
@[go_sem] theorem tZero_24 : tZero Try.prog 24 = some (.slice none 0 0) := by kernel_rfl
@[go_sem] theorem tAgg_24 : tAgg Try.prog 24 = some false := by kernel_rfl
@[go_sem] theorem tKind_24 : tKind Try.prog 24 = some .slice := by kernel_rfl
@[go_sem] theorem isRowT_24 : isRowT Try.prog 24 = true := by kernel_rfl
@[go_sem] theorem isU8_24 : isU8 Try.prog 24 = false := by kernel_rfl
@[go_sem] theorem tElem_24 : tElem Try.prog 24 = some 53 := by kernel_rfl
@[go_sem] theorem tSize_25 : tSize Try.prog 25 = some 3 := by kernel_rfl
@[go_sem] theorem tBytes_25 : tBytes Try.prog 25 = some 24 := by kernel_rfl
@[go_sem] theorem tZero_25 : tZero Try.prog 25 = some (.agg #[.int .i64 0, .int .i64 0, .int .i64 0]) := by kernel_rfl
@[go_sem] theorem tAgg_25 : tAgg Try.prog 25 = some true := by kernel_rfl
@[go_sem] theorem tKind_25 : tKind Try.prog 25 = some .other := by kernel_rfl
@[go_sem] theorem isRowT_25 : isRowT Try.prog 25 = false := by kernel_rfl
@[go_sem] theorem tArr_25 : tArr Try.prog 25 = some (3, 3) := by kernel_rfl
@[go_sem] theorem tPlaces_25 : tPlaces Try.prog 25 = some [(0, 1), (1, 1), (2, 1)] := by kernel_rfl
@[go_sem] theorem tSize_26 : tSize Try.prog 26 = some 11 := by kernel_rfl
@[go_sem] theorem tBytes_26 : tBytes Try.prog 26 = some 136 := by kernel_rfl
@[go_sem] theorem tZero_26 : tZero Try.prog 26 = some (.agg #[.slice none 0 0, .slice none 0 0, .slice none 0 0, .int .i64 0, .int .i64 0, .int .i64 0, .int .i64 0, .int .i64 0, .int .i64 0, .bool false, .int .i64 0]) := by kernel_rfl
@[go_sem] theorem tAgg_26 : tAgg Try.prog 26 = some true := by kernel_rfl
@[go_sem] theorem tKind_26 : tKind Try.prog 26 = some .other := by kernel_rfl
@[go_sem] theorem isRowT_26 : isRowT Try.prog 26 = false := by kernel_rfl
@[go_sem] theorem tField_26_0 : tField Try.prog 26 0 = some (0, 22, 1) := by kernel_rfl
@[go_sem] theorem tField_26_1 : tField Try.prog 26 1 = some (1, 23, 1) := by kernel_rfl
@[go_sem] theorem tField_26_2 : tField Try.prog 26 2 = some (2, 24, 1) := by kernel_rfl
@[go_sem] theorem tField_26_3 : tField Try.prog 26 3 = some (3, 25, 3) := by kernel_rfl
@[go_sem] theorem tField_26_4 : tField Try.prog 26 4 = some (6, 3, 1) := by kernel_rfl
@[go_sem] theorem tField_26_5 : tField Try.prog 26 5 = some (7, 2, 1) := by kernel_rfl
@[go_sem] theorem tField_26_6 : tField Try.prog 26 6 = some (8, 2, 1) := by kernel_rfl
@[go_sem] theorem tField_26_7 : tField Try.prog 26 7 = some (9, 4, 1) := by kernel_rfl
@[go_sem] theorem tField_26_8 : tField Try.prog 26 8 = some (10, 3, 1) := by kernel_rfl
@[go_sem] theorem tPlaces_26 : tPlaces Try.prog 26 = some [(0, 1), (1, 1), (2, 1), (3, 3), (6, 1), (7, 1), (8, 1), (9, 1), (10, 1)] := by kernel_rfl
@[go_sem] theorem tSize_27 : tSize Try.prog 27 = some 11 := by kernel_rfl
@[go_sem] theorem tBytes_27 : tBytes Try.prog 27 = some 136 := by kernel_rfl
@[go_sem] theorem tZero_27 : tZero Try.prog 27 = some (.agg #[.slice none 0 0, .slice none 0 0, .slice none 0 0, .int .i64 0, .int .i64 0, .int .i64 0, .int .i64 0, .int .i64 0, .int .i64 0, .bool false, .int .i64 0]) := by kernel_rfl
@[go_sem] theorem tAgg_27 : tAgg Try.prog 27 = some true := by kernel_rfl
@[go_sem] theorem tKind_27 : tKind Try.prog 27 = some .other := by kernel_rfl
@[go_sem] theorem isRowT_27 : isRowT Try.prog 27 = false := by kernel_rfl
@[go_sem] theorem tField_27_0 : tField Try.prog 27 0 = some (0, 22, 1) := by kernel_rfl
@[go_sem] theorem tField_27_1 : tField Try.prog 27 1 = some (1, 23, 1) := by kernel_rfl
@[go_sem] theorem tField_27_2 : tField Try.prog 27 2 = some (2, 24, 1) := by kernel_rfl
@[go_sem] theorem tField_27_3 : tField Try.prog 27 3 = some (3, 25, 3) := by kernel_rfl
@[go_sem] theorem tField_27_4 : tField Try.prog 27 4 = some (6, 3, 1) := by kernel_rfl
@[go_sem] theorem tField_27_5 : tField Try.prog 27 5 = some (7, 2, 1) := by kernel_rfl
@[go_sem] theorem tField_27_6 : tField Try.prog 27 6 = some (8, 2, 1) := by kernel_rfl
@[go_sem] theorem tField_27_7 : tField Try.prog 27 7 = some (9, 4, 1) := by kernel_rfl
@[go_sem] theorem tField_27_8 : tField Try.prog 27 8 = some (10, 3, 1) := by kernel_rfl
@[go_sem] theorem tPlaces_27 : tPlaces Try.prog 27 = some [(0, 1), (1, 1), (2, 1), (3, 3), (6, 1), (7, 1), (8, 1), (9, 1), (10, 1)] := by kernel_rfl
@[go_sem] theorem tSize_28 : tSize Try.prog 28 = some 1 := by kernel_rfl
@[go_sem] theorem tBytes_28 : tBytes Try.prog 28 = some 8 := by kernel_rfl
@[go_sem] theorem tZero_28 : tZero Try.prog 28 = some (.nilFunc) := by kernel_rfl
@[go_sem] theorem tAgg_28 : tAgg Try.prog 28 = some false := by kernel_rfl
@[go_sem] theorem tKind_28 : tKind Try.prog 28 = some .func := by kernel_rfl
@[go_sem] theorem isRowT_28 : isRowT Try.prog 28 = false := by kernel_rfl
@[go_sem] theorem tSize_29 : tSize Try.prog 29 = some 1 := by kernel_rfl
@[go_sem] theorem tBytes_29 : tBytes Try.prog 29 = some 24 := by kernel_rfl
@[go_sem] theorem tZero_29 : tZero Try.prog 29 = some (.slice none 0 0) := by kernel_rfl
@[go_sem] theorem tAgg_29 : tAgg Try.prog 29 = some false := by kernel_rfl
@[go_sem] theorem tKind_29 : tKind Try.prog 29 = some .slice := by kernel_rfl
@[go_sem] theorem isRowT_29 : isRowT Try.prog 29 = true := by kernel_rfl
@[go_sem] theorem isU8_29 : isU8 Try.prog 29 = true := by kernel_rfl
@[go_sem] theorem tElem_29 : tElem Try.prog 29 = some 5 := by kernel_rfl
@[go_sem] theorem tSize_30 : tSize Try.prog 30 = some 9 := by kernel_rfl
@[go_sem] theorem tBytes_30 : tBytes Try.prog 30 = some 32 := by kernel_rfl
@[go_sem] theorem tZero_30 : tZero Try.prog 30 = some (.agg #[.int .u8 0, .int .u8 0, .int .u8 0, .int .u8 0, .int .u8 0, .int .u8 0, .int .u8 0, .bool false, .slice none 0 0]) := by kernel_rfl
@[go_sem] theorem tAgg_30 : tAgg Try.prog 30 = some true := by kernel_rfl
@[go_sem] theorem tKind_30 : tKind Try.prog 30 = some .other := by kernel_rfl
@[go_sem] theorem isRowT_30 : isRowT Try.prog 30 = false := by kernel_rfl
@[go_sem] theorem tField_30_0 : tField Try.prog 30 0 = some (0, 5, 1) := by kernel_rfl
@[go_sem] theorem tField_30_1 : tField Try.prog 30 1 = some (1, 5, 1) := by kernel_rfl
@[go_sem] theorem tField_30_2 : tField Try.prog 30 2 = some (2, 5, 1) := by kernel_rfl
@[go_sem] theorem tField_30_3 : tField Try.prog 30 3 = some (3, 5, 1) := by kernel_rfl
@[go_sem] theorem tField_30_4 : tField Try.prog 30 4 = some (4, 5, 1) := by kernel_rfl
@[go_sem] theorem tField_30_5 : tField Try.prog 30 5 = some (5, 5, 1) := by kernel_rfl
@[go_sem] theorem tField_30_6 : tField Try.prog 30 6 = some (6, 5, 1) := by kernel_rfl
@[go_sem] theorem tField_30_7 : tField Try.prog 30 7 = some (7, 4, 1) := by kernel_rfl
@[go_sem] theorem tField_30_8 : tField Try.prog 30 8 = some (8, 29, 1) := by kernel_rfl
@[go_sem] theorem tPlaces_30 : tPlaces Try.prog 30 = some [(0, 1), (1, 1), (2, 1), (3, 1), (4, 1), (5, 1), (6, 1), (7, 1), (8, 1)] := by kernel_rfl
@[go_sem] theorem tSize_31 : tSize Try.prog 31 = some 9 := by kernel_rfl
@[go_sem] theorem tBytes_31 : tBytes Try.prog 31 = some 32 := by kernel_rfl
@[go_sem] theorem tZero_31 : tZero Try.prog 31 = some (.agg #[.int .u8 0, .int .u8 0, .int .u8 0, .int .u8 0, .int .u8 0, .int .u8 0, .int .u8 0, .bool false, .slice none 0 0]) := by kernel_rfl
@[go_sem] theorem tAgg_31 : tAgg Try.prog 31 = some true := by kernel_rfl
@[go_sem] theorem tKind_31 : tKind Try.prog 31 = some .other := by kernel_rfl
@[go_sem] theorem isRowT_31 : isRowT Try.prog 31 = false := by kernel_rfl
@[go_sem] theorem tField_31_0 : tField Try.prog 31 0 = some (0, 5, 1) := by kernel_rfl
@[go_sem] theorem tField_31_1 : tField Try.prog 31 1 = some (1, 5, 1) := by kernel_rfl
@[go_sem] theorem tField_31_2 : tField Try.prog 31 2 = some (2, 5, 1) := by kernel_rfl
@[go_sem] theorem tField_31_3 : tField Try.prog 31 3 = some (3, 5, 1) := by kernel_rfl
@[go_sem] theorem tField_31_4 : tField Try.prog 31 4 = some (4, 5, 1) := by kernel_rfl
@[go_sem] theorem tField_31_5 : tField Try.prog 31 5 = some (5, 5, 1) := by kernel_rfl
@[go_sem] theorem tField_31_6 : tField Try.prog 31 6 = some (6, 5, 1) := by kernel_rfl
@[go_sem] theorem tField_31_7 : tField Try.prog 31 7 = some (7, 4, 1) := by kernel_rfl
@[go_sem] theorem tField_31_8 : tField Try.prog 31 8 = some (8, 29, 1) := by kernel_rfl
@[go_sem] theorem tPlaces_31 : tPlaces Try.prog 31 = some [(0, 1), (1, 1), (2, 1), (3, 1), (4, 1), (5, 1), (6, 1), (7, 1), (8, 1)] := by kernel_rfl
@[go_sem] theorem tSize_32 : tSize Try.prog 32 = some 1 := by kernel_rfl
@[go_sem] theorem tBytes_32 : tBytes Try.prog 32 = some 24 := by kernel_rfl
@[go_sem] theorem tZero_32 : tZero Try.prog 32 = some (.slice none 0 0) := by kernel_rfl
@[go_sem] theorem tAgg_32 : tAgg Try.prog 32 = some false := by kernel_rfl
@[go_sem] theorem tKind_32 : tKind Try.prog 32 = some .slice := by kernel_rfl
@[go_sem] theorem isRowT_32 : isRowT Try.prog 32 = true := by kernel_rfl
@[go_sem] theorem isU8_32 : isU8 Try.prog 32 = false := by kernel_rfl
@[go_sem] theorem tElem_32 : tElem Try.prog 32 = some 31 := by kernel_rfl
@[go_sem] theorem tSize_33 : tSize Try.prog 33 = some 8 := by kernel_rfl
@[go_sem] theorem tBytes_33 : tBytes Try.prog 33 = some 56 := by kernel_rfl
@[go_sem] theorem tZero_33 : tZero Try.prog 33 = some (.agg #[.slice none 0 0, .slice none 0 0, .int .u8 0, .int .u8 0, .int .u8 0, .int .u8 0, .bool false, .int .u8 0]) := by kernel_rfl
@[go_sem] theorem tAgg_33 : tAgg Try.prog 33 = some true := by kernel_rfl
@[go_sem] theorem tKind_33 : tKind Try.prog 33 = some .other := by kernel_rfl
@[go_sem] theorem isRowT_33 : isRowT Try.prog 33 = false := by kernel_rfl
@[go_sem] theorem tField_33_0 : tField Try.prog 33 0 = some (0, 32, 1) := by kernel_rfl
@[go_sem] theorem tField_33_1 : tField Try.prog 33 1 = some (1, 29, 1) := by kernel_rfl
@[go_sem] theorem tField_33_2 : tField Try.prog 33 2 = some (2, 5, 1) := by kernel_rfl
@[go_sem] theorem tField_33_3 : tField Try.prog 33 3 = some (3, 5, 1) := by kernel_rfl
@[go_sem] theorem tField_33_4 : tField Try.prog 33 4 = some (4, 5, 1) := by kernel_rfl
@[go_sem] theorem tField_33_5 : tField Try.prog 33 5 = some (5, 5, 1) := by kernel_rfl
@[go_sem] theorem tField_33_6 : tField Try.prog 33 6 = some (6, 4, 1) := by kernel_rfl
@[go_sem] theorem tField_33_7 : tField Try.prog 33 7 = some (7, 5, 1) := by kernel_rfl
@[go_sem] theorem tPlaces_33 : tPlaces Try.prog 33 = some [(0, 1), (1, 1), (2, 1), (3, 1), (4, 1), (5, 1), (6, 1), (7, 1)] := by kernel_rfl
@[go_sem] theorem tSize_34 : tSize Try.prog 34 = some 8 := by kernel_rfl
@[go_sem] theorem tBytes_34 : tBytes Try.prog 34 = some 56 := by kernel_rfl
@[go_sem] theorem tZero_34 : tZero Try.prog 34 = some (.agg #[.slice none 0 0, .slice none 0 0, .int .u8 0, .int .u8 0, .int .u8 0, .int .u8 0, .bool false, .int .u8 0]) := by kernel_rfl
@[go_sem] theorem tAgg_34 : tAgg Try.prog 34 = some true := by kernel_rfl
@[go_sem] theorem tKind_34 : tKind Try.prog 34 = some .other := by kernel_rfl
@[go_sem] theorem isRowT_34 : isRowT Try.prog 34 = false := by kernel_rfl
@[go_sem] theorem tField_34_0 : tField Try.prog 34 0 = some (0, 32, 1) := by kernel_rfl
@[go_sem] theorem tField_34_1 : tField Try.prog 34 1 = some (1, 29, 1) := by kernel_rfl
@[go_sem] theorem tField_34_2 : tField Try.prog 34 2 = some (2, 5, 1) := by kernel_rfl
@[go_sem] theorem tField_34_3 : tField Try.prog 34 3 = some (3, 5, 1) := by kernel_rfl
@[go_sem] theorem tField_34_4 : tField Try.prog 34 4 = some (4, 5, 1) := by kernel_rfl
@[go_sem] theorem tField_34_5 : tField Try.prog 34 5 = some (5, 5, 1) := by kernel_rfl
@[go_sem] theorem tField_34_6 : tField Try.prog 34 6 = some (6, 4, 1) := by kernel_rfl
@[go_sem] theorem tField_34_7 : tField Try.prog 34 7 = some (7, 5, 1) := by kernel_rfl
@[go_sem] theorem tPlaces_34 : tPlaces Try.prog 34 = some [(0, 1), (1, 1), (2, 1), (3, 1), (4, 1), (5, 1), (6, 1), (7, 1)] := by kernel_rfl
@[go_sem] theorem tSize_35 : tSize Try.prog 35 = some 5 := by kernel_rfl
@[go_sem] theorem tBytes_35 : tBytes Try.prog 35 = some 32 := by kernel_rfl
@[go_sem] theorem tZero_35 : tZero Try.prog 35 = some (.agg #[.int .i64 0, .int .u8 0, .int .i64 0, .bool false, .bool false]) := by kernel_rfl
@[go_sem] theorem tAgg_35 : tAgg Try.prog 35 = some true := by kernel_rfl
@[go_sem] theorem tKind_35 : tKind Try.prog 35 = some .other := by kernel_rfl
@[go_sem] theorem isRowT_35 : isRowT Try.prog 35 = false := by kernel_rfl
@[go_sem] theorem tField_35_0 : tField Try.prog 35 0 = some (0, 3, 1) := by kernel_rfl
@[go_sem] theorem tField_35_1 : tField Try.prog 35 1 = some (1, 5, 1) := by kernel_rfl
@[go_sem] theorem tField_35_2 : tField Try.prog 35 2 = some (2, 3, 1) := by kernel_rfl
@[go_sem] theorem tField_35_3 : tField Try.prog 35 3 = some (3, 4, 1) := by kernel_rfl
@[go_sem] theorem tField_35_4 : tField Try.prog 35 4 = some (4, 4, 1) := by kernel_rfl
@[go_sem] theorem tPlaces_35 : tPlaces Try.prog 35 = some [(0, 1), (1, 1), (2, 1), (3, 1), (4, 1)] := by kernel_rfl
@[go_sem] theorem tSize_36 : tSize Try.prog 36 = some 5 := by kernel_rfl
@[go_sem] theorem tBytes_36 : tBytes Try.prog 36 = some 32 := by kernel_rfl
@[go_sem] theorem tZero_36 : tZero Try.prog 36 = some (.agg #[.int .i64 0, .int .u8 0, .int .i64 0, .bool false, .bool false]) := by kernel_rfl
@[go_sem] theorem tAgg_36 : tAgg Try.prog 36 = some true := by kernel_rfl
@[go_sem] theorem tKind_36 : tKind Try.prog 36 = some .other := by kernel_rfl
@[go_sem] theorem isRowT_36 : isRowT Try.prog 36 = false := by kernel_rfl
@[go_sem] theorem tField_36_0 : tField Try.prog 36 0 = some (0, 3, 1) := by kernel_rfl
@[go_sem] theorem tField_36_1 : tField Try.prog 36 1 = some (1, 5, 1) := by kernel_rfl
@[go_sem] theorem tField_36_2 : tField Try.prog 36 2 = some (2, 3, 1) := by kernel_rfl
@[go_sem] theorem tField_36_3 : tField Try.prog 36 3 = some (3, 4, 1) := by kernel_rfl
@[go_sem] theorem tField_36_4 : tField Try.prog 36 4 = some (4, 4, 1) := by kernel_rfl
@[go_sem] theorem tPlaces_36 : tPlaces Try.prog 36 = some [(0, 1), (1, 1), (2, 1), (3, 1), (4, 1)] := by kernel_rfl
@[go_sem] theorem tSize_37 : tSize Try.prog 37 = some 1 := by kernel_rfl
@[go_sem] theorem tBytes_37 : tBytes Try.prog 37 = some 24 := by kernel_rfl
@[go_sem] theorem tZero_37 : tZero Try.prog 37 = some (.slice none 0 0) := by kernel_rfl
@[go_sem] theorem tAgg_37 : tAgg Try.prog 37 = some false := by kernel_rfl
@[go_sem] theorem tKind_37 : tKind Try.prog 37 = some .slice := by kernel_rfl
@[go_sem] theorem isRowT_37 : isRowT Try.prog 37 = true := by kernel_rfl
@[go_sem] theorem isU8_37 : isU8 Try.prog 37 = false := by kernel_rfl
@[go_sem] theorem tElem_37 : tElem Try.prog 37 = some 36 := by kernel_rfl
@[go_sem] theorem tSize_38 : tSize Try.prog 38 = some 6 := by kernel_rfl
@[go_sem] theorem tBytes_38 : tBytes Try.prog 38 = some 40 := by kernel_rfl
@[go_sem] theorem tZero_38 : tZero Try.prog 38 = some (.agg #[.int .i64 0, .slice none 0 0, .int .u8 0, .bool false, .bool false, .bool false]) := by kernel_rfl
@[go_sem] theorem tAgg_38 : tAgg Try.prog 38 = some true := by kernel_rfl
@[go_sem] theorem tKind_38 : tKind Try.prog 38 = some .other := by kernel_rfl
@[go_sem] theorem isRowT_38 : isRowT Try.prog 38 = false := by kernel_rfl
@[go_sem] theorem tField_38_0 : tField Try.prog 38 0 = some (0, 2, 1) := by kernel_rfl
@[go_sem] theorem tField_38_1 : tField Try.prog 38 1 = some (1, 37, 1) := by kernel_rfl
@[go_sem] theorem tField_38_2 : tField Try.prog 38 2 = some (2, 5, 1) := by kernel_rfl
@[go_sem] theorem tField_38_3 : tField Try.prog 38 3 = some (3, 4, 1) := by kernel_rfl
@[go_sem] theorem tField_38_4 : tField Try.prog 38 4 = some (4, 4, 1) := by kernel_rfl
@[go_sem] theorem tField_38_5 : tField Try.prog 38 5 = some (5, 4, 1) := by kernel_rfl
@[go_sem] theorem tPlaces_38 : tPlaces Try.prog 38 = some [(0, 1), (1, 1), (2, 1), (3, 1), (4, 1), (5, 1)] := by kernel_rfl
@[go_sem] theorem tSize_39 : tSize Try.prog 39 = some 6 := by kernel_rfl
@[go_sem] theorem tBytes_39 : tBytes Try.prog 39 = some 40 := by kernel_rfl
@[go_sem] theorem tZero_39 : tZero Try.prog 39 = some (.agg #[.int .i64 0, .slice none 0 0, .int .u8 0, .bool false, .bool false, .bool false]) := by kernel_rfl
@[go_sem] theorem tAgg_39 : tAgg Try.prog 39 = some true := by kernel_rfl
@[go_sem] theorem tKind_39 : tKind Try.prog 39 = some .other := by kernel_rfl
@[go_sem] theorem isRowT_39 : isRowT Try.prog 39 = false := by kernel_rfl
@[go_sem] theorem tField_39_0 : tField Try.prog 39 0 = some (0, 2, 1) := by kernel_rfl
@[go_sem] theorem tField_39_1 : tField Try.prog 39 1 = some (1, 37, 1) := by kernel_rfl
@[go_sem] theorem tField_39_2 : tField Try.prog 39 2 = some (2, 5, 1) := by kernel_rfl
@[go_sem] theorem tField_39_3 : tField Try.prog 39 3 = some (3, 4, 1) := by kernel_rfl
@[go_sem] theorem tField_39_4 : tField Try.prog 39 4 = some (4, 4, 1) := by kernel_rfl
@[go_sem] theorem tField_39_5 : tField Try.prog 39 5 = some (5, 4, 1) := by kernel_rfl
@[go_sem] theorem tPlaces_39 : tPlaces Try.prog 39 = some [(0, 1), (1, 1), (2, 1), (3, 1), (4, 1), (5, 1)] := by kernel_rfl
@[go_sem] theorem tSize_40 : tSize Try.prog 40 = some 3 := by kernel_rfl
@[go_sem] theorem tBytes_40 : tBytes Try.prog 40 = some 24 := by kernel_rfl
@[go_sem] theorem tZero_40 : tZero Try.prog 40 = some (.agg #[.int .u8 0, .int .i64 0, .int .i64 0]) := by kernel_rfl
@[go_sem] theorem tAgg_40 : tAgg Try.prog 40 = some true := by kernel_rfl
@[go_sem] theorem tKind_40 : tKind Try.prog 40 = some .other := by kernel_rfl
@[go_sem] theorem isRowT_40 : isRowT Try.prog 40 = false := by kernel_rfl
@[go_sem] theorem tField_40_0 : tField Try.prog 40 0 = some (0, 5, 1) := by kernel_rfl
@[go_sem] theorem tField_40_1 : tField Try.prog 40 1 = some (1, 3, 1) := by kernel_rfl
@[go_sem] theorem tField_40_2 : tField Try.prog 40 2 = some (2, 2, 1) := by kernel_rfl
@[go_sem] theorem tPlaces_40 : tPlaces Try.prog 40 = some [(0, 1), (1, 1), (2, 1)] := by kernel_rfl
@[go_sem] theorem tSize_41 : tSize Try.prog 41 = some 3 := by kernel_rfl
@[go_sem] theorem tBytes_41 : tBytes Try.prog 41 = some 24 := by kernel_rfl
@[go_sem] theorem tZero_41 : tZero Try.prog 41 = some (.agg #[.int .u8 0, .int .i64 0, .int .i64 0]) := by kernel_rfl
@[go_sem] theorem tAgg_41 : tAgg Try.prog 41 = some true := by kernel_rfl
@[go_sem] theorem tKind_41 : tKind Try.prog 41 = some .other := by kernel_rfl
@[go_sem] theorem isRowT_41 : isRowT Try.prog 41 = false := by kernel_rfl
@[go_sem] theorem tField_41_0 : tField Try.prog 41 0 = some (0, 5, 1) := by kernel_rfl
@[go_sem] theorem tField_41_1 : tField Try.prog 41 1 = some (1, 3, 1) := by kernel_rfl
@[go_sem] theorem tField_41_2 : tField Try.prog 41 2 = some (2, 2, 1) := by kernel_rfl
@[go_sem] theorem tPlaces_41 : tPlaces Try.prog 41 = some [(0, 1), (1, 1), (2, 1)] := by kernel_rfl
@[go_sem] theorem tSize_42 : tSize Try.prog 42 = some 1 := by kernel_rfl
@[go_sem] theorem tBytes_42 : tBytes Try.prog 42 = some 8 := by kernel_rfl
@[go_sem] theorem tZero_42 : tZero Try.prog 42 = some (.nilFunc) := by kernel_rfl
@[go_sem] theorem tAgg_42 : tAgg Try.prog 42 = some false := by kernel_rfl
@[go_sem] theorem tKind_42 : tKind Try.prog 42 = some .func := by kernel_rfl
@[go_sem] theorem isRowT_42 : isRowT Try.prog 42 = false := by kernel_rfl
@[go_sem] theorem tSize_43 : tSize Try.prog 43 = some 1 := by kernel_rfl
@[go_sem] theorem tBytes_43 : tBytes Try.prog 43 = some 8 := by kernel_rfl
@[go_sem] theorem tZero_43 : tZero Try.prog 43 = some (.nilFunc) := by kernel_rfl
@[go_sem] theorem tAgg_43 : tAgg Try.prog 43 = some false := by kernel_rfl
@[go_sem] theorem tKind_43 : tKind Try.prog 43 = some .func := by kernel_rfl
@[go_sem] theorem isRowT_43 : isRowT Try.prog 43 = false := by kernel_rfl
@[go_sem] theorem tSize_44 : tSize Try.prog 44 = some 1 := by kernel_rfl
@[go_sem] theorem tBytes_44 : tBytes Try.prog 44 = some 24 := by kernel_rfl
@[go_sem] theorem tZero_44 : tZero Try.prog 44 = some (.slice none 0 0) := by kernel_rfl
@[go_sem] theorem tAgg_44 : tAgg Try.prog 44 = some false := by kernel_rfl
@[go_sem] theorem tKind_44 : tKind Try.prog 44 = some .slice := by kernel_rfl
@[go_sem] theorem isRowT_44 : isRowT Try.prog 44 = true := by kernel_rfl
@[go_sem] theorem isU8_44 : isU8 Try.prog 44 = false := by kernel_rfl
@[go_sem] theorem tElem_44 : tElem Try.prog 44 = some 41 := by kernel_rfl
@[go_sem] theorem tSize_45 : tSize Try.prog 45 = some 1 := by kernel_rfl
@[go_sem] theorem tBytes_45 : tBytes Try.prog 45 = some 8 := by kernel_rfl
@[go_sem] theorem tZero_45 : tZero Try.prog 45 = some (.nilFunc) := by kernel_rfl
@[go_sem] theorem tAgg_45 : tAgg Try.prog 45 = some false := by kernel_rfl
@[go_sem] theorem tKind_45 : tKind Try.prog 45 = some .func := by kernel_rfl
@[go_sem] theorem isRowT_45 : isRowT Try.prog 45 = false := by kernel_rfl
@[go_sem] theorem tSize_46 : tSize Try.prog 46 = some 2 := by kernel_rfl
@[go_sem] theorem tBytes_46 : tBytes Try.prog 46 = some 16 := by kernel_rfl
@[go_sem] theorem tZero_46 : tZero Try.prog 46 = some (.agg #[.int .i64 0, .int .i64 0]) := by kernel_rfl
@[go_sem] theorem tAgg_46 : tAgg Try.prog 46 = some true := by kernel_rfl
@[go_sem] theorem tKind_46 : tKind Try.prog 46 = some .other := by kernel_rfl
@[go_sem] theorem isRowT_46 : isRowT Try.prog 46 = false := by kernel_rfl
@[go_sem] theorem tField_46_0 : tField Try.prog 46 0 = some (0, 3, 1) := by kernel_rfl
@[go_sem] theorem tField_46_1 : tField Try.prog 46 1 = some (1, 3, 1) := by kernel_rfl
@[go_sem] theorem tPlaces_46 : tPlaces Try.prog 46 = some [(0, 1), (1, 1)] := by kernel_rfl
@[go_sem] theorem tSize_47 : tSize Try.prog 47 = some 2 := by kernel_rfl
@[go_sem] theorem tBytes_47 : tBytes Try.prog 47 = some 16 := by kernel_rfl
@[go_sem] theorem tZero_47 : tZero Try.prog 47 = some (.agg #[.int .i64 0, .int .i64 0]) := by kernel_rfl
@[go_sem] theorem tAgg_47 : tAgg Try.prog 47 = some true := by kernel_rfl
@[go_sem] theorem tKind_47 : tKind Try.prog 47 = some .other := by kernel_rfl
@[go_sem] theorem isRowT_47 : isRowT Try.prog 47 = false := by kernel_rfl
@[go_sem] theorem tField_47_0 : tField Try.prog 47 0 = some (0, 3, 1) := by kernel_rfl
@[go_sem] theorem tField_47_1 : tField Try.prog 47 1 = some (1, 3, 1) := by kernel_rfl
@[go_sem] theorem tPlaces_47 : tPlaces Try.prog 47 = some [(0, 1), (1, 1)] := by kernel_rfl
@[go_sem] theorem tSize_48 : tSize Try.prog 48 = some 1 := by kernel_rfl
@[go_sem] theorem tBytes_48 : tBytes Try.prog 48 = some 24 := by kernel_rfl
@[go_sem] theorem tZero_48 : tZero Try.prog 48 = some (.slice none 0 0) := by kernel_rfl
@[go_sem] theorem tAgg_48 : tAgg Try.prog 48 = some false := by kernel_rfl
@[go_sem] theorem tKind_48 : tKind Try.prog 48 = some .slice := by kernel_rfl
@[go_sem] theorem isRowT_48 : isRowT Try.prog 48 = true := by kernel_rfl
@[go_sem] theorem isU8_48 : isU8 Try.prog 48 = false := by kernel_rfl
@[go_sem] theorem tElem_48 : tElem Try.prog 48 = some 52 := by kernel_rfl
@[go_sem] theorem tSize_49 : tSize Try.prog 49 = some 9 := by kernel_rfl
@[go_sem] theorem tBytes_49 : tBytes Try.prog 49 = some 80 := by kernel_rfl
@[go_sem] theorem tZero_49 : tZero Try.prog 49 = some (.agg #[.int .u8 0, .int .i64 0, .int .i64 0, .int .i64 0, .int .i64 0, .int .i64 0, .int .u8 0, .bool false, .slice none 0 0]) := by kernel_rfl
@[go_sem] theorem tAgg_49 : tAgg Try.prog 49 = some true := by kernel_rfl
@[go_sem] theorem tKind_49 : tKind Try.prog 49 = some .other := by kernel_rfl
@[go_sem] theorem isRowT_49 : isRowT Try.prog 49 = false := by kernel_rfl
@[go_sem] theorem tField_49_0 : tField Try.prog 49 0 = some (0, 5, 1) := by kernel_rfl
@[go_sem] theorem tField_49_1 : tField Try.prog 49 1 = some (1, 3, 1) := by kernel_rfl
@[go_sem] theorem tField_49_2 : tField Try.prog 49 2 = some (2, 3, 1) := by kernel_rfl
@[go_sem] theorem tField_49_3 : tField Try.prog 49 3 = some (3, 3, 1) := by kernel_rfl
@[go_sem] theorem tField_49_4 : tField Try.prog 49 4 = some (4, 2, 1) := by kernel_rfl
@[go_sem] theorem tField_49_5 : tField Try.prog 49 5 = some (5, 2, 1) := by kernel_rfl
@[go_sem] theorem tField_49_6 : tField Try.prog 49 6 = some (6, 5, 1) := by kernel_rfl
@[go_sem] theorem tField_49_7 : tField Try.prog 49 7 = some (7, 4, 1) := by kernel_rfl
@[go_sem] theorem tField_49_8 : tField Try.prog 49 8 = some (8, 48, 1) := by kernel_rfl
@[go_sem] theorem tPlaces_49 : tPlaces Try.prog 49 = some [(0, 1), (1, 1), (2, 1), (3, 1), (4, 1), (5, 1), (6, 1), (7, 1), (8, 1)] := by kernel_rfl
@[go_sem] theorem tSize_50 : tSize Try.prog 50 = some 9 := by kernel_rfl
@[go_sem] theorem tBytes_50 : tBytes Try.prog 50 = some 80 := by kernel_rfl
@[go_sem] theorem tZero_50 : tZero Try.prog 50 = some (.agg #[.int .u8 0, .int .i64 0, .int .i64 0, .int .i64 0, .int .i64 0, .int .i64 0, .int .u8 0, .bool false, .slice none 0 0]) := by kernel_rfl
@[go_sem] theorem tAgg_50 : tAgg Try.prog 50 = some true := by kernel_rfl
@[go_sem] theorem tKind_50 : tKind Try.prog 50 = some .other := by kernel_rfl
@[go_sem] theorem isRowT_50 : isRowT Try.prog 50 = false := by kernel_rfl
@[go_sem] theorem tField_50_0 : tField Try.prog 50 0 = some (0, 5, 1) := by kernel_rfl
@[go_sem] theorem tField_50_1 : tField Try.prog 50 1 = some (1, 3, 1) := by kernel_rfl
@[go_sem] theorem tField_50_2 : tField Try.prog 50 2 = some (2, 3, 1) := by kernel_rfl
@[go_sem] theorem tField_50_3 : tField Try.prog 50 3 = some (3, 3, 1) := by kernel_rfl
@[go_sem] theorem tField_50_4 : tField Try.prog 50 4 = some (4, 2, 1) := by kernel_rfl
@[go_sem] theorem tField_50_5 : tField Try.prog 50 5 = some (5, 2, 1) := by kernel_rfl
@[go_sem] theorem tField_50_6 : tField Try.prog 50 6 = some (6, 5, 1) := by kernel_rfl
@[go_sem] theorem tField_50_7 : tField Try.prog 50 7 = some (7, 4, 1) := by kernel_rfl
@[go_sem] theorem tField_50_8 : tField Try.prog 50 8 = some (8, 48, 1) := by kernel_rfl
@[go_sem] theorem tPlaces_50 : tPlaces Try.prog 50 = some [(0, 1), (1, 1), (2, 1), (3, 1), (4, 1), (5, 1), (6, 1), (7, 1), (8, 1)] := by kernel_rfl
@[go_sem] theorem tSize_51 : tSize Try.prog 51 = some 2 := by kernel_rfl
@[go_sem] theorem tBytes_51 : tBytes Try.prog 51 = some 16 := by kernel_rfl
@[go_sem] theorem tZero_51 : tZero Try.prog 51 = some (.agg #[.int .i64 0, .int .u8 0]) := by kernel_rfl
@[go_sem] theorem tAgg_51 : tAgg Try.prog 51 = some true := by kernel_rfl
@[go_sem] theorem tKind_51 : tKind Try.prog 51 = some .other := by kernel_rfl
@[go_sem] theorem isRowT_51 : isRowT Try.prog 51 = false := by kernel_rfl
@[go_sem] theorem tField_51_0 : tField Try.prog 51 0 = some (0, 2, 1) := by kernel_rfl
@[go_sem] theorem tField_51_1 : tField Try.prog 51 1 = some (1, 5, 1) := by kernel_rfl
@[go_sem] theorem tPlaces_51 : tPlaces Try.prog 51 = some [(0, 1), (1, 1)] := by kernel_rfl
@[go_sem] theorem tSize_52 : tSize Try.prog 52 = some 2 := by kernel_rfl
@[go_sem] theorem tBytes_52 : tBytes Try.prog 52 = some 16 := by kernel_rfl
@[go_sem] theorem tZero_52 : tZero Try.prog 52 = some (.agg #[.int .i64 0, .int .u8 0]) := by kernel_rfl
@[go_sem] theorem tAgg_52 : tAgg Try.prog 52 = some true := by kernel_rfl
@[go_sem] theorem tKind_52 : tKind Try.prog 52 = some .other := by kernel_rfl
@[go_sem] theorem isRowT_52 : isRowT Try.prog 52 = false := by kernel_rfl
@[go_sem] theorem tField_52_0 : tField Try.prog 52 0 = some (0, 2, 1) := by kernel_rfl
@[go_sem] theorem tField_52_1 : tField Try.prog 52 1 = some (1, 5, 1) := by kernel_rfl
@[go_sem] theorem tPlaces_52 : tPlaces Try.prog 52 = some [(0, 1), (1, 1)] := by kernel_rfl
@[go_sem] theorem tSize_53 : tSize Try.prog 53 = some 1 := by kernel_rfl
@[go_sem] theorem tBytes_53 : tBytes Try.prog 53 = some 24 := by kernel_rfl
@[go_sem] theorem tZero_53 : tZero Try.prog 53 = some (.slice none 0 0) := by kernel_rfl
@[go_sem] theorem tAgg_53 : tAgg Try.prog 53 = some false := by kernel_rfl
@[go_sem] theorem tKind_53 : tKind Try.prog 53 = some .slice := by kernel_rfl
@[go_sem] theorem isRowT_53 : isRowT Try.prog 53 = true := by kernel_rfl
@[go_sem] theorem isU8_53 : isU8 Try.prog 53 = false := by kernel_rfl
@[go_sem] theorem tElem_53 : tElem Try.prog 53 = some 3 := by kernel_rfl
@[go_sem] theorem tSize_54 : tSize Try.prog 54 = some 1 := by kernel_rfl
@[go_sem] theorem tBytes_54 : tBytes Try.prog 54 = some 8 := by kernel_rfl
@[go_sem] theorem tZero_54 : tZero Try.prog 54 = some (.nilFunc) := by kernel_rfl
@[go_sem] theorem tAgg_54 : tAgg Try.prog 54 = some false := by kernel_rfl
@[go_sem] theorem tKind_54 : tKind Try.prog 54 = some .func := by kernel_rfl
@[go_sem] theorem isRowT_54 : isRowT Try.prog 54 = false := by kernel_rfl
@[go_sem] theorem tSize_55 : tSize Try.prog 55 = some 1 := by kernel_rfl
@[go_sem] theorem tBytes_55 : tBytes Try.prog 55 = some 8 := by kernel_rfl
@[go_sem] theorem tZero_55 : tZero Try.prog 55 = some (.nilFunc) := by kernel_rfl
@[go_sem] theorem tAgg_55 : tAgg Try.prog 55 = some false := by kernel_rfl
@[go_sem] theorem tKind_55 : tKind Try.prog 55 = some .func := by kernel_rfl
@[go_sem] theorem isRowT_55 : isRowT Try.prog 55 = false := by kernel_rfl
@[go_sem] theorem tSize_56 : tSize Try.prog 56 = some 1 := by kernel_rfl
@[go_sem] theorem tBytes_56 : tBytes Try.prog 56 = some 8 := by kernel_rfl
@[go_sem] theorem tZero_56 : tZero Try.prog 56 = some (.nilFunc) := by kernel_rfl
@[go_sem] theorem tAgg_56 : tAgg Try.prog 56 = some false := by kernel_rfl
@[go_sem] theorem tKind_56 : tKind Try.prog 56 = some .func := by kernel_rfl
@[go_sem] theorem isRowT_56 : isRowT Try.prog 56 = false := by kernel_rfl
@[go_sem] theorem tSize_57 : tSize Try.prog 57 = some 1 := by kernel_rfl
@[go_sem] theorem tBytes_57 : tBytes Try.prog 57 = some 8 := by kernel_rfl
@[go_sem] theorem tZero_57 : tZero Try.prog 57 = some (.nilFunc) := by kernel_rfl
@[go_sem] theorem tAgg_57 : tAgg Try.prog 57 = some false := by kernel_rfl
@[go_sem] theorem tKind_57 : tKind Try.prog 57 = some .func := by kernel_rfl
@[go_sem] theorem isRowT_57 : isRowT Try.prog 57 = false := by kernel_rfl
@[go_sem] theorem tSize_59 : tSize Try.prog 59 = some 1 := by kernel_rfl
@[go_sem] theorem tBytes_59 : tBytes Try.prog 59 = some 8 := by kernel_rfl
@[go_sem] theorem tZero_59 : tZero Try.prog 59 = some (.nilFunc) := by kernel_rfl
@[go_sem] theorem tAgg_59 : tAgg Try.prog 59 = some false := by kernel_rfl
@[go_sem] theorem tKind_59 : tKind Try.prog 59 = some .func := by kernel_rfl
@[go_sem] theorem isRowT_59 : isRowT Try.prog 59 = false := by kernel_rfl
@[go_sem] theorem tSize_60 : tSize Try.prog 60 = some 1 := by kernel_rfl
@[go_sem] theorem tBytes_60 : tBytes Try.prog 60 = some 8 := by kernel_rfl
@[go_sem] theorem tZero_60 : tZero Try.prog 60 = some (.nilFunc) := by kernel_rfl
@[go_sem] theorem tAgg_60 : tAgg Try.prog 60 = some false := by kernel_rfl
@[go_sem] theorem tKind_60 : tKind Try.prog 60 = some .func := by kernel_rfl
@[go_sem] theorem isRowT_60 : isRowT Try.prog 60 = false := by kernel_rfl
@[go_sem] theorem tSize_61 : tSize Try.prog 61 = some 1 := by kernel_rfl
@[go_sem] theorem tBytes_61 : tBytes Try.prog 61 = some 8 := by kernel_rfl
@[go_sem] theorem tZero_61 : tZero Try.prog 61 = some (.nilFunc) := by kernel_rfl
@[go_sem] theorem tAgg_61 : tAgg Try.prog 61 = some false := by kernel_rfl
@[go_sem] theorem tKind_61 : tKind Try.prog 61 = some .func := by kernel_rfl
@[go_sem] theorem isRowT_61 : isRowT Try.prog 61 = false := by kernel_rfl
@[go_sem] theorem tSize_62 : tSize Try.prog 62 = some 1 := by kernel_rfl
@[go_sem] theorem tBytes_62 : tBytes Try.prog 62 = some 8 := by kernel_rfl
@[go_sem] theorem tZero_62 : tZero Try.prog 62 = some (.nilFunc) := by kernel_rfl
@[go_sem] theorem tAgg_62 : tAgg Try.prog 62 = some false := by kernel_rfl
@[go_sem] theorem tKind_62 : tKind Try.prog 62 = some .func := by kernel_rfl
@[go_sem] theorem isRowT_62 : isRowT Try.prog 62 = false := by kernel_rfl
@[go_sem] theorem tSize_63 : tSize Try.prog 63 = some 1 := by kernel_rfl
@[go_sem] theorem tBytes_63 : tBytes Try.prog 63 = some 8 := by kernel_rfl
@[go_sem] theorem tZero_63 : tZero Try.prog 63 = some (.nilFunc) := by kernel_rfl
@[go_sem] theorem tAgg_63 : tAgg Try.prog 63 = some false := by kernel_rfl
@[go_sem] theorem tKind_63 : tKind Try.prog 63 = some .func := by kernel_rfl
@[go_sem] theorem isRowT_63 : isRowT Try.prog 63 = false := by kernel_rfl
@[go_sem] theorem tSize_64 : tSize Try.prog 64 = some 1 := by kernel_rfl
@[go_sem] theorem tBytes_64 : tBytes Try.prog 64 = some 8 := by kernel_rfl
@[go_sem] theorem tZero_64 : tZero Try.prog 64 = some (.nilFunc) := by kernel_rfl
@[go_sem] theorem tAgg_64 : tAgg Try.prog 64 = some false := by kernel_rfl
@[go_sem] theorem tKind_64 : tKind Try.prog 64 = some .func := by kernel_rfl
@[go_sem] theorem isRowT_64 : isRowT Try.prog 64 = false := by kernel_rfl
@[go_sem] theorem tSize_65 : tSize Try.prog 65 = some 1 := by kernel_rfl
@[go_sem] theorem tBytes_65 : tBytes Try.prog 65 = some 8 := by kernel_rfl
@[go_sem] theorem tZero_65 : tZero Try.prog 65 = some (.nilFunc) := by kernel_rfl
@[go_sem] theorem tAgg_65 : tAgg Try.prog 65 = some false := by kernel_rfl
@[go_sem] theorem tKind_65 : tKind Try.prog 65 = some .func := by kernel_rfl
@[go_sem] theorem isRowT_65 : isRowT Try.prog 65 = false := by kernel_rfl
@[go_sem] theorem tSize_66 : tSize Try.prog 66 = some 1 := by kernel_rfl
@[go_sem] theorem tBytes_66 : tBytes Try.prog 66 = some 8 := by kernel_rfl
@[go_sem] theorem tZero_66 : tZero Try.prog 66 = some (.nilFunc) := by kernel_rfl
@[go_sem] theorem tAgg_66 : tAgg Try.prog 66 = some false := by kernel_rfl
@[go_sem] theorem tKind_66 : tKind Try.prog 66 = some .func := by kernel_rfl
@[go_sem] theorem isRowT_66 : isRowT Try.prog 66 = false := by kernel_rfl
@[go_sem] theorem tSize_69 : tSize Try.prog 69 = some 0 := by kernel_rfl
@[go_sem] theorem tBytes_69 : tBytes Try.prog 69 = some 0 := by kernel_rfl
@[go_sem] theorem tZero_69 : tZero Try.prog 69 = some (.agg #[]) := by kernel_rfl
@[go_sem] theorem tAgg_69 : tAgg Try.prog 69 = some true := by kernel_rfl
@[go_sem] theorem tKind_69 : tKind Try.prog 69 = some .other := by kernel_rfl
@[go_sem] theorem isRowT_69 : isRowT Try.prog 69 = false := by kernel_rfl
@[go_sem] theorem tArr_69 : tArr Try.prog 69 = some (0, 16) := by kernel_rfl
@[go_sem] theorem tPlaces_69 : tPlaces Try.prog 69 = some [] := by kernel_rfl
@[go_sem] theorem tSize_72 : tSize Try.prog 72 = some 1 := by kernel_rfl
@[go_sem] theorem tBytes_72 : tBytes Try.prog 72 = some 8 := by kernel_rfl
@[go_sem] theorem tZero_72 : tZero Try.prog 72 = some (.nilFunc) := by kernel_rfl
@[go_sem] theorem tAgg_72 : tAgg Try.prog 72 = some false := by kernel_rfl
@[go_sem] theorem tKind_72 : tKind Try.prog 72 = some .func := by kernel_rfl
@[go_sem] theorem isRowT_72 : isRowT Try.prog 72 = false := by kernel_rfl
@[go_sem] theorem tSize_73 : tSize Try.prog 73 = some 1 := by kernel_rfl
@[go_sem] theorem tBytes_73 : tBytes Try.prog 73 = some 4 := by kernel_rfl
@[go_sem] theorem tZero_73 : tZero Try.prog 73 = some (.int .u32 0) := by kernel_rfl
@[go_sem] theorem tAgg_73 : tAgg Try.prog 73 = some false := by kernel_rfl
@[go_sem] theorem tKind_73 : tKind Try.prog 73 = some (.int .u32) := by kernel_rfl
@[go_sem] theorem isRowT_73 : isRowT Try.prog 73 = false := by kernel_rfl
@[go_sem] theorem tSize_76 : tSize Try.prog 76 = some 1 := by kernel_rfl
@[go_sem] theorem tBytes_76 : tBytes Try.prog 76 = some 8 := by kernel_rfl
@[go_sem] theorem tZero_76 : tZero Try.prog 76 = some (.nilFunc) := by kernel_rfl
@[go_sem] theorem tAgg_76 : tAgg Try.prog 76 = some false := by kernel_rfl
@[go_sem] theorem tKind_76 : tKind Try.prog 76 = some .func := by kernel_rfl
@[go_sem] theorem isRowT_76 : isRowT Try.prog 76 = false := by kernel_rfl
@[go_sem] theorem tSize_77 : tSize Try.prog 77 = some 1 := by kernel_rfl
@[go_sem] theorem tBytes_77 : tBytes Try.prog 77 = some 8 := by kernel_rfl
@[go_sem] theorem tZero_77 : tZero Try.prog 77 = some (.pointer none) := by kernel_rfl
@[go_sem] theorem tAgg_77 : tAgg Try.prog 77 = some false := by kernel_rfl
@[go_sem] theorem tKind_77 : tKind Try.prog 77 = some .pointer := by kernel_rfl
@[go_sem] theorem isRowT_77 : isRowT Try.prog 77 = false := by kernel_rfl
@[go_sem] theorem tSize_82 : tSize Try.prog 82 = some 1 := by kernel_rfl
@[go_sem] theorem tBytes_82 : tBytes Try.prog 82 = some 8 := by kernel_rfl
@[go_sem] theorem tZero_82 : tZero Try.prog 82 = some (.pointer none) := by kernel_rfl
@[go_sem] theorem tAgg_82 : tAgg Try.prog 82 = some false := by kernel_rfl
@[go_sem] theorem tKind_82 : tKind Try.prog 82 = some .other := by kernel_rfl
@[go_sem] theorem isRowT_82 : isRowT Try.prog 82 = false := by kernel_rfl
@[go_sem] theorem tEq_36 : tEq Try.prog 36 = some [(0, 3), (1, 5), (2, 3), (3, 4), (4, 4)] := by kernel_rfl
@[go_sem] theorem tEq_41 : tEq Try.prog 41 = some [(0, 5), (1, 3), (2, 2)] := by kernel_rfl
@[go_sem] theorem tEq_47 : tEq Try.prog 47 = some [(0, 3), (1, 3)] := by kernel_rfl
@[go_sem] theorem tEq_52 : tEq Try.prog 52 = some [(0, 2), (1, 5)] := by kernel_rfl
theorem follows : Try.prog.follows .mixedOrders = true := by kernel_rfl
end Go.Proofs.Ytoecebibhcadoaa.I
