/- What the tables of the program say of its types and functions, as equations. Written by tab.py. No condition. -/
import Derived.Test.YtoecebibhcadoaaDoorISim
import Derived.Test.YtoecebibhcadoaaDoorProg
namespace Go.Proofs.YtoecebibhcadoaaDoor.I
open Go Go.RowKit
set_option linter.unusedVariables false
abbrev Ro (k s b : Nat) (z : Value) (a : Bool) (d : Kind) (r : Bool) : Prop := tSize Tryd.prog k = some s ∧ tBytes Tryd.prog k = some b ∧ tZero Tryd.prog k = some z ∧ tAgg Tryd.prog k = some a ∧ tKind Tryd.prog k = some d ∧ isRowT Tryd.prog k = r
abbrev Rz (k s b : Nat) (a : Bool) (d : Kind) (r : Bool) : Prop := tSize Tryd.prog k = some s ∧ tBytes Tryd.prog k = some b ∧ tAgg Tryd.prog k = some a ∧ tKind Tryd.prog k = some d ∧ isRowT Tryd.prog k = r
abbrev Rf (k j a b c : Nat) : Prop := tField Tryd.prog k j = some (a, b, c)
abbrev Rp (k : Nat) (l : List (Nat × Nat)) : Prop := tPlaces Tryd.prog k = some l
abbrev Rs (k e : Nat) (u : Bool) : Prop := isU8 Tryd.prog k = u ∧ tElem Tryd.prog k = some e
@[go_sem] theorem r1 : Ro 1 1 8 (.nilFunc) false .func false := by and_intros <;> (show _ = _; kernel_rfl)
@[go_sem] theorem r2 : Ro 2 1 8 (.int .i64 0) false (.int .i64) false := by and_intros <;> (show _ = _; kernel_rfl)
@[go_sem] theorem r3 : Ro 3 1 8 (.int .i64 0) false (.int .i64) false := by and_intros <;> (show _ = _; kernel_rfl)
@[go_sem] theorem r4 : Ro 4 1 1 (.bool false) false .bool false := by and_intros <;> (show _ = _; kernel_rfl)
@[go_sem] theorem r5 : Ro 5 1 1 (.int .u8 0) false (.int .u8) false := by and_intros <;> (show _ = _; kernel_rfl)
@[go_sem] theorem r6 : Ro 9 1 16 (.string ⟨#[]⟩) false .string false := by and_intros <;> (show _ = _; kernel_rfl)
@[go_sem] theorem r7 : Ro 12 1 8 (.int .u64 0) false (.int .u64) false := by and_intros <;> (show _ = _; kernel_rfl)
@[go_sem] theorem r8 : Ro 13 2 24 (.agg #[.string ⟨#[]⟩, .int .u64 0]) true .other false := by and_intros <;> (show _ = _; kernel_rfl)
@[go_sem] theorem r9 : Rf 13 0 0 9 1 ∧ Rf 13 1 1 12 1 := by and_intros <;> (show _ = _; kernel_rfl)
@[go_sem] theorem r10 : Rp 13 [(0,1),(1,1)] := by show _ = _; kernel_rfl
@[go_sem] theorem r11 : Ro 20 1 16 (.nilIface) false .iface false := by and_intros <;> (show _ = _; kernel_rfl)
@[go_sem] theorem r12 : Ro 21 1 4 (.int .i32 0) false (.int .i32) false := by and_intros <;> (show _ = _; kernel_rfl)
@[go_sem] theorem r13 : Ro 22 1 24 (.slice none 0 0) false .slice true := by and_intros <;> (show _ = _; kernel_rfl)
@[go_sem] theorem r14 : Rs 22 55 false := by and_intros <;> (show _ = _; kernel_rfl)
@[go_sem] theorem r15 : Ro 23 1 24 (.slice none 0 0) false .slice true := by and_intros <;> (show _ = _; kernel_rfl)
@[go_sem] theorem r16 : Rs 23 5 true := by and_intros <;> (show _ = _; kernel_rfl)
@[go_sem] theorem r17 : Ro 24 8 56 (.agg #[.slice none 0 0, .slice none 0 0, .int .u8 0, .int .u8 0, .int .u8 0, .int .u8 0, .bool false, .int .u8 0]) true .other false := by and_intros <;> (show _ = _; kernel_rfl)
@[go_sem] theorem r18 : Rf 24 0 0 22 1 ∧ Rf 24 1 1 23 1 ∧ Rf 24 2 2 5 1 ∧ Rf 24 3 3 5 1 ∧ Rf 24 4 4 5 1 ∧ Rf 24 5 5 5 1 ∧ Rf 24 6 6 4 1 ∧ Rf 24 7 7 5 1 := by and_intros <;> (show _ = _; kernel_rfl)
@[go_sem] theorem r19 : Rp 24 [(0,1),(1,1),(2,1),(3,1),(4,1),(5,1),(6,1),(7,1)] := by show _ = _; kernel_rfl
@[go_sem] theorem r20 : Ro 25 8 56 (.agg #[.slice none 0 0, .slice none 0 0, .int .u8 0, .int .u8 0, .int .u8 0, .int .u8 0, .bool false, .int .u8 0]) true .other false := by and_intros <;> (show _ = _; kernel_rfl)
@[go_sem] theorem r21 : Rf 25 0 0 22 1 ∧ Rf 25 1 1 23 1 ∧ Rf 25 2 2 5 1 ∧ Rf 25 3 3 5 1 ∧ Rf 25 4 4 5 1 ∧ Rf 25 5 5 5 1 ∧ Rf 25 6 6 4 1 ∧ Rf 25 7 7 5 1 := by and_intros <;> (show _ = _; kernel_rfl)
@[go_sem] theorem r22 : Rp 25 [(0,1),(1,1),(2,1),(3,1),(4,1),(5,1),(6,1),(7,1)] := by show _ = _; kernel_rfl
@[go_sem] theorem r23 : Ro 26 1 8 (.nilFunc) false .func false := by and_intros <;> (show _ = _; kernel_rfl)
@[go_sem] theorem r24 : Ro 27 1 8 (.nilFunc) false .func false := by and_intros <;> (show _ = _; kernel_rfl)
@[go_sem] theorem r25 : Ro 28 1 24 (.slice none 0 0) false .slice true := by and_intros <;> (show _ = _; kernel_rfl)
@[go_sem] theorem r26 : Rs 28 51 false := by and_intros <;> (show _ = _; kernel_rfl)
@[go_sem] theorem r27 : Ro 29 1 24 (.slice none 0 0) false .slice true := by and_intros <;> (show _ = _; kernel_rfl)
@[go_sem] theorem r28 : Rs 29 49 false := by and_intros <;> (show _ = _; kernel_rfl)
@[go_sem] theorem r29 : Ro 30 1 24 (.slice none 0 0) false .slice true := by and_intros <;> (show _ = _; kernel_rfl)
@[go_sem] theorem r30 : Rs 30 58 false := by and_intros <;> (show _ = _; kernel_rfl)
@[go_sem] theorem r31 : Ro 31 3 24 (.agg #[.int .i64 0, .int .i64 0, .int .i64 0]) true .other false := by and_intros <;> (show _ = _; kernel_rfl)
@[go_sem] theorem r32 : tArr Tryd.prog 31 = some (3, 3) := by show _ = _; kernel_rfl
@[go_sem] theorem r33 : Rp 31 [(0,1),(1,1),(2,1)] := by show _ = _; kernel_rfl
@[go_sem] theorem r34 : Ro 32 11 136 (.agg #[.slice none 0 0, .slice none 0 0, .slice none 0 0, .int .i64 0, .int .i64 0, .int .i64 0, .int .i64 0, .int .i64 0, .int .i64 0, .bool false, .int .i64 0]) true .other false := by and_intros <;> (show _ = _; kernel_rfl)
@[go_sem] theorem r35 : Rf 32 0 0 28 1 ∧ Rf 32 1 1 29 1 ∧ Rf 32 2 2 30 1 ∧ Rf 32 3 3 31 3 ∧ Rf 32 4 6 3 1 ∧ Rf 32 5 7 2 1 ∧ Rf 32 6 8 2 1 ∧ Rf 32 7 9 4 1 ∧ Rf 32 8 10 3 1 := by and_intros <;> (show _ = _; kernel_rfl)
@[go_sem] theorem r36 : Rp 32 [(0,1),(1,1),(2,1),(3,3),(6,1),(7,1),(8,1),(9,1),(10,1)] := by show _ = _; kernel_rfl
@[go_sem] theorem r37 : Ro 33 11 136 (.agg #[.slice none 0 0, .slice none 0 0, .slice none 0 0, .int .i64 0, .int .i64 0, .int .i64 0, .int .i64 0, .int .i64 0, .int .i64 0, .bool false, .int .i64 0]) true .other false := by and_intros <;> (show _ = _; kernel_rfl)
@[go_sem] theorem r38 : Rf 33 0 0 28 1 ∧ Rf 33 1 1 29 1 ∧ Rf 33 2 2 30 1 ∧ Rf 33 3 3 31 3 ∧ Rf 33 4 6 3 1 ∧ Rf 33 5 7 2 1 ∧ Rf 33 6 8 2 1 ∧ Rf 33 7 9 4 1 ∧ Rf 33 8 10 3 1 := by and_intros <;> (show _ = _; kernel_rfl)
@[go_sem] theorem r39 : Rp 33 [(0,1),(1,1),(2,1),(3,3),(6,1),(7,1),(8,1),(9,1),(10,1)] := by show _ = _; kernel_rfl
@[go_sem] theorem r40 : Ro 34 1 8 (.nilFunc) false .func false := by and_intros <;> (show _ = _; kernel_rfl)
@[go_sem] theorem r41 : Ro 35 1 8 (.nilFunc) false .func false := by and_intros <;> (show _ = _; kernel_rfl)
@[go_sem] theorem r42 : Ro 36 1 8 (.int .i64 0) false (.int .i64) false := by and_intros <;> (show _ = _; kernel_rfl)
@[go_sem] theorem r43 : Ro 38 1 8 (.nilFunc) false .func false := by and_intros <;> (show _ = _; kernel_rfl)
@[go_sem] theorem r44 : Ro 39 1 8 (.nilFunc) false .func false := by and_intros <;> (show _ = _; kernel_rfl)
@[go_sem] theorem r45 : Ro 40 1 8 (.nilFunc) false .func false := by and_intros <;> (show _ = _; kernel_rfl)
@[go_sem] theorem r46 : Ro 41 1 8 (.nilFunc) false .func false := by and_intros <;> (show _ = _; kernel_rfl)
@[go_sem] theorem r47 : Ro 42 1 8 (.nilFunc) false .func false := by and_intros <;> (show _ = _; kernel_rfl)
@[go_sem] theorem r48 : Ro 43 1 8 (.nilFunc) false .func false := by and_intros <;> (show _ = _; kernel_rfl)
@[go_sem] theorem r49 : Ro 44 1 2 (.int .u16 0) false (.int .u16) false := by and_intros <;> (show _ = _; kernel_rfl)
@[go_sem] theorem r50 : Ro 45 1 8 (.nilFunc) false .func false := by and_intros <;> (show _ = _; kernel_rfl)
@[go_sem] theorem r51 : Ro 46 1 8 (.nilFunc) false .func false := by and_intros <;> (show _ = _; kernel_rfl)
@[go_sem] theorem r52 : Ro 47 1 24 (.slice none 0 0) false .slice true := by and_intros <;> (show _ = _; kernel_rfl)
@[go_sem] theorem r53 : Rs 47 57 false := by and_intros <;> (show _ = _; kernel_rfl)
@[go_sem] theorem r54 : Ro 48 9 80 (.agg #[.int .u8 0, .int .i64 0, .int .i64 0, .int .i64 0, .int .i64 0, .int .i64 0, .int .u8 0, .bool false, .slice none 0 0]) true .other false := by and_intros <;> (show _ = _; kernel_rfl)
@[go_sem] theorem r55 : Rf 48 0 0 5 1 ∧ Rf 48 1 1 3 1 ∧ Rf 48 2 2 3 1 ∧ Rf 48 3 3 3 1 ∧ Rf 48 4 4 2 1 ∧ Rf 48 5 5 2 1 ∧ Rf 48 6 6 5 1 ∧ Rf 48 7 7 4 1 ∧ Rf 48 8 8 47 1 := by and_intros <;> (show _ = _; kernel_rfl)
@[go_sem] theorem r56 : Rp 48 [(0,1),(1,1),(2,1),(3,1),(4,1),(5,1),(6,1),(7,1),(8,1)] := by show _ = _; kernel_rfl
@[go_sem] theorem r57 : Ro 49 9 80 (.agg #[.int .u8 0, .int .i64 0, .int .i64 0, .int .i64 0, .int .i64 0, .int .i64 0, .int .u8 0, .bool false, .slice none 0 0]) true .other false := by and_intros <;> (show _ = _; kernel_rfl)
@[go_sem] theorem r58 : Rf 49 0 0 5 1 ∧ Rf 49 1 1 3 1 ∧ Rf 49 2 2 3 1 ∧ Rf 49 3 3 3 1 ∧ Rf 49 4 4 2 1 ∧ Rf 49 5 5 2 1 ∧ Rf 49 6 6 5 1 ∧ Rf 49 7 7 4 1 ∧ Rf 49 8 8 47 1 := by and_intros <;> (show _ = _; kernel_rfl)
@[go_sem] theorem r59 : Rp 49 [(0,1),(1,1),(2,1),(3,1),(4,1),(5,1),(6,1),(7,1),(8,1)] := by show _ = _; kernel_rfl
@[go_sem] theorem r60 : Ro 50 2 16 (.agg #[.int .i64 0, .int .i64 0]) true .other false := by and_intros <;> (show _ = _; kernel_rfl)
@[go_sem] theorem r61 : Rf 50 0 0 3 1 ∧ Rf 50 1 1 3 1 := by and_intros <;> (show _ = _; kernel_rfl)
@[go_sem] theorem r62 : Rp 50 [(0,1),(1,1)] := by show _ = _; kernel_rfl
@[go_sem] theorem r63 : Ro 51 2 16 (.agg #[.int .i64 0, .int .i64 0]) true .other false := by and_intros <;> (show _ = _; kernel_rfl)
@[go_sem] theorem r64 : Rf 51 0 0 3 1 ∧ Rf 51 1 1 3 1 := by and_intros <;> (show _ = _; kernel_rfl)
@[go_sem] theorem r65 : Rp 51 [(0,1),(1,1)] := by show _ = _; kernel_rfl
@[go_sem] theorem r66 : Ro 52 1 8 (.nilFunc) false .func false := by and_intros <;> (show _ = _; kernel_rfl)
@[go_sem] theorem r67 : Ro 53 1 8 (.nilFunc) false .func false := by and_intros <;> (show _ = _; kernel_rfl)
@[go_sem] theorem r68 : Ro 54 9 32 (.agg #[.int .u8 0, .int .u8 0, .int .u8 0, .int .u8 0, .int .u8 0, .int .u8 0, .int .u8 0, .bool false, .slice none 0 0]) true .other false := by and_intros <;> (show _ = _; kernel_rfl)
@[go_sem] theorem r69 : Rf 54 0 0 5 1 ∧ Rf 54 1 1 5 1 ∧ Rf 54 2 2 5 1 ∧ Rf 54 3 3 5 1 ∧ Rf 54 4 4 5 1 ∧ Rf 54 5 5 5 1 ∧ Rf 54 6 6 5 1 ∧ Rf 54 7 7 4 1 ∧ Rf 54 8 8 23 1 := by and_intros <;> (show _ = _; kernel_rfl)
@[go_sem] theorem r70 : Rp 54 [(0,1),(1,1),(2,1),(3,1),(4,1),(5,1),(6,1),(7,1),(8,1)] := by show _ = _; kernel_rfl
@[go_sem] theorem r71 : Ro 55 9 32 (.agg #[.int .u8 0, .int .u8 0, .int .u8 0, .int .u8 0, .int .u8 0, .int .u8 0, .int .u8 0, .bool false, .slice none 0 0]) true .other false := by and_intros <;> (show _ = _; kernel_rfl)
@[go_sem] theorem r72 : Rf 55 0 0 5 1 ∧ Rf 55 1 1 5 1 ∧ Rf 55 2 2 5 1 ∧ Rf 55 3 3 5 1 ∧ Rf 55 4 4 5 1 ∧ Rf 55 5 5 5 1 ∧ Rf 55 6 6 5 1 ∧ Rf 55 7 7 4 1 ∧ Rf 55 8 8 23 1 := by and_intros <;> (show _ = _; kernel_rfl)
@[go_sem] theorem r73 : Rp 55 [(0,1),(1,1),(2,1),(3,1),(4,1),(5,1),(6,1),(7,1),(8,1)] := by show _ = _; kernel_rfl
@[go_sem] theorem r74 : Ro 56 2 16 (.agg #[.int .i64 0, .int .u8 0]) true .other false := by and_intros <;> (show _ = _; kernel_rfl)
@[go_sem] theorem r75 : Rf 56 0 0 2 1 ∧ Rf 56 1 1 5 1 := by and_intros <;> (show _ = _; kernel_rfl)
@[go_sem] theorem r76 : Rp 56 [(0,1),(1,1)] := by show _ = _; kernel_rfl
@[go_sem] theorem r77 : Ro 57 2 16 (.agg #[.int .i64 0, .int .u8 0]) true .other false := by and_intros <;> (show _ = _; kernel_rfl)
@[go_sem] theorem r78 : Rf 57 0 0 2 1 ∧ Rf 57 1 1 5 1 := by and_intros <;> (show _ = _; kernel_rfl)
@[go_sem] theorem r79 : Rp 57 [(0,1),(1,1)] := by show _ = _; kernel_rfl
@[go_sem] theorem r80 : Ro 58 1 24 (.slice none 0 0) false .slice true := by and_intros <;> (show _ = _; kernel_rfl)
@[go_sem] theorem r81 : Rs 58 3 false := by and_intros <;> (show _ = _; kernel_rfl)
@[go_sem] theorem r82 : Ro 59 1 8 (.nilFunc) false .func false := by and_intros <;> (show _ = _; kernel_rfl)
@[go_sem] theorem r83 : Ro 60 1 8 (.pointer none) false .pointer false := by and_intros <;> (show _ = _; kernel_rfl)
@[go_sem] theorem r84 : Ro 61 1 24 (.agg #[.slice none 0 0]) true .other false := by and_intros <;> (show _ = _; kernel_rfl)
@[go_sem] theorem r85 : Rf 61 0 0 23 1 := by show _ = _; kernel_rfl
@[go_sem] theorem r86 : Rp 61 [(0,1)] := by show _ = _; kernel_rfl
@[go_sem] theorem r87 : Ro 62 1 24 (.agg #[.slice none 0 0]) true .other false := by and_intros <;> (show _ = _; kernel_rfl)
@[go_sem] theorem r88 : Rf 62 0 0 23 1 := by show _ = _; kernel_rfl
@[go_sem] theorem r89 : Rp 62 [(0,1)] := by show _ = _; kernel_rfl
@[go_sem] theorem r90 : Ro 63 1 8 (.nilFunc) false .func false := by and_intros <;> (show _ = _; kernel_rfl)
@[go_sem] theorem r91 : Ro 64 1 8 (.nilFunc) false .func false := by and_intros <;> (show _ = _; kernel_rfl)
@[go_sem] theorem r92 : Ro 65 1 8 (.nilFunc) false .func false := by and_intros <;> (show _ = _; kernel_rfl)
@[go_sem] theorem r93 : Ro 66 1 8 (.nilFunc) false .func false := by and_intros <;> (show _ = _; kernel_rfl)
@[go_sem] theorem r94 : Ro 67 1 8 (.nilFunc) false .func false := by and_intros <;> (show _ = _; kernel_rfl)
@[go_sem] theorem r95 : Ro 68 1 8 (.nilFunc) false .func false := by and_intros <;> (show _ = _; kernel_rfl)
@[go_sem] theorem r96 : Ro 69 1 8 (.nilFunc) false .func false := by and_intros <;> (show _ = _; kernel_rfl)
@[go_sem] theorem r97 : Ro 70 1 8 (.nilFunc) false .func false := by and_intros <;> (show _ = _; kernel_rfl)
@[go_sem] theorem r98 : Ro 71 1 8 (.nilFunc) false .func false := by and_intros <;> (show _ = _; kernel_rfl)
@[go_sem] theorem r99 : Ro 72 1 8 (.nilFunc) false .func false := by and_intros <;> (show _ = _; kernel_rfl)
@[go_sem] theorem r100 : Ro 73 1 8 (.nilFunc) false .func false := by and_intros <;> (show _ = _; kernel_rfl)
@[go_sem] theorem r101 : Ro 74 1 8 (.nilFunc) false .func false := by and_intros <;> (show _ = _; kernel_rfl)
@[go_sem] theorem r102 : Ro 75 1 8 (.nilFunc) false .func false := by and_intros <;> (show _ = _; kernel_rfl)
@[go_sem] theorem r103 : Ro 76 1 16 (.nilIface) false .iface false := by and_intros <;> (show _ = _; kernel_rfl)
@[go_sem] theorem r104 : Ro 77 1 16 (.nilIface) false .iface false := by and_intros <;> (show _ = _; kernel_rfl)
@[go_sem] theorem r105 : Ro 79 1 8 (.nilFunc) false .func false := by and_intros <;> (show _ = _; kernel_rfl)
@[go_sem] theorem r106 : Ro 80 1 8 (.pointer none) false .pointer false := by and_intros <;> (show _ = _; kernel_rfl)
@[go_sem] theorem r107 : Ro 81 2 24 (.agg #[.int .i64 0, .nilIface]) true .other false := by and_intros <;> (show _ = _; kernel_rfl)
@[go_sem] theorem r108 : Rf 81 0 0 3 1 ∧ Rf 81 1 1 77 1 := by and_intros <;> (show _ = _; kernel_rfl)
@[go_sem] theorem r109 : Rp 81 [(0,1),(1,1)] := by show _ = _; kernel_rfl
@[go_sem] theorem r110 : Ro 82 2 24 (.agg #[.int .i64 0, .nilIface]) true .other false := by and_intros <;> (show _ = _; kernel_rfl)
@[go_sem] theorem r111 : Rf 82 0 0 3 1 ∧ Rf 82 1 1 77 1 := by and_intros <;> (show _ = _; kernel_rfl)
@[go_sem] theorem r112 : Rp 82 [(0,1),(1,1)] := by show _ = _; kernel_rfl
@[go_sem] theorem r113 : Ro 83 1 8 (.nilFunc) false .func false := by and_intros <;> (show _ = _; kernel_rfl)
@[go_sem] theorem r114 : Ro 84 1 8 (.pointer none) false .pointer false := by and_intros <;> (show _ = _; kernel_rfl)
@[go_sem] theorem r115 : Ro 85 1 8 (.pointer none) false .pointer false := by and_intros <;> (show _ = _; kernel_rfl)
@[go_sem] theorem r116 : Ro 86 1 8 (.nilFunc) false .func false := by and_intros <;> (show _ = _; kernel_rfl)
@[go_sem] theorem r117 : Ro 87 1 8 (.nilFunc) false .func false := by and_intros <;> (show _ = _; kernel_rfl)
@[go_sem] theorem r118 : Ro 88 1 8 (.nilFunc) false .func false := by and_intros <;> (show _ = _; kernel_rfl)
@[go_sem] theorem r119 : Ro 89 1 8 (.nilFunc) false .func false := by and_intros <;> (show _ = _; kernel_rfl)
@[go_sem] theorem r120 : Ro 90 1 8 (.nilFunc) false .func false := by and_intros <;> (show _ = _; kernel_rfl)
@[go_sem] theorem r121 : Ro 91 1 8 (.nilFunc) false .func false := by and_intros <;> (show _ = _; kernel_rfl)
@[go_sem] theorem r122 : Ro 92 1 8 (.int .u64 0) false (.int .u64) false := by and_intros <;> (show _ = _; kernel_rfl)
@[go_sem] theorem r123 : Ro 93 1 8 (.nilFunc) false .func false := by and_intros <;> (show _ = _; kernel_rfl)
@[go_sem] theorem r124 : Ro 94 1 8 (.nilFunc) false .func false := by and_intros <;> (show _ = _; kernel_rfl)
@[go_sem] theorem r125 : Ro 96 1 8 (.nilFunc) false .func false := by and_intros <;> (show _ = _; kernel_rfl)
@[go_sem] theorem r126 : Ro 97 1 8 (.pointer none) false .pointer false := by and_intros <;> (show _ = _; kernel_rfl)
@[go_sem] theorem r127 : Ro 98 1 8 (.nilFunc) false .func false := by and_intros <;> (show _ = _; kernel_rfl)
@[go_sem] theorem r128 : Ro 99 1 8 (.nilFunc) false .func false := by and_intros <;> (show _ = _; kernel_rfl)
@[go_sem] theorem r129 : Ro 101 1 8 (.nilFunc) false .func false := by and_intros <;> (show _ = _; kernel_rfl)
@[go_sem] theorem r130 : Ro 102 1 8 (.pointer none) false .other false := by and_intros <;> (show _ = _; kernel_rfl)
@[go_sem] theorem r131 : Ro 103 1 8 (.int .u64 0) false (.int .u64) false := by and_intros <;> (show _ = _; kernel_rfl)
@[go_sem] theorem r132 : Ro 105 3 24 (.agg #[.pointer none, .pointer none, .int .u64 0]) true .other false := by and_intros <;> (show _ = _; kernel_rfl)
@[go_sem] theorem r133 : Rf 105 0 0 17 1 ∧ Rf 105 1 1 102 1 ∧ Rf 105 2 2 103 1 := by and_intros <;> (show _ = _; kernel_rfl)
@[go_sem] theorem r134 : Rp 105 [(0,1),(1,1),(2,1)] := by show _ = _; kernel_rfl
@[go_sem] theorem r135 : Ro 106 1 8 (.nilFunc) false .func false := by and_intros <;> (show _ = _; kernel_rfl)
@[go_sem] theorem r136 : Ro 107 1 16 (.nilIface) false .iface false := by and_intros <;> (show _ = _; kernel_rfl)
@[go_sem] theorem r137 : Ro 108 1 16 (.nilIface) false .iface false := by and_intros <;> (show _ = _; kernel_rfl)
@[go_sem] theorem r138 : Ro 109 1 8 (.nilFunc) false .func false := by and_intros <;> (show _ = _; kernel_rfl)
@[go_sem] theorem r139 : Ro 111 1 8 (.nilFunc) false .func false := by and_intros <;> (show _ = _; kernel_rfl)
@[go_sem] theorem r140 : Ro 112 1 8 (.nilFunc) false .func false := by and_intros <;> (show _ = _; kernel_rfl)
@[go_sem] theorem r141 : Ro 113 1 8 (.nilFunc) false .func false := by and_intros <;> (show _ = _; kernel_rfl)
@[go_sem] theorem r142 : Ro 114 1 8 (.nilFunc) false .func false := by and_intros <;> (show _ = _; kernel_rfl)
@[go_sem] theorem r143 : Ro 115 1 8 (.nilFunc) false .func false := by and_intros <;> (show _ = _; kernel_rfl)
@[go_sem] theorem r144 : Ro 116 1 4 (.int .u32 0) false (.int .u32) false := by and_intros <;> (show _ = _; kernel_rfl)
@[go_sem] theorem r145 : Ro 117 1 8 (.int .u64 0) false (.int .u64) false := by and_intros <;> (show _ = _; kernel_rfl)
@[go_sem] theorem r146 : Ro 118 1 8 (.pointer none) false .pointer false := by and_intros <;> (show _ = _; kernel_rfl)
@[go_sem] theorem r147 : Ro 119 3 40 (.agg #[.slice none 0 0, .int .i64 0, .int .i64 0]) true .other false := by and_intros <;> (show _ = _; kernel_rfl)
@[go_sem] theorem r148 : Rf 119 0 0 23 1 ∧ Rf 119 1 1 3 1 ∧ Rf 119 2 2 36 1 := by and_intros <;> (show _ = _; kernel_rfl)
@[go_sem] theorem r149 : Rp 119 [(0,1),(1,1),(2,1)] := by show _ = _; kernel_rfl
@[go_sem] theorem r150 : Ro 120 3 40 (.agg #[.slice none 0 0, .int .i64 0, .int .i64 0]) true .other false := by and_intros <;> (show _ = _; kernel_rfl)
@[go_sem] theorem r151 : Rf 120 0 0 23 1 ∧ Rf 120 1 1 3 1 ∧ Rf 120 2 2 36 1 := by and_intros <;> (show _ = _; kernel_rfl)
@[go_sem] theorem r152 : Rp 120 [(0,1),(1,1),(2,1)] := by show _ = _; kernel_rfl
@[go_sem] theorem r153 : Ro 121 1 8 (.nilFunc) false .func false := by and_intros <;> (show _ = _; kernel_rfl)
@[go_sem] theorem r154 : Ro 122 1 8 (.nilFunc) false .func false := by and_intros <;> (show _ = _; kernel_rfl)
@[go_sem] theorem r155 : Ro 123 16 16 (.agg #[.bool false, .bool false, .bool false, .bool false, .bool false, .bool false, .bool false, .bool false, .bool false, .bool false, .bool false, .bool false, .bool false, .bool false, .bool false, .bool false]) true .other false := by and_intros <;> (show _ = _; kernel_rfl)
@[go_sem] theorem r156 : tArr Tryd.prog 123 = some (16, 4) := by show _ = _; kernel_rfl
@[go_sem] theorem r157 : Rp 123 [(0,1),(1,1),(2,1),(3,1),(4,1),(5,1),(6,1),(7,1),(8,1),(9,1),(10,1),(11,1),(12,1),(13,1),(14,1),(15,1)] := by show _ = _; kernel_rfl
@[go_sem] theorem r158 : Ro 124 3 40 (.agg #[.slice none 0 0, .int .i64 0, .int .i64 0]) true .other false := by and_intros <;> (show _ = _; kernel_rfl)
@[go_sem] theorem r159 : Rf 124 0 0 23 1 ∧ Rf 124 1 1 3 1 ∧ Rf 124 2 2 36 1 := by and_intros <;> (show _ = _; kernel_rfl)
@[go_sem] theorem r160 : Rp 124 [(0,1),(1,1),(2,1)] := by show _ = _; kernel_rfl
@[go_sem] theorem r161 : Ro 125 3 40 (.agg #[.slice none 0 0, .int .i64 0, .int .i64 0]) true .other false := by and_intros <;> (show _ = _; kernel_rfl)
@[go_sem] theorem r162 : Rf 125 0 0 23 1 ∧ Rf 125 1 1 3 1 ∧ Rf 125 2 2 36 1 := by and_intros <;> (show _ = _; kernel_rfl)
@[go_sem] theorem r163 : Rp 125 [(0,1),(1,1),(2,1)] := by show _ = _; kernel_rfl
@[go_sem] theorem r164 : Ro 126 1 8 (.nilFunc) false .func false := by and_intros <;> (show _ = _; kernel_rfl)
@[go_sem] theorem r165 : Ro 127 1 8 (.nilFunc) false .func false := by and_intros <;> (show _ = _; kernel_rfl)
@[go_sem] theorem r166 : Ro 128 1 8 (.nilFunc) false .func false := by and_intros <;> (show _ = _; kernel_rfl)
@[go_sem] theorem r167 : Ro 129 1 8 (.nilFunc) false .func false := by and_intros <;> (show _ = _; kernel_rfl)
@[go_sem] theorem r168 : Ro 130 1 8 (.nilFunc) false .func false := by and_intros <;> (show _ = _; kernel_rfl)
@[go_sem] theorem r169 : Ro 131 1 8 (.nilFunc) false .func false := by and_intros <;> (show _ = _; kernel_rfl)
@[go_sem] theorem r170 : Ro 132 1 8 (.nilFunc) false .func false := by and_intros <;> (show _ = _; kernel_rfl)
@[go_sem] theorem r171 : Ro 133 1 8 (.nilFunc) false .func false := by and_intros <;> (show _ = _; kernel_rfl)
@[go_sem] theorem r172 : Ro 135 1 8 (.agg #[.pointer none]) true .other false := by and_intros <;> (show _ = _; kernel_rfl)
@[go_sem] theorem r173 : Rf 135 0 0 17 1 := by show _ = _; kernel_rfl
@[go_sem] theorem r174 : Rp 135 [(0,1)] := by show _ = _; kernel_rfl
@[go_sem] theorem r175 : Ro 136 1 8 (.pointer none) false .pointer false := by and_intros <;> (show _ = _; kernel_rfl)
@[go_sem] theorem r176 : Ro 137 1 8 (.nilFunc) false .func false := by and_intros <;> (show _ = _; kernel_rfl)
@[go_sem] theorem r177 : Ro 138 1 8 (.nilFunc) false .func false := by and_intros <;> (show _ = _; kernel_rfl)
@[go_sem] theorem r178 : Ro 139 1 16 (.nilIface) false .iface false := by and_intros <;> (show _ = _; kernel_rfl)
@[go_sem] theorem r179 : Ro 141 1 8 (.nilFunc) false .func false := by and_intros <;> (show _ = _; kernel_rfl)
@[go_sem] theorem r180 : Ro 142 1 16 (.nilIface) false .iface false := by and_intros <;> (show _ = _; kernel_rfl)
@[go_sem] theorem r181 : Ro 143 1 8 (.nilFunc) false .func false := by and_intros <;> (show _ = _; kernel_rfl)
@[go_sem] theorem r182 : Ro 144 1 16 (.nilIface) false .iface false := by and_intros <;> (show _ = _; kernel_rfl)
@[go_sem] theorem r183 : Ro 145 1 24 (.slice none 0 0) false .slice true := by and_intros <;> (show _ = _; kernel_rfl)
@[go_sem] theorem r184 : Rs 145 77 false := by and_intros <;> (show _ = _; kernel_rfl)
@[go_sem] theorem r185 : Ro 146 1 8 (.nilFunc) false .func false := by and_intros <;> (show _ = _; kernel_rfl)
@[go_sem] theorem r186 : Ro 147 1 16 (.nilIface) false .iface false := by and_intros <;> (show _ = _; kernel_rfl)
@[go_sem] theorem r187 : Ro 149 1 8 (.nilFunc) false .func false := by and_intros <;> (show _ = _; kernel_rfl)
@[go_sem] theorem r188 : Ro 150 1 8 (.nilFunc) false .func false := by and_intros <;> (show _ = _; kernel_rfl)
@[go_sem] theorem r189 : Ro 151 1 8 (.nilFunc) false .func false := by and_intros <;> (show _ = _; kernel_rfl)
@[go_sem] theorem r190 : Ro 152 1 8 (.nilFunc) false .func false := by and_intros <;> (show _ = _; kernel_rfl)
@[go_sem] theorem r191 : Ro 153 1 8 (.nilFunc) false .func false := by and_intros <;> (show _ = _; kernel_rfl)
@[go_sem] theorem r192 : Ro 156 0 0 (.agg #[]) true .other false := by and_intros <;> (show _ = _; kernel_rfl)
@[go_sem] theorem r193 : tArr Tryd.prog 156 = some (0, 16) := by show _ = _; kernel_rfl
@[go_sem] theorem r194 : Rp 156 [] := by show _ = _; kernel_rfl
@[go_sem] theorem r195 : Ro 159 1 8 (.nilFunc) false .func false := by and_intros <;> (show _ = _; kernel_rfl)
@[go_sem] theorem r196 : Ro 161 1 8 (.nilFunc) false .func false := by and_intros <;> (show _ = _; kernel_rfl)
@[go_sem] theorem r197 : Ro 162 1 8 (.pointer none) false .pointer false := by and_intros <;> (show _ = _; kernel_rfl)
@[go_sem] theorem r198 : Ro 167 1 8 (.nilFunc) false .func false := by and_intros <;> (show _ = _; kernel_rfl)
@[go_sem] theorem r199 : Ro 168 1 8 (.nilFunc) false .func false := by and_intros <;> (show _ = _; kernel_rfl)
@[go_sem] theorem r200 : Ro 170 2 24 (.agg #[.string ⟨#[]⟩, .int .u8 0]) true .other false := by and_intros <;> (show _ = _; kernel_rfl)
@[go_sem] theorem r201 : Rf 170 0 0 9 1 ∧ Rf 170 1 1 110 1 := by and_intros <;> (show _ = _; kernel_rfl)
@[go_sem] theorem r202 : Rp 170 [(0,1),(1,1)] := by show _ = _; kernel_rfl
@[go_sem] theorem r203 : Ro 172 1 8 (.nilFunc) false .func false := by and_intros <;> (show _ = _; kernel_rfl)
@[go_sem] theorem r204 : Ro 175 1 24 (.slice none 0 0) false .slice true := by and_intros <;> (show _ = _; kernel_rfl)
@[go_sem] theorem r205 : Rs 175 178 false := by and_intros <;> (show _ = _; kernel_rfl)
@[go_sem] theorem r206 : Ro 179 1 8 (.pointer none) false .pointer false := by and_intros <;> (show _ = _; kernel_rfl)
@[go_sem] theorem r207 : tEq Tryd.prog 51 = some [(0, 3), (1, 3)] := by show _ = _; kernel_rfl
@[go_sem] theorem r208 : tEq Tryd.prog 57 = some [(0, 2), (1, 5)] := by show _ = _; kernel_rfl
@[go_sem] theorem r209 : tEq Tryd.prog 31 = some [(0, 3), (1, 3), (2, 3)] := by show _ = _; kernel_rfl
attribute [go_sem] Tryd.results0 Tryd.results1 Tryd.results2 Tryd.results3 Tryd.results4 Tryd.results5 Tryd.results6 Tryd.results7 Tryd.results8 Tryd.results9 Tryd.results10 Tryd.results11 Tryd.results12 Tryd.results13 Tryd.results14 Tryd.results15 Tryd.results16 Tryd.results17 Tryd.results18 Tryd.results19 Tryd.results20 Tryd.results21 Tryd.results22 Tryd.results23 Tryd.results24 Tryd.results25 Tryd.results26 Tryd.results27 Tryd.results28 Tryd.results29 Tryd.results30 Tryd.results31 Tryd.results32 Tryd.results33 Tryd.results34 Tryd.results35 Tryd.results36 Tryd.results37 Tryd.results38 Tryd.results39 Tryd.results40 Tryd.results41 Tryd.results42 Tryd.results43 Tryd.results44 Tryd.results45 Tryd.results46 Tryd.results47 Tryd.results48 Tryd.results49 Tryd.results50 Tryd.results51 Tryd.results52 Tryd.results53 Tryd.results54 Tryd.results55 Tryd.results56 Tryd.results57 Tryd.results58 Tryd.results59 Tryd.results60 Tryd.results61 Tryd.results62 Tryd.results63 Tryd.results64 Tryd.results65 Tryd.results66 Tryd.results67 Tryd.results68 Tryd.results69 Tryd.results70 Tryd.results71 Tryd.results72 Tryd.results73 Tryd.results74 Tryd.results75 Tryd.results76 Tryd.results77 Tryd.results78 Tryd.results79 Tryd.results80 Tryd.results81 Tryd.results82 Tryd.results83 Tryd.results84 Tryd.results85 Tryd.results86 Tryd.results87 Tryd.results88 Tryd.results89 Tryd.results90 Tryd.results91 Tryd.results92 Tryd.results93 Tryd.results94 Tryd.results95 Tryd.results96 Tryd.results97 Tryd.results98 Tryd.results99 Tryd.results100 Tryd.results101 Tryd.results102 Tryd.results103 Tryd.results104 Tryd.results105 Tryd.results106 Tryd.results107 Tryd.results108 Tryd.results109 Tryd.results110 Tryd.results111 Tryd.results112 Tryd.results113 Tryd.results114 Tryd.results115 Tryd.results116 Tryd.results117 Tryd.results118 Tryd.results119 Tryd.results120 Tryd.results121 Tryd.results122 Tryd.results123 Tryd.results124 Tryd.results125 Tryd.results126
theorem follows : Tryd.prog.follows .mixedOrders = true := by kernel_rfl
end Go.Proofs.YtoecebibhcadoaaDoor.I
