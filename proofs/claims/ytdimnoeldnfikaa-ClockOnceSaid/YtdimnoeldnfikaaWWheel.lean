/- The wheel's functions in the world: what they do to the map that its field leads to. No condition. -/
import Derived.Test.YtdimnoeldnfikaaGSortC
import Derived.Maps.OwnSet
import Derived.Maps.RangeWalk
import Derived.WalkKit
namespace Go.Proofs.Ytdimnoeldnfikaa.I
open Go Go.RowKit Go.Maps Go.Lib
set_option linter.unusedVariables false
set_option linter.unusedSimpArgs false

abbrev Dat := DataW Unit
abbrev eI (v : Int) : Dat := .lit (.int .i64 v)
theorem law3 : Keyed Try.prog 3 := int_keyed Try.underlying3
theorem zero2 (w : World) : (zeroValue 2).run Try.prog w = .ok (.int .i64 0) w := by kernel_rfl
/-- Block bm of w is a map of at most n entries that reads as D. -/
abbrev Tabs (w : World) (bm n : Nat) (D : Dat) : Prop := w.ownsMap Try.prog 3 (plainElem Try.prog 2) bm n D
theorem i64wf {x : Int} (h : -9223372036854775808 ≤ x ∧ x < 9223372036854775808) : (Lit.int .i64 x).wf = true := by
  simp [Lit.wf, IntKind.min, IntKind.max, IntKind.bits, IntKind.signed]; omega

theorem wNew (w : World) : Calls Try.prog 16 #[] w fun e w' => e = .returned (.pointer (some ⟨w.heap.size + 1, 0, none⟩)) ∧ w' = (w.alloc (.map #[] 0)).alloc (.cells #[.map (some w.heap.size)] 90) := by
  have hmm := @run_makeMap Try.prog
  go_enter Try.func16, Try.ntmps16
  go_wp2
  go_ret
  exact ⟨by simp, rfl⟩

theorem wSet (sb so bm n : Nat) (D : Dat) (x v : Int) (w : World) (c0 : w.cell? ⟨sb, so, none⟩ = some (.map (some bm))) (hown : Tabs w bm n D) (hn : n < maxLen) (hwx : (Lit.int .i64 x).wf = true) (hwv : (Lit.int .i64 v).wf = true) :
    Calls Try.prog 17 #[.pointer (some ⟨sb, so, none⟩), .int .i64 x, .int .i64 v] w fun e w' => e = .returned (.tuple #[]) ∧ Tabs w' bm (n + 1) (D.put (.int .i64 x) (eI v)) ∧ w.mapTurned w' bm := by
  have hkey := keyOf_int_mk Try.underlying3 hwx
  go_enter Try.func17, Try.ntmps17
  go_wp2_with (first
    | (at_mapUpdate; refine wpList_mapUpdate_in _ rfl _ _ _ 88 rfl 3 2 law3 Try.underlying88 _ bm n D rfl hown hn _ _ _ rfl rfl hkey _ [] (plainElem_int Try.underlying2 hwv) ?_; intro w1 hown1 hturn1)
    | go_in)
  go_end0
  exact ⟨rfl, hown1, hturn1⟩

theorem wAt (sb so bm n : Nat) (D : Dat) (x : Int) (w : World) (c0 : w.cell? ⟨sb, so, none⟩ = some (.map (some bm))) (hown : Tabs w bm n D) (hwx : (Lit.int .i64 x).wf = true) :
    Calls Try.prog 29 #[.pointer (some ⟨sb, so, none⟩), .int .i64 x] w fun e w' => ∃ c, e = .returned (.tuple #[.int .i64 c, .bool (Maps.has D (.int .i64 x))]) ∧ D.atKey (.int .i64 x) (eI 0) = eI c ∧ (Lit.int .i64 c).wf = true ∧ w' = w := by
  have hkey := keyOf_int_mk Try.underlying3 hwx
  go_enter Try.func29, Try.ntmps29
  go_wp2_with (first
    | (at_lookup; refine wpList_lookup_own_ok_int _ rfl _ _ 88 rfl 3 2 .i64 law3 Try.underlying88 Try.underlying2 (zero2 _) bm n D rfl hown _ _ rfl hkey ?_; intro c hat hwc)
    | go_in)
  all_goals (go_ret2; exact ⟨c, rfl, hat, hwc, rfl⟩)

theorem wLen (sb so bm n : Nat) (D : Dat) (w : World) (c0 : w.cell? ⟨sb, so, none⟩ = some (.map (some bm))) (hown : Tabs w bm n D) :
    Calls Try.prog 19 #[.pointer (some ⟨sb, so, none⟩)] w fun e w' => e = .returned (.int .i64 (Maps.size D)) ∧ w' = w := by
  go_enter Try.func19, Try.ntmps19
  go_wp2_with (first
    | (at_len; refine wpList_len_own _ rfl _ 88 rfl 3 2 Try.underlying88 _ bm n D rfl hown ?_)
    | go_in)
  go_ret
  exact ⟨rfl, rfl⟩

set_option maxRecDepth 100000 in
theorem wStop (sb so bm n : Nat) (D : Dat) (x : Int) (w : World) (c0 : w.cell? ⟨sb, so, none⟩ = some (.map (some bm))) (hown : Tabs w bm n D) (hwx : (Lit.int .i64 x).wf = true) :
    Calls Try.prog 26 #[.pointer (some ⟨sb, so, none⟩), .int .i64 x] w fun e w' => e = .returned (.bool (Maps.has D (.int .i64 x))) ∧ Tabs w' bm n (D.del (.int .i64 x)) ∧ w.mapTurned w' bm := by
  have hkey := keyOf_int_mk Try.underlying3 hwx
  have hat := wAt sb so bm n D x w c0 hown hwx
  go_enter Try.func26, Try.ntmps26
  go_wp2_with (first
    | (go_at_call 29; refine hat.mono ?_; rintro e w' ⟨c, rfl, -, -, hw⟩; rw [hw])
    | (at_delete; refine wpList_delete_own _ rfl _ _ 88 3 rfl 2 law3 Try.underlying88 _ bm n D rfl hown _ _ rfl hkey ?_; intro w1 hown1 hturn1)
    | go_in)
  · have hh : Maps.has D (.int .i64 x) = true := by assumption
    go_ret
    exact ⟨by simp [hh], hown1, hturn1⟩
  · have hh : Maps.has D (.int .i64 x) = false := by assumption
    go_ret
    exact ⟨by simp [hh], by rw [del_of_not_has hh]; exact hown, hown.turned_refl⟩

end Go.Proofs.Ytdimnoeldnfikaa.I
