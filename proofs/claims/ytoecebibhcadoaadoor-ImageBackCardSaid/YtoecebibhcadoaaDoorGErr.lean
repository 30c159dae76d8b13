/- errors.As and errors.Is on the ideal heap, at what image.Decode hands them. No condition. -/
import Derived.Test.YtoecebibhcadoaaDoorWAsB
import Derived.Test.YtoecebibhcadoaaDoorWIs
import Derived.Test.YtoecebibhcadoaaDoorIRow
namespace Go.Proofs.YtoecebibhcadoaaDoor.I
open Go Go.RowKit
set_option linter.unusedVariables false
set_option linter.unusedSimpArgs false
theorem HR.errT {B : Nat} {w0 w : World} {ρ : Ren} {H : Heap} (h : HR B w0 ρ H w) : w.cell? ⟨0, 0, none⟩ = some (.iface 135 (.agg #[.pointer (some ⟨1, 77, none⟩)])) :=
  ((h.pin.later h.below h.base) (0, .iface 135 (.agg #[.pointer (some ⟨1, 77, none⟩)])) (List.mem_singleton.2 rfl)).2
def errV (e : Int) : Value := .iface 36 (.int .i64 e)
def placedV (b : Nat) : Value := .iface 80 (.pointer (some ⟨b, 0, none⟩))
theorem vr_ifp {ρ : Ren} {t : TypeId} {b o : Nat} {v : Value} (h : VR ρ (.iface t (.pointer (some ⟨b, o, none⟩))) v) : ∃ q s n, ρ b = some (.lies q s n) ∧ v = .iface t (.pointer (some ⟨q, s + o, none⟩)) := by
  cases h with
  | plain hq => simp [plain0] at hq
  | iface h =>
    cases h with
    | plain hq => simp [plain0] at hq
    | ptr e => exact ⟨_, _, _, e, rfl⟩
theorem vr_ife {ρ : Ren} {e : Int} {v : Value} (h : VR ρ (errV e) v) : v = errV e := by
  cases h with
  | plain hq => rfl
  | iface h => rw [h.eq_of_plain0 rfl]; rfl
theorem vr2 {ρ : Ren} {a b : Value} {l : List Value} (h : VRL ρ [a, b] l) : ∃ a' b', l = [a', b'] ∧ VR ρ a a' ∧ VR ρ b b' := by
  cases h with
  | cons h1 h2 =>
  cases h2 with
  | cons h2 h3 =>
  cases h3
  exact ⟨_, _, rfl, h1, h2⟩
theorem HR.box {B : Nat} {w0 w : World} {ρ : Ren} {H : Heap} (h : HR B w0 ρ H w) {b : Nat} {old : Value} (hb : H.get b = some ⟨[old], true⟩) {q s n : Nat} (e : ρ b = some (.lies q s n)) :
    ∃ u, w.cell? ⟨q, s + 0, none⟩ = some u ∧ w.frozen? ⟨q, s + 0, none⟩ = false := by
  obtain ⟨q', s', n', e', hl, hc, ho⟩ := h.live b _ hb
  rw [e] at e'; cases e'
  obtain ⟨u, h1, _⟩ := hc 0 old rfl
  exact ⟨u, h1, ((ho rfl).2 (s + 0) (by simp at hl ⊢; omega)).1⟩
theorem HR.put1 {B : Nat} {w0 w w' : World} {ρ : Ren} {H : Heap} (h : HR B w0 ρ H w) (hw : Below w.heap.size w w') {b : Nat} {old v v' : Value} (hb : H.get b = some ⟨[old], true⟩) {q s n : Nat} (e : ρ b = some (.lies q s n)) (hv : VR ρ v v') :
    HR B w0 ρ (H.set b [v]) (w'.setCell ⟨q, s + 0, none⟩ v') := by
  have hp : H.put b 0 [v] = some (H.set b [v]) := by unfold Heap.put; rw [hb]; simp [splice]
  obtain ⟨q', s', n', e', _, _, h3⟩ := (h.of_same hw).put hp (.cons hv .nil)
  rw [e] at e'; cases e'
  exact h3
theorem below4 (w : World) (a b c d : Obj) : Below w.heap.size w ((((w.alloc a).alloc b).alloc c).alloc d) := by
  refine Below.trans (Below.refl w.heap.size w) ?_
  refine ((((Below.refl w.heap.size w).alloc (Nat.le_refl _) a).alloc (by simp) b).alloc (by simp; omega) c).alloc (by simp; omega) d
theorem below3 (w : World) (a b c : Obj) : Below w.heap.size w (((w.alloc a).alloc b).alloc c) :=
  ((((Below.refl w.heap.size w).alloc (Nat.le_refl _) a).alloc (by simp) b).alloc (by simp; omega) c)
section
variable (H : Heap)
theorem asNil (v : Value) : ICalls Tryd.prog 37 [.nilIface, v] H fun u H' => u = .bool false ∧ H' = H := by
  refine IBody.calls (by kernel_rfl) fun B w0 ρ args' w hh hargs => ?_
  obtain ⟨args⟩ := args'
  obtain ⟨a', b', rfl, h1, h2⟩ := vr2 hargs
  rw [h1.eq_of_plain0 rfl]
  refine (as_nil b' w).mono ?_
  rintro e w' ⟨rfl, rfl⟩
  exact ⟨ρ, _, _, H, rfl, ⟨rfl, rfl⟩, .plain rfl, hh, Ren.Le.refl _, Nat.le_refl _⟩
theorem asMiss (e : Int) (b : Nat) : ICalls Tryd.prog 37 [errV e, .iface 84 (.pointer (some ⟨b, 0, none⟩))] H fun u H' => u = .bool false ∧ H' = H := by
  refine IBody.calls (by kernel_rfl) fun B w0 ρ args' w hh hargs => ?_
  obtain ⟨args⟩ := args'
  obtain ⟨a', b', rfl, h1, h2⟩ := vr2 hargs
  rw [vr_ife h1]
  obtain ⟨q, s, n, e1, rfl⟩ := vr_ifp h2
  refine (as_miss80 e _ w hh.errT).mono ?_
  rintro e w' ⟨rfl, rfl⟩
  exact ⟨ρ, _, _, H, rfl, ⟨rfl, rfl⟩, .plain rfl, hh.of_same (below3 _ _ _ _), Ren.Le.refl _, Nat.le_refl _⟩
theorem asHitE (e : Int) (b : Nat) (old : Value) (hb : H.get b = some ⟨[old], true⟩) : ICalls Tryd.prog 37 [errV e, .iface 85 (.pointer (some ⟨b, 0, none⟩))] H fun u H' => u = .bool true ∧ H' = H.set b [.int .i64 e] := by
  refine IBody.calls (by kernel_rfl) fun B w0 ρ args' w hh hargs => ?_
  obtain ⟨args⟩ := args'
  obtain ⟨a', b', rfl, h1, h2⟩ := vr2 hargs
  rw [vr_ife h1]
  obtain ⟨q, s, n, e1, rfl⟩ := vr_ifp h2
  obtain ⟨u, h3, h4⟩ := hh.box hb e1
  refine (as_hit36 e _ u w hh.errT h3 h4).mono ?_
  rintro e' w' ⟨rfl, rfl⟩
  exact ⟨ρ, _, _, _, rfl, ⟨rfl, rfl⟩, .plain rfl, hh.put1 (below4 _ _ _ _ _) hb e1 (.plain rfl), Ren.Le.refl _, Nat.le_refl _⟩
theorem asHitP (p b : Nat) (old : Value) (hb : H.get b = some ⟨[old], true⟩) : ICalls Tryd.prog 37 [placedV p, .iface 84 (.pointer (some ⟨b, 0, none⟩))] H fun u H' => u = .bool true ∧ H' = H.set b [.pointer (some ⟨p, 0, none⟩)] := by
  refine IBody.calls (by kernel_rfl) fun B w0 ρ args' w hh hargs => ?_
  obtain ⟨args⟩ := args'
  obtain ⟨a', b', rfl, h1, h2⟩ := vr2 hargs
  obtain ⟨q2, s2, n2, e2, rfl⟩ := vr_ifp h1
  obtain ⟨q, s, n, e1, rfl⟩ := vr_ifp h2
  obtain ⟨u, h3, h4⟩ := hh.box hb e1
  refine (as_hit80 _ _ u w hh.errT h3 h4).mono ?_
  rintro e' w' ⟨rfl, rfl⟩
  exact ⟨ρ, _, _, _, rfl, ⟨rfl, rfl⟩, .plain rfl, hh.put1 (below4 _ _ _ _ _) hb e1 (.ptr e2), Ren.Le.refl _, Nat.le_refl _⟩
theorem HR.placed {B : Nat} {w0 w : World} {ρ : Ren} {H : Heap} (h : HR B w0 ρ H w) {p : Nat} {at_ e : Int} {own : Bool} (hp : H.get p = some ⟨[.int .i64 at_, errV e], own⟩) {q s n : Nat} (e1 : ρ p = some (.lies q s n)) :
    w.cell? ⟨q, s + 0 + 1, none⟩ = some (.iface 36 (.int .i64 e)) := by
  obtain ⟨q', s', n', e', hl, hc, ho⟩ := h.live p _ hp
  rw [e1] at e'; cases e'
  obtain ⟨u, h1, h2⟩ := hc 1 _ rfl
  rw [vr_ife h2] at h1
  exact h1
theorem asWrapE (p b : Nat) (at_ e : Int) (own : Bool) (old : Value) (hp : H.get p = some ⟨[.int .i64 at_, errV e], own⟩) (hb : H.get b = some ⟨[old], true⟩) :
    ICalls Tryd.prog 37 [placedV p, .iface 85 (.pointer (some ⟨b, 0, none⟩))] H fun u H' => u = .bool true ∧ H' = H.set b [.int .i64 e] := by
  refine IBody.calls (by kernel_rfl) fun B w0 ρ args' w hh hargs => ?_
  obtain ⟨args⟩ := args'
  obtain ⟨a', b', rfl, h1, h2⟩ := vr2 hargs
  obtain ⟨q2, s2, n2, e2, rfl⟩ := vr_ifp h1
  obtain ⟨q, s, n, e1, rfl⟩ := vr_ifp h2
  obtain ⟨u, h3, h4⟩ := hh.box hb e1
  refine (as_unwrap36 _ _ e _ u w hh.errT h3 h4 (hh.placed hp e2)).mono ?_
  rintro e' w' ⟨rfl, rfl⟩
  exact ⟨ρ, _, _, _, rfl, ⟨rfl, rfl⟩, .plain rfl, hh.put1 (below4 _ _ _ _ _) hb e1 (.plain rfl), Ren.Le.refl _, Nat.le_refl _⟩
theorem isNil (x : Int) : ICalls Tryd.prog 38 [.nilIface, errV x] H fun u H' => u = .bool false ∧ H' = H := by
  refine IBody.calls (by kernel_rfl) fun B w0 ρ args' w hh hargs => ?_
  obtain ⟨args⟩ := args'
  obtain ⟨a', b', rfl, h1, h2⟩ := vr2 hargs
  rw [h1.eq_of_plain0 rfl, vr_ife h2]
  refine (is_nil x w).mono ?_
  rintro e w' ⟨rfl, rfl⟩
  exact ⟨ρ, _, _, H, rfl, ⟨rfl, rfl⟩, .plain rfl, hh, Ren.Le.refl _, Nat.le_refl _⟩
theorem isErr (e x : Int) : ICalls Tryd.prog 38 [errV e, errV x] H fun u H' => u = .bool (decide (e = x)) ∧ H' = H := by
  refine IBody.calls (by kernel_rfl) fun B w0 ρ args' w hh hargs => ?_
  obtain ⟨args⟩ := args'
  obtain ⟨a', b', rfl, h1, h2⟩ := vr2 hargs
  rw [vr_ife h1, vr_ife h2]
  by_cases he : e = x
  · subst he
    refine (is_same36 e w).mono ?_
    rintro e' w' ⟨rfl, rfl⟩
    exact ⟨ρ, _, _, H, rfl, ⟨by simp, rfl⟩, .plain rfl, hh, Ren.Le.refl _, Nat.le_refl _⟩
  · refine (is_other36 e x w he).mono ?_
    rintro e' w' ⟨rfl, rfl⟩
    exact ⟨ρ, _, _, H, rfl, ⟨by simp [he], rfl⟩, .plain rfl, hh, Ren.Le.refl _, Nat.le_refl _⟩
theorem isWrap (p : Nat) (at_ e x : Int) (own : Bool) (hne : e ≠ x) (hp : H.get p = some ⟨[.int .i64 at_, errV e], own⟩) : ICalls Tryd.prog 38 [placedV p, errV x] H fun u H' => u = .bool false ∧ H' = H := by
  refine IBody.calls (by kernel_rfl) fun B w0 ρ args' w hh hargs => ?_
  obtain ⟨args⟩ := args'
  obtain ⟨a', b', rfl, h1, h2⟩ := vr2 hargs
  obtain ⟨q2, s2, n2, e2, rfl⟩ := vr_ifp h1
  rw [vr_ife h2]
  refine (is_wrap _ _ e x w hne (hh.placed hp e2)).mono ?_
  rintro e' w' ⟨rfl, rfl⟩
  exact ⟨ρ, _, _, H, rfl, ⟨rfl, rfl⟩, .plain rfl, hh, Ren.Le.refl _, Nat.le_refl _⟩
end
end Go.Proofs.YtoecebibhcadoaaDoor.I
