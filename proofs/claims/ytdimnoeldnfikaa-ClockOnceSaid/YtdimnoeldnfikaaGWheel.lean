/- The wheel's functions on the ideal heap: calls that turn its map. No condition. -/
import Derived.Test.YtdimnoeldnfikaaWDue
import Derived.Test.YtdimnoeldnfikaaIRow
namespace Go.Proofs.Ytdimnoeldnfikaa.I
open Go Go.RowKit Go.Maps
set_option linter.unusedVariables false
set_option linter.unusedSimpArgs false

theorem tab_setTab (H : Heap) (t : Option Tab) : (H.setTab t).tab = t := rfl
theorem get_setTab (H : Heap) (t : Option Tab) (b : Nat) : (H.setTab t).get b = H.get b := rfl
theorem next_setTab (H : Heap) (t : Option Tab) : (H.setTab t).next = H.next := rfl

/-- A map of at most n entries that reads as D. -/
def MapOk (n : Nat) (D : Dat) (es : Array MapEntry) (clk : Nat) : Prop := ∀ (w : World) (q : Nat), w.heap[q]? = some (.map es clk) → Tabs w q n D
def wTab (t n : Nat) (D : Dat) : Tab := ⟨t, MapOk n D⟩
theorem MapOk.of {w : World} {q n : Nat} {D : Dat} (h : Tabs w q n D) : ∃ es clk, w.heap[q]? = some (.map es clk) ∧ MapOk n D es clk := by
  obtain ⟨es, clk, h1, h2, h3, h4⟩ := h
  exact ⟨es, clk, h1, fun w' q' h => ⟨es, clk, h, h2, h3, h4⟩⟩

/-- The map is turned, and new blocks are laid. -/
theorem HR.turn {B : Nat} {w0 w w' : World} {ρ : Ren} {H : Heap} (h : HR B w0 ρ H w) {t q n m : Nat} {D D' : Dat} (ht : H.tab = some (wTab t n D)) (hq : ρ t = some (.table q)) (hg : w.grownBy w' (some q)) (hm : Tabs w' q m D') :
    HR B w0 ρ (H.setTab (some (wTab t m D'))) w' := by
  obtain ⟨q2, es, clk, e2, hB, hmap, hok⟩ := h.tabs _ ht
  have e2' : ρ t = some (.table q2) := e2
  rw [hq] at e2'
  cases e2'
  have hb : ∀ k, k < w.heap.size → k ≠ q → w'.heap[k]? = w.heap[k]? := fun k hk hne => hg.block k hk (fun e => hne (by cases e; rfl))
  have hlt : ∀ b q' s n', ρ b = some (.lies q' s n') → q' < w.heap.size ∧ q' ≠ q := fun b q' s n' e => by
    obtain ⟨c, T, fr, hc, _⟩ := h.size b q' s n' e
    exact ⟨(Array.getElem?_eq_some_iff.1 hc).1, fun x => by rw [x, hmap] at hc; cases hc⟩
  have hcell : ∀ q' i v, w.cell? ⟨q', i, none⟩ = some v → w'.cell? ⟨q', i, none⟩ = some v := fun q' i v hv => by
    have h1 := lt_of_cell hv
    have h2 : q' ≠ q := fun x => by subst x; simp [World.cell?, hmap] at hv
    simp only [World.cell?, hb q' h1 h2] at hv ⊢; exact hv
  refine ⟨h.below.trans ⟨hg.os, hg.tape, hg.output, hg.size, fun k hk => hb k (Nat.lt_of_lt_of_le hk h.base) (by omega)⟩, Nat.le_trans h.base hg.size, h.dom, fun b q' s n' e => ?_, fun b k hk => ?_, h.apart, fun q' i v hf => hcell q' i v (h.fixed q' i v hf), h.off, fun T hT => ?_⟩
  · obtain ⟨h1, h2⟩ := hlt b q' s n' e
    rw [hb q' h1 h2]; exact h.size b q' s n' e
  · obtain ⟨q', s, n', e, hl, hc, ho⟩ := h.live b k hk
    obtain ⟨h1, h2⟩ := hlt b q' s n' e
    refine ⟨q', s, n', e, hl, fun i v hv => ?_, fun hown => ⟨(ho hown).1, fun i hi => ?_⟩⟩
    · obtain ⟨v', h3, h4⟩ := hc i v hv
      exact ⟨v', hcell _ _ _ h3, h4⟩
    · have := (ho hown).2 i hi
      simp only [World.frozen?, fence, hb q' h1 h2] at this ⊢; exact this
  · have hT' : T = wTab t m D' := by simpa [Heap.setTab] using hT.symm
    subst hT'
    obtain ⟨es', clk', h1, h2⟩ := MapOk.of hm
    exact ⟨q, es', clk', hq, hB, h1, h2⟩

/-- What a pointer to a wheel is in the world. -/
theorem HR.wheel {B : Nat} {w0 w : World} {ρ : Ren} {H : Heap} (h : HR B w0 ρ H w) {b t n : Nat} {D : Dat} (hb : H.get b = some ⟨[.map (some t)], true⟩) (ht : H.tab = some (wTab t n D)) {p' : Value} (hp : VR ρ (.pointer (some ⟨b, 0, none⟩)) p') :
    ∃ q s r, p' = .pointer (some ⟨q, s, none⟩) ∧ w.cell? ⟨q, s, none⟩ = some (.map (some r)) ∧ ρ t = some (.table r) ∧ Tabs w r n D := by
  obtain ⟨q, s, m, e, hl, hc, _⟩ := h.live b _ hb
  cases hp with
  | plain hq => simp [plain0] at hq
  | ptr e2 =>
    rw [e] at e2
    cases e2
    obtain ⟨v', h1, h2⟩ := hc 0 _ rfl
    cases h2 with
    | plain hq => simp [plain0] at hq
    | map e3 =>
      obtain ⟨r2, es, clk, e4, _, hm, hok⟩ := h.tabs _ ht
      have e4' : ρ t = some (.table r2) := e4
      rw [e3] at e4'
      cases e4'
      exact ⟨q, s + 0, _, rfl, h1, e3, hok w _ hm⟩

theorem vr_int {ρ : Ren} {k : IntKind} {x : Int} {v : Value} (h : VR ρ (.int k x) v) : v = .int k x := h.eq_of_plain0 rfl

theorem setW (H : Heap) (b t n : Nat) (D : Dat) (x v : Int) (hb : H.get b = some ⟨[.map (some t)], true⟩) (ht : H.tab = some (wTab t n D)) (hn : n < maxLen) (hwx : (Lit.int .i64 x).wf = true) (hwv : (Lit.int .i64 v).wf = true) :
    ICalls Try.prog 17 [ptrTo b 0, .int .i64 x, .int .i64 v] H fun u H' => u = .tuple ⟨[]⟩ ∧ H' = H.setTab (some (wTab t (n + 1) (D.put (.int .i64 x) (eI v)))) := by
  refine IBody.calls (by kernel_rfl) ?_
  intro B w0 ρ args' w hh hargs
  obtain ⟨args⟩ := args'
  have hargs' : VRL ρ [ptrTo b 0, .int .i64 x, .int .i64 v] args := hargs
  cases hargs' with
  | cons hp h2 =>
  cases h2 with
  | cons hx h3 =>
  cases h3 with
  | cons hv h4 =>
  cases h4
  obtain ⟨q, s, r, rfl, c0, hr, hown⟩ := hh.wheel hb ht hp
  rw [vr_int hx, vr_int hv]
  refine (wSet q s r n D x v w c0 hown hn hwx hwv).mono ?_
  rintro e w' ⟨rfl, h1, h2⟩
  exact ⟨ρ, .tuple ⟨[]⟩, _, _, rfl, ⟨rfl, rfl⟩, .tuple .nil, hh.turn ht hr h2.grown h1, Ren.Le.refl _, Nat.le_refl _⟩

theorem stopW (H : Heap) (b t n : Nat) (D : Dat) (x : Int) (hb : H.get b = some ⟨[.map (some t)], true⟩) (ht : H.tab = some (wTab t n D)) (hwx : (Lit.int .i64 x).wf = true) :
    ICalls Try.prog 26 [ptrTo b 0, .int .i64 x] H fun u H' => u = .bool (Maps.has D (.int .i64 x)) ∧ H' = H.setTab (some (wTab t n (D.del (.int .i64 x)))) := by
  refine IBody.calls (by kernel_rfl) ?_
  intro B w0 ρ args' w hh hargs
  obtain ⟨args⟩ := args'
  have hargs' : VRL ρ [ptrTo b 0, .int .i64 x] args := hargs
  cases hargs' with
  | cons hp h2 =>
  cases h2 with
  | cons hx h3 =>
  cases h3
  obtain ⟨q, s, r, rfl, c0, hr, hown⟩ := hh.wheel hb ht hp
  rw [vr_int hx]
  refine (wStop q s r n D x w c0 hown hwx).mono ?_
  rintro e w' ⟨rfl, h1, h2⟩
  exact ⟨ρ, .bool _, _, _, rfl, ⟨rfl, rfl⟩, .plain rfl, hh.turn ht hr h2.grown h1, Ren.Le.refl _, Nat.le_refl _⟩

theorem atW (H : Heap) (b t n : Nat) (D : Dat) (x : Int) (hb : H.get b = some ⟨[.map (some t)], true⟩) (ht : H.tab = some (wTab t n D)) (hwx : (Lit.int .i64 x).wf = true) :
    ICalls Try.prog 29 [ptrTo b 0, .int .i64 x] H fun u H' => u = .tuple ⟨[.int .i64 (atI D x), .bool (Maps.has D (.int .i64 x))]⟩ ∧ H' = H := by
  refine IBody.calls (by kernel_rfl) ?_
  intro B w0 ρ args' w hh hargs
  obtain ⟨args⟩ := args'
  have hargs' : VRL ρ [ptrTo b 0, .int .i64 x] args := hargs
  cases hargs' with
  | cons hp h2 =>
  cases h2 with
  | cons hx h3 =>
  cases h3
  obtain ⟨q, s, r, rfl, c0, hr, hown⟩ := hh.wheel hb ht hp
  rw [vr_int hx]
  refine (wAt q s r n D x w c0 hown hwx).mono ?_
  rintro e w' ⟨c, rfl, h1, h2, rfl⟩
  have ec := atI_of h1
  subst ec
  exact ⟨ρ, .tuple ⟨[.int .i64 (atI D x), .bool (Maps.has D (.int .i64 x))]⟩, _, _, rfl, ⟨rfl, rfl⟩, .tuple (VRL.of_plain0 rfl), hh, Ren.Le.refl _, Nat.le_refl _⟩

theorem lenW (H : Heap) (b t n : Nat) (D : Dat) (hb : H.get b = some ⟨[.map (some t)], true⟩) (ht : H.tab = some (wTab t n D)) :
    ICalls Try.prog 19 [ptrTo b 0] H fun u H' => u = .int .i64 (Maps.size D) ∧ H' = H := by
  refine IBody.calls (by kernel_rfl) ?_
  intro B w0 ρ args' w hh hargs
  obtain ⟨args⟩ := args'
  have hargs' : VRL ρ [ptrTo b 0] args := hargs
  cases hargs' with
  | cons hp h2 =>
  cases h2
  obtain ⟨q, s, r, rfl, c0, hr, hown⟩ := hh.wheel hb ht hp
  refine (wLen q s r n D w c0 hown).mono ?_
  rintro e w' ⟨rfl, rfl⟩
  exact ⟨ρ, .int .i64 (Maps.size D), _, _, rfl, ⟨rfl, rfl⟩, .plain rfl, hh, Ren.Le.refl _, Nat.le_refl _⟩

theorem newW (H : Heap) (ht : H.tab = none) :
    ICalls Try.prog 16 [] H fun u H' => u = ptrTo (H.next + 1) 0 ∧ H'.get (H.next + 1) = some ⟨[.map (some H.next)], true⟩ ∧ H'.tab = some (wTab H.next 0 (.map [])) ∧ H'.next = H.next + 1 + 1 ∧ ∀ j, j < H.next → H'.get j = H.get j := by
  refine IBody.calls (by kernel_rfl) ?_
  intro B w0 ρ args' w hh hargs
  obtain ⟨args⟩ := args'
  have hargs' : VRL ρ [] args := hargs
  cases hargs'
  refine (wNew w).mono ?_
  rintro e w' ⟨rfl, rfl⟩
  have hle : Ren.Le B ρ (ρ.ext H.next (.table w.heap.size)) := hh.fresh _
  have hin : (ρ.ext H.next (.table w.heap.size)) H.next = some (.table w.heap.size) := by rw [Ren.ext_get, if_pos rfl]
  have hw1 : ∀ k, k < w.heap.size → (w.alloc (.map #[] 0)).heap[k]? = w.heap[k]? := fun k hk => Below.heap_alloc w _ k hk
  obtain ⟨H1, hH1⟩ : ∃ H1, H1 = (H.upto (H.next + 1)).setTab (some (wTab H.next 0 (.map []))) := ⟨_, rfl⟩
  have n1 : H1.next = H.next + 1 := by rw [hH1]; show max H.next (H.next + 1) = _; omega
  have g1 : ∀ j, H1.get j = H.get j := fun j => by rw [hH1]; rfl
  have hr1 : HR B w0 (ρ.ext H.next (.table w.heap.size)) H1 (w.alloc (.map #[] 0)) := by
    have hs := hh.of_same (w' := w.alloc (.map #[] 0)) ((Below.refl _ _).alloc (Nat.le_refl _) _)
    refine ⟨hs.below, hs.base, fun b p e => ?_, fun b q s n e => ?_, fun b k hk => ?_, fun b b' k k' q s n q' s' n' hne h1 h2 ho e1 e2 => ?_, hs.fixed, fun b k q s n hk ho e => ?_, fun T hT => ?_⟩
    · rw [n1]
      rw [Ren.ext_get] at e
      split at e
      · omega
      · have := hh.dom b p e; omega
    · rw [Ren.ext_get] at e
      split at e
      · cases e
      · exact hs.size b q s n e
    · rw [g1] at hk
      obtain ⟨q, s, n, e, hl, hc, ho⟩ := hs.live b k hk
      exact ⟨q, s, n, hle.at_ _ _ e, hl, fun i v hv => let ⟨v', a, c⟩ := hc i v hv; ⟨v', a, c.mono hle⟩, ho⟩
    · rw [g1] at h1 h2
      rw [Ren.ext_get] at e1 e2
      split at e1
      · cases e1
      · split at e2
        · cases e2
        · exact hs.apart b b' k k' q s n q' s' n' hne h1 h2 ho e1 e2
    · rw [g1] at hk
      rw [Ren.ext_get] at e
      split at e
      · cases e
      · exact hs.off b k q s n hk ho e
    · have hT' : T = wTab H.next 0 (.map []) := by rw [hH1] at hT; simpa [Heap.setTab] using hT.symm
      subst hT'
      obtain ⟨es, clk, h1, h2⟩ := MapOk.of (World.ownsMap_made w Try.prog 3 (plainElem (H := Unit) Try.prog 2))
      exact ⟨w.heap.size, es, clk, hin, hh.base, h1, h2⟩
  have hr2 := hr1.alloc [.map (some H.next)] #[.map (some w.heap.size)] 90 (by simp) (fun i v hv => by
    match i with
    | 0 => simp at hv; subst hv; exact ⟨_, rfl, .map hin⟩
    | i + 1 => simp at hv)
  rw [n1] at hr2
  have hle2 : Ren.Le B (ρ.ext H.next (.table w.heap.size)) ((ρ.ext H.next (.table w.heap.size)).ext (H.next + 1) (.lies (w.alloc (.map #[] 0)).heap.size 0 1)) := by
    have := hr1.fresh (.lies (w.alloc (.map #[] 0)).heap.size 0 1)
    rwa [n1] at this
  refine ⟨_, ptrTo (H.next + 1) 0, _, _, rfl, ⟨rfl, ?_, ?_, ?_, fun j hj => ?_⟩, ?_, hr2, hle.trans hle2, ?_⟩
  · rw [← n1]; exact Heap.get_alloc_new _ _
  · rw [Heap.tab_alloc, hH1]; rfl
  · rw [next_alloc, n1]
  · rw [Heap.get_alloc_lt _ _ _ (by omega), g1]
  · have := VR.ptr (ρ := (ρ.ext H.next (.table w.heap.size)).ext (H.next + 1) (.lies (w.alloc (.map #[] 0)).heap.size 0 1)) (b := H.next + 1) (o := 0) (q := (w.alloc (.map #[] 0)).heap.size) (s := 0) (n := 1) (by rw [Ren.ext_get, if_pos rfl])
    simpa [ptrTo] using this
  · rw [next_alloc, n1]; omega

end Go.Proofs.Ytdimnoeldnfikaa.I
