/- Frames: the bodies of more laws. No condition. -/
import Derived.Test.YtgmpjbifbnaijaaLFrameB
namespace Go.Proofs.Ytgmpjbifbnaijaa.I
open Go Go.RowKit
set_option linter.unusedVariables false
set_option linter.unusedSimpArgs false

theorem scan_sum (P : List Int) : (scanS P).1.length + (scanS P).2.1 ≤ P.length := by
  have h := scanS_count P
  have : ∀ L : List (List Int), L.length ≤ (L.map fun f => f.length + 5).sum := by
    intro L
    induction L with
    | nil => simp
    | cons f L ih => simp only [List.length_cons, List.map_cons, List.sum_cons]; omega
  have := this (scanS P).1
  omega

theorem GotInv.frz {K : Heap} {n b : Nat} {r : Option Nat} {v : Value} {fs : List (List Int)} (h : GotInv K n b r v fs) : Frz K (fun j => decide (n ≤ j) && !(decide (r = some j))) v (frow 1 0 (fs.map byts)) := by
  obtain ⟨⟨h0, h1⟩, h2, h3, h4⟩ := h
  rcases h1 with ⟨rfl, e⟩ | ⟨c, c1, rfl, c3⟩
  · rw [e]; exact .nil 1
  · exact frz_lit _ c3 rfl h0 rfl (by simp [c1, h3 c _ _ _ _ rfl])

set_option maxHeartbeats 1000000 in
theorem framePieces_law (H : Heap) (l : List Part) (cuts : List Int) (hw : ∀ x ∈ l, x.wf) (hC : Bs cuts) :
    IBody Try.prog 5 [frow 4 0 (l.map Part.val), byts cuts] H fun v _ => v = .bool true := by
  by_cases hl : l.length ≤ 12
  case neg =>
    refine IBody.of Try.func5 rfl (by rw [Try.ntmps5]; simp) ?_
    rw [Try.ntmps5]
    refine IWp.seq ?_
    refine IWp.run [0, 1] ?_
    simp [go_sem, -getElem?_pos, -List.map_take, -List.map_drop, List.getElem?_cons_zero, List.getElem?_cons_succ, Go.IntWalk.iteOmega, Go.IntWalk.toNatUp, hl]
    refine IWp.seq ?_
    refine IWp.seq ?_
    refine IWp.run [0, 1, 24] ?_
    simp [go_sem, -getElem?_pos, -List.map_take, -List.map_drop, List.getElem?_cons_zero, List.getElem?_cons_succ, Go.IntWalk.iteOmega, Go.IntWalk.toNatUp, hl]
    refine ICalls.then (told _) ?_
    try simp [go_sem, -getElem?_pos, -List.map_take, -List.map_drop, List.getElem?_cons_zero, List.getElem?_cons_succ, Go.IntWalk.iteOmega, Go.IntWalk.toNatUp, hl]
    refine ICalls.then (few _ 0 l) ?_
    try simp [go_sem, -getElem?_pos, -List.map_take, -List.map_drop, List.getElem?_cons_zero, List.getElem?_cons_succ, Go.IntWalk.iteOmega, Go.IntWalk.toNatUp, hl]
    refine IWp.cond ?_
    simp [go_sem, -getElem?_pos, -List.map_take, -List.map_drop, List.getElem?_cons_zero, List.getElem?_cons_succ, Go.IntWalk.iteOmega, Go.IntWalk.toNatUp, hl]
    refine IWp.seq ?_
    refine IWp.run [4] ?_
    simp [go_sem, -getElem?_pos, -List.map_take, -List.map_drop, List.getElem?_cons_zero, List.getElem?_cons_succ, Go.IntWalk.iteOmega, Go.IntWalk.toNatUp, hl]
    refine ICalls.then (told _) ?_
    try simp [go_sem, -getElem?_pos, -List.map_take, -List.map_drop, List.getElem?_cons_zero, List.getElem?_cons_succ, Go.IntWalk.iteOmega, Go.IntWalk.toNatUp, hl]
    refine IWp.ret ?_
    simp [go_sem, -getElem?_pos, -List.map_take, -List.map_drop, List.getElem?_cons_zero, List.getElem?_cons_succ, Go.IntWalk.iteOmega, Go.IntWalk.toNatUp, hl, Try.results5]
  by_cases hp : 60 < cuts.length
  · skip
    refine IBody.of Try.func5 rfl (by rw [Try.ntmps5]; simp) ?_
    rw [Try.ntmps5]
    refine IWp.seq ?_
    refine IWp.run [0, 1] ?_
    simp [go_sem, -getElem?_pos, -List.map_take, -List.map_drop, List.getElem?_cons_zero, List.getElem?_cons_succ, Go.IntWalk.iteOmega, Go.IntWalk.toNatUp, hl, show (60 : Int) < cuts.length by omega]
    refine IWp.seq ?_
    refine IWp.seq ?_
    refine IWp.run [0, 1, 24] ?_
    simp [go_sem, -getElem?_pos, -List.map_take, -List.map_drop, List.getElem?_cons_zero, List.getElem?_cons_succ, Go.IntWalk.iteOmega, Go.IntWalk.toNatUp, hl, show (60 : Int) < cuts.length by omega]
    refine ICalls.then (told _) ?_
    try simp [go_sem, -getElem?_pos, -List.map_take, -List.map_drop, List.getElem?_cons_zero, List.getElem?_cons_succ, Go.IntWalk.iteOmega, Go.IntWalk.toNatUp, hl, show (60 : Int) < cuts.length by omega]
    refine ICalls.then (few _ 0 l) ?_
    try simp [go_sem, -getElem?_pos, -List.map_take, -List.map_drop, List.getElem?_cons_zero, List.getElem?_cons_succ, Go.IntWalk.iteOmega, Go.IntWalk.toNatUp, hl, show (60 : Int) < cuts.length by omega]
    refine IWp.cond ?_
    simp [go_sem, -getElem?_pos, -List.map_take, -List.map_drop, List.getElem?_cons_zero, List.getElem?_cons_succ, Go.IntWalk.iteOmega, Go.IntWalk.toNatUp, hl, show (60 : Int) < cuts.length by omega]
    refine IWp.seq ?_
    refine IWp.run [4] ?_
    simp [go_sem, -getElem?_pos, -List.map_take, -List.map_drop, List.getElem?_cons_zero, List.getElem?_cons_succ, Go.IntWalk.iteOmega, Go.IntWalk.toNatUp, hl, show (60 : Int) < cuts.length by omega]
    refine ICalls.then (told _) ?_
    try simp [go_sem, -getElem?_pos, -List.map_take, -List.map_drop, List.getElem?_cons_zero, List.getElem?_cons_succ, Go.IntWalk.iteOmega, Go.IntWalk.toNatUp, hl, show (60 : Int) < cuts.length by omega]
    refine IWp.ret ?_
    simp [go_sem, -getElem?_pos, -List.map_take, -List.map_drop, List.getElem?_cons_zero, List.getElem?_cons_succ, Go.IntWalk.iteOmega, Go.IntWalk.toNatUp, hl, show (60 : Int) < cuts.length by omega, Try.results5]
  have hS := streamS_len l
  have hSB := streamS_bs hw
  have hst := fun K => stream K 0 l hw (by omega)
  generalize streamS l = S at *
  have hlost := scan_lost S
  refine IBody.of Try.func5 rfl (by rw [Try.ntmps5]; simp) ?_
  rw [Try.ntmps5]
  refine IWp.seq ?_
  refine IWp.run [0, 1] ?_
  simp [go_sem, -getElem?_pos, -List.map_take, -List.map_drop, List.getElem?_cons_zero, List.getElem?_cons_succ, Go.IntWalk.iteOmega, Go.IntWalk.toNatUp, hl, show ¬ (60 : Int) < cuts.length by omega]
  refine IWp.seq ?_
  refine IWp.seq ?_
  refine IWp.run [0, 1, 24] ?_
  simp [go_sem, -getElem?_pos, -List.map_take, -List.map_drop, List.getElem?_cons_zero, List.getElem?_cons_succ, Go.IntWalk.iteOmega, Go.IntWalk.toNatUp, hl, show ¬ (60 : Int) < cuts.length by omega]
  refine ICalls.then (told _) ?_
  try simp [go_sem, -getElem?_pos, -List.map_take, -List.map_drop, List.getElem?_cons_zero, List.getElem?_cons_succ, Go.IntWalk.iteOmega, Go.IntWalk.toNatUp, hl, show ¬ (60 : Int) < cuts.length by omega]
  refine ICalls.then (few _ 0 l) ?_
  try simp [go_sem, -getElem?_pos, -List.map_take, -List.map_drop, List.getElem?_cons_zero, List.getElem?_cons_succ, Go.IntWalk.iteOmega, Go.IntWalk.toNatUp, hl, show ¬ (60 : Int) < cuts.length by omega]
  refine IWp.cond ?_
  simp [go_sem, -getElem?_pos, -List.map_take, -List.map_drop, List.getElem?_cons_zero, List.getElem?_cons_succ, Go.IntWalk.iteOmega, Go.IntWalk.toNatUp, hl, show ¬ (60 : Int) < cuts.length by omega]
  refine IWp.trim [0, 1] (IWp.skip ?_)
  simp [go_sem, -getElem?_pos, -List.map_take, -List.map_drop, List.getElem?_cons_zero, List.getElem?_cons_succ, Go.IntWalk.iteOmega, Go.IntWalk.toNatUp, hl, show ¬ (60 : Int) < cuts.length by omega]
  refine IWp.seq ?_
  refine IWp.run [1, 5] ?_
  simp [go_sem, -getElem?_pos, -List.map_take, -List.map_drop, List.getElem?_cons_zero, List.getElem?_cons_succ, Go.IntWalk.iteOmega, Go.IntWalk.toNatUp, hl, show ¬ (60 : Int) < cuts.length by omega]
  refine ICalls.then (hst _) ?_
  try simp [go_sem, -getElem?_pos, -List.map_take, -List.map_drop, List.getElem?_cons_zero, List.getElem?_cons_succ, Go.IntWalk.iteOmega, Go.IntWalk.toNatUp, hl, show ¬ (60 : Int) < cuts.length by omega]
  refine IWp.seq ?_
  refine IWp.run [1, 5, 6, 7] ?_
  simp [go_sem, -getElem?_pos, -List.map_take, -List.map_drop, List.getElem?_cons_zero, List.getElem?_cons_succ, Go.IntWalk.iteOmega, Go.IntWalk.toNatUp, hl, show ¬ (60 : Int) < cuts.length by omega]
  refine ICalls.mono (scNew _) ?_
  rintro v H1 ⟨rfl, h1, o1⟩
  try simp [go_sem, -getElem?_pos, -List.map_take, -List.map_drop, List.getElem?_cons_zero, List.getElem?_cons_succ, Go.IntWalk.iteOmega, Go.IntWalk.toNatUp, hl, show ¬ (60 : Int) < cuts.length by omega]
  refine ICalls.mono (scNew _) ?_
  rintro v H2 ⟨rfl, h2, o2⟩
  try simp [go_sem, -getElem?_pos, -List.map_take, -List.map_drop, List.getElem?_cons_zero, List.getElem?_cons_succ, Go.IntWalk.iteOmega, Go.IntWalk.toNatUp, hl, show ¬ (60 : Int) < cuts.length by omega]
  refine IWp.seq ?_
  refine IWp.run [1, 5, 6, 7, 8] ?_
  simp [go_sem, -getElem?_pos, -List.map_take, -List.map_drop, List.getElem?_cons_zero, List.getElem?_cons_succ, Go.IntWalk.iteOmega, Go.IntWalk.toNatUp, hl, show ¬ (60 : Int) < cuts.length by omega]
  have hAB : H.next < H1.next := h1.lt.1
  have h1' : ScAt H2 H.next none [] 0 := h1.same fun j hj => o2.1 j (hj.elim (fun e => e ▸ hAB) (fun e => by cases e))
  refine ICalls.mono (feed0 _ _ _ S 0 h1' (by omega) hSB) ?_
  rintro v K0 ⟨rfl, ra, ha, sa⟩
  simp [go_sem]
  refine IWp.seq ?_
  refine IWp.run [1, 5, 6, 7, 8, 9] ?_
  simp [go_sem, -getElem?_pos, -List.map_take, -List.map_drop, List.getElem?_cons_zero, List.getElem?_cons_succ, Go.IntWalk.iteOmega, Go.IntWalk.toNatUp]
  refine IWp.seq ?_
  refine IWp.run [1, 5, 6, 7, 8, 9, 10] ?_
  simp [go_sem, -getElem?_pos, -List.map_take, -List.map_drop, List.getElem?_cons_zero, List.getElem?_cons_succ, Go.IntWalk.iteOmega, Go.IntWalk.toNatUp]
  refine IWp.seq ?_
  refine IWp.seq ?_
  refine IWp.run [1, 5, 6, 7, 8, 9, 10, 11] ?_
  simp [go_sem, -getElem?_pos, -List.map_take, -List.map_drop, List.getElem?_cons_zero, List.getElem?_cons_succ, Go.IntWalk.iteOmega, Go.IntWalk.toNatUp]
  refine IWp.block ?_
  -- LOOP live [1, 5, 6, 7, 8, 9, 10, 11]
  have h2' : ScAt K0 H1.next none [] 0 := h2.same fun j hj => by
    have hj' : j = H1.next := hj.elim id (fun e => by cases e)
    subst hj'
    exact sa.get _ h2.lt.1 (by omega) (by simp)
  have hbK := h2'.lt.1
  have haK := ha.lt
  have hra : ∀ q, ra = some q → q ≠ H1.next := fun q hq e => by
    rcases sa.row with e2 | ⟨q', e2, h3⟩
    · rw [e2] at hq; cases hq
    · rw [e2] at hq; cases hq
      have := h2.lt.1; omega
  generalize H1.next = b at *
  generalize H.next = a at *
  refine IWp.loop (fun j e K => ∃ (i at_ : Nat) (r : Option Nat) (v : Value) (fs : List (List Int)) (lost : Nat) (held : List Int), j = cuts.length - i ∧ i ≤ cuts.length ∧ at_ ≤ S.length ∧ fs.length + lost ≤ at_ ∧ scanS (S.take at_) = (fs, lost, held) ∧ ScAt K b r held lost ∧ GotInv K K0.next b r v fs ∧ K0.next ≤ K.next ∧ (∀ j, j < K0.next → j ≠ b → K.get j = K0.get j) ∧ e = [(1, byts cuts), (5, byts S), (6, ptrTo a 0), (7, ptrTo b 0), (8, frow 1 0 ((scanS S).1.map byts)), (9, v), (10, .int .i64 (at_ : Int)), (11, .int .i64 (i : Int))]) cuts.length ⟨0, 0, none, .slice none 0 0, [], 0, [], rfl, Nat.zero_le _, Nat.zero_le _, Nat.le_refl _, by rw [List.take_zero]; exact scanS_nil, h2', ⟨Bld.nil _ _ _, fun q h => (by cases h), fun _ _ _ _ _ h => (by cases h), hbK⟩, Nat.le_refl _, fun _ _ _ => rfl, by simp [go_sem]⟩ ?_
  rintro j e K ⟨i, at_, r, v, fs, lost, held, rfl, hi, hat, hfl, hsc, hb, hg, hn, hold, rfl⟩
  have hheld : held.length ≤ 36 := by have := (scanS_held (S.take at_)).1; rw [hsc] at this; exact this
  have hhB : Bs held := by have := (scanS_bs (S.take at_) (hSB.take _)).1; rw [hsc] at this; exact this
  have hmore : ∀ n, at_ ≤ n → n ≤ S.length → scanS (S.take n) = (fs ++ (scanS (held ++ (S.drop at_).take (n - at_))).1, lost + (scanS (held ++ (S.drop at_).take (n - at_))).2.1, (scanS (held ++ (S.drop at_).take (n - at_))).2.2) := fun n h1 h2 => by
    have e : S.take n = S.take at_ ++ (S.drop at_).take (n - at_) := by rw [← List.take_add]; congr 1; omega
    rw [e, scanS_app, hsc]
  have haS : ∀ j, (j = a ∨ ra = some j) → K.get j = K0.get j := fun j hj => hold j (hj.elim (fun e => e ▸ haK.1) (haK.2 j)) (hj.elim (fun e => by omega) (fun e => hra j e))
  by_cases hgo : i < cuts.length ∧ at_ < S.length
  · obtain ⟨hgo1, hgo2⟩ := hgo
    have gc : cuts[i]? = some cuts[i] := List.getElem?_eq_getElem hgo1
    have hcb := hC _ (List.getElem_mem hgo1)
    generalize cuts[i] = c at gc hcb
    have ht : c.tmod 9 = c % 9 := Int.tmod_eq_emod_of_nonneg (by omega)
    have w1 := IntWalk.i64_in c (by omega)
    have w2 := IntWalk.i64_in (c % 9) (by omega)
    have w3 := IntWalk.i64_in ((at_ : Int) + c % 9) (by omega)
    have w4 := IntWalk.i64_in ((i : Int) + 1) (by omega)
    obtain ⟨n, hn0⟩ : ∃ n : Nat, n = min (at_ + (c % 9).toNat) S.length := ⟨_, rfl⟩
    have hm := hmore n (by omega) (by omega)
    have hsn := scan_lost (held ++ (S.drop at_).take (n - at_))
    have hso := (scanS_count (held ++ (S.drop at_).take (n - at_))).1
    have hf := feedF K b r held ((S.drop at_).take (n - at_)) lost _ hb (irow_byts 0 _ _) (by simp; omega) (by omega) (hhB.app ((hSB.drop _).take _))
    have hso2 := (scan_out (held ++ (S.drop at_).take (n - at_))).1
    have hsl : (held ++ (S.drop at_).take (n - at_)).length = held.length + (n - at_) := by rw [List.length_append, List.length_take, List.length_drop]; omega
    rw [hsl] at hsn hso hso2
    generalize scanS (held ++ (S.drop at_).take (n - at_)) = sc at *
    have hfin : ∀ K2 r2, ScAt K2 b r2 sc.2.2 (lost + sc.2.1) → Step K K2 b r r2 → ∃ v' K3, iapp Try.prog 25 v (frow 1 0 (sc.1.map byts)) K2 = some (v', K3) ∧ GotInv K3 K0.next b r2 v' (fs ++ sc.1) ∧ ScAt K3 b r2 sc.2.2 (lost + sc.2.1) ∧ K0.next ≤ K3.next ∧ (∀ j, j < K0.next → j ≠ b → K3.get j = K0.get j) := fun K2 r2 h1 h2 => by
      obtain ⟨v', K3, e3, g3, sc3, o3, n3⟩ := hg.step h2 hn h1 (gs := sc.1) (by omega)
      refine ⟨v', K3, e3, g3, sc3, by have := h2.next; omega, fun j hj hb => ?_⟩
      rw [o3 j hj, h2.get j (by omega) hb (fun e => by have := hg.2.1 j e; omega), hold j hj hb]
    have hcnt := scan_sum (S.take n)
    rw [hm, List.length_take] at hcnt
    simp only at hcnt
    by_cases hc : (S.length : Int) < at_ + c % 9
    · have hnS : n = S.length := by omega
      rw [hnS] at hf
      refine IWp.seq ?_
      refine IWp.seq ?_
      refine IWp.run [1, 5, 6, 7, 8, 9, 10, 11, 42] ?_
      simp [go_sem, -getElem?_pos, -List.map_take, -List.map_drop, List.getElem?_cons_zero, List.getElem?_cons_succ, Go.IntWalk.iteOmega, Go.IntWalk.toNatUp, w1, w2, w3, w4, ht, gc, hgo1, hgo2, hc, hat, show (at_ : Int) < S.length by omega, show (at_ : Int) ≤ S.length by omega]
      refine IWp.cond ?_
      simp [go_sem, -getElem?_pos, -List.map_take, -List.map_drop, List.getElem?_cons_zero, List.getElem?_cons_succ, Go.IntWalk.iteOmega, Go.IntWalk.toNatUp, w1, w2, w3, w4, ht, gc, hgo1, hgo2, hc, hat, show (at_ : Int) < S.length by omega, show (at_ : Int) ≤ S.length by omega]
      refine IWp.trim [1, 5, 6, 7, 8, 9, 10, 11] (IWp.skip ?_)
      simp [go_sem, -getElem?_pos, -List.map_take, -List.map_drop, List.getElem?_cons_zero, List.getElem?_cons_succ, Go.IntWalk.iteOmega, Go.IntWalk.toNatUp, w1, w2, w3, w4, ht, gc, hgo1, hgo2, hc, hat, show (at_ : Int) < S.length by omega, show (at_ : Int) ≤ S.length by omega]
      refine IWp.seq ?_
      refine IWp.block ?_
      refine IWp.seq ?_
      refine IWp.run [1, 5, 6, 7, 8, 9, 10, 11, 12] ?_
      simp [go_sem, -getElem?_pos, -List.map_take, -List.map_drop, List.getElem?_cons_zero, List.getElem?_cons_succ, Go.IntWalk.iteOmega, Go.IntWalk.toNatUp, w1, w2, w3, w4, ht, gc, hgo1, hgo2, hc, hat, show (at_ : Int) < S.length by omega, show (at_ : Int) ≤ S.length by omega]
      refine IWp.seq ?_
      refine IWp.seq ?_
      refine IWp.run [1, 5, 6, 7, 8, 9, 10, 11, 12, 56] ?_
      simp [go_sem, -getElem?_pos, -List.map_take, -List.map_drop, List.getElem?_cons_zero, List.getElem?_cons_succ, Go.IntWalk.iteOmega, Go.IntWalk.toNatUp, w1, w2, w3, w4, ht, gc, hgo1, hgo2, hc, hat, show (at_ : Int) < S.length by omega, show (at_ : Int) ≤ S.length by omega]
      refine IWp.cond ?_
      simp [go_sem, -getElem?_pos, -List.map_take, -List.map_drop, List.getElem?_cons_zero, List.getElem?_cons_succ, Go.IntWalk.iteOmega, Go.IntWalk.toNatUp, w1, w2, w3, w4, ht, gc, hgo1, hgo2, hc, hat, show (at_ : Int) < S.length by omega, show (at_ : Int) ≤ S.length by omega]
      refine IWp.run [1, 5, 6, 7, 8, 9, 10, 11, 12] ?_
      simp [go_sem, -getElem?_pos, -List.map_take, -List.map_drop, List.getElem?_cons_zero, List.getElem?_cons_succ, Go.IntWalk.iteOmega, Go.IntWalk.toNatUp, w1, w2, w3, w4, ht, gc, hgo1, hgo2, hc, hat, show (at_ : Int) < S.length by omega, show (at_ : Int) ≤ S.length by omega]
      refine IWp.seq ?_
      refine IWp.run [1, 5, 6, 7, 8, 9, 11, 12] ?_
      simp [go_sem, -getElem?_pos, -List.map_take, -List.map_drop, List.getElem?_cons_zero, List.getElem?_cons_succ, Go.IntWalk.iteOmega, Go.IntWalk.toNatUp, w1, w2, w3, w4, ht, gc, hgo1, hgo2, hc, hat, show (at_ : Int) < S.length by omega, show (at_ : Int) ≤ S.length by omega]
      refine ICalls.mono hf ?_
      rintro u K2 ⟨rfl, r2, h2, s2⟩
      obtain ⟨v', K3, e3, g3, sc3, n3, o3⟩ := hfin K2 r2 h2 s2
      simp [go_sem, -List.map_take, -List.map_drop, e3]
      refine IWp.run [1, 5, 6, 7, 8, 9, 10, 11] ?_
      simp [go_sem, -getElem?_pos, -List.map_take, -List.map_drop, List.getElem?_cons_zero, List.getElem?_cons_succ, Go.IntWalk.iteOmega, Go.IntWalk.toNatUp, w4]
      refine IWp.run [1, 5, 6, 7, 8, 9, 10, 11] ?_
      simp [go_sem, -getElem?_pos, -List.map_take, -List.map_drop, List.getElem?_cons_zero, List.getElem?_cons_succ, Go.IntWalk.iteOmega, Go.IntWalk.toNatUp, w4]
      exact ⟨cuts.length - (i + 1), by omega, i + 1, rfl, by omega, n, by omega, r2, v', fs ++ sc.1, lost + sc.2.1, by omega, sc.2.2, hm, sc3, g3, n3, o3, rfl, by omega, by omega⟩
    · have hnS : (at_ : Int) + c % 9 = n := by omega
      rw [hnS] at hc w3
      refine IWp.seq ?_
      refine IWp.seq ?_
      refine IWp.run [1, 5, 6, 7, 8, 9, 10, 11, 42] ?_
      simp [go_sem, -getElem?_pos, -List.map_take, -List.map_drop, List.getElem?_cons_zero, List.getElem?_cons_succ, Go.IntWalk.iteOmega, Go.IntWalk.toNatUp, w1, w2, w3, w4, ht, gc, hgo1, hgo2, hc, hat, hnS, show n ≤ S.length by omega, show (at_ : Int) < S.length by omega, show (at_ : Int) ≤ S.length by omega, show (at_ : Int) ≤ n by omega, show at_ ≤ n by omega]
      refine IWp.cond ?_
      simp [go_sem, -getElem?_pos, -List.map_take, -List.map_drop, List.getElem?_cons_zero, List.getElem?_cons_succ, Go.IntWalk.iteOmega, Go.IntWalk.toNatUp, w1, w2, w3, w4, ht, gc, hgo1, hgo2, hc, hat, hnS, show n ≤ S.length by omega, show (at_ : Int) < S.length by omega, show (at_ : Int) ≤ S.length by omega, show (at_ : Int) ≤ n by omega, show at_ ≤ n by omega]
      refine IWp.trim [1, 5, 6, 7, 8, 9, 10, 11] (IWp.skip ?_)
      simp [go_sem, -getElem?_pos, -List.map_take, -List.map_drop, List.getElem?_cons_zero, List.getElem?_cons_succ, Go.IntWalk.iteOmega, Go.IntWalk.toNatUp, w1, w2, w3, w4, ht, gc, hgo1, hgo2, hc, hat, hnS, show n ≤ S.length by omega, show (at_ : Int) < S.length by omega, show (at_ : Int) ≤ S.length by omega, show (at_ : Int) ≤ n by omega, show at_ ≤ n by omega]
      refine IWp.seq ?_
      refine IWp.block ?_
      refine IWp.seq ?_
      refine IWp.run [1, 5, 6, 7, 8, 9, 10, 11, 12] ?_
      simp [go_sem, -getElem?_pos, -List.map_take, -List.map_drop, List.getElem?_cons_zero, List.getElem?_cons_succ, Go.IntWalk.iteOmega, Go.IntWalk.toNatUp, w1, w2, w3, w4, ht, gc, hgo1, hgo2, hc, hat, hnS, show n ≤ S.length by omega, show (at_ : Int) < S.length by omega, show (at_ : Int) ≤ S.length by omega, show (at_ : Int) ≤ n by omega, show at_ ≤ n by omega]
      refine IWp.seq ?_
      refine IWp.seq ?_
      refine IWp.run [1, 5, 6, 7, 8, 9, 10, 11, 12, 56] ?_
      simp [go_sem, -getElem?_pos, -List.map_take, -List.map_drop, List.getElem?_cons_zero, List.getElem?_cons_succ, Go.IntWalk.iteOmega, Go.IntWalk.toNatUp, w1, w2, w3, w4, ht, gc, hgo1, hgo2, hc, hat, hnS, show n ≤ S.length by omega, show (at_ : Int) < S.length by omega, show (at_ : Int) ≤ S.length by omega, show (at_ : Int) ≤ n by omega, show at_ ≤ n by omega]
      refine IWp.cond ?_
      simp [go_sem, -getElem?_pos, -List.map_take, -List.map_drop, List.getElem?_cons_zero, List.getElem?_cons_succ, Go.IntWalk.iteOmega, Go.IntWalk.toNatUp, w1, w2, w3, w4, ht, gc, hgo1, hgo2, hc, hat, hnS, show n ≤ S.length by omega, show (at_ : Int) < S.length by omega, show (at_ : Int) ≤ S.length by omega, show (at_ : Int) ≤ n by omega, show at_ ≤ n by omega]
      refine IWp.trim [1, 5, 6, 7, 8, 9, 10, 11, 12] (IWp.skip ?_)
      simp [go_sem, -getElem?_pos, -List.map_take, -List.map_drop, List.getElem?_cons_zero, List.getElem?_cons_succ, Go.IntWalk.iteOmega, Go.IntWalk.toNatUp, w1, w2, w3, w4, ht, gc, hgo1, hgo2, hc, hat, hnS, show n ≤ S.length by omega, show (at_ : Int) < S.length by omega, show (at_ : Int) ≤ S.length by omega, show (at_ : Int) ≤ n by omega, show at_ ≤ n by omega]
      refine IWp.seq ?_
      refine IWp.run [1, 5, 6, 7, 8, 9, 11, 12] ?_
      simp [go_sem, -getElem?_pos, -List.map_take, -List.map_drop, List.getElem?_cons_zero, List.getElem?_cons_succ, Go.IntWalk.iteOmega, Go.IntWalk.toNatUp, w1, w2, w3, w4, ht, gc, hgo1, hgo2, hc, hat, hnS, show n ≤ S.length by omega, show (at_ : Int) < S.length by omega, show (at_ : Int) ≤ S.length by omega, show (at_ : Int) ≤ n by omega, show at_ ≤ n by omega]
      refine ICalls.mono hf ?_
      rintro u K2 ⟨rfl, r2, h2, s2⟩
      obtain ⟨v', K3, e3, g3, sc3, n3, o3⟩ := hfin K2 r2 h2 s2
      simp [go_sem, -List.map_take, -List.map_drop, e3]
      refine IWp.run [1, 5, 6, 7, 8, 9, 10, 11] ?_
      simp [go_sem, -getElem?_pos, -List.map_take, -List.map_drop, List.getElem?_cons_zero, List.getElem?_cons_succ, Go.IntWalk.iteOmega, Go.IntWalk.toNatUp, w4]
      refine IWp.run [1, 5, 6, 7, 8, 9, 10, 11] ?_
      simp [go_sem, -getElem?_pos, -List.map_take, -List.map_drop, List.getElem?_cons_zero, List.getElem?_cons_succ, Go.IntWalk.iteOmega, Go.IntWalk.toNatUp, w4]
      exact ⟨cuts.length - (i + 1), by omega, i + 1, rfl, by omega, n, by omega, r2, v', fs ++ sc.1, lost + sc.2.1, by omega, sc.2.2, hm, sc3, g3, n3, o3, rfl, rfl, by omega⟩
  · have hm := hmore S.length (by omega) (by omega)
    have hd : (S.drop at_).take (S.length - at_) = S.drop at_ := List.take_of_length_le (by simp)
    rw [hd, List.take_of_length_le (Nat.le_refl _)] at hm
    have hf := feedF K b r held (S.drop at_) lost _ hb (irow_byts 0 _ _) (by simp; omega) (by omega) (hhB.app (hSB.drop _))
    have hsl : (held ++ S.drop at_).length = held.length + (S.length - at_) := by rw [List.length_append, List.length_drop]
    have hso2 := (scan_out (held ++ S.drop at_)).1
    rw [hsl] at hso2
    have hSl := scan_out S
    have hss : ∀ x ∈ (scanS S).1, x.length ≤ 1000000 := fun x hx => by have := hSl.2 x hx; omega
    generalize scanS (held ++ S.drop at_) = sc at *
    have hgo' : (decide ((i : Int) < cuts.length) && decide ((at_ : Int) < S.length)) = false := by
      by_cases h1 : i < cuts.length
      · have h2 : ¬ at_ < S.length := fun h2 => hgo ⟨h1, h2⟩
        simp [h1, show ¬ (at_ : Int) < S.length by omega]
      · simp [show ¬ (i : Int) < cuts.length by omega]
    have hfin : ∃ q : Bool, (if (i : Int) < cuts.length then decide ((at_ : Int) < S.length) else false) = q := ⟨_, rfl⟩
    by_cases h1 : i < cuts.length
    · have h2 : ¬ at_ < S.length := fun h2 => hgo ⟨h1, h2⟩
      refine IWp.seq ?_
      refine IWp.seq ?_
      refine IWp.run [1, 5, 6, 7, 8, 9, 10, 11, 42] ?_
      simp [go_sem, -getElem?_pos, -List.map_take, -List.map_drop, List.getElem?_cons_zero, List.getElem?_cons_succ, Go.IntWalk.iteOmega, Go.IntWalk.toNatUp, h1, hd, show ¬ (at_ : Int) < S.length by omega, show at_ ≤ S.length by omega]
      refine IWp.cond ?_
      simp [go_sem, -getElem?_pos, -List.map_take, -List.map_drop, List.getElem?_cons_zero, List.getElem?_cons_succ, Go.IntWalk.iteOmega, Go.IntWalk.toNatUp, h1, hd, show ¬ (at_ : Int) < S.length by omega, show at_ ≤ S.length by omega]
      refine IWp.trim [5, 6, 7, 8, 9, 10] (IWp.exit ?_)
      simp [go_sem, -getElem?_pos, -List.map_take, -List.map_drop, List.getElem?_cons_zero, List.getElem?_cons_succ, Go.IntWalk.iteOmega, Go.IntWalk.toNatUp, h1, hd, show ¬ (at_ : Int) < S.length by omega, show at_ ≤ S.length by omega]
      refine IWp.seq ?_
      refine IWp.run [6, 7, 8, 9] ?_
      simp [go_sem, -getElem?_pos, -List.map_take, -List.map_drop, List.getElem?_cons_zero, List.getElem?_cons_succ, Go.IntWalk.iteOmega, Go.IntWalk.toNatUp, h1, hd, show ¬ (at_ : Int) < S.length by omega, show at_ ≤ S.length by omega]
      refine ICalls.mono hf ?_
      rintro u K2 ⟨rfl, r2, h2, s2⟩
      obtain ⟨v', K3, e3, g3, sc3, o3, n3⟩ := hg.step s2 hn h2 (gs := sc.1) (by omega)
      have hs3 : ∀ j, (j = a ∨ ra = some j) → K3.get j = K0.get j := fun j hj => by
        have hj0 : j < K0.next := hj.elim (fun e => e ▸ haK.1) (haK.2 j)
        have hjb : j ≠ b := hj.elim (fun e => by omega) (fun e => hra j e)
        rw [o3 j hj0, s2.get j (by omega) hjb (fun e => by have := hg.2.1 j e; omega), hold j hj0 hjb]
      have hg3 := g3.frz
      rw [show fs ++ sc.1 = (scanS S).1 by rw [hm]] at hg3
      have hKo : ∀ j, (j < K0.next ∨ r2 = some j) → (K3.only fun j => !(decide (K0.next ≤ j) && !(decide (r2 = some j)))).get j = K3.get j := fun j hj => by
        simp only [Heap.only]
        rw [if_pos]
        rcases hj with hj | hj
        · simp; exact .inl hj
        · simp [hj]
      have hA : ScAt (K3.only fun j => !(decide (K0.next ≤ j) && !(decide (r2 = some j)))) a ra (scanS S).2.2 (scanS S).2.1 := ha.same fun j hj => by
        rw [hKo j (.inl (hj.elim (fun e => e ▸ haK.1) (haK.2 j))), hs3 j hj]
      have hBb : ScAt (K3.only fun j => !(decide (K0.next ≤ j) && !(decide (r2 = some j)))) b r2 (scanS S).2.2 (scanS S).2.1 := by
        have := sc3.same (K := K3.only fun j => !(decide (K0.next ≤ j) && !(decide (r2 = some j)))) fun j hj => hKo j (hj.elim (fun e => .inl (by omega)) .inr)
        rw [show (scanS S).2.1 = lost + sc.2.1 by rw [hm], show (scanS S).2.2 = sc.2.2 by rw [hm]]; exact this
      simp [go_sem, -List.map_take, -List.map_drop, e3]
      refine IWp.seq ?_
      refine IWp.run [4] ?_
      simp [go_sem, -getElem?_pos, -List.map_take, -List.map_drop, List.getElem?_cons_zero, List.getElem?_cons_succ, Go.IntWalk.iteOmega, Go.IntWalk.toNatUp]
      refine ICalls.freeze (fun j => decide (K0.next ≤ j) && !(decide (r2 = some j))) (.cons (.same _) (.cons hg3 .nil)) (ICalls.then (same _ 0 0 (scanS S).1 (scanS S).1 (by omega) hss) ?_)
      try dsimp only
      generalize (K3.only fun j => !(decide (K0.next ≤ j) && !(decide (r2 = some j)))) = K4 at hA hBb ⊢
      simp [go_sem]
      refine ICalls.then (scLost _ _ _ _ _ hA) ?_
      simp [go_sem]
      refine ICalls.then (scLost _ _ _ _ _ hBb) ?_
      simp [go_sem]
      refine ICalls.then (scHeld _ _ _ _ _ hA) ?_
      simp [go_sem]
      refine ICalls.then (scHeld _ _ _ _ _ hBb) ?_
      simp [go_sem]
      refine IWp.ret ?_
      simp [go_sem, -getElem?_pos, -List.map_take, -List.map_drop, List.getElem?_cons_zero, List.getElem?_cons_succ, Go.IntWalk.iteOmega, Go.IntWalk.toNatUp, Try.results5]
    · skip
      refine IWp.seq ?_
      refine IWp.seq ?_
      refine IWp.run [1, 5, 6, 7, 8, 9, 10, 11, 42] ?_
      simp [go_sem, -getElem?_pos, -List.map_take, -List.map_drop, List.getElem?_cons_zero, List.getElem?_cons_succ, Go.IntWalk.iteOmega, Go.IntWalk.toNatUp, h1, hd, show ¬ (i : Int) < cuts.length by omega, show at_ ≤ S.length by omega]
      refine IWp.cond ?_
      simp [go_sem, -getElem?_pos, -List.map_take, -List.map_drop, List.getElem?_cons_zero, List.getElem?_cons_succ, Go.IntWalk.iteOmega, Go.IntWalk.toNatUp, h1, hd, show ¬ (i : Int) < cuts.length by omega, show at_ ≤ S.length by omega]
      refine IWp.trim [5, 6, 7, 8, 9, 10] (IWp.exit ?_)
      simp [go_sem, -getElem?_pos, -List.map_take, -List.map_drop, List.getElem?_cons_zero, List.getElem?_cons_succ, Go.IntWalk.iteOmega, Go.IntWalk.toNatUp, h1, hd, show ¬ (i : Int) < cuts.length by omega, show at_ ≤ S.length by omega]
      refine IWp.seq ?_
      refine IWp.run [6, 7, 8, 9] ?_
      simp [go_sem, -getElem?_pos, -List.map_take, -List.map_drop, List.getElem?_cons_zero, List.getElem?_cons_succ, Go.IntWalk.iteOmega, Go.IntWalk.toNatUp, h1, hd, show ¬ (i : Int) < cuts.length by omega, show at_ ≤ S.length by omega]
      refine ICalls.mono hf ?_
      rintro u K2 ⟨rfl, r2, h2, s2⟩
      obtain ⟨v', K3, e3, g3, sc3, o3, n3⟩ := hg.step s2 hn h2 (gs := sc.1) (by omega)
      have hs3 : ∀ j, (j = a ∨ ra = some j) → K3.get j = K0.get j := fun j hj => by
        have hj0 : j < K0.next := hj.elim (fun e => e ▸ haK.1) (haK.2 j)
        have hjb : j ≠ b := hj.elim (fun e => by omega) (fun e => hra j e)
        rw [o3 j hj0, s2.get j (by omega) hjb (fun e => by have := hg.2.1 j e; omega), hold j hj0 hjb]
      have hg3 := g3.frz
      rw [show fs ++ sc.1 = (scanS S).1 by rw [hm]] at hg3
      have hKo : ∀ j, (j < K0.next ∨ r2 = some j) → (K3.only fun j => !(decide (K0.next ≤ j) && !(decide (r2 = some j)))).get j = K3.get j := fun j hj => by
        simp only [Heap.only]
        rw [if_pos]
        rcases hj with hj | hj
        · simp; exact .inl hj
        · simp [hj]
      have hA : ScAt (K3.only fun j => !(decide (K0.next ≤ j) && !(decide (r2 = some j)))) a ra (scanS S).2.2 (scanS S).2.1 := ha.same fun j hj => by
        rw [hKo j (.inl (hj.elim (fun e => e ▸ haK.1) (haK.2 j))), hs3 j hj]
      have hBb : ScAt (K3.only fun j => !(decide (K0.next ≤ j) && !(decide (r2 = some j)))) b r2 (scanS S).2.2 (scanS S).2.1 := by
        have := sc3.same (K := K3.only fun j => !(decide (K0.next ≤ j) && !(decide (r2 = some j)))) fun j hj => hKo j (hj.elim (fun e => .inl (by omega)) .inr)
        rw [show (scanS S).2.1 = lost + sc.2.1 by rw [hm], show (scanS S).2.2 = sc.2.2 by rw [hm]]; exact this
      simp [go_sem, -List.map_take, -List.map_drop, e3]
      refine IWp.seq ?_
      refine IWp.run [4] ?_
      simp [go_sem, -getElem?_pos, -List.map_take, -List.map_drop, List.getElem?_cons_zero, List.getElem?_cons_succ, Go.IntWalk.iteOmega, Go.IntWalk.toNatUp]
      refine ICalls.freeze (fun j => decide (K0.next ≤ j) && !(decide (r2 = some j))) (.cons (.same _) (.cons hg3 .nil)) (ICalls.then (same _ 0 0 (scanS S).1 (scanS S).1 (by omega) hss) ?_)
      try dsimp only
      generalize (K3.only fun j => !(decide (K0.next ≤ j) && !(decide (r2 = some j)))) = K4 at hA hBb ⊢
      simp [go_sem]
      refine ICalls.then (scLost _ _ _ _ _ hA) ?_
      simp [go_sem]
      refine ICalls.then (scLost _ _ _ _ _ hBb) ?_
      simp [go_sem]
      refine ICalls.then (scHeld _ _ _ _ _ hA) ?_
      simp [go_sem]
      refine ICalls.then (scHeld _ _ _ _ _ hBb) ?_
      simp [go_sem]
      refine IWp.ret ?_
      simp [go_sem, -getElem?_pos, -List.map_take, -List.map_drop, List.getElem?_cons_zero, List.getElem?_cons_succ, Go.IntWalk.iteOmega, Go.IntWalk.toNatUp, Try.results5]

end Go.Proofs.Ytgmpjbifbnaijaa.I
