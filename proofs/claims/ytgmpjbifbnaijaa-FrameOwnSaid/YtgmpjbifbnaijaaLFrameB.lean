/- Frames: the bodies of the laws. No condition. -/
import Derived.Test.YtgmpjbifbnaijaaLFrame
import Derived.Test.YtgmpjbifbnaijaaILaw
namespace Go.Proofs.Ytgmpjbifbnaijaa.I
open Go Go.RowKit
set_option linter.unusedVariables false
set_option linter.unusedSimpArgs false

def Part.ty : Ty := .recd [.int .u8, .row (.int .u8) 1, .int .u8, .int .u8]
theorem Part.ofLay {d : Dt} {cs : List Value} (h : Lay Part.ty d cs) : ∃ x : Part, cs = x.cells ∧ x.wf := by
  cases h with
  | recd h =>
    obtain _ | ⟨h0, h⟩ := h
    obtain _ | ⟨h1, h⟩ := h
    obtain _ | ⟨h2, h⟩ := h
    obtain _ | ⟨h3, h⟩ := h
    cases h
    obtain ⟨a0, rfl, w0⟩ := lay_int h0
    obtain ⟨a1, rfl, w1, z1⟩ := lay_ints h1
    obtain ⟨a2, rfl, w2⟩ := lay_int h2
    obtain ⟨a3, rfl, w3⟩ := lay_int h3
    exact ⟨⟨a0, a1, a2, a3⟩, by simp [Part.cells], ⟨wf_u8 w0, ⟨fun n hn => wf_u8 (w1 n hn), z1⟩, wf_u8 w2, wf_u8 w3⟩⟩
theorem Part.ofLayS : ∀ {xs : List Dt} {vs : List Value}, LayS Part.ty xs vs → ∃ L : List Part, vs = L.map Part.val ∧ ∀ x ∈ L, x.wf
  | _, _, .nil _ => ⟨[], rfl, fun _ h => (by cases h)⟩
  | _, _, .one hr _ _ => by cases hr
  | _, _, .recs hr h hs => by
    obtain ⟨x, rfl, hx⟩ := Part.ofLay h
    obtain ⟨L, rfl, hw⟩ := Part.ofLayS hs
    exact ⟨x :: L, rfl, fun y hy => by
      rcases List.mem_cons.1 hy with rfl | hy
      · exact hx
      · exact hw y hy⟩
theorem Part.ofV {d : Dt} {v : Value} (h : LayV Part.ty d v) : ∃ x : Part, v = x.val ∧ x.wf := by
  obtain ⟨cs, rfl, h2⟩ := layV_rec h
  obtain ⟨x, rfl, hx⟩ := Part.ofLay h2
  exact ⟨x, rfl, hx⟩
theorem Part.ofRow {d : Dt} {v : Value} {k : Nat} (h : LayV (.row Part.ty k) d v) : ∃ L : List Part, v = frow k 0 (L.map Part.val) ∧ (∀ x ∈ L, x.wf) ∧ L.length ≤ maxLen := by
  obtain ⟨xs, vs, rfl, hs, hl⟩ := layV_row h
  obtain ⟨L, rfl, hw⟩ := Part.ofLayS hs
  exact ⟨L, rfl, hw, by simpa using hl⟩

theorem feed0 (H : Heap) (b : Nat) (r : Option Nat) (M : List Int) (m : Int) (h : ScAt H b r [] 0) (hl : M.length ≤ 40000) (hB : Bs M) :
    ICalls Try.prog 17 [ptrTo b 0, frow 1 m (M.map (Value.int .u8))] H fun v H' => v = frow 1 0 ((scanS M).1.map byts) ∧ ∃ r', ScAt H' b r' (scanS M).2.2 (scanS M).2.1 ∧ Step H H' b r r' := by
  have := feedF H b r [] M 0 _ h (irow_byts m M H) (by simp; omega) (by omega) (by simpa using hB)
  rw [List.nil_append, Nat.zero_add] at this
  exact this

theorem scan_lost (M : List Int) : (scanS M).2.1 ≤ M.length := by have := (scanS_count M).1; omega
theorem scan_out (M : List Int) : (scanS M).1.length ≤ M.length ∧ ∀ f ∈ (scanS M).1, 1 ≤ f.length ∧ f.length ≤ 32 := by
  have h := scanS_count M
  refine ⟨?_, h.2⟩
  have : ∀ L : List (List Int), L.length ≤ (L.map fun f => f.length + 5).sum := by
    intro L
    induction L with
    | nil => simp
    | cons f L ih => simp only [List.length_cons, List.map_cons, List.sum_cons]; omega
  have := this (scanS M).1
  omega

theorem scanS_bs (P : List Int) (hB : Bs P) : Bs (scanS P).2.2 ∧ ∀ f ∈ (scanS P).1, Bs f := by
  generalize hn : P.length = n
  induction n using Nat.strongRecOn generalizing P with
  | ind n ih =>
  rcases lookS_cases P with h | ⟨h, h1⟩ | ⟨k, h, h1, h2, h3⟩
  · rw [scanS_wait (P := P) (by rw [h])]; exact ⟨hB, fun f hf => by cases hf⟩
  · rw [scanS_lost h]; exact ih _ (by rw [List.length_drop]; omega) (P.drop 1) (hB.drop _) rfl
  · have := ih _ (by rw [List.length_drop]; omega) (P.drop k) (hB.drop _) rfl
    rw [scanS_told h h1]
    refine ⟨this.1, fun f hf => ?_⟩
    rcases List.mem_cons.1 hf with rfl | hf
    · exact (hB.drop _).take _
    · exact this.2 f hf

theorem frameScans_law (H : Heap) (l : List Part) (p : List Int) (hw : ∀ x ∈ l, x.wf) (hB : Bs p) :
    IBody Try.prog 4 [frow 4 0 (l.map Part.val), byts p] H fun v _ => v = .bool true := by
  by_cases hl : l.length ≤ 12
  case neg =>
    refine IBody.of Try.func4 rfl (by rw [Try.ntmps4]; simp) ?_
    rw [Try.ntmps4]
    refine IWp.seq ?_
    refine IWp.run [0, 1] ?_
    simp [go_sem, -getElem?_pos, -List.map_take, -List.map_drop, List.getElem?_cons_zero, List.getElem?_cons_succ, Go.IntWalk.iteOmega, Go.IntWalk.toNatUp, hl]
    refine IWp.seq ?_
    refine IWp.seq ?_
    refine IWp.run [0, 1, 21] ?_
    simp [go_sem, -getElem?_pos, -List.map_take, -List.map_drop, List.getElem?_cons_zero, List.getElem?_cons_succ, Go.IntWalk.iteOmega, Go.IntWalk.toNatUp, hl]
    refine ICalls.then (told _) ?_
    try simp [go_sem, -getElem?_pos, -List.map_take, -List.map_drop, List.getElem?_cons_zero, List.getElem?_cons_succ, Go.IntWalk.iteOmega, Go.IntWalk.toNatUp, hl]
    refine ICalls.then (few _ 0 l) ?_
    try simp [go_sem, -getElem?_pos, -List.map_take, -List.map_drop, List.getElem?_cons_zero, List.getElem?_cons_succ, Go.IntWalk.iteOmega, Go.IntWalk.toNatUp, hl]
    refine IWp.cond ?_
    simp [go_sem, -getElem?_pos, -List.map_take, -List.map_drop, List.getElem?_cons_zero, List.getElem?_cons_succ, Go.IntWalk.iteOmega, Go.IntWalk.toNatUp, hl]
    refine IWp.seq ?_
    refine IWp.run [4] ?_
    simp [go_sem, -getElem?_pos, -List.map_take, -List.map_drop, List.getElem?_cons_zero, List.getElem?_cons_succ, Go.IntWalk.iteOmega, Go.IntWalk.toNatUp, hl]
    refine ICalls.then (told _) ?_
    try simp [go_sem, -getElem?_pos, -List.map_take, -List.map_drop, List.getElem?_cons_zero, List.getElem?_cons_succ, Go.IntWalk.iteOmega, Go.IntWalk.toNatUp, hl]
    refine IWp.ret ?_
    simp [go_sem, -getElem?_pos, -List.map_take, -List.map_drop, List.getElem?_cons_zero, List.getElem?_cons_succ, Go.IntWalk.iteOmega, Go.IntWalk.toNatUp, hl, Try.results4]
  by_cases hp : 200 < p.length
  · skip
    refine IBody.of Try.func4 rfl (by rw [Try.ntmps4]; simp) ?_
    rw [Try.ntmps4]
    refine IWp.seq ?_
    refine IWp.run [0, 1] ?_
    simp [go_sem, -getElem?_pos, -List.map_take, -List.map_drop, List.getElem?_cons_zero, List.getElem?_cons_succ, Go.IntWalk.iteOmega, Go.IntWalk.toNatUp, hl, show (200 : Int) < p.length by omega]
    refine IWp.seq ?_
    refine IWp.seq ?_
    refine IWp.run [0, 1, 21] ?_
    simp [go_sem, -getElem?_pos, -List.map_take, -List.map_drop, List.getElem?_cons_zero, List.getElem?_cons_succ, Go.IntWalk.iteOmega, Go.IntWalk.toNatUp, hl, show (200 : Int) < p.length by omega]
    refine ICalls.then (told _) ?_
    try simp [go_sem, -getElem?_pos, -List.map_take, -List.map_drop, List.getElem?_cons_zero, List.getElem?_cons_succ, Go.IntWalk.iteOmega, Go.IntWalk.toNatUp, hl, show (200 : Int) < p.length by omega]
    refine ICalls.then (few _ 0 l) ?_
    try simp [go_sem, -getElem?_pos, -List.map_take, -List.map_drop, List.getElem?_cons_zero, List.getElem?_cons_succ, Go.IntWalk.iteOmega, Go.IntWalk.toNatUp, hl, show (200 : Int) < p.length by omega]
    refine IWp.cond ?_
    simp [go_sem, -getElem?_pos, -List.map_take, -List.map_drop, List.getElem?_cons_zero, List.getElem?_cons_succ, Go.IntWalk.iteOmega, Go.IntWalk.toNatUp, hl, show (200 : Int) < p.length by omega]
    refine IWp.seq ?_
    refine IWp.run [4] ?_
    simp [go_sem, -getElem?_pos, -List.map_take, -List.map_drop, List.getElem?_cons_zero, List.getElem?_cons_succ, Go.IntWalk.iteOmega, Go.IntWalk.toNatUp, hl, show (200 : Int) < p.length by omega]
    refine ICalls.then (told _) ?_
    try simp [go_sem, -getElem?_pos, -List.map_take, -List.map_drop, List.getElem?_cons_zero, List.getElem?_cons_succ, Go.IntWalk.iteOmega, Go.IntWalk.toNatUp, hl, show (200 : Int) < p.length by omega]
    refine IWp.ret ?_
    simp [go_sem, -getElem?_pos, -List.map_take, -List.map_drop, List.getElem?_cons_zero, List.getElem?_cons_succ, Go.IntWalk.iteOmega, Go.IntWalk.toNatUp, hl, show (200 : Int) < p.length by omega, Try.results4]
  have hS := streamS_len l
  have hSB := streamS_bs hw
  refine IBody.of Try.func4 rfl (by rw [Try.ntmps4]; simp) ?_
  rw [Try.ntmps4]
  refine IWp.seq ?_
  refine IWp.run [0, 1] ?_
  simp [go_sem, -getElem?_pos, -List.map_take, -List.map_drop, List.getElem?_cons_zero, List.getElem?_cons_succ, Go.IntWalk.iteOmega, Go.IntWalk.toNatUp, hl, show ¬ (200 : Int) < p.length by omega]
  refine IWp.seq ?_
  refine IWp.seq ?_
  refine IWp.run [0, 1, 21] ?_
  simp [go_sem, -getElem?_pos, -List.map_take, -List.map_drop, List.getElem?_cons_zero, List.getElem?_cons_succ, Go.IntWalk.iteOmega, Go.IntWalk.toNatUp, hl, show ¬ (200 : Int) < p.length by omega]
  refine ICalls.then (told _) ?_
  try simp [go_sem, -getElem?_pos, -List.map_take, -List.map_drop, List.getElem?_cons_zero, List.getElem?_cons_succ, Go.IntWalk.iteOmega, Go.IntWalk.toNatUp, hl, show ¬ (200 : Int) < p.length by omega]
  refine ICalls.then (few _ 0 l) ?_
  try simp [go_sem, -getElem?_pos, -List.map_take, -List.map_drop, List.getElem?_cons_zero, List.getElem?_cons_succ, Go.IntWalk.iteOmega, Go.IntWalk.toNatUp, hl, show ¬ (200 : Int) < p.length by omega]
  refine IWp.cond ?_
  simp [go_sem, -getElem?_pos, -List.map_take, -List.map_drop, List.getElem?_cons_zero, List.getElem?_cons_succ, Go.IntWalk.iteOmega, Go.IntWalk.toNatUp, hl, show ¬ (200 : Int) < p.length by omega]
  refine IWp.trim [0, 1] (IWp.skip ?_)
  simp [go_sem, -getElem?_pos, -List.map_take, -List.map_drop, List.getElem?_cons_zero, List.getElem?_cons_succ, Go.IntWalk.iteOmega, Go.IntWalk.toNatUp, hl, show ¬ (200 : Int) < p.length by omega]
  refine IWp.seq ?_
  refine IWp.seq ?_
  refine IWp.run [0, 1, 5] ?_
  simp [go_sem, -getElem?_pos, -List.map_take, -List.map_drop, List.getElem?_cons_zero, List.getElem?_cons_succ, Go.IntWalk.iteOmega, Go.IntWalk.toNatUp, hl, show ¬ (200 : Int) < p.length by omega]
  refine IWp.block ?_
  -- LOOP live [0, 1, 5]
  refine IWp.loop (fun j e K => ∃ (i : Nat) (P : List Int), j = 2 - i ∧ i ≤ 2 ∧ P.length ≤ 200 + 500 * i ∧ Bs P ∧ e = [(0, frow 4 0 (l.map Part.val)), (1, byts P), (5, .int .i64 (i : Int))]) 2 ⟨0, p, rfl, Nat.zero_le _, by omega, hB, by simp [go_sem]⟩ ?_
  rintro j e K ⟨i, P, rfl, hi, hP, hPB, rfl⟩
  by_cases hlt : i < 2
  · have w1 := IntWalk.i64_in ((i : Int) + 1) (by omega)
    have ho := scan_out P
    have hss : ∀ x ∈ (scanS P).1, x.length ≤ 1000000 := fun x hx => by have := ho.2 x hx; omega
    refine IWp.seq ?_
    refine IWp.seq ?_
    refine IWp.run [0, 1, 5, 24] ?_
    simp [go_sem, -getElem?_pos, -List.map_take, -List.map_drop, List.getElem?_cons_zero, List.getElem?_cons_succ, Go.IntWalk.iteOmega, Go.IntWalk.toNatUp, w1, show (i : Int) < 2 by omega]
    refine IWp.cond ?_
    simp [go_sem, -getElem?_pos, -List.map_take, -List.map_drop, List.getElem?_cons_zero, List.getElem?_cons_succ, Go.IntWalk.iteOmega, Go.IntWalk.toNatUp, w1, show (i : Int) < 2 by omega]
    refine IWp.trim [0, 1, 5] (IWp.skip ?_)
    simp [go_sem, -getElem?_pos, -List.map_take, -List.map_drop, List.getElem?_cons_zero, List.getElem?_cons_succ, Go.IntWalk.iteOmega, Go.IntWalk.toNatUp, w1, show (i : Int) < 2 by omega]
    refine IWp.seq ?_
    refine IWp.block ?_
    refine IWp.seq ?_
    refine IWp.run [0, 1, 5, 6] ?_
    simp [go_sem, -getElem?_pos, -List.map_take, -List.map_drop, List.getElem?_cons_zero, List.getElem?_cons_succ, Go.IntWalk.iteOmega, Go.IntWalk.toNatUp, w1, show (i : Int) < 2 by omega]
    refine ICalls.mono (scNew _) ?_
    rintro v H1 ⟨rfl, h1, o1⟩
    try simp [go_sem, -getElem?_pos, -List.map_take, -List.map_drop, List.getElem?_cons_zero, List.getElem?_cons_succ, Go.IntWalk.iteOmega, Go.IntWalk.toNatUp, w1, show (i : Int) < 2 by omega]
    refine IWp.seq ?_
    refine IWp.run [0, 1, 5, 6, 7, 8, 9] ?_
    simp [go_sem, -getElem?_pos, -List.map_take, -List.map_drop, List.getElem?_cons_zero, List.getElem?_cons_succ, Go.IntWalk.iteOmega, Go.IntWalk.toNatUp, w1, show (i : Int) < 2 by omega]
    refine ICalls.then (refAll _ P (by omega) hPB) ?_
    try simp [go_sem, -getElem?_pos, -List.map_take, -List.map_drop, List.getElem?_cons_zero, List.getElem?_cons_succ, Go.IntWalk.iteOmega, Go.IntWalk.toNatUp, w1, show (i : Int) < 2 by omega]
    refine IWp.seq ?_
    refine IWp.seq ?_
    refine IWp.run [0, 1, 5, 51] ?_
    simp [go_sem, -getElem?_pos, -List.map_take, -List.map_drop, List.getElem?_cons_zero, List.getElem?_cons_succ, Go.IntWalk.iteOmega, Go.IntWalk.toNatUp, w1, show (i : Int) < 2 by omega]
    refine ICalls.mono (feed0 _ _ _ P 0 h1 (by omega) hPB) ?_
    rintro v H2 ⟨rfl, r2, h2, s2⟩
    try simp [go_sem, -getElem?_pos, -List.map_take, -List.map_drop, List.getElem?_cons_zero, List.getElem?_cons_succ, Go.IntWalk.iteOmega, Go.IntWalk.toNatUp, w1, show (i : Int) < 2 by omega]
    refine ICalls.then (same _ 0 0 (scanS P).1 (scanS P).1 (by omega) hss) ?_
    try simp [go_sem, -getElem?_pos, -List.map_take, -List.map_drop, List.getElem?_cons_zero, List.getElem?_cons_succ, Go.IntWalk.iteOmega, Go.IntWalk.toNatUp, w1, show (i : Int) < 2 by omega]
    refine ICalls.then (scLost _ _ _ _ _ h2) ?_
    try simp [go_sem, -getElem?_pos, -List.map_take, -List.map_drop, List.getElem?_cons_zero, List.getElem?_cons_succ, Go.IntWalk.iteOmega, Go.IntWalk.toNatUp, w1, show (i : Int) < 2 by omega]
    refine ICalls.then (scHeld _ _ _ _ _ h2) ?_
    try simp [go_sem, -getElem?_pos, -List.map_take, -List.map_drop, List.getElem?_cons_zero, List.getElem?_cons_succ, Go.IntWalk.iteOmega, Go.IntWalk.toNatUp, w1, show (i : Int) < 2 by omega]
    refine IWp.cond ?_
    simp [go_sem, -getElem?_pos, -List.map_take, -List.map_drop, List.getElem?_cons_zero, List.getElem?_cons_succ, Go.IntWalk.iteOmega, Go.IntWalk.toNatUp, w1, show (i : Int) < 2 by omega]
    refine IWp.trim [0, 1, 5] (IWp.skip ?_)
    simp [go_sem, -getElem?_pos, -List.map_take, -List.map_drop, List.getElem?_cons_zero, List.getElem?_cons_succ, Go.IntWalk.iteOmega, Go.IntWalk.toNatUp, w1, show (i : Int) < 2 by omega]
    refine IWp.run [0, 1, 5] ?_
    simp [go_sem, -getElem?_pos, -List.map_take, -List.map_drop, List.getElem?_cons_zero, List.getElem?_cons_succ, Go.IntWalk.iteOmega, Go.IntWalk.toNatUp, w1, show (i : Int) < 2 by omega]
    refine ICalls.then (stream _ 0 l hw (by omega)) ?_
    try simp [go_sem, -getElem?_pos, -List.map_take, -List.map_drop, List.getElem?_cons_zero, List.getElem?_cons_succ, Go.IntWalk.iteOmega, Go.IntWalk.toNatUp, w1, show (i : Int) < 2 by omega]
    refine ICalls.then (join _ 0 0 P (streamS l) (by omega) (by omega)) ?_
    try simp [go_sem, -getElem?_pos, -List.map_take, -List.map_drop, List.getElem?_cons_zero, List.getElem?_cons_succ, Go.IntWalk.iteOmega, Go.IntWalk.toNatUp, w1, show (i : Int) < 2 by omega]
    refine IWp.run [0, 1, 5] ?_
    simp [go_sem, -getElem?_pos, -List.map_take, -List.map_drop, List.getElem?_cons_zero, List.getElem?_cons_succ, Go.IntWalk.iteOmega, Go.IntWalk.toNatUp, w1, show (i : Int) < 2 by omega]
    exact ⟨2 - (i + 1), by omega, i + 1, rfl, by omega, P ++ streamS l, by simp; omega, hPB.app hSB, by simp, by omega⟩
  · have hi2 : i = 2 := by omega
    subst hi2
    refine IWp.seq ?_
    refine IWp.seq ?_
    refine IWp.run [0, 1, 5, 24] ?_
    simp [go_sem, -getElem?_pos, -List.map_take, -List.map_drop, List.getElem?_cons_zero, List.getElem?_cons_succ, Go.IntWalk.iteOmega, Go.IntWalk.toNatUp]
    refine IWp.cond ?_
    simp [go_sem, -getElem?_pos, -List.map_take, -List.map_drop, List.getElem?_cons_zero, List.getElem?_cons_succ, Go.IntWalk.iteOmega, Go.IntWalk.toNatUp]
    refine IWp.trim [] (IWp.exit ?_)
    simp [go_sem, -getElem?_pos, -List.map_take, -List.map_drop, List.getElem?_cons_zero, List.getElem?_cons_succ, Go.IntWalk.iteOmega, Go.IntWalk.toNatUp]
    refine IWp.seq ?_
    refine IWp.run [4] ?_
    simp [go_sem, -getElem?_pos, -List.map_take, -List.map_drop, List.getElem?_cons_zero, List.getElem?_cons_succ, Go.IntWalk.iteOmega, Go.IntWalk.toNatUp]
    refine IWp.ret ?_
    simp [go_sem, -getElem?_pos, -List.map_take, -List.map_drop, List.getElem?_cons_zero, List.getElem?_cons_succ, Go.IntWalk.iteOmega, Go.IntWalk.toNatUp, Try.results4]

theorem frameAgain_law (H : Heap) (p q : List Int) (hB : Bs p) (hq : Bs q) :
    IBody Try.prog 6 [byts p, byts q] H fun v _ => v = .bool true := by
  by_cases hp : 200 < p.length
  · skip
    refine IBody.of Try.func6 rfl (by rw [Try.ntmps6]; simp) ?_
    rw [Try.ntmps6]
    refine IWp.seq ?_
    refine IWp.run [0, 1] ?_
    simp [go_sem, -getElem?_pos, -List.map_take, -List.map_drop, List.getElem?_cons_zero, List.getElem?_cons_succ, Go.IntWalk.iteOmega, Go.IntWalk.toNatUp, show (200 : Int) < p.length by omega]
    refine IWp.seq ?_
    refine IWp.seq ?_
    refine IWp.run [0, 1, 25] ?_
    simp [go_sem, -getElem?_pos, -List.map_take, -List.map_drop, List.getElem?_cons_zero, List.getElem?_cons_succ, Go.IntWalk.iteOmega, Go.IntWalk.toNatUp, show (200 : Int) < p.length by omega]
    refine ICalls.then (told _) ?_
    try simp [go_sem, -getElem?_pos, -List.map_take, -List.map_drop, List.getElem?_cons_zero, List.getElem?_cons_succ, Go.IntWalk.iteOmega, Go.IntWalk.toNatUp, show (200 : Int) < p.length by omega]
    refine IWp.cond ?_
    simp [go_sem, -getElem?_pos, -List.map_take, -List.map_drop, List.getElem?_cons_zero, List.getElem?_cons_succ, Go.IntWalk.iteOmega, Go.IntWalk.toNatUp, show (200 : Int) < p.length by omega]
    refine IWp.seq ?_
    refine IWp.run [4] ?_
    simp [go_sem, -getElem?_pos, -List.map_take, -List.map_drop, List.getElem?_cons_zero, List.getElem?_cons_succ, Go.IntWalk.iteOmega, Go.IntWalk.toNatUp, show (200 : Int) < p.length by omega]
    refine ICalls.then (told _) ?_
    try simp [go_sem, -getElem?_pos, -List.map_take, -List.map_drop, List.getElem?_cons_zero, List.getElem?_cons_succ, Go.IntWalk.iteOmega, Go.IntWalk.toNatUp, show (200 : Int) < p.length by omega]
    refine IWp.ret ?_
    simp [go_sem, -getElem?_pos, -List.map_take, -List.map_drop, List.getElem?_cons_zero, List.getElem?_cons_succ, Go.IntWalk.iteOmega, Go.IntWalk.toNatUp, show (200 : Int) < p.length by omega, Try.results6]
  by_cases hq0 : q = []
  · subst hq0
    refine IBody.of Try.func6 rfl (by rw [Try.ntmps6]; simp) ?_
    rw [Try.ntmps6]
    refine IWp.seq ?_
    refine IWp.run [0, 1] ?_
    simp [go_sem, -getElem?_pos, -List.map_take, -List.map_drop, List.getElem?_cons_zero, List.getElem?_cons_succ, Go.IntWalk.iteOmega, Go.IntWalk.toNatUp, show ¬ (200 : Int) < p.length by omega]
    refine IWp.seq ?_
    refine IWp.seq ?_
    refine IWp.run [0, 1, 25] ?_
    simp [go_sem, -getElem?_pos, -List.map_take, -List.map_drop, List.getElem?_cons_zero, List.getElem?_cons_succ, Go.IntWalk.iteOmega, Go.IntWalk.toNatUp, show ¬ (200 : Int) < p.length by omega]
    refine ICalls.then (told _) ?_
    try simp [go_sem, -getElem?_pos, -List.map_take, -List.map_drop, List.getElem?_cons_zero, List.getElem?_cons_succ, Go.IntWalk.iteOmega, Go.IntWalk.toNatUp, show ¬ (200 : Int) < p.length by omega]
    refine IWp.cond ?_
    simp [go_sem, -getElem?_pos, -List.map_take, -List.map_drop, List.getElem?_cons_zero, List.getElem?_cons_succ, Go.IntWalk.iteOmega, Go.IntWalk.toNatUp, show ¬ (200 : Int) < p.length by omega]
    refine IWp.seq ?_
    refine IWp.run [4] ?_
    simp [go_sem, -getElem?_pos, -List.map_take, -List.map_drop, List.getElem?_cons_zero, List.getElem?_cons_succ, Go.IntWalk.iteOmega, Go.IntWalk.toNatUp, show ¬ (200 : Int) < p.length by omega]
    refine ICalls.then (told _) ?_
    try simp [go_sem, -getElem?_pos, -List.map_take, -List.map_drop, List.getElem?_cons_zero, List.getElem?_cons_succ, Go.IntWalk.iteOmega, Go.IntWalk.toNatUp, show ¬ (200 : Int) < p.length by omega]
    refine IWp.ret ?_
    simp [go_sem, -getElem?_pos, -List.map_take, -List.map_drop, List.getElem?_cons_zero, List.getElem?_cons_succ, Go.IntWalk.iteOmega, Go.IntWalk.toNatUp, show ¬ (200 : Int) < p.length by omega, Try.results6]
  have hq1 : 1 ≤ q.length := List.length_pos_iff.2 hq0
  by_cases hq2 : 32 < q.length
  · skip
    refine IBody.of Try.func6 rfl (by rw [Try.ntmps6]; simp) ?_
    rw [Try.ntmps6]
    refine IWp.seq ?_
    refine IWp.run [0, 1] ?_
    simp [go_sem, -getElem?_pos, -List.map_take, -List.map_drop, List.getElem?_cons_zero, List.getElem?_cons_succ, Go.IntWalk.iteOmega, Go.IntWalk.toNatUp, hq0, show ¬ (200 : Int) < p.length by omega, show (32 : Int) < q.length by omega]
    refine IWp.seq ?_
    refine IWp.seq ?_
    refine IWp.run [0, 1, 25] ?_
    simp [go_sem, -getElem?_pos, -List.map_take, -List.map_drop, List.getElem?_cons_zero, List.getElem?_cons_succ, Go.IntWalk.iteOmega, Go.IntWalk.toNatUp, hq0, show ¬ (200 : Int) < p.length by omega, show (32 : Int) < q.length by omega]
    refine ICalls.then (told _) ?_
    try simp [go_sem, -getElem?_pos, -List.map_take, -List.map_drop, List.getElem?_cons_zero, List.getElem?_cons_succ, Go.IntWalk.iteOmega, Go.IntWalk.toNatUp, hq0, show ¬ (200 : Int) < p.length by omega, show (32 : Int) < q.length by omega]
    refine IWp.cond ?_
    simp [go_sem, -getElem?_pos, -List.map_take, -List.map_drop, List.getElem?_cons_zero, List.getElem?_cons_succ, Go.IntWalk.iteOmega, Go.IntWalk.toNatUp, hq0, show ¬ (200 : Int) < p.length by omega, show (32 : Int) < q.length by omega]
    refine IWp.seq ?_
    refine IWp.run [4] ?_
    simp [go_sem, -getElem?_pos, -List.map_take, -List.map_drop, List.getElem?_cons_zero, List.getElem?_cons_succ, Go.IntWalk.iteOmega, Go.IntWalk.toNatUp, hq0, show ¬ (200 : Int) < p.length by omega, show (32 : Int) < q.length by omega]
    refine ICalls.then (told _) ?_
    try simp [go_sem, -getElem?_pos, -List.map_take, -List.map_drop, List.getElem?_cons_zero, List.getElem?_cons_succ, Go.IntWalk.iteOmega, Go.IntWalk.toNatUp, hq0, show ¬ (200 : Int) < p.length by omega, show (32 : Int) < q.length by omega]
    refine IWp.ret ?_
    simp [go_sem, -getElem?_pos, -List.map_take, -List.map_drop, List.getElem?_cons_zero, List.getElem?_cons_succ, Go.IntWalk.iteOmega, Go.IntWalk.toNatUp, hq0, show ¬ (200 : Int) < p.length by omega, show (32 : Int) < q.length by omega, Try.results6]
  obtain ⟨fs, n, hs⟩ := scanS_again q hq1 (by omega) 50 (by omega) (scanS p).2.2
  have hh := (scanS_held p).1
  have hn := scan_lost ((scanS p).2.2 ++ (List.replicate 50 0 ++ frameB q))
  rw [hs] at hn
  have hso := (scan_out ((scanS p).2.2 ++ (List.replicate 50 0 ++ frameB q))).1
  rw [hs] at hso
  simp only [List.length_append, List.length_replicate, frameB_length, List.length_cons, List.length_nil] at hn hso
  have hFB := frameB_bs hq (by omega)
  refine IBody.of Try.func6 rfl (by rw [Try.ntmps6]; simp) ?_
  rw [Try.ntmps6]
  refine IWp.seq ?_
  refine IWp.run [0, 1] ?_
  simp [go_sem, -getElem?_pos, -List.map_take, -List.map_drop, List.getElem?_cons_zero, List.getElem?_cons_succ, Go.IntWalk.iteOmega, Go.IntWalk.toNatUp, hq0, show ¬ (200 : Int) < p.length by omega, show ¬ (32 : Int) < q.length by omega]
  refine IWp.seq ?_
  refine IWp.seq ?_
  refine IWp.run [0, 1, 25] ?_
  simp [go_sem, -getElem?_pos, -List.map_take, -List.map_drop, List.getElem?_cons_zero, List.getElem?_cons_succ, Go.IntWalk.iteOmega, Go.IntWalk.toNatUp, hq0, show ¬ (200 : Int) < p.length by omega, show ¬ (32 : Int) < q.length by omega]
  refine ICalls.then (told _) ?_
  try simp [go_sem, -getElem?_pos, -List.map_take, -List.map_drop, List.getElem?_cons_zero, List.getElem?_cons_succ, Go.IntWalk.iteOmega, Go.IntWalk.toNatUp, hq0, show ¬ (200 : Int) < p.length by omega, show ¬ (32 : Int) < q.length by omega]
  refine IWp.cond ?_
  simp [go_sem, -getElem?_pos, -List.map_take, -List.map_drop, List.getElem?_cons_zero, List.getElem?_cons_succ, Go.IntWalk.iteOmega, Go.IntWalk.toNatUp, hq0, show ¬ (200 : Int) < p.length by omega, show ¬ (32 : Int) < q.length by omega]
  refine IWp.trim [0, 1] (IWp.skip ?_)
  simp [go_sem, -getElem?_pos, -List.map_take, -List.map_drop, List.getElem?_cons_zero, List.getElem?_cons_succ, Go.IntWalk.iteOmega, Go.IntWalk.toNatUp, hq0, show ¬ (200 : Int) < p.length by omega, show ¬ (32 : Int) < q.length by omega]
  refine IWp.seq ?_
  refine IWp.run [0, 1, 5] ?_
  simp [go_sem, -getElem?_pos, -List.map_take, -List.map_drop, List.getElem?_cons_zero, List.getElem?_cons_succ, Go.IntWalk.iteOmega, Go.IntWalk.toNatUp, hq0, show ¬ (200 : Int) < p.length by omega, show ¬ (32 : Int) < q.length by omega]
  refine ICalls.mono (scNew _) ?_
  rintro v H1 ⟨rfl, h1, o1⟩
  try simp [go_sem, -getElem?_pos, -List.map_take, -List.map_drop, List.getElem?_cons_zero, List.getElem?_cons_succ, Go.IntWalk.iteOmega, Go.IntWalk.toNatUp, hq0, show ¬ (200 : Int) < p.length by omega, show ¬ (32 : Int) < q.length by omega]
  refine IWp.seq ?_
  refine IWp.run [1, 5, 6] ?_
  simp [go_sem, -getElem?_pos, -List.map_take, -List.map_drop, List.getElem?_cons_zero, List.getElem?_cons_succ, Go.IntWalk.iteOmega, Go.IntWalk.toNatUp, hq0, show ¬ (200 : Int) < p.length by omega, show ¬ (32 : Int) < q.length by omega]
  refine ICalls.mono (feed0 _ _ _ p 0 h1 (by omega) hB) ?_
  rintro v H2 ⟨rfl, r2, h2, s2⟩
  try simp [go_sem, -getElem?_pos, -List.map_take, -List.map_drop, List.getElem?_cons_zero, List.getElem?_cons_succ, Go.IntWalk.iteOmega, Go.IntWalk.toNatUp, hq0, show ¬ (200 : Int) < p.length by omega, show ¬ (32 : Int) < q.length by omega]
  refine IWp.seq ?_
  refine IWp.run [1, 5, 6, 7] ?_
  simp [go_sem, -getElem?_pos, -List.map_take, -List.map_drop, List.getElem?_cons_zero, List.getElem?_cons_succ, Go.IntWalk.iteOmega, Go.IntWalk.toNatUp, hq0, show ¬ (200 : Int) < p.length by omega, show ¬ (32 : Int) < q.length by omega]
  refine IWp.seq ?_
  refine IWp.run [1, 5, 6, 8] ?_
  simp [go_sem, -getElem?_pos, -List.map_take, -List.map_drop, List.getElem?_cons_zero, List.getElem?_cons_succ, Go.IntWalk.iteOmega, Go.IntWalk.toNatUp, hq0, show ¬ (200 : Int) < p.length by omega, show ¬ (32 : Int) < q.length by omega]
  refine ICalls.then (refFrame _ 0 q (by omega) hq) ?_
  try simp [go_sem, -getElem?_pos, -List.map_take, -List.map_drop, List.getElem?_cons_zero, List.getElem?_cons_succ, Go.IntWalk.iteOmega, Go.IntWalk.toNatUp, hq0, show ¬ (200 : Int) < p.length by omega, show ¬ (32 : Int) < q.length by omega]
  have hz := frz_lit (H := H2.alloc ((List.replicate 50 (0 : Int)).map (Value.int .u8))) (S := fun j => j == H2.next) (c := 1) (b := H2.next) ((List.replicate 50 (0 : Int)).map (Value.int .u8)) (by simp [get_alloc]) (map_flat _ _) (map_sz .u8 _) (n := 50) (by simp) (by simp)
  refine ICalls.freeze1 (H := H2.alloc ((List.replicate 50 (0 : Int)).map (Value.int .u8))) H2.next (.cons hz (.cons (.same _) .nil)) (ICalls.then (join _ 0 0 (List.replicate 50 0) (frameB q) (by simp) (by rw [frameB_length]; omega)) ?_)
  have h2' : ScAt ((H2.alloc ((List.replicate 50 (0 : Int)).map (Value.int .u8))).kill H2.next) H.next r2 (scanS p).2.2 (scanS p).2.1 := h2.same fun j hj => by
    have := h2.lt
    have hj' : j < H2.next := hj.elim (fun e => e ▸ this.1) (fun e => this.2 j e)
    rw [get_kill, if_neg (by omega), Heap.get_alloc_lt _ _ _ hj']
  generalize ((H2.alloc ((List.replicate 50 (0 : Int)).map (Value.int .u8))).kill H2.next) = H3 at h2' ⊢
  have hf := feedF _ _ _ _ (List.replicate 50 0 ++ frameB q) _ _ h2' (irow_byts 0 _ _) (by simp [frameB_length]; omega) (by have := scan_lost p; omega) (by
    refine Bs.app ?_ (Bs.app (fun x hx => ?_) hFB)
    · exact (scanS_bs p hB).1
    · rw [List.eq_of_mem_replicate hx]; omega)
  rw [hs] at hf
  generalize (scanS p).2.1 = lost at *
  generalize List.replicate 50 0 ++ frameB q = P at *
  have eg : (fs.map byts ++ [frow 1 0 (q.map (Value.int .u8))])[fs.length]? = some (byts q) := by rw [List.getElem?_append_right (by simp)]; simp
  simp only [byts]
  simp [go_sem]
  refine ICalls.mono hf ?_
  rintro v H4 ⟨rfl, r4, h4, s4⟩
  simp [go_sem]
  have w1 := IntWalk.i64_in (fs.length : Int) (by omega)
  refine IWp.seq ?_
  refine IWp.run [4] ?_
  simp [go_sem, -getElem?_pos, -List.map_take, -List.map_drop, List.getElem?_cons_zero, List.getElem?_cons_succ, Go.IntWalk.iteOmega, Go.IntWalk.toNatUp, w1, eg]
  refine ICalls.then (refBytes _ 0 0 q q (by omega)) ?_
  try simp [go_sem, -getElem?_pos, -List.map_take, -List.map_drop, List.getElem?_cons_zero, List.getElem?_cons_succ, Go.IntWalk.iteOmega, Go.IntWalk.toNatUp, w1, eg]
  refine ICalls.then (scHeld _ _ _ _ _ h4) ?_
  try simp [go_sem, -getElem?_pos, -List.map_take, -List.map_drop, List.getElem?_cons_zero, List.getElem?_cons_succ, Go.IntWalk.iteOmega, Go.IntWalk.toNatUp, w1, eg]
  refine IWp.ret ?_
  simp [go_sem, -getElem?_pos, -List.map_take, -List.map_drop, List.getElem?_cons_zero, List.getElem?_cons_succ, Go.IntWalk.iteOmega, Go.IntWalk.toNatUp, w1, eg, Try.results6]

theorem frameCounts_law (H : Heap) (l : List Part) (hw : ∀ x ∈ l, x.wf) :
    IBody Try.prog 7 [frow 4 0 (l.map Part.val)] H fun v _ => v = .bool true := by
  by_cases hl : l.length ≤ 12
  case neg =>
    refine IBody.of Try.func7 rfl (by rw [Try.ntmps7]; simp) ?_
    rw [Try.ntmps7]
    refine IWp.seq ?_
    refine IWp.run [0] ?_
    simp [go_sem, -getElem?_pos, -List.map_take, -List.map_drop, List.getElem?_cons_zero, List.getElem?_cons_succ, Go.IntWalk.iteOmega, Go.IntWalk.toNatUp, hl]
    refine IWp.seq ?_
    refine IWp.seq ?_
    refine IWp.run [0, 14] ?_
    simp [go_sem, -getElem?_pos, -List.map_take, -List.map_drop, List.getElem?_cons_zero, List.getElem?_cons_succ, Go.IntWalk.iteOmega, Go.IntWalk.toNatUp, hl]
    refine ICalls.then (told _) ?_
    try simp [go_sem, -getElem?_pos, -List.map_take, -List.map_drop, List.getElem?_cons_zero, List.getElem?_cons_succ, Go.IntWalk.iteOmega, Go.IntWalk.toNatUp, hl]
    refine ICalls.then (few _ 0 l) ?_
    try simp [go_sem, -getElem?_pos, -List.map_take, -List.map_drop, List.getElem?_cons_zero, List.getElem?_cons_succ, Go.IntWalk.iteOmega, Go.IntWalk.toNatUp, hl]
    refine IWp.cond ?_
    simp [go_sem, -getElem?_pos, -List.map_take, -List.map_drop, List.getElem?_cons_zero, List.getElem?_cons_succ, Go.IntWalk.iteOmega, Go.IntWalk.toNatUp, hl]
    refine IWp.seq ?_
    refine IWp.run [2] ?_
    simp [go_sem, -getElem?_pos, -List.map_take, -List.map_drop, List.getElem?_cons_zero, List.getElem?_cons_succ, Go.IntWalk.iteOmega, Go.IntWalk.toNatUp, hl]
    refine ICalls.then (told _) ?_
    try simp [go_sem, -getElem?_pos, -List.map_take, -List.map_drop, List.getElem?_cons_zero, List.getElem?_cons_succ, Go.IntWalk.iteOmega, Go.IntWalk.toNatUp, hl]
    refine IWp.ret ?_
    simp [go_sem, -getElem?_pos, -List.map_take, -List.map_drop, List.getElem?_cons_zero, List.getElem?_cons_succ, Go.IntWalk.iteOmega, Go.IntWalk.toNatUp, hl, Try.results7]
  have hS := streamS_len l
  have hSB := streamS_bs hw
  have hc := scanS_count (streamS l)
  have hh := (scanS_held (streamS l)).1
  have ho := scan_out (streamS l)
  generalize hst : streamS l = S at *
  have w1 := IntWalk.i64_in (((scanS S).2.1 : Int) + (scanS S).2.2.length) (by omega)
  obtain ⟨b, hb⟩ : ∃ b, b = H.next := ⟨_, rfl⟩
  refine IBody.of Try.func7 rfl (by rw [Try.ntmps7]; simp) ?_
  rw [Try.ntmps7]
  refine IWp.seq ?_
  refine IWp.run [0] ?_
  simp [go_sem, -getElem?_pos, -List.map_take, -List.map_drop, List.getElem?_cons_zero, List.getElem?_cons_succ, Go.IntWalk.iteOmega, Go.IntWalk.toNatUp, hl, w1, hst]
  refine IWp.seq ?_
  refine IWp.seq ?_
  refine IWp.run [0, 14] ?_
  simp [go_sem, -getElem?_pos, -List.map_take, -List.map_drop, List.getElem?_cons_zero, List.getElem?_cons_succ, Go.IntWalk.iteOmega, Go.IntWalk.toNatUp, hl, w1, hst]
  refine ICalls.then (told _) ?_
  try simp [go_sem, -getElem?_pos, -List.map_take, -List.map_drop, List.getElem?_cons_zero, List.getElem?_cons_succ, Go.IntWalk.iteOmega, Go.IntWalk.toNatUp, hl, w1, hst]
  refine ICalls.then (few _ 0 l) ?_
  try simp [go_sem, -getElem?_pos, -List.map_take, -List.map_drop, List.getElem?_cons_zero, List.getElem?_cons_succ, Go.IntWalk.iteOmega, Go.IntWalk.toNatUp, hl, w1, hst]
  refine IWp.cond ?_
  simp [go_sem, -getElem?_pos, -List.map_take, -List.map_drop, List.getElem?_cons_zero, List.getElem?_cons_succ, Go.IntWalk.iteOmega, Go.IntWalk.toNatUp, hl, w1, hst]
  refine IWp.trim [0] (IWp.skip ?_)
  simp [go_sem, -getElem?_pos, -List.map_take, -List.map_drop, List.getElem?_cons_zero, List.getElem?_cons_succ, Go.IntWalk.iteOmega, Go.IntWalk.toNatUp, hl, w1, hst]
  refine IWp.seq ?_
  refine IWp.run [3] ?_
  simp [go_sem, -getElem?_pos, -List.map_take, -List.map_drop, List.getElem?_cons_zero, List.getElem?_cons_succ, Go.IntWalk.iteOmega, Go.IntWalk.toNatUp, hl, w1, hst]
  refine ICalls.then (stream _ 0 l hw (by omega)) ?_
  try simp [go_sem, -getElem?_pos, -List.map_take, -List.map_drop, List.getElem?_cons_zero, List.getElem?_cons_succ, Go.IntWalk.iteOmega, Go.IntWalk.toNatUp, hl, w1, hst]
  refine IWp.seq ?_
  refine IWp.run [3, 4] ?_
  simp [go_sem, -getElem?_pos, -List.map_take, -List.map_drop, List.getElem?_cons_zero, List.getElem?_cons_succ, Go.IntWalk.iteOmega, Go.IntWalk.toNatUp, hl, w1, hst]
  refine ICalls.mono (scNew _) ?_
  rintro v H1 ⟨rfl, h1, o1⟩
  try simp [go_sem, -getElem?_pos, -List.map_take, -List.map_drop, List.getElem?_cons_zero, List.getElem?_cons_succ, Go.IntWalk.iteOmega, Go.IntWalk.toNatUp, hl, w1, hst]
  refine IWp.seq ?_
  refine IWp.run [3, 4, 5] ?_
  simp [go_sem, -getElem?_pos, -List.map_take, -List.map_drop, List.getElem?_cons_zero, List.getElem?_cons_succ, Go.IntWalk.iteOmega, Go.IntWalk.toNatUp, hl, w1, hst]
  refine ICalls.mono (feed0 _ _ _ S 0 h1 (by omega) hSB) ?_
  rintro v H2 ⟨rfl, r2, h2, s2⟩
  try simp [go_sem, -getElem?_pos, -List.map_take, -List.map_drop, List.getElem?_cons_zero, List.getElem?_cons_succ, Go.IntWalk.iteOmega, Go.IntWalk.toNatUp, hl, w1, hst]
  refine IWp.seq ?_
  refine IWp.run [3, 4, 5, 6] ?_
  simp [go_sem, -getElem?_pos, -List.map_take, -List.map_drop, List.getElem?_cons_zero, List.getElem?_cons_succ, Go.IntWalk.iteOmega, Go.IntWalk.toNatUp, hl, w1, hst]
  refine ICalls.then (scLost _ _ _ _ _ h2) ?_
  try simp [go_sem, -getElem?_pos, -List.map_take, -List.map_drop, List.getElem?_cons_zero, List.getElem?_cons_succ, Go.IntWalk.iteOmega, Go.IntWalk.toNatUp, hl, w1, hst]
  refine ICalls.then (scHeld _ _ _ _ _ h2) ?_
  try simp [go_sem, -getElem?_pos, -List.map_take, -List.map_drop, List.getElem?_cons_zero, List.getElem?_cons_succ, Go.IntWalk.iteOmega, Go.IntWalk.toNatUp, hl, w1, hst]
  refine IWp.seq ?_
  refine IWp.seq ?_
  refine IWp.run [3, 4, 5, 6, 7] ?_
  simp [go_sem, -getElem?_pos, -List.map_take, -List.map_drop, List.getElem?_cons_zero, List.getElem?_cons_succ, Go.IntWalk.iteOmega, Go.IntWalk.toNatUp, hl, w1, hst]
  refine IWp.block ?_
  -- LOOP live [3, 4, 5, 6, 7]
  rw [← hb] at *
  generalize hfs : (scanS S).1 = fs at *
  generalize (scanS S).2.1 = lost at *
  generalize (scanS S).2.2 = held at *
  refine IWp.loop (fun j e K => ∃ i : Nat, j = fs.length - i ∧ i ≤ fs.length ∧ K = H2 ∧ e = [(3, byts S), (4, ptrTo b 0), (5, frow 1 0 (fs.map byts)), (6, .int .i64 ((lost + held.length + ((fs.take i).map fun f => f.length + 5).sum : Nat) : Int)), (7, .int .i64 (i : Int))]) fs.length ⟨0, rfl, Nat.zero_le _, rfl, by simp [go_sem]⟩ ?_
  rintro j e K ⟨i, rfl, hi, rfl, rfl⟩
  by_cases hlt : i < fs.length
  · have g : (fs.map byts)[i]? = some (byts fs[i]) := by simp [hlt]
    have hf := ho.2 fs[i] (List.getElem_mem hlt)
    have hsum : ((fs.take (i + 1)).map fun f => f.length + 5).sum = ((fs.take i).map fun f => f.length + 5).sum + (fs[i].length + 5) := by
      rw [List.take_succ_eq_append_getElem hlt, List.map_append, List.sum_append]; rfl
    have hle : ((fs.take (i + 1)).map fun f => f.length + 5).sum ≤ (fs.map fun f => f.length + 5).sum := by
      conv => rhs; rw [← List.take_append_drop (i + 1) fs, List.map_append, List.sum_append]
      omega
    generalize ht1 : ((fs.take (i + 1)).map fun f => f.length + 5).sum = t1 at *
    generalize ((fs.take i).map fun f => f.length + 5).sum = t0 at *
    generalize fs[i] = f at *
    have w2 := IntWalk.i64_in ((i : Int) + 1) (by omega)
    have w3 := IntWalk.i64_in ((f.length : Int) + 5) (by omega)
    have w4 := IntWalk.i64_in ((lost : Int) + held.length + t0 + (f.length + 5)) (by omega)
    refine IWp.seq ?_
    refine IWp.seq ?_
    refine IWp.run [3, 4, 5, 6, 7, 30] ?_
    simp [go_sem, -getElem?_pos, -List.map_take, -List.map_drop, List.getElem?_cons_zero, List.getElem?_cons_succ, Go.IntWalk.iteOmega, Go.IntWalk.toNatUp, hlt, g, w2, w3, w4, show ¬ (f.length : Int) < 1 by omega, show ¬ (32 : Int) < f.length by omega]
    refine IWp.cond ?_
    simp [go_sem, -getElem?_pos, -List.map_take, -List.map_drop, List.getElem?_cons_zero, List.getElem?_cons_succ, Go.IntWalk.iteOmega, Go.IntWalk.toNatUp, hlt, g, w2, w3, w4, show ¬ (f.length : Int) < 1 by omega, show ¬ (32 : Int) < f.length by omega]
    refine IWp.trim [3, 4, 5, 6, 7] (IWp.skip ?_)
    simp [go_sem, -getElem?_pos, -List.map_take, -List.map_drop, List.getElem?_cons_zero, List.getElem?_cons_succ, Go.IntWalk.iteOmega, Go.IntWalk.toNatUp, hlt, g, w2, w3, w4, show ¬ (f.length : Int) < 1 by omega, show ¬ (32 : Int) < f.length by omega]
    refine IWp.seq ?_
    refine IWp.block ?_
    refine IWp.seq ?_
    refine IWp.run [3, 4, 5, 6, 7] ?_
    simp [go_sem, -getElem?_pos, -List.map_take, -List.map_drop, List.getElem?_cons_zero, List.getElem?_cons_succ, Go.IntWalk.iteOmega, Go.IntWalk.toNatUp, hlt, g, w2, w3, w4, show ¬ (f.length : Int) < 1 by omega, show ¬ (32 : Int) < f.length by omega]
    refine IWp.seq ?_
    refine IWp.run [3, 4, 5, 6, 7, 54] ?_
    simp [go_sem, -getElem?_pos, -List.map_take, -List.map_drop, List.getElem?_cons_zero, List.getElem?_cons_succ, Go.IntWalk.iteOmega, Go.IntWalk.toNatUp, hlt, g, w2, w3, w4, show ¬ (f.length : Int) < 1 by omega, show ¬ (32 : Int) < f.length by omega]
    refine IWp.cond ?_
    simp [go_sem, -getElem?_pos, -List.map_take, -List.map_drop, List.getElem?_cons_zero, List.getElem?_cons_succ, Go.IntWalk.iteOmega, Go.IntWalk.toNatUp, hlt, g, w2, w3, w4, show ¬ (f.length : Int) < 1 by omega, show ¬ (32 : Int) < f.length by omega]
    refine IWp.trim [3, 4, 5, 6, 7] (IWp.skip ?_)
    simp [go_sem, -getElem?_pos, -List.map_take, -List.map_drop, List.getElem?_cons_zero, List.getElem?_cons_succ, Go.IntWalk.iteOmega, Go.IntWalk.toNatUp, hlt, g, w2, w3, w4, show ¬ (f.length : Int) < 1 by omega, show ¬ (32 : Int) < f.length by omega]
    refine IWp.run [3, 4, 5, 6, 7] ?_
    simp [go_sem, -getElem?_pos, -List.map_take, -List.map_drop, List.getElem?_cons_zero, List.getElem?_cons_succ, Go.IntWalk.iteOmega, Go.IntWalk.toNatUp, hlt, g, w2, w3, w4, show ¬ (f.length : Int) < 1 by omega, show ¬ (32 : Int) < f.length by omega]
    exact ⟨fs.length - (i + 1), by omega, i + 1, rfl, by omega, by rw [ht1]; omega, by omega⟩
  · have ht : fs.take i = fs := List.take_of_length_le (by omega)
    rw [ht]
    have hc1 := hc.1
    refine IWp.seq ?_
    refine IWp.seq ?_
    refine IWp.run [3, 4, 5, 6, 7, 30] ?_
    simp [go_sem, -getElem?_pos, -List.map_take, -List.map_drop, List.getElem?_cons_zero, List.getElem?_cons_succ, Go.IntWalk.iteOmega, Go.IntWalk.toNatUp, hlt, hc1, show (held.length : Int) < 37 by omega]
    refine IWp.cond ?_
    simp [go_sem, -getElem?_pos, -List.map_take, -List.map_drop, List.getElem?_cons_zero, List.getElem?_cons_succ, Go.IntWalk.iteOmega, Go.IntWalk.toNatUp, hlt, hc1, show (held.length : Int) < 37 by omega]
    refine IWp.trim [3, 4, 6] (IWp.exit ?_)
    simp [go_sem, -getElem?_pos, -List.map_take, -List.map_drop, List.getElem?_cons_zero, List.getElem?_cons_succ, Go.IntWalk.iteOmega, Go.IntWalk.toNatUp, hlt, hc1, show (held.length : Int) < 37 by omega]
    refine IWp.seq ?_
    refine IWp.run [2] ?_
    simp [go_sem, -getElem?_pos, -List.map_take, -List.map_drop, List.getElem?_cons_zero, List.getElem?_cons_succ, Go.IntWalk.iteOmega, Go.IntWalk.toNatUp, hlt, hc1, show (held.length : Int) < 37 by omega]
    refine ICalls.then (scHeld _ _ _ _ _ h2) ?_
    try simp [go_sem, -getElem?_pos, -List.map_take, -List.map_drop, List.getElem?_cons_zero, List.getElem?_cons_succ, Go.IntWalk.iteOmega, Go.IntWalk.toNatUp, hlt, hc1, show (held.length : Int) < 37 by omega]
    refine IWp.ret ?_
    simp [go_sem, -getElem?_pos, -List.map_take, -List.map_drop, List.getElem?_cons_zero, List.getElem?_cons_succ, Go.IntWalk.iteOmega, Go.IntWalk.toNatUp, hlt, hc1, show (held.length : Int) < 37 by omega, Try.results7]
    omega

/-- What is got of pieces, in a block of its own, apart from the scanner at b. -/
def GotInv (K : Heap) (n b : Nat) (r : Option Nat) (v : Value) (fs : List (List Int)) : Prop :=
  Bld 1 K n v (fs.map byts) ∧ (∀ q, r = some q → n ≤ q) ∧ (∀ c o s l k, v = .slice (some ⟨c, o, s⟩) l k → r ≠ some c) ∧ b < n
theorem GotInv.step {K K2 : Heap} {n b : Nat} {r r2 : Option Nat} {v : Value} {fs gs : List (List Int)} {L : List Int} {lost : Nat} (h : GotInv K n b r v fs) (hs : Step K K2 b r r2) (hn : n ≤ K.next) (sc : ScAt K2 b r2 L lost) (hl : fs.length + gs.length ≤ 100000) :
    ∃ v' K3, iapp Try.prog 25 v (frow 1 0 (gs.map byts)) K2 = some (v', K3) ∧ GotInv K3 n b r2 v' (fs ++ gs) ∧ ScAt K3 b r2 L lost ∧ (∀ j, j < n → K3.get j = K2.get j) ∧ K2.next ≤ K3.next := by
  obtain ⟨h1, h2, h3, h4⟩ := h
  have hb2 : Bld 1 K2 n v (fs.map byts) := by
    refine ⟨h1.1, ?_⟩
    rcases h1.2 with ⟨rfl, e⟩ | ⟨c, c1, rfl, c3⟩
    · exact .inl ⟨rfl, e⟩
    · exact .inr ⟨c, c1, rfl, by rw [hs.get c (Heap.lt_of_get c3) (by omega) (h3 c _ _ _ _ rfl)]; exact c3⟩
  have hr2 : ∀ q, r2 = some q → n ≤ q := fun q hq => by
    rcases hs.row with e | ⟨q', e, hq'⟩
    · exact h2 q (by rw [← e]; exact hq)
    · rw [e] at hq; cases hq; omega
  have hv2 : ∀ c o s l k, v = .slice (some ⟨c, o, s⟩) l k → r2 ≠ some c := fun c o s l k e hc => by
    rcases hs.row with e2 | ⟨q', e2, hq'⟩
    · exact h3 c o s l k e (by rw [← e2]; exact hc)
    · rw [e2] at hc; cases hc
      rcases h1.2 with ⟨rfl, _⟩ | ⟨c', c1, e3, c3⟩
      · cases e
      · rw [e3] at e; cases e
        have := Heap.lt_of_get c3; omega
  have hsn := hs.next
  obtain ⟨v', K3, e, b1, s1, n1, f1, t1⟩ := app_own (P := Try.prog) (t := 25) (e := 26) (sz := 1) (by_ := 24) (z := .slice none 0 0) (ws := gs.map byts) (x := frow 1 0 (gs.map byts)) (by kernel_rfl) (by kernel_rfl) (by kernel_rfl) (by kernel_rfl) rfl hb2 (rows_sz gs) (by rw [irow_frow, if_pos rfl]) (by simp [byts, frow, one0, Value.cells]) (by omega) (by simp; omega) (by simp; omega)
  have hlt := sc.lt
  refine ⟨v', K3, e, ⟨by rw [List.map_append]; exact b1, hr2, fun c o s l k e hc => ?_, h4⟩, sc.same fun j hj => ?_, s1, n1⟩
  · rcases t1 with ⟨t2, _, _⟩ | t1
    · exact hv2 c o s l k (by rw [← t2]; exact e) hc
    · rw [t1] at e; cases e
      have := hlt.2 _ hc; omega
  · have hj2 : j < K2.next := hj.elim (fun e => e ▸ hlt.1) (hlt.2 j)
    refine f1 j hj2 fun o s l c e => ?_
    rcases hj with rfl | hj
    · rcases hb2.2 with ⟨rfl, _⟩ | ⟨c', c1, e3, c3⟩
      · cases e
      · rw [e3] at e; cases e; omega
    · exact hv2 j o s l c e hj

end Go.Proofs.Ytgmpjbifbnaijaa.I
