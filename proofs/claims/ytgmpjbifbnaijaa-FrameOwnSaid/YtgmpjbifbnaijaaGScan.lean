/- Streams of bytes: which frames are told, what is lost, what waits. No condition. -/
import Derived.Test.YtgmpjbifbnaijaaGFrame
namespace Go.Proofs.Ytgmpjbifbnaijaa.I
open Go Go.RowKit
set_option linter.unusedVariables false
set_option linter.unusedSimpArgs false

theorem lookS_cases (P : List Int) : lookS P = (0, 0) ∨ (lookS P = (1, 0) ∧ 1 ≤ P.length) ∨ ∃ n : Nat, lookS P = (2, (n : Int)) ∧ 6 ≤ n ∧ n ≤ 37 ∧ n ≤ P.length := by
  unfold lookS
  split
  · exact .inl rfl
  split
  · exact .inr (.inl ⟨rfl, by omega⟩)
  split
  · exact .inl rfl
  split
  · exact .inr (.inl ⟨rfl, by omega⟩)
  split
  · exact .inl rfl
  split
  · exact .inr (.inl ⟨rfl, by omega⟩)
  split
  · exact .inl rfl
  split
  · rename_i h _ _
    have h' : 1 ≤ P.getD 2 0 ∧ P.getD 2 0 ≤ 32 := by simpa using h
    exact .inr (.inr ⟨(5 + P.getD 2 0).toNat, by rw [Int.toNat_of_nonneg (by omega)], by omega, by omega, by omega⟩)
  · exact .inr (.inl ⟨rfl, by omega⟩)

/-- What is told, how much is lost, what waits. -/
def scanS (P : List Int) : List (List Int) × Nat × List Int :=
  if h : P = [] ∨ (lookS P).1 = 0 then ([], 0, P)
  else if (lookS P).1 = 1 then ((scanS (P.drop 1)).1, (scanS (P.drop 1)).2.1 + 1, (scanS (P.drop 1)).2.2)
  else ((P.drop 3).take ((lookS P).2.toNat - 5) :: (scanS (P.drop ((lookS P).2.toNat - 1 + 1))).1, (scanS (P.drop ((lookS P).2.toNat - 1 + 1))).2.1, (scanS (P.drop ((lookS P).2.toNat - 1 + 1))).2.2)
termination_by P.length
decreasing_by
  all_goals
    have : 0 < P.length := List.length_pos_iff.2 (fun e => h (.inl e))
    simp only [List.length_drop]; omega

theorem scanS_wait {P : List Int} (h : (lookS P).1 = 0) : scanS P = ([], 0, P) := by rw [scanS, dif_pos (.inr h)]
theorem scanS_lost {P : List Int} (h : lookS P = (1, 0)) : scanS P = ((scanS (P.drop 1)).1, (scanS (P.drop 1)).2.1 + 1, (scanS (P.drop 1)).2.2) := by
  have hn : ¬ (P = [] ∨ (lookS P).1 = 0) := by
    rintro (rfl | e)
    · simp [lookS] at h
    · rw [h] at e; cases e
  rw [scanS, dif_neg hn, if_pos (by rw [h])]
theorem scanS_told {P : List Int} {n : Nat} (h : lookS P = (2, (n : Int))) (hn : 6 ≤ n) : scanS P = ((P.drop 3).take (n - 5) :: (scanS (P.drop n)).1, (scanS (P.drop n)).2.1, (scanS (P.drop n)).2.2) := by
  have hn2 : ¬ (P = [] ∨ (lookS P).1 = 0) := by
    rintro (rfl | e)
    · simp [lookS] at h
    · rw [h] at e; cases e
  have e : n - 1 + 1 = n := by omega
  rw [scanS, dif_neg hn2, if_neg (by rw [h]; show ¬ (2 : Int) = 1; decide), h]
  simp only [Int.toNat_natCast, e]

theorem frow_match (sz : Nat) (m : Int) (xs : List Value) : (match frow sz m xs with | .agg cs => cs | v => #[v]) = #[frow sz m xs] := rfl
theorem cl_rows (L : List (List Int)) : Cl (frow 1 0 (L.map byts)) = True := by
  rw [Cl_frow_map]
  exact eq_true fun x _ => by rw [show (byts x).cells.toList = [byts x] from rfl, ClL_cons]; exact ⟨by rw [cl_ints]; trivial, by rw [ClL_nil]; trivial⟩

theorem rows_sz (L : List (List Int)) : ∀ u ∈ L.map byts, u.cells.toList.length = 1 := by
  intro u hu
  obtain ⟨x, _, rfl⟩ := List.mem_map.1 hu
  rfl

theorem refAll (H : Heap) (P : List Int) (hl : P.length ≤ 100000) (hB : Bs P) :
    ICalls Try.prog 20 [byts P] H fun v H' => v = .tuple #[frow 1 0 ((scanS P).1.map byts), .int .i64 (scanS P).2.1, .int .i64 (scanS P).2.2.length] ∧ H' = H := by
  refine ICalls.ans (by rw [Cl_tuple]; simp [ClL_cons, ClL_nil, cl_rows, Cl_int]) fun H => IBody.calls (by kernel_rfl) ?_
  refine IBody.of Try.func20 rfl (by rw [Try.ntmps20]; simp) ?_
  rw [Try.ntmps20]
  refine IWp.seq ?_
  refine IWp.run [0] ?_
  simp [go_sem, -getElem?_pos, -List.map_take, -List.map_drop, List.getElem?_cons_zero, List.getElem?_cons_succ, Go.IntWalk.iteOmega, Go.IntWalk.toNatUp]
  refine IWp.seq ?_
  refine IWp.run [0, 5] ?_
  simp [go_sem, -getElem?_pos, -List.map_take, -List.map_drop, List.getElem?_cons_zero, List.getElem?_cons_succ, Go.IntWalk.iteOmega, Go.IntWalk.toNatUp]
  refine IWp.seq ?_
  refine IWp.run [0, 5, 6] ?_
  simp [go_sem, -getElem?_pos, -List.map_take, -List.map_drop, List.getElem?_cons_zero, List.getElem?_cons_succ, Go.IntWalk.iteOmega, Go.IntWalk.toNatUp]
  refine IWp.seq ?_
  refine IWp.run [0, 5, 6, 7] ?_
  simp [go_sem, -getElem?_pos, -List.map_take, -List.map_drop, List.getElem?_cons_zero, List.getElem?_cons_succ, Go.IntWalk.iteOmega, Go.IntWalk.toNatUp]
  refine IWp.block ?_
  -- LOOP live [0, 5, 6, 7]
  refine IWp.loop (fun j e K => ∃ (i : Nat) (fs : List (List Int)) (lost : Nat) (v : Value), j = P.length - i ∧ i ≤ P.length ∧ fs.length ≤ i ∧ lost ≤ i ∧ Bld 1 K H.next v (fs.map byts) ∧ Old H K ∧ e = [(0, byts P), (5, v), (6, .int .i64 lost), (7, .int .i64 (i : Int))] ∧ scanS P = (fs ++ (scanS (P.drop i)).1, lost + (scanS (P.drop i)).2.1, (scanS (P.drop i)).2.2)) P.length ⟨0, [], 0, .slice none 0 0, rfl, Nat.zero_le _, Nat.le_refl _, Nat.le_refl _, Bld.nil _ _ _, Old.refl _, by simp [go_sem], by simp⟩ ?_
  rintro j e K ⟨i, fs, lost, v, rfl, hi, hfs, hlo, hv, ho, rfl, hs⟩
  have hA := fun K => refAt K 0 (P.drop i) (by simp; omega) (fun x hx => hB x (List.mem_of_mem_drop hx))
  have htk : (P.drop i).take (P.length - i) = P.drop i := List.take_of_length_le (by simp)
  have w1 := IntWalk.i64_in ((i : Int) + 1) (by omega)
  have w2 := IntWalk.i64_in ((lost : Int) + 1) (by omega)
  have w3 := IntWalk.i64_in ((P.length : Int) - i) (by omega)
  rcases lookS_cases (P.drop i) with h | ⟨h, h1⟩ | ⟨n, h, hn1, hn2, hn3⟩
  · have hw := scanS_wait (P := P.drop i) (by rw [h])
    rw [hw] at hs
    rw [hs]
    rw [h] at hA
    have hlen : ((P.drop i).length : Int) = (P.length : Int) - i := by simp; omega
    refine IWp.block ?_
    refine IWp.seq ?_
    refine IWp.run [0, 5, 6, 7, 8, 9] ?_
    simp [go_sem, -getElem?_pos, -List.map_take, -List.map_drop, List.getElem?_cons_zero, List.getElem?_cons_succ, Go.IntWalk.iteOmega, Go.IntWalk.toNatUp, w3, htk, hlen, hi, show (i : Int) ≤ P.length by omega]
    refine ICalls.mono (hA _) ?_
    rintro u _ ⟨rfl, rfl⟩
    try simp [go_sem, -getElem?_pos, -List.map_take, -List.map_drop, List.getElem?_cons_zero, List.getElem?_cons_succ, Go.IntWalk.iteOmega, Go.IntWalk.toNatUp, w3, htk, hlen, hi, show (i : Int) ≤ P.length by omega]
    refine IWp.seq ?_
    refine IWp.seq ?_
    refine IWp.run [0, 5, 6, 7, 8, 9, 18] ?_
    simp [go_sem, -getElem?_pos, -List.map_take, -List.map_drop, List.getElem?_cons_zero, List.getElem?_cons_succ, Go.IntWalk.iteOmega, Go.IntWalk.toNatUp, w3, htk, hlen, hi, show (i : Int) ≤ P.length by omega]
    refine IWp.cond ?_
    simp [go_sem, -getElem?_pos, -List.map_take, -List.map_drop, List.getElem?_cons_zero, List.getElem?_cons_succ, Go.IntWalk.iteOmega, Go.IntWalk.toNatUp, w3, htk, hlen, hi, show (i : Int) ≤ P.length by omega]
    refine IWp.seq ?_
    refine IWp.run [2, 3, 4] ?_
    simp [go_sem, -getElem?_pos, -List.map_take, -List.map_drop, List.getElem?_cons_zero, List.getElem?_cons_succ, Go.IntWalk.iteOmega, Go.IntWalk.toNatUp, w3, htk, hlen, hi, show (i : Int) ≤ P.length by omega]
    refine IWp.ret ?_
    simp [go_sem, -getElem?_pos, -List.map_take, -List.map_drop, List.getElem?_cons_zero, List.getElem?_cons_succ, Go.IntWalk.iteOmega, Go.IntWalk.toNatUp, w3, htk, hlen, hi, show (i : Int) ≤ P.length by omega, Try.results20]
    exact ⟨hv.frz, by rw [show ((P.length : Int) - i) = ((P.length - i : Nat) : Int) by omega]; exact .same _⟩
  · have hw := scanS_lost h
    rw [List.drop_drop] at hw
    rw [hw] at hs
    rw [h] at hA
    rw [List.length_drop] at h1
    refine IWp.block ?_
    refine IWp.seq ?_
    refine IWp.run [0, 5, 6, 7, 8, 9] ?_
    simp [go_sem, -getElem?_pos, -List.map_take, -List.map_drop, List.getElem?_cons_zero, List.getElem?_cons_succ, Go.IntWalk.iteOmega, Go.IntWalk.toNatUp, w1, w2, htk, hi, show (i : Int) ≤ P.length by omega]
    refine ICalls.mono (hA _) ?_
    rintro u _ ⟨rfl, rfl⟩
    try simp [go_sem, -getElem?_pos, -List.map_take, -List.map_drop, List.getElem?_cons_zero, List.getElem?_cons_succ, Go.IntWalk.iteOmega, Go.IntWalk.toNatUp, w1, w2, htk, hi, show (i : Int) ≤ P.length by omega]
    refine IWp.seq ?_
    refine IWp.seq ?_
    refine IWp.run [0, 5, 6, 7, 8, 9, 18] ?_
    simp [go_sem, -getElem?_pos, -List.map_take, -List.map_drop, List.getElem?_cons_zero, List.getElem?_cons_succ, Go.IntWalk.iteOmega, Go.IntWalk.toNatUp, w1, w2, htk, hi, show (i : Int) ≤ P.length by omega]
    refine IWp.cond ?_
    simp [go_sem, -getElem?_pos, -List.map_take, -List.map_drop, List.getElem?_cons_zero, List.getElem?_cons_succ, Go.IntWalk.iteOmega, Go.IntWalk.toNatUp, w1, w2, htk, hi, show (i : Int) ≤ P.length by omega]
    refine IWp.trim [0, 5, 6, 7, 8, 9] (IWp.skip ?_)
    simp [go_sem, -getElem?_pos, -List.map_take, -List.map_drop, List.getElem?_cons_zero, List.getElem?_cons_succ, Go.IntWalk.iteOmega, Go.IntWalk.toNatUp, w1, w2, htk, hi, show (i : Int) ≤ P.length by omega]
    refine IWp.seq ?_
    refine IWp.seq ?_
    refine IWp.run [0, 5, 6, 7, 9, 26] ?_
    simp [go_sem, -getElem?_pos, -List.map_take, -List.map_drop, List.getElem?_cons_zero, List.getElem?_cons_succ, Go.IntWalk.iteOmega, Go.IntWalk.toNatUp, w1, w2, htk, hi, show (i : Int) ≤ P.length by omega]
    refine IWp.cond ?_
    simp [go_sem, -getElem?_pos, -List.map_take, -List.map_drop, List.getElem?_cons_zero, List.getElem?_cons_succ, Go.IntWalk.iteOmega, Go.IntWalk.toNatUp, w1, w2, htk, hi, show (i : Int) ≤ P.length by omega]
    refine IWp.seq ?_
    refine IWp.run [0, 5, 6, 7] ?_
    simp [go_sem, -getElem?_pos, -List.map_take, -List.map_drop, List.getElem?_cons_zero, List.getElem?_cons_succ, Go.IntWalk.iteOmega, Go.IntWalk.toNatUp, w1, w2, htk, hi, show (i : Int) ≤ P.length by omega]
    refine IWp.seq ?_
    refine IWp.run [0, 5, 6, 7] ?_
    simp [go_sem, -getElem?_pos, -List.map_take, -List.map_drop, List.getElem?_cons_zero, List.getElem?_cons_succ, Go.IntWalk.iteOmega, Go.IntWalk.toNatUp, w1, w2, htk, hi, show (i : Int) ≤ P.length by omega]
    refine IWp.trim [0, 5, 6, 7] (IWp.exit ?_)
    simp [go_sem, -getElem?_pos, -List.map_take, -List.map_drop, List.getElem?_cons_zero, List.getElem?_cons_succ, Go.IntWalk.iteOmega, Go.IntWalk.toNatUp, w1, w2, htk, hi, show (i : Int) ≤ P.length by omega]
    exact ⟨P.length - (i + 1), by omega, i + 1, rfl, by omega, fs, by omega, lost + 1, by omega, v, hv, ho, ⟨rfl, by omega, by omega⟩, by rw [hs]; simp only [Prod.mk.injEq, true_and, and_true]; omega⟩
  · have hw := scanS_told h hn1
    rw [List.drop_drop, List.drop_drop] at hw
    rw [hw] at hs
    rw [h] at hA
    rw [List.length_drop] at hn3
    have w4 := IntWalk.i64_in ((i : Int) + 3) (by omega)
    have w5 := IntWalk.i64_in ((i : Int) + n) (by omega)
    have w6 := IntWalk.i64_in ((i : Int) + n - 2) (by omega)
    have w7 : ((i : Int) + 3).toNat = i + 3 := by omega
    have hch : (P.drop (i + 3)).take (((i : Int) + n - 2).toNat - (i + 3)) = (P.drop (i + 3)).take (n - 5) := by congr 1; omega
    have hch2 : (P.drop (i + 3)).take (i + n - 2 - (i + 3)) = (P.drop (i + 3)).take (n - 5) := by congr 1; omega
    have hKn : H.next ≤ K.next := ho.2
    obtain ⟨v', H', e2, b2, s2, n2, _⟩ := app_one (P := Try.prog) (t := 25) (e := 26) (sz := 1) (by_ := 24) (z := .slice none 0 0) (by kernel_rfl) (by kernel_rfl) (by kernel_rfl) (by kernel_rfl) rfl (byts ((P.drop (i + 3)).take (n - 5))) [byts ((P.drop (i + 3)).take (n - 5))] hv rfl rfl (by simp [one0, byts, frow]) hKn (by simp; omega) (by simp; omega)
    refine IWp.block ?_
    refine IWp.seq ?_
    refine IWp.run [0, 5, 6, 7, 8, 9] ?_
    simp [go_sem, -getElem?_pos, -List.map_take, -List.map_drop, List.getElem?_cons_zero, List.getElem?_cons_succ, Go.IntWalk.iteOmega, Go.IntWalk.toNatUp, w1, w2, w4, w5, w6, w7, htk, e2, hch, hch2, hi, hn3, show ¬ (i : Int) + n - 2 < i + 3 by omega, show (i : Int) + 3 ≤ i + n - 2 by omega, show (i : Int) + n - 2 ≤ P.length by omega, show (i : Int) ≤ P.length by omega]
    refine ICalls.mono (hA _) ?_
    rintro u _ ⟨rfl, rfl⟩
    try simp [go_sem, -getElem?_pos, -List.map_take, -List.map_drop, List.getElem?_cons_zero, List.getElem?_cons_succ, Go.IntWalk.iteOmega, Go.IntWalk.toNatUp, w1, w2, w4, w5, w6, w7, htk, e2, hch, hch2, hi, hn3, show ¬ (i : Int) + n - 2 < i + 3 by omega, show (i : Int) + 3 ≤ i + n - 2 by omega, show (i : Int) + n - 2 ≤ P.length by omega, show (i : Int) ≤ P.length by omega]
    refine IWp.seq ?_
    refine IWp.seq ?_
    refine IWp.run [0, 5, 6, 7, 8, 9, 18] ?_
    simp [go_sem, -getElem?_pos, -List.map_take, -List.map_drop, List.getElem?_cons_zero, List.getElem?_cons_succ, Go.IntWalk.iteOmega, Go.IntWalk.toNatUp, w1, w2, w4, w5, w6, w7, htk, e2, hch, hch2, hi, hn3, show ¬ (i : Int) + n - 2 < i + 3 by omega, show (i : Int) + 3 ≤ i + n - 2 by omega, show (i : Int) + n - 2 ≤ P.length by omega, show (i : Int) ≤ P.length by omega]
    refine IWp.cond ?_
    simp [go_sem, -getElem?_pos, -List.map_take, -List.map_drop, List.getElem?_cons_zero, List.getElem?_cons_succ, Go.IntWalk.iteOmega, Go.IntWalk.toNatUp, w1, w2, w4, w5, w6, w7, htk, e2, hch, hch2, hi, hn3, show ¬ (i : Int) + n - 2 < i + 3 by omega, show (i : Int) + 3 ≤ i + n - 2 by omega, show (i : Int) + n - 2 ≤ P.length by omega, show (i : Int) ≤ P.length by omega]
    refine IWp.trim [0, 5, 6, 7, 8, 9] (IWp.skip ?_)
    simp [go_sem, -getElem?_pos, -List.map_take, -List.map_drop, List.getElem?_cons_zero, List.getElem?_cons_succ, Go.IntWalk.iteOmega, Go.IntWalk.toNatUp, w1, w2, w4, w5, w6, w7, htk, e2, hch, hch2, hi, hn3, show ¬ (i : Int) + n - 2 < i + 3 by omega, show (i : Int) + 3 ≤ i + n - 2 by omega, show (i : Int) + n - 2 ≤ P.length by omega, show (i : Int) ≤ P.length by omega]
    refine IWp.seq ?_
    refine IWp.seq ?_
    refine IWp.run [0, 5, 6, 7, 9, 26] ?_
    simp [go_sem, -getElem?_pos, -List.map_take, -List.map_drop, List.getElem?_cons_zero, List.getElem?_cons_succ, Go.IntWalk.iteOmega, Go.IntWalk.toNatUp, w1, w2, w4, w5, w6, w7, htk, e2, hch, hch2, hi, hn3, show ¬ (i : Int) + n - 2 < i + 3 by omega, show (i : Int) + 3 ≤ i + n - 2 by omega, show (i : Int) + n - 2 ≤ P.length by omega, show (i : Int) ≤ P.length by omega]
    refine IWp.cond ?_
    simp [go_sem, -getElem?_pos, -List.map_take, -List.map_drop, List.getElem?_cons_zero, List.getElem?_cons_succ, Go.IntWalk.iteOmega, Go.IntWalk.toNatUp, w1, w2, w4, w5, w6, w7, htk, e2, hch, hch2, hi, hn3, show ¬ (i : Int) + n - 2 < i + 3 by omega, show (i : Int) + 3 ≤ i + n - 2 by omega, show (i : Int) + n - 2 ≤ P.length by omega, show (i : Int) ≤ P.length by omega]
    refine IWp.trim [0, 5, 6, 7, 9] (IWp.skip ?_)
    simp [go_sem, -getElem?_pos, -List.map_take, -List.map_drop, List.getElem?_cons_zero, List.getElem?_cons_succ, Go.IntWalk.iteOmega, Go.IntWalk.toNatUp, w1, w2, w4, w5, w6, w7, htk, e2, hch, hch2, hi, hn3, show ¬ (i : Int) + n - 2 < i + 3 by omega, show (i : Int) + 3 ≤ i + n - 2 by omega, show (i : Int) + n - 2 ≤ P.length by omega, show (i : Int) ≤ P.length by omega]
    refine IWp.seq ?_
    refine IWp.run [0, 5, 6, 7, 9] ?_
    simp [go_sem, -getElem?_pos, -List.map_take, -List.map_drop, List.getElem?_cons_zero, List.getElem?_cons_succ, Go.IntWalk.iteOmega, Go.IntWalk.toNatUp, w1, w2, w4, w5, w6, w7, htk, e2, hch, hch2, hi, hn3, show ¬ (i : Int) + n - 2 < i + 3 by omega, show (i : Int) + 3 ≤ i + n - 2 by omega, show (i : Int) + n - 2 ≤ P.length by omega, show (i : Int) ≤ P.length by omega]
    refine IWp.run [0, 5, 6, 7] ?_
    simp [go_sem, -getElem?_pos, -List.map_take, -List.map_drop, List.getElem?_cons_zero, List.getElem?_cons_succ, Go.IntWalk.iteOmega, Go.IntWalk.toNatUp, w1, w2, w4, w5, w6, w7, htk, e2, hch, hch2, hi, hn3, show ¬ (i : Int) + n - 2 < i + 3 by omega, show (i : Int) + 3 ≤ i + n - 2 by omega, show (i : Int) + n - 2 ≤ P.length by omega, show (i : Int) ≤ P.length by omega]
    refine ⟨P.length - (i + n), by omega, i + n, rfl, by omega, fs ++ [(P.drop (i + 3)).take (n - 5)], by simp; omega, lost, by omega, v', by rw [List.map_append]; exact b2, ⟨fun b hb => (s2 b hb).trans (ho.1 b hb), by omega⟩, ⟨rfl, rfl, by omega⟩, ?_⟩
    rw [hs]; simp

end Go.Proofs.Ytgmpjbifbnaijaa.I
