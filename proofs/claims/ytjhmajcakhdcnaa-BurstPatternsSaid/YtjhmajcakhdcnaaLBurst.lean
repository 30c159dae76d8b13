/- Bursts: the signs of a pattern are its sounds: the law's body. No condition. -/
import Derived.Test.YtjhmajcakhdcnaaGBurst
namespace Go.Proofs.Ytjhmajcakhdcnaa.I
open Go Go.RowKit
set_option linter.unusedVariables false
set_option linter.unusedSimpArgs false

def pulL (p : Int) : List Int := if p = 3 then [0, 2, 4, 7, 9, 16, 18, 20, 23, 25] else if p = 2 then [0, 3, 6] else if p = 1 then [0, 4] else []
theorem pulL_len (p : Int) : ((pulL p).length : Int) = pulN p := by
  unfold pulL pulN
  split
  · rfl
  split
  · rfl
  split <;> rfl
theorem pulL_in (p : Int) : (pulL p).length ≤ 10 := by
  unfold pulL
  split
  · decide
  split
  · decide
  split <;> decide
theorem frzNew (H : Heap) (L : List Int) (n : Nat) (hn : L.length = n) : Frz (H.alloc (L.map (Value.int .i64))) (fun _ => true) (.slice (some ⟨H.next, 0, some 1⟩) n 1) (ints .i64 L) := frz_lit (L.map (Value.int .i64)) (Heap.get_alloc_new _ _) (map_flat _ _) (map_sz .i64 _) (by simp [hn]) rfl
theorem refPul (H : Heap) (p : Int) : ICalls Try.prog 28 [.int .u8 p] H fun v H' => v = .tuple ⟨[ints .i64 (pulL p), .int .i64 (perS p)]⟩ ∧ H' = H := by
  refine ICalls.ans (by simp [go_sem, ints]) fun H => IBody.calls (by kernel_rfl) ?_
  unfold pulL perS
  by_cases h3 : p = 3
  · subst h3
    refine IBody.of Try.func28 rfl (by rw [Try.ntmps28]; simp) ?_
    rw [Try.ntmps28]
    refine IWp.seq ?_
    refine IWp.run [0] ?_
    simp [go_sem, -getElem?_pos, -List.map_take, -List.map_drop, List.getElem?_cons_zero, List.getElem?_cons_succ, Go.IntWalk.iteOmega, Go.IntWalk.toNatUp]
    refine IWp.seq ?_
    refine IWp.seq ?_
    refine IWp.run [4] ?_
    simp [go_sem, -getElem?_pos, -List.map_take, -List.map_drop, List.getElem?_cons_zero, List.getElem?_cons_succ, Go.IntWalk.iteOmega, Go.IntWalk.toNatUp]
    refine IWp.block ?_
    refine IWp.seq ?_
    refine IWp.run [4, 5] ?_
    simp [go_sem, -getElem?_pos, -List.map_take, -List.map_drop, List.getElem?_cons_zero, List.getElem?_cons_succ, Go.IntWalk.iteOmega, Go.IntWalk.toNatUp]
    refine IWp.cond ?_
    simp [go_sem, -getElem?_pos, -List.map_take, -List.map_drop, List.getElem?_cons_zero, List.getElem?_cons_succ, Go.IntWalk.iteOmega, Go.IntWalk.toNatUp]
    refine IWp.seq ?_
    refine IWp.run [2, 3] ?_
    simp [go_sem, -getElem?_pos, -List.map_take, -List.map_drop, List.getElem?_cons_zero, List.getElem?_cons_succ, Go.IntWalk.iteOmega, Go.IntWalk.toNatUp]
    refine IWp.ret ?_
    simp [go_sem, -getElem?_pos, -List.map_take, -List.map_drop, List.getElem?_cons_zero, List.getElem?_cons_succ, Go.IntWalk.iteOmega, Go.IntWalk.toNatUp, Try.results28]
    exact (frzNew H [0, 2, 4, 7, 9, 16, 18, 20, 23, 25] 10 rfl)
  by_cases h2 : p = 2
  · rw [if_neg h3, if_neg h3]
    subst h2
    refine IBody.of Try.func28 rfl (by rw [Try.ntmps28]; simp) ?_
    rw [Try.ntmps28]
    refine IWp.seq ?_
    refine IWp.run [0] ?_
    simp [go_sem, -getElem?_pos, -List.map_take, -List.map_drop, List.getElem?_cons_zero, List.getElem?_cons_succ, Go.IntWalk.iteOmega, Go.IntWalk.toNatUp]
    refine IWp.seq ?_
    refine IWp.seq ?_
    refine IWp.run [4] ?_
    simp [go_sem, -getElem?_pos, -List.map_take, -List.map_drop, List.getElem?_cons_zero, List.getElem?_cons_succ, Go.IntWalk.iteOmega, Go.IntWalk.toNatUp]
    refine IWp.block ?_
    refine IWp.seq ?_
    refine IWp.run [4, 5] ?_
    simp [go_sem, -getElem?_pos, -List.map_take, -List.map_drop, List.getElem?_cons_zero, List.getElem?_cons_succ, Go.IntWalk.iteOmega, Go.IntWalk.toNatUp]
    refine IWp.cond ?_
    simp [go_sem, -getElem?_pos, -List.map_take, -List.map_drop, List.getElem?_cons_zero, List.getElem?_cons_succ, Go.IntWalk.iteOmega, Go.IntWalk.toNatUp]
    refine IWp.seq ?_
    refine IWp.run [4, 8] ?_
    simp [go_sem, -getElem?_pos, -List.map_take, -List.map_drop, List.getElem?_cons_zero, List.getElem?_cons_succ, Go.IntWalk.iteOmega, Go.IntWalk.toNatUp]
    refine IWp.cond ?_
    simp [go_sem, -getElem?_pos, -List.map_take, -List.map_drop, List.getElem?_cons_zero, List.getElem?_cons_succ, Go.IntWalk.iteOmega, Go.IntWalk.toNatUp]
    refine IWp.seq ?_
    refine IWp.run [2, 3] ?_
    simp [go_sem, -getElem?_pos, -List.map_take, -List.map_drop, List.getElem?_cons_zero, List.getElem?_cons_succ, Go.IntWalk.iteOmega, Go.IntWalk.toNatUp]
    refine IWp.ret ?_
    simp [go_sem, -getElem?_pos, -List.map_take, -List.map_drop, List.getElem?_cons_zero, List.getElem?_cons_succ, Go.IntWalk.iteOmega, Go.IntWalk.toNatUp, Try.results28]
    exact (frzNew H [0, 3, 6] 3 rfl)
  by_cases h1 : p = 1
  · rw [if_neg h3, if_neg h3, if_neg h2, if_neg h2]
    subst h1
    refine IBody.of Try.func28 rfl (by rw [Try.ntmps28]; simp) ?_
    rw [Try.ntmps28]
    refine IWp.seq ?_
    refine IWp.run [0] ?_
    simp [go_sem, -getElem?_pos, -List.map_take, -List.map_drop, List.getElem?_cons_zero, List.getElem?_cons_succ, Go.IntWalk.iteOmega, Go.IntWalk.toNatUp]
    refine IWp.seq ?_
    refine IWp.seq ?_
    refine IWp.run [4] ?_
    simp [go_sem, -getElem?_pos, -List.map_take, -List.map_drop, List.getElem?_cons_zero, List.getElem?_cons_succ, Go.IntWalk.iteOmega, Go.IntWalk.toNatUp]
    refine IWp.block ?_
    refine IWp.seq ?_
    refine IWp.run [4, 5] ?_
    simp [go_sem, -getElem?_pos, -List.map_take, -List.map_drop, List.getElem?_cons_zero, List.getElem?_cons_succ, Go.IntWalk.iteOmega, Go.IntWalk.toNatUp]
    refine IWp.cond ?_
    simp [go_sem, -getElem?_pos, -List.map_take, -List.map_drop, List.getElem?_cons_zero, List.getElem?_cons_succ, Go.IntWalk.iteOmega, Go.IntWalk.toNatUp]
    refine IWp.seq ?_
    refine IWp.run [4, 8] ?_
    simp [go_sem, -getElem?_pos, -List.map_take, -List.map_drop, List.getElem?_cons_zero, List.getElem?_cons_succ, Go.IntWalk.iteOmega, Go.IntWalk.toNatUp]
    refine IWp.cond ?_
    simp [go_sem, -getElem?_pos, -List.map_take, -List.map_drop, List.getElem?_cons_zero, List.getElem?_cons_succ, Go.IntWalk.iteOmega, Go.IntWalk.toNatUp]
    refine IWp.seq ?_
    refine IWp.run [11] ?_
    simp [go_sem, -getElem?_pos, -List.map_take, -List.map_drop, List.getElem?_cons_zero, List.getElem?_cons_succ, Go.IntWalk.iteOmega, Go.IntWalk.toNatUp]
    refine IWp.cond ?_
    simp [go_sem, -getElem?_pos, -List.map_take, -List.map_drop, List.getElem?_cons_zero, List.getElem?_cons_succ, Go.IntWalk.iteOmega, Go.IntWalk.toNatUp]
    refine IWp.seq ?_
    refine IWp.run [2, 3] ?_
    simp [go_sem, -getElem?_pos, -List.map_take, -List.map_drop, List.getElem?_cons_zero, List.getElem?_cons_succ, Go.IntWalk.iteOmega, Go.IntWalk.toNatUp]
    refine IWp.ret ?_
    simp [go_sem, -getElem?_pos, -List.map_take, -List.map_drop, List.getElem?_cons_zero, List.getElem?_cons_succ, Go.IntWalk.iteOmega, Go.IntWalk.toNatUp, Try.results28]
    exact (frzNew H [0, 4] 2 rfl)
  · rw [if_neg h3, if_neg h3, if_neg h2, if_neg h2, if_neg h1, if_neg h1]
    refine IBody.of Try.func28 rfl (by rw [Try.ntmps28]; simp) ?_
    rw [Try.ntmps28]
    refine IWp.seq ?_
    refine IWp.run [0] ?_
    simp [go_sem, -getElem?_pos, -List.map_take, -List.map_drop, List.getElem?_cons_zero, List.getElem?_cons_succ, Go.IntWalk.iteOmega, Go.IntWalk.toNatUp, h1, h2, h3]
    refine IWp.seq ?_
    refine IWp.seq ?_
    refine IWp.run [4] ?_
    simp [go_sem, -getElem?_pos, -List.map_take, -List.map_drop, List.getElem?_cons_zero, List.getElem?_cons_succ, Go.IntWalk.iteOmega, Go.IntWalk.toNatUp, h1, h2, h3]
    refine IWp.block ?_
    refine IWp.seq ?_
    refine IWp.run [4, 5] ?_
    simp [go_sem, -getElem?_pos, -List.map_take, -List.map_drop, List.getElem?_cons_zero, List.getElem?_cons_succ, Go.IntWalk.iteOmega, Go.IntWalk.toNatUp, h1, h2, h3]
    refine IWp.cond ?_
    simp [go_sem, -getElem?_pos, -List.map_take, -List.map_drop, List.getElem?_cons_zero, List.getElem?_cons_succ, Go.IntWalk.iteOmega, Go.IntWalk.toNatUp, h1, h2, h3]
    refine IWp.seq ?_
    refine IWp.run [4, 8] ?_
    simp [go_sem, -getElem?_pos, -List.map_take, -List.map_drop, List.getElem?_cons_zero, List.getElem?_cons_succ, Go.IntWalk.iteOmega, Go.IntWalk.toNatUp, h1, h2, h3]
    refine IWp.cond ?_
    simp [go_sem, -getElem?_pos, -List.map_take, -List.map_drop, List.getElem?_cons_zero, List.getElem?_cons_succ, Go.IntWalk.iteOmega, Go.IntWalk.toNatUp, h1, h2, h3]
    refine IWp.seq ?_
    refine IWp.run [11] ?_
    simp [go_sem, -getElem?_pos, -List.map_take, -List.map_drop, List.getElem?_cons_zero, List.getElem?_cons_succ, Go.IntWalk.iteOmega, Go.IntWalk.toNatUp, h1, h2, h3]
    refine IWp.cond ?_
    simp [go_sem, -getElem?_pos, -List.map_take, -List.map_drop, List.getElem?_cons_zero, List.getElem?_cons_succ, Go.IntWalk.iteOmega, Go.IntWalk.toNatUp, h1, h2, h3]
    refine IWp.trim [] (IWp.skip ?_)
    simp [go_sem, -getElem?_pos, -List.map_take, -List.map_drop, List.getElem?_cons_zero, List.getElem?_cons_succ, Go.IntWalk.iteOmega, Go.IntWalk.toNatUp, h1, h2, h3]
    refine IWp.seq ?_
    refine IWp.run [2, 3] ?_
    simp [go_sem, -getElem?_pos, -List.map_take, -List.map_drop, List.getElem?_cons_zero, List.getElem?_cons_succ, Go.IntWalk.iteOmega, Go.IntWalk.toNatUp, h1, h2, h3]
    refine IWp.ret ?_
    simp [go_sem, -getElem?_pos, -List.map_take, -List.map_drop, List.getElem?_cons_zero, List.getElem?_cons_succ, Go.IntWalk.iteOmega, Go.IntWalk.toNatUp, h1, h2, h3, Try.results28]
    try exact .tuple (.cons (.nil 1) (.cons (.same _) .nil))

def soundR (p ph : Int) : Bool := decide (0 < perS p) && (decide (0 ≤ ph) && decide (ph % perS p ∈ pulL p))
theorem refSound (H : Heap) (p ph : Int) : ICalls Try.prog 14 [.int .u8 p, .int .i64 ph] H fun v H' => v = .bool (soundR p ph) ∧ H' = H := by
  refine ICalls.ans (by simp [go_sem]) fun H => IBody.calls (by kernel_rfl) ?_
  have hp := perS_in p
  have c1 := fun K => refPul K p
  simp only [ints] at c1
  unfold soundR
  by_cases h1 : perS p = 0
  · rw [decide_eq_false (show ¬ 0 < perS p by omega)]
    refine IBody.of Try.func14 rfl (by rw [Try.ntmps14]; simp) ?_
    rw [Try.ntmps14]
    refine IWp.seq ?_
    refine IWp.run [0, 1] ?_
    simp [go_sem, -getElem?_pos, -List.map_take, -List.map_drop, List.getElem?_cons_zero, List.getElem?_cons_succ, Go.IntWalk.iteOmega, Go.IntWalk.toNatUp, h1]
    refine IWp.seq ?_
    refine IWp.run [1, 5, 6] ?_
    simp [go_sem, -getElem?_pos, -List.map_take, -List.map_drop, List.getElem?_cons_zero, List.getElem?_cons_succ, Go.IntWalk.iteOmega, Go.IntWalk.toNatUp, h1]
    refine ICalls.then (c1 _) ?_
    try simp [go_sem, -getElem?_pos, -List.map_take, -List.map_drop, List.getElem?_cons_zero, List.getElem?_cons_succ, Go.IntWalk.iteOmega, Go.IntWalk.toNatUp, h1]
    refine IWp.seq ?_
    refine IWp.seq ?_
    refine IWp.run [1, 5, 6, 18] ?_
    simp [go_sem, -getElem?_pos, -List.map_take, -List.map_drop, List.getElem?_cons_zero, List.getElem?_cons_succ, Go.IntWalk.iteOmega, Go.IntWalk.toNatUp, h1]
    refine IWp.cond ?_
    simp [go_sem, -getElem?_pos, -List.map_take, -List.map_drop, List.getElem?_cons_zero, List.getElem?_cons_succ, Go.IntWalk.iteOmega, Go.IntWalk.toNatUp, h1]
    refine IWp.seq ?_
    refine IWp.run [4] ?_
    simp [go_sem, -getElem?_pos, -List.map_take, -List.map_drop, List.getElem?_cons_zero, List.getElem?_cons_succ, Go.IntWalk.iteOmega, Go.IntWalk.toNatUp, h1]
    refine IWp.ret ?_
    simp [go_sem, -getElem?_pos, -List.map_take, -List.map_drop, List.getElem?_cons_zero, List.getElem?_cons_succ, Go.IntWalk.iteOmega, Go.IntWalk.toNatUp, h1, Try.results14]
    try exact .same _
  rw [decide_eq_true (show 0 < perS p by omega)]
  by_cases h2 : ph < 0
  · rw [decide_eq_false (show ¬ 0 ≤ ph by omega)]
    refine IBody.of Try.func14 rfl (by rw [Try.ntmps14]; simp) ?_
    rw [Try.ntmps14]
    refine IWp.seq ?_
    refine IWp.run [0, 1] ?_
    simp [go_sem, -getElem?_pos, -List.map_take, -List.map_drop, List.getElem?_cons_zero, List.getElem?_cons_succ, Go.IntWalk.iteOmega, Go.IntWalk.toNatUp, h1, h2]
    refine IWp.seq ?_
    refine IWp.run [1, 5, 6] ?_
    simp [go_sem, -getElem?_pos, -List.map_take, -List.map_drop, List.getElem?_cons_zero, List.getElem?_cons_succ, Go.IntWalk.iteOmega, Go.IntWalk.toNatUp, h1, h2]
    refine ICalls.then (c1 _) ?_
    try simp [go_sem, -getElem?_pos, -List.map_take, -List.map_drop, List.getElem?_cons_zero, List.getElem?_cons_succ, Go.IntWalk.iteOmega, Go.IntWalk.toNatUp, h1, h2]
    refine IWp.seq ?_
    refine IWp.seq ?_
    refine IWp.run [1, 5, 6, 18] ?_
    simp [go_sem, -getElem?_pos, -List.map_take, -List.map_drop, List.getElem?_cons_zero, List.getElem?_cons_succ, Go.IntWalk.iteOmega, Go.IntWalk.toNatUp, h1, h2]
    refine IWp.cond ?_
    simp [go_sem, -getElem?_pos, -List.map_take, -List.map_drop, List.getElem?_cons_zero, List.getElem?_cons_succ, Go.IntWalk.iteOmega, Go.IntWalk.toNatUp, h1, h2]
    refine IWp.seq ?_
    refine IWp.run [4] ?_
    simp [go_sem, -getElem?_pos, -List.map_take, -List.map_drop, List.getElem?_cons_zero, List.getElem?_cons_succ, Go.IntWalk.iteOmega, Go.IntWalk.toNatUp, h1, h2]
    refine IWp.ret ?_
    simp [go_sem, -getElem?_pos, -List.map_take, -List.map_drop, List.getElem?_cons_zero, List.getElem?_cons_succ, Go.IntWalk.iteOmega, Go.IntWalk.toNatUp, h1, h2, Try.results14]
    try exact .same _
  rw [decide_eq_true (show 0 ≤ ph by omega), Bool.true_and, Bool.true_and]
  have h3 := Int.emod_nonneg ph h1
  have h4 := Int.emod_lt_of_pos ph (show 0 < perS p by omega)
  have h5 : ph.tmod (perS p) = ph % perS p := Int.tmod_eq_emod_of_nonneg (by omega)
  have w := IntWalk.i64_in (ph % perS p) (by omega)
  have hl := pulL_in p
  refine IBody.of Try.func14 rfl (by rw [Try.ntmps14]; simp) ?_
  rw [Try.ntmps14]
  refine IWp.seq ?_
  refine IWp.run [0, 1] ?_
  simp [go_sem, -getElem?_pos, -List.map_take, -List.map_drop, List.getElem?_cons_zero, List.getElem?_cons_succ, Go.IntWalk.iteOmega, Go.IntWalk.toNatUp, h1, h2]
  refine IWp.seq ?_
  refine IWp.run [1, 5, 6] ?_
  simp [go_sem, -getElem?_pos, -List.map_take, -List.map_drop, List.getElem?_cons_zero, List.getElem?_cons_succ, Go.IntWalk.iteOmega, Go.IntWalk.toNatUp, h1, h2]
  refine ICalls.then (c1 _) ?_
  try simp [go_sem, -getElem?_pos, -List.map_take, -List.map_drop, List.getElem?_cons_zero, List.getElem?_cons_succ, Go.IntWalk.iteOmega, Go.IntWalk.toNatUp, h1, h2]
  refine IWp.seq ?_
  refine IWp.seq ?_
  refine IWp.run [1, 5, 6, 18] ?_
  simp [go_sem, -getElem?_pos, -List.map_take, -List.map_drop, List.getElem?_cons_zero, List.getElem?_cons_succ, Go.IntWalk.iteOmega, Go.IntWalk.toNatUp, h1, h2]
  refine IWp.cond ?_
  simp [go_sem, -getElem?_pos, -List.map_take, -List.map_drop, List.getElem?_cons_zero, List.getElem?_cons_succ, Go.IntWalk.iteOmega, Go.IntWalk.toNatUp, h1, h2]
  refine IWp.trim [1, 5, 6] (IWp.skip ?_)
  simp [go_sem, -getElem?_pos, -List.map_take, -List.map_drop, List.getElem?_cons_zero, List.getElem?_cons_succ, Go.IntWalk.iteOmega, Go.IntWalk.toNatUp, h1, h2]
  refine IWp.seq ?_
  refine IWp.seq ?_
  refine IWp.run [1, 5, 6, 7] ?_
  simp [go_sem, -getElem?_pos, -List.map_take, -List.map_drop, List.getElem?_cons_zero, List.getElem?_cons_succ, Go.IntWalk.iteOmega, Go.IntWalk.toNatUp, h1, h2]
  refine IWp.block ?_
  -- LOOP live [1, 5, 6, 7]
  generalize hq : ph % perS p = q at *
  generalize pulL p = L at *
  refine IWp.loop (fun k e K => ∃ i : Nat, k = L.length - i ∧ i ≤ L.length ∧ e = [(1, .int .i64 ph), (5, frow 1 0 (L.map (Value.int .i64))), (6, .int .i64 (perS p)), (7, .int .i64 (i : Int))] ∧ ¬ q ∈ L.take i) L.length ⟨0, rfl, Nat.zero_le _, by simp [go_sem], by simp⟩ ?_
  rintro k e K ⟨i, rfl, hi, rfl, hno⟩
  have wi := IntWalk.i64_in ((i : Int) + 1) (by omega)
  by_cases hlt : i < L.length
  · have g : L[i]? = some L[i] := List.getElem?_eq_getElem hlt
    have hm := List.getElem_mem hlt
    have hst : q ∈ L.take (i + 1) ↔ q ∈ L.take i ∨ q = L[i] := by rw [List.take_succ_eq_append_getElem hlt, List.mem_append, List.mem_singleton]
    generalize L[i] = x at *
    by_cases he : q = x
    · subst he
      rw [decide_eq_true hm]
      refine IWp.seq ?_
      refine IWp.seq ?_
      refine IWp.run [1, 5, 6, 7, 22] ?_
      simp [go_sem, -getElem?_pos, -List.map_take, -List.map_drop, List.getElem?_cons_zero, List.getElem?_cons_succ, Go.IntWalk.iteOmega, Go.IntWalk.toNatUp, hlt, g, h1, h5, w]
      refine IWp.cond ?_
      simp [go_sem, -getElem?_pos, -List.map_take, -List.map_drop, List.getElem?_cons_zero, List.getElem?_cons_succ, Go.IntWalk.iteOmega, Go.IntWalk.toNatUp, hlt, g, h1, h5, w]
      refine IWp.trim [1, 5, 6, 7] (IWp.skip ?_)
      simp [go_sem, -getElem?_pos, -List.map_take, -List.map_drop, List.getElem?_cons_zero, List.getElem?_cons_succ, Go.IntWalk.iteOmega, Go.IntWalk.toNatUp, hlt, g, h1, h5, w]
      refine IWp.seq ?_
      refine IWp.block ?_
      refine IWp.seq ?_
      refine IWp.read [1, 5, 6, 7, 32] follows (by kernel_rfl) ?_
      simp [go_sem, -getElem?_pos, -List.map_take, -List.map_drop, List.getElem?_cons_zero, List.getElem?_cons_succ, Go.IntWalk.iteOmega, Go.IntWalk.toNatUp, hlt, g, h1, h5, w]
      refine IWp.cond ?_
      simp [go_sem, -getElem?_pos, -List.map_take, -List.map_drop, List.getElem?_cons_zero, List.getElem?_cons_succ, Go.IntWalk.iteOmega, Go.IntWalk.toNatUp, hlt, g, h1, h5, w]
      refine IWp.seq ?_
      refine IWp.run [4] ?_
      simp [go_sem, -getElem?_pos, -List.map_take, -List.map_drop, List.getElem?_cons_zero, List.getElem?_cons_succ, Go.IntWalk.iteOmega, Go.IntWalk.toNatUp, hlt, g, h1, h5, w]
      refine IWp.ret ?_
      simp [go_sem, -getElem?_pos, -List.map_take, -List.map_drop, List.getElem?_cons_zero, List.getElem?_cons_succ, Go.IntWalk.iteOmega, Go.IntWalk.toNatUp, hlt, g, h1, h5, w, Try.results14]
      try exact .same _
    · skip
      refine IWp.seq ?_
      refine IWp.seq ?_
      refine IWp.run [1, 5, 6, 7, 22] ?_
      simp [go_sem, -getElem?_pos, -List.map_take, -List.map_drop, List.getElem?_cons_zero, List.getElem?_cons_succ, Go.IntWalk.iteOmega, Go.IntWalk.toNatUp, hlt, g, h1, h5, w, he, wi]
      refine IWp.cond ?_
      simp [go_sem, -getElem?_pos, -List.map_take, -List.map_drop, List.getElem?_cons_zero, List.getElem?_cons_succ, Go.IntWalk.iteOmega, Go.IntWalk.toNatUp, hlt, g, h1, h5, w, he, wi]
      refine IWp.trim [1, 5, 6, 7] (IWp.skip ?_)
      simp [go_sem, -getElem?_pos, -List.map_take, -List.map_drop, List.getElem?_cons_zero, List.getElem?_cons_succ, Go.IntWalk.iteOmega, Go.IntWalk.toNatUp, hlt, g, h1, h5, w, he, wi]
      refine IWp.seq ?_
      refine IWp.block ?_
      refine IWp.seq ?_
      refine IWp.read [1, 5, 6, 7, 32] follows (by kernel_rfl) ?_
      simp [go_sem, -getElem?_pos, -List.map_take, -List.map_drop, List.getElem?_cons_zero, List.getElem?_cons_succ, Go.IntWalk.iteOmega, Go.IntWalk.toNatUp, hlt, g, h1, h5, w, he, wi]
      refine IWp.cond ?_
      simp [go_sem, -getElem?_pos, -List.map_take, -List.map_drop, List.getElem?_cons_zero, List.getElem?_cons_succ, Go.IntWalk.iteOmega, Go.IntWalk.toNatUp, hlt, g, h1, h5, w, he, wi]
      refine IWp.trim [1, 5, 6, 7] (IWp.skip ?_)
      simp [go_sem, -getElem?_pos, -List.map_take, -List.map_drop, List.getElem?_cons_zero, List.getElem?_cons_succ, Go.IntWalk.iteOmega, Go.IntWalk.toNatUp, hlt, g, h1, h5, w, he, wi]
      refine IWp.run [1, 5, 6, 7] ?_
      simp [go_sem, -getElem?_pos, -List.map_take, -List.map_drop, List.getElem?_cons_zero, List.getElem?_cons_succ, Go.IntWalk.iteOmega, Go.IntWalk.toNatUp, hlt, g, h1, h5, w, he, wi]
      exact ⟨L.length - (i + 1), by omega, i + 1, rfl, by omega, by omega, fun h => (hst.1 h).elim hno he⟩
  · rw [List.take_of_length_le (by omega)] at hno
    rw [decide_eq_false hno]
    refine IWp.seq ?_
    refine IWp.seq ?_
    refine IWp.run [1, 5, 6, 7, 22] ?_
    simp [go_sem, -getElem?_pos, -List.map_take, -List.map_drop, List.getElem?_cons_zero, List.getElem?_cons_succ, Go.IntWalk.iteOmega, Go.IntWalk.toNatUp, hlt]
    refine IWp.cond ?_
    simp [go_sem, -getElem?_pos, -List.map_take, -List.map_drop, List.getElem?_cons_zero, List.getElem?_cons_succ, Go.IntWalk.iteOmega, Go.IntWalk.toNatUp, hlt]
    refine IWp.trim [] (IWp.exit ?_)
    simp [go_sem, -getElem?_pos, -List.map_take, -List.map_drop, List.getElem?_cons_zero, List.getElem?_cons_succ, Go.IntWalk.iteOmega, Go.IntWalk.toNatUp, hlt]
    refine IWp.seq ?_
    refine IWp.run [4] ?_
    simp [go_sem, -getElem?_pos, -List.map_take, -List.map_drop, List.getElem?_cons_zero, List.getElem?_cons_succ, Go.IntWalk.iteOmega, Go.IntWalk.toNatUp, hlt]
    refine IWp.ret ?_
    simp [go_sem, -getElem?_pos, -List.map_take, -List.map_drop, List.getElem?_cons_zero, List.getElem?_cons_succ, Go.IntWalk.iteOmega, Go.IntWalk.toNatUp, hlt, Try.results14]
    try exact .same _

theorem pat_byte (p : Int) (i : Nat) (h : (i : Int) < perS p) : byteS (patS p) i = if (i : Int) ∈ pulL p then 49 else 48 := by
  unfold perS at h
  unfold patS pulL
  split at h
  · have : ∀ i : Nat, i < 32 → byteS pat3 i = if (i : Int) ∈ ([0, 2, 4, 7, 9, 16, 18, 20, 23, 25] : List Int) then 49 else 48 := by decide +kernel
    rename_i e
    rw [if_pos e, if_pos e]
    exact this i (by omega)
  split at h
  · have : ∀ i : Nat, i < 24 → byteS pat2 i = if (i : Int) ∈ ([0, 3, 6] : List Int) then 49 else 48 := by decide +kernel
    rename_i e0 e
    rw [if_neg e0, if_pos e, if_neg e0, if_pos e]
    exact this i (by omega)
  split at h
  · have : ∀ i : Nat, i < 40 → byteS pat1 i = if (i : Int) ∈ ([0, 4] : List Int) then 49 else 48 := by decide +kernel
    rename_i e0 e1 e
    rw [if_neg e0, if_neg e1, if_pos e, if_neg e0, if_neg e1, if_pos e]
    exact this i (by omega)
  · omega

theorem burstPatterns_law (H : Heap) (p : Int) (w : 0 ≤ p ∧ p < 256) : IBody Try.prog 10 [.int .u8 p] H fun v _ => v = .bool true := by
  obtain ⟨q, hq⟩ : ∃ q, q = p % 5 := ⟨_, rfl⟩
  have hm : p.tmod 5 = q := by rw [hq]; exact Int.tmod_eq_emod_of_nonneg w.1
  have wq := IntWalk.u8_in q (by omega)
  have c1 := fun K => refPul K q
  simp only [ints] at c1
  have hp := perS_in q
  have hsz := patS_size q
  have hl := pulL_len q
  have hwp := IntWalk.i64_in (perS q) (by omega)
  refine IBody.of Try.func10 rfl (by rw [Try.ntmps10]; simp) ?_
  rw [Try.ntmps10]
  refine IWp.seq ?_
  refine IWp.run [0] ?_
  simp [go_sem, -getElem?_pos, -List.map_take, -List.map_drop, List.getElem?_cons_zero, List.getElem?_cons_succ, Go.IntWalk.iteOmega, Go.IntWalk.toNatUp, hm, wq, hsz, hl, hwp]
  refine IWp.seq ?_
  refine IWp.run [0] ?_
  simp [go_sem, -getElem?_pos, -List.map_take, -List.map_drop, List.getElem?_cons_zero, List.getElem?_cons_succ, Go.IntWalk.iteOmega, Go.IntWalk.toNatUp, hm, wq, hsz, hl, hwp]
  refine IWp.seq ?_
  refine IWp.run [0, 3, 4] ?_
  simp [go_sem, -getElem?_pos, -List.map_take, -List.map_drop, List.getElem?_cons_zero, List.getElem?_cons_succ, Go.IntWalk.iteOmega, Go.IntWalk.toNatUp, hm, wq, hsz, hl, hwp]
  refine ICalls.then (c1 _) ?_
  try simp [go_sem, -getElem?_pos, -List.map_take, -List.map_drop, List.getElem?_cons_zero, List.getElem?_cons_succ, Go.IntWalk.iteOmega, Go.IntWalk.toNatUp, hm, wq, hsz, hl, hwp]
  refine IWp.seq ?_
  refine IWp.run [0, 3, 4, 5] ?_
  simp [go_sem, -getElem?_pos, -List.map_take, -List.map_drop, List.getElem?_cons_zero, List.getElem?_cons_succ, Go.IntWalk.iteOmega, Go.IntWalk.toNatUp, hm, wq, hsz, hl, hwp]
  refine ICalls.then (pattern _ q) ?_
  try simp [go_sem, -getElem?_pos, -List.map_take, -List.map_drop, List.getElem?_cons_zero, List.getElem?_cons_succ, Go.IntWalk.iteOmega, Go.IntWalk.toNatUp, hm, wq, hsz, hl, hwp]
  refine IWp.seq ?_
  refine IWp.seq ?_
  refine IWp.run [0, 5, 32] ?_
  simp [go_sem, -getElem?_pos, -List.map_take, -List.map_drop, List.getElem?_cons_zero, List.getElem?_cons_succ, Go.IntWalk.iteOmega, Go.IntWalk.toNatUp, hm, wq, hsz, hl, hwp]
  refine ICalls.then (period _ q) ?_
  try simp [go_sem, -getElem?_pos, -List.map_take, -List.map_drop, List.getElem?_cons_zero, List.getElem?_cons_succ, Go.IntWalk.iteOmega, Go.IntWalk.toNatUp, hm, wq, hsz, hl, hwp]
  refine ICalls.then (pulses _ q) ?_
  try simp [go_sem, -getElem?_pos, -List.map_take, -List.map_drop, List.getElem?_cons_zero, List.getElem?_cons_succ, Go.IntWalk.iteOmega, Go.IntWalk.toNatUp, hm, wq, hsz, hl, hwp]
  refine IWp.cond ?_
  simp [go_sem, -getElem?_pos, -List.map_take, -List.map_drop, List.getElem?_cons_zero, List.getElem?_cons_succ, Go.IntWalk.iteOmega, Go.IntWalk.toNatUp, hm, wq, hsz, hl, hwp]
  refine IWp.trim [0, 5] (IWp.skip ?_)
  simp [go_sem, -getElem?_pos, -List.map_take, -List.map_drop, List.getElem?_cons_zero, List.getElem?_cons_succ, Go.IntWalk.iteOmega, Go.IntWalk.toNatUp, hm, wq, hsz, hl, hwp]
  refine IWp.seq ?_
  refine IWp.seq ?_
  refine IWp.run [0, 5, 6] ?_
  simp [go_sem, -getElem?_pos, -List.map_take, -List.map_drop, List.getElem?_cons_zero, List.getElem?_cons_succ, Go.IntWalk.iteOmega, Go.IntWalk.toNatUp, hm, wq, hsz, hl, hwp]
  refine IWp.block ?_
  -- LOOP live [0, 5, 6]
  refine IWp.loop (fun k e K => ∃ i : Nat, k = (patS q).size - i ∧ i ≤ (patS q).size ∧ e = [(0, .int .u8 q), (5, .string (patS q)), (6, .int .i64 (i : Int))]) (patS q).size ⟨0, rfl, Nat.zero_le _, by simp [go_sem]⟩ ?_
  rintro k e K ⟨i, rfl, hi, rfl⟩
  have wi := IntWalk.i64_in ((i : Int) + 1) (by omega)
  by_cases hlt : i < (patS q).size
  · obtain ⟨x, hx1, hx2⟩ := byteS_get (patS q) i hlt
    have hb := pat_byte q i (by omega)
    rw [hx2] at hb
    have c2 := fun K => refSound K q i
    have hlt2 : (i : Int) < perS q := by omega
    have hsr : soundR q i = decide ((i : Int) ∈ pulL q) := by
      unfold soundR
      rw [decide_eq_true (show 0 < perS q by omega), decide_eq_true (show (0 : Int) ≤ (i : Int) by omega), Int.emod_eq_of_lt (by omega) (by omega)]
      rfl
    rw [hsr] at c2
    by_cases hm : (i : Int) ∈ pulL q
    · rw [if_pos hm] at hb
      rw [decide_eq_true hm] at c2
      refine IWp.seq ?_
      refine IWp.seq ?_
      refine IWp.run [0, 5, 6, 36] ?_
      simp [go_sem, -getElem?_pos, -List.map_take, -List.map_drop, List.getElem?_cons_zero, List.getElem?_cons_succ, Go.IntWalk.iteOmega, Go.IntWalk.toNatUp, hlt, hsz, hlt2, hx1, hb, wi]
      refine IWp.cond ?_
      simp [go_sem, -getElem?_pos, -List.map_take, -List.map_drop, List.getElem?_cons_zero, List.getElem?_cons_succ, Go.IntWalk.iteOmega, Go.IntWalk.toNatUp, hlt, hsz, hlt2, hx1, hb, wi]
      refine IWp.trim [0, 5, 6] (IWp.skip ?_)
      simp [go_sem, -getElem?_pos, -List.map_take, -List.map_drop, List.getElem?_cons_zero, List.getElem?_cons_succ, Go.IntWalk.iteOmega, Go.IntWalk.toNatUp, hlt, hsz, hlt2, hx1, hb, wi]
      refine IWp.seq ?_
      refine IWp.block ?_
      refine IWp.seq ?_
      refine IWp.draw [0, 5, 6, 58] [] (.val 0 (.val 1 (.val 2 (.val 3 (.val 4 (.val 5 (.eff 6 (.val 7 (.val 8 (.val 9 (.val 10 (.val 11 (.val 12 (.val 13 (.val 14 (.val 15 (.val 16 (.val 17 (.val 18 (.val 19 .done))))))))))))) .done))))))) follows (by kernel_rfl) ?_
      simp [go_sem, -getElem?_pos, -List.map_take, -List.map_drop, List.getElem?_cons_zero, List.getElem?_cons_succ, Go.IntWalk.iteOmega, Go.IntWalk.toNatUp, hlt, hsz, hlt2, hx1, hb, wi]
      refine ICalls.then (c2 _) ?_
      try simp [go_sem, -getElem?_pos, -List.map_take, -List.map_drop, List.getElem?_cons_zero, List.getElem?_cons_succ, Go.IntWalk.iteOmega, Go.IntWalk.toNatUp, hlt, hsz, hlt2, hx1, hb, wi]
      refine IWp.cond ?_
      simp [go_sem, -getElem?_pos, -List.map_take, -List.map_drop, List.getElem?_cons_zero, List.getElem?_cons_succ, Go.IntWalk.iteOmega, Go.IntWalk.toNatUp, hlt, hsz, hlt2, hx1, hb, wi]
      refine IWp.trim [0, 5, 6] (IWp.skip ?_)
      simp [go_sem, -getElem?_pos, -List.map_take, -List.map_drop, List.getElem?_cons_zero, List.getElem?_cons_succ, Go.IntWalk.iteOmega, Go.IntWalk.toNatUp, hlt, hsz, hlt2, hx1, hb, wi]
      refine IWp.run [0, 5, 6] ?_
      simp [go_sem, -getElem?_pos, -List.map_take, -List.map_drop, List.getElem?_cons_zero, List.getElem?_cons_succ, Go.IntWalk.iteOmega, Go.IntWalk.toNatUp, hlt, hsz, hlt2, hx1, hb, wi]
      exact ⟨(patS q).size - (i + 1), by omega, i + 1, rfl, by omega, by omega⟩
    · rw [if_neg hm] at hb
      rw [decide_eq_false hm] at c2
      refine IWp.seq ?_
      refine IWp.seq ?_
      refine IWp.run [0, 5, 6, 36] ?_
      simp [go_sem, -getElem?_pos, -List.map_take, -List.map_drop, List.getElem?_cons_zero, List.getElem?_cons_succ, Go.IntWalk.iteOmega, Go.IntWalk.toNatUp, hlt, hsz, hlt2, hx1, hb, wi]
      refine IWp.cond ?_
      simp [go_sem, -getElem?_pos, -List.map_take, -List.map_drop, List.getElem?_cons_zero, List.getElem?_cons_succ, Go.IntWalk.iteOmega, Go.IntWalk.toNatUp, hlt, hsz, hlt2, hx1, hb, wi]
      refine IWp.trim [0, 5, 6] (IWp.skip ?_)
      simp [go_sem, -getElem?_pos, -List.map_take, -List.map_drop, List.getElem?_cons_zero, List.getElem?_cons_succ, Go.IntWalk.iteOmega, Go.IntWalk.toNatUp, hlt, hsz, hlt2, hx1, hb, wi]
      refine IWp.seq ?_
      refine IWp.block ?_
      refine IWp.seq ?_
      refine IWp.draw [0, 5, 6, 58] [] (.val 0 (.val 1 (.val 2 (.val 3 (.val 4 (.val 5 (.eff 6 (.val 7 (.val 8 (.val 9 (.val 10 (.val 11 (.val 12 (.val 13 (.val 14 (.val 15 (.val 16 (.val 17 (.val 18 (.val 19 .done))))))))))))) .done))))))) follows (by kernel_rfl) ?_
      simp [go_sem, -getElem?_pos, -List.map_take, -List.map_drop, List.getElem?_cons_zero, List.getElem?_cons_succ, Go.IntWalk.iteOmega, Go.IntWalk.toNatUp, hlt, hsz, hlt2, hx1, hb, wi]
      refine ICalls.then (c2 _) ?_
      try simp [go_sem, -getElem?_pos, -List.map_take, -List.map_drop, List.getElem?_cons_zero, List.getElem?_cons_succ, Go.IntWalk.iteOmega, Go.IntWalk.toNatUp, hlt, hsz, hlt2, hx1, hb, wi]
      refine IWp.cond ?_
      simp [go_sem, -getElem?_pos, -List.map_take, -List.map_drop, List.getElem?_cons_zero, List.getElem?_cons_succ, Go.IntWalk.iteOmega, Go.IntWalk.toNatUp, hlt, hsz, hlt2, hx1, hb, wi]
      refine IWp.trim [0, 5, 6] (IWp.skip ?_)
      simp [go_sem, -getElem?_pos, -List.map_take, -List.map_drop, List.getElem?_cons_zero, List.getElem?_cons_succ, Go.IntWalk.iteOmega, Go.IntWalk.toNatUp, hlt, hsz, hlt2, hx1, hb, wi]
      refine IWp.run [0, 5, 6] ?_
      simp [go_sem, -getElem?_pos, -List.map_take, -List.map_drop, List.getElem?_cons_zero, List.getElem?_cons_succ, Go.IntWalk.iteOmega, Go.IntWalk.toNatUp, hlt, hsz, hlt2, hx1, hb, wi]
      exact ⟨(patS q).size - (i + 1), by omega, i + 1, rfl, by omega, by omega⟩
  · skip
    refine IWp.seq ?_
    refine IWp.seq ?_
    refine IWp.run [0, 5, 6, 36] ?_
    simp [go_sem, -getElem?_pos, -List.map_take, -List.map_drop, List.getElem?_cons_zero, List.getElem?_cons_succ, Go.IntWalk.iteOmega, Go.IntWalk.toNatUp, hlt, hsz, show ¬ (i : Int) < perS q by omega]
    refine IWp.cond ?_
    simp [go_sem, -getElem?_pos, -List.map_take, -List.map_drop, List.getElem?_cons_zero, List.getElem?_cons_succ, Go.IntWalk.iteOmega, Go.IntWalk.toNatUp, hlt, hsz, show ¬ (i : Int) < perS q by omega]
    refine IWp.trim [] (IWp.exit ?_)
    simp [go_sem, -getElem?_pos, -List.map_take, -List.map_drop, List.getElem?_cons_zero, List.getElem?_cons_succ, Go.IntWalk.iteOmega, Go.IntWalk.toNatUp, hlt, hsz, show ¬ (i : Int) < perS q by omega]
    refine IWp.seq ?_
    refine IWp.run [2] ?_
    simp [go_sem, -getElem?_pos, -List.map_take, -List.map_drop, List.getElem?_cons_zero, List.getElem?_cons_succ, Go.IntWalk.iteOmega, Go.IntWalk.toNatUp, hlt, hsz, show ¬ (i : Int) < perS q by omega]
    refine ICalls.then (beats _) ?_
    try simp [go_sem, -getElem?_pos, -List.map_take, -List.map_drop, List.getElem?_cons_zero, List.getElem?_cons_succ, Go.IntWalk.iteOmega, Go.IntWalk.toNatUp, hlt, hsz, show ¬ (i : Int) < perS q by omega]
    refine IWp.ret ?_
    simp [go_sem, -getElem?_pos, -List.map_take, -List.map_drop, List.getElem?_cons_zero, List.getElem?_cons_succ, Go.IntWalk.iteOmega, Go.IntWalk.toNatUp, hlt, hsz, show ¬ (i : Int) < perS q by omega, Try.results10]

end Go.Proofs.Ytjhmajcakhdcnaa.I
