/- Clocks: sums, what has gone by; lists that are alike. No condition. -/
import Derived.Test.YtdimnoeldnfikaaGWheelB
namespace Go.Proofs.Ytdimnoeldnfikaa.I
open Go Go.RowKit
set_option linter.unusedVariables false
set_option linter.unusedSimpArgs false

theorem refHeldC (H : Heap) (t : Int) : ICalls Try.prog 48 [.int .i64 t] H fun v H' => v = .int .i64 (heldS t) ∧ H' = H := by
  refine ICalls.ans (by simp [go_sem]) fun H => IBody.calls (by kernel_rfl) ?_
  by_cases h1 : t < 0
  · rw [show heldS t = 0 by unfold heldS; omega]
    refine IBody.of Try.func48 rfl (by rw [Try.ntmps48]; simp) ?_
    rw [Try.ntmps48]
    refine IWp.seq ?_
    refine IWp.run [0] ?_
    simp [go_sem, -getElem?_pos, -List.map_take, -List.map_drop, List.getElem?_cons_zero, List.getElem?_cons_succ, Go.IntWalk.iteOmega, Go.IntWalk.toNatUp, h1]
    refine IWp.seq ?_
    refine IWp.seq ?_
    refine IWp.run [0, 4] ?_
    simp [go_sem, -getElem?_pos, -List.map_take, -List.map_drop, List.getElem?_cons_zero, List.getElem?_cons_succ, Go.IntWalk.iteOmega, Go.IntWalk.toNatUp, h1]
    refine IWp.cond ?_
    simp [go_sem, -getElem?_pos, -List.map_take, -List.map_drop, List.getElem?_cons_zero, List.getElem?_cons_succ, Go.IntWalk.iteOmega, Go.IntWalk.toNatUp, h1]
    refine IWp.seq ?_
    refine IWp.run [2] ?_
    simp [go_sem, -getElem?_pos, -List.map_take, -List.map_drop, List.getElem?_cons_zero, List.getElem?_cons_succ, Go.IntWalk.iteOmega, Go.IntWalk.toNatUp, h1]
    refine IWp.ret ?_
    simp [go_sem, -getElem?_pos, -List.map_take, -List.map_drop, List.getElem?_cons_zero, List.getElem?_cons_succ, Go.IntWalk.iteOmega, Go.IntWalk.toNatUp, h1, Try.results48]
    try exact .same _
  · by_cases h2 : t > 1099511627776
    · rw [show heldS t = 1099511627776 by unfold heldS; omega]
      refine IBody.of Try.func48 rfl (by rw [Try.ntmps48]; simp) ?_
      rw [Try.ntmps48]
      refine IWp.seq ?_
      refine IWp.run [0] ?_
      simp [go_sem, -getElem?_pos, -List.map_take, -List.map_drop, List.getElem?_cons_zero, List.getElem?_cons_succ, Go.IntWalk.iteOmega, Go.IntWalk.toNatUp, h1, h2]
      refine IWp.seq ?_
      refine IWp.seq ?_
      refine IWp.run [0, 4] ?_
      simp [go_sem, -getElem?_pos, -List.map_take, -List.map_drop, List.getElem?_cons_zero, List.getElem?_cons_succ, Go.IntWalk.iteOmega, Go.IntWalk.toNatUp, h1, h2]
      refine IWp.cond ?_
      simp [go_sem, -getElem?_pos, -List.map_take, -List.map_drop, List.getElem?_cons_zero, List.getElem?_cons_succ, Go.IntWalk.iteOmega, Go.IntWalk.toNatUp, h1, h2]
      refine IWp.trim [0] (IWp.skip ?_)
      simp [go_sem, -getElem?_pos, -List.map_take, -List.map_drop, List.getElem?_cons_zero, List.getElem?_cons_succ, Go.IntWalk.iteOmega, Go.IntWalk.toNatUp, h1, h2]
      refine IWp.seq ?_
      refine IWp.seq ?_
      refine IWp.run [0, 6] ?_
      simp [go_sem, -getElem?_pos, -List.map_take, -List.map_drop, List.getElem?_cons_zero, List.getElem?_cons_succ, Go.IntWalk.iteOmega, Go.IntWalk.toNatUp, h1, h2]
      refine IWp.cond ?_
      simp [go_sem, -getElem?_pos, -List.map_take, -List.map_drop, List.getElem?_cons_zero, List.getElem?_cons_succ, Go.IntWalk.iteOmega, Go.IntWalk.toNatUp, h1, h2]
      refine IWp.seq ?_
      refine IWp.run [2] ?_
      simp [go_sem, -getElem?_pos, -List.map_take, -List.map_drop, List.getElem?_cons_zero, List.getElem?_cons_succ, Go.IntWalk.iteOmega, Go.IntWalk.toNatUp, h1, h2]
      refine IWp.ret ?_
      simp [go_sem, -getElem?_pos, -List.map_take, -List.map_drop, List.getElem?_cons_zero, List.getElem?_cons_succ, Go.IntWalk.iteOmega, Go.IntWalk.toNatUp, h1, h2, Try.results48]
      try exact .same _
    · rw [show heldS t = t by unfold heldS; omega]
      refine IBody.of Try.func48 rfl (by rw [Try.ntmps48]; simp) ?_
      rw [Try.ntmps48]
      refine IWp.seq ?_
      refine IWp.run [0] ?_
      simp [go_sem, -getElem?_pos, -List.map_take, -List.map_drop, List.getElem?_cons_zero, List.getElem?_cons_succ, Go.IntWalk.iteOmega, Go.IntWalk.toNatUp, h1, h2]
      refine IWp.seq ?_
      refine IWp.seq ?_
      refine IWp.run [0, 4] ?_
      simp [go_sem, -getElem?_pos, -List.map_take, -List.map_drop, List.getElem?_cons_zero, List.getElem?_cons_succ, Go.IntWalk.iteOmega, Go.IntWalk.toNatUp, h1, h2]
      refine IWp.cond ?_
      simp [go_sem, -getElem?_pos, -List.map_take, -List.map_drop, List.getElem?_cons_zero, List.getElem?_cons_succ, Go.IntWalk.iteOmega, Go.IntWalk.toNatUp, h1, h2]
      refine IWp.trim [0] (IWp.skip ?_)
      simp [go_sem, -getElem?_pos, -List.map_take, -List.map_drop, List.getElem?_cons_zero, List.getElem?_cons_succ, Go.IntWalk.iteOmega, Go.IntWalk.toNatUp, h1, h2]
      refine IWp.seq ?_
      refine IWp.seq ?_
      refine IWp.run [0, 6] ?_
      simp [go_sem, -getElem?_pos, -List.map_take, -List.map_drop, List.getElem?_cons_zero, List.getElem?_cons_succ, Go.IntWalk.iteOmega, Go.IntWalk.toNatUp, h1, h2]
      refine IWp.cond ?_
      simp [go_sem, -getElem?_pos, -List.map_take, -List.map_drop, List.getElem?_cons_zero, List.getElem?_cons_succ, Go.IntWalk.iteOmega, Go.IntWalk.toNatUp, h1, h2]
      refine IWp.trim [0] (IWp.skip ?_)
      simp [go_sem, -getElem?_pos, -List.map_take, -List.map_drop, List.getElem?_cons_zero, List.getElem?_cons_succ, Go.IntWalk.iteOmega, Go.IntWalk.toNatUp, h1, h2]
      refine IWp.seq ?_
      refine IWp.run [2] ?_
      simp [go_sem, -getElem?_pos, -List.map_take, -List.map_drop, List.getElem?_cons_zero, List.getElem?_cons_succ, Go.IntWalk.iteOmega, Go.IntWalk.toNatUp, h1, h2]
      refine IWp.ret ?_
      simp [go_sem, -getElem?_pos, -List.map_take, -List.map_drop, List.getElem?_cons_zero, List.getElem?_cons_succ, Go.IntWalk.iteOmega, Go.IntWalk.toNatUp, h1, h2, Try.results48]
      try exact .same _

theorem tdiv2 (a : Int) : (0 ≤ a → a - 1 ≤ 2 * a.tdiv 2 ∧ 2 * a.tdiv 2 ≤ a) ∧ (a < 0 → a ≤ 2 * a.tdiv 2 ∧ 2 * a.tdiv 2 ≤ a + 1) := by
  constructor
  · intro h
    rw [Int.tdiv_eq_ediv_of_nonneg h]; omega
  · intro h
    have e : (-a).tdiv 2 = -(a.tdiv 2) := Int.neg_tdiv a 2
    rw [Int.tdiv_eq_ediv_of_nonneg (by omega)] at e
    omega

theorem wrap64 (x : Int) (h : -18446744073709551616 ≤ x ∧ x < 18446744073709551616) : IntKind.i64.wrap x = if x < -9223372036854775808 then x + 18446744073709551616 else if 9223372036854775808 ≤ x then x - 18446744073709551616 else x := by
  simp [IntKind.wrap, IntKind.bits, IntKind.signed]
  split <;> split <;> omega

set_option maxRecDepth 100000 in
theorem refSinceC (H : Heap) (now t : Int) (w1 : -9223372036854775808 ≤ now ∧ now < 9223372036854775808) (w2 : -9223372036854775808 ≤ t ∧ t < 9223372036854775808) : ICalls Try.prog 23 [.int .i64 now, .int .i64 t] H fun v H' => v = .int .i64 (sinceS now t) ∧ H' = H := by
  refine ICalls.ans (by simp [go_sem]) fun H => IBody.calls (by kernel_rfl) ?_
  have t1 := tdiv2 now
  have t2 := tdiv2 t
  have hw := wrap64 (now - t) (by omega)
  unfold sinceS
  have i1 := IntWalk.i64_in (now.tdiv 2) (by omega)
  have i2 := IntWalk.i64_in (t.tdiv 2) (by omega)
  have i3 := IntWalk.i64_in (now.tdiv 2 - t.tdiv 2) (by omega)
  by_cases h1 : now.tdiv 2 - t.tdiv 2 > 1099511627776
  · have e : (if now ≤ t then (0 : Int) else if IntKind.i64.wrap (now - t) < 0 then 1099511627776 else heldS (IntKind.i64.wrap (now - t))) = 1099511627776 := by
      rw [hw]; unfold heldS
      rw [if_neg (by omega)]
      split <;> split <;> (try split) <;> omega
    rw [e]
    refine IBody.of Try.func23 rfl (by rw [Try.ntmps23]; simp) ?_
    rw [Try.ntmps23]
    refine IWp.seq ?_
    refine IWp.run [0, 1] ?_
    simp [go_sem, -getElem?_pos, -List.map_take, -List.map_drop, List.getElem?_cons_zero, List.getElem?_cons_succ, Go.IntWalk.iteOmega, Go.IntWalk.toNatUp, h1, i1, i2, i3]
    refine IWp.seq ?_
    refine IWp.run [0, 1, 5] ?_
    simp [go_sem, -getElem?_pos, -List.map_take, -List.map_drop, List.getElem?_cons_zero, List.getElem?_cons_succ, Go.IntWalk.iteOmega, Go.IntWalk.toNatUp, h1, i1, i2, i3]
    refine IWp.seq ?_
    refine IWp.seq ?_
    refine IWp.run [0, 1, 5, 12] ?_
    simp [go_sem, -getElem?_pos, -List.map_take, -List.map_drop, List.getElem?_cons_zero, List.getElem?_cons_succ, Go.IntWalk.iteOmega, Go.IntWalk.toNatUp, h1, i1, i2, i3]
    refine IWp.cond ?_
    simp [go_sem, -getElem?_pos, -List.map_take, -List.map_drop, List.getElem?_cons_zero, List.getElem?_cons_succ, Go.IntWalk.iteOmega, Go.IntWalk.toNatUp, h1, i1, i2, i3]
    refine IWp.seq ?_
    refine IWp.run [4] ?_
    simp [go_sem, -getElem?_pos, -List.map_take, -List.map_drop, List.getElem?_cons_zero, List.getElem?_cons_succ, Go.IntWalk.iteOmega, Go.IntWalk.toNatUp, h1, i1, i2, i3]
    refine IWp.ret ?_
    simp [go_sem, -getElem?_pos, -List.map_take, -List.map_drop, List.getElem?_cons_zero, List.getElem?_cons_succ, Go.IntWalk.iteOmega, Go.IntWalk.toNatUp, h1, i1, i2, i3, Try.results23]
    try exact .same _
  · by_cases h2 : now.tdiv 2 - t.tdiv 2 < -1099511627776
    · have e : (if now ≤ t then (0 : Int) else if IntKind.i64.wrap (now - t) < 0 then 1099511627776 else heldS (IntKind.i64.wrap (now - t))) = 0 := by
        rw [if_pos (by omega)]
      rw [e]
      refine IBody.of Try.func23 rfl (by rw [Try.ntmps23]; simp) ?_
      rw [Try.ntmps23]
      refine IWp.seq ?_
      refine IWp.run [0, 1] ?_
      simp [go_sem, -getElem?_pos, -List.map_take, -List.map_drop, List.getElem?_cons_zero, List.getElem?_cons_succ, Go.IntWalk.iteOmega, Go.IntWalk.toNatUp, h1, h2, i1, i2, i3]
      refine IWp.seq ?_
      refine IWp.run [0, 1, 5] ?_
      simp [go_sem, -getElem?_pos, -List.map_take, -List.map_drop, List.getElem?_cons_zero, List.getElem?_cons_succ, Go.IntWalk.iteOmega, Go.IntWalk.toNatUp, h1, h2, i1, i2, i3]
      refine IWp.seq ?_
      refine IWp.seq ?_
      refine IWp.run [0, 1, 5, 12] ?_
      simp [go_sem, -getElem?_pos, -List.map_take, -List.map_drop, List.getElem?_cons_zero, List.getElem?_cons_succ, Go.IntWalk.iteOmega, Go.IntWalk.toNatUp, h1, h2, i1, i2, i3]
      refine IWp.cond ?_
      simp [go_sem, -getElem?_pos, -List.map_take, -List.map_drop, List.getElem?_cons_zero, List.getElem?_cons_succ, Go.IntWalk.iteOmega, Go.IntWalk.toNatUp, h1, h2, i1, i2, i3]
      refine IWp.trim [0, 1, 5] (IWp.skip ?_)
      simp [go_sem, -getElem?_pos, -List.map_take, -List.map_drop, List.getElem?_cons_zero, List.getElem?_cons_succ, Go.IntWalk.iteOmega, Go.IntWalk.toNatUp, h1, h2, i1, i2, i3]
      refine IWp.seq ?_
      refine IWp.seq ?_
      refine IWp.run [0, 1, 14] ?_
      simp [go_sem, -getElem?_pos, -List.map_take, -List.map_drop, List.getElem?_cons_zero, List.getElem?_cons_succ, Go.IntWalk.iteOmega, Go.IntWalk.toNatUp, h1, h2, i1, i2, i3]
      refine IWp.cond ?_
      simp [go_sem, -getElem?_pos, -List.map_take, -List.map_drop, List.getElem?_cons_zero, List.getElem?_cons_succ, Go.IntWalk.iteOmega, Go.IntWalk.toNatUp, h1, h2, i1, i2, i3]
      refine IWp.seq ?_
      refine IWp.run [4] ?_
      simp [go_sem, -getElem?_pos, -List.map_take, -List.map_drop, List.getElem?_cons_zero, List.getElem?_cons_succ, Go.IntWalk.iteOmega, Go.IntWalk.toNatUp, h1, h2, i1, i2, i3]
      refine IWp.ret ?_
      simp [go_sem, -getElem?_pos, -List.map_take, -List.map_drop, List.getElem?_cons_zero, List.getElem?_cons_succ, Go.IntWalk.iteOmega, Go.IntWalk.toNatUp, h1, h2, i1, i2, i3, Try.results23]
      try exact .same _
    · have e : (if now ≤ t then (0 : Int) else if IntKind.i64.wrap (now - t) < 0 then 1099511627776 else heldS (IntKind.i64.wrap (now - t))) = heldS (IntKind.i64.wrap (now - t)) := by
        rw [hw]; unfold heldS
        split <;> split <;> (try split) <;> (try split) <;> omega
      rw [e]
      have c := fun K => refHeldC K (IntKind.i64.wrap (now - t))
      refine IBody.of Try.func23 rfl (by rw [Try.ntmps23]; simp) ?_
      rw [Try.ntmps23]
      refine IWp.seq ?_
      refine IWp.run [0, 1] ?_
      simp [go_sem, -getElem?_pos, -List.map_take, -List.map_drop, List.getElem?_cons_zero, List.getElem?_cons_succ, Go.IntWalk.iteOmega, Go.IntWalk.toNatUp, h1, h2, i1, i2, i3]
      refine IWp.seq ?_
      refine IWp.run [0, 1, 5] ?_
      simp [go_sem, -getElem?_pos, -List.map_take, -List.map_drop, List.getElem?_cons_zero, List.getElem?_cons_succ, Go.IntWalk.iteOmega, Go.IntWalk.toNatUp, h1, h2, i1, i2, i3]
      refine IWp.seq ?_
      refine IWp.seq ?_
      refine IWp.run [0, 1, 5, 12] ?_
      simp [go_sem, -getElem?_pos, -List.map_take, -List.map_drop, List.getElem?_cons_zero, List.getElem?_cons_succ, Go.IntWalk.iteOmega, Go.IntWalk.toNatUp, h1, h2, i1, i2, i3]
      refine IWp.cond ?_
      simp [go_sem, -getElem?_pos, -List.map_take, -List.map_drop, List.getElem?_cons_zero, List.getElem?_cons_succ, Go.IntWalk.iteOmega, Go.IntWalk.toNatUp, h1, h2, i1, i2, i3]
      refine IWp.trim [0, 1, 5] (IWp.skip ?_)
      simp [go_sem, -getElem?_pos, -List.map_take, -List.map_drop, List.getElem?_cons_zero, List.getElem?_cons_succ, Go.IntWalk.iteOmega, Go.IntWalk.toNatUp, h1, h2, i1, i2, i3]
      refine IWp.seq ?_
      refine IWp.seq ?_
      refine IWp.run [0, 1, 14] ?_
      simp [go_sem, -getElem?_pos, -List.map_take, -List.map_drop, List.getElem?_cons_zero, List.getElem?_cons_succ, Go.IntWalk.iteOmega, Go.IntWalk.toNatUp, h1, h2, i1, i2, i3]
      refine IWp.cond ?_
      simp [go_sem, -getElem?_pos, -List.map_take, -List.map_drop, List.getElem?_cons_zero, List.getElem?_cons_succ, Go.IntWalk.iteOmega, Go.IntWalk.toNatUp, h1, h2, i1, i2, i3]
      refine IWp.trim [0, 1] (IWp.skip ?_)
      simp [go_sem, -getElem?_pos, -List.map_take, -List.map_drop, List.getElem?_cons_zero, List.getElem?_cons_succ, Go.IntWalk.iteOmega, Go.IntWalk.toNatUp, h1, h2, i1, i2, i3]
      refine IWp.seq ?_
      refine IWp.run [4] ?_
      simp [go_sem, -getElem?_pos, -List.map_take, -List.map_drop, List.getElem?_cons_zero, List.getElem?_cons_succ, Go.IntWalk.iteOmega, Go.IntWalk.toNatUp, h1, h2, i1, i2, i3]
      refine ICalls.then (c _) ?_
      try simp [go_sem, -getElem?_pos, -List.map_take, -List.map_drop, List.getElem?_cons_zero, List.getElem?_cons_succ, Go.IntWalk.iteOmega, Go.IntWalk.toNatUp, h1, h2, i1, i2, i3]
      refine IWp.ret ?_
      simp [go_sem, -getElem?_pos, -List.map_take, -List.map_drop, List.getElem?_cons_zero, List.getElem?_cons_succ, Go.IntWalk.iteOmega, Go.IntWalk.toNatUp, h1, h2, i1, i2, i3, Try.results23]
      try exact .same _

def addS (t d : Int) : Int := if 0 < t ∧ 0 < d ∧ IntKind.i64.wrap (t + d) < 0 then 1099511627776 else if t < 0 ∧ d < 0 ∧ 0 ≤ IntKind.i64.wrap (t + d) then 0 else heldS (IntKind.i64.wrap (t + d))
theorem addC (H : Heap) (t d : Int) : ICalls Try.prog 20 [.int .i64 t, .int .i64 d] H fun v H' => v = .int .i64 (addS t d) ∧ H' = H := by
  refine ICalls.ans (by simp [go_sem]) fun H => IBody.calls (by kernel_rfl) ?_
  have ch := fun K => heldC K (IntKind.i64.wrap (t + d))
  unfold addS
  by_cases h1 : 0 < t
  · by_cases h2 : 0 < d
    · by_cases h3 : IntKind.i64.wrap (t + d) < 0
      · rw [if_pos ⟨h1, h2, h3⟩]
        refine IBody.of Try.func20 rfl (by rw [Try.ntmps20]; simp) ?_
        rw [Try.ntmps20]
        refine IWp.seq ?_
        refine IWp.run [0, 1] ?_
        simp [go_sem, -getElem?_pos, -List.map_take, -List.map_drop, List.getElem?_cons_zero, List.getElem?_cons_succ, Go.IntWalk.iteOmega, Go.IntWalk.toNatUp, h1, h2, h3]
        refine IWp.seq ?_
        refine IWp.run [0, 1, 5] ?_
        simp [go_sem, -getElem?_pos, -List.map_take, -List.map_drop, List.getElem?_cons_zero, List.getElem?_cons_succ, Go.IntWalk.iteOmega, Go.IntWalk.toNatUp, h1, h2, h3]
        refine IWp.seq ?_
        refine IWp.block ?_
        refine IWp.seq ?_
        refine IWp.run [0, 1, 5, 9] ?_
        simp [go_sem, -getElem?_pos, -List.map_take, -List.map_drop, List.getElem?_cons_zero, List.getElem?_cons_succ, Go.IntWalk.iteOmega, Go.IntWalk.toNatUp, h1, h2, h3]
        refine IWp.cond ?_
        simp [go_sem, -getElem?_pos, -List.map_take, -List.map_drop, List.getElem?_cons_zero, List.getElem?_cons_succ, Go.IntWalk.iteOmega, Go.IntWalk.toNatUp, h1, h2, h3]
        refine IWp.seq ?_
        refine IWp.run [4] ?_
        simp [go_sem, -getElem?_pos, -List.map_take, -List.map_drop, List.getElem?_cons_zero, List.getElem?_cons_succ, Go.IntWalk.iteOmega, Go.IntWalk.toNatUp, h1, h2, h3]
        refine IWp.ret ?_
        simp [go_sem, -getElem?_pos, -List.map_take, -List.map_drop, List.getElem?_cons_zero, List.getElem?_cons_succ, Go.IntWalk.iteOmega, Go.IntWalk.toNatUp, h1, h2, h3, Try.results20]
        try exact .same _
      · rw [if_neg (fun e => h3 e.2.2), if_neg (fun e => by omega)]
        refine IBody.of Try.func20 rfl (by rw [Try.ntmps20]; simp) ?_
        rw [Try.ntmps20]
        refine IWp.seq ?_
        refine IWp.run [0, 1] ?_
        simp [go_sem, -getElem?_pos, -List.map_take, -List.map_drop, List.getElem?_cons_zero, List.getElem?_cons_succ, Go.IntWalk.iteOmega, Go.IntWalk.toNatUp, h1, h2, h3, show ¬ t < 0 by omega, show ¬ d < 0 by omega]
        refine IWp.seq ?_
        refine IWp.run [0, 1, 5] ?_
        simp [go_sem, -getElem?_pos, -List.map_take, -List.map_drop, List.getElem?_cons_zero, List.getElem?_cons_succ, Go.IntWalk.iteOmega, Go.IntWalk.toNatUp, h1, h2, h3, show ¬ t < 0 by omega, show ¬ d < 0 by omega]
        refine IWp.seq ?_
        refine IWp.block ?_
        refine IWp.seq ?_
        refine IWp.run [0, 1, 5, 9] ?_
        simp [go_sem, -getElem?_pos, -List.map_take, -List.map_drop, List.getElem?_cons_zero, List.getElem?_cons_succ, Go.IntWalk.iteOmega, Go.IntWalk.toNatUp, h1, h2, h3, show ¬ t < 0 by omega, show ¬ d < 0 by omega]
        refine IWp.cond ?_
        simp [go_sem, -getElem?_pos, -List.map_take, -List.map_drop, List.getElem?_cons_zero, List.getElem?_cons_succ, Go.IntWalk.iteOmega, Go.IntWalk.toNatUp, h1, h2, h3, show ¬ t < 0 by omega, show ¬ d < 0 by omega]
        refine IWp.seq ?_
        refine IWp.run [5, 20] ?_
        simp [go_sem, -getElem?_pos, -List.map_take, -List.map_drop, List.getElem?_cons_zero, List.getElem?_cons_succ, Go.IntWalk.iteOmega, Go.IntWalk.toNatUp, h1, h2, h3, show ¬ t < 0 by omega, show ¬ d < 0 by omega]
        refine IWp.cond ?_
        simp [go_sem, -getElem?_pos, -List.map_take, -List.map_drop, List.getElem?_cons_zero, List.getElem?_cons_succ, Go.IntWalk.iteOmega, Go.IntWalk.toNatUp, h1, h2, h3, show ¬ t < 0 by omega, show ¬ d < 0 by omega]
        refine IWp.trim [5] (IWp.skip ?_)
        simp [go_sem, -getElem?_pos, -List.map_take, -List.map_drop, List.getElem?_cons_zero, List.getElem?_cons_succ, Go.IntWalk.iteOmega, Go.IntWalk.toNatUp, h1, h2, h3, show ¬ t < 0 by omega, show ¬ d < 0 by omega]
        refine IWp.seq ?_
        refine IWp.run [4] ?_
        simp [go_sem, -getElem?_pos, -List.map_take, -List.map_drop, List.getElem?_cons_zero, List.getElem?_cons_succ, Go.IntWalk.iteOmega, Go.IntWalk.toNatUp, h1, h2, h3, show ¬ t < 0 by omega, show ¬ d < 0 by omega]
        refine ICalls.then (ch _) ?_
        try simp [go_sem, -getElem?_pos, -List.map_take, -List.map_drop, List.getElem?_cons_zero, List.getElem?_cons_succ, Go.IntWalk.iteOmega, Go.IntWalk.toNatUp, h1, h2, h3, show ¬ t < 0 by omega, show ¬ d < 0 by omega]
        refine IWp.ret ?_
        simp [go_sem, -getElem?_pos, -List.map_take, -List.map_drop, List.getElem?_cons_zero, List.getElem?_cons_succ, Go.IntWalk.iteOmega, Go.IntWalk.toNatUp, h1, h2, h3, show ¬ t < 0 by omega, show ¬ d < 0 by omega, Try.results20]
        try exact .same _
    · rw [if_neg (fun e => h2 e.2.1), if_neg (fun e => by omega)]
      refine IBody.of Try.func20 rfl (by rw [Try.ntmps20]; simp) ?_
      rw [Try.ntmps20]
      refine IWp.seq ?_
      refine IWp.run [0, 1] ?_
      simp [go_sem, -getElem?_pos, -List.map_take, -List.map_drop, List.getElem?_cons_zero, List.getElem?_cons_succ, Go.IntWalk.iteOmega, Go.IntWalk.toNatUp, h1, h2, show ¬ t < 0 by omega]
      refine IWp.seq ?_
      refine IWp.run [0, 1, 5] ?_
      simp [go_sem, -getElem?_pos, -List.map_take, -List.map_drop, List.getElem?_cons_zero, List.getElem?_cons_succ, Go.IntWalk.iteOmega, Go.IntWalk.toNatUp, h1, h2, show ¬ t < 0 by omega]
      refine IWp.seq ?_
      refine IWp.block ?_
      refine IWp.seq ?_
      refine IWp.run [0, 1, 5, 9] ?_
      simp [go_sem, -getElem?_pos, -List.map_take, -List.map_drop, List.getElem?_cons_zero, List.getElem?_cons_succ, Go.IntWalk.iteOmega, Go.IntWalk.toNatUp, h1, h2, show ¬ t < 0 by omega]
      refine IWp.cond ?_
      simp [go_sem, -getElem?_pos, -List.map_take, -List.map_drop, List.getElem?_cons_zero, List.getElem?_cons_succ, Go.IntWalk.iteOmega, Go.IntWalk.toNatUp, h1, h2, show ¬ t < 0 by omega]
      refine IWp.seq ?_
      refine IWp.run [5, 20] ?_
      simp [go_sem, -getElem?_pos, -List.map_take, -List.map_drop, List.getElem?_cons_zero, List.getElem?_cons_succ, Go.IntWalk.iteOmega, Go.IntWalk.toNatUp, h1, h2, show ¬ t < 0 by omega]
      refine IWp.cond ?_
      simp [go_sem, -getElem?_pos, -List.map_take, -List.map_drop, List.getElem?_cons_zero, List.getElem?_cons_succ, Go.IntWalk.iteOmega, Go.IntWalk.toNatUp, h1, h2, show ¬ t < 0 by omega]
      refine IWp.trim [5] (IWp.skip ?_)
      simp [go_sem, -getElem?_pos, -List.map_take, -List.map_drop, List.getElem?_cons_zero, List.getElem?_cons_succ, Go.IntWalk.iteOmega, Go.IntWalk.toNatUp, h1, h2, show ¬ t < 0 by omega]
      refine IWp.seq ?_
      refine IWp.run [4] ?_
      simp [go_sem, -getElem?_pos, -List.map_take, -List.map_drop, List.getElem?_cons_zero, List.getElem?_cons_succ, Go.IntWalk.iteOmega, Go.IntWalk.toNatUp, h1, h2, show ¬ t < 0 by omega]
      refine ICalls.then (ch _) ?_
      try simp [go_sem, -getElem?_pos, -List.map_take, -List.map_drop, List.getElem?_cons_zero, List.getElem?_cons_succ, Go.IntWalk.iteOmega, Go.IntWalk.toNatUp, h1, h2, show ¬ t < 0 by omega]
      refine IWp.ret ?_
      simp [go_sem, -getElem?_pos, -List.map_take, -List.map_drop, List.getElem?_cons_zero, List.getElem?_cons_succ, Go.IntWalk.iteOmega, Go.IntWalk.toNatUp, h1, h2, show ¬ t < 0 by omega, Try.results20]
      try exact .same _
  · rw [if_neg (fun e => h1 e.1)]
    by_cases h2 : t < 0
    · by_cases h3 : d < 0
      · by_cases h4 : 0 ≤ IntKind.i64.wrap (t + d)
        · rw [if_pos ⟨h2, h3, h4⟩]
          refine IBody.of Try.func20 rfl (by rw [Try.ntmps20]; simp) ?_
          rw [Try.ntmps20]
          refine IWp.seq ?_
          refine IWp.run [0, 1] ?_
          simp [go_sem, -getElem?_pos, -List.map_take, -List.map_drop, List.getElem?_cons_zero, List.getElem?_cons_succ, Go.IntWalk.iteOmega, Go.IntWalk.toNatUp, h1, h2, h3, h4]
          refine IWp.seq ?_
          refine IWp.run [0, 1, 5] ?_
          simp [go_sem, -getElem?_pos, -List.map_take, -List.map_drop, List.getElem?_cons_zero, List.getElem?_cons_succ, Go.IntWalk.iteOmega, Go.IntWalk.toNatUp, h1, h2, h3, h4]
          refine IWp.seq ?_
          refine IWp.block ?_
          refine IWp.seq ?_
          refine IWp.run [0, 1, 5, 9] ?_
          simp [go_sem, -getElem?_pos, -List.map_take, -List.map_drop, List.getElem?_cons_zero, List.getElem?_cons_succ, Go.IntWalk.iteOmega, Go.IntWalk.toNatUp, h1, h2, h3, h4]
          refine IWp.cond ?_
          simp [go_sem, -getElem?_pos, -List.map_take, -List.map_drop, List.getElem?_cons_zero, List.getElem?_cons_succ, Go.IntWalk.iteOmega, Go.IntWalk.toNatUp, h1, h2, h3, h4]
          refine IWp.seq ?_
          refine IWp.run [5, 20] ?_
          simp [go_sem, -getElem?_pos, -List.map_take, -List.map_drop, List.getElem?_cons_zero, List.getElem?_cons_succ, Go.IntWalk.iteOmega, Go.IntWalk.toNatUp, h1, h2, h3, h4]
          refine IWp.cond ?_
          simp [go_sem, -getElem?_pos, -List.map_take, -List.map_drop, List.getElem?_cons_zero, List.getElem?_cons_succ, Go.IntWalk.iteOmega, Go.IntWalk.toNatUp, h1, h2, h3, h4]
          refine IWp.seq ?_
          refine IWp.run [4] ?_
          simp [go_sem, -getElem?_pos, -List.map_take, -List.map_drop, List.getElem?_cons_zero, List.getElem?_cons_succ, Go.IntWalk.iteOmega, Go.IntWalk.toNatUp, h1, h2, h3, h4]
          refine IWp.ret ?_
          simp [go_sem, -getElem?_pos, -List.map_take, -List.map_drop, List.getElem?_cons_zero, List.getElem?_cons_succ, Go.IntWalk.iteOmega, Go.IntWalk.toNatUp, h1, h2, h3, h4, Try.results20]
          try exact .same _
        · rw [if_neg (fun e => h4 e.2.2)]
          refine IBody.of Try.func20 rfl (by rw [Try.ntmps20]; simp) ?_
          rw [Try.ntmps20]
          refine IWp.seq ?_
          refine IWp.run [0, 1] ?_
          simp [go_sem, -getElem?_pos, -List.map_take, -List.map_drop, List.getElem?_cons_zero, List.getElem?_cons_succ, Go.IntWalk.iteOmega, Go.IntWalk.toNatUp, h1, h2, h3, h4]
          refine IWp.seq ?_
          refine IWp.run [0, 1, 5] ?_
          simp [go_sem, -getElem?_pos, -List.map_take, -List.map_drop, List.getElem?_cons_zero, List.getElem?_cons_succ, Go.IntWalk.iteOmega, Go.IntWalk.toNatUp, h1, h2, h3, h4]
          refine IWp.seq ?_
          refine IWp.block ?_
          refine IWp.seq ?_
          refine IWp.run [0, 1, 5, 9] ?_
          simp [go_sem, -getElem?_pos, -List.map_take, -List.map_drop, List.getElem?_cons_zero, List.getElem?_cons_succ, Go.IntWalk.iteOmega, Go.IntWalk.toNatUp, h1, h2, h3, h4]
          refine IWp.cond ?_
          simp [go_sem, -getElem?_pos, -List.map_take, -List.map_drop, List.getElem?_cons_zero, List.getElem?_cons_succ, Go.IntWalk.iteOmega, Go.IntWalk.toNatUp, h1, h2, h3, h4]
          refine IWp.seq ?_
          refine IWp.run [5, 20] ?_
          simp [go_sem, -getElem?_pos, -List.map_take, -List.map_drop, List.getElem?_cons_zero, List.getElem?_cons_succ, Go.IntWalk.iteOmega, Go.IntWalk.toNatUp, h1, h2, h3, h4]
          refine IWp.cond ?_
          simp [go_sem, -getElem?_pos, -List.map_take, -List.map_drop, List.getElem?_cons_zero, List.getElem?_cons_succ, Go.IntWalk.iteOmega, Go.IntWalk.toNatUp, h1, h2, h3, h4]
          refine IWp.trim [5] (IWp.skip ?_)
          simp [go_sem, -getElem?_pos, -List.map_take, -List.map_drop, List.getElem?_cons_zero, List.getElem?_cons_succ, Go.IntWalk.iteOmega, Go.IntWalk.toNatUp, h1, h2, h3, h4]
          refine IWp.seq ?_
          refine IWp.run [4] ?_
          simp [go_sem, -getElem?_pos, -List.map_take, -List.map_drop, List.getElem?_cons_zero, List.getElem?_cons_succ, Go.IntWalk.iteOmega, Go.IntWalk.toNatUp, h1, h2, h3, h4]
          refine ICalls.then (ch _) ?_
          try simp [go_sem, -getElem?_pos, -List.map_take, -List.map_drop, List.getElem?_cons_zero, List.getElem?_cons_succ, Go.IntWalk.iteOmega, Go.IntWalk.toNatUp, h1, h2, h3, h4]
          refine IWp.ret ?_
          simp [go_sem, -getElem?_pos, -List.map_take, -List.map_drop, List.getElem?_cons_zero, List.getElem?_cons_succ, Go.IntWalk.iteOmega, Go.IntWalk.toNatUp, h1, h2, h3, h4, Try.results20]
          try exact .same _
      · rw [if_neg (fun e => h3 e.2.1)]
        refine IBody.of Try.func20 rfl (by rw [Try.ntmps20]; simp) ?_
        rw [Try.ntmps20]
        refine IWp.seq ?_
        refine IWp.run [0, 1] ?_
        simp [go_sem, -getElem?_pos, -List.map_take, -List.map_drop, List.getElem?_cons_zero, List.getElem?_cons_succ, Go.IntWalk.iteOmega, Go.IntWalk.toNatUp, h1, h2, h3]
        refine IWp.seq ?_
        refine IWp.run [0, 1, 5] ?_
        simp [go_sem, -getElem?_pos, -List.map_take, -List.map_drop, List.getElem?_cons_zero, List.getElem?_cons_succ, Go.IntWalk.iteOmega, Go.IntWalk.toNatUp, h1, h2, h3]
        refine IWp.seq ?_
        refine IWp.block ?_
        refine IWp.seq ?_
        refine IWp.run [0, 1, 5, 9] ?_
        simp [go_sem, -getElem?_pos, -List.map_take, -List.map_drop, List.getElem?_cons_zero, List.getElem?_cons_succ, Go.IntWalk.iteOmega, Go.IntWalk.toNatUp, h1, h2, h3]
        refine IWp.cond ?_
        simp [go_sem, -getElem?_pos, -List.map_take, -List.map_drop, List.getElem?_cons_zero, List.getElem?_cons_succ, Go.IntWalk.iteOmega, Go.IntWalk.toNatUp, h1, h2, h3]
        refine IWp.seq ?_
        refine IWp.run [5, 20] ?_
        simp [go_sem, -getElem?_pos, -List.map_take, -List.map_drop, List.getElem?_cons_zero, List.getElem?_cons_succ, Go.IntWalk.iteOmega, Go.IntWalk.toNatUp, h1, h2, h3]
        refine IWp.cond ?_
        simp [go_sem, -getElem?_pos, -List.map_take, -List.map_drop, List.getElem?_cons_zero, List.getElem?_cons_succ, Go.IntWalk.iteOmega, Go.IntWalk.toNatUp, h1, h2, h3]
        refine IWp.trim [5] (IWp.skip ?_)
        simp [go_sem, -getElem?_pos, -List.map_take, -List.map_drop, List.getElem?_cons_zero, List.getElem?_cons_succ, Go.IntWalk.iteOmega, Go.IntWalk.toNatUp, h1, h2, h3]
        refine IWp.seq ?_
        refine IWp.run [4] ?_
        simp [go_sem, -getElem?_pos, -List.map_take, -List.map_drop, List.getElem?_cons_zero, List.getElem?_cons_succ, Go.IntWalk.iteOmega, Go.IntWalk.toNatUp, h1, h2, h3]
        refine ICalls.then (ch _) ?_
        try simp [go_sem, -getElem?_pos, -List.map_take, -List.map_drop, List.getElem?_cons_zero, List.getElem?_cons_succ, Go.IntWalk.iteOmega, Go.IntWalk.toNatUp, h1, h2, h3]
        refine IWp.ret ?_
        simp [go_sem, -getElem?_pos, -List.map_take, -List.map_drop, List.getElem?_cons_zero, List.getElem?_cons_succ, Go.IntWalk.iteOmega, Go.IntWalk.toNatUp, h1, h2, h3, Try.results20]
        try exact .same _
    · rw [if_neg (fun e => h2 e.1)]
      refine IBody.of Try.func20 rfl (by rw [Try.ntmps20]; simp) ?_
      rw [Try.ntmps20]
      refine IWp.seq ?_
      refine IWp.run [0, 1] ?_
      simp [go_sem, -getElem?_pos, -List.map_take, -List.map_drop, List.getElem?_cons_zero, List.getElem?_cons_succ, Go.IntWalk.iteOmega, Go.IntWalk.toNatUp, h1, h2]
      refine IWp.seq ?_
      refine IWp.run [0, 1, 5] ?_
      simp [go_sem, -getElem?_pos, -List.map_take, -List.map_drop, List.getElem?_cons_zero, List.getElem?_cons_succ, Go.IntWalk.iteOmega, Go.IntWalk.toNatUp, h1, h2]
      refine IWp.seq ?_
      refine IWp.block ?_
      refine IWp.seq ?_
      refine IWp.run [0, 1, 5, 9] ?_
      simp [go_sem, -getElem?_pos, -List.map_take, -List.map_drop, List.getElem?_cons_zero, List.getElem?_cons_succ, Go.IntWalk.iteOmega, Go.IntWalk.toNatUp, h1, h2]
      refine IWp.cond ?_
      simp [go_sem, -getElem?_pos, -List.map_take, -List.map_drop, List.getElem?_cons_zero, List.getElem?_cons_succ, Go.IntWalk.iteOmega, Go.IntWalk.toNatUp, h1, h2]
      refine IWp.seq ?_
      refine IWp.run [5, 20] ?_
      simp [go_sem, -getElem?_pos, -List.map_take, -List.map_drop, List.getElem?_cons_zero, List.getElem?_cons_succ, Go.IntWalk.iteOmega, Go.IntWalk.toNatUp, h1, h2]
      refine IWp.cond ?_
      simp [go_sem, -getElem?_pos, -List.map_take, -List.map_drop, List.getElem?_cons_zero, List.getElem?_cons_succ, Go.IntWalk.iteOmega, Go.IntWalk.toNatUp, h1, h2]
      refine IWp.trim [5] (IWp.skip ?_)
      simp [go_sem, -getElem?_pos, -List.map_take, -List.map_drop, List.getElem?_cons_zero, List.getElem?_cons_succ, Go.IntWalk.iteOmega, Go.IntWalk.toNatUp, h1, h2]
      refine IWp.seq ?_
      refine IWp.run [4] ?_
      simp [go_sem, -getElem?_pos, -List.map_take, -List.map_drop, List.getElem?_cons_zero, List.getElem?_cons_succ, Go.IntWalk.iteOmega, Go.IntWalk.toNatUp, h1, h2]
      refine ICalls.then (ch _) ?_
      try simp [go_sem, -getElem?_pos, -List.map_take, -List.map_drop, List.getElem?_cons_zero, List.getElem?_cons_succ, Go.IntWalk.iteOmega, Go.IntWalk.toNatUp, h1, h2]
      refine IWp.ret ?_
      simp [go_sem, -getElem?_pos, -List.map_take, -List.map_drop, List.getElem?_cons_zero, List.getElem?_cons_succ, Go.IntWalk.iteOmega, Go.IntWalk.toNatUp, h1, h2, Try.results20]
      try exact .same _

theorem refAddC (H : Heap) (t d : Int) (w1 : -9223372036854775808 ≤ t ∧ t < 9223372036854775808) (w2 : -9223372036854775808 ≤ d ∧ d < 9223372036854775808) : ICalls Try.prog 21 [.int .i64 t, .int .i64 d] H fun v H' => v = .int .i64 (addS t d) ∧ H' = H := by
  refine ICalls.ans (by simp [go_sem]) fun H => IBody.calls (by kernel_rfl) ?_
  have t1 := tdiv2 t
  have t2 := tdiv2 d
  have hw := wrap64 (t + d) (by omega)
  unfold addS
  have i1 := IntWalk.i64_in (t.tdiv 2) (by omega)
  have i2 := IntWalk.i64_in (d.tdiv 2) (by omega)
  have i3 := IntWalk.i64_in (t.tdiv 2 + d.tdiv 2) (by omega)
  by_cases h1 : t.tdiv 2 + d.tdiv 2 > 1099511627776
  · have e : (if 0 < t ∧ 0 < d ∧ IntKind.i64.wrap (t + d) < 0 then (1099511627776 : Int) else if t < 0 ∧ d < 0 ∧ 0 ≤ IntKind.i64.wrap (t + d) then 0 else heldS (IntKind.i64.wrap (t + d))) = 1099511627776 := by
      rw [hw]; unfold heldS
      repeat' split
      all_goals omega
    rw [e]
    refine IBody.of Try.func21 rfl (by rw [Try.ntmps21]; simp) ?_
    rw [Try.ntmps21]
    refine IWp.seq ?_
    refine IWp.run [0, 1] ?_
    simp [go_sem, -getElem?_pos, -List.map_take, -List.map_drop, List.getElem?_cons_zero, List.getElem?_cons_succ, Go.IntWalk.iteOmega, Go.IntWalk.toNatUp, h1, i1, i2, i3]
    refine IWp.seq ?_
    refine IWp.run [0, 1, 5] ?_
    simp [go_sem, -getElem?_pos, -List.map_take, -List.map_drop, List.getElem?_cons_zero, List.getElem?_cons_succ, Go.IntWalk.iteOmega, Go.IntWalk.toNatUp, h1, i1, i2, i3]
    refine IWp.seq ?_
    refine IWp.seq ?_
    refine IWp.run [0, 1, 5, 12] ?_
    simp [go_sem, -getElem?_pos, -List.map_take, -List.map_drop, List.getElem?_cons_zero, List.getElem?_cons_succ, Go.IntWalk.iteOmega, Go.IntWalk.toNatUp, h1, i1, i2, i3]
    refine IWp.cond ?_
    simp [go_sem, -getElem?_pos, -List.map_take, -List.map_drop, List.getElem?_cons_zero, List.getElem?_cons_succ, Go.IntWalk.iteOmega, Go.IntWalk.toNatUp, h1, i1, i2, i3]
    refine IWp.seq ?_
    refine IWp.run [4] ?_
    simp [go_sem, -getElem?_pos, -List.map_take, -List.map_drop, List.getElem?_cons_zero, List.getElem?_cons_succ, Go.IntWalk.iteOmega, Go.IntWalk.toNatUp, h1, i1, i2, i3]
    refine IWp.ret ?_
    simp [go_sem, -getElem?_pos, -List.map_take, -List.map_drop, List.getElem?_cons_zero, List.getElem?_cons_succ, Go.IntWalk.iteOmega, Go.IntWalk.toNatUp, h1, i1, i2, i3, Try.results21]
    try exact .same _
  · by_cases h2 : t.tdiv 2 + d.tdiv 2 < -1099511627776
    · have e : (if 0 < t ∧ 0 < d ∧ IntKind.i64.wrap (t + d) < 0 then (1099511627776 : Int) else if t < 0 ∧ d < 0 ∧ 0 ≤ IntKind.i64.wrap (t + d) then 0 else heldS (IntKind.i64.wrap (t + d))) = 0 := by
        rw [hw]; unfold heldS
        repeat' split
        all_goals omega
      rw [e]
      refine IBody.of Try.func21 rfl (by rw [Try.ntmps21]; simp) ?_
      rw [Try.ntmps21]
      refine IWp.seq ?_
      refine IWp.run [0, 1] ?_
      simp [go_sem, -getElem?_pos, -List.map_take, -List.map_drop, List.getElem?_cons_zero, List.getElem?_cons_succ, Go.IntWalk.iteOmega, Go.IntWalk.toNatUp, h1, h2, i1, i2, i3]
      refine IWp.seq ?_
      refine IWp.run [0, 1, 5] ?_
      simp [go_sem, -getElem?_pos, -List.map_take, -List.map_drop, List.getElem?_cons_zero, List.getElem?_cons_succ, Go.IntWalk.iteOmega, Go.IntWalk.toNatUp, h1, h2, i1, i2, i3]
      refine IWp.seq ?_
      refine IWp.seq ?_
      refine IWp.run [0, 1, 5, 12] ?_
      simp [go_sem, -getElem?_pos, -List.map_take, -List.map_drop, List.getElem?_cons_zero, List.getElem?_cons_succ, Go.IntWalk.iteOmega, Go.IntWalk.toNatUp, h1, h2, i1, i2, i3]
      refine IWp.cond ?_
      simp [go_sem, -getElem?_pos, -List.map_take, -List.map_drop, List.getElem?_cons_zero, List.getElem?_cons_succ, Go.IntWalk.iteOmega, Go.IntWalk.toNatUp, h1, h2, i1, i2, i3]
      refine IWp.trim [0, 1, 5] (IWp.skip ?_)
      simp [go_sem, -getElem?_pos, -List.map_take, -List.map_drop, List.getElem?_cons_zero, List.getElem?_cons_succ, Go.IntWalk.iteOmega, Go.IntWalk.toNatUp, h1, h2, i1, i2, i3]
      refine IWp.seq ?_
      refine IWp.seq ?_
      refine IWp.run [0, 1, 14] ?_
      simp [go_sem, -getElem?_pos, -List.map_take, -List.map_drop, List.getElem?_cons_zero, List.getElem?_cons_succ, Go.IntWalk.iteOmega, Go.IntWalk.toNatUp, h1, h2, i1, i2, i3]
      refine IWp.cond ?_
      simp [go_sem, -getElem?_pos, -List.map_take, -List.map_drop, List.getElem?_cons_zero, List.getElem?_cons_succ, Go.IntWalk.iteOmega, Go.IntWalk.toNatUp, h1, h2, i1, i2, i3]
      refine IWp.seq ?_
      refine IWp.run [4] ?_
      simp [go_sem, -getElem?_pos, -List.map_take, -List.map_drop, List.getElem?_cons_zero, List.getElem?_cons_succ, Go.IntWalk.iteOmega, Go.IntWalk.toNatUp, h1, h2, i1, i2, i3]
      refine IWp.ret ?_
      simp [go_sem, -getElem?_pos, -List.map_take, -List.map_drop, List.getElem?_cons_zero, List.getElem?_cons_succ, Go.IntWalk.iteOmega, Go.IntWalk.toNatUp, h1, h2, i1, i2, i3, Try.results21]
      try exact .same _
    · have e : (if 0 < t ∧ 0 < d ∧ IntKind.i64.wrap (t + d) < 0 then (1099511627776 : Int) else if t < 0 ∧ d < 0 ∧ 0 ≤ IntKind.i64.wrap (t + d) then 0 else heldS (IntKind.i64.wrap (t + d))) = heldS (IntKind.i64.wrap (t + d)) := by
        rw [if_neg, if_neg]
        · rw [hw]; intro hx; split at hx <;> (try split at hx) <;> omega
        · rw [hw]; intro hx; split at hx <;> (try split at hx) <;> omega
      rw [e]
      have c := fun K => refHeldC K (IntKind.i64.wrap (t + d))
      refine IBody.of Try.func21 rfl (by rw [Try.ntmps21]; simp) ?_
      rw [Try.ntmps21]
      refine IWp.seq ?_
      refine IWp.run [0, 1] ?_
      simp [go_sem, -getElem?_pos, -List.map_take, -List.map_drop, List.getElem?_cons_zero, List.getElem?_cons_succ, Go.IntWalk.iteOmega, Go.IntWalk.toNatUp, h1, h2, i1, i2, i3]
      refine IWp.seq ?_
      refine IWp.run [0, 1, 5] ?_
      simp [go_sem, -getElem?_pos, -List.map_take, -List.map_drop, List.getElem?_cons_zero, List.getElem?_cons_succ, Go.IntWalk.iteOmega, Go.IntWalk.toNatUp, h1, h2, i1, i2, i3]
      refine IWp.seq ?_
      refine IWp.seq ?_
      refine IWp.run [0, 1, 5, 12] ?_
      simp [go_sem, -getElem?_pos, -List.map_take, -List.map_drop, List.getElem?_cons_zero, List.getElem?_cons_succ, Go.IntWalk.iteOmega, Go.IntWalk.toNatUp, h1, h2, i1, i2, i3]
      refine IWp.cond ?_
      simp [go_sem, -getElem?_pos, -List.map_take, -List.map_drop, List.getElem?_cons_zero, List.getElem?_cons_succ, Go.IntWalk.iteOmega, Go.IntWalk.toNatUp, h1, h2, i1, i2, i3]
      refine IWp.trim [0, 1, 5] (IWp.skip ?_)
      simp [go_sem, -getElem?_pos, -List.map_take, -List.map_drop, List.getElem?_cons_zero, List.getElem?_cons_succ, Go.IntWalk.iteOmega, Go.IntWalk.toNatUp, h1, h2, i1, i2, i3]
      refine IWp.seq ?_
      refine IWp.seq ?_
      refine IWp.run [0, 1, 14] ?_
      simp [go_sem, -getElem?_pos, -List.map_take, -List.map_drop, List.getElem?_cons_zero, List.getElem?_cons_succ, Go.IntWalk.iteOmega, Go.IntWalk.toNatUp, h1, h2, i1, i2, i3]
      refine IWp.cond ?_
      simp [go_sem, -getElem?_pos, -List.map_take, -List.map_drop, List.getElem?_cons_zero, List.getElem?_cons_succ, Go.IntWalk.iteOmega, Go.IntWalk.toNatUp, h1, h2, i1, i2, i3]
      refine IWp.trim [0, 1] (IWp.skip ?_)
      simp [go_sem, -getElem?_pos, -List.map_take, -List.map_drop, List.getElem?_cons_zero, List.getElem?_cons_succ, Go.IntWalk.iteOmega, Go.IntWalk.toNatUp, h1, h2, i1, i2, i3]
      refine IWp.seq ?_
      refine IWp.run [4] ?_
      simp [go_sem, -getElem?_pos, -List.map_take, -List.map_drop, List.getElem?_cons_zero, List.getElem?_cons_succ, Go.IntWalk.iteOmega, Go.IntWalk.toNatUp, h1, h2, i1, i2, i3]
      refine ICalls.then (c _) ?_
      try simp [go_sem, -getElem?_pos, -List.map_take, -List.map_drop, List.getElem?_cons_zero, List.getElem?_cons_succ, Go.IntWalk.iteOmega, Go.IntWalk.toNatUp, h1, h2, i1, i2, i3]
      refine IWp.ret ?_
      simp [go_sem, -getElem?_pos, -List.map_take, -List.map_drop, List.getElem?_cons_zero, List.getElem?_cons_succ, Go.IntWalk.iteOmega, Go.IntWalk.toNatUp, h1, h2, i1, i2, i3, Try.results21]
      try exact .same _

theorem sameIC (H : Heap) (m k : Int) (L : List Int) (hL : L.length ≤ 10000000) : ICalls Try.prog 28 [frow 1 m (L.map (Value.int .i64)), frow 1 k (L.map (Value.int .i64))] H fun v H' => v = .bool true ∧ H' = H := by
  refine ICalls.ans (by simp [go_sem]) fun H => IBody.calls (by kernel_rfl) ?_
  refine IBody.of Try.func28 rfl (by rw [Try.ntmps28]; simp) ?_
  rw [Try.ntmps28]
  refine IWp.seq ?_
  refine IWp.run [0, 1] ?_
  simp [go_sem, -getElem?_pos, -List.map_take, -List.map_drop, List.getElem?_cons_zero, List.getElem?_cons_succ, Go.IntWalk.iteOmega, Go.IntWalk.toNatUp]
  refine IWp.seq ?_
  refine IWp.seq ?_
  refine IWp.run [0, 1, 10] ?_
  simp [go_sem, -getElem?_pos, -List.map_take, -List.map_drop, List.getElem?_cons_zero, List.getElem?_cons_succ, Go.IntWalk.iteOmega, Go.IntWalk.toNatUp]
  refine IWp.cond ?_
  simp [go_sem, -getElem?_pos, -List.map_take, -List.map_drop, List.getElem?_cons_zero, List.getElem?_cons_succ, Go.IntWalk.iteOmega, Go.IntWalk.toNatUp]
  refine IWp.trim [0, 1] (IWp.skip ?_)
  simp [go_sem, -getElem?_pos, -List.map_take, -List.map_drop, List.getElem?_cons_zero, List.getElem?_cons_succ, Go.IntWalk.iteOmega, Go.IntWalk.toNatUp]
  refine IWp.seq ?_
  refine IWp.seq ?_
  refine IWp.run [0, 1, 5] ?_
  simp [go_sem, -getElem?_pos, -List.map_take, -List.map_drop, List.getElem?_cons_zero, List.getElem?_cons_succ, Go.IntWalk.iteOmega, Go.IntWalk.toNatUp]
  refine IWp.block ?_
  -- LOOP live [0, 1, 5]
  refine IWp.loop (fun q e K => ∃ i : Nat, q = L.length - i ∧ i ≤ L.length ∧ e = [(0, frow 1 m (L.map (Value.int .i64))), (1, frow 1 k (L.map (Value.int .i64))), (5, .int .i64 (i : Int))]) L.length ⟨0, rfl, Nat.zero_le _, by simp [go_sem]⟩ ?_
  rintro q e K ⟨i, rfl, hi, rfl⟩
  have wi := IntWalk.i64_in ((i : Int) + 1) (by omega)
  by_cases hlt : i < L.length
  · have gi : (L.map (Value.int .i64))[i]? = some (.int .i64 L[i]) := by simp [hlt]
    generalize L[i] = x at *
    refine IWp.seq ?_
    refine IWp.seq ?_
    refine IWp.run [0, 1, 5, 14] ?_
    simp [go_sem, -getElem?_pos, -List.map_take, -List.map_drop, List.getElem?_cons_zero, List.getElem?_cons_succ, Go.IntWalk.iteOmega, Go.IntWalk.toNatUp, hlt, gi, wi]
    refine IWp.cond ?_
    simp [go_sem, -getElem?_pos, -List.map_take, -List.map_drop, List.getElem?_cons_zero, List.getElem?_cons_succ, Go.IntWalk.iteOmega, Go.IntWalk.toNatUp, hlt, gi, wi]
    refine IWp.trim [0, 1, 5] (IWp.skip ?_)
    simp [go_sem, -getElem?_pos, -List.map_take, -List.map_drop, List.getElem?_cons_zero, List.getElem?_cons_succ, Go.IntWalk.iteOmega, Go.IntWalk.toNatUp, hlt, gi, wi]
    refine IWp.seq ?_
    refine IWp.block ?_
    refine IWp.seq ?_
    refine IWp.read [0, 1, 5, 25] follows (by kernel_rfl) ?_
    simp [go_sem, -getElem?_pos, -List.map_take, -List.map_drop, List.getElem?_cons_zero, List.getElem?_cons_succ, Go.IntWalk.iteOmega, Go.IntWalk.toNatUp, hlt, gi, wi]
    refine IWp.cond ?_
    simp [go_sem, -getElem?_pos, -List.map_take, -List.map_drop, List.getElem?_cons_zero, List.getElem?_cons_succ, Go.IntWalk.iteOmega, Go.IntWalk.toNatUp, hlt, gi, wi]
    refine IWp.trim [0, 1, 5] (IWp.skip ?_)
    simp [go_sem, -getElem?_pos, -List.map_take, -List.map_drop, List.getElem?_cons_zero, List.getElem?_cons_succ, Go.IntWalk.iteOmega, Go.IntWalk.toNatUp, hlt, gi, wi]
    refine IWp.run [0, 1, 5] ?_
    simp [go_sem, -getElem?_pos, -List.map_take, -List.map_drop, List.getElem?_cons_zero, List.getElem?_cons_succ, Go.IntWalk.iteOmega, Go.IntWalk.toNatUp, hlt, gi, wi]
    exact ⟨L.length - (i + 1), by omega, i + 1, rfl, by omega, by omega⟩
  · skip
    refine IWp.seq ?_
    refine IWp.seq ?_
    refine IWp.run [0, 1, 5, 14] ?_
    simp [go_sem, -getElem?_pos, -List.map_take, -List.map_drop, List.getElem?_cons_zero, List.getElem?_cons_succ, Go.IntWalk.iteOmega, Go.IntWalk.toNatUp, hlt]
    refine IWp.cond ?_
    simp [go_sem, -getElem?_pos, -List.map_take, -List.map_drop, List.getElem?_cons_zero, List.getElem?_cons_succ, Go.IntWalk.iteOmega, Go.IntWalk.toNatUp, hlt]
    refine IWp.trim [] (IWp.exit ?_)
    simp [go_sem, -getElem?_pos, -List.map_take, -List.map_drop, List.getElem?_cons_zero, List.getElem?_cons_succ, Go.IntWalk.iteOmega, Go.IntWalk.toNatUp, hlt]
    refine IWp.seq ?_
    refine IWp.run [4] ?_
    simp [go_sem, -getElem?_pos, -List.map_take, -List.map_drop, List.getElem?_cons_zero, List.getElem?_cons_succ, Go.IntWalk.iteOmega, Go.IntWalk.toNatUp, hlt]
    refine IWp.ret ?_
    simp [go_sem, -getElem?_pos, -List.map_take, -List.map_drop, List.getElem?_cons_zero, List.getElem?_cons_succ, Go.IntWalk.iteOmega, Go.IntWalk.toNatUp, hlt, Try.results28]
    try exact .same _

end Go.Proofs.Ytdimnoeldnfikaa.I
