/- Panels by the document: times, heights, what is alike. No condition. -/
import Derived.Test.YtdimnoeldnfikaaGShowN
namespace Go.Proofs.Ytdimnoeldnfikaa.I
open Go Go.RowKit
set_option linter.unusedVariables false
set_option linter.unusedSimpArgs false

theorem patByte (p : Int) (i : Nat) (h : (i : Int) < perS p) : byteS (patS p) i = if (i : Int) ∈ pulL p then 49 else 48 := by
  unfold perS at h
  unfold patS pulL
  split at h
  · have : ∀ i : Nat, i < 32 → byteS pat3 i = if (i : Int) ∈ ([0, 2, 4, 7, 9, 16, 18, 20, 23, 25] : List Int) then 49 else 48 := by decide +kernel
    rename_i e
    rw [if_pos e, if_pos e]
    exact this i (by omega)
  split at h
  · have : ∀ i : Nat, i < 24 → byteS pat2 i = if (i : Int) ∈ ([0, 3, 6] : List Int) then 49 else 48 := by decide +kernel
    rename_i e0 e
    rw [if_neg e0, if_pos e, if_neg e0, if_pos e]
    exact this i (by omega)
  split at h
  · have : ∀ i : Nat, i < 40 → byteS pat1 i = if (i : Int) ∈ ([0, 4] : List Int) then 49 else 48 := by decide +kernel
    rename_i e0 e1 e
    rw [if_neg e0, if_neg e1, if_pos e, if_neg e0, if_neg e1, if_pos e]
    exact this i (by omega)
  · omega

theorem soundSR (p ph : Int) : soundR p ph = soundS p ph := by
  unfold soundS soundR
  by_cases h1 : 0 < perS p
  · by_cases h2 : 0 ≤ ph
    · have e1 := Int.emod_nonneg ph (show perS p ≠ 0 by omega)
      have e2 := Int.emod_lt_of_pos ph h1
      have := patByte p (ph % perS p).toNat (by omega)
      rw [this]
      rw [show (((ph % perS p).toNat : Nat) : Int) = ph % perS p by omega]
      by_cases h3 : ph % perS p ∈ pulL p
      · simp [h1, h2, h3]
      · simp [h1, h2, h3]
    · simp [h2]
  · simp [h1]

theorem refHeldC (H : Heap) (t : Int) : ICalls Try.prog 48 [.int .i64 t] H fun v H' => v = .int .i64 (heldS t) ∧ H' = H := by
  refine ICalls.ans (by simp [go_sem]) fun H => IBody.calls (by kernel_rfl) ?_
  by_cases h1 : t < 0
  · rw [show heldS t = 0 by unfold heldS; omega]
    refine IBody.of Try.func48 rfl (by rw [Try.ntmps48]; simp) ?_
    rw [Try.ntmps48]
    refine IWp.seq ?_
    refine IWp.run [0] ?_
    simp [go_sem, -getElem?_pos, -List.map_take, -List.map_drop, List.getElem?_cons_zero, List.getElem?_cons_succ, Go.IntWalk.iteOmega, Go.IntWalk.toNatUp, h1]
    refine IWp.seq ?_
    refine IWp.seq ?_
    refine IWp.run [0, 4] ?_
    simp [go_sem, -getElem?_pos, -List.map_take, -List.map_drop, List.getElem?_cons_zero, List.getElem?_cons_succ, Go.IntWalk.iteOmega, Go.IntWalk.toNatUp, h1]
    refine IWp.cond ?_
    simp [go_sem, -getElem?_pos, -List.map_take, -List.map_drop, List.getElem?_cons_zero, List.getElem?_cons_succ, Go.IntWalk.iteOmega, Go.IntWalk.toNatUp, h1]
    refine IWp.seq ?_
    refine IWp.run [2] ?_
    simp [go_sem, -getElem?_pos, -List.map_take, -List.map_drop, List.getElem?_cons_zero, List.getElem?_cons_succ, Go.IntWalk.iteOmega, Go.IntWalk.toNatUp, h1]
    refine IWp.ret ?_
    simp [go_sem, -getElem?_pos, -List.map_take, -List.map_drop, List.getElem?_cons_zero, List.getElem?_cons_succ, Go.IntWalk.iteOmega, Go.IntWalk.toNatUp, h1, Try.results48]
    try exact .same _
  · by_cases h2 : t > 1099511627776
    · rw [show heldS t = 1099511627776 by unfold heldS; omega]
      refine IBody.of Try.func48 rfl (by rw [Try.ntmps48]; simp) ?_
      rw [Try.ntmps48]
      refine IWp.seq ?_
      refine IWp.run [0] ?_
      simp [go_sem, -getElem?_pos, -List.map_take, -List.map_drop, List.getElem?_cons_zero, List.getElem?_cons_succ, Go.IntWalk.iteOmega, Go.IntWalk.toNatUp, h1, h2]
      refine IWp.seq ?_
      refine IWp.seq ?_
      refine IWp.run [0, 4] ?_
      simp [go_sem, -getElem?_pos, -List.map_take, -List.map_drop, List.getElem?_cons_zero, List.getElem?_cons_succ, Go.IntWalk.iteOmega, Go.IntWalk.toNatUp, h1, h2]
      refine IWp.cond ?_
      simp [go_sem, -getElem?_pos, -List.map_take, -List.map_drop, List.getElem?_cons_zero, List.getElem?_cons_succ, Go.IntWalk.iteOmega, Go.IntWalk.toNatUp, h1, h2]
      refine IWp.trim [0] (IWp.skip ?_)
      simp [go_sem, -getElem?_pos, -List.map_take, -List.map_drop, List.getElem?_cons_zero, List.getElem?_cons_succ, Go.IntWalk.iteOmega, Go.IntWalk.toNatUp, h1, h2]
      refine IWp.seq ?_
      refine IWp.seq ?_
      refine IWp.run [0, 6] ?_
      simp [go_sem, -getElem?_pos, -List.map_take, -List.map_drop, List.getElem?_cons_zero, List.getElem?_cons_succ, Go.IntWalk.iteOmega, Go.IntWalk.toNatUp, h1, h2]
      refine IWp.cond ?_
      simp [go_sem, -getElem?_pos, -List.map_take, -List.map_drop, List.getElem?_cons_zero, List.getElem?_cons_succ, Go.IntWalk.iteOmega, Go.IntWalk.toNatUp, h1, h2]
      refine IWp.seq ?_
      refine IWp.run [2] ?_
      simp [go_sem, -getElem?_pos, -List.map_take, -List.map_drop, List.getElem?_cons_zero, List.getElem?_cons_succ, Go.IntWalk.iteOmega, Go.IntWalk.toNatUp, h1, h2]
      refine IWp.ret ?_
      simp [go_sem, -getElem?_pos, -List.map_take, -List.map_drop, List.getElem?_cons_zero, List.getElem?_cons_succ, Go.IntWalk.iteOmega, Go.IntWalk.toNatUp, h1, h2, Try.results48]
      try exact .same _
    · rw [show heldS t = t by unfold heldS; omega]
      refine IBody.of Try.func48 rfl (by rw [Try.ntmps48]; simp) ?_
      rw [Try.ntmps48]
      refine IWp.seq ?_
      refine IWp.run [0] ?_
      simp [go_sem, -getElem?_pos, -List.map_take, -List.map_drop, List.getElem?_cons_zero, List.getElem?_cons_succ, Go.IntWalk.iteOmega, Go.IntWalk.toNatUp, h1, h2]
      refine IWp.seq ?_
      refine IWp.seq ?_
      refine IWp.run [0, 4] ?_
      simp [go_sem, -getElem?_pos, -List.map_take, -List.map_drop, List.getElem?_cons_zero, List.getElem?_cons_succ, Go.IntWalk.iteOmega, Go.IntWalk.toNatUp, h1, h2]
      refine IWp.cond ?_
      simp [go_sem, -getElem?_pos, -List.map_take, -List.map_drop, List.getElem?_cons_zero, List.getElem?_cons_succ, Go.IntWalk.iteOmega, Go.IntWalk.toNatUp, h1, h2]
      refine IWp.trim [0] (IWp.skip ?_)
      simp [go_sem, -getElem?_pos, -List.map_take, -List.map_drop, List.getElem?_cons_zero, List.getElem?_cons_succ, Go.IntWalk.iteOmega, Go.IntWalk.toNatUp, h1, h2]
      refine IWp.seq ?_
      refine IWp.seq ?_
      refine IWp.run [0, 6] ?_
      simp [go_sem, -getElem?_pos, -List.map_take, -List.map_drop, List.getElem?_cons_zero, List.getElem?_cons_succ, Go.IntWalk.iteOmega, Go.IntWalk.toNatUp, h1, h2]
      refine IWp.cond ?_
      simp [go_sem, -getElem?_pos, -List.map_take, -List.map_drop, List.getElem?_cons_zero, List.getElem?_cons_succ, Go.IntWalk.iteOmega, Go.IntWalk.toNatUp, h1, h2]
      refine IWp.trim [0] (IWp.skip ?_)
      simp [go_sem, -getElem?_pos, -List.map_take, -List.map_drop, List.getElem?_cons_zero, List.getElem?_cons_succ, Go.IntWalk.iteOmega, Go.IntWalk.toNatUp, h1, h2]
      refine IWp.seq ?_
      refine IWp.run [2] ?_
      simp [go_sem, -getElem?_pos, -List.map_take, -List.map_drop, List.getElem?_cons_zero, List.getElem?_cons_succ, Go.IntWalk.iteOmega, Go.IntWalk.toNatUp, h1, h2]
      refine IWp.ret ?_
      simp [go_sem, -getElem?_pos, -List.map_take, -List.map_drop, List.getElem?_cons_zero, List.getElem?_cons_succ, Go.IntWalk.iteOmega, Go.IntWalk.toNatUp, h1, h2, Try.results48]
      try exact .same _

theorem tdiv2 (a : Int) : (0 ≤ a → a - 1 ≤ 2 * a.tdiv 2 ∧ 2 * a.tdiv 2 ≤ a) ∧ (a < 0 → a ≤ 2 * a.tdiv 2 ∧ 2 * a.tdiv 2 ≤ a + 1) := by
  constructor
  · intro h
    rw [Int.tdiv_eq_ediv_of_nonneg h]; omega
  · intro h
    have e : (-a).tdiv 2 = -(a.tdiv 2) := Int.neg_tdiv a 2
    rw [Int.tdiv_eq_ediv_of_nonneg (by omega)] at e
    omega

theorem wrap64 (x : Int) (h : -18446744073709551616 < x ∧ x < 18446744073709551616) : IntKind.i64.wrap x = if x < -9223372036854775808 then x + 18446744073709551616 else if 9223372036854775808 ≤ x then x - 18446744073709551616 else x := by
  simp [IntKind.wrap, IntKind.bits, IntKind.signed]
  split <;> split <;> omega

set_option maxRecDepth 100000 in
theorem refSinceC (H : Heap) (now t : Int) (w1 : -9223372036854775808 ≤ now ∧ now < 9223372036854775808) (w2 : -9223372036854775808 ≤ t ∧ t < 9223372036854775808) : ICalls Try.prog 23 [.int .i64 now, .int .i64 t] H fun v H' => v = .int .i64 (sinceS now t) ∧ H' = H := by
  refine ICalls.ans (by simp [go_sem]) fun H => IBody.calls (by kernel_rfl) ?_
  have t1 := tdiv2 now
  have t2 := tdiv2 t
  have hw := wrap64 (now - t) (by omega)
  unfold sinceS
  have i1 := IntWalk.i64_in (now.tdiv 2) (by omega)
  have i2 := IntWalk.i64_in (t.tdiv 2) (by omega)
  have i3 := IntWalk.i64_in (now.tdiv 2 - t.tdiv 2) (by omega)
  by_cases h1 : now.tdiv 2 - t.tdiv 2 > 1099511627776
  · have e : (if now ≤ t then (0 : Int) else if IntKind.i64.wrap (now - t) < 0 then 1099511627776 else heldS (IntKind.i64.wrap (now - t))) = 1099511627776 := by
      rw [hw]; unfold heldS
      rw [if_neg (by omega)]
      split <;> split <;> (try split) <;> omega
    rw [e]
    refine IBody.of Try.func23 rfl (by rw [Try.ntmps23]; simp) ?_
    rw [Try.ntmps23]
    refine IWp.seq ?_
    refine IWp.run [0, 1] ?_
    simp [go_sem, -getElem?_pos, -List.map_take, -List.map_drop, List.getElem?_cons_zero, List.getElem?_cons_succ, Go.IntWalk.iteOmega, Go.IntWalk.toNatUp, h1, i1, i2, i3]
    refine IWp.seq ?_
    refine IWp.run [0, 1, 5] ?_
    simp [go_sem, -getElem?_pos, -List.map_take, -List.map_drop, List.getElem?_cons_zero, List.getElem?_cons_succ, Go.IntWalk.iteOmega, Go.IntWalk.toNatUp, h1, i1, i2, i3]
    refine IWp.seq ?_
    refine IWp.seq ?_
    refine IWp.run [0, 1, 5, 12] ?_
    simp [go_sem, -getElem?_pos, -List.map_take, -List.map_drop, List.getElem?_cons_zero, List.getElem?_cons_succ, Go.IntWalk.iteOmega, Go.IntWalk.toNatUp, h1, i1, i2, i3]
    refine IWp.cond ?_
    simp [go_sem, -getElem?_pos, -List.map_take, -List.map_drop, List.getElem?_cons_zero, List.getElem?_cons_succ, Go.IntWalk.iteOmega, Go.IntWalk.toNatUp, h1, i1, i2, i3]
    refine IWp.seq ?_
    refine IWp.run [4] ?_
    simp [go_sem, -getElem?_pos, -List.map_take, -List.map_drop, List.getElem?_cons_zero, List.getElem?_cons_succ, Go.IntWalk.iteOmega, Go.IntWalk.toNatUp, h1, i1, i2, i3]
    refine IWp.ret ?_
    simp [go_sem, -getElem?_pos, -List.map_take, -List.map_drop, List.getElem?_cons_zero, List.getElem?_cons_succ, Go.IntWalk.iteOmega, Go.IntWalk.toNatUp, h1, i1, i2, i3, Try.results23]
    try exact .same _
  · by_cases h2 : now.tdiv 2 - t.tdiv 2 < -1099511627776
    · have e : (if now ≤ t then (0 : Int) else if IntKind.i64.wrap (now - t) < 0 then 1099511627776 else heldS (IntKind.i64.wrap (now - t))) = 0 := by
        rw [if_pos (by omega)]
      rw [e]
      refine IBody.of Try.func23 rfl (by rw [Try.ntmps23]; simp) ?_
      rw [Try.ntmps23]
      refine IWp.seq ?_
      refine IWp.run [0, 1] ?_
      simp [go_sem, -getElem?_pos, -List.map_take, -List.map_drop, List.getElem?_cons_zero, List.getElem?_cons_succ, Go.IntWalk.iteOmega, Go.IntWalk.toNatUp, h1, h2, i1, i2, i3]
      refine IWp.seq ?_
      refine IWp.run [0, 1, 5] ?_
      simp [go_sem, -getElem?_pos, -List.map_take, -List.map_drop, List.getElem?_cons_zero, List.getElem?_cons_succ, Go.IntWalk.iteOmega, Go.IntWalk.toNatUp, h1, h2, i1, i2, i3]
      refine IWp.seq ?_
      refine IWp.seq ?_
      refine IWp.run [0, 1, 5, 12] ?_
      simp [go_sem, -getElem?_pos, -List.map_take, -List.map_drop, List.getElem?_cons_zero, List.getElem?_cons_succ, Go.IntWalk.iteOmega, Go.IntWalk.toNatUp, h1, h2, i1, i2, i3]
      refine IWp.cond ?_
      simp [go_sem, -getElem?_pos, -List.map_take, -List.map_drop, List.getElem?_cons_zero, List.getElem?_cons_succ, Go.IntWalk.iteOmega, Go.IntWalk.toNatUp, h1, h2, i1, i2, i3]
      refine IWp.trim [0, 1, 5] (IWp.skip ?_)
      simp [go_sem, -getElem?_pos, -List.map_take, -List.map_drop, List.getElem?_cons_zero, List.getElem?_cons_succ, Go.IntWalk.iteOmega, Go.IntWalk.toNatUp, h1, h2, i1, i2, i3]
      refine IWp.seq ?_
      refine IWp.seq ?_
      refine IWp.run [0, 1, 14] ?_
      simp [go_sem, -getElem?_pos, -List.map_take, -List.map_drop, List.getElem?_cons_zero, List.getElem?_cons_succ, Go.IntWalk.iteOmega, Go.IntWalk.toNatUp, h1, h2, i1, i2, i3]
      refine IWp.cond ?_
      simp [go_sem, -getElem?_pos, -List.map_take, -List.map_drop, List.getElem?_cons_zero, List.getElem?_cons_succ, Go.IntWalk.iteOmega, Go.IntWalk.toNatUp, h1, h2, i1, i2, i3]
      refine IWp.seq ?_
      refine IWp.run [4] ?_
      simp [go_sem, -getElem?_pos, -List.map_take, -List.map_drop, List.getElem?_cons_zero, List.getElem?_cons_succ, Go.IntWalk.iteOmega, Go.IntWalk.toNatUp, h1, h2, i1, i2, i3]
      refine IWp.ret ?_
      simp [go_sem, -getElem?_pos, -List.map_take, -List.map_drop, List.getElem?_cons_zero, List.getElem?_cons_succ, Go.IntWalk.iteOmega, Go.IntWalk.toNatUp, h1, h2, i1, i2, i3, Try.results23]
      try exact .same _
    · have e : (if now ≤ t then (0 : Int) else if IntKind.i64.wrap (now - t) < 0 then 1099511627776 else heldS (IntKind.i64.wrap (now - t))) = heldS (IntKind.i64.wrap (now - t)) := by
        rw [hw]; unfold heldS
        split <;> split <;> (try split) <;> (try split) <;> omega
      rw [e]
      have c := fun K => refHeldC K (IntKind.i64.wrap (now - t))
      refine IBody.of Try.func23 rfl (by rw [Try.ntmps23]; simp) ?_
      rw [Try.ntmps23]
      refine IWp.seq ?_
      refine IWp.run [0, 1] ?_
      simp [go_sem, -getElem?_pos, -List.map_take, -List.map_drop, List.getElem?_cons_zero, List.getElem?_cons_succ, Go.IntWalk.iteOmega, Go.IntWalk.toNatUp, h1, h2, i1, i2, i3]
      refine IWp.seq ?_
      refine IWp.run [0, 1, 5] ?_
      simp [go_sem, -getElem?_pos, -List.map_take, -List.map_drop, List.getElem?_cons_zero, List.getElem?_cons_succ, Go.IntWalk.iteOmega, Go.IntWalk.toNatUp, h1, h2, i1, i2, i3]
      refine IWp.seq ?_
      refine IWp.seq ?_
      refine IWp.run [0, 1, 5, 12] ?_
      simp [go_sem, -getElem?_pos, -List.map_take, -List.map_drop, List.getElem?_cons_zero, List.getElem?_cons_succ, Go.IntWalk.iteOmega, Go.IntWalk.toNatUp, h1, h2, i1, i2, i3]
      refine IWp.cond ?_
      simp [go_sem, -getElem?_pos, -List.map_take, -List.map_drop, List.getElem?_cons_zero, List.getElem?_cons_succ, Go.IntWalk.iteOmega, Go.IntWalk.toNatUp, h1, h2, i1, i2, i3]
      refine IWp.trim [0, 1, 5] (IWp.skip ?_)
      simp [go_sem, -getElem?_pos, -List.map_take, -List.map_drop, List.getElem?_cons_zero, List.getElem?_cons_succ, Go.IntWalk.iteOmega, Go.IntWalk.toNatUp, h1, h2, i1, i2, i3]
      refine IWp.seq ?_
      refine IWp.seq ?_
      refine IWp.run [0, 1, 14] ?_
      simp [go_sem, -getElem?_pos, -List.map_take, -List.map_drop, List.getElem?_cons_zero, List.getElem?_cons_succ, Go.IntWalk.iteOmega, Go.IntWalk.toNatUp, h1, h2, i1, i2, i3]
      refine IWp.cond ?_
      simp [go_sem, -getElem?_pos, -List.map_take, -List.map_drop, List.getElem?_cons_zero, List.getElem?_cons_succ, Go.IntWalk.iteOmega, Go.IntWalk.toNatUp, h1, h2, i1, i2, i3]
      refine IWp.trim [0, 1] (IWp.skip ?_)
      simp [go_sem, -getElem?_pos, -List.map_take, -List.map_drop, List.getElem?_cons_zero, List.getElem?_cons_succ, Go.IntWalk.iteOmega, Go.IntWalk.toNatUp, h1, h2, i1, i2, i3]
      refine IWp.seq ?_
      refine IWp.run [4] ?_
      simp [go_sem, -getElem?_pos, -List.map_take, -List.map_drop, List.getElem?_cons_zero, List.getElem?_cons_succ, Go.IntWalk.iteOmega, Go.IntWalk.toNatUp, h1, h2, i1, i2, i3]
      refine ICalls.then (c _) ?_
      try simp [go_sem, -getElem?_pos, -List.map_take, -List.map_drop, List.getElem?_cons_zero, List.getElem?_cons_succ, Go.IntWalk.iteOmega, Go.IntWalk.toNatUp, h1, h2, i1, i2, i3]
      refine IWp.ret ?_
      simp [go_sem, -getElem?_pos, -List.map_take, -List.map_drop, List.getElem?_cons_zero, List.getElem?_cons_succ, Go.IntWalk.iteOmega, Go.IntWalk.toNatUp, h1, h2, i1, i2, i3, Try.results23]
      try exact .same _

end Go.Proofs.Ytdimnoeldnfikaa.I
