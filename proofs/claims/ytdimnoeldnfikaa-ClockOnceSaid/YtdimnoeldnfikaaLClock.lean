/- The laws of clocks: sums and what has gone by. No condition. -/
import Derived.Test.YtdimnoeldnfikaaGDues
namespace Go.Proofs.Ytdimnoeldnfikaa.I
open Go Go.RowKit
set_option linter.unusedVariables false
set_option linter.unusedSimpArgs false

abbrev In64 (x : Int) : Prop := -9223372036854775808 ≤ x ∧ x < 9223372036854775808
theorem clockAdds_law (H : Heap) (t d : Int) (w1 : In64 t) (w2 : In64 d) : IBody Try.prog 4 [.int .i64 t, .int .i64 d] H fun v _ => v = .bool true := by
  refine IBody.of Try.func4 rfl (by rw [Try.ntmps4]; simp) ?_
  rw [Try.ntmps4]
  refine IWp.seq ?_
  refine IWp.run [0, 1] ?_
  simp [go_sem, -getElem?_pos, -List.map_take, -List.map_drop, List.getElem?_cons_zero, List.getElem?_cons_succ, Go.IntWalk.iteOmega, Go.IntWalk.toNatUp]
  refine IWp.seq ?_
  refine IWp.run [4] ?_
  simp [go_sem, -getElem?_pos, -List.map_take, -List.map_drop, List.getElem?_cons_zero, List.getElem?_cons_succ, Go.IntWalk.iteOmega, Go.IntWalk.toNatUp]
  refine ICalls.then (duesC _) ?_
  try simp [go_sem, -getElem?_pos, -List.map_take, -List.map_drop, List.getElem?_cons_zero, List.getElem?_cons_succ, Go.IntWalk.iteOmega, Go.IntWalk.toNatUp]
  refine ICalls.then (addC _ t d) ?_
  try simp [go_sem, -getElem?_pos, -List.map_take, -List.map_drop, List.getElem?_cons_zero, List.getElem?_cons_succ, Go.IntWalk.iteOmega, Go.IntWalk.toNatUp]
  refine ICalls.then (refAddC _ t d w1 w2) ?_
  try simp [go_sem, -getElem?_pos, -List.map_take, -List.map_drop, List.getElem?_cons_zero, List.getElem?_cons_succ, Go.IntWalk.iteOmega, Go.IntWalk.toNatUp]
  refine ICalls.then (sinceC _ t d) ?_
  try simp [go_sem, -getElem?_pos, -List.map_take, -List.map_drop, List.getElem?_cons_zero, List.getElem?_cons_succ, Go.IntWalk.iteOmega, Go.IntWalk.toNatUp]
  refine ICalls.then (refSinceC _ t d w1 w2) ?_
  try simp [go_sem, -getElem?_pos, -List.map_take, -List.map_drop, List.getElem?_cons_zero, List.getElem?_cons_succ, Go.IntWalk.iteOmega, Go.IntWalk.toNatUp]
  refine IWp.ret ?_
  simp [go_sem, -getElem?_pos, -List.map_take, -List.map_drop, List.getElem?_cons_zero, List.getElem?_cons_succ, Go.IntWalk.iteOmega, Go.IntWalk.toNatUp, Try.results4]
  try rfl

theorem addS_in (a b : Int) (w1 : 0 ≤ a ∧ a < 4294967296) (w2 : 0 ≤ b ∧ b < 4294967296) : addS a b = a + b := by
  unfold addS
  rw [IntWalk.i64_in (a + b) (by omega)]
  unfold heldS
  rw [if_neg (by omega), if_neg (by omega)]
  omega
theorem sinceS_of (a b : Int) (w1 : 0 ≤ a ∧ a < 4294967296) (w2 : 0 ≤ b ∧ b < 4294967296) : sinceS (a + b) a = b ∧ sinceS a (a + b) = 0 := by
  unfold sinceS
  rw [show a + b - a = b by omega, IntWalk.i64_in b (by omega)]
  unfold heldS
  constructor
  · split
    · omega
    · rw [if_neg (by omega)]; omega
  · rw [if_pos (by omega)]
theorem clockThere_law (H : Heap) (t d : Int) (w1 : 0 ≤ t ∧ t < 4294967296) (w2 : 0 ≤ d ∧ d < 4294967296) : IBody Try.prog 5 [.int .u32 t, .int .u32 d] H fun v _ => v = .bool true := by
  have i1 := IntWalk.i64_in t (by omega)
  have i2 := IntWalk.i64_in d (by omega)
  have i3 := IntWalk.i64_in (t + d) (by omega)
  have c1 := fun K => addC K t d
  have c2 := fun K => sinceC K (t + d) t
  have c3 := fun K => sinceC K t (t + d)
  rw [addS_in t d w1 w2] at c1
  rw [(sinceS_of t d w1 w2).1] at c2
  rw [(sinceS_of t d w1 w2).2] at c3
  refine IBody.of Try.func5 rfl (by rw [Try.ntmps5]; simp) ?_
  rw [Try.ntmps5]
  refine IWp.seq ?_
  refine IWp.run [0, 1] ?_
  simp [go_sem, -getElem?_pos, -List.map_take, -List.map_drop, List.getElem?_cons_zero, List.getElem?_cons_succ, Go.IntWalk.iteOmega, Go.IntWalk.toNatUp, i1, i2, i3]
  refine IWp.seq ?_
  refine IWp.run [5, 6] ?_
  simp [go_sem, -getElem?_pos, -List.map_take, -List.map_drop, List.getElem?_cons_zero, List.getElem?_cons_succ, Go.IntWalk.iteOmega, Go.IntWalk.toNatUp, i1, i2, i3]
  refine IWp.seq ?_
  refine IWp.run [4] ?_
  simp [go_sem, -getElem?_pos, -List.map_take, -List.map_drop, List.getElem?_cons_zero, List.getElem?_cons_succ, Go.IntWalk.iteOmega, Go.IntWalk.toNatUp, i1, i2, i3]
  refine ICalls.then (duesC _) ?_
  try simp [go_sem, -getElem?_pos, -List.map_take, -List.map_drop, List.getElem?_cons_zero, List.getElem?_cons_succ, Go.IntWalk.iteOmega, Go.IntWalk.toNatUp, i1, i2, i3]
  refine ICalls.then (c1 _) ?_
  try simp [go_sem, -getElem?_pos, -List.map_take, -List.map_drop, List.getElem?_cons_zero, List.getElem?_cons_succ, Go.IntWalk.iteOmega, Go.IntWalk.toNatUp, i1, i2, i3]
  refine ICalls.then (c2 _) ?_
  try simp [go_sem, -getElem?_pos, -List.map_take, -List.map_drop, List.getElem?_cons_zero, List.getElem?_cons_succ, Go.IntWalk.iteOmega, Go.IntWalk.toNatUp, i1, i2, i3]
  refine ICalls.then (c1 _) ?_
  try simp [go_sem, -getElem?_pos, -List.map_take, -List.map_drop, List.getElem?_cons_zero, List.getElem?_cons_succ, Go.IntWalk.iteOmega, Go.IntWalk.toNatUp, i1, i2, i3]
  refine ICalls.then (c1 _) ?_
  try simp [go_sem, -getElem?_pos, -List.map_take, -List.map_drop, List.getElem?_cons_zero, List.getElem?_cons_succ, Go.IntWalk.iteOmega, Go.IntWalk.toNatUp, i1, i2, i3]
  refine ICalls.then (c3 _) ?_
  try simp [go_sem, -getElem?_pos, -List.map_take, -List.map_drop, List.getElem?_cons_zero, List.getElem?_cons_succ, Go.IntWalk.iteOmega, Go.IntWalk.toNatUp, i1, i2, i3]
  refine IWp.ret ?_
  simp [go_sem, -getElem?_pos, -List.map_take, -List.map_drop, List.getElem?_cons_zero, List.getElem?_cons_succ, Go.IntWalk.iteOmega, Go.IntWalk.toNatUp, i1, i2, i3, Try.results5]
  try rfl

theorem addS_mono (a b d : Int) (w1 : In64 a) (w2 : In64 b) (w3 : In64 d) (h : a ≤ b) : addS a d ≤ addS b d := by
  unfold addS
  rw [wrap64 (a + d) (by omega), wrap64 (b + d) (by omega)]
  unfold heldS
  repeat' split
  all_goals omega
theorem sinceS_mono (a b d : Int) (w1 : In64 a) (w2 : In64 b) (w3 : In64 d) (h : a ≤ b) : sinceS a d ≤ sinceS b d := by
  unfold sinceS
  rw [wrap64 (a - d) (by omega), wrap64 (b - d) (by omega)]
  unfold heldS
  repeat' split
  all_goals omega
theorem sinceS_anti (a b d : Int) (w1 : In64 a) (w2 : In64 b) (w3 : In64 d) (h : a ≤ b) : sinceS d b ≤ sinceS d a := by
  unfold sinceS
  rw [wrap64 (d - a) (by omega), wrap64 (d - b) (by omega)]
  unfold heldS
  repeat' split
  all_goals omega
set_option maxRecDepth 100000 in
set_option maxHeartbeats 1000000 in
theorem clockRises_law (H : Heap) (a b d : Int) (w1 : In64 a) (w2 : In64 b) (w3 : In64 d) : IBody Try.prog 6 [.int .i64 a, .int .i64 b, .int .i64 d] H fun v _ => v = .bool true := by
  by_cases h : b < a
  · have m1 := addS_mono b a d w2 w1 w3 (by omega)
    have m2 := sinceS_mono b a d w2 w1 w3 (by omega)
    have m3 := sinceS_anti b a d w2 w1 w3 (by omega)
    refine IBody.of Try.func6 rfl (by rw [Try.ntmps6]; simp) ?_
    rw [Try.ntmps6]
    refine IWp.seq ?_
    refine IWp.run [0, 1, 2] ?_
    simp [go_sem, -getElem?_pos, -List.map_take, -List.map_drop, List.getElem?_cons_zero, List.getElem?_cons_succ, Go.IntWalk.iteOmega, Go.IntWalk.toNatUp, h, m1, m2, m3]
    refine IWp.seq ?_
    refine IWp.seq ?_
    refine IWp.run [0, 1, 2, 9] ?_
    simp [go_sem, -getElem?_pos, -List.map_take, -List.map_drop, List.getElem?_cons_zero, List.getElem?_cons_succ, Go.IntWalk.iteOmega, Go.IntWalk.toNatUp, h, m1, m2, m3]
    refine IWp.cond ?_
    simp [go_sem, -getElem?_pos, -List.map_take, -List.map_drop, List.getElem?_cons_zero, List.getElem?_cons_succ, Go.IntWalk.iteOmega, Go.IntWalk.toNatUp, h, m1, m2, m3]
    refine IWp.run [0, 1, 2] ?_
    simp [go_sem, -getElem?_pos, -List.map_take, -List.map_drop, List.getElem?_cons_zero, List.getElem?_cons_succ, Go.IntWalk.iteOmega, Go.IntWalk.toNatUp, h, m1, m2, m3]
    refine IWp.seq ?_
    refine IWp.run [6] ?_
    simp [go_sem, -getElem?_pos, -List.map_take, -List.map_drop, List.getElem?_cons_zero, List.getElem?_cons_succ, Go.IntWalk.iteOmega, Go.IntWalk.toNatUp, h, m1, m2, m3]
    refine ICalls.then (duesC _) ?_
    try simp [go_sem, -getElem?_pos, -List.map_take, -List.map_drop, List.getElem?_cons_zero, List.getElem?_cons_succ, Go.IntWalk.iteOmega, Go.IntWalk.toNatUp, h, m1, m2, m3]
    refine ICalls.then (addC _ b d) ?_
    try simp [go_sem, -getElem?_pos, -List.map_take, -List.map_drop, List.getElem?_cons_zero, List.getElem?_cons_succ, Go.IntWalk.iteOmega, Go.IntWalk.toNatUp, h, m1, m2, m3]
    refine ICalls.then (addC _ a d) ?_
    try simp [go_sem, -getElem?_pos, -List.map_take, -List.map_drop, List.getElem?_cons_zero, List.getElem?_cons_succ, Go.IntWalk.iteOmega, Go.IntWalk.toNatUp, h, m1, m2, m3]
    refine ICalls.then (sinceC _ b d) ?_
    try simp [go_sem, -getElem?_pos, -List.map_take, -List.map_drop, List.getElem?_cons_zero, List.getElem?_cons_succ, Go.IntWalk.iteOmega, Go.IntWalk.toNatUp, h, m1, m2, m3]
    refine ICalls.then (sinceC _ a d) ?_
    try simp [go_sem, -getElem?_pos, -List.map_take, -List.map_drop, List.getElem?_cons_zero, List.getElem?_cons_succ, Go.IntWalk.iteOmega, Go.IntWalk.toNatUp, h, m1, m2, m3]
    refine ICalls.then (sinceC _ d b) ?_
    try simp [go_sem, -getElem?_pos, -List.map_take, -List.map_drop, List.getElem?_cons_zero, List.getElem?_cons_succ, Go.IntWalk.iteOmega, Go.IntWalk.toNatUp, h, m1, m2, m3]
    refine ICalls.then (sinceC _ d a) ?_
    try simp [go_sem, -getElem?_pos, -List.map_take, -List.map_drop, List.getElem?_cons_zero, List.getElem?_cons_succ, Go.IntWalk.iteOmega, Go.IntWalk.toNatUp, h, m1, m2, m3]
    refine IWp.ret ?_
    simp [go_sem, -getElem?_pos, -List.map_take, -List.map_drop, List.getElem?_cons_zero, List.getElem?_cons_succ, Go.IntWalk.iteOmega, Go.IntWalk.toNatUp, h, m1, m2, m3, Try.results6]
    try rfl
  · have m1 := addS_mono a b d w1 w2 w3 (by omega)
    have m2 := sinceS_mono a b d w1 w2 w3 (by omega)
    have m3 := sinceS_anti a b d w1 w2 w3 (by omega)
    refine IBody.of Try.func6 rfl (by rw [Try.ntmps6]; simp) ?_
    rw [Try.ntmps6]
    refine IWp.seq ?_
    refine IWp.run [0, 1, 2] ?_
    simp [go_sem, -getElem?_pos, -List.map_take, -List.map_drop, List.getElem?_cons_zero, List.getElem?_cons_succ, Go.IntWalk.iteOmega, Go.IntWalk.toNatUp, h, m1, m2, m3]
    refine IWp.seq ?_
    refine IWp.seq ?_
    refine IWp.run [0, 1, 2, 9] ?_
    simp [go_sem, -getElem?_pos, -List.map_take, -List.map_drop, List.getElem?_cons_zero, List.getElem?_cons_succ, Go.IntWalk.iteOmega, Go.IntWalk.toNatUp, h, m1, m2, m3]
    refine IWp.cond ?_
    simp [go_sem, -getElem?_pos, -List.map_take, -List.map_drop, List.getElem?_cons_zero, List.getElem?_cons_succ, Go.IntWalk.iteOmega, Go.IntWalk.toNatUp, h, m1, m2, m3]
    refine IWp.trim [0, 1, 2] (IWp.skip ?_)
    simp [go_sem, -getElem?_pos, -List.map_take, -List.map_drop, List.getElem?_cons_zero, List.getElem?_cons_succ, Go.IntWalk.iteOmega, Go.IntWalk.toNatUp, h, m1, m2, m3]
    refine IWp.seq ?_
    refine IWp.run [6] ?_
    simp [go_sem, -getElem?_pos, -List.map_take, -List.map_drop, List.getElem?_cons_zero, List.getElem?_cons_succ, Go.IntWalk.iteOmega, Go.IntWalk.toNatUp, h, m1, m2, m3]
    refine ICalls.then (duesC _) ?_
    try simp [go_sem, -getElem?_pos, -List.map_take, -List.map_drop, List.getElem?_cons_zero, List.getElem?_cons_succ, Go.IntWalk.iteOmega, Go.IntWalk.toNatUp, h, m1, m2, m3]
    refine ICalls.then (addC _ a d) ?_
    try simp [go_sem, -getElem?_pos, -List.map_take, -List.map_drop, List.getElem?_cons_zero, List.getElem?_cons_succ, Go.IntWalk.iteOmega, Go.IntWalk.toNatUp, h, m1, m2, m3]
    refine ICalls.then (addC _ b d) ?_
    try simp [go_sem, -getElem?_pos, -List.map_take, -List.map_drop, List.getElem?_cons_zero, List.getElem?_cons_succ, Go.IntWalk.iteOmega, Go.IntWalk.toNatUp, h, m1, m2, m3]
    refine ICalls.then (sinceC _ a d) ?_
    try simp [go_sem, -getElem?_pos, -List.map_take, -List.map_drop, List.getElem?_cons_zero, List.getElem?_cons_succ, Go.IntWalk.iteOmega, Go.IntWalk.toNatUp, h, m1, m2, m3]
    refine ICalls.then (sinceC _ b d) ?_
    try simp [go_sem, -getElem?_pos, -List.map_take, -List.map_drop, List.getElem?_cons_zero, List.getElem?_cons_succ, Go.IntWalk.iteOmega, Go.IntWalk.toNatUp, h, m1, m2, m3]
    refine ICalls.then (sinceC _ d a) ?_
    try simp [go_sem, -getElem?_pos, -List.map_take, -List.map_drop, List.getElem?_cons_zero, List.getElem?_cons_succ, Go.IntWalk.iteOmega, Go.IntWalk.toNatUp, h, m1, m2, m3]
    refine ICalls.then (sinceC _ d b) ?_
    try simp [go_sem, -getElem?_pos, -List.map_take, -List.map_drop, List.getElem?_cons_zero, List.getElem?_cons_succ, Go.IntWalk.iteOmega, Go.IntWalk.toNatUp, h, m1, m2, m3]
    refine IWp.ret ?_
    simp [go_sem, -getElem?_pos, -List.map_take, -List.map_drop, List.getElem?_cons_zero, List.getElem?_cons_succ, Go.IntWalk.iteOmega, Go.IntWalk.toNatUp, h, m1, m2, m3, Try.results6]
    try rfl

theorem addS_held (a b : Int) (w1 : In64 a) (w2 : In64 b) : 0 ≤ addS a b ∧ addS a b ≤ 1099511627776 := by
  unfold addS
  unfold heldS
  repeat' split
  all_goals omega
theorem sinceS_held (a b : Int) : 0 ≤ sinceS a b ∧ sinceS a b ≤ 1099511627776 := by
  unfold sinceS
  unfold heldS
  repeat' split
  all_goals omega
theorem clockHeld_law (H : Heap) (a b : Int) (w1 : In64 a) (w2 : In64 b) : IBody Try.prog 7 [.int .i64 a, .int .i64 b] H fun v _ => v = .bool true := by
  obtain ⟨m1, m2⟩ := addS_held a b w1 w2
  obtain ⟨m3, m4⟩ := sinceS_held a b
  refine IBody.of Try.func7 rfl (by rw [Try.ntmps7]; simp) ?_
  rw [Try.ntmps7]
  refine IWp.seq ?_
  refine IWp.run [0, 1] ?_
  simp [go_sem, -getElem?_pos, -List.map_take, -List.map_drop, List.getElem?_cons_zero, List.getElem?_cons_succ, Go.IntWalk.iteOmega, Go.IntWalk.toNatUp, m1, m2, m3, m4]
  refine IWp.seq ?_
  refine IWp.run [5, 6] ?_
  simp [go_sem, -getElem?_pos, -List.map_take, -List.map_drop, List.getElem?_cons_zero, List.getElem?_cons_succ, Go.IntWalk.iteOmega, Go.IntWalk.toNatUp, m1, m2, m3, m4]
  refine ICalls.then (addC _ a b) ?_
  try simp [go_sem, -getElem?_pos, -List.map_take, -List.map_drop, List.getElem?_cons_zero, List.getElem?_cons_succ, Go.IntWalk.iteOmega, Go.IntWalk.toNatUp, m1, m2, m3, m4]
  refine ICalls.then (sinceC _ a b) ?_
  try simp [go_sem, -getElem?_pos, -List.map_take, -List.map_drop, List.getElem?_cons_zero, List.getElem?_cons_succ, Go.IntWalk.iteOmega, Go.IntWalk.toNatUp, m1, m2, m3, m4]
  refine IWp.seq ?_
  refine IWp.run [4] ?_
  simp [go_sem, -getElem?_pos, -List.map_take, -List.map_drop, List.getElem?_cons_zero, List.getElem?_cons_succ, Go.IntWalk.iteOmega, Go.IntWalk.toNatUp, m1, m2, m3, m4]
  refine ICalls.then (duesC _) ?_
  try simp [go_sem, -getElem?_pos, -List.map_take, -List.map_drop, List.getElem?_cons_zero, List.getElem?_cons_succ, Go.IntWalk.iteOmega, Go.IntWalk.toNatUp, m1, m2, m3, m4]
  refine IWp.ret ?_
  simp [go_sem, -getElem?_pos, -List.map_take, -List.map_drop, List.getElem?_cons_zero, List.getElem?_cons_succ, Go.IntWalk.iteOmega, Go.IntWalk.toNatUp, m1, m2, m3, m4, Try.results7]
  try rfl

theorem nilAt (H : Heap) (x : Int) : ICalls Try.prog 29 [.pointer none, .int .i64 x] H fun v H' => v = .tuple ⟨[.int .i64 0, .bool false]⟩ ∧ H' = H := by
  refine ICalls.ans (by simp [go_sem]) fun H => IBody.calls (by kernel_rfl) ?_
  refine IBody.of Try.func29 rfl (by rw [Try.ntmps29]; simp) ?_
  rw [Try.ntmps29]
  refine IWp.seq ?_
  refine IWp.run [0, 1] ?_
  simp [go_sem, -getElem?_pos, -List.map_take, -List.map_drop, List.getElem?_cons_zero, List.getElem?_cons_succ, Go.IntWalk.iteOmega, Go.IntWalk.toNatUp]
  refine IWp.seq ?_
  refine IWp.seq ?_
  refine IWp.run [0, 1, 9] ?_
  simp [go_sem, -getElem?_pos, -List.map_take, -List.map_drop, List.getElem?_cons_zero, List.getElem?_cons_succ, Go.IntWalk.iteOmega, Go.IntWalk.toNatUp]
  refine IWp.cond ?_
  simp [go_sem, -getElem?_pos, -List.map_take, -List.map_drop, List.getElem?_cons_zero, List.getElem?_cons_succ, Go.IntWalk.iteOmega, Go.IntWalk.toNatUp]
  refine IWp.seq ?_
  refine IWp.run [4, 5] ?_
  simp [go_sem, -getElem?_pos, -List.map_take, -List.map_drop, List.getElem?_cons_zero, List.getElem?_cons_succ, Go.IntWalk.iteOmega, Go.IntWalk.toNatUp]
  refine IWp.ret ?_
  simp [go_sem, -getElem?_pos, -List.map_take, -List.map_drop, List.getElem?_cons_zero, List.getElem?_cons_succ, Go.IntWalk.iteOmega, Go.IntWalk.toNatUp, Try.results29]
  try exact .same _
theorem nilSet (H : Heap) (x v : Int) : ICalls Try.prog 17 [.pointer none, .int .i64 x, .int .i64 v] H fun v H' => v = .tuple ⟨[]⟩ ∧ H' = H := by
  refine ICalls.ans (by simp [go_sem]) fun H => IBody.calls (by kernel_rfl) ?_
  refine IBody.of Try.func17 rfl (by rw [Try.ntmps17]; simp) ?_
  rw [Try.ntmps17]
  refine IWp.seq ?_
  refine IWp.run [0, 1, 2, 7] ?_
  simp [go_sem, -getElem?_pos, -List.map_take, -List.map_drop, List.getElem?_cons_zero, List.getElem?_cons_succ, Go.IntWalk.iteOmega, Go.IntWalk.toNatUp]
  refine IWp.cond ?_
  simp [go_sem, -getElem?_pos, -List.map_take, -List.map_drop, List.getElem?_cons_zero, List.getElem?_cons_succ, Go.IntWalk.iteOmega, Go.IntWalk.toNatUp]
  refine IWp.trim [] (IWp.skip ?_)
  simp [go_sem, -getElem?_pos, -List.map_take, -List.map_drop, List.getElem?_cons_zero, List.getElem?_cons_succ, Go.IntWalk.iteOmega, Go.IntWalk.toNatUp]
  try exact .same _
theorem nilStop (H : Heap) (x : Int) : ICalls Try.prog 26 [.pointer none, .int .i64 x] H fun v H' => v = .bool false ∧ H' = H := by
  refine ICalls.ans (by simp [go_sem]) fun H => IBody.calls (by kernel_rfl) ?_
  refine IBody.of Try.func26 rfl (by rw [Try.ntmps26]; simp) ?_
  rw [Try.ntmps26]
  refine IWp.seq ?_
  refine IWp.run [0, 1] ?_
  simp [go_sem, -getElem?_pos, -List.map_take, -List.map_drop, List.getElem?_cons_zero, List.getElem?_cons_succ, Go.IntWalk.iteOmega, Go.IntWalk.toNatUp]
  refine IWp.seq ?_
  refine IWp.run [0, 1, 6] ?_
  simp [go_sem, -getElem?_pos, -List.map_take, -List.map_drop, List.getElem?_cons_zero, List.getElem?_cons_succ, Go.IntWalk.iteOmega, Go.IntWalk.toNatUp]
  refine ICalls.then (nilAt _ x) ?_
  try simp [go_sem, -getElem?_pos, -List.map_take, -List.map_drop, List.getElem?_cons_zero, List.getElem?_cons_succ, Go.IntWalk.iteOmega, Go.IntWalk.toNatUp]
  refine IWp.seq ?_
  refine IWp.seq ?_
  refine IWp.run [0, 1, 6, 13] ?_
  simp [go_sem, -getElem?_pos, -List.map_take, -List.map_drop, List.getElem?_cons_zero, List.getElem?_cons_succ, Go.IntWalk.iteOmega, Go.IntWalk.toNatUp]
  refine IWp.cond ?_
  simp [go_sem, -getElem?_pos, -List.map_take, -List.map_drop, List.getElem?_cons_zero, List.getElem?_cons_succ, Go.IntWalk.iteOmega, Go.IntWalk.toNatUp]
  refine IWp.trim [6] (IWp.skip ?_)
  simp [go_sem, -getElem?_pos, -List.map_take, -List.map_drop, List.getElem?_cons_zero, List.getElem?_cons_succ, Go.IntWalk.iteOmega, Go.IntWalk.toNatUp]
  refine IWp.seq ?_
  refine IWp.run [4] ?_
  simp [go_sem, -getElem?_pos, -List.map_take, -List.map_drop, List.getElem?_cons_zero, List.getElem?_cons_succ, Go.IntWalk.iteOmega, Go.IntWalk.toNatUp]
  refine IWp.ret ?_
  simp [go_sem, -getElem?_pos, -List.map_take, -List.map_drop, List.getElem?_cons_zero, List.getElem?_cons_succ, Go.IntWalk.iteOmega, Go.IntWalk.toNatUp, Try.results26]
  try exact .same _
theorem nilDue (H : Heap) (x : Int) : ICalls Try.prog 18 [.pointer none, .int .i64 x] H fun v H' => v = frow 1 0 [] ∧ H' = H := by
  refine ICalls.ans (by simp [go_sem]) fun H => IBody.calls (by kernel_rfl) ?_
  refine IBody.of Try.func18 rfl (by rw [Try.ntmps18]; simp) ?_
  rw [Try.ntmps18]
  refine IWp.seq ?_
  refine IWp.run [1, 2] ?_
  simp [go_sem, -getElem?_pos, -List.map_take, -List.map_drop, List.getElem?_cons_zero, List.getElem?_cons_succ, Go.IntWalk.iteOmega, Go.IntWalk.toNatUp, get_alloc]
  refine IWp.seq ?_
  refine IWp.seq ?_
  refine IWp.run [1, 2, 11] ?_
  simp [go_sem, -getElem?_pos, -List.map_take, -List.map_drop, List.getElem?_cons_zero, List.getElem?_cons_succ, Go.IntWalk.iteOmega, Go.IntWalk.toNatUp, get_alloc]
  refine IWp.cond ?_
  simp [go_sem, -getElem?_pos, -List.map_take, -List.map_drop, List.getElem?_cons_zero, List.getElem?_cons_succ, Go.IntWalk.iteOmega, Go.IntWalk.toNatUp, get_alloc]
  refine IWp.seq ?_
  refine IWp.run [4] ?_
  simp [go_sem, -getElem?_pos, -List.map_take, -List.map_drop, List.getElem?_cons_zero, List.getElem?_cons_succ, Go.IntWalk.iteOmega, Go.IntWalk.toNatUp, get_alloc]
  refine IWp.ret ?_
  simp [go_sem, -getElem?_pos, -List.map_take, -List.map_drop, List.getElem?_cons_zero, List.getElem?_cons_succ, Go.IntWalk.iteOmega, Go.IntWalk.toNatUp, get_alloc, Try.results18]
  try exact .nil 1
theorem nilLen (H : Heap) : ICalls Try.prog 19 [.pointer none] H fun v H' => v = .int .i64 0 ∧ H' = H := by
  refine ICalls.ans (by simp [go_sem]) fun H => IBody.calls (by kernel_rfl) ?_
  refine IBody.of Try.func19 rfl (by rw [Try.ntmps19]; simp) ?_
  rw [Try.ntmps19]
  refine IWp.seq ?_
  refine IWp.run [0] ?_
  simp [go_sem, -getElem?_pos, -List.map_take, -List.map_drop, List.getElem?_cons_zero, List.getElem?_cons_succ, Go.IntWalk.iteOmega, Go.IntWalk.toNatUp]
  refine IWp.seq ?_
  refine IWp.seq ?_
  refine IWp.run [0, 4] ?_
  simp [go_sem, -getElem?_pos, -List.map_take, -List.map_drop, List.getElem?_cons_zero, List.getElem?_cons_succ, Go.IntWalk.iteOmega, Go.IntWalk.toNatUp]
  refine IWp.cond ?_
  simp [go_sem, -getElem?_pos, -List.map_take, -List.map_drop, List.getElem?_cons_zero, List.getElem?_cons_succ, Go.IntWalk.iteOmega, Go.IntWalk.toNatUp]
  refine IWp.seq ?_
  refine IWp.run [2] ?_
  simp [go_sem, -getElem?_pos, -List.map_take, -List.map_drop, List.getElem?_cons_zero, List.getElem?_cons_succ, Go.IntWalk.iteOmega, Go.IntWalk.toNatUp]
  refine IWp.ret ?_
  simp [go_sem, -getElem?_pos, -List.map_take, -List.map_drop, List.getElem?_cons_zero, List.getElem?_cons_succ, Go.IntWalk.iteOmega, Go.IntWalk.toNatUp, Try.results19]
  try exact .same _
theorem clockNil_law (H : Heap) (id at_ : Int) : IBody Try.prog 9 [.int .i64 id, .int .i64 at_] H fun v _ => v = .bool true := by
  refine IBody.of Try.func9 rfl (by rw [Try.ntmps9]; simp) ?_
  rw [Try.ntmps9]
  refine IWp.seq ?_
  refine IWp.run [0, 1] ?_
  simp [go_sem, -getElem?_pos, -List.map_take, -List.map_drop, List.getElem?_cons_zero, List.getElem?_cons_succ, Go.IntWalk.iteOmega, Go.IntWalk.toNatUp, IntWalk.i64_in 0 (by omega)]
  refine IWp.seq ?_
  refine IWp.run [0, 1, 5] ?_
  simp [go_sem, -getElem?_pos, -List.map_take, -List.map_drop, List.getElem?_cons_zero, List.getElem?_cons_succ, Go.IntWalk.iteOmega, Go.IntWalk.toNatUp, IntWalk.i64_in 0 (by omega)]
  refine IWp.seq ?_
  refine IWp.run [0, 1, 5] ?_
  simp [go_sem, -getElem?_pos, -List.map_take, -List.map_drop, List.getElem?_cons_zero, List.getElem?_cons_succ, Go.IntWalk.iteOmega, Go.IntWalk.toNatUp, IntWalk.i64_in 0 (by omega)]
  refine ICalls.then (nilSet _ id at_) ?_
  try simp [go_sem, -getElem?_pos, -List.map_take, -List.map_drop, List.getElem?_cons_zero, List.getElem?_cons_succ, Go.IntWalk.iteOmega, Go.IntWalk.toNatUp, IntWalk.i64_in 0 (by omega)]
  refine IWp.seq ?_
  refine IWp.run [0, 1, 5, 7] ?_
  simp [go_sem, -getElem?_pos, -List.map_take, -List.map_drop, List.getElem?_cons_zero, List.getElem?_cons_succ, Go.IntWalk.iteOmega, Go.IntWalk.toNatUp, IntWalk.i64_in 0 (by omega)]
  refine ICalls.then (nilAt _ id) ?_
  try simp [go_sem, -getElem?_pos, -List.map_take, -List.map_drop, List.getElem?_cons_zero, List.getElem?_cons_succ, Go.IntWalk.iteOmega, Go.IntWalk.toNatUp, IntWalk.i64_in 0 (by omega)]
  refine IWp.seq ?_
  refine IWp.run [4] ?_
  simp [go_sem, -getElem?_pos, -List.map_take, -List.map_drop, List.getElem?_cons_zero, List.getElem?_cons_succ, Go.IntWalk.iteOmega, Go.IntWalk.toNatUp, IntWalk.i64_in 0 (by omega)]
  refine ICalls.then (duesC _) ?_
  try simp [go_sem, -getElem?_pos, -List.map_take, -List.map_drop, List.getElem?_cons_zero, List.getElem?_cons_succ, Go.IntWalk.iteOmega, Go.IntWalk.toNatUp, IntWalk.i64_in 0 (by omega)]
  refine ICalls.then (nilStop _ id) ?_
  try simp [go_sem, -getElem?_pos, -List.map_take, -List.map_drop, List.getElem?_cons_zero, List.getElem?_cons_succ, Go.IntWalk.iteOmega, Go.IntWalk.toNatUp, IntWalk.i64_in 0 (by omega)]
  refine ICalls.then (nilDue _ at_) ?_
  try simp [go_sem, -getElem?_pos, -List.map_take, -List.map_drop, List.getElem?_cons_zero, List.getElem?_cons_succ, Go.IntWalk.iteOmega, Go.IntWalk.toNatUp, IntWalk.i64_in 0 (by omega)]
  refine ICalls.then (nilLen _) ?_
  try simp [go_sem, -getElem?_pos, -List.map_take, -List.map_drop, List.getElem?_cons_zero, List.getElem?_cons_succ, Go.IntWalk.iteOmega, Go.IntWalk.toNatUp, IntWalk.i64_in 0 (by omega)]
  refine IWp.ret ?_
  simp [go_sem, -getElem?_pos, -List.map_take, -List.map_drop, List.getElem?_cons_zero, List.getElem?_cons_succ, Go.IntWalk.iteOmega, Go.IntWalk.toNatUp, IntWalk.i64_in 0 (by omega), Try.results9]
  try rfl

end Go.Proofs.Ytdimnoeldnfikaa.I
