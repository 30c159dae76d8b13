/- What must hold of a rule, as the document says it. No condition. -/
import Derived.Test.YtmiinclnpcokkaaGCheckB
namespace Go.Proofs.Ytmiinclnpcokkaa.I
open Go Go.RowKit
set_option linter.unusedVariables false
set_option linter.unusedSimpArgs false

theorem broken3 (H : Heap) (c : Config) (r : Rule) (hl : r.stages.length ≤ 1000000) (hs : c.sigs.length ≤ 1000000) : ICalls Try.prog 44 [c.val, r.val, .int .i64 4] H fun v H' => v = .bool (!(ruleB c.sigs.length 3 r)) ∧ H' = H := by
  refine ICalls.ans (by simp [go_sem]) fun H => IBody.calls (by kernel_rfl) ?_
  simp only [ruleB]
  by_cases a1 : r.kind < 1
  · rw [show inS r.kind 1 6 = false from inS_not.2 (by omega)]
    refine IBody.of Try.func44 rfl (by rw [Try.ntmps44]; simp) ?_
    rw [Try.ntmps44]
    refine IWp.seq ?_
    refine IWp.run [2, 3, 4] ?_
    simp [go_sem, -getElem?_pos, -List.map_take, -List.map_drop, List.getElem?_cons_zero, List.getElem?_cons_succ, Go.IntWalk.iteOmega, Go.IntWalk.toNatUp, a1, Config.val, Config.cells, Rule.val, Rule.cells]
    refine IWp.seq ?_
    refine IWp.run [2, 3, 4, 7] ?_
    simp [go_sem, -getElem?_pos, -List.map_take, -List.map_drop, List.getElem?_cons_zero, List.getElem?_cons_succ, Go.IntWalk.iteOmega, Go.IntWalk.toNatUp, a1, Config.val, Config.cells, Rule.val, Rule.cells]
    refine IWp.seq ?_
    refine IWp.seq ?_
    refine IWp.run [3, 4, 7, 13] ?_
    simp [go_sem, -getElem?_pos, -List.map_take, -List.map_drop, List.getElem?_cons_zero, List.getElem?_cons_succ, Go.IntWalk.iteOmega, Go.IntWalk.toNatUp, a1, Config.val, Config.cells, Rule.val, Rule.cells]
    refine IWp.block ?_
    refine IWp.seq ?_
    refine IWp.run [3, 4, 7, 13, 14] ?_
    simp [go_sem, -getElem?_pos, -List.map_take, -List.map_drop, List.getElem?_cons_zero, List.getElem?_cons_succ, Go.IntWalk.iteOmega, Go.IntWalk.toNatUp, a1, Config.val, Config.cells, Rule.val, Rule.cells]
    refine IWp.cond ?_
    simp [go_sem, -getElem?_pos, -List.map_take, -List.map_drop, List.getElem?_cons_zero, List.getElem?_cons_succ, Go.IntWalk.iteOmega, Go.IntWalk.toNatUp, a1, Config.val, Config.cells, Rule.val, Rule.cells]
    refine IWp.seq ?_
    refine IWp.run [6] ?_
    simp [go_sem, -getElem?_pos, -List.map_take, -List.map_drop, List.getElem?_cons_zero, List.getElem?_cons_succ, Go.IntWalk.iteOmega, Go.IntWalk.toNatUp, a1, Config.val, Config.cells, Rule.val, Rule.cells]
    refine IWp.ret ?_
    simp [go_sem, -getElem?_pos, -List.map_take, -List.map_drop, List.getElem?_cons_zero, List.getElem?_cons_succ, Go.IntWalk.iteOmega, Go.IntWalk.toNatUp, a1, Config.val, Config.cells, Rule.val, Rule.cells, Try.results44]
    try exact .same _
  by_cases a2 : 6 < r.kind
  · rw [show inS r.kind 1 6 = false from inS_not.2 (by omega)]
    refine IBody.of Try.func44 rfl (by rw [Try.ntmps44]; simp) ?_
    rw [Try.ntmps44]
    refine IWp.seq ?_
    refine IWp.run [2, 3, 4] ?_
    simp [go_sem, -getElem?_pos, -List.map_take, -List.map_drop, List.getElem?_cons_zero, List.getElem?_cons_succ, Go.IntWalk.iteOmega, Go.IntWalk.toNatUp, a1, a2, Config.val, Config.cells, Rule.val, Rule.cells]
    refine IWp.seq ?_
    refine IWp.run [2, 3, 4, 7] ?_
    simp [go_sem, -getElem?_pos, -List.map_take, -List.map_drop, List.getElem?_cons_zero, List.getElem?_cons_succ, Go.IntWalk.iteOmega, Go.IntWalk.toNatUp, a1, a2, Config.val, Config.cells, Rule.val, Rule.cells]
    refine IWp.seq ?_
    refine IWp.seq ?_
    refine IWp.run [3, 4, 7, 13] ?_
    simp [go_sem, -getElem?_pos, -List.map_take, -List.map_drop, List.getElem?_cons_zero, List.getElem?_cons_succ, Go.IntWalk.iteOmega, Go.IntWalk.toNatUp, a1, a2, Config.val, Config.cells, Rule.val, Rule.cells]
    refine IWp.block ?_
    refine IWp.seq ?_
    refine IWp.run [3, 4, 7, 13, 14] ?_
    simp [go_sem, -getElem?_pos, -List.map_take, -List.map_drop, List.getElem?_cons_zero, List.getElem?_cons_succ, Go.IntWalk.iteOmega, Go.IntWalk.toNatUp, a1, a2, Config.val, Config.cells, Rule.val, Rule.cells]
    refine IWp.cond ?_
    simp [go_sem, -getElem?_pos, -List.map_take, -List.map_drop, List.getElem?_cons_zero, List.getElem?_cons_succ, Go.IntWalk.iteOmega, Go.IntWalk.toNatUp, a1, a2, Config.val, Config.cells, Rule.val, Rule.cells]
    refine IWp.seq ?_
    refine IWp.run [6] ?_
    simp [go_sem, -getElem?_pos, -List.map_take, -List.map_drop, List.getElem?_cons_zero, List.getElem?_cons_succ, Go.IntWalk.iteOmega, Go.IntWalk.toNatUp, a1, a2, Config.val, Config.cells, Rule.val, Rule.cells]
    refine IWp.ret ?_
    simp [go_sem, -getElem?_pos, -List.map_take, -List.map_drop, List.getElem?_cons_zero, List.getElem?_cons_succ, Go.IntWalk.iteOmega, Go.IntWalk.toNatUp, a1, a2, Config.val, Config.cells, Rule.val, Rule.cells, Try.results44]
    try exact .same _
  · rw [show inS r.kind 1 6 = true from inS_iff.2 (by omega)]
    refine IBody.of Try.func44 rfl (by rw [Try.ntmps44]; simp) ?_
    rw [Try.ntmps44]
    refine IWp.seq ?_
    refine IWp.run [2, 3, 4] ?_
    simp [go_sem, -getElem?_pos, -List.map_take, -List.map_drop, List.getElem?_cons_zero, List.getElem?_cons_succ, Go.IntWalk.iteOmega, Go.IntWalk.toNatUp, a1, a2, Config.val, Config.cells, Rule.val, Rule.cells]
    refine IWp.seq ?_
    refine IWp.run [2, 3, 4, 7] ?_
    simp [go_sem, -getElem?_pos, -List.map_take, -List.map_drop, List.getElem?_cons_zero, List.getElem?_cons_succ, Go.IntWalk.iteOmega, Go.IntWalk.toNatUp, a1, a2, Config.val, Config.cells, Rule.val, Rule.cells]
    refine IWp.seq ?_
    refine IWp.seq ?_
    refine IWp.run [3, 4, 7, 13] ?_
    simp [go_sem, -getElem?_pos, -List.map_take, -List.map_drop, List.getElem?_cons_zero, List.getElem?_cons_succ, Go.IntWalk.iteOmega, Go.IntWalk.toNatUp, a1, a2, Config.val, Config.cells, Rule.val, Rule.cells]
    refine IWp.block ?_
    refine IWp.seq ?_
    refine IWp.run [3, 4, 7, 13, 14] ?_
    simp [go_sem, -getElem?_pos, -List.map_take, -List.map_drop, List.getElem?_cons_zero, List.getElem?_cons_succ, Go.IntWalk.iteOmega, Go.IntWalk.toNatUp, a1, a2, Config.val, Config.cells, Rule.val, Rule.cells]
    refine IWp.cond ?_
    simp [go_sem, -getElem?_pos, -List.map_take, -List.map_drop, List.getElem?_cons_zero, List.getElem?_cons_succ, Go.IntWalk.iteOmega, Go.IntWalk.toNatUp, a1, a2, Config.val, Config.cells, Rule.val, Rule.cells]
    refine IWp.seq ?_
    refine IWp.run [6] ?_
    simp [go_sem, -getElem?_pos, -List.map_take, -List.map_drop, List.getElem?_cons_zero, List.getElem?_cons_succ, Go.IntWalk.iteOmega, Go.IntWalk.toNatUp, a1, a2, Config.val, Config.cells, Rule.val, Rule.cells]
    refine IWp.ret ?_
    simp [go_sem, -getElem?_pos, -List.map_take, -List.map_drop, List.getElem?_cons_zero, List.getElem?_cons_succ, Go.IntWalk.iteOmega, Go.IntWalk.toNatUp, a1, a2, Config.val, Config.cells, Rule.val, Rule.cells, Try.results44]
    try exact .same _

theorem broken4 (H : Heap) (c : Config) (r : Rule) (hl : r.stages.length ≤ 1000000) (hs : c.sigs.length ≤ 1000000) : ICalls Try.prog 44 [c.val, r.val, .int .i64 5] H fun v H' => v = .bool (!(ruleB c.sigs.length 4 r)) ∧ H' = H := by
  refine ICalls.ans (by simp [go_sem]) fun H => IBody.calls (by kernel_rfl) ?_
  simp only [ruleB]
  by_cases a1 : r.sg < 0
  · rw [show inS r.sg 0 ((c.sigs.length : Int) - 1) = false from inS_not.2 (by omega)]
    refine IBody.of Try.func44 rfl (by rw [Try.ntmps44]; simp) ?_
    rw [Try.ntmps44]
    refine IWp.seq ?_
    refine IWp.run [2, 3, 4] ?_
    simp [go_sem, -getElem?_pos, -List.map_take, -List.map_drop, List.getElem?_cons_zero, List.getElem?_cons_succ, Go.IntWalk.iteOmega, Go.IntWalk.toNatUp, a1, Config.val, Config.cells, Rule.val, Rule.cells]
    refine IWp.seq ?_
    refine IWp.run [2, 3, 4, 7] ?_
    simp [go_sem, -getElem?_pos, -List.map_take, -List.map_drop, List.getElem?_cons_zero, List.getElem?_cons_succ, Go.IntWalk.iteOmega, Go.IntWalk.toNatUp, a1, Config.val, Config.cells, Rule.val, Rule.cells]
    refine IWp.seq ?_
    refine IWp.seq ?_
    refine IWp.run [3, 4, 7, 13] ?_
    simp [go_sem, -getElem?_pos, -List.map_take, -List.map_drop, List.getElem?_cons_zero, List.getElem?_cons_succ, Go.IntWalk.iteOmega, Go.IntWalk.toNatUp, a1, Config.val, Config.cells, Rule.val, Rule.cells]
    refine IWp.block ?_
    refine IWp.seq ?_
    refine IWp.run [3, 4, 7, 13, 14] ?_
    simp [go_sem, -getElem?_pos, -List.map_take, -List.map_drop, List.getElem?_cons_zero, List.getElem?_cons_succ, Go.IntWalk.iteOmega, Go.IntWalk.toNatUp, a1, Config.val, Config.cells, Rule.val, Rule.cells]
    refine IWp.cond ?_
    simp [go_sem, -getElem?_pos, -List.map_take, -List.map_drop, List.getElem?_cons_zero, List.getElem?_cons_succ, Go.IntWalk.iteOmega, Go.IntWalk.toNatUp, a1, Config.val, Config.cells, Rule.val, Rule.cells]
    refine IWp.seq ?_
    refine IWp.run [3, 4, 7, 13, 22] ?_
    simp [go_sem, -getElem?_pos, -List.map_take, -List.map_drop, List.getElem?_cons_zero, List.getElem?_cons_succ, Go.IntWalk.iteOmega, Go.IntWalk.toNatUp, a1, Config.val, Config.cells, Rule.val, Rule.cells]
    refine IWp.cond ?_
    simp [go_sem, -getElem?_pos, -List.map_take, -List.map_drop, List.getElem?_cons_zero, List.getElem?_cons_succ, Go.IntWalk.iteOmega, Go.IntWalk.toNatUp, a1, Config.val, Config.cells, Rule.val, Rule.cells]
    refine IWp.seq ?_
    refine IWp.run [6] ?_
    simp [go_sem, -getElem?_pos, -List.map_take, -List.map_drop, List.getElem?_cons_zero, List.getElem?_cons_succ, Go.IntWalk.iteOmega, Go.IntWalk.toNatUp, a1, Config.val, Config.cells, Rule.val, Rule.cells]
    refine IWp.ret ?_
    simp [go_sem, -getElem?_pos, -List.map_take, -List.map_drop, List.getElem?_cons_zero, List.getElem?_cons_succ, Go.IntWalk.iteOmega, Go.IntWalk.toNatUp, a1, Config.val, Config.cells, Rule.val, Rule.cells, Try.results44]
    try exact .same _
  by_cases a2 : (c.sigs.length : Int) ≤ r.sg
  · rw [show inS r.sg 0 ((c.sigs.length : Int) - 1) = false from inS_not.2 (by omega)]
    refine IBody.of Try.func44 rfl (by rw [Try.ntmps44]; simp) ?_
    rw [Try.ntmps44]
    refine IWp.seq ?_
    refine IWp.run [2, 3, 4] ?_
    simp [go_sem, -getElem?_pos, -List.map_take, -List.map_drop, List.getElem?_cons_zero, List.getElem?_cons_succ, Go.IntWalk.iteOmega, Go.IntWalk.toNatUp, a1, a2, Config.val, Config.cells, Rule.val, Rule.cells]
    refine IWp.seq ?_
    refine IWp.run [2, 3, 4, 7] ?_
    simp [go_sem, -getElem?_pos, -List.map_take, -List.map_drop, List.getElem?_cons_zero, List.getElem?_cons_succ, Go.IntWalk.iteOmega, Go.IntWalk.toNatUp, a1, a2, Config.val, Config.cells, Rule.val, Rule.cells]
    refine IWp.seq ?_
    refine IWp.seq ?_
    refine IWp.run [3, 4, 7, 13] ?_
    simp [go_sem, -getElem?_pos, -List.map_take, -List.map_drop, List.getElem?_cons_zero, List.getElem?_cons_succ, Go.IntWalk.iteOmega, Go.IntWalk.toNatUp, a1, a2, Config.val, Config.cells, Rule.val, Rule.cells]
    refine IWp.block ?_
    refine IWp.seq ?_
    refine IWp.run [3, 4, 7, 13, 14] ?_
    simp [go_sem, -getElem?_pos, -List.map_take, -List.map_drop, List.getElem?_cons_zero, List.getElem?_cons_succ, Go.IntWalk.iteOmega, Go.IntWalk.toNatUp, a1, a2, Config.val, Config.cells, Rule.val, Rule.cells]
    refine IWp.cond ?_
    simp [go_sem, -getElem?_pos, -List.map_take, -List.map_drop, List.getElem?_cons_zero, List.getElem?_cons_succ, Go.IntWalk.iteOmega, Go.IntWalk.toNatUp, a1, a2, Config.val, Config.cells, Rule.val, Rule.cells]
    refine IWp.seq ?_
    refine IWp.run [3, 4, 7, 13, 22] ?_
    simp [go_sem, -getElem?_pos, -List.map_take, -List.map_drop, List.getElem?_cons_zero, List.getElem?_cons_succ, Go.IntWalk.iteOmega, Go.IntWalk.toNatUp, a1, a2, Config.val, Config.cells, Rule.val, Rule.cells]
    refine IWp.cond ?_
    simp [go_sem, -getElem?_pos, -List.map_take, -List.map_drop, List.getElem?_cons_zero, List.getElem?_cons_succ, Go.IntWalk.iteOmega, Go.IntWalk.toNatUp, a1, a2, Config.val, Config.cells, Rule.val, Rule.cells]
    refine IWp.seq ?_
    refine IWp.run [6] ?_
    simp [go_sem, -getElem?_pos, -List.map_take, -List.map_drop, List.getElem?_cons_zero, List.getElem?_cons_succ, Go.IntWalk.iteOmega, Go.IntWalk.toNatUp, a1, a2, Config.val, Config.cells, Rule.val, Rule.cells]
    refine IWp.ret ?_
    simp [go_sem, -getElem?_pos, -List.map_take, -List.map_drop, List.getElem?_cons_zero, List.getElem?_cons_succ, Go.IntWalk.iteOmega, Go.IntWalk.toNatUp, a1, a2, Config.val, Config.cells, Rule.val, Rule.cells, Try.results44]
    try exact .same _
  · rw [show inS r.sg 0 ((c.sigs.length : Int) - 1) = true from inS_iff.2 (by omega)]
    refine IBody.of Try.func44 rfl (by rw [Try.ntmps44]; simp) ?_
    rw [Try.ntmps44]
    refine IWp.seq ?_
    refine IWp.run [2, 3, 4] ?_
    simp [go_sem, -getElem?_pos, -List.map_take, -List.map_drop, List.getElem?_cons_zero, List.getElem?_cons_succ, Go.IntWalk.iteOmega, Go.IntWalk.toNatUp, a1, a2, Config.val, Config.cells, Rule.val, Rule.cells]
    refine IWp.seq ?_
    refine IWp.run [2, 3, 4, 7] ?_
    simp [go_sem, -getElem?_pos, -List.map_take, -List.map_drop, List.getElem?_cons_zero, List.getElem?_cons_succ, Go.IntWalk.iteOmega, Go.IntWalk.toNatUp, a1, a2, Config.val, Config.cells, Rule.val, Rule.cells]
    refine IWp.seq ?_
    refine IWp.seq ?_
    refine IWp.run [3, 4, 7, 13] ?_
    simp [go_sem, -getElem?_pos, -List.map_take, -List.map_drop, List.getElem?_cons_zero, List.getElem?_cons_succ, Go.IntWalk.iteOmega, Go.IntWalk.toNatUp, a1, a2, Config.val, Config.cells, Rule.val, Rule.cells]
    refine IWp.block ?_
    refine IWp.seq ?_
    refine IWp.run [3, 4, 7, 13, 14] ?_
    simp [go_sem, -getElem?_pos, -List.map_take, -List.map_drop, List.getElem?_cons_zero, List.getElem?_cons_succ, Go.IntWalk.iteOmega, Go.IntWalk.toNatUp, a1, a2, Config.val, Config.cells, Rule.val, Rule.cells]
    refine IWp.cond ?_
    simp [go_sem, -getElem?_pos, -List.map_take, -List.map_drop, List.getElem?_cons_zero, List.getElem?_cons_succ, Go.IntWalk.iteOmega, Go.IntWalk.toNatUp, a1, a2, Config.val, Config.cells, Rule.val, Rule.cells]
    refine IWp.seq ?_
    refine IWp.run [3, 4, 7, 13, 22] ?_
    simp [go_sem, -getElem?_pos, -List.map_take, -List.map_drop, List.getElem?_cons_zero, List.getElem?_cons_succ, Go.IntWalk.iteOmega, Go.IntWalk.toNatUp, a1, a2, Config.val, Config.cells, Rule.val, Rule.cells]
    refine IWp.cond ?_
    simp [go_sem, -getElem?_pos, -List.map_take, -List.map_drop, List.getElem?_cons_zero, List.getElem?_cons_succ, Go.IntWalk.iteOmega, Go.IntWalk.toNatUp, a1, a2, Config.val, Config.cells, Rule.val, Rule.cells]
    refine IWp.seq ?_
    refine IWp.run [6] ?_
    simp [go_sem, -getElem?_pos, -List.map_take, -List.map_drop, List.getElem?_cons_zero, List.getElem?_cons_succ, Go.IntWalk.iteOmega, Go.IntWalk.toNatUp, a1, a2, Config.val, Config.cells, Rule.val, Rule.cells]
    refine IWp.ret ?_
    simp [go_sem, -getElem?_pos, -List.map_take, -List.map_drop, List.getElem?_cons_zero, List.getElem?_cons_succ, Go.IntWalk.iteOmega, Go.IntWalk.toNatUp, a1, a2, Config.val, Config.cells, Rule.val, Rule.cells, Try.results44]
    try exact .same _

theorem broken7 (H : Heap) (c : Config) (r : Rule) (hl : r.stages.length ≤ 1000000) (hs : c.sigs.length ≤ 1000000) : ICalls Try.prog 44 [c.val, r.val, .int .i64 8] H fun v H' => v = .bool (!(ruleB c.sigs.length 7 r)) ∧ H' = H := by
  refine ICalls.ans (by simp [go_sem]) fun H => IBody.calls (by kernel_rfl) ?_
  simp only [ruleB]
  by_cases a1 : r.delay < 0
  · rw [show inS r.delay 0 10000 = false from inS_not.2 (by omega)]
    refine IBody.of Try.func44 rfl (by rw [Try.ntmps44]; simp) ?_
    rw [Try.ntmps44]
    refine IWp.seq ?_
    refine IWp.run [2, 3, 4] ?_
    simp [go_sem, -getElem?_pos, -List.map_take, -List.map_drop, List.getElem?_cons_zero, List.getElem?_cons_succ, Go.IntWalk.iteOmega, Go.IntWalk.toNatUp, a1, Config.val, Config.cells, Rule.val, Rule.cells]
    refine IWp.seq ?_
    refine IWp.run [2, 3, 4, 7] ?_
    simp [go_sem, -getElem?_pos, -List.map_take, -List.map_drop, List.getElem?_cons_zero, List.getElem?_cons_succ, Go.IntWalk.iteOmega, Go.IntWalk.toNatUp, a1, Config.val, Config.cells, Rule.val, Rule.cells]
    refine IWp.seq ?_
    refine IWp.seq ?_
    refine IWp.run [3, 4, 7, 13] ?_
    simp [go_sem, -getElem?_pos, -List.map_take, -List.map_drop, List.getElem?_cons_zero, List.getElem?_cons_succ, Go.IntWalk.iteOmega, Go.IntWalk.toNatUp, a1, Config.val, Config.cells, Rule.val, Rule.cells]
    refine IWp.block ?_
    refine IWp.seq ?_
    refine IWp.run [3, 4, 7, 13, 14] ?_
    simp [go_sem, -getElem?_pos, -List.map_take, -List.map_drop, List.getElem?_cons_zero, List.getElem?_cons_succ, Go.IntWalk.iteOmega, Go.IntWalk.toNatUp, a1, Config.val, Config.cells, Rule.val, Rule.cells]
    refine IWp.cond ?_
    simp [go_sem, -getElem?_pos, -List.map_take, -List.map_drop, List.getElem?_cons_zero, List.getElem?_cons_succ, Go.IntWalk.iteOmega, Go.IntWalk.toNatUp, a1, Config.val, Config.cells, Rule.val, Rule.cells]
    refine IWp.seq ?_
    refine IWp.run [3, 4, 7, 13, 22] ?_
    simp [go_sem, -getElem?_pos, -List.map_take, -List.map_drop, List.getElem?_cons_zero, List.getElem?_cons_succ, Go.IntWalk.iteOmega, Go.IntWalk.toNatUp, a1, Config.val, Config.cells, Rule.val, Rule.cells]
    refine IWp.cond ?_
    simp [go_sem, -getElem?_pos, -List.map_take, -List.map_drop, List.getElem?_cons_zero, List.getElem?_cons_succ, Go.IntWalk.iteOmega, Go.IntWalk.toNatUp, a1, Config.val, Config.cells, Rule.val, Rule.cells]
    refine IWp.seq ?_
    refine IWp.run [4, 7, 13, 35] ?_
    simp [go_sem, -getElem?_pos, -List.map_take, -List.map_drop, List.getElem?_cons_zero, List.getElem?_cons_succ, Go.IntWalk.iteOmega, Go.IntWalk.toNatUp, a1, Config.val, Config.cells, Rule.val, Rule.cells]
    refine IWp.cond ?_
    simp [go_sem, -getElem?_pos, -List.map_take, -List.map_drop, List.getElem?_cons_zero, List.getElem?_cons_succ, Go.IntWalk.iteOmega, Go.IntWalk.toNatUp, a1, Config.val, Config.cells, Rule.val, Rule.cells]
    refine IWp.seq ?_
    refine IWp.run [4, 7, 13, 110] ?_
    simp [go_sem, -getElem?_pos, -List.map_take, -List.map_drop, List.getElem?_cons_zero, List.getElem?_cons_succ, Go.IntWalk.iteOmega, Go.IntWalk.toNatUp, a1, Config.val, Config.cells, Rule.val, Rule.cells]
    refine IWp.cond ?_
    simp [go_sem, -getElem?_pos, -List.map_take, -List.map_drop, List.getElem?_cons_zero, List.getElem?_cons_succ, Go.IntWalk.iteOmega, Go.IntWalk.toNatUp, a1, Config.val, Config.cells, Rule.val, Rule.cells]
    refine IWp.seq ?_
    refine IWp.run [4, 13, 133] ?_
    simp [go_sem, -getElem?_pos, -List.map_take, -List.map_drop, List.getElem?_cons_zero, List.getElem?_cons_succ, Go.IntWalk.iteOmega, Go.IntWalk.toNatUp, a1, Config.val, Config.cells, Rule.val, Rule.cells]
    refine IWp.cond ?_
    simp [go_sem, -getElem?_pos, -List.map_take, -List.map_drop, List.getElem?_cons_zero, List.getElem?_cons_succ, Go.IntWalk.iteOmega, Go.IntWalk.toNatUp, a1, Config.val, Config.cells, Rule.val, Rule.cells]
    refine IWp.seq ?_
    refine IWp.run [6] ?_
    simp [go_sem, -getElem?_pos, -List.map_take, -List.map_drop, List.getElem?_cons_zero, List.getElem?_cons_succ, Go.IntWalk.iteOmega, Go.IntWalk.toNatUp, a1, Config.val, Config.cells, Rule.val, Rule.cells]
    refine IWp.ret ?_
    simp [go_sem, -getElem?_pos, -List.map_take, -List.map_drop, List.getElem?_cons_zero, List.getElem?_cons_succ, Go.IntWalk.iteOmega, Go.IntWalk.toNatUp, a1, Config.val, Config.cells, Rule.val, Rule.cells, Try.results44]
    try exact .same _
  by_cases a2 : 10000 < r.delay
  · rw [show inS r.delay 0 10000 = false from inS_not.2 (by omega)]
    refine IBody.of Try.func44 rfl (by rw [Try.ntmps44]; simp) ?_
    rw [Try.ntmps44]
    refine IWp.seq ?_
    refine IWp.run [2, 3, 4] ?_
    simp [go_sem, -getElem?_pos, -List.map_take, -List.map_drop, List.getElem?_cons_zero, List.getElem?_cons_succ, Go.IntWalk.iteOmega, Go.IntWalk.toNatUp, a1, a2, Config.val, Config.cells, Rule.val, Rule.cells]
    refine IWp.seq ?_
    refine IWp.run [2, 3, 4, 7] ?_
    simp [go_sem, -getElem?_pos, -List.map_take, -List.map_drop, List.getElem?_cons_zero, List.getElem?_cons_succ, Go.IntWalk.iteOmega, Go.IntWalk.toNatUp, a1, a2, Config.val, Config.cells, Rule.val, Rule.cells]
    refine IWp.seq ?_
    refine IWp.seq ?_
    refine IWp.run [3, 4, 7, 13] ?_
    simp [go_sem, -getElem?_pos, -List.map_take, -List.map_drop, List.getElem?_cons_zero, List.getElem?_cons_succ, Go.IntWalk.iteOmega, Go.IntWalk.toNatUp, a1, a2, Config.val, Config.cells, Rule.val, Rule.cells]
    refine IWp.block ?_
    refine IWp.seq ?_
    refine IWp.run [3, 4, 7, 13, 14] ?_
    simp [go_sem, -getElem?_pos, -List.map_take, -List.map_drop, List.getElem?_cons_zero, List.getElem?_cons_succ, Go.IntWalk.iteOmega, Go.IntWalk.toNatUp, a1, a2, Config.val, Config.cells, Rule.val, Rule.cells]
    refine IWp.cond ?_
    simp [go_sem, -getElem?_pos, -List.map_take, -List.map_drop, List.getElem?_cons_zero, List.getElem?_cons_succ, Go.IntWalk.iteOmega, Go.IntWalk.toNatUp, a1, a2, Config.val, Config.cells, Rule.val, Rule.cells]
    refine IWp.seq ?_
    refine IWp.run [3, 4, 7, 13, 22] ?_
    simp [go_sem, -getElem?_pos, -List.map_take, -List.map_drop, List.getElem?_cons_zero, List.getElem?_cons_succ, Go.IntWalk.iteOmega, Go.IntWalk.toNatUp, a1, a2, Config.val, Config.cells, Rule.val, Rule.cells]
    refine IWp.cond ?_
    simp [go_sem, -getElem?_pos, -List.map_take, -List.map_drop, List.getElem?_cons_zero, List.getElem?_cons_succ, Go.IntWalk.iteOmega, Go.IntWalk.toNatUp, a1, a2, Config.val, Config.cells, Rule.val, Rule.cells]
    refine IWp.seq ?_
    refine IWp.run [4, 7, 13, 35] ?_
    simp [go_sem, -getElem?_pos, -List.map_take, -List.map_drop, List.getElem?_cons_zero, List.getElem?_cons_succ, Go.IntWalk.iteOmega, Go.IntWalk.toNatUp, a1, a2, Config.val, Config.cells, Rule.val, Rule.cells]
    refine IWp.cond ?_
    simp [go_sem, -getElem?_pos, -List.map_take, -List.map_drop, List.getElem?_cons_zero, List.getElem?_cons_succ, Go.IntWalk.iteOmega, Go.IntWalk.toNatUp, a1, a2, Config.val, Config.cells, Rule.val, Rule.cells]
    refine IWp.seq ?_
    refine IWp.run [4, 7, 13, 110] ?_
    simp [go_sem, -getElem?_pos, -List.map_take, -List.map_drop, List.getElem?_cons_zero, List.getElem?_cons_succ, Go.IntWalk.iteOmega, Go.IntWalk.toNatUp, a1, a2, Config.val, Config.cells, Rule.val, Rule.cells]
    refine IWp.cond ?_
    simp [go_sem, -getElem?_pos, -List.map_take, -List.map_drop, List.getElem?_cons_zero, List.getElem?_cons_succ, Go.IntWalk.iteOmega, Go.IntWalk.toNatUp, a1, a2, Config.val, Config.cells, Rule.val, Rule.cells]
    refine IWp.seq ?_
    refine IWp.run [4, 13, 133] ?_
    simp [go_sem, -getElem?_pos, -List.map_take, -List.map_drop, List.getElem?_cons_zero, List.getElem?_cons_succ, Go.IntWalk.iteOmega, Go.IntWalk.toNatUp, a1, a2, Config.val, Config.cells, Rule.val, Rule.cells]
    refine IWp.cond ?_
    simp [go_sem, -getElem?_pos, -List.map_take, -List.map_drop, List.getElem?_cons_zero, List.getElem?_cons_succ, Go.IntWalk.iteOmega, Go.IntWalk.toNatUp, a1, a2, Config.val, Config.cells, Rule.val, Rule.cells]
    refine IWp.seq ?_
    refine IWp.run [6] ?_
    simp [go_sem, -getElem?_pos, -List.map_take, -List.map_drop, List.getElem?_cons_zero, List.getElem?_cons_succ, Go.IntWalk.iteOmega, Go.IntWalk.toNatUp, a1, a2, Config.val, Config.cells, Rule.val, Rule.cells]
    refine IWp.ret ?_
    simp [go_sem, -getElem?_pos, -List.map_take, -List.map_drop, List.getElem?_cons_zero, List.getElem?_cons_succ, Go.IntWalk.iteOmega, Go.IntWalk.toNatUp, a1, a2, Config.val, Config.cells, Rule.val, Rule.cells, Try.results44]
    try exact .same _
  · rw [show inS r.delay 0 10000 = true from inS_iff.2 (by omega)]
    refine IBody.of Try.func44 rfl (by rw [Try.ntmps44]; simp) ?_
    rw [Try.ntmps44]
    refine IWp.seq ?_
    refine IWp.run [2, 3, 4] ?_
    simp [go_sem, -getElem?_pos, -List.map_take, -List.map_drop, List.getElem?_cons_zero, List.getElem?_cons_succ, Go.IntWalk.iteOmega, Go.IntWalk.toNatUp, a1, a2, Config.val, Config.cells, Rule.val, Rule.cells]
    refine IWp.seq ?_
    refine IWp.run [2, 3, 4, 7] ?_
    simp [go_sem, -getElem?_pos, -List.map_take, -List.map_drop, List.getElem?_cons_zero, List.getElem?_cons_succ, Go.IntWalk.iteOmega, Go.IntWalk.toNatUp, a1, a2, Config.val, Config.cells, Rule.val, Rule.cells]
    refine IWp.seq ?_
    refine IWp.seq ?_
    refine IWp.run [3, 4, 7, 13] ?_
    simp [go_sem, -getElem?_pos, -List.map_take, -List.map_drop, List.getElem?_cons_zero, List.getElem?_cons_succ, Go.IntWalk.iteOmega, Go.IntWalk.toNatUp, a1, a2, Config.val, Config.cells, Rule.val, Rule.cells]
    refine IWp.block ?_
    refine IWp.seq ?_
    refine IWp.run [3, 4, 7, 13, 14] ?_
    simp [go_sem, -getElem?_pos, -List.map_take, -List.map_drop, List.getElem?_cons_zero, List.getElem?_cons_succ, Go.IntWalk.iteOmega, Go.IntWalk.toNatUp, a1, a2, Config.val, Config.cells, Rule.val, Rule.cells]
    refine IWp.cond ?_
    simp [go_sem, -getElem?_pos, -List.map_take, -List.map_drop, List.getElem?_cons_zero, List.getElem?_cons_succ, Go.IntWalk.iteOmega, Go.IntWalk.toNatUp, a1, a2, Config.val, Config.cells, Rule.val, Rule.cells]
    refine IWp.seq ?_
    refine IWp.run [3, 4, 7, 13, 22] ?_
    simp [go_sem, -getElem?_pos, -List.map_take, -List.map_drop, List.getElem?_cons_zero, List.getElem?_cons_succ, Go.IntWalk.iteOmega, Go.IntWalk.toNatUp, a1, a2, Config.val, Config.cells, Rule.val, Rule.cells]
    refine IWp.cond ?_
    simp [go_sem, -getElem?_pos, -List.map_take, -List.map_drop, List.getElem?_cons_zero, List.getElem?_cons_succ, Go.IntWalk.iteOmega, Go.IntWalk.toNatUp, a1, a2, Config.val, Config.cells, Rule.val, Rule.cells]
    refine IWp.seq ?_
    refine IWp.run [4, 7, 13, 35] ?_
    simp [go_sem, -getElem?_pos, -List.map_take, -List.map_drop, List.getElem?_cons_zero, List.getElem?_cons_succ, Go.IntWalk.iteOmega, Go.IntWalk.toNatUp, a1, a2, Config.val, Config.cells, Rule.val, Rule.cells]
    refine IWp.cond ?_
    simp [go_sem, -getElem?_pos, -List.map_take, -List.map_drop, List.getElem?_cons_zero, List.getElem?_cons_succ, Go.IntWalk.iteOmega, Go.IntWalk.toNatUp, a1, a2, Config.val, Config.cells, Rule.val, Rule.cells]
    refine IWp.seq ?_
    refine IWp.run [4, 7, 13, 110] ?_
    simp [go_sem, -getElem?_pos, -List.map_take, -List.map_drop, List.getElem?_cons_zero, List.getElem?_cons_succ, Go.IntWalk.iteOmega, Go.IntWalk.toNatUp, a1, a2, Config.val, Config.cells, Rule.val, Rule.cells]
    refine IWp.cond ?_
    simp [go_sem, -getElem?_pos, -List.map_take, -List.map_drop, List.getElem?_cons_zero, List.getElem?_cons_succ, Go.IntWalk.iteOmega, Go.IntWalk.toNatUp, a1, a2, Config.val, Config.cells, Rule.val, Rule.cells]
    refine IWp.seq ?_
    refine IWp.run [4, 13, 133] ?_
    simp [go_sem, -getElem?_pos, -List.map_take, -List.map_drop, List.getElem?_cons_zero, List.getElem?_cons_succ, Go.IntWalk.iteOmega, Go.IntWalk.toNatUp, a1, a2, Config.val, Config.cells, Rule.val, Rule.cells]
    refine IWp.cond ?_
    simp [go_sem, -getElem?_pos, -List.map_take, -List.map_drop, List.getElem?_cons_zero, List.getElem?_cons_succ, Go.IntWalk.iteOmega, Go.IntWalk.toNatUp, a1, a2, Config.val, Config.cells, Rule.val, Rule.cells]
    refine IWp.seq ?_
    refine IWp.run [6] ?_
    simp [go_sem, -getElem?_pos, -List.map_take, -List.map_drop, List.getElem?_cons_zero, List.getElem?_cons_succ, Go.IntWalk.iteOmega, Go.IntWalk.toNatUp, a1, a2, Config.val, Config.cells, Rule.val, Rule.cells]
    refine IWp.ret ?_
    simp [go_sem, -getElem?_pos, -List.map_take, -List.map_drop, List.getElem?_cons_zero, List.getElem?_cons_succ, Go.IntWalk.iteOmega, Go.IntWalk.toNatUp, a1, a2, Config.val, Config.cells, Rule.val, Rule.cells, Try.results44]
    try exact .same _

theorem broken8 (H : Heap) (c : Config) (r : Rule) (hl : r.stages.length ≤ 1000000) (hs : c.sigs.length ≤ 1000000) : ICalls Try.prog 44 [c.val, r.val, .int .i64 9] H fun v H' => v = .bool (!(ruleB c.sigs.length 8 r)) ∧ H' = H := by
  refine ICalls.ans (by simp [go_sem]) fun H => IBody.calls (by kernel_rfl) ?_
  simp only [ruleB]
  by_cases a1 : r.prio < 1
  · rw [show inS r.prio 1 3 = false from inS_not.2 (by omega)]
    refine IBody.of Try.func44 rfl (by rw [Try.ntmps44]; simp) ?_
    rw [Try.ntmps44]
    refine IWp.seq ?_
    refine IWp.run [2, 3, 4] ?_
    simp [go_sem, -getElem?_pos, -List.map_take, -List.map_drop, List.getElem?_cons_zero, List.getElem?_cons_succ, Go.IntWalk.iteOmega, Go.IntWalk.toNatUp, a1, Config.val, Config.cells, Rule.val, Rule.cells]
    refine IWp.seq ?_
    refine IWp.run [2, 3, 4, 7] ?_
    simp [go_sem, -getElem?_pos, -List.map_take, -List.map_drop, List.getElem?_cons_zero, List.getElem?_cons_succ, Go.IntWalk.iteOmega, Go.IntWalk.toNatUp, a1, Config.val, Config.cells, Rule.val, Rule.cells]
    refine IWp.seq ?_
    refine IWp.seq ?_
    refine IWp.run [3, 4, 7, 13] ?_
    simp [go_sem, -getElem?_pos, -List.map_take, -List.map_drop, List.getElem?_cons_zero, List.getElem?_cons_succ, Go.IntWalk.iteOmega, Go.IntWalk.toNatUp, a1, Config.val, Config.cells, Rule.val, Rule.cells]
    refine IWp.block ?_
    refine IWp.seq ?_
    refine IWp.run [3, 4, 7, 13, 14] ?_
    simp [go_sem, -getElem?_pos, -List.map_take, -List.map_drop, List.getElem?_cons_zero, List.getElem?_cons_succ, Go.IntWalk.iteOmega, Go.IntWalk.toNatUp, a1, Config.val, Config.cells, Rule.val, Rule.cells]
    refine IWp.cond ?_
    simp [go_sem, -getElem?_pos, -List.map_take, -List.map_drop, List.getElem?_cons_zero, List.getElem?_cons_succ, Go.IntWalk.iteOmega, Go.IntWalk.toNatUp, a1, Config.val, Config.cells, Rule.val, Rule.cells]
    refine IWp.seq ?_
    refine IWp.run [3, 4, 7, 13, 22] ?_
    simp [go_sem, -getElem?_pos, -List.map_take, -List.map_drop, List.getElem?_cons_zero, List.getElem?_cons_succ, Go.IntWalk.iteOmega, Go.IntWalk.toNatUp, a1, Config.val, Config.cells, Rule.val, Rule.cells]
    refine IWp.cond ?_
    simp [go_sem, -getElem?_pos, -List.map_take, -List.map_drop, List.getElem?_cons_zero, List.getElem?_cons_succ, Go.IntWalk.iteOmega, Go.IntWalk.toNatUp, a1, Config.val, Config.cells, Rule.val, Rule.cells]
    refine IWp.seq ?_
    refine IWp.run [4, 7, 13, 35] ?_
    simp [go_sem, -getElem?_pos, -List.map_take, -List.map_drop, List.getElem?_cons_zero, List.getElem?_cons_succ, Go.IntWalk.iteOmega, Go.IntWalk.toNatUp, a1, Config.val, Config.cells, Rule.val, Rule.cells]
    refine IWp.cond ?_
    simp [go_sem, -getElem?_pos, -List.map_take, -List.map_drop, List.getElem?_cons_zero, List.getElem?_cons_succ, Go.IntWalk.iteOmega, Go.IntWalk.toNatUp, a1, Config.val, Config.cells, Rule.val, Rule.cells]
    refine IWp.seq ?_
    refine IWp.run [4, 7, 13, 110] ?_
    simp [go_sem, -getElem?_pos, -List.map_take, -List.map_drop, List.getElem?_cons_zero, List.getElem?_cons_succ, Go.IntWalk.iteOmega, Go.IntWalk.toNatUp, a1, Config.val, Config.cells, Rule.val, Rule.cells]
    refine IWp.cond ?_
    simp [go_sem, -getElem?_pos, -List.map_take, -List.map_drop, List.getElem?_cons_zero, List.getElem?_cons_succ, Go.IntWalk.iteOmega, Go.IntWalk.toNatUp, a1, Config.val, Config.cells, Rule.val, Rule.cells]
    refine IWp.seq ?_
    refine IWp.run [4, 13, 133] ?_
    simp [go_sem, -getElem?_pos, -List.map_take, -List.map_drop, List.getElem?_cons_zero, List.getElem?_cons_succ, Go.IntWalk.iteOmega, Go.IntWalk.toNatUp, a1, Config.val, Config.cells, Rule.val, Rule.cells]
    refine IWp.cond ?_
    simp [go_sem, -getElem?_pos, -List.map_take, -List.map_drop, List.getElem?_cons_zero, List.getElem?_cons_succ, Go.IntWalk.iteOmega, Go.IntWalk.toNatUp, a1, Config.val, Config.cells, Rule.val, Rule.cells]
    refine IWp.seq ?_
    refine IWp.run [4, 143] ?_
    simp [go_sem, -getElem?_pos, -List.map_take, -List.map_drop, List.getElem?_cons_zero, List.getElem?_cons_succ, Go.IntWalk.iteOmega, Go.IntWalk.toNatUp, a1, Config.val, Config.cells, Rule.val, Rule.cells]
    refine IWp.cond ?_
    simp [go_sem, -getElem?_pos, -List.map_take, -List.map_drop, List.getElem?_cons_zero, List.getElem?_cons_succ, Go.IntWalk.iteOmega, Go.IntWalk.toNatUp, a1, Config.val, Config.cells, Rule.val, Rule.cells]
    refine IWp.seq ?_
    refine IWp.run [6] ?_
    simp [go_sem, -getElem?_pos, -List.map_take, -List.map_drop, List.getElem?_cons_zero, List.getElem?_cons_succ, Go.IntWalk.iteOmega, Go.IntWalk.toNatUp, a1, Config.val, Config.cells, Rule.val, Rule.cells]
    refine IWp.ret ?_
    simp [go_sem, -getElem?_pos, -List.map_take, -List.map_drop, List.getElem?_cons_zero, List.getElem?_cons_succ, Go.IntWalk.iteOmega, Go.IntWalk.toNatUp, a1, Config.val, Config.cells, Rule.val, Rule.cells, Try.results44]
    try exact .same _
  by_cases a2 : 3 < r.prio
  · rw [show inS r.prio 1 3 = false from inS_not.2 (by omega)]
    refine IBody.of Try.func44 rfl (by rw [Try.ntmps44]; simp) ?_
    rw [Try.ntmps44]
    refine IWp.seq ?_
    refine IWp.run [2, 3, 4] ?_
    simp [go_sem, -getElem?_pos, -List.map_take, -List.map_drop, List.getElem?_cons_zero, List.getElem?_cons_succ, Go.IntWalk.iteOmega, Go.IntWalk.toNatUp, a1, a2, Config.val, Config.cells, Rule.val, Rule.cells]
    refine IWp.seq ?_
    refine IWp.run [2, 3, 4, 7] ?_
    simp [go_sem, -getElem?_pos, -List.map_take, -List.map_drop, List.getElem?_cons_zero, List.getElem?_cons_succ, Go.IntWalk.iteOmega, Go.IntWalk.toNatUp, a1, a2, Config.val, Config.cells, Rule.val, Rule.cells]
    refine IWp.seq ?_
    refine IWp.seq ?_
    refine IWp.run [3, 4, 7, 13] ?_
    simp [go_sem, -getElem?_pos, -List.map_take, -List.map_drop, List.getElem?_cons_zero, List.getElem?_cons_succ, Go.IntWalk.iteOmega, Go.IntWalk.toNatUp, a1, a2, Config.val, Config.cells, Rule.val, Rule.cells]
    refine IWp.block ?_
    refine IWp.seq ?_
    refine IWp.run [3, 4, 7, 13, 14] ?_
    simp [go_sem, -getElem?_pos, -List.map_take, -List.map_drop, List.getElem?_cons_zero, List.getElem?_cons_succ, Go.IntWalk.iteOmega, Go.IntWalk.toNatUp, a1, a2, Config.val, Config.cells, Rule.val, Rule.cells]
    refine IWp.cond ?_
    simp [go_sem, -getElem?_pos, -List.map_take, -List.map_drop, List.getElem?_cons_zero, List.getElem?_cons_succ, Go.IntWalk.iteOmega, Go.IntWalk.toNatUp, a1, a2, Config.val, Config.cells, Rule.val, Rule.cells]
    refine IWp.seq ?_
    refine IWp.run [3, 4, 7, 13, 22] ?_
    simp [go_sem, -getElem?_pos, -List.map_take, -List.map_drop, List.getElem?_cons_zero, List.getElem?_cons_succ, Go.IntWalk.iteOmega, Go.IntWalk.toNatUp, a1, a2, Config.val, Config.cells, Rule.val, Rule.cells]
    refine IWp.cond ?_
    simp [go_sem, -getElem?_pos, -List.map_take, -List.map_drop, List.getElem?_cons_zero, List.getElem?_cons_succ, Go.IntWalk.iteOmega, Go.IntWalk.toNatUp, a1, a2, Config.val, Config.cells, Rule.val, Rule.cells]
    refine IWp.seq ?_
    refine IWp.run [4, 7, 13, 35] ?_
    simp [go_sem, -getElem?_pos, -List.map_take, -List.map_drop, List.getElem?_cons_zero, List.getElem?_cons_succ, Go.IntWalk.iteOmega, Go.IntWalk.toNatUp, a1, a2, Config.val, Config.cells, Rule.val, Rule.cells]
    refine IWp.cond ?_
    simp [go_sem, -getElem?_pos, -List.map_take, -List.map_drop, List.getElem?_cons_zero, List.getElem?_cons_succ, Go.IntWalk.iteOmega, Go.IntWalk.toNatUp, a1, a2, Config.val, Config.cells, Rule.val, Rule.cells]
    refine IWp.seq ?_
    refine IWp.run [4, 7, 13, 110] ?_
    simp [go_sem, -getElem?_pos, -List.map_take, -List.map_drop, List.getElem?_cons_zero, List.getElem?_cons_succ, Go.IntWalk.iteOmega, Go.IntWalk.toNatUp, a1, a2, Config.val, Config.cells, Rule.val, Rule.cells]
    refine IWp.cond ?_
    simp [go_sem, -getElem?_pos, -List.map_take, -List.map_drop, List.getElem?_cons_zero, List.getElem?_cons_succ, Go.IntWalk.iteOmega, Go.IntWalk.toNatUp, a1, a2, Config.val, Config.cells, Rule.val, Rule.cells]
    refine IWp.seq ?_
    refine IWp.run [4, 13, 133] ?_
    simp [go_sem, -getElem?_pos, -List.map_take, -List.map_drop, List.getElem?_cons_zero, List.getElem?_cons_succ, Go.IntWalk.iteOmega, Go.IntWalk.toNatUp, a1, a2, Config.val, Config.cells, Rule.val, Rule.cells]
    refine IWp.cond ?_
    simp [go_sem, -getElem?_pos, -List.map_take, -List.map_drop, List.getElem?_cons_zero, List.getElem?_cons_succ, Go.IntWalk.iteOmega, Go.IntWalk.toNatUp, a1, a2, Config.val, Config.cells, Rule.val, Rule.cells]
    refine IWp.seq ?_
    refine IWp.run [4, 143] ?_
    simp [go_sem, -getElem?_pos, -List.map_take, -List.map_drop, List.getElem?_cons_zero, List.getElem?_cons_succ, Go.IntWalk.iteOmega, Go.IntWalk.toNatUp, a1, a2, Config.val, Config.cells, Rule.val, Rule.cells]
    refine IWp.cond ?_
    simp [go_sem, -getElem?_pos, -List.map_take, -List.map_drop, List.getElem?_cons_zero, List.getElem?_cons_succ, Go.IntWalk.iteOmega, Go.IntWalk.toNatUp, a1, a2, Config.val, Config.cells, Rule.val, Rule.cells]
    refine IWp.seq ?_
    refine IWp.run [6] ?_
    simp [go_sem, -getElem?_pos, -List.map_take, -List.map_drop, List.getElem?_cons_zero, List.getElem?_cons_succ, Go.IntWalk.iteOmega, Go.IntWalk.toNatUp, a1, a2, Config.val, Config.cells, Rule.val, Rule.cells]
    refine IWp.ret ?_
    simp [go_sem, -getElem?_pos, -List.map_take, -List.map_drop, List.getElem?_cons_zero, List.getElem?_cons_succ, Go.IntWalk.iteOmega, Go.IntWalk.toNatUp, a1, a2, Config.val, Config.cells, Rule.val, Rule.cells, Try.results44]
    try exact .same _
  · rw [show inS r.prio 1 3 = true from inS_iff.2 (by omega)]
    refine IBody.of Try.func44 rfl (by rw [Try.ntmps44]; simp) ?_
    rw [Try.ntmps44]
    refine IWp.seq ?_
    refine IWp.run [2, 3, 4] ?_
    simp [go_sem, -getElem?_pos, -List.map_take, -List.map_drop, List.getElem?_cons_zero, List.getElem?_cons_succ, Go.IntWalk.iteOmega, Go.IntWalk.toNatUp, a1, a2, Config.val, Config.cells, Rule.val, Rule.cells]
    refine IWp.seq ?_
    refine IWp.run [2, 3, 4, 7] ?_
    simp [go_sem, -getElem?_pos, -List.map_take, -List.map_drop, List.getElem?_cons_zero, List.getElem?_cons_succ, Go.IntWalk.iteOmega, Go.IntWalk.toNatUp, a1, a2, Config.val, Config.cells, Rule.val, Rule.cells]
    refine IWp.seq ?_
    refine IWp.seq ?_
    refine IWp.run [3, 4, 7, 13] ?_
    simp [go_sem, -getElem?_pos, -List.map_take, -List.map_drop, List.getElem?_cons_zero, List.getElem?_cons_succ, Go.IntWalk.iteOmega, Go.IntWalk.toNatUp, a1, a2, Config.val, Config.cells, Rule.val, Rule.cells]
    refine IWp.block ?_
    refine IWp.seq ?_
    refine IWp.run [3, 4, 7, 13, 14] ?_
    simp [go_sem, -getElem?_pos, -List.map_take, -List.map_drop, List.getElem?_cons_zero, List.getElem?_cons_succ, Go.IntWalk.iteOmega, Go.IntWalk.toNatUp, a1, a2, Config.val, Config.cells, Rule.val, Rule.cells]
    refine IWp.cond ?_
    simp [go_sem, -getElem?_pos, -List.map_take, -List.map_drop, List.getElem?_cons_zero, List.getElem?_cons_succ, Go.IntWalk.iteOmega, Go.IntWalk.toNatUp, a1, a2, Config.val, Config.cells, Rule.val, Rule.cells]
    refine IWp.seq ?_
    refine IWp.run [3, 4, 7, 13, 22] ?_
    simp [go_sem, -getElem?_pos, -List.map_take, -List.map_drop, List.getElem?_cons_zero, List.getElem?_cons_succ, Go.IntWalk.iteOmega, Go.IntWalk.toNatUp, a1, a2, Config.val, Config.cells, Rule.val, Rule.cells]
    refine IWp.cond ?_
    simp [go_sem, -getElem?_pos, -List.map_take, -List.map_drop, List.getElem?_cons_zero, List.getElem?_cons_succ, Go.IntWalk.iteOmega, Go.IntWalk.toNatUp, a1, a2, Config.val, Config.cells, Rule.val, Rule.cells]
    refine IWp.seq ?_
    refine IWp.run [4, 7, 13, 35] ?_
    simp [go_sem, -getElem?_pos, -List.map_take, -List.map_drop, List.getElem?_cons_zero, List.getElem?_cons_succ, Go.IntWalk.iteOmega, Go.IntWalk.toNatUp, a1, a2, Config.val, Config.cells, Rule.val, Rule.cells]
    refine IWp.cond ?_
    simp [go_sem, -getElem?_pos, -List.map_take, -List.map_drop, List.getElem?_cons_zero, List.getElem?_cons_succ, Go.IntWalk.iteOmega, Go.IntWalk.toNatUp, a1, a2, Config.val, Config.cells, Rule.val, Rule.cells]
    refine IWp.seq ?_
    refine IWp.run [4, 7, 13, 110] ?_
    simp [go_sem, -getElem?_pos, -List.map_take, -List.map_drop, List.getElem?_cons_zero, List.getElem?_cons_succ, Go.IntWalk.iteOmega, Go.IntWalk.toNatUp, a1, a2, Config.val, Config.cells, Rule.val, Rule.cells]
    refine IWp.cond ?_
    simp [go_sem, -getElem?_pos, -List.map_take, -List.map_drop, List.getElem?_cons_zero, List.getElem?_cons_succ, Go.IntWalk.iteOmega, Go.IntWalk.toNatUp, a1, a2, Config.val, Config.cells, Rule.val, Rule.cells]
    refine IWp.seq ?_
    refine IWp.run [4, 13, 133] ?_
    simp [go_sem, -getElem?_pos, -List.map_take, -List.map_drop, List.getElem?_cons_zero, List.getElem?_cons_succ, Go.IntWalk.iteOmega, Go.IntWalk.toNatUp, a1, a2, Config.val, Config.cells, Rule.val, Rule.cells]
    refine IWp.cond ?_
    simp [go_sem, -getElem?_pos, -List.map_take, -List.map_drop, List.getElem?_cons_zero, List.getElem?_cons_succ, Go.IntWalk.iteOmega, Go.IntWalk.toNatUp, a1, a2, Config.val, Config.cells, Rule.val, Rule.cells]
    refine IWp.seq ?_
    refine IWp.run [4, 143] ?_
    simp [go_sem, -getElem?_pos, -List.map_take, -List.map_drop, List.getElem?_cons_zero, List.getElem?_cons_succ, Go.IntWalk.iteOmega, Go.IntWalk.toNatUp, a1, a2, Config.val, Config.cells, Rule.val, Rule.cells]
    refine IWp.cond ?_
    simp [go_sem, -getElem?_pos, -List.map_take, -List.map_drop, List.getElem?_cons_zero, List.getElem?_cons_succ, Go.IntWalk.iteOmega, Go.IntWalk.toNatUp, a1, a2, Config.val, Config.cells, Rule.val, Rule.cells]
    refine IWp.seq ?_
    refine IWp.run [6] ?_
    simp [go_sem, -getElem?_pos, -List.map_take, -List.map_drop, List.getElem?_cons_zero, List.getElem?_cons_succ, Go.IntWalk.iteOmega, Go.IntWalk.toNatUp, a1, a2, Config.val, Config.cells, Rule.val, Rule.cells]
    refine IWp.ret ?_
    simp [go_sem, -getElem?_pos, -List.map_take, -List.map_drop, List.getElem?_cons_zero, List.getElem?_cons_succ, Go.IntWalk.iteOmega, Go.IntWalk.toNatUp, a1, a2, Config.val, Config.cells, Rule.val, Rule.cells, Try.results44]
    try exact .same _

theorem broken6 (H : Heap) (c : Config) (r : Rule) (hl : r.stages.length ≤ 1000000) (hs : c.sigs.length ≤ 1000000) : ICalls Try.prog 44 [c.val, r.val, .int .i64 7] H fun v H' => v = .bool (!(ruleB c.sigs.length 6 r)) ∧ H' = H := by
  refine ICalls.ans (by simp [go_sem]) fun H => IBody.calls (by kernel_rfl) ?_
  simp only [ruleB]
  unfold spanS
  by_cases h3 : r.kind = 3
  · rw [if_pos (by omega)]
    by_cases a1 : r.span < 1
    · rw [show inS r.span 1 10000 = false from inS_not.2 (by omega)]
      refine IBody.of Try.func44 rfl (by rw [Try.ntmps44]; simp) ?_
      rw [Try.ntmps44]
      refine IWp.seq ?_
      refine IWp.run [2, 3, 4] ?_
      simp [go_sem, -getElem?_pos, -List.map_take, -List.map_drop, List.getElem?_cons_zero, List.getElem?_cons_succ, Go.IntWalk.iteOmega, Go.IntWalk.toNatUp, a1, h3, Config.val, Config.cells, Rule.val, Rule.cells]
      refine IWp.seq ?_
      refine IWp.run [2, 3, 4, 7] ?_
      simp [go_sem, -getElem?_pos, -List.map_take, -List.map_drop, List.getElem?_cons_zero, List.getElem?_cons_succ, Go.IntWalk.iteOmega, Go.IntWalk.toNatUp, a1, h3, Config.val, Config.cells, Rule.val, Rule.cells]
      refine IWp.seq ?_
      refine IWp.seq ?_
      refine IWp.run [3, 4, 7, 13] ?_
      simp [go_sem, -getElem?_pos, -List.map_take, -List.map_drop, List.getElem?_cons_zero, List.getElem?_cons_succ, Go.IntWalk.iteOmega, Go.IntWalk.toNatUp, a1, h3, Config.val, Config.cells, Rule.val, Rule.cells]
      refine IWp.block ?_
      refine IWp.seq ?_
      refine IWp.run [3, 4, 7, 13, 14] ?_
      simp [go_sem, -getElem?_pos, -List.map_take, -List.map_drop, List.getElem?_cons_zero, List.getElem?_cons_succ, Go.IntWalk.iteOmega, Go.IntWalk.toNatUp, a1, h3, Config.val, Config.cells, Rule.val, Rule.cells]
      refine IWp.cond ?_
      simp [go_sem, -getElem?_pos, -List.map_take, -List.map_drop, List.getElem?_cons_zero, List.getElem?_cons_succ, Go.IntWalk.iteOmega, Go.IntWalk.toNatUp, a1, h3, Config.val, Config.cells, Rule.val, Rule.cells]
      refine IWp.seq ?_
      refine IWp.run [3, 4, 7, 13, 22] ?_
      simp [go_sem, -getElem?_pos, -List.map_take, -List.map_drop, List.getElem?_cons_zero, List.getElem?_cons_succ, Go.IntWalk.iteOmega, Go.IntWalk.toNatUp, a1, h3, Config.val, Config.cells, Rule.val, Rule.cells]
      refine IWp.cond ?_
      simp [go_sem, -getElem?_pos, -List.map_take, -List.map_drop, List.getElem?_cons_zero, List.getElem?_cons_succ, Go.IntWalk.iteOmega, Go.IntWalk.toNatUp, a1, h3, Config.val, Config.cells, Rule.val, Rule.cells]
      refine IWp.seq ?_
      refine IWp.run [4, 7, 13, 35] ?_
      simp [go_sem, -getElem?_pos, -List.map_take, -List.map_drop, List.getElem?_cons_zero, List.getElem?_cons_succ, Go.IntWalk.iteOmega, Go.IntWalk.toNatUp, a1, h3, Config.val, Config.cells, Rule.val, Rule.cells]
      refine IWp.cond ?_
      simp [go_sem, -getElem?_pos, -List.map_take, -List.map_drop, List.getElem?_cons_zero, List.getElem?_cons_succ, Go.IntWalk.iteOmega, Go.IntWalk.toNatUp, a1, h3, Config.val, Config.cells, Rule.val, Rule.cells]
      refine IWp.seq ?_
      refine IWp.run [4, 7, 13, 110] ?_
      simp [go_sem, -getElem?_pos, -List.map_take, -List.map_drop, List.getElem?_cons_zero, List.getElem?_cons_succ, Go.IntWalk.iteOmega, Go.IntWalk.toNatUp, a1, h3, Config.val, Config.cells, Rule.val, Rule.cells]
      refine IWp.cond ?_
      simp [go_sem, -getElem?_pos, -List.map_take, -List.map_drop, List.getElem?_cons_zero, List.getElem?_cons_succ, Go.IntWalk.iteOmega, Go.IntWalk.toNatUp, a1, h3, Config.val, Config.cells, Rule.val, Rule.cells]
      refine IWp.seq ?_
      refine IWp.seq ?_
      refine IWp.run [4, 121] ?_
      simp [go_sem, -getElem?_pos, -List.map_take, -List.map_drop, List.getElem?_cons_zero, List.getElem?_cons_succ, Go.IntWalk.iteOmega, Go.IntWalk.toNatUp, a1, h3, Config.val, Config.cells, Rule.val, Rule.cells]
      refine IWp.cond ?_
      simp [go_sem, -getElem?_pos, -List.map_take, -List.map_drop, List.getElem?_cons_zero, List.getElem?_cons_succ, Go.IntWalk.iteOmega, Go.IntWalk.toNatUp, a1, h3, Config.val, Config.cells, Rule.val, Rule.cells]
      refine IWp.seq ?_
      refine IWp.run [6] ?_
      simp [go_sem, -getElem?_pos, -List.map_take, -List.map_drop, List.getElem?_cons_zero, List.getElem?_cons_succ, Go.IntWalk.iteOmega, Go.IntWalk.toNatUp, a1, h3, Config.val, Config.cells, Rule.val, Rule.cells]
      refine IWp.ret ?_
      simp [go_sem, -getElem?_pos, -List.map_take, -List.map_drop, List.getElem?_cons_zero, List.getElem?_cons_succ, Go.IntWalk.iteOmega, Go.IntWalk.toNatUp, a1, h3, Config.val, Config.cells, Rule.val, Rule.cells, Try.results44]
      try exact .same _
    by_cases a2 : 10000 < r.span
    · rw [show inS r.span 1 10000 = false from inS_not.2 (by omega)]
      refine IBody.of Try.func44 rfl (by rw [Try.ntmps44]; simp) ?_
      rw [Try.ntmps44]
      refine IWp.seq ?_
      refine IWp.run [2, 3, 4] ?_
      simp [go_sem, -getElem?_pos, -List.map_take, -List.map_drop, List.getElem?_cons_zero, List.getElem?_cons_succ, Go.IntWalk.iteOmega, Go.IntWalk.toNatUp, a1, a2, h3, Config.val, Config.cells, Rule.val, Rule.cells]
      refine IWp.seq ?_
      refine IWp.run [2, 3, 4, 7] ?_
      simp [go_sem, -getElem?_pos, -List.map_take, -List.map_drop, List.getElem?_cons_zero, List.getElem?_cons_succ, Go.IntWalk.iteOmega, Go.IntWalk.toNatUp, a1, a2, h3, Config.val, Config.cells, Rule.val, Rule.cells]
      refine IWp.seq ?_
      refine IWp.seq ?_
      refine IWp.run [3, 4, 7, 13] ?_
      simp [go_sem, -getElem?_pos, -List.map_take, -List.map_drop, List.getElem?_cons_zero, List.getElem?_cons_succ, Go.IntWalk.iteOmega, Go.IntWalk.toNatUp, a1, a2, h3, Config.val, Config.cells, Rule.val, Rule.cells]
      refine IWp.block ?_
      refine IWp.seq ?_
      refine IWp.run [3, 4, 7, 13, 14] ?_
      simp [go_sem, -getElem?_pos, -List.map_take, -List.map_drop, List.getElem?_cons_zero, List.getElem?_cons_succ, Go.IntWalk.iteOmega, Go.IntWalk.toNatUp, a1, a2, h3, Config.val, Config.cells, Rule.val, Rule.cells]
      refine IWp.cond ?_
      simp [go_sem, -getElem?_pos, -List.map_take, -List.map_drop, List.getElem?_cons_zero, List.getElem?_cons_succ, Go.IntWalk.iteOmega, Go.IntWalk.toNatUp, a1, a2, h3, Config.val, Config.cells, Rule.val, Rule.cells]
      refine IWp.seq ?_
      refine IWp.run [3, 4, 7, 13, 22] ?_
      simp [go_sem, -getElem?_pos, -List.map_take, -List.map_drop, List.getElem?_cons_zero, List.getElem?_cons_succ, Go.IntWalk.iteOmega, Go.IntWalk.toNatUp, a1, a2, h3, Config.val, Config.cells, Rule.val, Rule.cells]
      refine IWp.cond ?_
      simp [go_sem, -getElem?_pos, -List.map_take, -List.map_drop, List.getElem?_cons_zero, List.getElem?_cons_succ, Go.IntWalk.iteOmega, Go.IntWalk.toNatUp, a1, a2, h3, Config.val, Config.cells, Rule.val, Rule.cells]
      refine IWp.seq ?_
      refine IWp.run [4, 7, 13, 35] ?_
      simp [go_sem, -getElem?_pos, -List.map_take, -List.map_drop, List.getElem?_cons_zero, List.getElem?_cons_succ, Go.IntWalk.iteOmega, Go.IntWalk.toNatUp, a1, a2, h3, Config.val, Config.cells, Rule.val, Rule.cells]
      refine IWp.cond ?_
      simp [go_sem, -getElem?_pos, -List.map_take, -List.map_drop, List.getElem?_cons_zero, List.getElem?_cons_succ, Go.IntWalk.iteOmega, Go.IntWalk.toNatUp, a1, a2, h3, Config.val, Config.cells, Rule.val, Rule.cells]
      refine IWp.seq ?_
      refine IWp.run [4, 7, 13, 110] ?_
      simp [go_sem, -getElem?_pos, -List.map_take, -List.map_drop, List.getElem?_cons_zero, List.getElem?_cons_succ, Go.IntWalk.iteOmega, Go.IntWalk.toNatUp, a1, a2, h3, Config.val, Config.cells, Rule.val, Rule.cells]
      refine IWp.cond ?_
      simp [go_sem, -getElem?_pos, -List.map_take, -List.map_drop, List.getElem?_cons_zero, List.getElem?_cons_succ, Go.IntWalk.iteOmega, Go.IntWalk.toNatUp, a1, a2, h3, Config.val, Config.cells, Rule.val, Rule.cells]
      refine IWp.seq ?_
      refine IWp.seq ?_
      refine IWp.run [4, 121] ?_
      simp [go_sem, -getElem?_pos, -List.map_take, -List.map_drop, List.getElem?_cons_zero, List.getElem?_cons_succ, Go.IntWalk.iteOmega, Go.IntWalk.toNatUp, a1, a2, h3, Config.val, Config.cells, Rule.val, Rule.cells]
      refine IWp.cond ?_
      simp [go_sem, -getElem?_pos, -List.map_take, -List.map_drop, List.getElem?_cons_zero, List.getElem?_cons_succ, Go.IntWalk.iteOmega, Go.IntWalk.toNatUp, a1, a2, h3, Config.val, Config.cells, Rule.val, Rule.cells]
      refine IWp.seq ?_
      refine IWp.run [6] ?_
      simp [go_sem, -getElem?_pos, -List.map_take, -List.map_drop, List.getElem?_cons_zero, List.getElem?_cons_succ, Go.IntWalk.iteOmega, Go.IntWalk.toNatUp, a1, a2, h3, Config.val, Config.cells, Rule.val, Rule.cells]
      refine IWp.ret ?_
      simp [go_sem, -getElem?_pos, -List.map_take, -List.map_drop, List.getElem?_cons_zero, List.getElem?_cons_succ, Go.IntWalk.iteOmega, Go.IntWalk.toNatUp, a1, a2, h3, Config.val, Config.cells, Rule.val, Rule.cells, Try.results44]
      try exact .same _
    · rw [show inS r.span 1 10000 = true from inS_iff.2 (by omega)]
      refine IBody.of Try.func44 rfl (by rw [Try.ntmps44]; simp) ?_
      rw [Try.ntmps44]
      refine IWp.seq ?_
      refine IWp.run [2, 3, 4] ?_
      simp [go_sem, -getElem?_pos, -List.map_take, -List.map_drop, List.getElem?_cons_zero, List.getElem?_cons_succ, Go.IntWalk.iteOmega, Go.IntWalk.toNatUp, a1, a2, h3, Config.val, Config.cells, Rule.val, Rule.cells]
      refine IWp.seq ?_
      refine IWp.run [2, 3, 4, 7] ?_
      simp [go_sem, -getElem?_pos, -List.map_take, -List.map_drop, List.getElem?_cons_zero, List.getElem?_cons_succ, Go.IntWalk.iteOmega, Go.IntWalk.toNatUp, a1, a2, h3, Config.val, Config.cells, Rule.val, Rule.cells]
      refine IWp.seq ?_
      refine IWp.seq ?_
      refine IWp.run [3, 4, 7, 13] ?_
      simp [go_sem, -getElem?_pos, -List.map_take, -List.map_drop, List.getElem?_cons_zero, List.getElem?_cons_succ, Go.IntWalk.iteOmega, Go.IntWalk.toNatUp, a1, a2, h3, Config.val, Config.cells, Rule.val, Rule.cells]
      refine IWp.block ?_
      refine IWp.seq ?_
      refine IWp.run [3, 4, 7, 13, 14] ?_
      simp [go_sem, -getElem?_pos, -List.map_take, -List.map_drop, List.getElem?_cons_zero, List.getElem?_cons_succ, Go.IntWalk.iteOmega, Go.IntWalk.toNatUp, a1, a2, h3, Config.val, Config.cells, Rule.val, Rule.cells]
      refine IWp.cond ?_
      simp [go_sem, -getElem?_pos, -List.map_take, -List.map_drop, List.getElem?_cons_zero, List.getElem?_cons_succ, Go.IntWalk.iteOmega, Go.IntWalk.toNatUp, a1, a2, h3, Config.val, Config.cells, Rule.val, Rule.cells]
      refine IWp.seq ?_
      refine IWp.run [3, 4, 7, 13, 22] ?_
      simp [go_sem, -getElem?_pos, -List.map_take, -List.map_drop, List.getElem?_cons_zero, List.getElem?_cons_succ, Go.IntWalk.iteOmega, Go.IntWalk.toNatUp, a1, a2, h3, Config.val, Config.cells, Rule.val, Rule.cells]
      refine IWp.cond ?_
      simp [go_sem, -getElem?_pos, -List.map_take, -List.map_drop, List.getElem?_cons_zero, List.getElem?_cons_succ, Go.IntWalk.iteOmega, Go.IntWalk.toNatUp, a1, a2, h3, Config.val, Config.cells, Rule.val, Rule.cells]
      refine IWp.seq ?_
      refine IWp.run [4, 7, 13, 35] ?_
      simp [go_sem, -getElem?_pos, -List.map_take, -List.map_drop, List.getElem?_cons_zero, List.getElem?_cons_succ, Go.IntWalk.iteOmega, Go.IntWalk.toNatUp, a1, a2, h3, Config.val, Config.cells, Rule.val, Rule.cells]
      refine IWp.cond ?_
      simp [go_sem, -getElem?_pos, -List.map_take, -List.map_drop, List.getElem?_cons_zero, List.getElem?_cons_succ, Go.IntWalk.iteOmega, Go.IntWalk.toNatUp, a1, a2, h3, Config.val, Config.cells, Rule.val, Rule.cells]
      refine IWp.seq ?_
      refine IWp.run [4, 7, 13, 110] ?_
      simp [go_sem, -getElem?_pos, -List.map_take, -List.map_drop, List.getElem?_cons_zero, List.getElem?_cons_succ, Go.IntWalk.iteOmega, Go.IntWalk.toNatUp, a1, a2, h3, Config.val, Config.cells, Rule.val, Rule.cells]
      refine IWp.cond ?_
      simp [go_sem, -getElem?_pos, -List.map_take, -List.map_drop, List.getElem?_cons_zero, List.getElem?_cons_succ, Go.IntWalk.iteOmega, Go.IntWalk.toNatUp, a1, a2, h3, Config.val, Config.cells, Rule.val, Rule.cells]
      refine IWp.seq ?_
      refine IWp.seq ?_
      refine IWp.run [4, 121] ?_
      simp [go_sem, -getElem?_pos, -List.map_take, -List.map_drop, List.getElem?_cons_zero, List.getElem?_cons_succ, Go.IntWalk.iteOmega, Go.IntWalk.toNatUp, a1, a2, h3, Config.val, Config.cells, Rule.val, Rule.cells]
      refine IWp.cond ?_
      simp [go_sem, -getElem?_pos, -List.map_take, -List.map_drop, List.getElem?_cons_zero, List.getElem?_cons_succ, Go.IntWalk.iteOmega, Go.IntWalk.toNatUp, a1, a2, h3, Config.val, Config.cells, Rule.val, Rule.cells]
      refine IWp.seq ?_
      refine IWp.run [6] ?_
      simp [go_sem, -getElem?_pos, -List.map_take, -List.map_drop, List.getElem?_cons_zero, List.getElem?_cons_succ, Go.IntWalk.iteOmega, Go.IntWalk.toNatUp, a1, a2, h3, Config.val, Config.cells, Rule.val, Rule.cells]
      refine IWp.ret ?_
      simp [go_sem, -getElem?_pos, -List.map_take, -List.map_drop, List.getElem?_cons_zero, List.getElem?_cons_succ, Go.IntWalk.iteOmega, Go.IntWalk.toNatUp, a1, a2, h3, Config.val, Config.cells, Rule.val, Rule.cells, Try.results44]
      try exact .same _
  by_cases h4 : r.kind = 4
  · rw [if_pos (by omega)]
    by_cases a1 : r.span < 1
    · rw [show inS r.span 1 10000 = false from inS_not.2 (by omega)]
      refine IBody.of Try.func44 rfl (by rw [Try.ntmps44]; simp) ?_
      rw [Try.ntmps44]
      refine IWp.seq ?_
      refine IWp.run [2, 3, 4] ?_
      simp [go_sem, -getElem?_pos, -List.map_take, -List.map_drop, List.getElem?_cons_zero, List.getElem?_cons_succ, Go.IntWalk.iteOmega, Go.IntWalk.toNatUp, a1, h4, Config.val, Config.cells, Rule.val, Rule.cells]
      refine IWp.seq ?_
      refine IWp.run [2, 3, 4, 7] ?_
      simp [go_sem, -getElem?_pos, -List.map_take, -List.map_drop, List.getElem?_cons_zero, List.getElem?_cons_succ, Go.IntWalk.iteOmega, Go.IntWalk.toNatUp, a1, h4, Config.val, Config.cells, Rule.val, Rule.cells]
      refine IWp.seq ?_
      refine IWp.seq ?_
      refine IWp.run [3, 4, 7, 13] ?_
      simp [go_sem, -getElem?_pos, -List.map_take, -List.map_drop, List.getElem?_cons_zero, List.getElem?_cons_succ, Go.IntWalk.iteOmega, Go.IntWalk.toNatUp, a1, h4, Config.val, Config.cells, Rule.val, Rule.cells]
      refine IWp.block ?_
      refine IWp.seq ?_
      refine IWp.run [3, 4, 7, 13, 14] ?_
      simp [go_sem, -getElem?_pos, -List.map_take, -List.map_drop, List.getElem?_cons_zero, List.getElem?_cons_succ, Go.IntWalk.iteOmega, Go.IntWalk.toNatUp, a1, h4, Config.val, Config.cells, Rule.val, Rule.cells]
      refine IWp.cond ?_
      simp [go_sem, -getElem?_pos, -List.map_take, -List.map_drop, List.getElem?_cons_zero, List.getElem?_cons_succ, Go.IntWalk.iteOmega, Go.IntWalk.toNatUp, a1, h4, Config.val, Config.cells, Rule.val, Rule.cells]
      refine IWp.seq ?_
      refine IWp.run [3, 4, 7, 13, 22] ?_
      simp [go_sem, -getElem?_pos, -List.map_take, -List.map_drop, List.getElem?_cons_zero, List.getElem?_cons_succ, Go.IntWalk.iteOmega, Go.IntWalk.toNatUp, a1, h4, Config.val, Config.cells, Rule.val, Rule.cells]
      refine IWp.cond ?_
      simp [go_sem, -getElem?_pos, -List.map_take, -List.map_drop, List.getElem?_cons_zero, List.getElem?_cons_succ, Go.IntWalk.iteOmega, Go.IntWalk.toNatUp, a1, h4, Config.val, Config.cells, Rule.val, Rule.cells]
      refine IWp.seq ?_
      refine IWp.run [4, 7, 13, 35] ?_
      simp [go_sem, -getElem?_pos, -List.map_take, -List.map_drop, List.getElem?_cons_zero, List.getElem?_cons_succ, Go.IntWalk.iteOmega, Go.IntWalk.toNatUp, a1, h4, Config.val, Config.cells, Rule.val, Rule.cells]
      refine IWp.cond ?_
      simp [go_sem, -getElem?_pos, -List.map_take, -List.map_drop, List.getElem?_cons_zero, List.getElem?_cons_succ, Go.IntWalk.iteOmega, Go.IntWalk.toNatUp, a1, h4, Config.val, Config.cells, Rule.val, Rule.cells]
      refine IWp.seq ?_
      refine IWp.run [4, 7, 13, 110] ?_
      simp [go_sem, -getElem?_pos, -List.map_take, -List.map_drop, List.getElem?_cons_zero, List.getElem?_cons_succ, Go.IntWalk.iteOmega, Go.IntWalk.toNatUp, a1, h4, Config.val, Config.cells, Rule.val, Rule.cells]
      refine IWp.cond ?_
      simp [go_sem, -getElem?_pos, -List.map_take, -List.map_drop, List.getElem?_cons_zero, List.getElem?_cons_succ, Go.IntWalk.iteOmega, Go.IntWalk.toNatUp, a1, h4, Config.val, Config.cells, Rule.val, Rule.cells]
      refine IWp.seq ?_
      refine IWp.seq ?_
      refine IWp.run [4, 121] ?_
      simp [go_sem, -getElem?_pos, -List.map_take, -List.map_drop, List.getElem?_cons_zero, List.getElem?_cons_succ, Go.IntWalk.iteOmega, Go.IntWalk.toNatUp, a1, h4, Config.val, Config.cells, Rule.val, Rule.cells]
      refine IWp.cond ?_
      simp [go_sem, -getElem?_pos, -List.map_take, -List.map_drop, List.getElem?_cons_zero, List.getElem?_cons_succ, Go.IntWalk.iteOmega, Go.IntWalk.toNatUp, a1, h4, Config.val, Config.cells, Rule.val, Rule.cells]
      refine IWp.seq ?_
      refine IWp.run [6] ?_
      simp [go_sem, -getElem?_pos, -List.map_take, -List.map_drop, List.getElem?_cons_zero, List.getElem?_cons_succ, Go.IntWalk.iteOmega, Go.IntWalk.toNatUp, a1, h4, Config.val, Config.cells, Rule.val, Rule.cells]
      refine IWp.ret ?_
      simp [go_sem, -getElem?_pos, -List.map_take, -List.map_drop, List.getElem?_cons_zero, List.getElem?_cons_succ, Go.IntWalk.iteOmega, Go.IntWalk.toNatUp, a1, h4, Config.val, Config.cells, Rule.val, Rule.cells, Try.results44]
      try exact .same _
    by_cases a2 : 10000 < r.span
    · rw [show inS r.span 1 10000 = false from inS_not.2 (by omega)]
      refine IBody.of Try.func44 rfl (by rw [Try.ntmps44]; simp) ?_
      rw [Try.ntmps44]
      refine IWp.seq ?_
      refine IWp.run [2, 3, 4] ?_
      simp [go_sem, -getElem?_pos, -List.map_take, -List.map_drop, List.getElem?_cons_zero, List.getElem?_cons_succ, Go.IntWalk.iteOmega, Go.IntWalk.toNatUp, a1, a2, h4, Config.val, Config.cells, Rule.val, Rule.cells]
      refine IWp.seq ?_
      refine IWp.run [2, 3, 4, 7] ?_
      simp [go_sem, -getElem?_pos, -List.map_take, -List.map_drop, List.getElem?_cons_zero, List.getElem?_cons_succ, Go.IntWalk.iteOmega, Go.IntWalk.toNatUp, a1, a2, h4, Config.val, Config.cells, Rule.val, Rule.cells]
      refine IWp.seq ?_
      refine IWp.seq ?_
      refine IWp.run [3, 4, 7, 13] ?_
      simp [go_sem, -getElem?_pos, -List.map_take, -List.map_drop, List.getElem?_cons_zero, List.getElem?_cons_succ, Go.IntWalk.iteOmega, Go.IntWalk.toNatUp, a1, a2, h4, Config.val, Config.cells, Rule.val, Rule.cells]
      refine IWp.block ?_
      refine IWp.seq ?_
      refine IWp.run [3, 4, 7, 13, 14] ?_
      simp [go_sem, -getElem?_pos, -List.map_take, -List.map_drop, List.getElem?_cons_zero, List.getElem?_cons_succ, Go.IntWalk.iteOmega, Go.IntWalk.toNatUp, a1, a2, h4, Config.val, Config.cells, Rule.val, Rule.cells]
      refine IWp.cond ?_
      simp [go_sem, -getElem?_pos, -List.map_take, -List.map_drop, List.getElem?_cons_zero, List.getElem?_cons_succ, Go.IntWalk.iteOmega, Go.IntWalk.toNatUp, a1, a2, h4, Config.val, Config.cells, Rule.val, Rule.cells]
      refine IWp.seq ?_
      refine IWp.run [3, 4, 7, 13, 22] ?_
      simp [go_sem, -getElem?_pos, -List.map_take, -List.map_drop, List.getElem?_cons_zero, List.getElem?_cons_succ, Go.IntWalk.iteOmega, Go.IntWalk.toNatUp, a1, a2, h4, Config.val, Config.cells, Rule.val, Rule.cells]
      refine IWp.cond ?_
      simp [go_sem, -getElem?_pos, -List.map_take, -List.map_drop, List.getElem?_cons_zero, List.getElem?_cons_succ, Go.IntWalk.iteOmega, Go.IntWalk.toNatUp, a1, a2, h4, Config.val, Config.cells, Rule.val, Rule.cells]
      refine IWp.seq ?_
      refine IWp.run [4, 7, 13, 35] ?_
      simp [go_sem, -getElem?_pos, -List.map_take, -List.map_drop, List.getElem?_cons_zero, List.getElem?_cons_succ, Go.IntWalk.iteOmega, Go.IntWalk.toNatUp, a1, a2, h4, Config.val, Config.cells, Rule.val, Rule.cells]
      refine IWp.cond ?_
      simp [go_sem, -getElem?_pos, -List.map_take, -List.map_drop, List.getElem?_cons_zero, List.getElem?_cons_succ, Go.IntWalk.iteOmega, Go.IntWalk.toNatUp, a1, a2, h4, Config.val, Config.cells, Rule.val, Rule.cells]
      refine IWp.seq ?_
      refine IWp.run [4, 7, 13, 110] ?_
      simp [go_sem, -getElem?_pos, -List.map_take, -List.map_drop, List.getElem?_cons_zero, List.getElem?_cons_succ, Go.IntWalk.iteOmega, Go.IntWalk.toNatUp, a1, a2, h4, Config.val, Config.cells, Rule.val, Rule.cells]
      refine IWp.cond ?_
      simp [go_sem, -getElem?_pos, -List.map_take, -List.map_drop, List.getElem?_cons_zero, List.getElem?_cons_succ, Go.IntWalk.iteOmega, Go.IntWalk.toNatUp, a1, a2, h4, Config.val, Config.cells, Rule.val, Rule.cells]
      refine IWp.seq ?_
      refine IWp.seq ?_
      refine IWp.run [4, 121] ?_
      simp [go_sem, -getElem?_pos, -List.map_take, -List.map_drop, List.getElem?_cons_zero, List.getElem?_cons_succ, Go.IntWalk.iteOmega, Go.IntWalk.toNatUp, a1, a2, h4, Config.val, Config.cells, Rule.val, Rule.cells]
      refine IWp.cond ?_
      simp [go_sem, -getElem?_pos, -List.map_take, -List.map_drop, List.getElem?_cons_zero, List.getElem?_cons_succ, Go.IntWalk.iteOmega, Go.IntWalk.toNatUp, a1, a2, h4, Config.val, Config.cells, Rule.val, Rule.cells]
      refine IWp.seq ?_
      refine IWp.run [6] ?_
      simp [go_sem, -getElem?_pos, -List.map_take, -List.map_drop, List.getElem?_cons_zero, List.getElem?_cons_succ, Go.IntWalk.iteOmega, Go.IntWalk.toNatUp, a1, a2, h4, Config.val, Config.cells, Rule.val, Rule.cells]
      refine IWp.ret ?_
      simp [go_sem, -getElem?_pos, -List.map_take, -List.map_drop, List.getElem?_cons_zero, List.getElem?_cons_succ, Go.IntWalk.iteOmega, Go.IntWalk.toNatUp, a1, a2, h4, Config.val, Config.cells, Rule.val, Rule.cells, Try.results44]
      try exact .same _
    · rw [show inS r.span 1 10000 = true from inS_iff.2 (by omega)]
      refine IBody.of Try.func44 rfl (by rw [Try.ntmps44]; simp) ?_
      rw [Try.ntmps44]
      refine IWp.seq ?_
      refine IWp.run [2, 3, 4] ?_
      simp [go_sem, -getElem?_pos, -List.map_take, -List.map_drop, List.getElem?_cons_zero, List.getElem?_cons_succ, Go.IntWalk.iteOmega, Go.IntWalk.toNatUp, a1, a2, h4, Config.val, Config.cells, Rule.val, Rule.cells]
      refine IWp.seq ?_
      refine IWp.run [2, 3, 4, 7] ?_
      simp [go_sem, -getElem?_pos, -List.map_take, -List.map_drop, List.getElem?_cons_zero, List.getElem?_cons_succ, Go.IntWalk.iteOmega, Go.IntWalk.toNatUp, a1, a2, h4, Config.val, Config.cells, Rule.val, Rule.cells]
      refine IWp.seq ?_
      refine IWp.seq ?_
      refine IWp.run [3, 4, 7, 13] ?_
      simp [go_sem, -getElem?_pos, -List.map_take, -List.map_drop, List.getElem?_cons_zero, List.getElem?_cons_succ, Go.IntWalk.iteOmega, Go.IntWalk.toNatUp, a1, a2, h4, Config.val, Config.cells, Rule.val, Rule.cells]
      refine IWp.block ?_
      refine IWp.seq ?_
      refine IWp.run [3, 4, 7, 13, 14] ?_
      simp [go_sem, -getElem?_pos, -List.map_take, -List.map_drop, List.getElem?_cons_zero, List.getElem?_cons_succ, Go.IntWalk.iteOmega, Go.IntWalk.toNatUp, a1, a2, h4, Config.val, Config.cells, Rule.val, Rule.cells]
      refine IWp.cond ?_
      simp [go_sem, -getElem?_pos, -List.map_take, -List.map_drop, List.getElem?_cons_zero, List.getElem?_cons_succ, Go.IntWalk.iteOmega, Go.IntWalk.toNatUp, a1, a2, h4, Config.val, Config.cells, Rule.val, Rule.cells]
      refine IWp.seq ?_
      refine IWp.run [3, 4, 7, 13, 22] ?_
      simp [go_sem, -getElem?_pos, -List.map_take, -List.map_drop, List.getElem?_cons_zero, List.getElem?_cons_succ, Go.IntWalk.iteOmega, Go.IntWalk.toNatUp, a1, a2, h4, Config.val, Config.cells, Rule.val, Rule.cells]
      refine IWp.cond ?_
      simp [go_sem, -getElem?_pos, -List.map_take, -List.map_drop, List.getElem?_cons_zero, List.getElem?_cons_succ, Go.IntWalk.iteOmega, Go.IntWalk.toNatUp, a1, a2, h4, Config.val, Config.cells, Rule.val, Rule.cells]
      refine IWp.seq ?_
      refine IWp.run [4, 7, 13, 35] ?_
      simp [go_sem, -getElem?_pos, -List.map_take, -List.map_drop, List.getElem?_cons_zero, List.getElem?_cons_succ, Go.IntWalk.iteOmega, Go.IntWalk.toNatUp, a1, a2, h4, Config.val, Config.cells, Rule.val, Rule.cells]
      refine IWp.cond ?_
      simp [go_sem, -getElem?_pos, -List.map_take, -List.map_drop, List.getElem?_cons_zero, List.getElem?_cons_succ, Go.IntWalk.iteOmega, Go.IntWalk.toNatUp, a1, a2, h4, Config.val, Config.cells, Rule.val, Rule.cells]
      refine IWp.seq ?_
      refine IWp.run [4, 7, 13, 110] ?_
      simp [go_sem, -getElem?_pos, -List.map_take, -List.map_drop, List.getElem?_cons_zero, List.getElem?_cons_succ, Go.IntWalk.iteOmega, Go.IntWalk.toNatUp, a1, a2, h4, Config.val, Config.cells, Rule.val, Rule.cells]
      refine IWp.cond ?_
      simp [go_sem, -getElem?_pos, -List.map_take, -List.map_drop, List.getElem?_cons_zero, List.getElem?_cons_succ, Go.IntWalk.iteOmega, Go.IntWalk.toNatUp, a1, a2, h4, Config.val, Config.cells, Rule.val, Rule.cells]
      refine IWp.seq ?_
      refine IWp.seq ?_
      refine IWp.run [4, 121] ?_
      simp [go_sem, -getElem?_pos, -List.map_take, -List.map_drop, List.getElem?_cons_zero, List.getElem?_cons_succ, Go.IntWalk.iteOmega, Go.IntWalk.toNatUp, a1, a2, h4, Config.val, Config.cells, Rule.val, Rule.cells]
      refine IWp.cond ?_
      simp [go_sem, -getElem?_pos, -List.map_take, -List.map_drop, List.getElem?_cons_zero, List.getElem?_cons_succ, Go.IntWalk.iteOmega, Go.IntWalk.toNatUp, a1, a2, h4, Config.val, Config.cells, Rule.val, Rule.cells]
      refine IWp.seq ?_
      refine IWp.run [6] ?_
      simp [go_sem, -getElem?_pos, -List.map_take, -List.map_drop, List.getElem?_cons_zero, List.getElem?_cons_succ, Go.IntWalk.iteOmega, Go.IntWalk.toNatUp, a1, a2, h4, Config.val, Config.cells, Rule.val, Rule.cells]
      refine IWp.ret ?_
      simp [go_sem, -getElem?_pos, -List.map_take, -List.map_drop, List.getElem?_cons_zero, List.getElem?_cons_succ, Go.IntWalk.iteOmega, Go.IntWalk.toNatUp, a1, a2, h4, Config.val, Config.cells, Rule.val, Rule.cells, Try.results44]
      try exact .same _
  by_cases h5 : r.kind = 5
  · rw [if_pos (by omega)]
    by_cases a1 : r.span < 1
    · rw [show inS r.span 1 10000 = false from inS_not.2 (by omega)]
      refine IBody.of Try.func44 rfl (by rw [Try.ntmps44]; simp) ?_
      rw [Try.ntmps44]
      refine IWp.seq ?_
      refine IWp.run [2, 3, 4] ?_
      simp [go_sem, -getElem?_pos, -List.map_take, -List.map_drop, List.getElem?_cons_zero, List.getElem?_cons_succ, Go.IntWalk.iteOmega, Go.IntWalk.toNatUp, a1, h5, Config.val, Config.cells, Rule.val, Rule.cells]
      refine IWp.seq ?_
      refine IWp.run [2, 3, 4, 7] ?_
      simp [go_sem, -getElem?_pos, -List.map_take, -List.map_drop, List.getElem?_cons_zero, List.getElem?_cons_succ, Go.IntWalk.iteOmega, Go.IntWalk.toNatUp, a1, h5, Config.val, Config.cells, Rule.val, Rule.cells]
      refine IWp.seq ?_
      refine IWp.seq ?_
      refine IWp.run [3, 4, 7, 13] ?_
      simp [go_sem, -getElem?_pos, -List.map_take, -List.map_drop, List.getElem?_cons_zero, List.getElem?_cons_succ, Go.IntWalk.iteOmega, Go.IntWalk.toNatUp, a1, h5, Config.val, Config.cells, Rule.val, Rule.cells]
      refine IWp.block ?_
      refine IWp.seq ?_
      refine IWp.run [3, 4, 7, 13, 14] ?_
      simp [go_sem, -getElem?_pos, -List.map_take, -List.map_drop, List.getElem?_cons_zero, List.getElem?_cons_succ, Go.IntWalk.iteOmega, Go.IntWalk.toNatUp, a1, h5, Config.val, Config.cells, Rule.val, Rule.cells]
      refine IWp.cond ?_
      simp [go_sem, -getElem?_pos, -List.map_take, -List.map_drop, List.getElem?_cons_zero, List.getElem?_cons_succ, Go.IntWalk.iteOmega, Go.IntWalk.toNatUp, a1, h5, Config.val, Config.cells, Rule.val, Rule.cells]
      refine IWp.seq ?_
      refine IWp.run [3, 4, 7, 13, 22] ?_
      simp [go_sem, -getElem?_pos, -List.map_take, -List.map_drop, List.getElem?_cons_zero, List.getElem?_cons_succ, Go.IntWalk.iteOmega, Go.IntWalk.toNatUp, a1, h5, Config.val, Config.cells, Rule.val, Rule.cells]
      refine IWp.cond ?_
      simp [go_sem, -getElem?_pos, -List.map_take, -List.map_drop, List.getElem?_cons_zero, List.getElem?_cons_succ, Go.IntWalk.iteOmega, Go.IntWalk.toNatUp, a1, h5, Config.val, Config.cells, Rule.val, Rule.cells]
      refine IWp.seq ?_
      refine IWp.run [4, 7, 13, 35] ?_
      simp [go_sem, -getElem?_pos, -List.map_take, -List.map_drop, List.getElem?_cons_zero, List.getElem?_cons_succ, Go.IntWalk.iteOmega, Go.IntWalk.toNatUp, a1, h5, Config.val, Config.cells, Rule.val, Rule.cells]
      refine IWp.cond ?_
      simp [go_sem, -getElem?_pos, -List.map_take, -List.map_drop, List.getElem?_cons_zero, List.getElem?_cons_succ, Go.IntWalk.iteOmega, Go.IntWalk.toNatUp, a1, h5, Config.val, Config.cells, Rule.val, Rule.cells]
      refine IWp.seq ?_
      refine IWp.run [4, 7, 13, 110] ?_
      simp [go_sem, -getElem?_pos, -List.map_take, -List.map_drop, List.getElem?_cons_zero, List.getElem?_cons_succ, Go.IntWalk.iteOmega, Go.IntWalk.toNatUp, a1, h5, Config.val, Config.cells, Rule.val, Rule.cells]
      refine IWp.cond ?_
      simp [go_sem, -getElem?_pos, -List.map_take, -List.map_drop, List.getElem?_cons_zero, List.getElem?_cons_succ, Go.IntWalk.iteOmega, Go.IntWalk.toNatUp, a1, h5, Config.val, Config.cells, Rule.val, Rule.cells]
      refine IWp.seq ?_
      refine IWp.seq ?_
      refine IWp.run [4, 121] ?_
      simp [go_sem, -getElem?_pos, -List.map_take, -List.map_drop, List.getElem?_cons_zero, List.getElem?_cons_succ, Go.IntWalk.iteOmega, Go.IntWalk.toNatUp, a1, h5, Config.val, Config.cells, Rule.val, Rule.cells]
      refine IWp.cond ?_
      simp [go_sem, -getElem?_pos, -List.map_take, -List.map_drop, List.getElem?_cons_zero, List.getElem?_cons_succ, Go.IntWalk.iteOmega, Go.IntWalk.toNatUp, a1, h5, Config.val, Config.cells, Rule.val, Rule.cells]
      refine IWp.seq ?_
      refine IWp.run [6] ?_
      simp [go_sem, -getElem?_pos, -List.map_take, -List.map_drop, List.getElem?_cons_zero, List.getElem?_cons_succ, Go.IntWalk.iteOmega, Go.IntWalk.toNatUp, a1, h5, Config.val, Config.cells, Rule.val, Rule.cells]
      refine IWp.ret ?_
      simp [go_sem, -getElem?_pos, -List.map_take, -List.map_drop, List.getElem?_cons_zero, List.getElem?_cons_succ, Go.IntWalk.iteOmega, Go.IntWalk.toNatUp, a1, h5, Config.val, Config.cells, Rule.val, Rule.cells, Try.results44]
      try exact .same _
    by_cases a2 : 10000 < r.span
    · rw [show inS r.span 1 10000 = false from inS_not.2 (by omega)]
      refine IBody.of Try.func44 rfl (by rw [Try.ntmps44]; simp) ?_
      rw [Try.ntmps44]
      refine IWp.seq ?_
      refine IWp.run [2, 3, 4] ?_
      simp [go_sem, -getElem?_pos, -List.map_take, -List.map_drop, List.getElem?_cons_zero, List.getElem?_cons_succ, Go.IntWalk.iteOmega, Go.IntWalk.toNatUp, a1, a2, h5, Config.val, Config.cells, Rule.val, Rule.cells]
      refine IWp.seq ?_
      refine IWp.run [2, 3, 4, 7] ?_
      simp [go_sem, -getElem?_pos, -List.map_take, -List.map_drop, List.getElem?_cons_zero, List.getElem?_cons_succ, Go.IntWalk.iteOmega, Go.IntWalk.toNatUp, a1, a2, h5, Config.val, Config.cells, Rule.val, Rule.cells]
      refine IWp.seq ?_
      refine IWp.seq ?_
      refine IWp.run [3, 4, 7, 13] ?_
      simp [go_sem, -getElem?_pos, -List.map_take, -List.map_drop, List.getElem?_cons_zero, List.getElem?_cons_succ, Go.IntWalk.iteOmega, Go.IntWalk.toNatUp, a1, a2, h5, Config.val, Config.cells, Rule.val, Rule.cells]
      refine IWp.block ?_
      refine IWp.seq ?_
      refine IWp.run [3, 4, 7, 13, 14] ?_
      simp [go_sem, -getElem?_pos, -List.map_take, -List.map_drop, List.getElem?_cons_zero, List.getElem?_cons_succ, Go.IntWalk.iteOmega, Go.IntWalk.toNatUp, a1, a2, h5, Config.val, Config.cells, Rule.val, Rule.cells]
      refine IWp.cond ?_
      simp [go_sem, -getElem?_pos, -List.map_take, -List.map_drop, List.getElem?_cons_zero, List.getElem?_cons_succ, Go.IntWalk.iteOmega, Go.IntWalk.toNatUp, a1, a2, h5, Config.val, Config.cells, Rule.val, Rule.cells]
      refine IWp.seq ?_
      refine IWp.run [3, 4, 7, 13, 22] ?_
      simp [go_sem, -getElem?_pos, -List.map_take, -List.map_drop, List.getElem?_cons_zero, List.getElem?_cons_succ, Go.IntWalk.iteOmega, Go.IntWalk.toNatUp, a1, a2, h5, Config.val, Config.cells, Rule.val, Rule.cells]
      refine IWp.cond ?_
      simp [go_sem, -getElem?_pos, -List.map_take, -List.map_drop, List.getElem?_cons_zero, List.getElem?_cons_succ, Go.IntWalk.iteOmega, Go.IntWalk.toNatUp, a1, a2, h5, Config.val, Config.cells, Rule.val, Rule.cells]
      refine IWp.seq ?_
      refine IWp.run [4, 7, 13, 35] ?_
      simp [go_sem, -getElem?_pos, -List.map_take, -List.map_drop, List.getElem?_cons_zero, List.getElem?_cons_succ, Go.IntWalk.iteOmega, Go.IntWalk.toNatUp, a1, a2, h5, Config.val, Config.cells, Rule.val, Rule.cells]
      refine IWp.cond ?_
      simp [go_sem, -getElem?_pos, -List.map_take, -List.map_drop, List.getElem?_cons_zero, List.getElem?_cons_succ, Go.IntWalk.iteOmega, Go.IntWalk.toNatUp, a1, a2, h5, Config.val, Config.cells, Rule.val, Rule.cells]
      refine IWp.seq ?_
      refine IWp.run [4, 7, 13, 110] ?_
      simp [go_sem, -getElem?_pos, -List.map_take, -List.map_drop, List.getElem?_cons_zero, List.getElem?_cons_succ, Go.IntWalk.iteOmega, Go.IntWalk.toNatUp, a1, a2, h5, Config.val, Config.cells, Rule.val, Rule.cells]
      refine IWp.cond ?_
      simp [go_sem, -getElem?_pos, -List.map_take, -List.map_drop, List.getElem?_cons_zero, List.getElem?_cons_succ, Go.IntWalk.iteOmega, Go.IntWalk.toNatUp, a1, a2, h5, Config.val, Config.cells, Rule.val, Rule.cells]
      refine IWp.seq ?_
      refine IWp.seq ?_
      refine IWp.run [4, 121] ?_
      simp [go_sem, -getElem?_pos, -List.map_take, -List.map_drop, List.getElem?_cons_zero, List.getElem?_cons_succ, Go.IntWalk.iteOmega, Go.IntWalk.toNatUp, a1, a2, h5, Config.val, Config.cells, Rule.val, Rule.cells]
      refine IWp.cond ?_
      simp [go_sem, -getElem?_pos, -List.map_take, -List.map_drop, List.getElem?_cons_zero, List.getElem?_cons_succ, Go.IntWalk.iteOmega, Go.IntWalk.toNatUp, a1, a2, h5, Config.val, Config.cells, Rule.val, Rule.cells]
      refine IWp.seq ?_
      refine IWp.run [6] ?_
      simp [go_sem, -getElem?_pos, -List.map_take, -List.map_drop, List.getElem?_cons_zero, List.getElem?_cons_succ, Go.IntWalk.iteOmega, Go.IntWalk.toNatUp, a1, a2, h5, Config.val, Config.cells, Rule.val, Rule.cells]
      refine IWp.ret ?_
      simp [go_sem, -getElem?_pos, -List.map_take, -List.map_drop, List.getElem?_cons_zero, List.getElem?_cons_succ, Go.IntWalk.iteOmega, Go.IntWalk.toNatUp, a1, a2, h5, Config.val, Config.cells, Rule.val, Rule.cells, Try.results44]
      try exact .same _
    · rw [show inS r.span 1 10000 = true from inS_iff.2 (by omega)]
      refine IBody.of Try.func44 rfl (by rw [Try.ntmps44]; simp) ?_
      rw [Try.ntmps44]
      refine IWp.seq ?_
      refine IWp.run [2, 3, 4] ?_
      simp [go_sem, -getElem?_pos, -List.map_take, -List.map_drop, List.getElem?_cons_zero, List.getElem?_cons_succ, Go.IntWalk.iteOmega, Go.IntWalk.toNatUp, a1, a2, h5, Config.val, Config.cells, Rule.val, Rule.cells]
      refine IWp.seq ?_
      refine IWp.run [2, 3, 4, 7] ?_
      simp [go_sem, -getElem?_pos, -List.map_take, -List.map_drop, List.getElem?_cons_zero, List.getElem?_cons_succ, Go.IntWalk.iteOmega, Go.IntWalk.toNatUp, a1, a2, h5, Config.val, Config.cells, Rule.val, Rule.cells]
      refine IWp.seq ?_
      refine IWp.seq ?_
      refine IWp.run [3, 4, 7, 13] ?_
      simp [go_sem, -getElem?_pos, -List.map_take, -List.map_drop, List.getElem?_cons_zero, List.getElem?_cons_succ, Go.IntWalk.iteOmega, Go.IntWalk.toNatUp, a1, a2, h5, Config.val, Config.cells, Rule.val, Rule.cells]
      refine IWp.block ?_
      refine IWp.seq ?_
      refine IWp.run [3, 4, 7, 13, 14] ?_
      simp [go_sem, -getElem?_pos, -List.map_take, -List.map_drop, List.getElem?_cons_zero, List.getElem?_cons_succ, Go.IntWalk.iteOmega, Go.IntWalk.toNatUp, a1, a2, h5, Config.val, Config.cells, Rule.val, Rule.cells]
      refine IWp.cond ?_
      simp [go_sem, -getElem?_pos, -List.map_take, -List.map_drop, List.getElem?_cons_zero, List.getElem?_cons_succ, Go.IntWalk.iteOmega, Go.IntWalk.toNatUp, a1, a2, h5, Config.val, Config.cells, Rule.val, Rule.cells]
      refine IWp.seq ?_
      refine IWp.run [3, 4, 7, 13, 22] ?_
      simp [go_sem, -getElem?_pos, -List.map_take, -List.map_drop, List.getElem?_cons_zero, List.getElem?_cons_succ, Go.IntWalk.iteOmega, Go.IntWalk.toNatUp, a1, a2, h5, Config.val, Config.cells, Rule.val, Rule.cells]
      refine IWp.cond ?_
      simp [go_sem, -getElem?_pos, -List.map_take, -List.map_drop, List.getElem?_cons_zero, List.getElem?_cons_succ, Go.IntWalk.iteOmega, Go.IntWalk.toNatUp, a1, a2, h5, Config.val, Config.cells, Rule.val, Rule.cells]
      refine IWp.seq ?_
      refine IWp.run [4, 7, 13, 35] ?_
      simp [go_sem, -getElem?_pos, -List.map_take, -List.map_drop, List.getElem?_cons_zero, List.getElem?_cons_succ, Go.IntWalk.iteOmega, Go.IntWalk.toNatUp, a1, a2, h5, Config.val, Config.cells, Rule.val, Rule.cells]
      refine IWp.cond ?_
      simp [go_sem, -getElem?_pos, -List.map_take, -List.map_drop, List.getElem?_cons_zero, List.getElem?_cons_succ, Go.IntWalk.iteOmega, Go.IntWalk.toNatUp, a1, a2, h5, Config.val, Config.cells, Rule.val, Rule.cells]
      refine IWp.seq ?_
      refine IWp.run [4, 7, 13, 110] ?_
      simp [go_sem, -getElem?_pos, -List.map_take, -List.map_drop, List.getElem?_cons_zero, List.getElem?_cons_succ, Go.IntWalk.iteOmega, Go.IntWalk.toNatUp, a1, a2, h5, Config.val, Config.cells, Rule.val, Rule.cells]
      refine IWp.cond ?_
      simp [go_sem, -getElem?_pos, -List.map_take, -List.map_drop, List.getElem?_cons_zero, List.getElem?_cons_succ, Go.IntWalk.iteOmega, Go.IntWalk.toNatUp, a1, a2, h5, Config.val, Config.cells, Rule.val, Rule.cells]
      refine IWp.seq ?_
      refine IWp.seq ?_
      refine IWp.run [4, 121] ?_
      simp [go_sem, -getElem?_pos, -List.map_take, -List.map_drop, List.getElem?_cons_zero, List.getElem?_cons_succ, Go.IntWalk.iteOmega, Go.IntWalk.toNatUp, a1, a2, h5, Config.val, Config.cells, Rule.val, Rule.cells]
      refine IWp.cond ?_
      simp [go_sem, -getElem?_pos, -List.map_take, -List.map_drop, List.getElem?_cons_zero, List.getElem?_cons_succ, Go.IntWalk.iteOmega, Go.IntWalk.toNatUp, a1, a2, h5, Config.val, Config.cells, Rule.val, Rule.cells]
      refine IWp.seq ?_
      refine IWp.run [6] ?_
      simp [go_sem, -getElem?_pos, -List.map_take, -List.map_drop, List.getElem?_cons_zero, List.getElem?_cons_succ, Go.IntWalk.iteOmega, Go.IntWalk.toNatUp, a1, a2, h5, Config.val, Config.cells, Rule.val, Rule.cells]
      refine IWp.ret ?_
      simp [go_sem, -getElem?_pos, -List.map_take, -List.map_drop, List.getElem?_cons_zero, List.getElem?_cons_succ, Go.IntWalk.iteOmega, Go.IntWalk.toNatUp, a1, a2, h5, Config.val, Config.cells, Rule.val, Rule.cells, Try.results44]
      try exact .same _
  rw [if_neg (by omega)]
  by_cases a : r.span = 0
  · rw [decide_eq_true a]
    refine IBody.of Try.func44 rfl (by rw [Try.ntmps44]; simp) ?_
    rw [Try.ntmps44]
    refine IWp.seq ?_
    refine IWp.run [2, 3, 4] ?_
    simp [go_sem, -getElem?_pos, -List.map_take, -List.map_drop, List.getElem?_cons_zero, List.getElem?_cons_succ, Go.IntWalk.iteOmega, Go.IntWalk.toNatUp, h3, h4, h5, a, Config.val, Config.cells, Rule.val, Rule.cells]
    refine IWp.seq ?_
    refine IWp.run [2, 3, 4, 7] ?_
    simp [go_sem, -getElem?_pos, -List.map_take, -List.map_drop, List.getElem?_cons_zero, List.getElem?_cons_succ, Go.IntWalk.iteOmega, Go.IntWalk.toNatUp, h3, h4, h5, a, Config.val, Config.cells, Rule.val, Rule.cells]
    refine IWp.seq ?_
    refine IWp.seq ?_
    refine IWp.run [3, 4, 7, 13] ?_
    simp [go_sem, -getElem?_pos, -List.map_take, -List.map_drop, List.getElem?_cons_zero, List.getElem?_cons_succ, Go.IntWalk.iteOmega, Go.IntWalk.toNatUp, h3, h4, h5, a, Config.val, Config.cells, Rule.val, Rule.cells]
    refine IWp.block ?_
    refine IWp.seq ?_
    refine IWp.run [3, 4, 7, 13, 14] ?_
    simp [go_sem, -getElem?_pos, -List.map_take, -List.map_drop, List.getElem?_cons_zero, List.getElem?_cons_succ, Go.IntWalk.iteOmega, Go.IntWalk.toNatUp, h3, h4, h5, a, Config.val, Config.cells, Rule.val, Rule.cells]
    refine IWp.cond ?_
    simp [go_sem, -getElem?_pos, -List.map_take, -List.map_drop, List.getElem?_cons_zero, List.getElem?_cons_succ, Go.IntWalk.iteOmega, Go.IntWalk.toNatUp, h3, h4, h5, a, Config.val, Config.cells, Rule.val, Rule.cells]
    refine IWp.seq ?_
    refine IWp.run [3, 4, 7, 13, 22] ?_
    simp [go_sem, -getElem?_pos, -List.map_take, -List.map_drop, List.getElem?_cons_zero, List.getElem?_cons_succ, Go.IntWalk.iteOmega, Go.IntWalk.toNatUp, h3, h4, h5, a, Config.val, Config.cells, Rule.val, Rule.cells]
    refine IWp.cond ?_
    simp [go_sem, -getElem?_pos, -List.map_take, -List.map_drop, List.getElem?_cons_zero, List.getElem?_cons_succ, Go.IntWalk.iteOmega, Go.IntWalk.toNatUp, h3, h4, h5, a, Config.val, Config.cells, Rule.val, Rule.cells]
    refine IWp.seq ?_
    refine IWp.run [4, 7, 13, 35] ?_
    simp [go_sem, -getElem?_pos, -List.map_take, -List.map_drop, List.getElem?_cons_zero, List.getElem?_cons_succ, Go.IntWalk.iteOmega, Go.IntWalk.toNatUp, h3, h4, h5, a, Config.val, Config.cells, Rule.val, Rule.cells]
    refine IWp.cond ?_
    simp [go_sem, -getElem?_pos, -List.map_take, -List.map_drop, List.getElem?_cons_zero, List.getElem?_cons_succ, Go.IntWalk.iteOmega, Go.IntWalk.toNatUp, h3, h4, h5, a, Config.val, Config.cells, Rule.val, Rule.cells]
    refine IWp.seq ?_
    refine IWp.run [4, 7, 13, 110] ?_
    simp [go_sem, -getElem?_pos, -List.map_take, -List.map_drop, List.getElem?_cons_zero, List.getElem?_cons_succ, Go.IntWalk.iteOmega, Go.IntWalk.toNatUp, h3, h4, h5, a, Config.val, Config.cells, Rule.val, Rule.cells]
    refine IWp.cond ?_
    simp [go_sem, -getElem?_pos, -List.map_take, -List.map_drop, List.getElem?_cons_zero, List.getElem?_cons_succ, Go.IntWalk.iteOmega, Go.IntWalk.toNatUp, h3, h4, h5, a, Config.val, Config.cells, Rule.val, Rule.cells]
    refine IWp.seq ?_
    refine IWp.seq ?_
    refine IWp.run [4, 121] ?_
    simp [go_sem, -getElem?_pos, -List.map_take, -List.map_drop, List.getElem?_cons_zero, List.getElem?_cons_succ, Go.IntWalk.iteOmega, Go.IntWalk.toNatUp, h3, h4, h5, a, Config.val, Config.cells, Rule.val, Rule.cells]
    refine IWp.cond ?_
    simp [go_sem, -getElem?_pos, -List.map_take, -List.map_drop, List.getElem?_cons_zero, List.getElem?_cons_succ, Go.IntWalk.iteOmega, Go.IntWalk.toNatUp, h3, h4, h5, a, Config.val, Config.cells, Rule.val, Rule.cells]
    refine IWp.trim [4] (IWp.skip ?_)
    simp [go_sem, -getElem?_pos, -List.map_take, -List.map_drop, List.getElem?_cons_zero, List.getElem?_cons_succ, Go.IntWalk.iteOmega, Go.IntWalk.toNatUp, h3, h4, h5, a, Config.val, Config.cells, Rule.val, Rule.cells]
    refine IWp.seq ?_
    refine IWp.run [6] ?_
    simp [go_sem, -getElem?_pos, -List.map_take, -List.map_drop, List.getElem?_cons_zero, List.getElem?_cons_succ, Go.IntWalk.iteOmega, Go.IntWalk.toNatUp, h3, h4, h5, a, Config.val, Config.cells, Rule.val, Rule.cells]
    refine IWp.ret ?_
    simp [go_sem, -getElem?_pos, -List.map_take, -List.map_drop, List.getElem?_cons_zero, List.getElem?_cons_succ, Go.IntWalk.iteOmega, Go.IntWalk.toNatUp, h3, h4, h5, a, Config.val, Config.cells, Rule.val, Rule.cells, Try.results44]
    try exact .same _
  · rw [decide_eq_false a]
    refine IBody.of Try.func44 rfl (by rw [Try.ntmps44]; simp) ?_
    rw [Try.ntmps44]
    refine IWp.seq ?_
    refine IWp.run [2, 3, 4] ?_
    simp [go_sem, -getElem?_pos, -List.map_take, -List.map_drop, List.getElem?_cons_zero, List.getElem?_cons_succ, Go.IntWalk.iteOmega, Go.IntWalk.toNatUp, h3, h4, h5, a, show (r.span != 0) = true by simp [a], Config.val, Config.cells, Rule.val, Rule.cells]
    refine IWp.seq ?_
    refine IWp.run [2, 3, 4, 7] ?_
    simp [go_sem, -getElem?_pos, -List.map_take, -List.map_drop, List.getElem?_cons_zero, List.getElem?_cons_succ, Go.IntWalk.iteOmega, Go.IntWalk.toNatUp, h3, h4, h5, a, show (r.span != 0) = true by simp [a], Config.val, Config.cells, Rule.val, Rule.cells]
    refine IWp.seq ?_
    refine IWp.seq ?_
    refine IWp.run [3, 4, 7, 13] ?_
    simp [go_sem, -getElem?_pos, -List.map_take, -List.map_drop, List.getElem?_cons_zero, List.getElem?_cons_succ, Go.IntWalk.iteOmega, Go.IntWalk.toNatUp, h3, h4, h5, a, show (r.span != 0) = true by simp [a], Config.val, Config.cells, Rule.val, Rule.cells]
    refine IWp.block ?_
    refine IWp.seq ?_
    refine IWp.run [3, 4, 7, 13, 14] ?_
    simp [go_sem, -getElem?_pos, -List.map_take, -List.map_drop, List.getElem?_cons_zero, List.getElem?_cons_succ, Go.IntWalk.iteOmega, Go.IntWalk.toNatUp, h3, h4, h5, a, show (r.span != 0) = true by simp [a], Config.val, Config.cells, Rule.val, Rule.cells]
    refine IWp.cond ?_
    simp [go_sem, -getElem?_pos, -List.map_take, -List.map_drop, List.getElem?_cons_zero, List.getElem?_cons_succ, Go.IntWalk.iteOmega, Go.IntWalk.toNatUp, h3, h4, h5, a, show (r.span != 0) = true by simp [a], Config.val, Config.cells, Rule.val, Rule.cells]
    refine IWp.seq ?_
    refine IWp.run [3, 4, 7, 13, 22] ?_
    simp [go_sem, -getElem?_pos, -List.map_take, -List.map_drop, List.getElem?_cons_zero, List.getElem?_cons_succ, Go.IntWalk.iteOmega, Go.IntWalk.toNatUp, h3, h4, h5, a, show (r.span != 0) = true by simp [a], Config.val, Config.cells, Rule.val, Rule.cells]
    refine IWp.cond ?_
    simp [go_sem, -getElem?_pos, -List.map_take, -List.map_drop, List.getElem?_cons_zero, List.getElem?_cons_succ, Go.IntWalk.iteOmega, Go.IntWalk.toNatUp, h3, h4, h5, a, show (r.span != 0) = true by simp [a], Config.val, Config.cells, Rule.val, Rule.cells]
    refine IWp.seq ?_
    refine IWp.run [4, 7, 13, 35] ?_
    simp [go_sem, -getElem?_pos, -List.map_take, -List.map_drop, List.getElem?_cons_zero, List.getElem?_cons_succ, Go.IntWalk.iteOmega, Go.IntWalk.toNatUp, h3, h4, h5, a, show (r.span != 0) = true by simp [a], Config.val, Config.cells, Rule.val, Rule.cells]
    refine IWp.cond ?_
    simp [go_sem, -getElem?_pos, -List.map_take, -List.map_drop, List.getElem?_cons_zero, List.getElem?_cons_succ, Go.IntWalk.iteOmega, Go.IntWalk.toNatUp, h3, h4, h5, a, show (r.span != 0) = true by simp [a], Config.val, Config.cells, Rule.val, Rule.cells]
    refine IWp.seq ?_
    refine IWp.run [4, 7, 13, 110] ?_
    simp [go_sem, -getElem?_pos, -List.map_take, -List.map_drop, List.getElem?_cons_zero, List.getElem?_cons_succ, Go.IntWalk.iteOmega, Go.IntWalk.toNatUp, h3, h4, h5, a, show (r.span != 0) = true by simp [a], Config.val, Config.cells, Rule.val, Rule.cells]
    refine IWp.cond ?_
    simp [go_sem, -getElem?_pos, -List.map_take, -List.map_drop, List.getElem?_cons_zero, List.getElem?_cons_succ, Go.IntWalk.iteOmega, Go.IntWalk.toNatUp, h3, h4, h5, a, show (r.span != 0) = true by simp [a], Config.val, Config.cells, Rule.val, Rule.cells]
    refine IWp.seq ?_
    refine IWp.seq ?_
    refine IWp.run [4, 121] ?_
    simp [go_sem, -getElem?_pos, -List.map_take, -List.map_drop, List.getElem?_cons_zero, List.getElem?_cons_succ, Go.IntWalk.iteOmega, Go.IntWalk.toNatUp, h3, h4, h5, a, show (r.span != 0) = true by simp [a], Config.val, Config.cells, Rule.val, Rule.cells]
    refine IWp.cond ?_
    simp [go_sem, -getElem?_pos, -List.map_take, -List.map_drop, List.getElem?_cons_zero, List.getElem?_cons_succ, Go.IntWalk.iteOmega, Go.IntWalk.toNatUp, h3, h4, h5, a, show (r.span != 0) = true by simp [a], Config.val, Config.cells, Rule.val, Rule.cells]
    refine IWp.trim [4] (IWp.skip ?_)
    simp [go_sem, -getElem?_pos, -List.map_take, -List.map_drop, List.getElem?_cons_zero, List.getElem?_cons_succ, Go.IntWalk.iteOmega, Go.IntWalk.toNatUp, h3, h4, h5, a, show (r.span != 0) = true by simp [a], Config.val, Config.cells, Rule.val, Rule.cells]
    refine IWp.seq ?_
    refine IWp.run [6] ?_
    simp [go_sem, -getElem?_pos, -List.map_take, -List.map_drop, List.getElem?_cons_zero, List.getElem?_cons_succ, Go.IntWalk.iteOmega, Go.IntWalk.toNatUp, h3, h4, h5, a, show (r.span != 0) = true by simp [a], Config.val, Config.cells, Rule.val, Rule.cells]
    refine IWp.ret ?_
    simp [go_sem, -getElem?_pos, -List.map_take, -List.map_drop, List.getElem?_cons_zero, List.getElem?_cons_succ, Go.IntWalk.iteOmega, Go.IntWalk.toNatUp, h3, h4, h5, a, show (r.span != 0) = true by simp [a], Config.val, Config.cells, Rule.val, Rule.cells, Try.results44]
    try exact .same _

set_option maxHeartbeats 1600000 in
theorem broken5 (H : Heap) (c : Config) (r : Rule) (hl : r.stages.length ≤ 1000000) (hs : c.sigs.length ≤ 1000000) : ICalls Try.prog 44 [c.val, r.val, .int .i64 6] H fun v H' => v = .bool (!(ruleB c.sigs.length 5 r)) ∧ H' = H := by
  refine ICalls.ans (by simp [go_sem]) fun H => IBody.calls (by kernel_rfl) ?_
  simp only [ruleB]
  unfold limitsS
  have c1 := fun K => numberR K r.lim
  have c2 := fun K => numberR K r.back
  by_cases h1 : r.kind = 1
  · rw [if_pos h1]
    generalize numS r.lim = x1 at *
    generalize numS r.back = x2 at *
    cases x1
    · skip
      refine IBody.of Try.func44 rfl (by rw [Try.ntmps44]; simp) ?_
      rw [Try.ntmps44]
      refine IWp.seq ?_
      refine IWp.run [2, 3, 4] ?_
      simp [go_sem, -getElem?_pos, -List.map_take, -List.map_drop, List.getElem?_cons_zero, List.getElem?_cons_succ, Go.IntWalk.iteOmega, Go.IntWalk.toNatUp, h1, Config.val, Config.cells, Rule.val, Rule.cells]
      refine IWp.seq ?_
      refine IWp.run [2, 3, 4, 7] ?_
      simp [go_sem, -getElem?_pos, -List.map_take, -List.map_drop, List.getElem?_cons_zero, List.getElem?_cons_succ, Go.IntWalk.iteOmega, Go.IntWalk.toNatUp, h1, Config.val, Config.cells, Rule.val, Rule.cells]
      refine IWp.seq ?_
      refine IWp.seq ?_
      refine IWp.run [3, 4, 7, 13] ?_
      simp [go_sem, -getElem?_pos, -List.map_take, -List.map_drop, List.getElem?_cons_zero, List.getElem?_cons_succ, Go.IntWalk.iteOmega, Go.IntWalk.toNatUp, h1, Config.val, Config.cells, Rule.val, Rule.cells]
      refine IWp.block ?_
      refine IWp.seq ?_
      refine IWp.run [3, 4, 7, 13, 14] ?_
      simp [go_sem, -getElem?_pos, -List.map_take, -List.map_drop, List.getElem?_cons_zero, List.getElem?_cons_succ, Go.IntWalk.iteOmega, Go.IntWalk.toNatUp, h1, Config.val, Config.cells, Rule.val, Rule.cells]
      refine IWp.cond ?_
      simp [go_sem, -getElem?_pos, -List.map_take, -List.map_drop, List.getElem?_cons_zero, List.getElem?_cons_succ, Go.IntWalk.iteOmega, Go.IntWalk.toNatUp, h1, Config.val, Config.cells, Rule.val, Rule.cells]
      refine IWp.seq ?_
      refine IWp.run [3, 4, 7, 13, 22] ?_
      simp [go_sem, -getElem?_pos, -List.map_take, -List.map_drop, List.getElem?_cons_zero, List.getElem?_cons_succ, Go.IntWalk.iteOmega, Go.IntWalk.toNatUp, h1, Config.val, Config.cells, Rule.val, Rule.cells]
      refine IWp.cond ?_
      simp [go_sem, -getElem?_pos, -List.map_take, -List.map_drop, List.getElem?_cons_zero, List.getElem?_cons_succ, Go.IntWalk.iteOmega, Go.IntWalk.toNatUp, h1, Config.val, Config.cells, Rule.val, Rule.cells]
      refine IWp.seq ?_
      refine IWp.run [4, 7, 13, 35] ?_
      simp [go_sem, -getElem?_pos, -List.map_take, -List.map_drop, List.getElem?_cons_zero, List.getElem?_cons_succ, Go.IntWalk.iteOmega, Go.IntWalk.toNatUp, h1, Config.val, Config.cells, Rule.val, Rule.cells]
      refine IWp.cond ?_
      simp [go_sem, -getElem?_pos, -List.map_take, -List.map_drop, List.getElem?_cons_zero, List.getElem?_cons_succ, Go.IntWalk.iteOmega, Go.IntWalk.toNatUp, h1, Config.val, Config.cells, Rule.val, Rule.cells]
      refine IWp.seq ?_
      refine IWp.seq ?_
      refine IWp.run [4, 7, 38] ?_
      simp [go_sem, -getElem?_pos, -List.map_take, -List.map_drop, List.getElem?_cons_zero, List.getElem?_cons_succ, Go.IntWalk.iteOmega, Go.IntWalk.toNatUp, h1, Config.val, Config.cells, Rule.val, Rule.cells]
      refine IWp.cond ?_
      simp [go_sem, -getElem?_pos, -List.map_take, -List.map_drop, List.getElem?_cons_zero, List.getElem?_cons_succ, Go.IntWalk.iteOmega, Go.IntWalk.toNatUp, h1, Config.val, Config.cells, Rule.val, Rule.cells]
      refine IWp.seq ?_
      refine IWp.run [6] ?_
      simp [go_sem, -getElem?_pos, -List.map_take, -List.map_drop, List.getElem?_cons_zero, List.getElem?_cons_succ, Go.IntWalk.iteOmega, Go.IntWalk.toNatUp, h1, Config.val, Config.cells, Rule.val, Rule.cells]
      refine ICalls.then (c1 _) ?_
      try simp [go_sem, -getElem?_pos, -List.map_take, -List.map_drop, List.getElem?_cons_zero, List.getElem?_cons_succ, Go.IntWalk.iteOmega, Go.IntWalk.toNatUp, h1, Config.val, Config.cells, Rule.val, Rule.cells]
      refine IWp.ret ?_
      simp [go_sem, -getElem?_pos, -List.map_take, -List.map_drop, List.getElem?_cons_zero, List.getElem?_cons_succ, Go.IntWalk.iteOmega, Go.IntWalk.toNatUp, h1, Config.val, Config.cells, Rule.val, Rule.cells, Try.results44]
      try exact .same _
    cases x2
    · skip
      refine IBody.of Try.func44 rfl (by rw [Try.ntmps44]; simp) ?_
      rw [Try.ntmps44]
      refine IWp.seq ?_
      refine IWp.run [2, 3, 4] ?_
      simp [go_sem, -getElem?_pos, -List.map_take, -List.map_drop, List.getElem?_cons_zero, List.getElem?_cons_succ, Go.IntWalk.iteOmega, Go.IntWalk.toNatUp, h1, Config.val, Config.cells, Rule.val, Rule.cells]
      refine IWp.seq ?_
      refine IWp.run [2, 3, 4, 7] ?_
      simp [go_sem, -getElem?_pos, -List.map_take, -List.map_drop, List.getElem?_cons_zero, List.getElem?_cons_succ, Go.IntWalk.iteOmega, Go.IntWalk.toNatUp, h1, Config.val, Config.cells, Rule.val, Rule.cells]
      refine IWp.seq ?_
      refine IWp.seq ?_
      refine IWp.run [3, 4, 7, 13] ?_
      simp [go_sem, -getElem?_pos, -List.map_take, -List.map_drop, List.getElem?_cons_zero, List.getElem?_cons_succ, Go.IntWalk.iteOmega, Go.IntWalk.toNatUp, h1, Config.val, Config.cells, Rule.val, Rule.cells]
      refine IWp.block ?_
      refine IWp.seq ?_
      refine IWp.run [3, 4, 7, 13, 14] ?_
      simp [go_sem, -getElem?_pos, -List.map_take, -List.map_drop, List.getElem?_cons_zero, List.getElem?_cons_succ, Go.IntWalk.iteOmega, Go.IntWalk.toNatUp, h1, Config.val, Config.cells, Rule.val, Rule.cells]
      refine IWp.cond ?_
      simp [go_sem, -getElem?_pos, -List.map_take, -List.map_drop, List.getElem?_cons_zero, List.getElem?_cons_succ, Go.IntWalk.iteOmega, Go.IntWalk.toNatUp, h1, Config.val, Config.cells, Rule.val, Rule.cells]
      refine IWp.seq ?_
      refine IWp.run [3, 4, 7, 13, 22] ?_
      simp [go_sem, -getElem?_pos, -List.map_take, -List.map_drop, List.getElem?_cons_zero, List.getElem?_cons_succ, Go.IntWalk.iteOmega, Go.IntWalk.toNatUp, h1, Config.val, Config.cells, Rule.val, Rule.cells]
      refine IWp.cond ?_
      simp [go_sem, -getElem?_pos, -List.map_take, -List.map_drop, List.getElem?_cons_zero, List.getElem?_cons_succ, Go.IntWalk.iteOmega, Go.IntWalk.toNatUp, h1, Config.val, Config.cells, Rule.val, Rule.cells]
      refine IWp.seq ?_
      refine IWp.run [4, 7, 13, 35] ?_
      simp [go_sem, -getElem?_pos, -List.map_take, -List.map_drop, List.getElem?_cons_zero, List.getElem?_cons_succ, Go.IntWalk.iteOmega, Go.IntWalk.toNatUp, h1, Config.val, Config.cells, Rule.val, Rule.cells]
      refine IWp.cond ?_
      simp [go_sem, -getElem?_pos, -List.map_take, -List.map_drop, List.getElem?_cons_zero, List.getElem?_cons_succ, Go.IntWalk.iteOmega, Go.IntWalk.toNatUp, h1, Config.val, Config.cells, Rule.val, Rule.cells]
      refine IWp.seq ?_
      refine IWp.seq ?_
      refine IWp.run [4, 7, 38] ?_
      simp [go_sem, -getElem?_pos, -List.map_take, -List.map_drop, List.getElem?_cons_zero, List.getElem?_cons_succ, Go.IntWalk.iteOmega, Go.IntWalk.toNatUp, h1, Config.val, Config.cells, Rule.val, Rule.cells]
      refine IWp.cond ?_
      simp [go_sem, -getElem?_pos, -List.map_take, -List.map_drop, List.getElem?_cons_zero, List.getElem?_cons_succ, Go.IntWalk.iteOmega, Go.IntWalk.toNatUp, h1, Config.val, Config.cells, Rule.val, Rule.cells]
      refine IWp.seq ?_
      refine IWp.run [6] ?_
      simp [go_sem, -getElem?_pos, -List.map_take, -List.map_drop, List.getElem?_cons_zero, List.getElem?_cons_succ, Go.IntWalk.iteOmega, Go.IntWalk.toNatUp, h1, Config.val, Config.cells, Rule.val, Rule.cells]
      refine ICalls.then (c1 _) ?_
      try simp [go_sem, -getElem?_pos, -List.map_take, -List.map_drop, List.getElem?_cons_zero, List.getElem?_cons_succ, Go.IntWalk.iteOmega, Go.IntWalk.toNatUp, h1, Config.val, Config.cells, Rule.val, Rule.cells]
      refine ICalls.then (c2 _) ?_
      try simp [go_sem, -getElem?_pos, -List.map_take, -List.map_drop, List.getElem?_cons_zero, List.getElem?_cons_succ, Go.IntWalk.iteOmega, Go.IntWalk.toNatUp, h1, Config.val, Config.cells, Rule.val, Rule.cells]
      refine IWp.ret ?_
      simp [go_sem, -getElem?_pos, -List.map_take, -List.map_drop, List.getElem?_cons_zero, List.getElem?_cons_succ, Go.IntWalk.iteOmega, Go.IntWalk.toNatUp, h1, Config.val, Config.cells, Rule.val, Rule.cells, Try.results44]
      try exact .same _
    by_cases a : r.lim < r.back
    · rw [decide_eq_false (show ¬ r.back ≤ r.lim by omega)]
      refine IBody.of Try.func44 rfl (by rw [Try.ntmps44]; simp) ?_
      rw [Try.ntmps44]
      refine IWp.seq ?_
      refine IWp.run [2, 3, 4] ?_
      simp [go_sem, -getElem?_pos, -List.map_take, -List.map_drop, List.getElem?_cons_zero, List.getElem?_cons_succ, Go.IntWalk.iteOmega, Go.IntWalk.toNatUp, h1, a, Config.val, Config.cells, Rule.val, Rule.cells]
      refine IWp.seq ?_
      refine IWp.run [2, 3, 4, 7] ?_
      simp [go_sem, -getElem?_pos, -List.map_take, -List.map_drop, List.getElem?_cons_zero, List.getElem?_cons_succ, Go.IntWalk.iteOmega, Go.IntWalk.toNatUp, h1, a, Config.val, Config.cells, Rule.val, Rule.cells]
      refine IWp.seq ?_
      refine IWp.seq ?_
      refine IWp.run [3, 4, 7, 13] ?_
      simp [go_sem, -getElem?_pos, -List.map_take, -List.map_drop, List.getElem?_cons_zero, List.getElem?_cons_succ, Go.IntWalk.iteOmega, Go.IntWalk.toNatUp, h1, a, Config.val, Config.cells, Rule.val, Rule.cells]
      refine IWp.block ?_
      refine IWp.seq ?_
      refine IWp.run [3, 4, 7, 13, 14] ?_
      simp [go_sem, -getElem?_pos, -List.map_take, -List.map_drop, List.getElem?_cons_zero, List.getElem?_cons_succ, Go.IntWalk.iteOmega, Go.IntWalk.toNatUp, h1, a, Config.val, Config.cells, Rule.val, Rule.cells]
      refine IWp.cond ?_
      simp [go_sem, -getElem?_pos, -List.map_take, -List.map_drop, List.getElem?_cons_zero, List.getElem?_cons_succ, Go.IntWalk.iteOmega, Go.IntWalk.toNatUp, h1, a, Config.val, Config.cells, Rule.val, Rule.cells]
      refine IWp.seq ?_
      refine IWp.run [3, 4, 7, 13, 22] ?_
      simp [go_sem, -getElem?_pos, -List.map_take, -List.map_drop, List.getElem?_cons_zero, List.getElem?_cons_succ, Go.IntWalk.iteOmega, Go.IntWalk.toNatUp, h1, a, Config.val, Config.cells, Rule.val, Rule.cells]
      refine IWp.cond ?_
      simp [go_sem, -getElem?_pos, -List.map_take, -List.map_drop, List.getElem?_cons_zero, List.getElem?_cons_succ, Go.IntWalk.iteOmega, Go.IntWalk.toNatUp, h1, a, Config.val, Config.cells, Rule.val, Rule.cells]
      refine IWp.seq ?_
      refine IWp.run [4, 7, 13, 35] ?_
      simp [go_sem, -getElem?_pos, -List.map_take, -List.map_drop, List.getElem?_cons_zero, List.getElem?_cons_succ, Go.IntWalk.iteOmega, Go.IntWalk.toNatUp, h1, a, Config.val, Config.cells, Rule.val, Rule.cells]
      refine IWp.cond ?_
      simp [go_sem, -getElem?_pos, -List.map_take, -List.map_drop, List.getElem?_cons_zero, List.getElem?_cons_succ, Go.IntWalk.iteOmega, Go.IntWalk.toNatUp, h1, a, Config.val, Config.cells, Rule.val, Rule.cells]
      refine IWp.seq ?_
      refine IWp.seq ?_
      refine IWp.run [4, 7, 38] ?_
      simp [go_sem, -getElem?_pos, -List.map_take, -List.map_drop, List.getElem?_cons_zero, List.getElem?_cons_succ, Go.IntWalk.iteOmega, Go.IntWalk.toNatUp, h1, a, Config.val, Config.cells, Rule.val, Rule.cells]
      refine IWp.cond ?_
      simp [go_sem, -getElem?_pos, -List.map_take, -List.map_drop, List.getElem?_cons_zero, List.getElem?_cons_succ, Go.IntWalk.iteOmega, Go.IntWalk.toNatUp, h1, a, Config.val, Config.cells, Rule.val, Rule.cells]
      refine IWp.seq ?_
      refine IWp.run [6] ?_
      simp [go_sem, -getElem?_pos, -List.map_take, -List.map_drop, List.getElem?_cons_zero, List.getElem?_cons_succ, Go.IntWalk.iteOmega, Go.IntWalk.toNatUp, h1, a, Config.val, Config.cells, Rule.val, Rule.cells]
      refine ICalls.then (c1 _) ?_
      try simp [go_sem, -getElem?_pos, -List.map_take, -List.map_drop, List.getElem?_cons_zero, List.getElem?_cons_succ, Go.IntWalk.iteOmega, Go.IntWalk.toNatUp, h1, a, Config.val, Config.cells, Rule.val, Rule.cells]
      refine ICalls.then (c2 _) ?_
      try simp [go_sem, -getElem?_pos, -List.map_take, -List.map_drop, List.getElem?_cons_zero, List.getElem?_cons_succ, Go.IntWalk.iteOmega, Go.IntWalk.toNatUp, h1, a, Config.val, Config.cells, Rule.val, Rule.cells]
      refine IWp.ret ?_
      simp [go_sem, -getElem?_pos, -List.map_take, -List.map_drop, List.getElem?_cons_zero, List.getElem?_cons_succ, Go.IntWalk.iteOmega, Go.IntWalk.toNatUp, h1, a, Config.val, Config.cells, Rule.val, Rule.cells, Try.results44]
      try exact .same _
    · rw [decide_eq_true (show r.back ≤ r.lim by omega)]
      refine IBody.of Try.func44 rfl (by rw [Try.ntmps44]; simp) ?_
      rw [Try.ntmps44]
      refine IWp.seq ?_
      refine IWp.run [2, 3, 4] ?_
      simp [go_sem, -getElem?_pos, -List.map_take, -List.map_drop, List.getElem?_cons_zero, List.getElem?_cons_succ, Go.IntWalk.iteOmega, Go.IntWalk.toNatUp, h1, a, Config.val, Config.cells, Rule.val, Rule.cells]
      refine IWp.seq ?_
      refine IWp.run [2, 3, 4, 7] ?_
      simp [go_sem, -getElem?_pos, -List.map_take, -List.map_drop, List.getElem?_cons_zero, List.getElem?_cons_succ, Go.IntWalk.iteOmega, Go.IntWalk.toNatUp, h1, a, Config.val, Config.cells, Rule.val, Rule.cells]
      refine IWp.seq ?_
      refine IWp.seq ?_
      refine IWp.run [3, 4, 7, 13] ?_
      simp [go_sem, -getElem?_pos, -List.map_take, -List.map_drop, List.getElem?_cons_zero, List.getElem?_cons_succ, Go.IntWalk.iteOmega, Go.IntWalk.toNatUp, h1, a, Config.val, Config.cells, Rule.val, Rule.cells]
      refine IWp.block ?_
      refine IWp.seq ?_
      refine IWp.run [3, 4, 7, 13, 14] ?_
      simp [go_sem, -getElem?_pos, -List.map_take, -List.map_drop, List.getElem?_cons_zero, List.getElem?_cons_succ, Go.IntWalk.iteOmega, Go.IntWalk.toNatUp, h1, a, Config.val, Config.cells, Rule.val, Rule.cells]
      refine IWp.cond ?_
      simp [go_sem, -getElem?_pos, -List.map_take, -List.map_drop, List.getElem?_cons_zero, List.getElem?_cons_succ, Go.IntWalk.iteOmega, Go.IntWalk.toNatUp, h1, a, Config.val, Config.cells, Rule.val, Rule.cells]
      refine IWp.seq ?_
      refine IWp.run [3, 4, 7, 13, 22] ?_
      simp [go_sem, -getElem?_pos, -List.map_take, -List.map_drop, List.getElem?_cons_zero, List.getElem?_cons_succ, Go.IntWalk.iteOmega, Go.IntWalk.toNatUp, h1, a, Config.val, Config.cells, Rule.val, Rule.cells]
      refine IWp.cond ?_
      simp [go_sem, -getElem?_pos, -List.map_take, -List.map_drop, List.getElem?_cons_zero, List.getElem?_cons_succ, Go.IntWalk.iteOmega, Go.IntWalk.toNatUp, h1, a, Config.val, Config.cells, Rule.val, Rule.cells]
      refine IWp.seq ?_
      refine IWp.run [4, 7, 13, 35] ?_
      simp [go_sem, -getElem?_pos, -List.map_take, -List.map_drop, List.getElem?_cons_zero, List.getElem?_cons_succ, Go.IntWalk.iteOmega, Go.IntWalk.toNatUp, h1, a, Config.val, Config.cells, Rule.val, Rule.cells]
      refine IWp.cond ?_
      simp [go_sem, -getElem?_pos, -List.map_take, -List.map_drop, List.getElem?_cons_zero, List.getElem?_cons_succ, Go.IntWalk.iteOmega, Go.IntWalk.toNatUp, h1, a, Config.val, Config.cells, Rule.val, Rule.cells]
      refine IWp.seq ?_
      refine IWp.seq ?_
      refine IWp.run [4, 7, 38] ?_
      simp [go_sem, -getElem?_pos, -List.map_take, -List.map_drop, List.getElem?_cons_zero, List.getElem?_cons_succ, Go.IntWalk.iteOmega, Go.IntWalk.toNatUp, h1, a, Config.val, Config.cells, Rule.val, Rule.cells]
      refine IWp.cond ?_
      simp [go_sem, -getElem?_pos, -List.map_take, -List.map_drop, List.getElem?_cons_zero, List.getElem?_cons_succ, Go.IntWalk.iteOmega, Go.IntWalk.toNatUp, h1, a, Config.val, Config.cells, Rule.val, Rule.cells]
      refine IWp.seq ?_
      refine IWp.run [6] ?_
      simp [go_sem, -getElem?_pos, -List.map_take, -List.map_drop, List.getElem?_cons_zero, List.getElem?_cons_succ, Go.IntWalk.iteOmega, Go.IntWalk.toNatUp, h1, a, Config.val, Config.cells, Rule.val, Rule.cells]
      refine ICalls.then (c1 _) ?_
      try simp [go_sem, -getElem?_pos, -List.map_take, -List.map_drop, List.getElem?_cons_zero, List.getElem?_cons_succ, Go.IntWalk.iteOmega, Go.IntWalk.toNatUp, h1, a, Config.val, Config.cells, Rule.val, Rule.cells]
      refine ICalls.then (c2 _) ?_
      try simp [go_sem, -getElem?_pos, -List.map_take, -List.map_drop, List.getElem?_cons_zero, List.getElem?_cons_succ, Go.IntWalk.iteOmega, Go.IntWalk.toNatUp, h1, a, Config.val, Config.cells, Rule.val, Rule.cells]
      refine IWp.ret ?_
      simp [go_sem, -getElem?_pos, -List.map_take, -List.map_drop, List.getElem?_cons_zero, List.getElem?_cons_succ, Go.IntWalk.iteOmega, Go.IntWalk.toNatUp, h1, a, Config.val, Config.cells, Rule.val, Rule.cells, Try.results44]
      try exact .same _
  by_cases h2 : r.kind = 2
  · rw [if_neg (by omega)]; rw [if_pos h2]
    generalize numS r.lim = x1 at *
    generalize numS r.back = x2 at *
    cases x1
    · skip
      refine IBody.of Try.func44 rfl (by rw [Try.ntmps44]; simp) ?_
      rw [Try.ntmps44]
      refine IWp.seq ?_
      refine IWp.run [2, 3, 4] ?_
      simp [go_sem, -getElem?_pos, -List.map_take, -List.map_drop, List.getElem?_cons_zero, List.getElem?_cons_succ, Go.IntWalk.iteOmega, Go.IntWalk.toNatUp, h2, Config.val, Config.cells, Rule.val, Rule.cells]
      refine IWp.seq ?_
      refine IWp.run [2, 3, 4, 7] ?_
      simp [go_sem, -getElem?_pos, -List.map_take, -List.map_drop, List.getElem?_cons_zero, List.getElem?_cons_succ, Go.IntWalk.iteOmega, Go.IntWalk.toNatUp, h2, Config.val, Config.cells, Rule.val, Rule.cells]
      refine IWp.seq ?_
      refine IWp.seq ?_
      refine IWp.run [3, 4, 7, 13] ?_
      simp [go_sem, -getElem?_pos, -List.map_take, -List.map_drop, List.getElem?_cons_zero, List.getElem?_cons_succ, Go.IntWalk.iteOmega, Go.IntWalk.toNatUp, h2, Config.val, Config.cells, Rule.val, Rule.cells]
      refine IWp.block ?_
      refine IWp.seq ?_
      refine IWp.run [3, 4, 7, 13, 14] ?_
      simp [go_sem, -getElem?_pos, -List.map_take, -List.map_drop, List.getElem?_cons_zero, List.getElem?_cons_succ, Go.IntWalk.iteOmega, Go.IntWalk.toNatUp, h2, Config.val, Config.cells, Rule.val, Rule.cells]
      refine IWp.cond ?_
      simp [go_sem, -getElem?_pos, -List.map_take, -List.map_drop, List.getElem?_cons_zero, List.getElem?_cons_succ, Go.IntWalk.iteOmega, Go.IntWalk.toNatUp, h2, Config.val, Config.cells, Rule.val, Rule.cells]
      refine IWp.seq ?_
      refine IWp.run [3, 4, 7, 13, 22] ?_
      simp [go_sem, -getElem?_pos, -List.map_take, -List.map_drop, List.getElem?_cons_zero, List.getElem?_cons_succ, Go.IntWalk.iteOmega, Go.IntWalk.toNatUp, h2, Config.val, Config.cells, Rule.val, Rule.cells]
      refine IWp.cond ?_
      simp [go_sem, -getElem?_pos, -List.map_take, -List.map_drop, List.getElem?_cons_zero, List.getElem?_cons_succ, Go.IntWalk.iteOmega, Go.IntWalk.toNatUp, h2, Config.val, Config.cells, Rule.val, Rule.cells]
      refine IWp.seq ?_
      refine IWp.run [4, 7, 13, 35] ?_
      simp [go_sem, -getElem?_pos, -List.map_take, -List.map_drop, List.getElem?_cons_zero, List.getElem?_cons_succ, Go.IntWalk.iteOmega, Go.IntWalk.toNatUp, h2, Config.val, Config.cells, Rule.val, Rule.cells]
      refine IWp.cond ?_
      simp [go_sem, -getElem?_pos, -List.map_take, -List.map_drop, List.getElem?_cons_zero, List.getElem?_cons_succ, Go.IntWalk.iteOmega, Go.IntWalk.toNatUp, h2, Config.val, Config.cells, Rule.val, Rule.cells]
      refine IWp.seq ?_
      refine IWp.seq ?_
      refine IWp.run [4, 7, 38] ?_
      simp [go_sem, -getElem?_pos, -List.map_take, -List.map_drop, List.getElem?_cons_zero, List.getElem?_cons_succ, Go.IntWalk.iteOmega, Go.IntWalk.toNatUp, h2, Config.val, Config.cells, Rule.val, Rule.cells]
      refine IWp.cond ?_
      simp [go_sem, -getElem?_pos, -List.map_take, -List.map_drop, List.getElem?_cons_zero, List.getElem?_cons_succ, Go.IntWalk.iteOmega, Go.IntWalk.toNatUp, h2, Config.val, Config.cells, Rule.val, Rule.cells]
      refine IWp.trim [4, 7] (IWp.skip ?_)
      simp [go_sem, -getElem?_pos, -List.map_take, -List.map_drop, List.getElem?_cons_zero, List.getElem?_cons_succ, Go.IntWalk.iteOmega, Go.IntWalk.toNatUp, h2, Config.val, Config.cells, Rule.val, Rule.cells]
      refine IWp.seq ?_
      refine IWp.seq ?_
      refine IWp.run [4, 7, 57] ?_
      simp [go_sem, -getElem?_pos, -List.map_take, -List.map_drop, List.getElem?_cons_zero, List.getElem?_cons_succ, Go.IntWalk.iteOmega, Go.IntWalk.toNatUp, h2, Config.val, Config.cells, Rule.val, Rule.cells]
      refine IWp.cond ?_
      simp [go_sem, -getElem?_pos, -List.map_take, -List.map_drop, List.getElem?_cons_zero, List.getElem?_cons_succ, Go.IntWalk.iteOmega, Go.IntWalk.toNatUp, h2, Config.val, Config.cells, Rule.val, Rule.cells]
      refine IWp.seq ?_
      refine IWp.run [6] ?_
      simp [go_sem, -getElem?_pos, -List.map_take, -List.map_drop, List.getElem?_cons_zero, List.getElem?_cons_succ, Go.IntWalk.iteOmega, Go.IntWalk.toNatUp, h2, Config.val, Config.cells, Rule.val, Rule.cells]
      refine ICalls.then (c1 _) ?_
      try simp [go_sem, -getElem?_pos, -List.map_take, -List.map_drop, List.getElem?_cons_zero, List.getElem?_cons_succ, Go.IntWalk.iteOmega, Go.IntWalk.toNatUp, h2, Config.val, Config.cells, Rule.val, Rule.cells]
      refine IWp.ret ?_
      simp [go_sem, -getElem?_pos, -List.map_take, -List.map_drop, List.getElem?_cons_zero, List.getElem?_cons_succ, Go.IntWalk.iteOmega, Go.IntWalk.toNatUp, h2, Config.val, Config.cells, Rule.val, Rule.cells, Try.results44]
      try exact .same _
    cases x2
    · skip
      refine IBody.of Try.func44 rfl (by rw [Try.ntmps44]; simp) ?_
      rw [Try.ntmps44]
      refine IWp.seq ?_
      refine IWp.run [2, 3, 4] ?_
      simp [go_sem, -getElem?_pos, -List.map_take, -List.map_drop, List.getElem?_cons_zero, List.getElem?_cons_succ, Go.IntWalk.iteOmega, Go.IntWalk.toNatUp, h2, Config.val, Config.cells, Rule.val, Rule.cells]
      refine IWp.seq ?_
      refine IWp.run [2, 3, 4, 7] ?_
      simp [go_sem, -getElem?_pos, -List.map_take, -List.map_drop, List.getElem?_cons_zero, List.getElem?_cons_succ, Go.IntWalk.iteOmega, Go.IntWalk.toNatUp, h2, Config.val, Config.cells, Rule.val, Rule.cells]
      refine IWp.seq ?_
      refine IWp.seq ?_
      refine IWp.run [3, 4, 7, 13] ?_
      simp [go_sem, -getElem?_pos, -List.map_take, -List.map_drop, List.getElem?_cons_zero, List.getElem?_cons_succ, Go.IntWalk.iteOmega, Go.IntWalk.toNatUp, h2, Config.val, Config.cells, Rule.val, Rule.cells]
      refine IWp.block ?_
      refine IWp.seq ?_
      refine IWp.run [3, 4, 7, 13, 14] ?_
      simp [go_sem, -getElem?_pos, -List.map_take, -List.map_drop, List.getElem?_cons_zero, List.getElem?_cons_succ, Go.IntWalk.iteOmega, Go.IntWalk.toNatUp, h2, Config.val, Config.cells, Rule.val, Rule.cells]
      refine IWp.cond ?_
      simp [go_sem, -getElem?_pos, -List.map_take, -List.map_drop, List.getElem?_cons_zero, List.getElem?_cons_succ, Go.IntWalk.iteOmega, Go.IntWalk.toNatUp, h2, Config.val, Config.cells, Rule.val, Rule.cells]
      refine IWp.seq ?_
      refine IWp.run [3, 4, 7, 13, 22] ?_
      simp [go_sem, -getElem?_pos, -List.map_take, -List.map_drop, List.getElem?_cons_zero, List.getElem?_cons_succ, Go.IntWalk.iteOmega, Go.IntWalk.toNatUp, h2, Config.val, Config.cells, Rule.val, Rule.cells]
      refine IWp.cond ?_
      simp [go_sem, -getElem?_pos, -List.map_take, -List.map_drop, List.getElem?_cons_zero, List.getElem?_cons_succ, Go.IntWalk.iteOmega, Go.IntWalk.toNatUp, h2, Config.val, Config.cells, Rule.val, Rule.cells]
      refine IWp.seq ?_
      refine IWp.run [4, 7, 13, 35] ?_
      simp [go_sem, -getElem?_pos, -List.map_take, -List.map_drop, List.getElem?_cons_zero, List.getElem?_cons_succ, Go.IntWalk.iteOmega, Go.IntWalk.toNatUp, h2, Config.val, Config.cells, Rule.val, Rule.cells]
      refine IWp.cond ?_
      simp [go_sem, -getElem?_pos, -List.map_take, -List.map_drop, List.getElem?_cons_zero, List.getElem?_cons_succ, Go.IntWalk.iteOmega, Go.IntWalk.toNatUp, h2, Config.val, Config.cells, Rule.val, Rule.cells]
      refine IWp.seq ?_
      refine IWp.seq ?_
      refine IWp.run [4, 7, 38] ?_
      simp [go_sem, -getElem?_pos, -List.map_take, -List.map_drop, List.getElem?_cons_zero, List.getElem?_cons_succ, Go.IntWalk.iteOmega, Go.IntWalk.toNatUp, h2, Config.val, Config.cells, Rule.val, Rule.cells]
      refine IWp.cond ?_
      simp [go_sem, -getElem?_pos, -List.map_take, -List.map_drop, List.getElem?_cons_zero, List.getElem?_cons_succ, Go.IntWalk.iteOmega, Go.IntWalk.toNatUp, h2, Config.val, Config.cells, Rule.val, Rule.cells]
      refine IWp.trim [4, 7] (IWp.skip ?_)
      simp [go_sem, -getElem?_pos, -List.map_take, -List.map_drop, List.getElem?_cons_zero, List.getElem?_cons_succ, Go.IntWalk.iteOmega, Go.IntWalk.toNatUp, h2, Config.val, Config.cells, Rule.val, Rule.cells]
      refine IWp.seq ?_
      refine IWp.seq ?_
      refine IWp.run [4, 7, 57] ?_
      simp [go_sem, -getElem?_pos, -List.map_take, -List.map_drop, List.getElem?_cons_zero, List.getElem?_cons_succ, Go.IntWalk.iteOmega, Go.IntWalk.toNatUp, h2, Config.val, Config.cells, Rule.val, Rule.cells]
      refine IWp.cond ?_
      simp [go_sem, -getElem?_pos, -List.map_take, -List.map_drop, List.getElem?_cons_zero, List.getElem?_cons_succ, Go.IntWalk.iteOmega, Go.IntWalk.toNatUp, h2, Config.val, Config.cells, Rule.val, Rule.cells]
      refine IWp.seq ?_
      refine IWp.run [6] ?_
      simp [go_sem, -getElem?_pos, -List.map_take, -List.map_drop, List.getElem?_cons_zero, List.getElem?_cons_succ, Go.IntWalk.iteOmega, Go.IntWalk.toNatUp, h2, Config.val, Config.cells, Rule.val, Rule.cells]
      refine ICalls.then (c1 _) ?_
      try simp [go_sem, -getElem?_pos, -List.map_take, -List.map_drop, List.getElem?_cons_zero, List.getElem?_cons_succ, Go.IntWalk.iteOmega, Go.IntWalk.toNatUp, h2, Config.val, Config.cells, Rule.val, Rule.cells]
      refine ICalls.then (c2 _) ?_
      try simp [go_sem, -getElem?_pos, -List.map_take, -List.map_drop, List.getElem?_cons_zero, List.getElem?_cons_succ, Go.IntWalk.iteOmega, Go.IntWalk.toNatUp, h2, Config.val, Config.cells, Rule.val, Rule.cells]
      refine IWp.ret ?_
      simp [go_sem, -getElem?_pos, -List.map_take, -List.map_drop, List.getElem?_cons_zero, List.getElem?_cons_succ, Go.IntWalk.iteOmega, Go.IntWalk.toNatUp, h2, Config.val, Config.cells, Rule.val, Rule.cells, Try.results44]
      try exact .same _
    by_cases a : r.back < r.lim
    · rw [decide_eq_false (show ¬ r.lim ≤ r.back by omega)]
      refine IBody.of Try.func44 rfl (by rw [Try.ntmps44]; simp) ?_
      rw [Try.ntmps44]
      refine IWp.seq ?_
      refine IWp.run [2, 3, 4] ?_
      simp [go_sem, -getElem?_pos, -List.map_take, -List.map_drop, List.getElem?_cons_zero, List.getElem?_cons_succ, Go.IntWalk.iteOmega, Go.IntWalk.toNatUp, h2, a, Config.val, Config.cells, Rule.val, Rule.cells]
      refine IWp.seq ?_
      refine IWp.run [2, 3, 4, 7] ?_
      simp [go_sem, -getElem?_pos, -List.map_take, -List.map_drop, List.getElem?_cons_zero, List.getElem?_cons_succ, Go.IntWalk.iteOmega, Go.IntWalk.toNatUp, h2, a, Config.val, Config.cells, Rule.val, Rule.cells]
      refine IWp.seq ?_
      refine IWp.seq ?_
      refine IWp.run [3, 4, 7, 13] ?_
      simp [go_sem, -getElem?_pos, -List.map_take, -List.map_drop, List.getElem?_cons_zero, List.getElem?_cons_succ, Go.IntWalk.iteOmega, Go.IntWalk.toNatUp, h2, a, Config.val, Config.cells, Rule.val, Rule.cells]
      refine IWp.block ?_
      refine IWp.seq ?_
      refine IWp.run [3, 4, 7, 13, 14] ?_
      simp [go_sem, -getElem?_pos, -List.map_take, -List.map_drop, List.getElem?_cons_zero, List.getElem?_cons_succ, Go.IntWalk.iteOmega, Go.IntWalk.toNatUp, h2, a, Config.val, Config.cells, Rule.val, Rule.cells]
      refine IWp.cond ?_
      simp [go_sem, -getElem?_pos, -List.map_take, -List.map_drop, List.getElem?_cons_zero, List.getElem?_cons_succ, Go.IntWalk.iteOmega, Go.IntWalk.toNatUp, h2, a, Config.val, Config.cells, Rule.val, Rule.cells]
      refine IWp.seq ?_
      refine IWp.run [3, 4, 7, 13, 22] ?_
      simp [go_sem, -getElem?_pos, -List.map_take, -List.map_drop, List.getElem?_cons_zero, List.getElem?_cons_succ, Go.IntWalk.iteOmega, Go.IntWalk.toNatUp, h2, a, Config.val, Config.cells, Rule.val, Rule.cells]
      refine IWp.cond ?_
      simp [go_sem, -getElem?_pos, -List.map_take, -List.map_drop, List.getElem?_cons_zero, List.getElem?_cons_succ, Go.IntWalk.iteOmega, Go.IntWalk.toNatUp, h2, a, Config.val, Config.cells, Rule.val, Rule.cells]
      refine IWp.seq ?_
      refine IWp.run [4, 7, 13, 35] ?_
      simp [go_sem, -getElem?_pos, -List.map_take, -List.map_drop, List.getElem?_cons_zero, List.getElem?_cons_succ, Go.IntWalk.iteOmega, Go.IntWalk.toNatUp, h2, a, Config.val, Config.cells, Rule.val, Rule.cells]
      refine IWp.cond ?_
      simp [go_sem, -getElem?_pos, -List.map_take, -List.map_drop, List.getElem?_cons_zero, List.getElem?_cons_succ, Go.IntWalk.iteOmega, Go.IntWalk.toNatUp, h2, a, Config.val, Config.cells, Rule.val, Rule.cells]
      refine IWp.seq ?_
      refine IWp.seq ?_
      refine IWp.run [4, 7, 38] ?_
      simp [go_sem, -getElem?_pos, -List.map_take, -List.map_drop, List.getElem?_cons_zero, List.getElem?_cons_succ, Go.IntWalk.iteOmega, Go.IntWalk.toNatUp, h2, a, Config.val, Config.cells, Rule.val, Rule.cells]
      refine IWp.cond ?_
      simp [go_sem, -getElem?_pos, -List.map_take, -List.map_drop, List.getElem?_cons_zero, List.getElem?_cons_succ, Go.IntWalk.iteOmega, Go.IntWalk.toNatUp, h2, a, Config.val, Config.cells, Rule.val, Rule.cells]
      refine IWp.trim [4, 7] (IWp.skip ?_)
      simp [go_sem, -getElem?_pos, -List.map_take, -List.map_drop, List.getElem?_cons_zero, List.getElem?_cons_succ, Go.IntWalk.iteOmega, Go.IntWalk.toNatUp, h2, a, Config.val, Config.cells, Rule.val, Rule.cells]
      refine IWp.seq ?_
      refine IWp.seq ?_
      refine IWp.run [4, 7, 57] ?_
      simp [go_sem, -getElem?_pos, -List.map_take, -List.map_drop, List.getElem?_cons_zero, List.getElem?_cons_succ, Go.IntWalk.iteOmega, Go.IntWalk.toNatUp, h2, a, Config.val, Config.cells, Rule.val, Rule.cells]
      refine IWp.cond ?_
      simp [go_sem, -getElem?_pos, -List.map_take, -List.map_drop, List.getElem?_cons_zero, List.getElem?_cons_succ, Go.IntWalk.iteOmega, Go.IntWalk.toNatUp, h2, a, Config.val, Config.cells, Rule.val, Rule.cells]
      refine IWp.seq ?_
      refine IWp.run [6] ?_
      simp [go_sem, -getElem?_pos, -List.map_take, -List.map_drop, List.getElem?_cons_zero, List.getElem?_cons_succ, Go.IntWalk.iteOmega, Go.IntWalk.toNatUp, h2, a, Config.val, Config.cells, Rule.val, Rule.cells]
      refine ICalls.then (c1 _) ?_
      try simp [go_sem, -getElem?_pos, -List.map_take, -List.map_drop, List.getElem?_cons_zero, List.getElem?_cons_succ, Go.IntWalk.iteOmega, Go.IntWalk.toNatUp, h2, a, Config.val, Config.cells, Rule.val, Rule.cells]
      refine ICalls.then (c2 _) ?_
      try simp [go_sem, -getElem?_pos, -List.map_take, -List.map_drop, List.getElem?_cons_zero, List.getElem?_cons_succ, Go.IntWalk.iteOmega, Go.IntWalk.toNatUp, h2, a, Config.val, Config.cells, Rule.val, Rule.cells]
      refine IWp.ret ?_
      simp [go_sem, -getElem?_pos, -List.map_take, -List.map_drop, List.getElem?_cons_zero, List.getElem?_cons_succ, Go.IntWalk.iteOmega, Go.IntWalk.toNatUp, h2, a, Config.val, Config.cells, Rule.val, Rule.cells, Try.results44]
      try exact .same _
    · rw [decide_eq_true (show r.lim ≤ r.back by omega)]
      refine IBody.of Try.func44 rfl (by rw [Try.ntmps44]; simp) ?_
      rw [Try.ntmps44]
      refine IWp.seq ?_
      refine IWp.run [2, 3, 4] ?_
      simp [go_sem, -getElem?_pos, -List.map_take, -List.map_drop, List.getElem?_cons_zero, List.getElem?_cons_succ, Go.IntWalk.iteOmega, Go.IntWalk.toNatUp, h2, a, Config.val, Config.cells, Rule.val, Rule.cells]
      refine IWp.seq ?_
      refine IWp.run [2, 3, 4, 7] ?_
      simp [go_sem, -getElem?_pos, -List.map_take, -List.map_drop, List.getElem?_cons_zero, List.getElem?_cons_succ, Go.IntWalk.iteOmega, Go.IntWalk.toNatUp, h2, a, Config.val, Config.cells, Rule.val, Rule.cells]
      refine IWp.seq ?_
      refine IWp.seq ?_
      refine IWp.run [3, 4, 7, 13] ?_
      simp [go_sem, -getElem?_pos, -List.map_take, -List.map_drop, List.getElem?_cons_zero, List.getElem?_cons_succ, Go.IntWalk.iteOmega, Go.IntWalk.toNatUp, h2, a, Config.val, Config.cells, Rule.val, Rule.cells]
      refine IWp.block ?_
      refine IWp.seq ?_
      refine IWp.run [3, 4, 7, 13, 14] ?_
      simp [go_sem, -getElem?_pos, -List.map_take, -List.map_drop, List.getElem?_cons_zero, List.getElem?_cons_succ, Go.IntWalk.iteOmega, Go.IntWalk.toNatUp, h2, a, Config.val, Config.cells, Rule.val, Rule.cells]
      refine IWp.cond ?_
      simp [go_sem, -getElem?_pos, -List.map_take, -List.map_drop, List.getElem?_cons_zero, List.getElem?_cons_succ, Go.IntWalk.iteOmega, Go.IntWalk.toNatUp, h2, a, Config.val, Config.cells, Rule.val, Rule.cells]
      refine IWp.seq ?_
      refine IWp.run [3, 4, 7, 13, 22] ?_
      simp [go_sem, -getElem?_pos, -List.map_take, -List.map_drop, List.getElem?_cons_zero, List.getElem?_cons_succ, Go.IntWalk.iteOmega, Go.IntWalk.toNatUp, h2, a, Config.val, Config.cells, Rule.val, Rule.cells]
      refine IWp.cond ?_
      simp [go_sem, -getElem?_pos, -List.map_take, -List.map_drop, List.getElem?_cons_zero, List.getElem?_cons_succ, Go.IntWalk.iteOmega, Go.IntWalk.toNatUp, h2, a, Config.val, Config.cells, Rule.val, Rule.cells]
      refine IWp.seq ?_
      refine IWp.run [4, 7, 13, 35] ?_
      simp [go_sem, -getElem?_pos, -List.map_take, -List.map_drop, List.getElem?_cons_zero, List.getElem?_cons_succ, Go.IntWalk.iteOmega, Go.IntWalk.toNatUp, h2, a, Config.val, Config.cells, Rule.val, Rule.cells]
      refine IWp.cond ?_
      simp [go_sem, -getElem?_pos, -List.map_take, -List.map_drop, List.getElem?_cons_zero, List.getElem?_cons_succ, Go.IntWalk.iteOmega, Go.IntWalk.toNatUp, h2, a, Config.val, Config.cells, Rule.val, Rule.cells]
      refine IWp.seq ?_
      refine IWp.seq ?_
      refine IWp.run [4, 7, 38] ?_
      simp [go_sem, -getElem?_pos, -List.map_take, -List.map_drop, List.getElem?_cons_zero, List.getElem?_cons_succ, Go.IntWalk.iteOmega, Go.IntWalk.toNatUp, h2, a, Config.val, Config.cells, Rule.val, Rule.cells]
      refine IWp.cond ?_
      simp [go_sem, -getElem?_pos, -List.map_take, -List.map_drop, List.getElem?_cons_zero, List.getElem?_cons_succ, Go.IntWalk.iteOmega, Go.IntWalk.toNatUp, h2, a, Config.val, Config.cells, Rule.val, Rule.cells]
      refine IWp.trim [4, 7] (IWp.skip ?_)
      simp [go_sem, -getElem?_pos, -List.map_take, -List.map_drop, List.getElem?_cons_zero, List.getElem?_cons_succ, Go.IntWalk.iteOmega, Go.IntWalk.toNatUp, h2, a, Config.val, Config.cells, Rule.val, Rule.cells]
      refine IWp.seq ?_
      refine IWp.seq ?_
      refine IWp.run [4, 7, 57] ?_
      simp [go_sem, -getElem?_pos, -List.map_take, -List.map_drop, List.getElem?_cons_zero, List.getElem?_cons_succ, Go.IntWalk.iteOmega, Go.IntWalk.toNatUp, h2, a, Config.val, Config.cells, Rule.val, Rule.cells]
      refine IWp.cond ?_
      simp [go_sem, -getElem?_pos, -List.map_take, -List.map_drop, List.getElem?_cons_zero, List.getElem?_cons_succ, Go.IntWalk.iteOmega, Go.IntWalk.toNatUp, h2, a, Config.val, Config.cells, Rule.val, Rule.cells]
      refine IWp.seq ?_
      refine IWp.run [6] ?_
      simp [go_sem, -getElem?_pos, -List.map_take, -List.map_drop, List.getElem?_cons_zero, List.getElem?_cons_succ, Go.IntWalk.iteOmega, Go.IntWalk.toNatUp, h2, a, Config.val, Config.cells, Rule.val, Rule.cells]
      refine ICalls.then (c1 _) ?_
      try simp [go_sem, -getElem?_pos, -List.map_take, -List.map_drop, List.getElem?_cons_zero, List.getElem?_cons_succ, Go.IntWalk.iteOmega, Go.IntWalk.toNatUp, h2, a, Config.val, Config.cells, Rule.val, Rule.cells]
      refine ICalls.then (c2 _) ?_
      try simp [go_sem, -getElem?_pos, -List.map_take, -List.map_drop, List.getElem?_cons_zero, List.getElem?_cons_succ, Go.IntWalk.iteOmega, Go.IntWalk.toNatUp, h2, a, Config.val, Config.cells, Rule.val, Rule.cells]
      refine IWp.ret ?_
      simp [go_sem, -getElem?_pos, -List.map_take, -List.map_drop, List.getElem?_cons_zero, List.getElem?_cons_succ, Go.IntWalk.iteOmega, Go.IntWalk.toNatUp, h2, a, Config.val, Config.cells, Rule.val, Rule.cells, Try.results44]
      try exact .same _
  rw [if_neg h1, if_neg h2]
  by_cases h3 : r.kind = 3
  · rw [if_pos (by omega)]
    by_cases a0 : -2147483648 ≤ r.lim ∧ r.lim ≤ 2147483647
    case neg =>
      rw [show inS r.lim 1 2147483647 = false from inS_not.2 (by omega)]
      rw [show numS r.lim = false from inS_not.2 a0] at c1
      refine IBody.of Try.func44 rfl (by rw [Try.ntmps44]; simp) ?_
      rw [Try.ntmps44]
      refine IWp.seq ?_
      refine IWp.run [2, 3, 4] ?_
      simp [go_sem, -getElem?_pos, -List.map_take, -List.map_drop, List.getElem?_cons_zero, List.getElem?_cons_succ, Go.IntWalk.iteOmega, Go.IntWalk.toNatUp, h1, h2, h3, Config.val, Config.cells, Rule.val, Rule.cells]
      refine IWp.seq ?_
      refine IWp.run [2, 3, 4, 7] ?_
      simp [go_sem, -getElem?_pos, -List.map_take, -List.map_drop, List.getElem?_cons_zero, List.getElem?_cons_succ, Go.IntWalk.iteOmega, Go.IntWalk.toNatUp, h1, h2, h3, Config.val, Config.cells, Rule.val, Rule.cells]
      refine IWp.seq ?_
      refine IWp.seq ?_
      refine IWp.run [3, 4, 7, 13] ?_
      simp [go_sem, -getElem?_pos, -List.map_take, -List.map_drop, List.getElem?_cons_zero, List.getElem?_cons_succ, Go.IntWalk.iteOmega, Go.IntWalk.toNatUp, h1, h2, h3, Config.val, Config.cells, Rule.val, Rule.cells]
      refine IWp.block ?_
      refine IWp.seq ?_
      refine IWp.run [3, 4, 7, 13, 14] ?_
      simp [go_sem, -getElem?_pos, -List.map_take, -List.map_drop, List.getElem?_cons_zero, List.getElem?_cons_succ, Go.IntWalk.iteOmega, Go.IntWalk.toNatUp, h1, h2, h3, Config.val, Config.cells, Rule.val, Rule.cells]
      refine IWp.cond ?_
      simp [go_sem, -getElem?_pos, -List.map_take, -List.map_drop, List.getElem?_cons_zero, List.getElem?_cons_succ, Go.IntWalk.iteOmega, Go.IntWalk.toNatUp, h1, h2, h3, Config.val, Config.cells, Rule.val, Rule.cells]
      refine IWp.seq ?_
      refine IWp.run [3, 4, 7, 13, 22] ?_
      simp [go_sem, -getElem?_pos, -List.map_take, -List.map_drop, List.getElem?_cons_zero, List.getElem?_cons_succ, Go.IntWalk.iteOmega, Go.IntWalk.toNatUp, h1, h2, h3, Config.val, Config.cells, Rule.val, Rule.cells]
      refine IWp.cond ?_
      simp [go_sem, -getElem?_pos, -List.map_take, -List.map_drop, List.getElem?_cons_zero, List.getElem?_cons_succ, Go.IntWalk.iteOmega, Go.IntWalk.toNatUp, h1, h2, h3, Config.val, Config.cells, Rule.val, Rule.cells]
      refine IWp.seq ?_
      refine IWp.run [4, 7, 13, 35] ?_
      simp [go_sem, -getElem?_pos, -List.map_take, -List.map_drop, List.getElem?_cons_zero, List.getElem?_cons_succ, Go.IntWalk.iteOmega, Go.IntWalk.toNatUp, h1, h2, h3, Config.val, Config.cells, Rule.val, Rule.cells]
      refine IWp.cond ?_
      simp [go_sem, -getElem?_pos, -List.map_take, -List.map_drop, List.getElem?_cons_zero, List.getElem?_cons_succ, Go.IntWalk.iteOmega, Go.IntWalk.toNatUp, h1, h2, h3, Config.val, Config.cells, Rule.val, Rule.cells]
      refine IWp.seq ?_
      refine IWp.seq ?_
      refine IWp.run [4, 7, 38] ?_
      simp [go_sem, -getElem?_pos, -List.map_take, -List.map_drop, List.getElem?_cons_zero, List.getElem?_cons_succ, Go.IntWalk.iteOmega, Go.IntWalk.toNatUp, h1, h2, h3, Config.val, Config.cells, Rule.val, Rule.cells]
      refine IWp.cond ?_
      simp [go_sem, -getElem?_pos, -List.map_take, -List.map_drop, List.getElem?_cons_zero, List.getElem?_cons_succ, Go.IntWalk.iteOmega, Go.IntWalk.toNatUp, h1, h2, h3, Config.val, Config.cells, Rule.val, Rule.cells]
      refine IWp.trim [4, 7] (IWp.skip ?_)
      simp [go_sem, -getElem?_pos, -List.map_take, -List.map_drop, List.getElem?_cons_zero, List.getElem?_cons_succ, Go.IntWalk.iteOmega, Go.IntWalk.toNatUp, h1, h2, h3, Config.val, Config.cells, Rule.val, Rule.cells]
      refine IWp.seq ?_
      refine IWp.seq ?_
      refine IWp.run [4, 7, 57] ?_
      simp [go_sem, -getElem?_pos, -List.map_take, -List.map_drop, List.getElem?_cons_zero, List.getElem?_cons_succ, Go.IntWalk.iteOmega, Go.IntWalk.toNatUp, h1, h2, h3, Config.val, Config.cells, Rule.val, Rule.cells]
      refine IWp.cond ?_
      simp [go_sem, -getElem?_pos, -List.map_take, -List.map_drop, List.getElem?_cons_zero, List.getElem?_cons_succ, Go.IntWalk.iteOmega, Go.IntWalk.toNatUp, h1, h2, h3, Config.val, Config.cells, Rule.val, Rule.cells]
      refine IWp.trim [4, 7] (IWp.skip ?_)
      simp [go_sem, -getElem?_pos, -List.map_take, -List.map_drop, List.getElem?_cons_zero, List.getElem?_cons_succ, Go.IntWalk.iteOmega, Go.IntWalk.toNatUp, h1, h2, h3, Config.val, Config.cells, Rule.val, Rule.cells]
      refine IWp.seq ?_
      refine IWp.seq ?_
      refine IWp.run [4, 80] ?_
      simp [go_sem, -getElem?_pos, -List.map_take, -List.map_drop, List.getElem?_cons_zero, List.getElem?_cons_succ, Go.IntWalk.iteOmega, Go.IntWalk.toNatUp, h1, h2, h3, Config.val, Config.cells, Rule.val, Rule.cells]
      refine IWp.cond ?_
      simp [go_sem, -getElem?_pos, -List.map_take, -List.map_drop, List.getElem?_cons_zero, List.getElem?_cons_succ, Go.IntWalk.iteOmega, Go.IntWalk.toNatUp, h1, h2, h3, Config.val, Config.cells, Rule.val, Rule.cells]
      refine IWp.seq ?_
      refine IWp.run [6] ?_
      simp [go_sem, -getElem?_pos, -List.map_take, -List.map_drop, List.getElem?_cons_zero, List.getElem?_cons_succ, Go.IntWalk.iteOmega, Go.IntWalk.toNatUp, h1, h2, h3, Config.val, Config.cells, Rule.val, Rule.cells]
      refine ICalls.then (c1 _) ?_
      try simp [go_sem, -getElem?_pos, -List.map_take, -List.map_drop, List.getElem?_cons_zero, List.getElem?_cons_succ, Go.IntWalk.iteOmega, Go.IntWalk.toNatUp, h1, h2, h3, Config.val, Config.cells, Rule.val, Rule.cells]
      refine IWp.ret ?_
      simp [go_sem, -getElem?_pos, -List.map_take, -List.map_drop, List.getElem?_cons_zero, List.getElem?_cons_succ, Go.IntWalk.iteOmega, Go.IntWalk.toNatUp, h1, h2, h3, Config.val, Config.cells, Rule.val, Rule.cells, Try.results44]
      try exact .same _
    rw [show numS r.lim = true from inS_iff.2 a0] at c1
    by_cases a1 : r.lim < 1
    · rw [show inS r.lim 1 2147483647 = false from inS_not.2 (by omega)]
      refine IBody.of Try.func44 rfl (by rw [Try.ntmps44]; simp) ?_
      rw [Try.ntmps44]
      refine IWp.seq ?_
      refine IWp.run [2, 3, 4] ?_
      simp [go_sem, -getElem?_pos, -List.map_take, -List.map_drop, List.getElem?_cons_zero, List.getElem?_cons_succ, Go.IntWalk.iteOmega, Go.IntWalk.toNatUp, h1, h2, h3, a1, Config.val, Config.cells, Rule.val, Rule.cells]
      refine IWp.seq ?_
      refine IWp.run [2, 3, 4, 7] ?_
      simp [go_sem, -getElem?_pos, -List.map_take, -List.map_drop, List.getElem?_cons_zero, List.getElem?_cons_succ, Go.IntWalk.iteOmega, Go.IntWalk.toNatUp, h1, h2, h3, a1, Config.val, Config.cells, Rule.val, Rule.cells]
      refine IWp.seq ?_
      refine IWp.seq ?_
      refine IWp.run [3, 4, 7, 13] ?_
      simp [go_sem, -getElem?_pos, -List.map_take, -List.map_drop, List.getElem?_cons_zero, List.getElem?_cons_succ, Go.IntWalk.iteOmega, Go.IntWalk.toNatUp, h1, h2, h3, a1, Config.val, Config.cells, Rule.val, Rule.cells]
      refine IWp.block ?_
      refine IWp.seq ?_
      refine IWp.run [3, 4, 7, 13, 14] ?_
      simp [go_sem, -getElem?_pos, -List.map_take, -List.map_drop, List.getElem?_cons_zero, List.getElem?_cons_succ, Go.IntWalk.iteOmega, Go.IntWalk.toNatUp, h1, h2, h3, a1, Config.val, Config.cells, Rule.val, Rule.cells]
      refine IWp.cond ?_
      simp [go_sem, -getElem?_pos, -List.map_take, -List.map_drop, List.getElem?_cons_zero, List.getElem?_cons_succ, Go.IntWalk.iteOmega, Go.IntWalk.toNatUp, h1, h2, h3, a1, Config.val, Config.cells, Rule.val, Rule.cells]
      refine IWp.seq ?_
      refine IWp.run [3, 4, 7, 13, 22] ?_
      simp [go_sem, -getElem?_pos, -List.map_take, -List.map_drop, List.getElem?_cons_zero, List.getElem?_cons_succ, Go.IntWalk.iteOmega, Go.IntWalk.toNatUp, h1, h2, h3, a1, Config.val, Config.cells, Rule.val, Rule.cells]
      refine IWp.cond ?_
      simp [go_sem, -getElem?_pos, -List.map_take, -List.map_drop, List.getElem?_cons_zero, List.getElem?_cons_succ, Go.IntWalk.iteOmega, Go.IntWalk.toNatUp, h1, h2, h3, a1, Config.val, Config.cells, Rule.val, Rule.cells]
      refine IWp.seq ?_
      refine IWp.run [4, 7, 13, 35] ?_
      simp [go_sem, -getElem?_pos, -List.map_take, -List.map_drop, List.getElem?_cons_zero, List.getElem?_cons_succ, Go.IntWalk.iteOmega, Go.IntWalk.toNatUp, h1, h2, h3, a1, Config.val, Config.cells, Rule.val, Rule.cells]
      refine IWp.cond ?_
      simp [go_sem, -getElem?_pos, -List.map_take, -List.map_drop, List.getElem?_cons_zero, List.getElem?_cons_succ, Go.IntWalk.iteOmega, Go.IntWalk.toNatUp, h1, h2, h3, a1, Config.val, Config.cells, Rule.val, Rule.cells]
      refine IWp.seq ?_
      refine IWp.seq ?_
      refine IWp.run [4, 7, 38] ?_
      simp [go_sem, -getElem?_pos, -List.map_take, -List.map_drop, List.getElem?_cons_zero, List.getElem?_cons_succ, Go.IntWalk.iteOmega, Go.IntWalk.toNatUp, h1, h2, h3, a1, Config.val, Config.cells, Rule.val, Rule.cells]
      refine IWp.cond ?_
      simp [go_sem, -getElem?_pos, -List.map_take, -List.map_drop, List.getElem?_cons_zero, List.getElem?_cons_succ, Go.IntWalk.iteOmega, Go.IntWalk.toNatUp, h1, h2, h3, a1, Config.val, Config.cells, Rule.val, Rule.cells]
      refine IWp.trim [4, 7] (IWp.skip ?_)
      simp [go_sem, -getElem?_pos, -List.map_take, -List.map_drop, List.getElem?_cons_zero, List.getElem?_cons_succ, Go.IntWalk.iteOmega, Go.IntWalk.toNatUp, h1, h2, h3, a1, Config.val, Config.cells, Rule.val, Rule.cells]
      refine IWp.seq ?_
      refine IWp.seq ?_
      refine IWp.run [4, 7, 57] ?_
      simp [go_sem, -getElem?_pos, -List.map_take, -List.map_drop, List.getElem?_cons_zero, List.getElem?_cons_succ, Go.IntWalk.iteOmega, Go.IntWalk.toNatUp, h1, h2, h3, a1, Config.val, Config.cells, Rule.val, Rule.cells]
      refine IWp.cond ?_
      simp [go_sem, -getElem?_pos, -List.map_take, -List.map_drop, List.getElem?_cons_zero, List.getElem?_cons_succ, Go.IntWalk.iteOmega, Go.IntWalk.toNatUp, h1, h2, h3, a1, Config.val, Config.cells, Rule.val, Rule.cells]
      refine IWp.trim [4, 7] (IWp.skip ?_)
      simp [go_sem, -getElem?_pos, -List.map_take, -List.map_drop, List.getElem?_cons_zero, List.getElem?_cons_succ, Go.IntWalk.iteOmega, Go.IntWalk.toNatUp, h1, h2, h3, a1, Config.val, Config.cells, Rule.val, Rule.cells]
      refine IWp.seq ?_
      refine IWp.seq ?_
      refine IWp.run [4, 80] ?_
      simp [go_sem, -getElem?_pos, -List.map_take, -List.map_drop, List.getElem?_cons_zero, List.getElem?_cons_succ, Go.IntWalk.iteOmega, Go.IntWalk.toNatUp, h1, h2, h3, a1, Config.val, Config.cells, Rule.val, Rule.cells]
      refine IWp.cond ?_
      simp [go_sem, -getElem?_pos, -List.map_take, -List.map_drop, List.getElem?_cons_zero, List.getElem?_cons_succ, Go.IntWalk.iteOmega, Go.IntWalk.toNatUp, h1, h2, h3, a1, Config.val, Config.cells, Rule.val, Rule.cells]
      refine IWp.seq ?_
      refine IWp.run [6] ?_
      simp [go_sem, -getElem?_pos, -List.map_take, -List.map_drop, List.getElem?_cons_zero, List.getElem?_cons_succ, Go.IntWalk.iteOmega, Go.IntWalk.toNatUp, h1, h2, h3, a1, Config.val, Config.cells, Rule.val, Rule.cells]
      refine ICalls.then (c1 _) ?_
      try simp [go_sem, -getElem?_pos, -List.map_take, -List.map_drop, List.getElem?_cons_zero, List.getElem?_cons_succ, Go.IntWalk.iteOmega, Go.IntWalk.toNatUp, h1, h2, h3, a1, Config.val, Config.cells, Rule.val, Rule.cells]
      refine IWp.ret ?_
      simp [go_sem, -getElem?_pos, -List.map_take, -List.map_drop, List.getElem?_cons_zero, List.getElem?_cons_succ, Go.IntWalk.iteOmega, Go.IntWalk.toNatUp, h1, h2, h3, a1, Config.val, Config.cells, Rule.val, Rule.cells, Try.results44]
      try exact .same _
    rw [show inS r.lim 1 2147483647 = true from inS_iff.2 (by omega)]
    by_cases a2 : r.back < 0
    · rw [show inS r.back 0 r.lim = false from inS_not.2 (by omega)]
      refine IBody.of Try.func44 rfl (by rw [Try.ntmps44]; simp) ?_
      rw [Try.ntmps44]
      refine IWp.seq ?_
      refine IWp.run [2, 3, 4] ?_
      simp [go_sem, -getElem?_pos, -List.map_take, -List.map_drop, List.getElem?_cons_zero, List.getElem?_cons_succ, Go.IntWalk.iteOmega, Go.IntWalk.toNatUp, h1, h2, h3, a1, a2, Config.val, Config.cells, Rule.val, Rule.cells]
      refine IWp.seq ?_
      refine IWp.run [2, 3, 4, 7] ?_
      simp [go_sem, -getElem?_pos, -List.map_take, -List.map_drop, List.getElem?_cons_zero, List.getElem?_cons_succ, Go.IntWalk.iteOmega, Go.IntWalk.toNatUp, h1, h2, h3, a1, a2, Config.val, Config.cells, Rule.val, Rule.cells]
      refine IWp.seq ?_
      refine IWp.seq ?_
      refine IWp.run [3, 4, 7, 13] ?_
      simp [go_sem, -getElem?_pos, -List.map_take, -List.map_drop, List.getElem?_cons_zero, List.getElem?_cons_succ, Go.IntWalk.iteOmega, Go.IntWalk.toNatUp, h1, h2, h3, a1, a2, Config.val, Config.cells, Rule.val, Rule.cells]
      refine IWp.block ?_
      refine IWp.seq ?_
      refine IWp.run [3, 4, 7, 13, 14] ?_
      simp [go_sem, -getElem?_pos, -List.map_take, -List.map_drop, List.getElem?_cons_zero, List.getElem?_cons_succ, Go.IntWalk.iteOmega, Go.IntWalk.toNatUp, h1, h2, h3, a1, a2, Config.val, Config.cells, Rule.val, Rule.cells]
      refine IWp.cond ?_
      simp [go_sem, -getElem?_pos, -List.map_take, -List.map_drop, List.getElem?_cons_zero, List.getElem?_cons_succ, Go.IntWalk.iteOmega, Go.IntWalk.toNatUp, h1, h2, h3, a1, a2, Config.val, Config.cells, Rule.val, Rule.cells]
      refine IWp.seq ?_
      refine IWp.run [3, 4, 7, 13, 22] ?_
      simp [go_sem, -getElem?_pos, -List.map_take, -List.map_drop, List.getElem?_cons_zero, List.getElem?_cons_succ, Go.IntWalk.iteOmega, Go.IntWalk.toNatUp, h1, h2, h3, a1, a2, Config.val, Config.cells, Rule.val, Rule.cells]
      refine IWp.cond ?_
      simp [go_sem, -getElem?_pos, -List.map_take, -List.map_drop, List.getElem?_cons_zero, List.getElem?_cons_succ, Go.IntWalk.iteOmega, Go.IntWalk.toNatUp, h1, h2, h3, a1, a2, Config.val, Config.cells, Rule.val, Rule.cells]
      refine IWp.seq ?_
      refine IWp.run [4, 7, 13, 35] ?_
      simp [go_sem, -getElem?_pos, -List.map_take, -List.map_drop, List.getElem?_cons_zero, List.getElem?_cons_succ, Go.IntWalk.iteOmega, Go.IntWalk.toNatUp, h1, h2, h3, a1, a2, Config.val, Config.cells, Rule.val, Rule.cells]
      refine IWp.cond ?_
      simp [go_sem, -getElem?_pos, -List.map_take, -List.map_drop, List.getElem?_cons_zero, List.getElem?_cons_succ, Go.IntWalk.iteOmega, Go.IntWalk.toNatUp, h1, h2, h3, a1, a2, Config.val, Config.cells, Rule.val, Rule.cells]
      refine IWp.seq ?_
      refine IWp.seq ?_
      refine IWp.run [4, 7, 38] ?_
      simp [go_sem, -getElem?_pos, -List.map_take, -List.map_drop, List.getElem?_cons_zero, List.getElem?_cons_succ, Go.IntWalk.iteOmega, Go.IntWalk.toNatUp, h1, h2, h3, a1, a2, Config.val, Config.cells, Rule.val, Rule.cells]
      refine IWp.cond ?_
      simp [go_sem, -getElem?_pos, -List.map_take, -List.map_drop, List.getElem?_cons_zero, List.getElem?_cons_succ, Go.IntWalk.iteOmega, Go.IntWalk.toNatUp, h1, h2, h3, a1, a2, Config.val, Config.cells, Rule.val, Rule.cells]
      refine IWp.trim [4, 7] (IWp.skip ?_)
      simp [go_sem, -getElem?_pos, -List.map_take, -List.map_drop, List.getElem?_cons_zero, List.getElem?_cons_succ, Go.IntWalk.iteOmega, Go.IntWalk.toNatUp, h1, h2, h3, a1, a2, Config.val, Config.cells, Rule.val, Rule.cells]
      refine IWp.seq ?_
      refine IWp.seq ?_
      refine IWp.run [4, 7, 57] ?_
      simp [go_sem, -getElem?_pos, -List.map_take, -List.map_drop, List.getElem?_cons_zero, List.getElem?_cons_succ, Go.IntWalk.iteOmega, Go.IntWalk.toNatUp, h1, h2, h3, a1, a2, Config.val, Config.cells, Rule.val, Rule.cells]
      refine IWp.cond ?_
      simp [go_sem, -getElem?_pos, -List.map_take, -List.map_drop, List.getElem?_cons_zero, List.getElem?_cons_succ, Go.IntWalk.iteOmega, Go.IntWalk.toNatUp, h1, h2, h3, a1, a2, Config.val, Config.cells, Rule.val, Rule.cells]
      refine IWp.trim [4, 7] (IWp.skip ?_)
      simp [go_sem, -getElem?_pos, -List.map_take, -List.map_drop, List.getElem?_cons_zero, List.getElem?_cons_succ, Go.IntWalk.iteOmega, Go.IntWalk.toNatUp, h1, h2, h3, a1, a2, Config.val, Config.cells, Rule.val, Rule.cells]
      refine IWp.seq ?_
      refine IWp.seq ?_
      refine IWp.run [4, 80] ?_
      simp [go_sem, -getElem?_pos, -List.map_take, -List.map_drop, List.getElem?_cons_zero, List.getElem?_cons_succ, Go.IntWalk.iteOmega, Go.IntWalk.toNatUp, h1, h2, h3, a1, a2, Config.val, Config.cells, Rule.val, Rule.cells]
      refine IWp.cond ?_
      simp [go_sem, -getElem?_pos, -List.map_take, -List.map_drop, List.getElem?_cons_zero, List.getElem?_cons_succ, Go.IntWalk.iteOmega, Go.IntWalk.toNatUp, h1, h2, h3, a1, a2, Config.val, Config.cells, Rule.val, Rule.cells]
      refine IWp.seq ?_
      refine IWp.run [6] ?_
      simp [go_sem, -getElem?_pos, -List.map_take, -List.map_drop, List.getElem?_cons_zero, List.getElem?_cons_succ, Go.IntWalk.iteOmega, Go.IntWalk.toNatUp, h1, h2, h3, a1, a2, Config.val, Config.cells, Rule.val, Rule.cells]
      refine ICalls.then (c1 _) ?_
      try simp [go_sem, -getElem?_pos, -List.map_take, -List.map_drop, List.getElem?_cons_zero, List.getElem?_cons_succ, Go.IntWalk.iteOmega, Go.IntWalk.toNatUp, h1, h2, h3, a1, a2, Config.val, Config.cells, Rule.val, Rule.cells]
      refine IWp.ret ?_
      simp [go_sem, -getElem?_pos, -List.map_take, -List.map_drop, List.getElem?_cons_zero, List.getElem?_cons_succ, Go.IntWalk.iteOmega, Go.IntWalk.toNatUp, h1, h2, h3, a1, a2, Config.val, Config.cells, Rule.val, Rule.cells, Try.results44]
      try exact .same _
    by_cases a3 : r.lim < r.back
    · rw [show inS r.back 0 r.lim = false from inS_not.2 (by omega)]
      refine IBody.of Try.func44 rfl (by rw [Try.ntmps44]; simp) ?_
      rw [Try.ntmps44]
      refine IWp.seq ?_
      refine IWp.run [2, 3, 4] ?_
      simp [go_sem, -getElem?_pos, -List.map_take, -List.map_drop, List.getElem?_cons_zero, List.getElem?_cons_succ, Go.IntWalk.iteOmega, Go.IntWalk.toNatUp, h1, h2, h3, a1, a2, a3, Config.val, Config.cells, Rule.val, Rule.cells]
      refine IWp.seq ?_
      refine IWp.run [2, 3, 4, 7] ?_
      simp [go_sem, -getElem?_pos, -List.map_take, -List.map_drop, List.getElem?_cons_zero, List.getElem?_cons_succ, Go.IntWalk.iteOmega, Go.IntWalk.toNatUp, h1, h2, h3, a1, a2, a3, Config.val, Config.cells, Rule.val, Rule.cells]
      refine IWp.seq ?_
      refine IWp.seq ?_
      refine IWp.run [3, 4, 7, 13] ?_
      simp [go_sem, -getElem?_pos, -List.map_take, -List.map_drop, List.getElem?_cons_zero, List.getElem?_cons_succ, Go.IntWalk.iteOmega, Go.IntWalk.toNatUp, h1, h2, h3, a1, a2, a3, Config.val, Config.cells, Rule.val, Rule.cells]
      refine IWp.block ?_
      refine IWp.seq ?_
      refine IWp.run [3, 4, 7, 13, 14] ?_
      simp [go_sem, -getElem?_pos, -List.map_take, -List.map_drop, List.getElem?_cons_zero, List.getElem?_cons_succ, Go.IntWalk.iteOmega, Go.IntWalk.toNatUp, h1, h2, h3, a1, a2, a3, Config.val, Config.cells, Rule.val, Rule.cells]
      refine IWp.cond ?_
      simp [go_sem, -getElem?_pos, -List.map_take, -List.map_drop, List.getElem?_cons_zero, List.getElem?_cons_succ, Go.IntWalk.iteOmega, Go.IntWalk.toNatUp, h1, h2, h3, a1, a2, a3, Config.val, Config.cells, Rule.val, Rule.cells]
      refine IWp.seq ?_
      refine IWp.run [3, 4, 7, 13, 22] ?_
      simp [go_sem, -getElem?_pos, -List.map_take, -List.map_drop, List.getElem?_cons_zero, List.getElem?_cons_succ, Go.IntWalk.iteOmega, Go.IntWalk.toNatUp, h1, h2, h3, a1, a2, a3, Config.val, Config.cells, Rule.val, Rule.cells]
      refine IWp.cond ?_
      simp [go_sem, -getElem?_pos, -List.map_take, -List.map_drop, List.getElem?_cons_zero, List.getElem?_cons_succ, Go.IntWalk.iteOmega, Go.IntWalk.toNatUp, h1, h2, h3, a1, a2, a3, Config.val, Config.cells, Rule.val, Rule.cells]
      refine IWp.seq ?_
      refine IWp.run [4, 7, 13, 35] ?_
      simp [go_sem, -getElem?_pos, -List.map_take, -List.map_drop, List.getElem?_cons_zero, List.getElem?_cons_succ, Go.IntWalk.iteOmega, Go.IntWalk.toNatUp, h1, h2, h3, a1, a2, a3, Config.val, Config.cells, Rule.val, Rule.cells]
      refine IWp.cond ?_
      simp [go_sem, -getElem?_pos, -List.map_take, -List.map_drop, List.getElem?_cons_zero, List.getElem?_cons_succ, Go.IntWalk.iteOmega, Go.IntWalk.toNatUp, h1, h2, h3, a1, a2, a3, Config.val, Config.cells, Rule.val, Rule.cells]
      refine IWp.seq ?_
      refine IWp.seq ?_
      refine IWp.run [4, 7, 38] ?_
      simp [go_sem, -getElem?_pos, -List.map_take, -List.map_drop, List.getElem?_cons_zero, List.getElem?_cons_succ, Go.IntWalk.iteOmega, Go.IntWalk.toNatUp, h1, h2, h3, a1, a2, a3, Config.val, Config.cells, Rule.val, Rule.cells]
      refine IWp.cond ?_
      simp [go_sem, -getElem?_pos, -List.map_take, -List.map_drop, List.getElem?_cons_zero, List.getElem?_cons_succ, Go.IntWalk.iteOmega, Go.IntWalk.toNatUp, h1, h2, h3, a1, a2, a3, Config.val, Config.cells, Rule.val, Rule.cells]
      refine IWp.trim [4, 7] (IWp.skip ?_)
      simp [go_sem, -getElem?_pos, -List.map_take, -List.map_drop, List.getElem?_cons_zero, List.getElem?_cons_succ, Go.IntWalk.iteOmega, Go.IntWalk.toNatUp, h1, h2, h3, a1, a2, a3, Config.val, Config.cells, Rule.val, Rule.cells]
      refine IWp.seq ?_
      refine IWp.seq ?_
      refine IWp.run [4, 7, 57] ?_
      simp [go_sem, -getElem?_pos, -List.map_take, -List.map_drop, List.getElem?_cons_zero, List.getElem?_cons_succ, Go.IntWalk.iteOmega, Go.IntWalk.toNatUp, h1, h2, h3, a1, a2, a3, Config.val, Config.cells, Rule.val, Rule.cells]
      refine IWp.cond ?_
      simp [go_sem, -getElem?_pos, -List.map_take, -List.map_drop, List.getElem?_cons_zero, List.getElem?_cons_succ, Go.IntWalk.iteOmega, Go.IntWalk.toNatUp, h1, h2, h3, a1, a2, a3, Config.val, Config.cells, Rule.val, Rule.cells]
      refine IWp.trim [4, 7] (IWp.skip ?_)
      simp [go_sem, -getElem?_pos, -List.map_take, -List.map_drop, List.getElem?_cons_zero, List.getElem?_cons_succ, Go.IntWalk.iteOmega, Go.IntWalk.toNatUp, h1, h2, h3, a1, a2, a3, Config.val, Config.cells, Rule.val, Rule.cells]
      refine IWp.seq ?_
      refine IWp.seq ?_
      refine IWp.run [4, 80] ?_
      simp [go_sem, -getElem?_pos, -List.map_take, -List.map_drop, List.getElem?_cons_zero, List.getElem?_cons_succ, Go.IntWalk.iteOmega, Go.IntWalk.toNatUp, h1, h2, h3, a1, a2, a3, Config.val, Config.cells, Rule.val, Rule.cells]
      refine IWp.cond ?_
      simp [go_sem, -getElem?_pos, -List.map_take, -List.map_drop, List.getElem?_cons_zero, List.getElem?_cons_succ, Go.IntWalk.iteOmega, Go.IntWalk.toNatUp, h1, h2, h3, a1, a2, a3, Config.val, Config.cells, Rule.val, Rule.cells]
      refine IWp.seq ?_
      refine IWp.run [6] ?_
      simp [go_sem, -getElem?_pos, -List.map_take, -List.map_drop, List.getElem?_cons_zero, List.getElem?_cons_succ, Go.IntWalk.iteOmega, Go.IntWalk.toNatUp, h1, h2, h3, a1, a2, a3, Config.val, Config.cells, Rule.val, Rule.cells]
      refine ICalls.then (c1 _) ?_
      try simp [go_sem, -getElem?_pos, -List.map_take, -List.map_drop, List.getElem?_cons_zero, List.getElem?_cons_succ, Go.IntWalk.iteOmega, Go.IntWalk.toNatUp, h1, h2, h3, a1, a2, a3, Config.val, Config.cells, Rule.val, Rule.cells]
      refine IWp.ret ?_
      simp [go_sem, -getElem?_pos, -List.map_take, -List.map_drop, List.getElem?_cons_zero, List.getElem?_cons_succ, Go.IntWalk.iteOmega, Go.IntWalk.toNatUp, h1, h2, h3, a1, a2, a3, Config.val, Config.cells, Rule.val, Rule.cells, Try.results44]
      try exact .same _
    · rw [show inS r.back 0 r.lim = true from inS_iff.2 (by omega)]
      refine IBody.of Try.func44 rfl (by rw [Try.ntmps44]; simp) ?_
      rw [Try.ntmps44]
      refine IWp.seq ?_
      refine IWp.run [2, 3, 4] ?_
      simp [go_sem, -getElem?_pos, -List.map_take, -List.map_drop, List.getElem?_cons_zero, List.getElem?_cons_succ, Go.IntWalk.iteOmega, Go.IntWalk.toNatUp, h1, h2, h3, a1, a2, a3, Config.val, Config.cells, Rule.val, Rule.cells]
      refine IWp.seq ?_
      refine IWp.run [2, 3, 4, 7] ?_
      simp [go_sem, -getElem?_pos, -List.map_take, -List.map_drop, List.getElem?_cons_zero, List.getElem?_cons_succ, Go.IntWalk.iteOmega, Go.IntWalk.toNatUp, h1, h2, h3, a1, a2, a3, Config.val, Config.cells, Rule.val, Rule.cells]
      refine IWp.seq ?_
      refine IWp.seq ?_
      refine IWp.run [3, 4, 7, 13] ?_
      simp [go_sem, -getElem?_pos, -List.map_take, -List.map_drop, List.getElem?_cons_zero, List.getElem?_cons_succ, Go.IntWalk.iteOmega, Go.IntWalk.toNatUp, h1, h2, h3, a1, a2, a3, Config.val, Config.cells, Rule.val, Rule.cells]
      refine IWp.block ?_
      refine IWp.seq ?_
      refine IWp.run [3, 4, 7, 13, 14] ?_
      simp [go_sem, -getElem?_pos, -List.map_take, -List.map_drop, List.getElem?_cons_zero, List.getElem?_cons_succ, Go.IntWalk.iteOmega, Go.IntWalk.toNatUp, h1, h2, h3, a1, a2, a3, Config.val, Config.cells, Rule.val, Rule.cells]
      refine IWp.cond ?_
      simp [go_sem, -getElem?_pos, -List.map_take, -List.map_drop, List.getElem?_cons_zero, List.getElem?_cons_succ, Go.IntWalk.iteOmega, Go.IntWalk.toNatUp, h1, h2, h3, a1, a2, a3, Config.val, Config.cells, Rule.val, Rule.cells]
      refine IWp.seq ?_
      refine IWp.run [3, 4, 7, 13, 22] ?_
      simp [go_sem, -getElem?_pos, -List.map_take, -List.map_drop, List.getElem?_cons_zero, List.getElem?_cons_succ, Go.IntWalk.iteOmega, Go.IntWalk.toNatUp, h1, h2, h3, a1, a2, a3, Config.val, Config.cells, Rule.val, Rule.cells]
      refine IWp.cond ?_
      simp [go_sem, -getElem?_pos, -List.map_take, -List.map_drop, List.getElem?_cons_zero, List.getElem?_cons_succ, Go.IntWalk.iteOmega, Go.IntWalk.toNatUp, h1, h2, h3, a1, a2, a3, Config.val, Config.cells, Rule.val, Rule.cells]
      refine IWp.seq ?_
      refine IWp.run [4, 7, 13, 35] ?_
      simp [go_sem, -getElem?_pos, -List.map_take, -List.map_drop, List.getElem?_cons_zero, List.getElem?_cons_succ, Go.IntWalk.iteOmega, Go.IntWalk.toNatUp, h1, h2, h3, a1, a2, a3, Config.val, Config.cells, Rule.val, Rule.cells]
      refine IWp.cond ?_
      simp [go_sem, -getElem?_pos, -List.map_take, -List.map_drop, List.getElem?_cons_zero, List.getElem?_cons_succ, Go.IntWalk.iteOmega, Go.IntWalk.toNatUp, h1, h2, h3, a1, a2, a3, Config.val, Config.cells, Rule.val, Rule.cells]
      refine IWp.seq ?_
      refine IWp.seq ?_
      refine IWp.run [4, 7, 38] ?_
      simp [go_sem, -getElem?_pos, -List.map_take, -List.map_drop, List.getElem?_cons_zero, List.getElem?_cons_succ, Go.IntWalk.iteOmega, Go.IntWalk.toNatUp, h1, h2, h3, a1, a2, a3, Config.val, Config.cells, Rule.val, Rule.cells]
      refine IWp.cond ?_
      simp [go_sem, -getElem?_pos, -List.map_take, -List.map_drop, List.getElem?_cons_zero, List.getElem?_cons_succ, Go.IntWalk.iteOmega, Go.IntWalk.toNatUp, h1, h2, h3, a1, a2, a3, Config.val, Config.cells, Rule.val, Rule.cells]
      refine IWp.trim [4, 7] (IWp.skip ?_)
      simp [go_sem, -getElem?_pos, -List.map_take, -List.map_drop, List.getElem?_cons_zero, List.getElem?_cons_succ, Go.IntWalk.iteOmega, Go.IntWalk.toNatUp, h1, h2, h3, a1, a2, a3, Config.val, Config.cells, Rule.val, Rule.cells]
      refine IWp.seq ?_
      refine IWp.seq ?_
      refine IWp.run [4, 7, 57] ?_
      simp [go_sem, -getElem?_pos, -List.map_take, -List.map_drop, List.getElem?_cons_zero, List.getElem?_cons_succ, Go.IntWalk.iteOmega, Go.IntWalk.toNatUp, h1, h2, h3, a1, a2, a3, Config.val, Config.cells, Rule.val, Rule.cells]
      refine IWp.cond ?_
      simp [go_sem, -getElem?_pos, -List.map_take, -List.map_drop, List.getElem?_cons_zero, List.getElem?_cons_succ, Go.IntWalk.iteOmega, Go.IntWalk.toNatUp, h1, h2, h3, a1, a2, a3, Config.val, Config.cells, Rule.val, Rule.cells]
      refine IWp.trim [4, 7] (IWp.skip ?_)
      simp [go_sem, -getElem?_pos, -List.map_take, -List.map_drop, List.getElem?_cons_zero, List.getElem?_cons_succ, Go.IntWalk.iteOmega, Go.IntWalk.toNatUp, h1, h2, h3, a1, a2, a3, Config.val, Config.cells, Rule.val, Rule.cells]
      refine IWp.seq ?_
      refine IWp.seq ?_
      refine IWp.run [4, 80] ?_
      simp [go_sem, -getElem?_pos, -List.map_take, -List.map_drop, List.getElem?_cons_zero, List.getElem?_cons_succ, Go.IntWalk.iteOmega, Go.IntWalk.toNatUp, h1, h2, h3, a1, a2, a3, Config.val, Config.cells, Rule.val, Rule.cells]
      refine IWp.cond ?_
      simp [go_sem, -getElem?_pos, -List.map_take, -List.map_drop, List.getElem?_cons_zero, List.getElem?_cons_succ, Go.IntWalk.iteOmega, Go.IntWalk.toNatUp, h1, h2, h3, a1, a2, a3, Config.val, Config.cells, Rule.val, Rule.cells]
      refine IWp.seq ?_
      refine IWp.run [6] ?_
      simp [go_sem, -getElem?_pos, -List.map_take, -List.map_drop, List.getElem?_cons_zero, List.getElem?_cons_succ, Go.IntWalk.iteOmega, Go.IntWalk.toNatUp, h1, h2, h3, a1, a2, a3, Config.val, Config.cells, Rule.val, Rule.cells]
      refine ICalls.then (c1 _) ?_
      try simp [go_sem, -getElem?_pos, -List.map_take, -List.map_drop, List.getElem?_cons_zero, List.getElem?_cons_succ, Go.IntWalk.iteOmega, Go.IntWalk.toNatUp, h1, h2, h3, a1, a2, a3, Config.val, Config.cells, Rule.val, Rule.cells]
      refine IWp.ret ?_
      simp [go_sem, -getElem?_pos, -List.map_take, -List.map_drop, List.getElem?_cons_zero, List.getElem?_cons_succ, Go.IntWalk.iteOmega, Go.IntWalk.toNatUp, h1, h2, h3, a1, a2, a3, Config.val, Config.cells, Rule.val, Rule.cells, Try.results44]
      try exact .same _
  by_cases h4 : r.kind = 4
  · rw [if_pos (by omega)]
    by_cases a0 : -2147483648 ≤ r.lim ∧ r.lim ≤ 2147483647
    case neg =>
      rw [show inS r.lim 1 2147483647 = false from inS_not.2 (by omega)]
      rw [show numS r.lim = false from inS_not.2 a0] at c1
      refine IBody.of Try.func44 rfl (by rw [Try.ntmps44]; simp) ?_
      rw [Try.ntmps44]
      refine IWp.seq ?_
      refine IWp.run [2, 3, 4] ?_
      simp [go_sem, -getElem?_pos, -List.map_take, -List.map_drop, List.getElem?_cons_zero, List.getElem?_cons_succ, Go.IntWalk.iteOmega, Go.IntWalk.toNatUp, h1, h2, h4, Config.val, Config.cells, Rule.val, Rule.cells]
      refine IWp.seq ?_
      refine IWp.run [2, 3, 4, 7] ?_
      simp [go_sem, -getElem?_pos, -List.map_take, -List.map_drop, List.getElem?_cons_zero, List.getElem?_cons_succ, Go.IntWalk.iteOmega, Go.IntWalk.toNatUp, h1, h2, h4, Config.val, Config.cells, Rule.val, Rule.cells]
      refine IWp.seq ?_
      refine IWp.seq ?_
      refine IWp.run [3, 4, 7, 13] ?_
      simp [go_sem, -getElem?_pos, -List.map_take, -List.map_drop, List.getElem?_cons_zero, List.getElem?_cons_succ, Go.IntWalk.iteOmega, Go.IntWalk.toNatUp, h1, h2, h4, Config.val, Config.cells, Rule.val, Rule.cells]
      refine IWp.block ?_
      refine IWp.seq ?_
      refine IWp.run [3, 4, 7, 13, 14] ?_
      simp [go_sem, -getElem?_pos, -List.map_take, -List.map_drop, List.getElem?_cons_zero, List.getElem?_cons_succ, Go.IntWalk.iteOmega, Go.IntWalk.toNatUp, h1, h2, h4, Config.val, Config.cells, Rule.val, Rule.cells]
      refine IWp.cond ?_
      simp [go_sem, -getElem?_pos, -List.map_take, -List.map_drop, List.getElem?_cons_zero, List.getElem?_cons_succ, Go.IntWalk.iteOmega, Go.IntWalk.toNatUp, h1, h2, h4, Config.val, Config.cells, Rule.val, Rule.cells]
      refine IWp.seq ?_
      refine IWp.run [3, 4, 7, 13, 22] ?_
      simp [go_sem, -getElem?_pos, -List.map_take, -List.map_drop, List.getElem?_cons_zero, List.getElem?_cons_succ, Go.IntWalk.iteOmega, Go.IntWalk.toNatUp, h1, h2, h4, Config.val, Config.cells, Rule.val, Rule.cells]
      refine IWp.cond ?_
      simp [go_sem, -getElem?_pos, -List.map_take, -List.map_drop, List.getElem?_cons_zero, List.getElem?_cons_succ, Go.IntWalk.iteOmega, Go.IntWalk.toNatUp, h1, h2, h4, Config.val, Config.cells, Rule.val, Rule.cells]
      refine IWp.seq ?_
      refine IWp.run [4, 7, 13, 35] ?_
      simp [go_sem, -getElem?_pos, -List.map_take, -List.map_drop, List.getElem?_cons_zero, List.getElem?_cons_succ, Go.IntWalk.iteOmega, Go.IntWalk.toNatUp, h1, h2, h4, Config.val, Config.cells, Rule.val, Rule.cells]
      refine IWp.cond ?_
      simp [go_sem, -getElem?_pos, -List.map_take, -List.map_drop, List.getElem?_cons_zero, List.getElem?_cons_succ, Go.IntWalk.iteOmega, Go.IntWalk.toNatUp, h1, h2, h4, Config.val, Config.cells, Rule.val, Rule.cells]
      refine IWp.seq ?_
      refine IWp.seq ?_
      refine IWp.run [4, 7, 38] ?_
      simp [go_sem, -getElem?_pos, -List.map_take, -List.map_drop, List.getElem?_cons_zero, List.getElem?_cons_succ, Go.IntWalk.iteOmega, Go.IntWalk.toNatUp, h1, h2, h4, Config.val, Config.cells, Rule.val, Rule.cells]
      refine IWp.cond ?_
      simp [go_sem, -getElem?_pos, -List.map_take, -List.map_drop, List.getElem?_cons_zero, List.getElem?_cons_succ, Go.IntWalk.iteOmega, Go.IntWalk.toNatUp, h1, h2, h4, Config.val, Config.cells, Rule.val, Rule.cells]
      refine IWp.trim [4, 7] (IWp.skip ?_)
      simp [go_sem, -getElem?_pos, -List.map_take, -List.map_drop, List.getElem?_cons_zero, List.getElem?_cons_succ, Go.IntWalk.iteOmega, Go.IntWalk.toNatUp, h1, h2, h4, Config.val, Config.cells, Rule.val, Rule.cells]
      refine IWp.seq ?_
      refine IWp.seq ?_
      refine IWp.run [4, 7, 57] ?_
      simp [go_sem, -getElem?_pos, -List.map_take, -List.map_drop, List.getElem?_cons_zero, List.getElem?_cons_succ, Go.IntWalk.iteOmega, Go.IntWalk.toNatUp, h1, h2, h4, Config.val, Config.cells, Rule.val, Rule.cells]
      refine IWp.cond ?_
      simp [go_sem, -getElem?_pos, -List.map_take, -List.map_drop, List.getElem?_cons_zero, List.getElem?_cons_succ, Go.IntWalk.iteOmega, Go.IntWalk.toNatUp, h1, h2, h4, Config.val, Config.cells, Rule.val, Rule.cells]
      refine IWp.trim [4, 7] (IWp.skip ?_)
      simp [go_sem, -getElem?_pos, -List.map_take, -List.map_drop, List.getElem?_cons_zero, List.getElem?_cons_succ, Go.IntWalk.iteOmega, Go.IntWalk.toNatUp, h1, h2, h4, Config.val, Config.cells, Rule.val, Rule.cells]
      refine IWp.seq ?_
      refine IWp.seq ?_
      refine IWp.run [4, 80] ?_
      simp [go_sem, -getElem?_pos, -List.map_take, -List.map_drop, List.getElem?_cons_zero, List.getElem?_cons_succ, Go.IntWalk.iteOmega, Go.IntWalk.toNatUp, h1, h2, h4, Config.val, Config.cells, Rule.val, Rule.cells]
      refine IWp.cond ?_
      simp [go_sem, -getElem?_pos, -List.map_take, -List.map_drop, List.getElem?_cons_zero, List.getElem?_cons_succ, Go.IntWalk.iteOmega, Go.IntWalk.toNatUp, h1, h2, h4, Config.val, Config.cells, Rule.val, Rule.cells]
      refine IWp.seq ?_
      refine IWp.run [6] ?_
      simp [go_sem, -getElem?_pos, -List.map_take, -List.map_drop, List.getElem?_cons_zero, List.getElem?_cons_succ, Go.IntWalk.iteOmega, Go.IntWalk.toNatUp, h1, h2, h4, Config.val, Config.cells, Rule.val, Rule.cells]
      refine ICalls.then (c1 _) ?_
      try simp [go_sem, -getElem?_pos, -List.map_take, -List.map_drop, List.getElem?_cons_zero, List.getElem?_cons_succ, Go.IntWalk.iteOmega, Go.IntWalk.toNatUp, h1, h2, h4, Config.val, Config.cells, Rule.val, Rule.cells]
      refine IWp.ret ?_
      simp [go_sem, -getElem?_pos, -List.map_take, -List.map_drop, List.getElem?_cons_zero, List.getElem?_cons_succ, Go.IntWalk.iteOmega, Go.IntWalk.toNatUp, h1, h2, h4, Config.val, Config.cells, Rule.val, Rule.cells, Try.results44]
      try exact .same _
    rw [show numS r.lim = true from inS_iff.2 a0] at c1
    by_cases a1 : r.lim < 1
    · rw [show inS r.lim 1 2147483647 = false from inS_not.2 (by omega)]
      refine IBody.of Try.func44 rfl (by rw [Try.ntmps44]; simp) ?_
      rw [Try.ntmps44]
      refine IWp.seq ?_
      refine IWp.run [2, 3, 4] ?_
      simp [go_sem, -getElem?_pos, -List.map_take, -List.map_drop, List.getElem?_cons_zero, List.getElem?_cons_succ, Go.IntWalk.iteOmega, Go.IntWalk.toNatUp, h1, h2, h4, a1, Config.val, Config.cells, Rule.val, Rule.cells]
      refine IWp.seq ?_
      refine IWp.run [2, 3, 4, 7] ?_
      simp [go_sem, -getElem?_pos, -List.map_take, -List.map_drop, List.getElem?_cons_zero, List.getElem?_cons_succ, Go.IntWalk.iteOmega, Go.IntWalk.toNatUp, h1, h2, h4, a1, Config.val, Config.cells, Rule.val, Rule.cells]
      refine IWp.seq ?_
      refine IWp.seq ?_
      refine IWp.run [3, 4, 7, 13] ?_
      simp [go_sem, -getElem?_pos, -List.map_take, -List.map_drop, List.getElem?_cons_zero, List.getElem?_cons_succ, Go.IntWalk.iteOmega, Go.IntWalk.toNatUp, h1, h2, h4, a1, Config.val, Config.cells, Rule.val, Rule.cells]
      refine IWp.block ?_
      refine IWp.seq ?_
      refine IWp.run [3, 4, 7, 13, 14] ?_
      simp [go_sem, -getElem?_pos, -List.map_take, -List.map_drop, List.getElem?_cons_zero, List.getElem?_cons_succ, Go.IntWalk.iteOmega, Go.IntWalk.toNatUp, h1, h2, h4, a1, Config.val, Config.cells, Rule.val, Rule.cells]
      refine IWp.cond ?_
      simp [go_sem, -getElem?_pos, -List.map_take, -List.map_drop, List.getElem?_cons_zero, List.getElem?_cons_succ, Go.IntWalk.iteOmega, Go.IntWalk.toNatUp, h1, h2, h4, a1, Config.val, Config.cells, Rule.val, Rule.cells]
      refine IWp.seq ?_
      refine IWp.run [3, 4, 7, 13, 22] ?_
      simp [go_sem, -getElem?_pos, -List.map_take, -List.map_drop, List.getElem?_cons_zero, List.getElem?_cons_succ, Go.IntWalk.iteOmega, Go.IntWalk.toNatUp, h1, h2, h4, a1, Config.val, Config.cells, Rule.val, Rule.cells]
      refine IWp.cond ?_
      simp [go_sem, -getElem?_pos, -List.map_take, -List.map_drop, List.getElem?_cons_zero, List.getElem?_cons_succ, Go.IntWalk.iteOmega, Go.IntWalk.toNatUp, h1, h2, h4, a1, Config.val, Config.cells, Rule.val, Rule.cells]
      refine IWp.seq ?_
      refine IWp.run [4, 7, 13, 35] ?_
      simp [go_sem, -getElem?_pos, -List.map_take, -List.map_drop, List.getElem?_cons_zero, List.getElem?_cons_succ, Go.IntWalk.iteOmega, Go.IntWalk.toNatUp, h1, h2, h4, a1, Config.val, Config.cells, Rule.val, Rule.cells]
      refine IWp.cond ?_
      simp [go_sem, -getElem?_pos, -List.map_take, -List.map_drop, List.getElem?_cons_zero, List.getElem?_cons_succ, Go.IntWalk.iteOmega, Go.IntWalk.toNatUp, h1, h2, h4, a1, Config.val, Config.cells, Rule.val, Rule.cells]
      refine IWp.seq ?_
      refine IWp.seq ?_
      refine IWp.run [4, 7, 38] ?_
      simp [go_sem, -getElem?_pos, -List.map_take, -List.map_drop, List.getElem?_cons_zero, List.getElem?_cons_succ, Go.IntWalk.iteOmega, Go.IntWalk.toNatUp, h1, h2, h4, a1, Config.val, Config.cells, Rule.val, Rule.cells]
      refine IWp.cond ?_
      simp [go_sem, -getElem?_pos, -List.map_take, -List.map_drop, List.getElem?_cons_zero, List.getElem?_cons_succ, Go.IntWalk.iteOmega, Go.IntWalk.toNatUp, h1, h2, h4, a1, Config.val, Config.cells, Rule.val, Rule.cells]
      refine IWp.trim [4, 7] (IWp.skip ?_)
      simp [go_sem, -getElem?_pos, -List.map_take, -List.map_drop, List.getElem?_cons_zero, List.getElem?_cons_succ, Go.IntWalk.iteOmega, Go.IntWalk.toNatUp, h1, h2, h4, a1, Config.val, Config.cells, Rule.val, Rule.cells]
      refine IWp.seq ?_
      refine IWp.seq ?_
      refine IWp.run [4, 7, 57] ?_
      simp [go_sem, -getElem?_pos, -List.map_take, -List.map_drop, List.getElem?_cons_zero, List.getElem?_cons_succ, Go.IntWalk.iteOmega, Go.IntWalk.toNatUp, h1, h2, h4, a1, Config.val, Config.cells, Rule.val, Rule.cells]
      refine IWp.cond ?_
      simp [go_sem, -getElem?_pos, -List.map_take, -List.map_drop, List.getElem?_cons_zero, List.getElem?_cons_succ, Go.IntWalk.iteOmega, Go.IntWalk.toNatUp, h1, h2, h4, a1, Config.val, Config.cells, Rule.val, Rule.cells]
      refine IWp.trim [4, 7] (IWp.skip ?_)
      simp [go_sem, -getElem?_pos, -List.map_take, -List.map_drop, List.getElem?_cons_zero, List.getElem?_cons_succ, Go.IntWalk.iteOmega, Go.IntWalk.toNatUp, h1, h2, h4, a1, Config.val, Config.cells, Rule.val, Rule.cells]
      refine IWp.seq ?_
      refine IWp.seq ?_
      refine IWp.run [4, 80] ?_
      simp [go_sem, -getElem?_pos, -List.map_take, -List.map_drop, List.getElem?_cons_zero, List.getElem?_cons_succ, Go.IntWalk.iteOmega, Go.IntWalk.toNatUp, h1, h2, h4, a1, Config.val, Config.cells, Rule.val, Rule.cells]
      refine IWp.cond ?_
      simp [go_sem, -getElem?_pos, -List.map_take, -List.map_drop, List.getElem?_cons_zero, List.getElem?_cons_succ, Go.IntWalk.iteOmega, Go.IntWalk.toNatUp, h1, h2, h4, a1, Config.val, Config.cells, Rule.val, Rule.cells]
      refine IWp.seq ?_
      refine IWp.run [6] ?_
      simp [go_sem, -getElem?_pos, -List.map_take, -List.map_drop, List.getElem?_cons_zero, List.getElem?_cons_succ, Go.IntWalk.iteOmega, Go.IntWalk.toNatUp, h1, h2, h4, a1, Config.val, Config.cells, Rule.val, Rule.cells]
      refine ICalls.then (c1 _) ?_
      try simp [go_sem, -getElem?_pos, -List.map_take, -List.map_drop, List.getElem?_cons_zero, List.getElem?_cons_succ, Go.IntWalk.iteOmega, Go.IntWalk.toNatUp, h1, h2, h4, a1, Config.val, Config.cells, Rule.val, Rule.cells]
      refine IWp.ret ?_
      simp [go_sem, -getElem?_pos, -List.map_take, -List.map_drop, List.getElem?_cons_zero, List.getElem?_cons_succ, Go.IntWalk.iteOmega, Go.IntWalk.toNatUp, h1, h2, h4, a1, Config.val, Config.cells, Rule.val, Rule.cells, Try.results44]
      try exact .same _
    rw [show inS r.lim 1 2147483647 = true from inS_iff.2 (by omega)]
    by_cases a2 : r.back < 0
    · rw [show inS r.back 0 r.lim = false from inS_not.2 (by omega)]
      refine IBody.of Try.func44 rfl (by rw [Try.ntmps44]; simp) ?_
      rw [Try.ntmps44]
      refine IWp.seq ?_
      refine IWp.run [2, 3, 4] ?_
      simp [go_sem, -getElem?_pos, -List.map_take, -List.map_drop, List.getElem?_cons_zero, List.getElem?_cons_succ, Go.IntWalk.iteOmega, Go.IntWalk.toNatUp, h1, h2, h4, a1, a2, Config.val, Config.cells, Rule.val, Rule.cells]
      refine IWp.seq ?_
      refine IWp.run [2, 3, 4, 7] ?_
      simp [go_sem, -getElem?_pos, -List.map_take, -List.map_drop, List.getElem?_cons_zero, List.getElem?_cons_succ, Go.IntWalk.iteOmega, Go.IntWalk.toNatUp, h1, h2, h4, a1, a2, Config.val, Config.cells, Rule.val, Rule.cells]
      refine IWp.seq ?_
      refine IWp.seq ?_
      refine IWp.run [3, 4, 7, 13] ?_
      simp [go_sem, -getElem?_pos, -List.map_take, -List.map_drop, List.getElem?_cons_zero, List.getElem?_cons_succ, Go.IntWalk.iteOmega, Go.IntWalk.toNatUp, h1, h2, h4, a1, a2, Config.val, Config.cells, Rule.val, Rule.cells]
      refine IWp.block ?_
      refine IWp.seq ?_
      refine IWp.run [3, 4, 7, 13, 14] ?_
      simp [go_sem, -getElem?_pos, -List.map_take, -List.map_drop, List.getElem?_cons_zero, List.getElem?_cons_succ, Go.IntWalk.iteOmega, Go.IntWalk.toNatUp, h1, h2, h4, a1, a2, Config.val, Config.cells, Rule.val, Rule.cells]
      refine IWp.cond ?_
      simp [go_sem, -getElem?_pos, -List.map_take, -List.map_drop, List.getElem?_cons_zero, List.getElem?_cons_succ, Go.IntWalk.iteOmega, Go.IntWalk.toNatUp, h1, h2, h4, a1, a2, Config.val, Config.cells, Rule.val, Rule.cells]
      refine IWp.seq ?_
      refine IWp.run [3, 4, 7, 13, 22] ?_
      simp [go_sem, -getElem?_pos, -List.map_take, -List.map_drop, List.getElem?_cons_zero, List.getElem?_cons_succ, Go.IntWalk.iteOmega, Go.IntWalk.toNatUp, h1, h2, h4, a1, a2, Config.val, Config.cells, Rule.val, Rule.cells]
      refine IWp.cond ?_
      simp [go_sem, -getElem?_pos, -List.map_take, -List.map_drop, List.getElem?_cons_zero, List.getElem?_cons_succ, Go.IntWalk.iteOmega, Go.IntWalk.toNatUp, h1, h2, h4, a1, a2, Config.val, Config.cells, Rule.val, Rule.cells]
      refine IWp.seq ?_
      refine IWp.run [4, 7, 13, 35] ?_
      simp [go_sem, -getElem?_pos, -List.map_take, -List.map_drop, List.getElem?_cons_zero, List.getElem?_cons_succ, Go.IntWalk.iteOmega, Go.IntWalk.toNatUp, h1, h2, h4, a1, a2, Config.val, Config.cells, Rule.val, Rule.cells]
      refine IWp.cond ?_
      simp [go_sem, -getElem?_pos, -List.map_take, -List.map_drop, List.getElem?_cons_zero, List.getElem?_cons_succ, Go.IntWalk.iteOmega, Go.IntWalk.toNatUp, h1, h2, h4, a1, a2, Config.val, Config.cells, Rule.val, Rule.cells]
      refine IWp.seq ?_
      refine IWp.seq ?_
      refine IWp.run [4, 7, 38] ?_
      simp [go_sem, -getElem?_pos, -List.map_take, -List.map_drop, List.getElem?_cons_zero, List.getElem?_cons_succ, Go.IntWalk.iteOmega, Go.IntWalk.toNatUp, h1, h2, h4, a1, a2, Config.val, Config.cells, Rule.val, Rule.cells]
      refine IWp.cond ?_
      simp [go_sem, -getElem?_pos, -List.map_take, -List.map_drop, List.getElem?_cons_zero, List.getElem?_cons_succ, Go.IntWalk.iteOmega, Go.IntWalk.toNatUp, h1, h2, h4, a1, a2, Config.val, Config.cells, Rule.val, Rule.cells]
      refine IWp.trim [4, 7] (IWp.skip ?_)
      simp [go_sem, -getElem?_pos, -List.map_take, -List.map_drop, List.getElem?_cons_zero, List.getElem?_cons_succ, Go.IntWalk.iteOmega, Go.IntWalk.toNatUp, h1, h2, h4, a1, a2, Config.val, Config.cells, Rule.val, Rule.cells]
      refine IWp.seq ?_
      refine IWp.seq ?_
      refine IWp.run [4, 7, 57] ?_
      simp [go_sem, -getElem?_pos, -List.map_take, -List.map_drop, List.getElem?_cons_zero, List.getElem?_cons_succ, Go.IntWalk.iteOmega, Go.IntWalk.toNatUp, h1, h2, h4, a1, a2, Config.val, Config.cells, Rule.val, Rule.cells]
      refine IWp.cond ?_
      simp [go_sem, -getElem?_pos, -List.map_take, -List.map_drop, List.getElem?_cons_zero, List.getElem?_cons_succ, Go.IntWalk.iteOmega, Go.IntWalk.toNatUp, h1, h2, h4, a1, a2, Config.val, Config.cells, Rule.val, Rule.cells]
      refine IWp.trim [4, 7] (IWp.skip ?_)
      simp [go_sem, -getElem?_pos, -List.map_take, -List.map_drop, List.getElem?_cons_zero, List.getElem?_cons_succ, Go.IntWalk.iteOmega, Go.IntWalk.toNatUp, h1, h2, h4, a1, a2, Config.val, Config.cells, Rule.val, Rule.cells]
      refine IWp.seq ?_
      refine IWp.seq ?_
      refine IWp.run [4, 80] ?_
      simp [go_sem, -getElem?_pos, -List.map_take, -List.map_drop, List.getElem?_cons_zero, List.getElem?_cons_succ, Go.IntWalk.iteOmega, Go.IntWalk.toNatUp, h1, h2, h4, a1, a2, Config.val, Config.cells, Rule.val, Rule.cells]
      refine IWp.cond ?_
      simp [go_sem, -getElem?_pos, -List.map_take, -List.map_drop, List.getElem?_cons_zero, List.getElem?_cons_succ, Go.IntWalk.iteOmega, Go.IntWalk.toNatUp, h1, h2, h4, a1, a2, Config.val, Config.cells, Rule.val, Rule.cells]
      refine IWp.seq ?_
      refine IWp.run [6] ?_
      simp [go_sem, -getElem?_pos, -List.map_take, -List.map_drop, List.getElem?_cons_zero, List.getElem?_cons_succ, Go.IntWalk.iteOmega, Go.IntWalk.toNatUp, h1, h2, h4, a1, a2, Config.val, Config.cells, Rule.val, Rule.cells]
      refine ICalls.then (c1 _) ?_
      try simp [go_sem, -getElem?_pos, -List.map_take, -List.map_drop, List.getElem?_cons_zero, List.getElem?_cons_succ, Go.IntWalk.iteOmega, Go.IntWalk.toNatUp, h1, h2, h4, a1, a2, Config.val, Config.cells, Rule.val, Rule.cells]
      refine IWp.ret ?_
      simp [go_sem, -getElem?_pos, -List.map_take, -List.map_drop, List.getElem?_cons_zero, List.getElem?_cons_succ, Go.IntWalk.iteOmega, Go.IntWalk.toNatUp, h1, h2, h4, a1, a2, Config.val, Config.cells, Rule.val, Rule.cells, Try.results44]
      try exact .same _
    by_cases a3 : r.lim < r.back
    · rw [show inS r.back 0 r.lim = false from inS_not.2 (by omega)]
      refine IBody.of Try.func44 rfl (by rw [Try.ntmps44]; simp) ?_
      rw [Try.ntmps44]
      refine IWp.seq ?_
      refine IWp.run [2, 3, 4] ?_
      simp [go_sem, -getElem?_pos, -List.map_take, -List.map_drop, List.getElem?_cons_zero, List.getElem?_cons_succ, Go.IntWalk.iteOmega, Go.IntWalk.toNatUp, h1, h2, h4, a1, a2, a3, Config.val, Config.cells, Rule.val, Rule.cells]
      refine IWp.seq ?_
      refine IWp.run [2, 3, 4, 7] ?_
      simp [go_sem, -getElem?_pos, -List.map_take, -List.map_drop, List.getElem?_cons_zero, List.getElem?_cons_succ, Go.IntWalk.iteOmega, Go.IntWalk.toNatUp, h1, h2, h4, a1, a2, a3, Config.val, Config.cells, Rule.val, Rule.cells]
      refine IWp.seq ?_
      refine IWp.seq ?_
      refine IWp.run [3, 4, 7, 13] ?_
      simp [go_sem, -getElem?_pos, -List.map_take, -List.map_drop, List.getElem?_cons_zero, List.getElem?_cons_succ, Go.IntWalk.iteOmega, Go.IntWalk.toNatUp, h1, h2, h4, a1, a2, a3, Config.val, Config.cells, Rule.val, Rule.cells]
      refine IWp.block ?_
      refine IWp.seq ?_
      refine IWp.run [3, 4, 7, 13, 14] ?_
      simp [go_sem, -getElem?_pos, -List.map_take, -List.map_drop, List.getElem?_cons_zero, List.getElem?_cons_succ, Go.IntWalk.iteOmega, Go.IntWalk.toNatUp, h1, h2, h4, a1, a2, a3, Config.val, Config.cells, Rule.val, Rule.cells]
      refine IWp.cond ?_
      simp [go_sem, -getElem?_pos, -List.map_take, -List.map_drop, List.getElem?_cons_zero, List.getElem?_cons_succ, Go.IntWalk.iteOmega, Go.IntWalk.toNatUp, h1, h2, h4, a1, a2, a3, Config.val, Config.cells, Rule.val, Rule.cells]
      refine IWp.seq ?_
      refine IWp.run [3, 4, 7, 13, 22] ?_
      simp [go_sem, -getElem?_pos, -List.map_take, -List.map_drop, List.getElem?_cons_zero, List.getElem?_cons_succ, Go.IntWalk.iteOmega, Go.IntWalk.toNatUp, h1, h2, h4, a1, a2, a3, Config.val, Config.cells, Rule.val, Rule.cells]
      refine IWp.cond ?_
      simp [go_sem, -getElem?_pos, -List.map_take, -List.map_drop, List.getElem?_cons_zero, List.getElem?_cons_succ, Go.IntWalk.iteOmega, Go.IntWalk.toNatUp, h1, h2, h4, a1, a2, a3, Config.val, Config.cells, Rule.val, Rule.cells]
      refine IWp.seq ?_
      refine IWp.run [4, 7, 13, 35] ?_
      simp [go_sem, -getElem?_pos, -List.map_take, -List.map_drop, List.getElem?_cons_zero, List.getElem?_cons_succ, Go.IntWalk.iteOmega, Go.IntWalk.toNatUp, h1, h2, h4, a1, a2, a3, Config.val, Config.cells, Rule.val, Rule.cells]
      refine IWp.cond ?_
      simp [go_sem, -getElem?_pos, -List.map_take, -List.map_drop, List.getElem?_cons_zero, List.getElem?_cons_succ, Go.IntWalk.iteOmega, Go.IntWalk.toNatUp, h1, h2, h4, a1, a2, a3, Config.val, Config.cells, Rule.val, Rule.cells]
      refine IWp.seq ?_
      refine IWp.seq ?_
      refine IWp.run [4, 7, 38] ?_
      simp [go_sem, -getElem?_pos, -List.map_take, -List.map_drop, List.getElem?_cons_zero, List.getElem?_cons_succ, Go.IntWalk.iteOmega, Go.IntWalk.toNatUp, h1, h2, h4, a1, a2, a3, Config.val, Config.cells, Rule.val, Rule.cells]
      refine IWp.cond ?_
      simp [go_sem, -getElem?_pos, -List.map_take, -List.map_drop, List.getElem?_cons_zero, List.getElem?_cons_succ, Go.IntWalk.iteOmega, Go.IntWalk.toNatUp, h1, h2, h4, a1, a2, a3, Config.val, Config.cells, Rule.val, Rule.cells]
      refine IWp.trim [4, 7] (IWp.skip ?_)
      simp [go_sem, -getElem?_pos, -List.map_take, -List.map_drop, List.getElem?_cons_zero, List.getElem?_cons_succ, Go.IntWalk.iteOmega, Go.IntWalk.toNatUp, h1, h2, h4, a1, a2, a3, Config.val, Config.cells, Rule.val, Rule.cells]
      refine IWp.seq ?_
      refine IWp.seq ?_
      refine IWp.run [4, 7, 57] ?_
      simp [go_sem, -getElem?_pos, -List.map_take, -List.map_drop, List.getElem?_cons_zero, List.getElem?_cons_succ, Go.IntWalk.iteOmega, Go.IntWalk.toNatUp, h1, h2, h4, a1, a2, a3, Config.val, Config.cells, Rule.val, Rule.cells]
      refine IWp.cond ?_
      simp [go_sem, -getElem?_pos, -List.map_take, -List.map_drop, List.getElem?_cons_zero, List.getElem?_cons_succ, Go.IntWalk.iteOmega, Go.IntWalk.toNatUp, h1, h2, h4, a1, a2, a3, Config.val, Config.cells, Rule.val, Rule.cells]
      refine IWp.trim [4, 7] (IWp.skip ?_)
      simp [go_sem, -getElem?_pos, -List.map_take, -List.map_drop, List.getElem?_cons_zero, List.getElem?_cons_succ, Go.IntWalk.iteOmega, Go.IntWalk.toNatUp, h1, h2, h4, a1, a2, a3, Config.val, Config.cells, Rule.val, Rule.cells]
      refine IWp.seq ?_
      refine IWp.seq ?_
      refine IWp.run [4, 80] ?_
      simp [go_sem, -getElem?_pos, -List.map_take, -List.map_drop, List.getElem?_cons_zero, List.getElem?_cons_succ, Go.IntWalk.iteOmega, Go.IntWalk.toNatUp, h1, h2, h4, a1, a2, a3, Config.val, Config.cells, Rule.val, Rule.cells]
      refine IWp.cond ?_
      simp [go_sem, -getElem?_pos, -List.map_take, -List.map_drop, List.getElem?_cons_zero, List.getElem?_cons_succ, Go.IntWalk.iteOmega, Go.IntWalk.toNatUp, h1, h2, h4, a1, a2, a3, Config.val, Config.cells, Rule.val, Rule.cells]
      refine IWp.seq ?_
      refine IWp.run [6] ?_
      simp [go_sem, -getElem?_pos, -List.map_take, -List.map_drop, List.getElem?_cons_zero, List.getElem?_cons_succ, Go.IntWalk.iteOmega, Go.IntWalk.toNatUp, h1, h2, h4, a1, a2, a3, Config.val, Config.cells, Rule.val, Rule.cells]
      refine ICalls.then (c1 _) ?_
      try simp [go_sem, -getElem?_pos, -List.map_take, -List.map_drop, List.getElem?_cons_zero, List.getElem?_cons_succ, Go.IntWalk.iteOmega, Go.IntWalk.toNatUp, h1, h2, h4, a1, a2, a3, Config.val, Config.cells, Rule.val, Rule.cells]
      refine IWp.ret ?_
      simp [go_sem, -getElem?_pos, -List.map_take, -List.map_drop, List.getElem?_cons_zero, List.getElem?_cons_succ, Go.IntWalk.iteOmega, Go.IntWalk.toNatUp, h1, h2, h4, a1, a2, a3, Config.val, Config.cells, Rule.val, Rule.cells, Try.results44]
      try exact .same _
    · rw [show inS r.back 0 r.lim = true from inS_iff.2 (by omega)]
      refine IBody.of Try.func44 rfl (by rw [Try.ntmps44]; simp) ?_
      rw [Try.ntmps44]
      refine IWp.seq ?_
      refine IWp.run [2, 3, 4] ?_
      simp [go_sem, -getElem?_pos, -List.map_take, -List.map_drop, List.getElem?_cons_zero, List.getElem?_cons_succ, Go.IntWalk.iteOmega, Go.IntWalk.toNatUp, h1, h2, h4, a1, a2, a3, Config.val, Config.cells, Rule.val, Rule.cells]
      refine IWp.seq ?_
      refine IWp.run [2, 3, 4, 7] ?_
      simp [go_sem, -getElem?_pos, -List.map_take, -List.map_drop, List.getElem?_cons_zero, List.getElem?_cons_succ, Go.IntWalk.iteOmega, Go.IntWalk.toNatUp, h1, h2, h4, a1, a2, a3, Config.val, Config.cells, Rule.val, Rule.cells]
      refine IWp.seq ?_
      refine IWp.seq ?_
      refine IWp.run [3, 4, 7, 13] ?_
      simp [go_sem, -getElem?_pos, -List.map_take, -List.map_drop, List.getElem?_cons_zero, List.getElem?_cons_succ, Go.IntWalk.iteOmega, Go.IntWalk.toNatUp, h1, h2, h4, a1, a2, a3, Config.val, Config.cells, Rule.val, Rule.cells]
      refine IWp.block ?_
      refine IWp.seq ?_
      refine IWp.run [3, 4, 7, 13, 14] ?_
      simp [go_sem, -getElem?_pos, -List.map_take, -List.map_drop, List.getElem?_cons_zero, List.getElem?_cons_succ, Go.IntWalk.iteOmega, Go.IntWalk.toNatUp, h1, h2, h4, a1, a2, a3, Config.val, Config.cells, Rule.val, Rule.cells]
      refine IWp.cond ?_
      simp [go_sem, -getElem?_pos, -List.map_take, -List.map_drop, List.getElem?_cons_zero, List.getElem?_cons_succ, Go.IntWalk.iteOmega, Go.IntWalk.toNatUp, h1, h2, h4, a1, a2, a3, Config.val, Config.cells, Rule.val, Rule.cells]
      refine IWp.seq ?_
      refine IWp.run [3, 4, 7, 13, 22] ?_
      simp [go_sem, -getElem?_pos, -List.map_take, -List.map_drop, List.getElem?_cons_zero, List.getElem?_cons_succ, Go.IntWalk.iteOmega, Go.IntWalk.toNatUp, h1, h2, h4, a1, a2, a3, Config.val, Config.cells, Rule.val, Rule.cells]
      refine IWp.cond ?_
      simp [go_sem, -getElem?_pos, -List.map_take, -List.map_drop, List.getElem?_cons_zero, List.getElem?_cons_succ, Go.IntWalk.iteOmega, Go.IntWalk.toNatUp, h1, h2, h4, a1, a2, a3, Config.val, Config.cells, Rule.val, Rule.cells]
      refine IWp.seq ?_
      refine IWp.run [4, 7, 13, 35] ?_
      simp [go_sem, -getElem?_pos, -List.map_take, -List.map_drop, List.getElem?_cons_zero, List.getElem?_cons_succ, Go.IntWalk.iteOmega, Go.IntWalk.toNatUp, h1, h2, h4, a1, a2, a3, Config.val, Config.cells, Rule.val, Rule.cells]
      refine IWp.cond ?_
      simp [go_sem, -getElem?_pos, -List.map_take, -List.map_drop, List.getElem?_cons_zero, List.getElem?_cons_succ, Go.IntWalk.iteOmega, Go.IntWalk.toNatUp, h1, h2, h4, a1, a2, a3, Config.val, Config.cells, Rule.val, Rule.cells]
      refine IWp.seq ?_
      refine IWp.seq ?_
      refine IWp.run [4, 7, 38] ?_
      simp [go_sem, -getElem?_pos, -List.map_take, -List.map_drop, List.getElem?_cons_zero, List.getElem?_cons_succ, Go.IntWalk.iteOmega, Go.IntWalk.toNatUp, h1, h2, h4, a1, a2, a3, Config.val, Config.cells, Rule.val, Rule.cells]
      refine IWp.cond ?_
      simp [go_sem, -getElem?_pos, -List.map_take, -List.map_drop, List.getElem?_cons_zero, List.getElem?_cons_succ, Go.IntWalk.iteOmega, Go.IntWalk.toNatUp, h1, h2, h4, a1, a2, a3, Config.val, Config.cells, Rule.val, Rule.cells]
      refine IWp.trim [4, 7] (IWp.skip ?_)
      simp [go_sem, -getElem?_pos, -List.map_take, -List.map_drop, List.getElem?_cons_zero, List.getElem?_cons_succ, Go.IntWalk.iteOmega, Go.IntWalk.toNatUp, h1, h2, h4, a1, a2, a3, Config.val, Config.cells, Rule.val, Rule.cells]
      refine IWp.seq ?_
      refine IWp.seq ?_
      refine IWp.run [4, 7, 57] ?_
      simp [go_sem, -getElem?_pos, -List.map_take, -List.map_drop, List.getElem?_cons_zero, List.getElem?_cons_succ, Go.IntWalk.iteOmega, Go.IntWalk.toNatUp, h1, h2, h4, a1, a2, a3, Config.val, Config.cells, Rule.val, Rule.cells]
      refine IWp.cond ?_
      simp [go_sem, -getElem?_pos, -List.map_take, -List.map_drop, List.getElem?_cons_zero, List.getElem?_cons_succ, Go.IntWalk.iteOmega, Go.IntWalk.toNatUp, h1, h2, h4, a1, a2, a3, Config.val, Config.cells, Rule.val, Rule.cells]
      refine IWp.trim [4, 7] (IWp.skip ?_)
      simp [go_sem, -getElem?_pos, -List.map_take, -List.map_drop, List.getElem?_cons_zero, List.getElem?_cons_succ, Go.IntWalk.iteOmega, Go.IntWalk.toNatUp, h1, h2, h4, a1, a2, a3, Config.val, Config.cells, Rule.val, Rule.cells]
      refine IWp.seq ?_
      refine IWp.seq ?_
      refine IWp.run [4, 80] ?_
      simp [go_sem, -getElem?_pos, -List.map_take, -List.map_drop, List.getElem?_cons_zero, List.getElem?_cons_succ, Go.IntWalk.iteOmega, Go.IntWalk.toNatUp, h1, h2, h4, a1, a2, a3, Config.val, Config.cells, Rule.val, Rule.cells]
      refine IWp.cond ?_
      simp [go_sem, -getElem?_pos, -List.map_take, -List.map_drop, List.getElem?_cons_zero, List.getElem?_cons_succ, Go.IntWalk.iteOmega, Go.IntWalk.toNatUp, h1, h2, h4, a1, a2, a3, Config.val, Config.cells, Rule.val, Rule.cells]
      refine IWp.seq ?_
      refine IWp.run [6] ?_
      simp [go_sem, -getElem?_pos, -List.map_take, -List.map_drop, List.getElem?_cons_zero, List.getElem?_cons_succ, Go.IntWalk.iteOmega, Go.IntWalk.toNatUp, h1, h2, h4, a1, a2, a3, Config.val, Config.cells, Rule.val, Rule.cells]
      refine ICalls.then (c1 _) ?_
      try simp [go_sem, -getElem?_pos, -List.map_take, -List.map_drop, List.getElem?_cons_zero, List.getElem?_cons_succ, Go.IntWalk.iteOmega, Go.IntWalk.toNatUp, h1, h2, h4, a1, a2, a3, Config.val, Config.cells, Rule.val, Rule.cells]
      refine IWp.ret ?_
      simp [go_sem, -getElem?_pos, -List.map_take, -List.map_drop, List.getElem?_cons_zero, List.getElem?_cons_succ, Go.IntWalk.iteOmega, Go.IntWalk.toNatUp, h1, h2, h4, a1, a2, a3, Config.val, Config.cells, Rule.val, Rule.cells, Try.results44]
      try exact .same _
  rw [if_neg (by omega)]
  by_cases a : r.lim = 0
  · by_cases a2 : r.back = 0
    · skip
      refine IBody.of Try.func44 rfl (by rw [Try.ntmps44]; simp) ?_
      rw [Try.ntmps44]
      refine IWp.seq ?_
      refine IWp.run [2, 3, 4] ?_
      simp [go_sem, -getElem?_pos, -List.map_take, -List.map_drop, List.getElem?_cons_zero, List.getElem?_cons_succ, Go.IntWalk.iteOmega, Go.IntWalk.toNatUp, h1, h2, h3, h4, a, a2, Config.val, Config.cells, Rule.val, Rule.cells]
      refine IWp.seq ?_
      refine IWp.run [2, 3, 4, 7] ?_
      simp [go_sem, -getElem?_pos, -List.map_take, -List.map_drop, List.getElem?_cons_zero, List.getElem?_cons_succ, Go.IntWalk.iteOmega, Go.IntWalk.toNatUp, h1, h2, h3, h4, a, a2, Config.val, Config.cells, Rule.val, Rule.cells]
      refine IWp.seq ?_
      refine IWp.seq ?_
      refine IWp.run [3, 4, 7, 13] ?_
      simp [go_sem, -getElem?_pos, -List.map_take, -List.map_drop, List.getElem?_cons_zero, List.getElem?_cons_succ, Go.IntWalk.iteOmega, Go.IntWalk.toNatUp, h1, h2, h3, h4, a, a2, Config.val, Config.cells, Rule.val, Rule.cells]
      refine IWp.block ?_
      refine IWp.seq ?_
      refine IWp.run [3, 4, 7, 13, 14] ?_
      simp [go_sem, -getElem?_pos, -List.map_take, -List.map_drop, List.getElem?_cons_zero, List.getElem?_cons_succ, Go.IntWalk.iteOmega, Go.IntWalk.toNatUp, h1, h2, h3, h4, a, a2, Config.val, Config.cells, Rule.val, Rule.cells]
      refine IWp.cond ?_
      simp [go_sem, -getElem?_pos, -List.map_take, -List.map_drop, List.getElem?_cons_zero, List.getElem?_cons_succ, Go.IntWalk.iteOmega, Go.IntWalk.toNatUp, h1, h2, h3, h4, a, a2, Config.val, Config.cells, Rule.val, Rule.cells]
      refine IWp.seq ?_
      refine IWp.run [3, 4, 7, 13, 22] ?_
      simp [go_sem, -getElem?_pos, -List.map_take, -List.map_drop, List.getElem?_cons_zero, List.getElem?_cons_succ, Go.IntWalk.iteOmega, Go.IntWalk.toNatUp, h1, h2, h3, h4, a, a2, Config.val, Config.cells, Rule.val, Rule.cells]
      refine IWp.cond ?_
      simp [go_sem, -getElem?_pos, -List.map_take, -List.map_drop, List.getElem?_cons_zero, List.getElem?_cons_succ, Go.IntWalk.iteOmega, Go.IntWalk.toNatUp, h1, h2, h3, h4, a, a2, Config.val, Config.cells, Rule.val, Rule.cells]
      refine IWp.seq ?_
      refine IWp.run [4, 7, 13, 35] ?_
      simp [go_sem, -getElem?_pos, -List.map_take, -List.map_drop, List.getElem?_cons_zero, List.getElem?_cons_succ, Go.IntWalk.iteOmega, Go.IntWalk.toNatUp, h1, h2, h3, h4, a, a2, Config.val, Config.cells, Rule.val, Rule.cells]
      refine IWp.cond ?_
      simp [go_sem, -getElem?_pos, -List.map_take, -List.map_drop, List.getElem?_cons_zero, List.getElem?_cons_succ, Go.IntWalk.iteOmega, Go.IntWalk.toNatUp, h1, h2, h3, h4, a, a2, Config.val, Config.cells, Rule.val, Rule.cells]
      refine IWp.seq ?_
      refine IWp.seq ?_
      refine IWp.run [4, 7, 38] ?_
      simp [go_sem, -getElem?_pos, -List.map_take, -List.map_drop, List.getElem?_cons_zero, List.getElem?_cons_succ, Go.IntWalk.iteOmega, Go.IntWalk.toNatUp, h1, h2, h3, h4, a, a2, Config.val, Config.cells, Rule.val, Rule.cells]
      refine IWp.cond ?_
      simp [go_sem, -getElem?_pos, -List.map_take, -List.map_drop, List.getElem?_cons_zero, List.getElem?_cons_succ, Go.IntWalk.iteOmega, Go.IntWalk.toNatUp, h1, h2, h3, h4, a, a2, Config.val, Config.cells, Rule.val, Rule.cells]
      refine IWp.trim [4, 7] (IWp.skip ?_)
      simp [go_sem, -getElem?_pos, -List.map_take, -List.map_drop, List.getElem?_cons_zero, List.getElem?_cons_succ, Go.IntWalk.iteOmega, Go.IntWalk.toNatUp, h1, h2, h3, h4, a, a2, Config.val, Config.cells, Rule.val, Rule.cells]
      refine IWp.seq ?_
      refine IWp.seq ?_
      refine IWp.run [4, 7, 57] ?_
      simp [go_sem, -getElem?_pos, -List.map_take, -List.map_drop, List.getElem?_cons_zero, List.getElem?_cons_succ, Go.IntWalk.iteOmega, Go.IntWalk.toNatUp, h1, h2, h3, h4, a, a2, Config.val, Config.cells, Rule.val, Rule.cells]
      refine IWp.cond ?_
      simp [go_sem, -getElem?_pos, -List.map_take, -List.map_drop, List.getElem?_cons_zero, List.getElem?_cons_succ, Go.IntWalk.iteOmega, Go.IntWalk.toNatUp, h1, h2, h3, h4, a, a2, Config.val, Config.cells, Rule.val, Rule.cells]
      refine IWp.trim [4, 7] (IWp.skip ?_)
      simp [go_sem, -getElem?_pos, -List.map_take, -List.map_drop, List.getElem?_cons_zero, List.getElem?_cons_succ, Go.IntWalk.iteOmega, Go.IntWalk.toNatUp, h1, h2, h3, h4, a, a2, Config.val, Config.cells, Rule.val, Rule.cells]
      refine IWp.seq ?_
      refine IWp.seq ?_
      refine IWp.run [4, 80] ?_
      simp [go_sem, -getElem?_pos, -List.map_take, -List.map_drop, List.getElem?_cons_zero, List.getElem?_cons_succ, Go.IntWalk.iteOmega, Go.IntWalk.toNatUp, h1, h2, h3, h4, a, a2, Config.val, Config.cells, Rule.val, Rule.cells]
      refine IWp.cond ?_
      simp [go_sem, -getElem?_pos, -List.map_take, -List.map_drop, List.getElem?_cons_zero, List.getElem?_cons_succ, Go.IntWalk.iteOmega, Go.IntWalk.toNatUp, h1, h2, h3, h4, a, a2, Config.val, Config.cells, Rule.val, Rule.cells]
      refine IWp.trim [4] (IWp.skip ?_)
      simp [go_sem, -getElem?_pos, -List.map_take, -List.map_drop, List.getElem?_cons_zero, List.getElem?_cons_succ, Go.IntWalk.iteOmega, Go.IntWalk.toNatUp, h1, h2, h3, h4, a, a2, Config.val, Config.cells, Rule.val, Rule.cells]
      refine IWp.seq ?_
      refine IWp.run [6] ?_
      simp [go_sem, -getElem?_pos, -List.map_take, -List.map_drop, List.getElem?_cons_zero, List.getElem?_cons_succ, Go.IntWalk.iteOmega, Go.IntWalk.toNatUp, h1, h2, h3, h4, a, a2, Config.val, Config.cells, Rule.val, Rule.cells]
      refine IWp.ret ?_
      simp [go_sem, -getElem?_pos, -List.map_take, -List.map_drop, List.getElem?_cons_zero, List.getElem?_cons_succ, Go.IntWalk.iteOmega, Go.IntWalk.toNatUp, h1, h2, h3, h4, a, a2, Config.val, Config.cells, Rule.val, Rule.cells, Try.results44]
      try exact .same _
    · skip
      refine IBody.of Try.func44 rfl (by rw [Try.ntmps44]; simp) ?_
      rw [Try.ntmps44]
      refine IWp.seq ?_
      refine IWp.run [2, 3, 4] ?_
      simp [go_sem, -getElem?_pos, -List.map_take, -List.map_drop, List.getElem?_cons_zero, List.getElem?_cons_succ, Go.IntWalk.iteOmega, Go.IntWalk.toNatUp, h1, h2, h3, h4, a, a2, show (r.back != 0) = true by simp [a2], Config.val, Config.cells, Rule.val, Rule.cells]
      refine IWp.seq ?_
      refine IWp.run [2, 3, 4, 7] ?_
      simp [go_sem, -getElem?_pos, -List.map_take, -List.map_drop, List.getElem?_cons_zero, List.getElem?_cons_succ, Go.IntWalk.iteOmega, Go.IntWalk.toNatUp, h1, h2, h3, h4, a, a2, show (r.back != 0) = true by simp [a2], Config.val, Config.cells, Rule.val, Rule.cells]
      refine IWp.seq ?_
      refine IWp.seq ?_
      refine IWp.run [3, 4, 7, 13] ?_
      simp [go_sem, -getElem?_pos, -List.map_take, -List.map_drop, List.getElem?_cons_zero, List.getElem?_cons_succ, Go.IntWalk.iteOmega, Go.IntWalk.toNatUp, h1, h2, h3, h4, a, a2, show (r.back != 0) = true by simp [a2], Config.val, Config.cells, Rule.val, Rule.cells]
      refine IWp.block ?_
      refine IWp.seq ?_
      refine IWp.run [3, 4, 7, 13, 14] ?_
      simp [go_sem, -getElem?_pos, -List.map_take, -List.map_drop, List.getElem?_cons_zero, List.getElem?_cons_succ, Go.IntWalk.iteOmega, Go.IntWalk.toNatUp, h1, h2, h3, h4, a, a2, show (r.back != 0) = true by simp [a2], Config.val, Config.cells, Rule.val, Rule.cells]
      refine IWp.cond ?_
      simp [go_sem, -getElem?_pos, -List.map_take, -List.map_drop, List.getElem?_cons_zero, List.getElem?_cons_succ, Go.IntWalk.iteOmega, Go.IntWalk.toNatUp, h1, h2, h3, h4, a, a2, show (r.back != 0) = true by simp [a2], Config.val, Config.cells, Rule.val, Rule.cells]
      refine IWp.seq ?_
      refine IWp.run [3, 4, 7, 13, 22] ?_
      simp [go_sem, -getElem?_pos, -List.map_take, -List.map_drop, List.getElem?_cons_zero, List.getElem?_cons_succ, Go.IntWalk.iteOmega, Go.IntWalk.toNatUp, h1, h2, h3, h4, a, a2, show (r.back != 0) = true by simp [a2], Config.val, Config.cells, Rule.val, Rule.cells]
      refine IWp.cond ?_
      simp [go_sem, -getElem?_pos, -List.map_take, -List.map_drop, List.getElem?_cons_zero, List.getElem?_cons_succ, Go.IntWalk.iteOmega, Go.IntWalk.toNatUp, h1, h2, h3, h4, a, a2, show (r.back != 0) = true by simp [a2], Config.val, Config.cells, Rule.val, Rule.cells]
      refine IWp.seq ?_
      refine IWp.run [4, 7, 13, 35] ?_
      simp [go_sem, -getElem?_pos, -List.map_take, -List.map_drop, List.getElem?_cons_zero, List.getElem?_cons_succ, Go.IntWalk.iteOmega, Go.IntWalk.toNatUp, h1, h2, h3, h4, a, a2, show (r.back != 0) = true by simp [a2], Config.val, Config.cells, Rule.val, Rule.cells]
      refine IWp.cond ?_
      simp [go_sem, -getElem?_pos, -List.map_take, -List.map_drop, List.getElem?_cons_zero, List.getElem?_cons_succ, Go.IntWalk.iteOmega, Go.IntWalk.toNatUp, h1, h2, h3, h4, a, a2, show (r.back != 0) = true by simp [a2], Config.val, Config.cells, Rule.val, Rule.cells]
      refine IWp.seq ?_
      refine IWp.seq ?_
      refine IWp.run [4, 7, 38] ?_
      simp [go_sem, -getElem?_pos, -List.map_take, -List.map_drop, List.getElem?_cons_zero, List.getElem?_cons_succ, Go.IntWalk.iteOmega, Go.IntWalk.toNatUp, h1, h2, h3, h4, a, a2, show (r.back != 0) = true by simp [a2], Config.val, Config.cells, Rule.val, Rule.cells]
      refine IWp.cond ?_
      simp [go_sem, -getElem?_pos, -List.map_take, -List.map_drop, List.getElem?_cons_zero, List.getElem?_cons_succ, Go.IntWalk.iteOmega, Go.IntWalk.toNatUp, h1, h2, h3, h4, a, a2, show (r.back != 0) = true by simp [a2], Config.val, Config.cells, Rule.val, Rule.cells]
      refine IWp.trim [4, 7] (IWp.skip ?_)
      simp [go_sem, -getElem?_pos, -List.map_take, -List.map_drop, List.getElem?_cons_zero, List.getElem?_cons_succ, Go.IntWalk.iteOmega, Go.IntWalk.toNatUp, h1, h2, h3, h4, a, a2, show (r.back != 0) = true by simp [a2], Config.val, Config.cells, Rule.val, Rule.cells]
      refine IWp.seq ?_
      refine IWp.seq ?_
      refine IWp.run [4, 7, 57] ?_
      simp [go_sem, -getElem?_pos, -List.map_take, -List.map_drop, List.getElem?_cons_zero, List.getElem?_cons_succ, Go.IntWalk.iteOmega, Go.IntWalk.toNatUp, h1, h2, h3, h4, a, a2, show (r.back != 0) = true by simp [a2], Config.val, Config.cells, Rule.val, Rule.cells]
      refine IWp.cond ?_
      simp [go_sem, -getElem?_pos, -List.map_take, -List.map_drop, List.getElem?_cons_zero, List.getElem?_cons_succ, Go.IntWalk.iteOmega, Go.IntWalk.toNatUp, h1, h2, h3, h4, a, a2, show (r.back != 0) = true by simp [a2], Config.val, Config.cells, Rule.val, Rule.cells]
      refine IWp.trim [4, 7] (IWp.skip ?_)
      simp [go_sem, -getElem?_pos, -List.map_take, -List.map_drop, List.getElem?_cons_zero, List.getElem?_cons_succ, Go.IntWalk.iteOmega, Go.IntWalk.toNatUp, h1, h2, h3, h4, a, a2, show (r.back != 0) = true by simp [a2], Config.val, Config.cells, Rule.val, Rule.cells]
      refine IWp.seq ?_
      refine IWp.seq ?_
      refine IWp.run [4, 80] ?_
      simp [go_sem, -getElem?_pos, -List.map_take, -List.map_drop, List.getElem?_cons_zero, List.getElem?_cons_succ, Go.IntWalk.iteOmega, Go.IntWalk.toNatUp, h1, h2, h3, h4, a, a2, show (r.back != 0) = true by simp [a2], Config.val, Config.cells, Rule.val, Rule.cells]
      refine IWp.cond ?_
      simp [go_sem, -getElem?_pos, -List.map_take, -List.map_drop, List.getElem?_cons_zero, List.getElem?_cons_succ, Go.IntWalk.iteOmega, Go.IntWalk.toNatUp, h1, h2, h3, h4, a, a2, show (r.back != 0) = true by simp [a2], Config.val, Config.cells, Rule.val, Rule.cells]
      refine IWp.trim [4] (IWp.skip ?_)
      simp [go_sem, -getElem?_pos, -List.map_take, -List.map_drop, List.getElem?_cons_zero, List.getElem?_cons_succ, Go.IntWalk.iteOmega, Go.IntWalk.toNatUp, h1, h2, h3, h4, a, a2, show (r.back != 0) = true by simp [a2], Config.val, Config.cells, Rule.val, Rule.cells]
      refine IWp.seq ?_
      refine IWp.run [6] ?_
      simp [go_sem, -getElem?_pos, -List.map_take, -List.map_drop, List.getElem?_cons_zero, List.getElem?_cons_succ, Go.IntWalk.iteOmega, Go.IntWalk.toNatUp, h1, h2, h3, h4, a, a2, show (r.back != 0) = true by simp [a2], Config.val, Config.cells, Rule.val, Rule.cells]
      refine IWp.ret ?_
      simp [go_sem, -getElem?_pos, -List.map_take, -List.map_drop, List.getElem?_cons_zero, List.getElem?_cons_succ, Go.IntWalk.iteOmega, Go.IntWalk.toNatUp, h1, h2, h3, h4, a, a2, show (r.back != 0) = true by simp [a2], Config.val, Config.cells, Rule.val, Rule.cells, Try.results44]
      try exact .same _
  · skip
    refine IBody.of Try.func44 rfl (by rw [Try.ntmps44]; simp) ?_
    rw [Try.ntmps44]
    refine IWp.seq ?_
    refine IWp.run [2, 3, 4] ?_
    simp [go_sem, -getElem?_pos, -List.map_take, -List.map_drop, List.getElem?_cons_zero, List.getElem?_cons_succ, Go.IntWalk.iteOmega, Go.IntWalk.toNatUp, h1, h2, h3, h4, a, show (r.lim != 0) = true by simp [a], Config.val, Config.cells, Rule.val, Rule.cells]
    refine IWp.seq ?_
    refine IWp.run [2, 3, 4, 7] ?_
    simp [go_sem, -getElem?_pos, -List.map_take, -List.map_drop, List.getElem?_cons_zero, List.getElem?_cons_succ, Go.IntWalk.iteOmega, Go.IntWalk.toNatUp, h1, h2, h3, h4, a, show (r.lim != 0) = true by simp [a], Config.val, Config.cells, Rule.val, Rule.cells]
    refine IWp.seq ?_
    refine IWp.seq ?_
    refine IWp.run [3, 4, 7, 13] ?_
    simp [go_sem, -getElem?_pos, -List.map_take, -List.map_drop, List.getElem?_cons_zero, List.getElem?_cons_succ, Go.IntWalk.iteOmega, Go.IntWalk.toNatUp, h1, h2, h3, h4, a, show (r.lim != 0) = true by simp [a], Config.val, Config.cells, Rule.val, Rule.cells]
    refine IWp.block ?_
    refine IWp.seq ?_
    refine IWp.run [3, 4, 7, 13, 14] ?_
    simp [go_sem, -getElem?_pos, -List.map_take, -List.map_drop, List.getElem?_cons_zero, List.getElem?_cons_succ, Go.IntWalk.iteOmega, Go.IntWalk.toNatUp, h1, h2, h3, h4, a, show (r.lim != 0) = true by simp [a], Config.val, Config.cells, Rule.val, Rule.cells]
    refine IWp.cond ?_
    simp [go_sem, -getElem?_pos, -List.map_take, -List.map_drop, List.getElem?_cons_zero, List.getElem?_cons_succ, Go.IntWalk.iteOmega, Go.IntWalk.toNatUp, h1, h2, h3, h4, a, show (r.lim != 0) = true by simp [a], Config.val, Config.cells, Rule.val, Rule.cells]
    refine IWp.seq ?_
    refine IWp.run [3, 4, 7, 13, 22] ?_
    simp [go_sem, -getElem?_pos, -List.map_take, -List.map_drop, List.getElem?_cons_zero, List.getElem?_cons_succ, Go.IntWalk.iteOmega, Go.IntWalk.toNatUp, h1, h2, h3, h4, a, show (r.lim != 0) = true by simp [a], Config.val, Config.cells, Rule.val, Rule.cells]
    refine IWp.cond ?_
    simp [go_sem, -getElem?_pos, -List.map_take, -List.map_drop, List.getElem?_cons_zero, List.getElem?_cons_succ, Go.IntWalk.iteOmega, Go.IntWalk.toNatUp, h1, h2, h3, h4, a, show (r.lim != 0) = true by simp [a], Config.val, Config.cells, Rule.val, Rule.cells]
    refine IWp.seq ?_
    refine IWp.run [4, 7, 13, 35] ?_
    simp [go_sem, -getElem?_pos, -List.map_take, -List.map_drop, List.getElem?_cons_zero, List.getElem?_cons_succ, Go.IntWalk.iteOmega, Go.IntWalk.toNatUp, h1, h2, h3, h4, a, show (r.lim != 0) = true by simp [a], Config.val, Config.cells, Rule.val, Rule.cells]
    refine IWp.cond ?_
    simp [go_sem, -getElem?_pos, -List.map_take, -List.map_drop, List.getElem?_cons_zero, List.getElem?_cons_succ, Go.IntWalk.iteOmega, Go.IntWalk.toNatUp, h1, h2, h3, h4, a, show (r.lim != 0) = true by simp [a], Config.val, Config.cells, Rule.val, Rule.cells]
    refine IWp.seq ?_
    refine IWp.seq ?_
    refine IWp.run [4, 7, 38] ?_
    simp [go_sem, -getElem?_pos, -List.map_take, -List.map_drop, List.getElem?_cons_zero, List.getElem?_cons_succ, Go.IntWalk.iteOmega, Go.IntWalk.toNatUp, h1, h2, h3, h4, a, show (r.lim != 0) = true by simp [a], Config.val, Config.cells, Rule.val, Rule.cells]
    refine IWp.cond ?_
    simp [go_sem, -getElem?_pos, -List.map_take, -List.map_drop, List.getElem?_cons_zero, List.getElem?_cons_succ, Go.IntWalk.iteOmega, Go.IntWalk.toNatUp, h1, h2, h3, h4, a, show (r.lim != 0) = true by simp [a], Config.val, Config.cells, Rule.val, Rule.cells]
    refine IWp.trim [4, 7] (IWp.skip ?_)
    simp [go_sem, -getElem?_pos, -List.map_take, -List.map_drop, List.getElem?_cons_zero, List.getElem?_cons_succ, Go.IntWalk.iteOmega, Go.IntWalk.toNatUp, h1, h2, h3, h4, a, show (r.lim != 0) = true by simp [a], Config.val, Config.cells, Rule.val, Rule.cells]
    refine IWp.seq ?_
    refine IWp.seq ?_
    refine IWp.run [4, 7, 57] ?_
    simp [go_sem, -getElem?_pos, -List.map_take, -List.map_drop, List.getElem?_cons_zero, List.getElem?_cons_succ, Go.IntWalk.iteOmega, Go.IntWalk.toNatUp, h1, h2, h3, h4, a, show (r.lim != 0) = true by simp [a], Config.val, Config.cells, Rule.val, Rule.cells]
    refine IWp.cond ?_
    simp [go_sem, -getElem?_pos, -List.map_take, -List.map_drop, List.getElem?_cons_zero, List.getElem?_cons_succ, Go.IntWalk.iteOmega, Go.IntWalk.toNatUp, h1, h2, h3, h4, a, show (r.lim != 0) = true by simp [a], Config.val, Config.cells, Rule.val, Rule.cells]
    refine IWp.trim [4, 7] (IWp.skip ?_)
    simp [go_sem, -getElem?_pos, -List.map_take, -List.map_drop, List.getElem?_cons_zero, List.getElem?_cons_succ, Go.IntWalk.iteOmega, Go.IntWalk.toNatUp, h1, h2, h3, h4, a, show (r.lim != 0) = true by simp [a], Config.val, Config.cells, Rule.val, Rule.cells]
    refine IWp.seq ?_
    refine IWp.seq ?_
    refine IWp.run [4, 80] ?_
    simp [go_sem, -getElem?_pos, -List.map_take, -List.map_drop, List.getElem?_cons_zero, List.getElem?_cons_succ, Go.IntWalk.iteOmega, Go.IntWalk.toNatUp, h1, h2, h3, h4, a, show (r.lim != 0) = true by simp [a], Config.val, Config.cells, Rule.val, Rule.cells]
    refine IWp.cond ?_
    simp [go_sem, -getElem?_pos, -List.map_take, -List.map_drop, List.getElem?_cons_zero, List.getElem?_cons_succ, Go.IntWalk.iteOmega, Go.IntWalk.toNatUp, h1, h2, h3, h4, a, show (r.lim != 0) = true by simp [a], Config.val, Config.cells, Rule.val, Rule.cells]
    refine IWp.trim [4] (IWp.skip ?_)
    simp [go_sem, -getElem?_pos, -List.map_take, -List.map_drop, List.getElem?_cons_zero, List.getElem?_cons_succ, Go.IntWalk.iteOmega, Go.IntWalk.toNatUp, h1, h2, h3, h4, a, show (r.lim != 0) = true by simp [a], Config.val, Config.cells, Rule.val, Rule.cells]
    refine IWp.seq ?_
    refine IWp.run [6] ?_
    simp [go_sem, -getElem?_pos, -List.map_take, -List.map_drop, List.getElem?_cons_zero, List.getElem?_cons_succ, Go.IntWalk.iteOmega, Go.IntWalk.toNatUp, h1, h2, h3, h4, a, show (r.lim != 0) = true by simp [a], Config.val, Config.cells, Rule.val, Rule.cells]
    refine IWp.ret ?_
    simp [go_sem, -getElem?_pos, -List.map_take, -List.map_drop, List.getElem?_cons_zero, List.getElem?_cons_succ, Go.IntWalk.iteOmega, Go.IntWalk.toNatUp, h1, h2, h3, h4, a, show (r.lim != 0) = true by simp [a], Config.val, Config.cells, Rule.val, Rule.cells, Try.results44]
    try exact .same _

theorem broken9 (H : Heap) (c : Config) (r : Rule) (hl : r.stages.length ≤ 1000000) (hs : c.sigs.length ≤ 1000000) : ICalls Try.prog 44 [c.val, r.val, .int .i64 10] H fun v H' => v = .bool (!(ruleB c.sigs.length 9 r)) ∧ H' = H := by
  refine ICalls.ans (by simp [go_sem]) fun H => IBody.calls (by kernel_rfl) ?_
  simp only [ruleB]
  unfold stagesB
  refine IBody.of Try.func44 rfl (by rw [Try.ntmps44]; simp) ?_
  rw [Try.ntmps44]
  refine IWp.seq ?_
  refine IWp.run [2, 3, 4] ?_
  simp [go_sem, -getElem?_pos, -List.map_take, -List.map_drop, List.getElem?_cons_zero, List.getElem?_cons_succ, Go.IntWalk.iteOmega, Go.IntWalk.toNatUp, Config.val, Config.cells, Rule.val, Rule.cells]
  refine IWp.seq ?_
  refine IWp.run [2, 3, 4, 7] ?_
  simp [go_sem, -getElem?_pos, -List.map_take, -List.map_drop, List.getElem?_cons_zero, List.getElem?_cons_succ, Go.IntWalk.iteOmega, Go.IntWalk.toNatUp, Config.val, Config.cells, Rule.val, Rule.cells]
  refine IWp.seq ?_
  refine IWp.seq ?_
  refine IWp.run [3, 4, 7, 13] ?_
  simp [go_sem, -getElem?_pos, -List.map_take, -List.map_drop, List.getElem?_cons_zero, List.getElem?_cons_succ, Go.IntWalk.iteOmega, Go.IntWalk.toNatUp, Config.val, Config.cells, Rule.val, Rule.cells]
  refine IWp.block ?_
  refine IWp.seq ?_
  refine IWp.run [3, 4, 7, 13, 14] ?_
  simp [go_sem, -getElem?_pos, -List.map_take, -List.map_drop, List.getElem?_cons_zero, List.getElem?_cons_succ, Go.IntWalk.iteOmega, Go.IntWalk.toNatUp, Config.val, Config.cells, Rule.val, Rule.cells]
  refine IWp.cond ?_
  simp [go_sem, -getElem?_pos, -List.map_take, -List.map_drop, List.getElem?_cons_zero, List.getElem?_cons_succ, Go.IntWalk.iteOmega, Go.IntWalk.toNatUp, Config.val, Config.cells, Rule.val, Rule.cells]
  refine IWp.seq ?_
  refine IWp.run [3, 4, 7, 13, 22] ?_
  simp [go_sem, -getElem?_pos, -List.map_take, -List.map_drop, List.getElem?_cons_zero, List.getElem?_cons_succ, Go.IntWalk.iteOmega, Go.IntWalk.toNatUp, Config.val, Config.cells, Rule.val, Rule.cells]
  refine IWp.cond ?_
  simp [go_sem, -getElem?_pos, -List.map_take, -List.map_drop, List.getElem?_cons_zero, List.getElem?_cons_succ, Go.IntWalk.iteOmega, Go.IntWalk.toNatUp, Config.val, Config.cells, Rule.val, Rule.cells]
  refine IWp.seq ?_
  refine IWp.run [4, 7, 13, 35] ?_
  simp [go_sem, -getElem?_pos, -List.map_take, -List.map_drop, List.getElem?_cons_zero, List.getElem?_cons_succ, Go.IntWalk.iteOmega, Go.IntWalk.toNatUp, Config.val, Config.cells, Rule.val, Rule.cells]
  refine IWp.cond ?_
  simp [go_sem, -getElem?_pos, -List.map_take, -List.map_drop, List.getElem?_cons_zero, List.getElem?_cons_succ, Go.IntWalk.iteOmega, Go.IntWalk.toNatUp, Config.val, Config.cells, Rule.val, Rule.cells]
  refine IWp.seq ?_
  refine IWp.run [4, 7, 13, 110] ?_
  simp [go_sem, -getElem?_pos, -List.map_take, -List.map_drop, List.getElem?_cons_zero, List.getElem?_cons_succ, Go.IntWalk.iteOmega, Go.IntWalk.toNatUp, Config.val, Config.cells, Rule.val, Rule.cells]
  refine IWp.cond ?_
  simp [go_sem, -getElem?_pos, -List.map_take, -List.map_drop, List.getElem?_cons_zero, List.getElem?_cons_succ, Go.IntWalk.iteOmega, Go.IntWalk.toNatUp, Config.val, Config.cells, Rule.val, Rule.cells]
  refine IWp.seq ?_
  refine IWp.run [4, 13, 133] ?_
  simp [go_sem, -getElem?_pos, -List.map_take, -List.map_drop, List.getElem?_cons_zero, List.getElem?_cons_succ, Go.IntWalk.iteOmega, Go.IntWalk.toNatUp, Config.val, Config.cells, Rule.val, Rule.cells]
  refine IWp.cond ?_
  simp [go_sem, -getElem?_pos, -List.map_take, -List.map_drop, List.getElem?_cons_zero, List.getElem?_cons_succ, Go.IntWalk.iteOmega, Go.IntWalk.toNatUp, Config.val, Config.cells, Rule.val, Rule.cells]
  refine IWp.seq ?_
  refine IWp.run [4, 143] ?_
  simp [go_sem, -getElem?_pos, -List.map_take, -List.map_drop, List.getElem?_cons_zero, List.getElem?_cons_succ, Go.IntWalk.iteOmega, Go.IntWalk.toNatUp, Config.val, Config.cells, Rule.val, Rule.cells]
  refine IWp.cond ?_
  simp [go_sem, -getElem?_pos, -List.map_take, -List.map_drop, List.getElem?_cons_zero, List.getElem?_cons_succ, Go.IntWalk.iteOmega, Go.IntWalk.toNatUp, Config.val, Config.cells, Rule.val, Rule.cells]
  refine IWp.trim [4] (IWp.skip ?_)
  simp [go_sem, -getElem?_pos, -List.map_take, -List.map_drop, List.getElem?_cons_zero, List.getElem?_cons_succ, Go.IntWalk.iteOmega, Go.IntWalk.toNatUp, Config.val, Config.cells, Rule.val, Rule.cells]
  refine IWp.seq ?_
  refine IWp.run [4, 8] ?_
  simp [go_sem, -getElem?_pos, -List.map_take, -List.map_drop, List.getElem?_cons_zero, List.getElem?_cons_succ, Go.IntWalk.iteOmega, Go.IntWalk.toNatUp, Config.val, Config.cells, Rule.val, Rule.cells]
  refine IWp.seq ?_
  refine IWp.seq ?_
  refine IWp.run [4, 8, 9] ?_
  simp [go_sem, -getElem?_pos, -List.map_take, -List.map_drop, List.getElem?_cons_zero, List.getElem?_cons_succ, Go.IntWalk.iteOmega, Go.IntWalk.toNatUp, Config.val, Config.cells, Rule.val, Rule.cells]
  refine IWp.block ?_
  -- LOOP live [4, 8, 9]
  have hg := Heap.get_alloc_new (H.alloc c.cells) r.cells
  simp only [Config.cells, Rule.cells, next_alloc] at hg
  generalize H.next + 1 = b at *
  generalize (H.alloc _).alloc _ = H1 at *
  refine IWp.loop (fun q e K => ∃ (i : Nat) (p : Int), q = r.stages.length - i ∧ i ≤ r.stages.length ∧ K.get b = H1.get b ∧ e = [(4, ptrTo b 0), (8, .int .u8 p), (9, .int .i64 (i : Int))] ∧ stagesL r.prio r.stages = stagesL p (r.stages.drop i)) r.stages.length ⟨0, r.prio, rfl, Nat.zero_le _, rfl, by simp [go_sem], by rw [List.drop_zero]⟩ ?_
  rintro q e K ⟨i, p, rfl, hi, hK, rfl, hin⟩
  rw [hg] at hK
  rw [hin]
  have wi := IntWalk.i64_in ((i : Int) + 1) (by omega)
  by_cases hlt : i < r.stages.length
  case neg =>
    rw [List.drop_of_length_le (by omega)]
    by_cases h4 : r.stages.length ≤ 4
    · rw [decide_eq_true h4]
      refine IWp.seq ?_
      refine IWp.seq ?_
      refine IWp.run [4, 8, 9, 159] ?_
      simp [go_sem, -getElem?_pos, -List.map_take, -List.map_drop, List.getElem?_cons_zero, List.getElem?_cons_succ, Go.IntWalk.iteOmega, Go.IntWalk.toNatUp, hlt, hK, show ¬ (4 : Int) < r.stages.length by omega, show ¬ 4 < r.stages.length by omega]
      refine IWp.cond ?_
      simp [go_sem, -getElem?_pos, -List.map_take, -List.map_drop, List.getElem?_cons_zero, List.getElem?_cons_succ, Go.IntWalk.iteOmega, Go.IntWalk.toNatUp, hlt, hK, show ¬ (4 : Int) < r.stages.length by omega, show ¬ 4 < r.stages.length by omega]
      refine IWp.trim [4] (IWp.exit ?_)
      simp [go_sem, -getElem?_pos, -List.map_take, -List.map_drop, List.getElem?_cons_zero, List.getElem?_cons_succ, Go.IntWalk.iteOmega, Go.IntWalk.toNatUp, hlt, hK, show ¬ (4 : Int) < r.stages.length by omega, show ¬ 4 < r.stages.length by omega]
      refine IWp.seq ?_
      refine IWp.run [6] ?_
      simp [go_sem, -getElem?_pos, -List.map_take, -List.map_drop, List.getElem?_cons_zero, List.getElem?_cons_succ, Go.IntWalk.iteOmega, Go.IntWalk.toNatUp, hlt, hK, show ¬ (4 : Int) < r.stages.length by omega, show ¬ 4 < r.stages.length by omega]
      refine IWp.ret ?_
      simp [go_sem, -getElem?_pos, -List.map_take, -List.map_drop, List.getElem?_cons_zero, List.getElem?_cons_succ, Go.IntWalk.iteOmega, Go.IntWalk.toNatUp, hlt, hK, show ¬ (4 : Int) < r.stages.length by omega, show ¬ 4 < r.stages.length by omega, Try.results44]
      try exact .same _
    · rw [decide_eq_false h4]
      refine IWp.seq ?_
      refine IWp.seq ?_
      refine IWp.run [4, 8, 9, 159] ?_
      simp [go_sem, -getElem?_pos, -List.map_take, -List.map_drop, List.getElem?_cons_zero, List.getElem?_cons_succ, Go.IntWalk.iteOmega, Go.IntWalk.toNatUp, hlt, hK, show (4 : Int) < r.stages.length by omega, show 4 < r.stages.length by omega]
      refine IWp.cond ?_
      simp [go_sem, -getElem?_pos, -List.map_take, -List.map_drop, List.getElem?_cons_zero, List.getElem?_cons_succ, Go.IntWalk.iteOmega, Go.IntWalk.toNatUp, hlt, hK, show (4 : Int) < r.stages.length by omega, show 4 < r.stages.length by omega]
      refine IWp.trim [4] (IWp.exit ?_)
      simp [go_sem, -getElem?_pos, -List.map_take, -List.map_drop, List.getElem?_cons_zero, List.getElem?_cons_succ, Go.IntWalk.iteOmega, Go.IntWalk.toNatUp, hlt, hK, show (4 : Int) < r.stages.length by omega, show 4 < r.stages.length by omega]
      refine IWp.seq ?_
      refine IWp.run [6] ?_
      simp [go_sem, -getElem?_pos, -List.map_take, -List.map_drop, List.getElem?_cons_zero, List.getElem?_cons_succ, Go.IntWalk.iteOmega, Go.IntWalk.toNatUp, hlt, hK, show (4 : Int) < r.stages.length by omega, show 4 < r.stages.length by omega]
      refine IWp.ret ?_
      simp [go_sem, -getElem?_pos, -List.map_take, -List.map_drop, List.getElem?_cons_zero, List.getElem?_cons_succ, Go.IntWalk.iteOmega, Go.IntWalk.toNatUp, hlt, hK, show (4 : Int) < r.stages.length by omega, show 4 < r.stages.length by omega, Try.results44]
      try exact .same _
  have g : (r.stages.map Stage.val)[i]? = some (r.stages[i]).val := by simp [hlt]
  rw [List.drop_eq_getElem_cons hlt, stagesL_cons]
  rw [List.drop_eq_getElem_cons hlt, stagesL_cons] at hin
  generalize r.stages[i] = s at *
  have hbk : ¬ b = K.next := by have := Heap.lt_of_get hK; omega
  by_cases a1 : s.wait < 1
  · rw [show stageOk p s = false by simp [stageOk, inS_not.2 (show ¬ (1 ≤ s.wait ∧ s.wait ≤ 100000) by omega)]]
    refine IWp.seq ?_
    refine IWp.seq ?_
    refine IWp.run [4, 8, 9, 159] ?_
    simp [go_sem, -getElem?_pos, -List.map_take, -List.map_drop, List.getElem?_cons_zero, List.getElem?_cons_succ, Go.IntWalk.iteOmega, Go.IntWalk.toNatUp, hlt, hK, g, a1, hbk, Stage.val, Stage.cells]
    refine IWp.cond ?_
    simp [go_sem, -getElem?_pos, -List.map_take, -List.map_drop, List.getElem?_cons_zero, List.getElem?_cons_succ, Go.IntWalk.iteOmega, Go.IntWalk.toNatUp, hlt, hK, g, a1, hbk, Stage.val, Stage.cells]
    refine IWp.trim [4, 8, 9] (IWp.skip ?_)
    simp [go_sem, -getElem?_pos, -List.map_take, -List.map_drop, List.getElem?_cons_zero, List.getElem?_cons_succ, Go.IntWalk.iteOmega, Go.IntWalk.toNatUp, hlt, hK, g, a1, hbk, Stage.val, Stage.cells]
    refine IWp.seq ?_
    refine IWp.block ?_
    refine IWp.seq ?_
    refine IWp.run [4, 8, 9, 10] ?_
    simp [go_sem, -getElem?_pos, -List.map_take, -List.map_drop, List.getElem?_cons_zero, List.getElem?_cons_succ, Go.IntWalk.iteOmega, Go.IntWalk.toNatUp, hlt, hK, g, a1, hbk, Stage.val, Stage.cells]
    refine IWp.seq ?_
    refine IWp.seq ?_
    refine IWp.run [4, 9, 10, 190] ?_
    simp [go_sem, -getElem?_pos, -List.map_take, -List.map_drop, List.getElem?_cons_zero, List.getElem?_cons_succ, Go.IntWalk.iteOmega, Go.IntWalk.toNatUp, hlt, hK, g, a1, hbk, Stage.val, Stage.cells]
    refine IWp.cond ?_
    simp [go_sem, -getElem?_pos, -List.map_take, -List.map_drop, List.getElem?_cons_zero, List.getElem?_cons_succ, Go.IntWalk.iteOmega, Go.IntWalk.toNatUp, hlt, hK, g, a1, hbk, Stage.val, Stage.cells]
    refine IWp.seq ?_
    refine IWp.run [6] ?_
    simp [go_sem, -getElem?_pos, -List.map_take, -List.map_drop, List.getElem?_cons_zero, List.getElem?_cons_succ, Go.IntWalk.iteOmega, Go.IntWalk.toNatUp, hlt, hK, g, a1, hbk, Stage.val, Stage.cells]
    refine IWp.ret ?_
    simp [go_sem, -getElem?_pos, -List.map_take, -List.map_drop, List.getElem?_cons_zero, List.getElem?_cons_succ, Go.IntWalk.iteOmega, Go.IntWalk.toNatUp, hlt, hK, g, a1, hbk, Stage.val, Stage.cells, Try.results44]
    try simp
    try exact .same _
  by_cases a2 : 100000 < s.wait
  · rw [show stageOk p s = false by simp [stageOk, inS_not.2 (show ¬ (1 ≤ s.wait ∧ s.wait ≤ 100000) by omega)]]
    refine IWp.seq ?_
    refine IWp.seq ?_
    refine IWp.run [4, 8, 9, 159] ?_
    simp [go_sem, -getElem?_pos, -List.map_take, -List.map_drop, List.getElem?_cons_zero, List.getElem?_cons_succ, Go.IntWalk.iteOmega, Go.IntWalk.toNatUp, hlt, hK, g, a1, a2, hbk, Stage.val, Stage.cells]
    refine IWp.cond ?_
    simp [go_sem, -getElem?_pos, -List.map_take, -List.map_drop, List.getElem?_cons_zero, List.getElem?_cons_succ, Go.IntWalk.iteOmega, Go.IntWalk.toNatUp, hlt, hK, g, a1, a2, hbk, Stage.val, Stage.cells]
    refine IWp.trim [4, 8, 9] (IWp.skip ?_)
    simp [go_sem, -getElem?_pos, -List.map_take, -List.map_drop, List.getElem?_cons_zero, List.getElem?_cons_succ, Go.IntWalk.iteOmega, Go.IntWalk.toNatUp, hlt, hK, g, a1, a2, hbk, Stage.val, Stage.cells]
    refine IWp.seq ?_
    refine IWp.block ?_
    refine IWp.seq ?_
    refine IWp.run [4, 8, 9, 10] ?_
    simp [go_sem, -getElem?_pos, -List.map_take, -List.map_drop, List.getElem?_cons_zero, List.getElem?_cons_succ, Go.IntWalk.iteOmega, Go.IntWalk.toNatUp, hlt, hK, g, a1, a2, hbk, Stage.val, Stage.cells]
    refine IWp.seq ?_
    refine IWp.seq ?_
    refine IWp.run [4, 9, 10, 190] ?_
    simp [go_sem, -getElem?_pos, -List.map_take, -List.map_drop, List.getElem?_cons_zero, List.getElem?_cons_succ, Go.IntWalk.iteOmega, Go.IntWalk.toNatUp, hlt, hK, g, a1, a2, hbk, Stage.val, Stage.cells]
    refine IWp.cond ?_
    simp [go_sem, -getElem?_pos, -List.map_take, -List.map_drop, List.getElem?_cons_zero, List.getElem?_cons_succ, Go.IntWalk.iteOmega, Go.IntWalk.toNatUp, hlt, hK, g, a1, a2, hbk, Stage.val, Stage.cells]
    refine IWp.seq ?_
    refine IWp.run [6] ?_
    simp [go_sem, -getElem?_pos, -List.map_take, -List.map_drop, List.getElem?_cons_zero, List.getElem?_cons_succ, Go.IntWalk.iteOmega, Go.IntWalk.toNatUp, hlt, hK, g, a1, a2, hbk, Stage.val, Stage.cells]
    refine IWp.ret ?_
    simp [go_sem, -getElem?_pos, -List.map_take, -List.map_drop, List.getElem?_cons_zero, List.getElem?_cons_succ, Go.IntWalk.iteOmega, Go.IntWalk.toNatUp, hlt, hK, g, a1, a2, hbk, Stage.val, Stage.cells, Try.results44]
    try simp
    try exact .same _
  by_cases a3 : s.prio < 1
  · rw [show stageOk p s = false by simp [stageOk, inS_not.2 (show ¬ (1 ≤ s.prio ∧ s.prio ≤ 3) by omega)]]
    refine IWp.seq ?_
    refine IWp.seq ?_
    refine IWp.run [4, 8, 9, 159] ?_
    simp [go_sem, -getElem?_pos, -List.map_take, -List.map_drop, List.getElem?_cons_zero, List.getElem?_cons_succ, Go.IntWalk.iteOmega, Go.IntWalk.toNatUp, hlt, hK, g, a1, a2, a3, hbk, Stage.val, Stage.cells]
    refine IWp.cond ?_
    simp [go_sem, -getElem?_pos, -List.map_take, -List.map_drop, List.getElem?_cons_zero, List.getElem?_cons_succ, Go.IntWalk.iteOmega, Go.IntWalk.toNatUp, hlt, hK, g, a1, a2, a3, hbk, Stage.val, Stage.cells]
    refine IWp.trim [4, 8, 9] (IWp.skip ?_)
    simp [go_sem, -getElem?_pos, -List.map_take, -List.map_drop, List.getElem?_cons_zero, List.getElem?_cons_succ, Go.IntWalk.iteOmega, Go.IntWalk.toNatUp, hlt, hK, g, a1, a2, a3, hbk, Stage.val, Stage.cells]
    refine IWp.seq ?_
    refine IWp.block ?_
    refine IWp.seq ?_
    refine IWp.run [4, 8, 9, 10] ?_
    simp [go_sem, -getElem?_pos, -List.map_take, -List.map_drop, List.getElem?_cons_zero, List.getElem?_cons_succ, Go.IntWalk.iteOmega, Go.IntWalk.toNatUp, hlt, hK, g, a1, a2, a3, hbk, Stage.val, Stage.cells]
    refine IWp.seq ?_
    refine IWp.seq ?_
    refine IWp.run [4, 9, 10, 190] ?_
    simp [go_sem, -getElem?_pos, -List.map_take, -List.map_drop, List.getElem?_cons_zero, List.getElem?_cons_succ, Go.IntWalk.iteOmega, Go.IntWalk.toNatUp, hlt, hK, g, a1, a2, a3, hbk, Stage.val, Stage.cells]
    refine IWp.cond ?_
    simp [go_sem, -getElem?_pos, -List.map_take, -List.map_drop, List.getElem?_cons_zero, List.getElem?_cons_succ, Go.IntWalk.iteOmega, Go.IntWalk.toNatUp, hlt, hK, g, a1, a2, a3, hbk, Stage.val, Stage.cells]
    refine IWp.seq ?_
    refine IWp.run [6] ?_
    simp [go_sem, -getElem?_pos, -List.map_take, -List.map_drop, List.getElem?_cons_zero, List.getElem?_cons_succ, Go.IntWalk.iteOmega, Go.IntWalk.toNatUp, hlt, hK, g, a1, a2, a3, hbk, Stage.val, Stage.cells]
    refine IWp.ret ?_
    simp [go_sem, -getElem?_pos, -List.map_take, -List.map_drop, List.getElem?_cons_zero, List.getElem?_cons_succ, Go.IntWalk.iteOmega, Go.IntWalk.toNatUp, hlt, hK, g, a1, a2, a3, hbk, Stage.val, Stage.cells, Try.results44]
    try simp
    try exact .same _
  by_cases a4 : 3 < s.prio
  · rw [show stageOk p s = false by simp [stageOk, inS_not.2 (show ¬ (1 ≤ s.prio ∧ s.prio ≤ 3) by omega)]]
    refine IWp.seq ?_
    refine IWp.seq ?_
    refine IWp.run [4, 8, 9, 159] ?_
    simp [go_sem, -getElem?_pos, -List.map_take, -List.map_drop, List.getElem?_cons_zero, List.getElem?_cons_succ, Go.IntWalk.iteOmega, Go.IntWalk.toNatUp, hlt, hK, g, a1, a2, a3, a4, hbk, Stage.val, Stage.cells]
    refine IWp.cond ?_
    simp [go_sem, -getElem?_pos, -List.map_take, -List.map_drop, List.getElem?_cons_zero, List.getElem?_cons_succ, Go.IntWalk.iteOmega, Go.IntWalk.toNatUp, hlt, hK, g, a1, a2, a3, a4, hbk, Stage.val, Stage.cells]
    refine IWp.trim [4, 8, 9] (IWp.skip ?_)
    simp [go_sem, -getElem?_pos, -List.map_take, -List.map_drop, List.getElem?_cons_zero, List.getElem?_cons_succ, Go.IntWalk.iteOmega, Go.IntWalk.toNatUp, hlt, hK, g, a1, a2, a3, a4, hbk, Stage.val, Stage.cells]
    refine IWp.seq ?_
    refine IWp.block ?_
    refine IWp.seq ?_
    refine IWp.run [4, 8, 9, 10] ?_
    simp [go_sem, -getElem?_pos, -List.map_take, -List.map_drop, List.getElem?_cons_zero, List.getElem?_cons_succ, Go.IntWalk.iteOmega, Go.IntWalk.toNatUp, hlt, hK, g, a1, a2, a3, a4, hbk, Stage.val, Stage.cells]
    refine IWp.seq ?_
    refine IWp.seq ?_
    refine IWp.run [4, 9, 10, 190] ?_
    simp [go_sem, -getElem?_pos, -List.map_take, -List.map_drop, List.getElem?_cons_zero, List.getElem?_cons_succ, Go.IntWalk.iteOmega, Go.IntWalk.toNatUp, hlt, hK, g, a1, a2, a3, a4, hbk, Stage.val, Stage.cells]
    refine IWp.cond ?_
    simp [go_sem, -getElem?_pos, -List.map_take, -List.map_drop, List.getElem?_cons_zero, List.getElem?_cons_succ, Go.IntWalk.iteOmega, Go.IntWalk.toNatUp, hlt, hK, g, a1, a2, a3, a4, hbk, Stage.val, Stage.cells]
    refine IWp.seq ?_
    refine IWp.run [6] ?_
    simp [go_sem, -getElem?_pos, -List.map_take, -List.map_drop, List.getElem?_cons_zero, List.getElem?_cons_succ, Go.IntWalk.iteOmega, Go.IntWalk.toNatUp, hlt, hK, g, a1, a2, a3, a4, hbk, Stage.val, Stage.cells]
    refine IWp.ret ?_
    simp [go_sem, -getElem?_pos, -List.map_take, -List.map_drop, List.getElem?_cons_zero, List.getElem?_cons_succ, Go.IntWalk.iteOmega, Go.IntWalk.toNatUp, hlt, hK, g, a1, a2, a3, a4, hbk, Stage.val, Stage.cells, Try.results44]
    try simp
    try exact .same _
  by_cases a5 : s.prio < p
  · rw [show stageOk p s = false by simp [stageOk]; intros; omega]
    refine IWp.seq ?_
    refine IWp.seq ?_
    refine IWp.run [4, 8, 9, 159] ?_
    simp [go_sem, -getElem?_pos, -List.map_take, -List.map_drop, List.getElem?_cons_zero, List.getElem?_cons_succ, Go.IntWalk.iteOmega, Go.IntWalk.toNatUp, hlt, hK, g, a1, a2, a3, a4, a5, hbk, Stage.val, Stage.cells]
    refine IWp.cond ?_
    simp [go_sem, -getElem?_pos, -List.map_take, -List.map_drop, List.getElem?_cons_zero, List.getElem?_cons_succ, Go.IntWalk.iteOmega, Go.IntWalk.toNatUp, hlt, hK, g, a1, a2, a3, a4, a5, hbk, Stage.val, Stage.cells]
    refine IWp.trim [4, 8, 9] (IWp.skip ?_)
    simp [go_sem, -getElem?_pos, -List.map_take, -List.map_drop, List.getElem?_cons_zero, List.getElem?_cons_succ, Go.IntWalk.iteOmega, Go.IntWalk.toNatUp, hlt, hK, g, a1, a2, a3, a4, a5, hbk, Stage.val, Stage.cells]
    refine IWp.seq ?_
    refine IWp.block ?_
    refine IWp.seq ?_
    refine IWp.run [4, 8, 9, 10] ?_
    simp [go_sem, -getElem?_pos, -List.map_take, -List.map_drop, List.getElem?_cons_zero, List.getElem?_cons_succ, Go.IntWalk.iteOmega, Go.IntWalk.toNatUp, hlt, hK, g, a1, a2, a3, a4, a5, hbk, Stage.val, Stage.cells]
    refine IWp.seq ?_
    refine IWp.seq ?_
    refine IWp.run [4, 9, 10, 190] ?_
    simp [go_sem, -getElem?_pos, -List.map_take, -List.map_drop, List.getElem?_cons_zero, List.getElem?_cons_succ, Go.IntWalk.iteOmega, Go.IntWalk.toNatUp, hlt, hK, g, a1, a2, a3, a4, a5, hbk, Stage.val, Stage.cells]
    refine IWp.cond ?_
    simp [go_sem, -getElem?_pos, -List.map_take, -List.map_drop, List.getElem?_cons_zero, List.getElem?_cons_succ, Go.IntWalk.iteOmega, Go.IntWalk.toNatUp, hlt, hK, g, a1, a2, a3, a4, a5, hbk, Stage.val, Stage.cells]
    refine IWp.seq ?_
    refine IWp.run [6] ?_
    simp [go_sem, -getElem?_pos, -List.map_take, -List.map_drop, List.getElem?_cons_zero, List.getElem?_cons_succ, Go.IntWalk.iteOmega, Go.IntWalk.toNatUp, hlt, hK, g, a1, a2, a3, a4, a5, hbk, Stage.val, Stage.cells]
    refine IWp.ret ?_
    simp [go_sem, -getElem?_pos, -List.map_take, -List.map_drop, List.getElem?_cons_zero, List.getElem?_cons_succ, Go.IntWalk.iteOmega, Go.IntWalk.toNatUp, hlt, hK, g, a1, a2, a3, a4, a5, hbk, Stage.val, Stage.cells, Try.results44]
    try simp
    try exact .same _
  · rw [show stageOk p s = true by simp [stageOk, inS_iff.2 (show 1 ≤ s.wait ∧ s.wait ≤ 100000 by omega), inS_iff.2 (show 1 ≤ s.prio ∧ s.prio ≤ 3 by omega)]; omega] at hin ⊢
    refine IWp.seq ?_
    refine IWp.seq ?_
    refine IWp.run [4, 8, 9, 159] ?_
    simp [go_sem, -getElem?_pos, -List.map_take, -List.map_drop, List.getElem?_cons_zero, List.getElem?_cons_succ, Go.IntWalk.iteOmega, Go.IntWalk.toNatUp, hlt, hK, g, a1, a2, a3, a4, a5, hbk, wi, Stage.val, Stage.cells]
    refine IWp.cond ?_
    simp [go_sem, -getElem?_pos, -List.map_take, -List.map_drop, List.getElem?_cons_zero, List.getElem?_cons_succ, Go.IntWalk.iteOmega, Go.IntWalk.toNatUp, hlt, hK, g, a1, a2, a3, a4, a5, hbk, wi, Stage.val, Stage.cells]
    refine IWp.trim [4, 8, 9] (IWp.skip ?_)
    simp [go_sem, -getElem?_pos, -List.map_take, -List.map_drop, List.getElem?_cons_zero, List.getElem?_cons_succ, Go.IntWalk.iteOmega, Go.IntWalk.toNatUp, hlt, hK, g, a1, a2, a3, a4, a5, hbk, wi, Stage.val, Stage.cells]
    refine IWp.seq ?_
    refine IWp.block ?_
    refine IWp.seq ?_
    refine IWp.run [4, 8, 9, 10] ?_
    simp [go_sem, -getElem?_pos, -List.map_take, -List.map_drop, List.getElem?_cons_zero, List.getElem?_cons_succ, Go.IntWalk.iteOmega, Go.IntWalk.toNatUp, hlt, hK, g, a1, a2, a3, a4, a5, hbk, wi, Stage.val, Stage.cells]
    refine IWp.seq ?_
    refine IWp.seq ?_
    refine IWp.run [4, 9, 10, 190] ?_
    simp [go_sem, -getElem?_pos, -List.map_take, -List.map_drop, List.getElem?_cons_zero, List.getElem?_cons_succ, Go.IntWalk.iteOmega, Go.IntWalk.toNatUp, hlt, hK, g, a1, a2, a3, a4, a5, hbk, wi, Stage.val, Stage.cells]
    refine IWp.cond ?_
    simp [go_sem, -getElem?_pos, -List.map_take, -List.map_drop, List.getElem?_cons_zero, List.getElem?_cons_succ, Go.IntWalk.iteOmega, Go.IntWalk.toNatUp, hlt, hK, g, a1, a2, a3, a4, a5, hbk, wi, Stage.val, Stage.cells]
    refine IWp.trim [4, 9, 10] (IWp.skip ?_)
    simp [go_sem, -getElem?_pos, -List.map_take, -List.map_drop, List.getElem?_cons_zero, List.getElem?_cons_succ, Go.IntWalk.iteOmega, Go.IntWalk.toNatUp, hlt, hK, g, a1, a2, a3, a4, a5, hbk, wi, Stage.val, Stage.cells]
    refine IWp.run [4, 8, 9] ?_
    simp [go_sem, -getElem?_pos, -List.map_take, -List.map_drop, List.getElem?_cons_zero, List.getElem?_cons_succ, Go.IntWalk.iteOmega, Go.IntWalk.toNatUp, hlt, hK, g, a1, a2, a3, a4, a5, hbk, wi, Stage.val, Stage.cells]
    refine IWp.run [4, 8, 9] ?_
    simp [go_sem, -getElem?_pos, -List.map_take, -List.map_drop, List.getElem?_cons_zero, List.getElem?_cons_succ, Go.IntWalk.iteOmega, Go.IntWalk.toNatUp, hlt, hK, g, a1, a2, a3, a4, a5, hbk, wi, Stage.val, Stage.cells]
    exact ⟨r.stages.length - (i + 1), by omega, i + 1, rfl, by omega, by rw [hg], s.prio, ⟨rfl, by omega⟩, by simp⟩

theorem slotR (H : Heap) (c : Config) (L : List Int) (hR : c.rules.length ≤ 1000000) (hl : L.length ≤ 1000000) : ICalls Try.prog 45 [c.val, ints .i64 L] H fun v H' => v = .bool (!decide (SlotOk c.rules.length L)) ∧ H' = H := by
  refine ICalls.ans (by simp [go_sem]) fun H => IBody.calls (by kernel_rfl) ?_
  refine IBody.of Try.func45 rfl (by rw [Try.ntmps45]; simp) ?_
  rw [Try.ntmps45]
  refine IWp.seq ?_
  refine IWp.run [1, 2] ?_
  simp [go_sem, -getElem?_pos, -List.map_take, -List.map_drop, List.getElem?_cons_zero, List.getElem?_cons_succ, Go.IntWalk.iteOmega, Go.IntWalk.toNatUp, Config.val, Config.cells]
  refine IWp.seq ?_
  refine IWp.seq ?_
  refine IWp.run [1, 2, 5] ?_
  simp [go_sem, -getElem?_pos, -List.map_take, -List.map_drop, List.getElem?_cons_zero, List.getElem?_cons_succ, Go.IntWalk.iteOmega, Go.IntWalk.toNatUp, Config.val, Config.cells]
  refine IWp.block ?_
  -- LOOP live [1, 2, 5]
  have hg := Heap.get_alloc_new H c.cells
  simp only [Config.cells] at hg
  generalize H.next = b at *
  generalize H.alloc _ = H1 at *
  refine IWp.loop (fun q e K => ∃ i : Nat, q = L.length - i ∧ i ≤ L.length ∧ K = H1 ∧ e = [(1, ints .i64 L), (2, ptrTo b 0), (5, .int .i64 (i : Int))] ∧ SlotOk c.rules.length (L.take i)) L.length ⟨0, rfl, Nat.zero_le _, rfl, by simp [go_sem], SlotOk.nil _⟩ ?_
  rintro q e K ⟨i, rfl, hi, rfl, rfl, hin⟩
  have wi := IntWalk.i64_in ((i : Int) + 1) (by omega)
  by_cases hlt : i < L.length
  case neg =>
    rw [List.take_of_length_le (by omega)] at hin
    rw [decide_eq_true hin]
    refine IWp.seq ?_
    refine IWp.seq ?_
    refine IWp.run [1, 2, 5, 10] ?_
    simp [go_sem, -getElem?_pos, -List.map_take, -List.map_drop, List.getElem?_cons_zero, List.getElem?_cons_succ, Go.IntWalk.iteOmega, Go.IntWalk.toNatUp, hlt]
    refine IWp.cond ?_
    simp [go_sem, -getElem?_pos, -List.map_take, -List.map_drop, List.getElem?_cons_zero, List.getElem?_cons_succ, Go.IntWalk.iteOmega, Go.IntWalk.toNatUp, hlt]
    refine IWp.trim [] (IWp.exit ?_)
    simp [go_sem, -getElem?_pos, -List.map_take, -List.map_drop, List.getElem?_cons_zero, List.getElem?_cons_succ, Go.IntWalk.iteOmega, Go.IntWalk.toNatUp, hlt]
    refine IWp.seq ?_
    refine IWp.run [4] ?_
    simp [go_sem, -getElem?_pos, -List.map_take, -List.map_drop, List.getElem?_cons_zero, List.getElem?_cons_succ, Go.IntWalk.iteOmega, Go.IntWalk.toNatUp, hlt]
    refine IWp.ret ?_
    simp [go_sem, -getElem?_pos, -List.map_take, -List.map_drop, List.getElem?_cons_zero, List.getElem?_cons_succ, Go.IntWalk.iteOmega, Go.IntWalk.toNatUp, hlt, Try.results45]
    try exact .same _
  have g : L[i]? = some L[i] := List.getElem?_eq_getElem hlt
  have hsn := SlotOk.snoc (R := c.rules.length) hlt
  have hno : ¬ SlotOk c.rules.length (L.take (i + 1)) → ¬ SlotOk c.rules.length L := fun h h2 => h (h2.take _)
  generalize L[i] = x at *
  by_cases h1 : x < 0
  · rw [decide_eq_false (hno fun h => by have := (hsn.1 h).2.1; omega)]
    refine IWp.seq ?_
    refine IWp.seq ?_
    refine IWp.run [1, 2, 5, 10] ?_
    simp [go_sem, -getElem?_pos, -List.map_take, -List.map_drop, List.getElem?_cons_zero, List.getElem?_cons_succ, Go.IntWalk.iteOmega, Go.IntWalk.toNatUp, hg, hlt, g, h1]
    refine IWp.cond ?_
    simp [go_sem, -getElem?_pos, -List.map_take, -List.map_drop, List.getElem?_cons_zero, List.getElem?_cons_succ, Go.IntWalk.iteOmega, Go.IntWalk.toNatUp, hg, hlt, g, h1]
    refine IWp.trim [1, 2, 5] (IWp.skip ?_)
    simp [go_sem, -getElem?_pos, -List.map_take, -List.map_drop, List.getElem?_cons_zero, List.getElem?_cons_succ, Go.IntWalk.iteOmega, Go.IntWalk.toNatUp, hg, hlt, g, h1]
    refine IWp.seq ?_
    refine IWp.block ?_
    refine IWp.seq ?_
    refine IWp.seq ?_
    refine IWp.read [1, 2, 5, 27] follows (by kernel_rfl) ?_
    simp [go_sem, -getElem?_pos, -List.map_take, -List.map_drop, List.getElem?_cons_zero, List.getElem?_cons_succ, Go.IntWalk.iteOmega, Go.IntWalk.toNatUp, hg, hlt, g, h1]
    refine IWp.cond ?_
    simp [go_sem, -getElem?_pos, -List.map_take, -List.map_drop, List.getElem?_cons_zero, List.getElem?_cons_succ, Go.IntWalk.iteOmega, Go.IntWalk.toNatUp, hg, hlt, g, h1]
    refine IWp.seq ?_
    refine IWp.run [4] ?_
    simp [go_sem, -getElem?_pos, -List.map_take, -List.map_drop, List.getElem?_cons_zero, List.getElem?_cons_succ, Go.IntWalk.iteOmega, Go.IntWalk.toNatUp, hg, hlt, g, h1]
    refine IWp.ret ?_
    simp [go_sem, -getElem?_pos, -List.map_take, -List.map_drop, List.getElem?_cons_zero, List.getElem?_cons_succ, Go.IntWalk.iteOmega, Go.IntWalk.toNatUp, hg, hlt, g, h1, Try.results45]
    try exact .same _
  by_cases h1b : (c.rules.length : Int) ≤ x
  · rw [decide_eq_false (hno fun h => by have := (hsn.1 h).2.1; omega)]
    refine IWp.seq ?_
    refine IWp.seq ?_
    refine IWp.run [1, 2, 5, 10] ?_
    simp [go_sem, -getElem?_pos, -List.map_take, -List.map_drop, List.getElem?_cons_zero, List.getElem?_cons_succ, Go.IntWalk.iteOmega, Go.IntWalk.toNatUp, hg, hlt, g, h1, h1b]
    refine IWp.cond ?_
    simp [go_sem, -getElem?_pos, -List.map_take, -List.map_drop, List.getElem?_cons_zero, List.getElem?_cons_succ, Go.IntWalk.iteOmega, Go.IntWalk.toNatUp, hg, hlt, g, h1, h1b]
    refine IWp.trim [1, 2, 5] (IWp.skip ?_)
    simp [go_sem, -getElem?_pos, -List.map_take, -List.map_drop, List.getElem?_cons_zero, List.getElem?_cons_succ, Go.IntWalk.iteOmega, Go.IntWalk.toNatUp, hg, hlt, g, h1, h1b]
    refine IWp.seq ?_
    refine IWp.block ?_
    refine IWp.seq ?_
    refine IWp.seq ?_
    refine IWp.read [1, 2, 5, 27] follows (by kernel_rfl) ?_
    simp [go_sem, -getElem?_pos, -List.map_take, -List.map_drop, List.getElem?_cons_zero, List.getElem?_cons_succ, Go.IntWalk.iteOmega, Go.IntWalk.toNatUp, hg, hlt, g, h1, h1b]
    refine IWp.cond ?_
    simp [go_sem, -getElem?_pos, -List.map_take, -List.map_drop, List.getElem?_cons_zero, List.getElem?_cons_succ, Go.IntWalk.iteOmega, Go.IntWalk.toNatUp, hg, hlt, g, h1, h1b]
    refine IWp.seq ?_
    refine IWp.run [4] ?_
    simp [go_sem, -getElem?_pos, -List.map_take, -List.map_drop, List.getElem?_cons_zero, List.getElem?_cons_succ, Go.IntWalk.iteOmega, Go.IntWalk.toNatUp, hg, hlt, g, h1, h1b]
    refine IWp.ret ?_
    simp [go_sem, -getElem?_pos, -List.map_take, -List.map_drop, List.getElem?_cons_zero, List.getElem?_cons_succ, Go.IntWalk.iteOmega, Go.IntWalk.toNatUp, hg, hlt, g, h1, h1b, Try.results45]
    try exact .same _
  refine IWp.seq ?_
  refine IWp.seq ?_
  refine IWp.run [1, 2, 5, 10] ?_
  simp [go_sem, -getElem?_pos, -List.map_take, -List.map_drop, List.getElem?_cons_zero, List.getElem?_cons_succ, Go.IntWalk.iteOmega, Go.IntWalk.toNatUp, hg, hlt, g, h1, h1b]
  refine IWp.cond ?_
  simp [go_sem, -getElem?_pos, -List.map_take, -List.map_drop, List.getElem?_cons_zero, List.getElem?_cons_succ, Go.IntWalk.iteOmega, Go.IntWalk.toNatUp, hg, hlt, g, h1, h1b]
  refine IWp.trim [1, 2, 5] (IWp.skip ?_)
  simp [go_sem, -getElem?_pos, -List.map_take, -List.map_drop, List.getElem?_cons_zero, List.getElem?_cons_succ, Go.IntWalk.iteOmega, Go.IntWalk.toNatUp, hg, hlt, g, h1, h1b]
  refine IWp.seq ?_
  refine IWp.block ?_
  refine IWp.seq ?_
  refine IWp.seq ?_
  refine IWp.read [1, 2, 5, 27] follows (by kernel_rfl) ?_
  simp [go_sem, -getElem?_pos, -List.map_take, -List.map_drop, List.getElem?_cons_zero, List.getElem?_cons_succ, Go.IntWalk.iteOmega, Go.IntWalk.toNatUp, hg, hlt, g, h1, h1b]
  refine IWp.cond ?_
  simp [go_sem, -getElem?_pos, -List.map_take, -List.map_drop, List.getElem?_cons_zero, List.getElem?_cons_succ, Go.IntWalk.iteOmega, Go.IntWalk.toNatUp, hg, hlt, g, h1, h1b]
  refine IWp.trim [1, 2, 5] (IWp.skip ?_)
  simp [go_sem, -getElem?_pos, -List.map_take, -List.map_drop, List.getElem?_cons_zero, List.getElem?_cons_succ, Go.IntWalk.iteOmega, Go.IntWalk.toNatUp, hg, hlt, g, h1, h1b]
  refine IWp.seq ?_
  refine IWp.run [1, 2, 5, 6] ?_
  simp [go_sem, -getElem?_pos, -List.map_take, -List.map_drop, List.getElem?_cons_zero, List.getElem?_cons_succ, Go.IntWalk.iteOmega, Go.IntWalk.toNatUp, hg, hlt, g, h1, h1b]
  refine IWp.block ?_
  -- LOOP live [1, 2, 5, 6]
  refine IWp.loop (fun q e K2 => ∃ k : Nat, q = i - k ∧ k ≤ i ∧ K2 = K ∧ e = [(1, ints .i64 L), (2, ptrTo b 0), (5, .int .i64 (i : Int)), (6, .int .i64 (k : Int))] ∧ ¬ x ∈ L.take k) i ⟨0, rfl, Nat.zero_le _, rfl, by simp [go_sem], by simp⟩ ?_
  rintro q e K2 ⟨k, rfl, hk, rfl, rfl, hnk⟩
  by_cases hlk : k < i
  · have hkl : k < L.length := by omega
    have gk : L[k]? = some L[k] := List.getElem?_eq_getElem hkl
    have hmk : L[k] ∈ L.take i := List.mem_take_iff_getElem.2 ⟨k, by omega, rfl⟩
    have hsk : x ∈ L.take (k + 1) ↔ x ∈ L.take k ∨ x = L[k] := by rw [List.take_succ_eq_append_getElem hkl, List.mem_append, List.mem_singleton]
    generalize L[k] = y at *
    have w2 := IntWalk.i64_in ((k : Int) + 1) (by omega)
    by_cases he : y = x
    · subst he
      rw [decide_eq_false (hno fun h => (hsn.1 h).2.2 hmk)]
      refine IWp.seq ?_
      refine IWp.seq ?_
      refine IWp.run [1, 2, 5, 6, 30] ?_
      simp [go_sem, -getElem?_pos, -List.map_take, -List.map_drop, List.getElem?_cons_zero, List.getElem?_cons_succ, Go.IntWalk.iteOmega, Go.IntWalk.toNatUp, hg, g, gk, hlt, hlk, hkl]
      refine IWp.cond ?_
      simp [go_sem, -getElem?_pos, -List.map_take, -List.map_drop, List.getElem?_cons_zero, List.getElem?_cons_succ, Go.IntWalk.iteOmega, Go.IntWalk.toNatUp, hg, g, gk, hlt, hlk, hkl]
      refine IWp.trim [1, 2, 5, 6] (IWp.skip ?_)
      simp [go_sem, -getElem?_pos, -List.map_take, -List.map_drop, List.getElem?_cons_zero, List.getElem?_cons_succ, Go.IntWalk.iteOmega, Go.IntWalk.toNatUp, hg, g, gk, hlt, hlk, hkl]
      refine IWp.seq ?_
      refine IWp.block ?_
      refine IWp.seq ?_
      refine IWp.read [1, 2, 5, 6, 41] follows (by kernel_rfl) ?_
      simp [go_sem, -getElem?_pos, -List.map_take, -List.map_drop, List.getElem?_cons_zero, List.getElem?_cons_succ, Go.IntWalk.iteOmega, Go.IntWalk.toNatUp, hg, g, gk, hlt, hlk, hkl]
      refine IWp.cond ?_
      simp [go_sem, -getElem?_pos, -List.map_take, -List.map_drop, List.getElem?_cons_zero, List.getElem?_cons_succ, Go.IntWalk.iteOmega, Go.IntWalk.toNatUp, hg, g, gk, hlt, hlk, hkl]
      refine IWp.seq ?_
      refine IWp.run [4] ?_
      simp [go_sem, -getElem?_pos, -List.map_take, -List.map_drop, List.getElem?_cons_zero, List.getElem?_cons_succ, Go.IntWalk.iteOmega, Go.IntWalk.toNatUp, hg, g, gk, hlt, hlk, hkl]
      refine IWp.ret ?_
      simp [go_sem, -getElem?_pos, -List.map_take, -List.map_drop, List.getElem?_cons_zero, List.getElem?_cons_succ, Go.IntWalk.iteOmega, Go.IntWalk.toNatUp, hg, g, gk, hlt, hlk, hkl, Try.results45]
      try exact .same _
    · skip
      refine IWp.seq ?_
      refine IWp.seq ?_
      refine IWp.run [1, 2, 5, 6, 30] ?_
      simp [go_sem, -getElem?_pos, -List.map_take, -List.map_drop, List.getElem?_cons_zero, List.getElem?_cons_succ, Go.IntWalk.iteOmega, Go.IntWalk.toNatUp, hg, g, gk, hlt, hlk, hkl, he, w2]
      refine IWp.cond ?_
      simp [go_sem, -getElem?_pos, -List.map_take, -List.map_drop, List.getElem?_cons_zero, List.getElem?_cons_succ, Go.IntWalk.iteOmega, Go.IntWalk.toNatUp, hg, g, gk, hlt, hlk, hkl, he, w2]
      refine IWp.trim [1, 2, 5, 6] (IWp.skip ?_)
      simp [go_sem, -getElem?_pos, -List.map_take, -List.map_drop, List.getElem?_cons_zero, List.getElem?_cons_succ, Go.IntWalk.iteOmega, Go.IntWalk.toNatUp, hg, g, gk, hlt, hlk, hkl, he, w2]
      refine IWp.seq ?_
      refine IWp.block ?_
      refine IWp.seq ?_
      refine IWp.read [1, 2, 5, 6, 41] follows (by kernel_rfl) ?_
      simp [go_sem, -getElem?_pos, -List.map_take, -List.map_drop, List.getElem?_cons_zero, List.getElem?_cons_succ, Go.IntWalk.iteOmega, Go.IntWalk.toNatUp, hg, g, gk, hlt, hlk, hkl, he, w2]
      refine IWp.cond ?_
      simp [go_sem, -getElem?_pos, -List.map_take, -List.map_drop, List.getElem?_cons_zero, List.getElem?_cons_succ, Go.IntWalk.iteOmega, Go.IntWalk.toNatUp, hg, g, gk, hlt, hlk, hkl, he, w2]
      refine IWp.trim [1, 2, 5, 6] (IWp.skip ?_)
      simp [go_sem, -getElem?_pos, -List.map_take, -List.map_drop, List.getElem?_cons_zero, List.getElem?_cons_succ, Go.IntWalk.iteOmega, Go.IntWalk.toNatUp, hg, g, gk, hlt, hlk, hkl, he, w2]
      refine IWp.run [1, 2, 5, 6] ?_
      simp [go_sem, -getElem?_pos, -List.map_take, -List.map_drop, List.getElem?_cons_zero, List.getElem?_cons_succ, Go.IntWalk.iteOmega, Go.IntWalk.toNatUp, hg, g, gk, hlt, hlk, hkl, he, w2]
      exact ⟨i - (k + 1), by omega, k + 1, rfl, by omega, by omega, fun h => (hsk.1 h).elim hnk (fun e => he e.symm)⟩
  · rw [show k = i by omega] at hnk
    refine IWp.seq ?_
    refine IWp.seq ?_
    refine IWp.run [1, 2, 5, 6, 30] ?_
    simp [go_sem, -getElem?_pos, -List.map_take, -List.map_drop, List.getElem?_cons_zero, List.getElem?_cons_succ, Go.IntWalk.iteOmega, Go.IntWalk.toNatUp, hg, hlk, wi]
    refine IWp.cond ?_
    simp [go_sem, -getElem?_pos, -List.map_take, -List.map_drop, List.getElem?_cons_zero, List.getElem?_cons_succ, Go.IntWalk.iteOmega, Go.IntWalk.toNatUp, hg, hlk, wi]
    refine IWp.trim [1, 2, 5] (IWp.exit ?_)
    simp [go_sem, -getElem?_pos, -List.map_take, -List.map_drop, List.getElem?_cons_zero, List.getElem?_cons_succ, Go.IntWalk.iteOmega, Go.IntWalk.toNatUp, hg, hlk, wi]
    refine IWp.run [1, 2, 5] ?_
    simp [go_sem, -getElem?_pos, -List.map_take, -List.map_drop, List.getElem?_cons_zero, List.getElem?_cons_succ, Go.IntWalk.iteOmega, Go.IntWalk.toNatUp, hg, hlk, wi]
    exact ⟨L.length - (i + 1), by omega, i + 1, rfl, by omega, by omega, hsn.2 ⟨hin, by omega, hnk⟩⟩

end Go.Proofs.Ytmiinclnpcokkaa.I

