/- What must hold of a rule's stages, and of a slot. No condition. -/
import Derived.Test.YtmiinclnpcokkaaGCheck
import Derived.Test.YtmiinclnpcokkaaGTable
namespace Go.Proofs.Ytmiinclnpcokkaa.I
open Go Go.RowKit
set_option linter.unusedVariables false
set_option linter.unusedSimpArgs false

theorem stagesL_cons (p : Int) (s : Stage) (l : List Stage) : stagesL p (s :: l) = (stageOk p s && stagesL s.prio l) := rfl
theorem stagesC (H : Heap) (r : Rule) (hl : r.stages.length ≤ 1000000) : ICalls Try.prog 62 [r.val] H fun v H' => v = .bool (stagesB r) ∧ H' = H := by
  refine ICalls.ans (by simp [go_sem]) fun H => IBody.calls (by kernel_rfl) ?_
  unfold stagesB
  by_cases h4 : r.stages.length ≤ 4
  case neg =>
    rw [decide_eq_false h4]
    refine IBody.of Try.func62 rfl (by rw [Try.ntmps62]; simp) ?_
    rw [Try.ntmps62]
    refine IWp.seq ?_
    refine IWp.run [1] ?_
    simp [go_sem, -getElem?_pos, -List.map_take, -List.map_drop, List.getElem?_cons_zero, List.getElem?_cons_succ, Go.IntWalk.iteOmega, Go.IntWalk.toNatUp, Rule.val, Rule.cells, show (4 : Int) < r.stages.length by omega, show 4 < r.stages.length by omega]
    refine IWp.seq ?_
    refine IWp.seq ?_
    refine IWp.run [1, 9] ?_
    simp [go_sem, -getElem?_pos, -List.map_take, -List.map_drop, List.getElem?_cons_zero, List.getElem?_cons_succ, Go.IntWalk.iteOmega, Go.IntWalk.toNatUp, Rule.val, Rule.cells, show (4 : Int) < r.stages.length by omega, show 4 < r.stages.length by omega]
    refine IWp.cond ?_
    simp [go_sem, -getElem?_pos, -List.map_take, -List.map_drop, List.getElem?_cons_zero, List.getElem?_cons_succ, Go.IntWalk.iteOmega, Go.IntWalk.toNatUp, Rule.val, Rule.cells, show (4 : Int) < r.stages.length by omega, show 4 < r.stages.length by omega]
    refine IWp.seq ?_
    refine IWp.run [2] ?_
    simp [go_sem, -getElem?_pos, -List.map_take, -List.map_drop, List.getElem?_cons_zero, List.getElem?_cons_succ, Go.IntWalk.iteOmega, Go.IntWalk.toNatUp, Rule.val, Rule.cells, show (4 : Int) < r.stages.length by omega, show 4 < r.stages.length by omega]
    refine IWp.ret ?_
    simp [go_sem, -getElem?_pos, -List.map_take, -List.map_drop, List.getElem?_cons_zero, List.getElem?_cons_succ, Go.IntWalk.iteOmega, Go.IntWalk.toNatUp, Rule.val, Rule.cells, show (4 : Int) < r.stages.length by omega, show 4 < r.stages.length by omega, Try.results62]
    try exact .same _
  rw [decide_eq_true h4, Bool.true_and]
  refine IBody.of Try.func62 rfl (by rw [Try.ntmps62]; simp) ?_
  rw [Try.ntmps62]
  refine IWp.seq ?_
  refine IWp.run [1] ?_
  simp [go_sem, -getElem?_pos, -List.map_take, -List.map_drop, List.getElem?_cons_zero, List.getElem?_cons_succ, Go.IntWalk.iteOmega, Go.IntWalk.toNatUp, Rule.val, Rule.cells, show ¬ (4 : Int) < r.stages.length by omega, show ¬ 4 < r.stages.length by omega]
  refine IWp.seq ?_
  refine IWp.seq ?_
  refine IWp.run [1, 9] ?_
  simp [go_sem, -getElem?_pos, -List.map_take, -List.map_drop, List.getElem?_cons_zero, List.getElem?_cons_succ, Go.IntWalk.iteOmega, Go.IntWalk.toNatUp, Rule.val, Rule.cells, show ¬ (4 : Int) < r.stages.length by omega, show ¬ 4 < r.stages.length by omega]
  refine IWp.cond ?_
  simp [go_sem, -getElem?_pos, -List.map_take, -List.map_drop, List.getElem?_cons_zero, List.getElem?_cons_succ, Go.IntWalk.iteOmega, Go.IntWalk.toNatUp, Rule.val, Rule.cells, show ¬ (4 : Int) < r.stages.length by omega, show ¬ 4 < r.stages.length by omega]
  refine IWp.trim [1] (IWp.skip ?_)
  simp [go_sem, -getElem?_pos, -List.map_take, -List.map_drop, List.getElem?_cons_zero, List.getElem?_cons_succ, Go.IntWalk.iteOmega, Go.IntWalk.toNatUp, Rule.val, Rule.cells, show ¬ (4 : Int) < r.stages.length by omega, show ¬ 4 < r.stages.length by omega]
  refine IWp.seq ?_
  refine IWp.run [1, 3] ?_
  simp [go_sem, -getElem?_pos, -List.map_take, -List.map_drop, List.getElem?_cons_zero, List.getElem?_cons_succ, Go.IntWalk.iteOmega, Go.IntWalk.toNatUp, Rule.val, Rule.cells, show ¬ (4 : Int) < r.stages.length by omega, show ¬ 4 < r.stages.length by omega]
  refine IWp.seq ?_
  refine IWp.seq ?_
  refine IWp.run [3, 13, 14, 15] ?_
  simp [go_sem, -getElem?_pos, -List.map_take, -List.map_drop, List.getElem?_cons_zero, List.getElem?_cons_succ, Go.IntWalk.iteOmega, Go.IntWalk.toNatUp, Rule.val, Rule.cells, show ¬ (4 : Int) < r.stages.length by omega, show ¬ 4 < r.stages.length by omega]
  refine IWp.block ?_
  -- LOOP live [3, 13, 14, 15]
  generalize H.alloc _ = H1
  refine IWp.loop (fun q e K => ∃ (i : Nat) (p : Int), q = r.stages.length - i ∧ i ≤ r.stages.length ∧ e = [(3, .int .u8 p), (13, frow 2 0 (r.stages.map Stage.val)), (14, .int .i64 r.stages.length), (15, .int .i64 (i : Int))] ∧ stagesL r.prio r.stages = stagesL p (r.stages.drop i)) r.stages.length ⟨0, r.prio, rfl, Nat.zero_le _, by simp [go_sem], by rw [List.drop_zero]⟩ ?_
  rintro q e K ⟨i, p, rfl, hi, rfl, hin⟩
  rw [hin]
  have wi := IntWalk.i64_in ((i : Int) + 1) (by omega)
  by_cases hlt : i < r.stages.length
  case neg =>
    rw [List.drop_of_length_le (by omega)]
    refine IWp.seq ?_
    refine IWp.run [3, 13, 14, 15, 16] ?_
    simp [go_sem, -getElem?_pos, -List.map_take, -List.map_drop, List.getElem?_cons_zero, List.getElem?_cons_succ, Go.IntWalk.iteOmega, Go.IntWalk.toNatUp, hlt]
    refine IWp.seq ?_
    refine IWp.cond ?_
    simp [go_sem, -getElem?_pos, -List.map_take, -List.map_drop, List.getElem?_cons_zero, List.getElem?_cons_succ, Go.IntWalk.iteOmega, Go.IntWalk.toNatUp, hlt]
    refine IWp.trim [] (IWp.exit ?_)
    simp [go_sem, -getElem?_pos, -List.map_take, -List.map_drop, List.getElem?_cons_zero, List.getElem?_cons_succ, Go.IntWalk.iteOmega, Go.IntWalk.toNatUp, hlt]
    refine IWp.seq ?_
    refine IWp.run [2] ?_
    simp [go_sem, -getElem?_pos, -List.map_take, -List.map_drop, List.getElem?_cons_zero, List.getElem?_cons_succ, Go.IntWalk.iteOmega, Go.IntWalk.toNatUp, hlt]
    refine IWp.ret ?_
    simp [go_sem, -getElem?_pos, -List.map_take, -List.map_drop, List.getElem?_cons_zero, List.getElem?_cons_succ, Go.IntWalk.iteOmega, Go.IntWalk.toNatUp, hlt, Try.results62]
    try exact .same _
  have g : (r.stages.map Stage.val)[i]? = some (r.stages[i]).val := by simp [hlt]
  rw [List.drop_eq_getElem_cons hlt, stagesL_cons]
  rw [List.drop_eq_getElem_cons hlt, stagesL_cons] at hin
  generalize r.stages[i] = s at *
  have c1 := fun K => withinL K s.wait 1 100000
  have c2 := fun K => priorityC K s.prio
  unfold stageOk at hin ⊢
  generalize inS s.wait 1 100000 = x1 at *
  generalize inS s.prio 1 3 = x2 at *
  cases x1
  · skip
    refine IWp.seq ?_
    refine IWp.run [3, 13, 14, 15, 16] ?_
    simp [go_sem, -getElem?_pos, -List.map_take, -List.map_drop, List.getElem?_cons_zero, List.getElem?_cons_succ, Go.IntWalk.iteOmega, Go.IntWalk.toNatUp, hlt, g, Stage.val, Stage.cells]
    refine IWp.seq ?_
    refine IWp.cond ?_
    simp [go_sem, -getElem?_pos, -List.map_take, -List.map_drop, List.getElem?_cons_zero, List.getElem?_cons_succ, Go.IntWalk.iteOmega, Go.IntWalk.toNatUp, hlt, g, Stage.val, Stage.cells]
    refine IWp.trim [3, 13, 14, 15] (IWp.skip ?_)
    simp [go_sem, -getElem?_pos, -List.map_take, -List.map_drop, List.getElem?_cons_zero, List.getElem?_cons_succ, Go.IntWalk.iteOmega, Go.IntWalk.toNatUp, hlt, g, Stage.val, Stage.cells]
    refine IWp.seq ?_
    refine IWp.block ?_
    refine IWp.seq ?_
    refine IWp.run [3, 5, 13, 14, 15] ?_
    simp [go_sem, -getElem?_pos, -List.map_take, -List.map_drop, List.getElem?_cons_zero, List.getElem?_cons_succ, Go.IntWalk.iteOmega, Go.IntWalk.toNatUp, hlt, g, Stage.val, Stage.cells]
    refine IWp.seq ?_
    refine IWp.seq ?_
    refine IWp.run [5, 13, 14, 15, 34] ?_
    simp [go_sem, -getElem?_pos, -List.map_take, -List.map_drop, List.getElem?_cons_zero, List.getElem?_cons_succ, Go.IntWalk.iteOmega, Go.IntWalk.toNatUp, hlt, g, Stage.val, Stage.cells]
    refine ICalls.then (c1 _) ?_
    try simp [go_sem, -getElem?_pos, -List.map_take, -List.map_drop, List.getElem?_cons_zero, List.getElem?_cons_succ, Go.IntWalk.iteOmega, Go.IntWalk.toNatUp, hlt, g, Stage.val, Stage.cells]
    refine IWp.cond ?_
    simp [go_sem, -getElem?_pos, -List.map_take, -List.map_drop, List.getElem?_cons_zero, List.getElem?_cons_succ, Go.IntWalk.iteOmega, Go.IntWalk.toNatUp, hlt, g, Stage.val, Stage.cells]
    refine IWp.seq ?_
    refine IWp.run [2] ?_
    simp [go_sem, -getElem?_pos, -List.map_take, -List.map_drop, List.getElem?_cons_zero, List.getElem?_cons_succ, Go.IntWalk.iteOmega, Go.IntWalk.toNatUp, hlt, g, Stage.val, Stage.cells]
    refine IWp.ret ?_
    simp [go_sem, -getElem?_pos, -List.map_take, -List.map_drop, List.getElem?_cons_zero, List.getElem?_cons_succ, Go.IntWalk.iteOmega, Go.IntWalk.toNatUp, hlt, g, Stage.val, Stage.cells, Try.results62]
    try exact .same _
  cases x2
  · skip
    refine IWp.seq ?_
    refine IWp.run [3, 13, 14, 15, 16] ?_
    simp [go_sem, -getElem?_pos, -List.map_take, -List.map_drop, List.getElem?_cons_zero, List.getElem?_cons_succ, Go.IntWalk.iteOmega, Go.IntWalk.toNatUp, hlt, g, Stage.val, Stage.cells]
    refine IWp.seq ?_
    refine IWp.cond ?_
    simp [go_sem, -getElem?_pos, -List.map_take, -List.map_drop, List.getElem?_cons_zero, List.getElem?_cons_succ, Go.IntWalk.iteOmega, Go.IntWalk.toNatUp, hlt, g, Stage.val, Stage.cells]
    refine IWp.trim [3, 13, 14, 15] (IWp.skip ?_)
    simp [go_sem, -getElem?_pos, -List.map_take, -List.map_drop, List.getElem?_cons_zero, List.getElem?_cons_succ, Go.IntWalk.iteOmega, Go.IntWalk.toNatUp, hlt, g, Stage.val, Stage.cells]
    refine IWp.seq ?_
    refine IWp.block ?_
    refine IWp.seq ?_
    refine IWp.run [3, 5, 13, 14, 15] ?_
    simp [go_sem, -getElem?_pos, -List.map_take, -List.map_drop, List.getElem?_cons_zero, List.getElem?_cons_succ, Go.IntWalk.iteOmega, Go.IntWalk.toNatUp, hlt, g, Stage.val, Stage.cells]
    refine IWp.seq ?_
    refine IWp.seq ?_
    refine IWp.run [5, 13, 14, 15, 34] ?_
    simp [go_sem, -getElem?_pos, -List.map_take, -List.map_drop, List.getElem?_cons_zero, List.getElem?_cons_succ, Go.IntWalk.iteOmega, Go.IntWalk.toNatUp, hlt, g, Stage.val, Stage.cells]
    refine ICalls.then (c1 _) ?_
    try simp [go_sem, -getElem?_pos, -List.map_take, -List.map_drop, List.getElem?_cons_zero, List.getElem?_cons_succ, Go.IntWalk.iteOmega, Go.IntWalk.toNatUp, hlt, g, Stage.val, Stage.cells]
    refine ICalls.then (c2 _) ?_
    try simp [go_sem, -getElem?_pos, -List.map_take, -List.map_drop, List.getElem?_cons_zero, List.getElem?_cons_succ, Go.IntWalk.iteOmega, Go.IntWalk.toNatUp, hlt, g, Stage.val, Stage.cells]
    refine IWp.cond ?_
    simp [go_sem, -getElem?_pos, -List.map_take, -List.map_drop, List.getElem?_cons_zero, List.getElem?_cons_succ, Go.IntWalk.iteOmega, Go.IntWalk.toNatUp, hlt, g, Stage.val, Stage.cells]
    refine IWp.seq ?_
    refine IWp.run [2] ?_
    simp [go_sem, -getElem?_pos, -List.map_take, -List.map_drop, List.getElem?_cons_zero, List.getElem?_cons_succ, Go.IntWalk.iteOmega, Go.IntWalk.toNatUp, hlt, g, Stage.val, Stage.cells]
    refine IWp.ret ?_
    simp [go_sem, -getElem?_pos, -List.map_take, -List.map_drop, List.getElem?_cons_zero, List.getElem?_cons_succ, Go.IntWalk.iteOmega, Go.IntWalk.toNatUp, hlt, g, Stage.val, Stage.cells, Try.results62]
    try exact .same _
  by_cases hp : s.prio < p
  · rw [decide_eq_false (show ¬ p ≤ s.prio by omega)]
    refine IWp.seq ?_
    refine IWp.run [3, 13, 14, 15, 16] ?_
    simp [go_sem, -getElem?_pos, -List.map_take, -List.map_drop, List.getElem?_cons_zero, List.getElem?_cons_succ, Go.IntWalk.iteOmega, Go.IntWalk.toNatUp, hlt, g, hp, Stage.val, Stage.cells]
    refine IWp.seq ?_
    refine IWp.cond ?_
    simp [go_sem, -getElem?_pos, -List.map_take, -List.map_drop, List.getElem?_cons_zero, List.getElem?_cons_succ, Go.IntWalk.iteOmega, Go.IntWalk.toNatUp, hlt, g, hp, Stage.val, Stage.cells]
    refine IWp.trim [3, 13, 14, 15] (IWp.skip ?_)
    simp [go_sem, -getElem?_pos, -List.map_take, -List.map_drop, List.getElem?_cons_zero, List.getElem?_cons_succ, Go.IntWalk.iteOmega, Go.IntWalk.toNatUp, hlt, g, hp, Stage.val, Stage.cells]
    refine IWp.seq ?_
    refine IWp.block ?_
    refine IWp.seq ?_
    refine IWp.run [3, 5, 13, 14, 15] ?_
    simp [go_sem, -getElem?_pos, -List.map_take, -List.map_drop, List.getElem?_cons_zero, List.getElem?_cons_succ, Go.IntWalk.iteOmega, Go.IntWalk.toNatUp, hlt, g, hp, Stage.val, Stage.cells]
    refine IWp.seq ?_
    refine IWp.seq ?_
    refine IWp.run [5, 13, 14, 15, 34] ?_
    simp [go_sem, -getElem?_pos, -List.map_take, -List.map_drop, List.getElem?_cons_zero, List.getElem?_cons_succ, Go.IntWalk.iteOmega, Go.IntWalk.toNatUp, hlt, g, hp, Stage.val, Stage.cells]
    refine ICalls.then (c1 _) ?_
    try simp [go_sem, -getElem?_pos, -List.map_take, -List.map_drop, List.getElem?_cons_zero, List.getElem?_cons_succ, Go.IntWalk.iteOmega, Go.IntWalk.toNatUp, hlt, g, hp, Stage.val, Stage.cells]
    refine ICalls.then (c2 _) ?_
    try simp [go_sem, -getElem?_pos, -List.map_take, -List.map_drop, List.getElem?_cons_zero, List.getElem?_cons_succ, Go.IntWalk.iteOmega, Go.IntWalk.toNatUp, hlt, g, hp, Stage.val, Stage.cells]
    refine IWp.cond ?_
    simp [go_sem, -getElem?_pos, -List.map_take, -List.map_drop, List.getElem?_cons_zero, List.getElem?_cons_succ, Go.IntWalk.iteOmega, Go.IntWalk.toNatUp, hlt, g, hp, Stage.val, Stage.cells]
    refine IWp.seq ?_
    refine IWp.run [2] ?_
    simp [go_sem, -getElem?_pos, -List.map_take, -List.map_drop, List.getElem?_cons_zero, List.getElem?_cons_succ, Go.IntWalk.iteOmega, Go.IntWalk.toNatUp, hlt, g, hp, Stage.val, Stage.cells]
    refine IWp.ret ?_
    simp [go_sem, -getElem?_pos, -List.map_take, -List.map_drop, List.getElem?_cons_zero, List.getElem?_cons_succ, Go.IntWalk.iteOmega, Go.IntWalk.toNatUp, hlt, g, hp, Stage.val, Stage.cells, Try.results62]
    try exact .same _
  · rw [decide_eq_true (show p ≤ s.prio by omega)] at hin
    refine IWp.seq ?_
    refine IWp.run [3, 13, 14, 15, 16] ?_
    simp [go_sem, -getElem?_pos, -List.map_take, -List.map_drop, List.getElem?_cons_zero, List.getElem?_cons_succ, Go.IntWalk.iteOmega, Go.IntWalk.toNatUp, hlt, g, hp, wi, Stage.val, Stage.cells]
    refine IWp.seq ?_
    refine IWp.cond ?_
    simp [go_sem, -getElem?_pos, -List.map_take, -List.map_drop, List.getElem?_cons_zero, List.getElem?_cons_succ, Go.IntWalk.iteOmega, Go.IntWalk.toNatUp, hlt, g, hp, wi, Stage.val, Stage.cells]
    refine IWp.trim [3, 13, 14, 15] (IWp.skip ?_)
    simp [go_sem, -getElem?_pos, -List.map_take, -List.map_drop, List.getElem?_cons_zero, List.getElem?_cons_succ, Go.IntWalk.iteOmega, Go.IntWalk.toNatUp, hlt, g, hp, wi, Stage.val, Stage.cells]
    refine IWp.seq ?_
    refine IWp.block ?_
    refine IWp.seq ?_
    refine IWp.run [3, 5, 13, 14, 15] ?_
    simp [go_sem, -getElem?_pos, -List.map_take, -List.map_drop, List.getElem?_cons_zero, List.getElem?_cons_succ, Go.IntWalk.iteOmega, Go.IntWalk.toNatUp, hlt, g, hp, wi, Stage.val, Stage.cells]
    refine IWp.seq ?_
    refine IWp.seq ?_
    refine IWp.run [5, 13, 14, 15, 34] ?_
    simp [go_sem, -getElem?_pos, -List.map_take, -List.map_drop, List.getElem?_cons_zero, List.getElem?_cons_succ, Go.IntWalk.iteOmega, Go.IntWalk.toNatUp, hlt, g, hp, wi, Stage.val, Stage.cells]
    refine ICalls.then (c1 _) ?_
    try simp [go_sem, -getElem?_pos, -List.map_take, -List.map_drop, List.getElem?_cons_zero, List.getElem?_cons_succ, Go.IntWalk.iteOmega, Go.IntWalk.toNatUp, hlt, g, hp, wi, Stage.val, Stage.cells]
    refine ICalls.then (c2 _) ?_
    try simp [go_sem, -getElem?_pos, -List.map_take, -List.map_drop, List.getElem?_cons_zero, List.getElem?_cons_succ, Go.IntWalk.iteOmega, Go.IntWalk.toNatUp, hlt, g, hp, wi, Stage.val, Stage.cells]
    refine IWp.cond ?_
    simp [go_sem, -getElem?_pos, -List.map_take, -List.map_drop, List.getElem?_cons_zero, List.getElem?_cons_succ, Go.IntWalk.iteOmega, Go.IntWalk.toNatUp, hlt, g, hp, wi, Stage.val, Stage.cells]
    refine IWp.trim [5, 13, 14, 15] (IWp.skip ?_)
    simp [go_sem, -getElem?_pos, -List.map_take, -List.map_drop, List.getElem?_cons_zero, List.getElem?_cons_succ, Go.IntWalk.iteOmega, Go.IntWalk.toNatUp, hlt, g, hp, wi, Stage.val, Stage.cells]
    refine IWp.run [3, 13, 14, 15] ?_
    simp [go_sem, -getElem?_pos, -List.map_take, -List.map_drop, List.getElem?_cons_zero, List.getElem?_cons_succ, Go.IntWalk.iteOmega, Go.IntWalk.toNatUp, hlt, g, hp, wi, Stage.val, Stage.cells]
    refine IWp.run [3, 13, 14, 15] ?_
    simp [go_sem, -getElem?_pos, -List.map_take, -List.map_drop, List.getElem?_cons_zero, List.getElem?_cons_succ, Go.IntWalk.iteOmega, Go.IntWalk.toNatUp, hlt, g, hp, wi, Stage.val, Stage.cells]
    exact ⟨r.stages.length - (i + 1), by omega, i + 1, rfl, by omega, s.prio, ⟨rfl, by omega⟩, by simp [show p ≤ s.prio by omega]⟩

theorem SlotOk.nil (R : Int) : SlotOk R [] := ⟨fun _ h => (by cases h), by simp⟩
theorem SlotOk.snoc {R : Int} {L : List Int} {i : Nat} (h : i < L.length) : SlotOk R (L.take (i + 1)) ↔ SlotOk R (L.take i) ∧ (0 ≤ L[i] ∧ L[i] < R) ∧ ¬ L[i] ∈ L.take i := by
  rw [List.take_succ_eq_append_getElem h]
  unfold SlotOk
  rw [List.nodup_append]
  refine ⟨fun ⟨h1, h2, _, h4⟩ => ⟨⟨fun x hx => h1 x (List.mem_append_left _ hx), h2⟩, h1 _ (List.mem_append_right _ (List.mem_singleton.2 rfl)), fun hm => h4 _ hm _ (List.mem_singleton.2 rfl) rfl⟩, fun ⟨⟨h1, h2⟩, h3, h4⟩ => ⟨fun x hx => ?_, h2, by simp, fun a ha b hb e => ?_⟩⟩
  · rcases List.mem_append.1 hx with hx | hx
    · exact h1 x hx
    · simp at hx; subst hx; exact h3
  · simp at hb; subst hb; subst e; exact h4 ha
theorem SlotOk.take {R : Int} {L : List Int} (h : SlotOk R L) (i : Nat) : SlotOk R (L.take i) := ⟨fun x hx => h.1 x (List.mem_of_mem_take hx), h.2.sublist (List.take_sublist _ _)⟩

theorem slotC (H : Heap) (c : Config) (L : List Int) (hR : c.rules.length ≤ 1000000) (hl : L.length ≤ 1000000) : ICalls Try.prog 64 [c.val, ints .i64 L] H fun v H' => v = .bool (decide (SlotOk c.rules.length L)) ∧ H' = H := by
  refine ICalls.ans (by simp [go_sem]) fun H => IBody.calls (by kernel_rfl) ?_
  refine IBody.of Try.func64 rfl (by rw [Try.ntmps64]; simp) ?_
  rw [Try.ntmps64]
  refine IWp.seq ?_
  refine IWp.run [1, 2] ?_
  simp [go_sem, -getElem?_pos, -List.map_take, -List.map_drop, List.getElem?_cons_zero, List.getElem?_cons_succ, Go.IntWalk.iteOmega, Go.IntWalk.toNatUp, Config.val, Config.cells]
  refine IWp.seq ?_
  refine IWp.seq ?_
  refine IWp.run [1, 2, 7, 8, 9] ?_
  simp [go_sem, -getElem?_pos, -List.map_take, -List.map_drop, List.getElem?_cons_zero, List.getElem?_cons_succ, Go.IntWalk.iteOmega, Go.IntWalk.toNatUp, Config.val, Config.cells]
  refine IWp.block ?_
  -- LOOP live [1, 2, 7, 8, 9]
  have hg := Heap.get_alloc_new H c.cells
  simp only [Config.cells] at hg
  generalize H.next = b at *
  generalize H.alloc _ = H1 at *
  refine IWp.loop (fun q e K => ∃ i : Nat, q = L.length - i ∧ i ≤ L.length ∧ K = H1 ∧ e = [(1, ints .i64 L), (2, ptrTo b 0), (7, ints .i64 L), (8, .int .i64 L.length), (9, .int .i64 (i : Int))] ∧ SlotOk c.rules.length (L.take i)) L.length ⟨0, rfl, Nat.zero_le _, rfl, by simp [go_sem], SlotOk.nil _⟩ ?_
  rintro q e K ⟨i, rfl, hi, rfl, rfl, hin⟩
  have wi := IntWalk.i64_in ((i : Int) + 1) (by omega)
  have wr := IntWalk.i64_in ((c.rules.length : Int) - 1) (by omega)
  by_cases hlt : i < L.length
  case neg =>
    rw [List.take_of_length_le (by omega)] at hin
    rw [decide_eq_true hin]
    refine IWp.seq ?_
    refine IWp.run [1, 2, 7, 8, 9, 10] ?_
    simp [go_sem, -getElem?_pos, -List.map_take, -List.map_drop, List.getElem?_cons_zero, List.getElem?_cons_succ, Go.IntWalk.iteOmega, Go.IntWalk.toNatUp, hlt]
    refine IWp.seq ?_
    refine IWp.cond ?_
    simp [go_sem, -getElem?_pos, -List.map_take, -List.map_drop, List.getElem?_cons_zero, List.getElem?_cons_succ, Go.IntWalk.iteOmega, Go.IntWalk.toNatUp, hlt]
    refine IWp.trim [] (IWp.exit ?_)
    simp [go_sem, -getElem?_pos, -List.map_take, -List.map_drop, List.getElem?_cons_zero, List.getElem?_cons_succ, Go.IntWalk.iteOmega, Go.IntWalk.toNatUp, hlt]
    refine IWp.seq ?_
    refine IWp.run [4] ?_
    simp [go_sem, -getElem?_pos, -List.map_take, -List.map_drop, List.getElem?_cons_zero, List.getElem?_cons_succ, Go.IntWalk.iteOmega, Go.IntWalk.toNatUp, hlt]
    refine IWp.ret ?_
    simp [go_sem, -getElem?_pos, -List.map_take, -List.map_drop, List.getElem?_cons_zero, List.getElem?_cons_succ, Go.IntWalk.iteOmega, Go.IntWalk.toNatUp, hlt, Try.results64]
    try exact .same _
  have g : L[i]? = some L[i] := List.getElem?_eq_getElem hlt
  have hsn := SlotOk.snoc (R := c.rules.length) hlt
  have hno : ¬ SlotOk c.rules.length (L.take (i + 1)) → ¬ SlotOk c.rules.length L := fun h h2 => h (h2.take _)
  have c2 := fun K m => containsI K m (L.take i) L[i] (by simp; omega)
  generalize L[i] = x at *
  have c1 := fun K => withinI K x 0 ((c.rules.length : Int) - 1)
  rw [inS_dec] at c1
  by_cases h1 : 0 ≤ x ∧ x ≤ (c.rules.length : Int) - 1
  case neg =>
    rw [decide_eq_false h1] at c1
    rw [decide_eq_false (hno fun h => h1 (by have := (hsn.1 h).2.1; omega))]
    refine IWp.seq ?_
    refine IWp.run [1, 2, 7, 8, 9, 10] ?_
    simp [go_sem, -getElem?_pos, -List.map_take, -List.map_drop, List.getElem?_cons_zero, List.getElem?_cons_succ, Go.IntWalk.iteOmega, Go.IntWalk.toNatUp, hg, hlt, g, wr]
    refine IWp.seq ?_
    refine IWp.cond ?_
    simp [go_sem, -getElem?_pos, -List.map_take, -List.map_drop, List.getElem?_cons_zero, List.getElem?_cons_succ, Go.IntWalk.iteOmega, Go.IntWalk.toNatUp, hg, hlt, g, wr]
    refine IWp.trim [1, 2, 7, 8, 9] (IWp.skip ?_)
    simp [go_sem, -getElem?_pos, -List.map_take, -List.map_drop, List.getElem?_cons_zero, List.getElem?_cons_succ, Go.IntWalk.iteOmega, Go.IntWalk.toNatUp, hg, hlt, g, wr]
    refine IWp.seq ?_
    refine IWp.block ?_
    refine IWp.seq ?_
    refine IWp.run [1, 2, 5, 6, 7, 8, 9] ?_
    simp [go_sem, -getElem?_pos, -List.map_take, -List.map_drop, List.getElem?_cons_zero, List.getElem?_cons_succ, Go.IntWalk.iteOmega, Go.IntWalk.toNatUp, hg, hlt, g, wr]
    refine IWp.seq ?_
    refine IWp.run [1, 2, 7, 8, 9, 27] ?_
    simp [go_sem, -getElem?_pos, -List.map_take, -List.map_drop, List.getElem?_cons_zero, List.getElem?_cons_succ, Go.IntWalk.iteOmega, Go.IntWalk.toNatUp, hg, hlt, g, wr]
    refine ICalls.then (c1 _) ?_
    try simp [go_sem, -getElem?_pos, -List.map_take, -List.map_drop, List.getElem?_cons_zero, List.getElem?_cons_succ, Go.IntWalk.iteOmega, Go.IntWalk.toNatUp, hg, hlt, g, wr]
    refine IWp.cond ?_
    simp [go_sem, -getElem?_pos, -List.map_take, -List.map_drop, List.getElem?_cons_zero, List.getElem?_cons_succ, Go.IntWalk.iteOmega, Go.IntWalk.toNatUp, hg, hlt, g, wr]
    refine IWp.seq ?_
    refine IWp.run [4] ?_
    simp [go_sem, -getElem?_pos, -List.map_take, -List.map_drop, List.getElem?_cons_zero, List.getElem?_cons_succ, Go.IntWalk.iteOmega, Go.IntWalk.toNatUp, hg, hlt, g, wr]
    refine IWp.ret ?_
    simp [go_sem, -getElem?_pos, -List.map_take, -List.map_drop, List.getElem?_cons_zero, List.getElem?_cons_succ, Go.IntWalk.iteOmega, Go.IntWalk.toNatUp, hg, hlt, g, wr, Try.results64]
    try exact .same _
  rw [decide_eq_true h1] at c1
  by_cases h2 : x ∈ L.take i
  · rw [decide_eq_true h2] at c2
    rw [decide_eq_false (hno fun h => (hsn.1 h).2.2 h2)]
    refine IWp.seq ?_
    refine IWp.run [1, 2, 7, 8, 9, 10] ?_
    simp [go_sem, -getElem?_pos, -List.map_take, -List.map_drop, List.getElem?_cons_zero, List.getElem?_cons_succ, Go.IntWalk.iteOmega, Go.IntWalk.toNatUp, hg, hlt, g, wr]
    refine IWp.seq ?_
    refine IWp.cond ?_
    simp [go_sem, -getElem?_pos, -List.map_take, -List.map_drop, List.getElem?_cons_zero, List.getElem?_cons_succ, Go.IntWalk.iteOmega, Go.IntWalk.toNatUp, hg, hlt, g, wr]
    refine IWp.trim [1, 2, 7, 8, 9] (IWp.skip ?_)
    simp [go_sem, -getElem?_pos, -List.map_take, -List.map_drop, List.getElem?_cons_zero, List.getElem?_cons_succ, Go.IntWalk.iteOmega, Go.IntWalk.toNatUp, hg, hlt, g, wr]
    refine IWp.seq ?_
    refine IWp.block ?_
    refine IWp.seq ?_
    refine IWp.run [1, 2, 5, 6, 7, 8, 9] ?_
    simp [go_sem, -getElem?_pos, -List.map_take, -List.map_drop, List.getElem?_cons_zero, List.getElem?_cons_succ, Go.IntWalk.iteOmega, Go.IntWalk.toNatUp, hg, hlt, g, wr]
    refine IWp.seq ?_
    refine IWp.run [1, 2, 7, 8, 9, 27] ?_
    simp [go_sem, -getElem?_pos, -List.map_take, -List.map_drop, List.getElem?_cons_zero, List.getElem?_cons_succ, Go.IntWalk.iteOmega, Go.IntWalk.toNatUp, hg, hlt, g, wr]
    refine ICalls.then (c1 _) ?_
    try simp [go_sem, -getElem?_pos, -List.map_take, -List.map_drop, List.getElem?_cons_zero, List.getElem?_cons_succ, Go.IntWalk.iteOmega, Go.IntWalk.toNatUp, hg, hlt, g, wr]
    refine ICalls.then (c2 _ _) ?_
    try simp [go_sem, -getElem?_pos, -List.map_take, -List.map_drop, List.getElem?_cons_zero, List.getElem?_cons_succ, Go.IntWalk.iteOmega, Go.IntWalk.toNatUp, hg, hlt, g, wr]
    refine IWp.cond ?_
    simp [go_sem, -getElem?_pos, -List.map_take, -List.map_drop, List.getElem?_cons_zero, List.getElem?_cons_succ, Go.IntWalk.iteOmega, Go.IntWalk.toNatUp, hg, hlt, g, wr]
    refine IWp.seq ?_
    refine IWp.run [4] ?_
    simp [go_sem, -getElem?_pos, -List.map_take, -List.map_drop, List.getElem?_cons_zero, List.getElem?_cons_succ, Go.IntWalk.iteOmega, Go.IntWalk.toNatUp, hg, hlt, g, wr]
    refine IWp.ret ?_
    simp [go_sem, -getElem?_pos, -List.map_take, -List.map_drop, List.getElem?_cons_zero, List.getElem?_cons_succ, Go.IntWalk.iteOmega, Go.IntWalk.toNatUp, hg, hlt, g, wr, Try.results64]
    try exact .same _
  · rw [decide_eq_false h2] at c2
    refine IWp.seq ?_
    refine IWp.run [1, 2, 7, 8, 9, 10] ?_
    simp [go_sem, -getElem?_pos, -List.map_take, -List.map_drop, List.getElem?_cons_zero, List.getElem?_cons_succ, Go.IntWalk.iteOmega, Go.IntWalk.toNatUp, hg, hlt, g, wr, wi]
    refine IWp.seq ?_
    refine IWp.cond ?_
    simp [go_sem, -getElem?_pos, -List.map_take, -List.map_drop, List.getElem?_cons_zero, List.getElem?_cons_succ, Go.IntWalk.iteOmega, Go.IntWalk.toNatUp, hg, hlt, g, wr, wi]
    refine IWp.trim [1, 2, 7, 8, 9] (IWp.skip ?_)
    simp [go_sem, -getElem?_pos, -List.map_take, -List.map_drop, List.getElem?_cons_zero, List.getElem?_cons_succ, Go.IntWalk.iteOmega, Go.IntWalk.toNatUp, hg, hlt, g, wr, wi]
    refine IWp.seq ?_
    refine IWp.block ?_
    refine IWp.seq ?_
    refine IWp.run [1, 2, 5, 6, 7, 8, 9] ?_
    simp [go_sem, -getElem?_pos, -List.map_take, -List.map_drop, List.getElem?_cons_zero, List.getElem?_cons_succ, Go.IntWalk.iteOmega, Go.IntWalk.toNatUp, hg, hlt, g, wr, wi]
    refine IWp.seq ?_
    refine IWp.run [1, 2, 7, 8, 9, 27] ?_
    simp [go_sem, -getElem?_pos, -List.map_take, -List.map_drop, List.getElem?_cons_zero, List.getElem?_cons_succ, Go.IntWalk.iteOmega, Go.IntWalk.toNatUp, hg, hlt, g, wr, wi]
    refine ICalls.then (c1 _) ?_
    try simp [go_sem, -getElem?_pos, -List.map_take, -List.map_drop, List.getElem?_cons_zero, List.getElem?_cons_succ, Go.IntWalk.iteOmega, Go.IntWalk.toNatUp, hg, hlt, g, wr, wi]
    refine ICalls.then (c2 _ _) ?_
    try simp [go_sem, -getElem?_pos, -List.map_take, -List.map_drop, List.getElem?_cons_zero, List.getElem?_cons_succ, Go.IntWalk.iteOmega, Go.IntWalk.toNatUp, hg, hlt, g, wr, wi]
    refine IWp.cond ?_
    simp [go_sem, -getElem?_pos, -List.map_take, -List.map_drop, List.getElem?_cons_zero, List.getElem?_cons_succ, Go.IntWalk.iteOmega, Go.IntWalk.toNatUp, hg, hlt, g, wr, wi]
    refine IWp.trim [1, 2, 7, 8, 9] (IWp.skip ?_)
    simp [go_sem, -getElem?_pos, -List.map_take, -List.map_drop, List.getElem?_cons_zero, List.getElem?_cons_succ, Go.IntWalk.iteOmega, Go.IntWalk.toNatUp, hg, hlt, g, wr, wi]
    refine IWp.run [1, 2, 7, 8, 9] ?_
    simp [go_sem, -getElem?_pos, -List.map_take, -List.map_drop, List.getElem?_cons_zero, List.getElem?_cons_succ, Go.IntWalk.iteOmega, Go.IntWalk.toNatUp, hg, hlt, g, wr, wi]
    exact ⟨L.length - (i + 1), by omega, i + 1, rfl, by omega, by omega, hsn.2 ⟨hin, by omega, h2⟩⟩

theorem entriesC (H : Heap) (c : Config) (hl0 : c.table.length ≤ 1000000) (hl : ∀ n ≤ c.table.length, (entriesS (c.table.take n) : Int) < 9223372036854775808) :
    ICalls Try.prog 32 [c.val] H fun v H' => v = .int .i64 (entriesS c.table) ∧ H' = H := by
  refine ICalls.ans (by simp [go_sem]) fun H => IBody.calls (by kernel_rfl) ?_
  refine IBody.of Try.func32 rfl (by rw [Try.ntmps32]; simp) ?_
  rw [Try.ntmps32]
  refine IWp.seq ?_
  refine IWp.run [1] ?_
  simp [go_sem, -getElem?_pos, -List.map_take, -List.map_drop, List.getElem?_cons_zero, List.getElem?_cons_succ, Go.IntWalk.iteOmega, Go.IntWalk.toNatUp, Config.val, Config.cells]
  refine IWp.seq ?_
  refine IWp.run [1, 3] ?_
  simp [go_sem, -getElem?_pos, -List.map_take, -List.map_drop, List.getElem?_cons_zero, List.getElem?_cons_succ, Go.IntWalk.iteOmega, Go.IntWalk.toNatUp, Config.val, Config.cells]
  refine IWp.seq ?_
  refine IWp.seq ?_
  refine IWp.run [3, 7, 8, 9] ?_
  simp [go_sem, -getElem?_pos, -List.map_take, -List.map_drop, List.getElem?_cons_zero, List.getElem?_cons_succ, Go.IntWalk.iteOmega, Go.IntWalk.toNatUp, Config.val, Config.cells]
  refine IWp.block ?_
  -- LOOP live [3, 7, 8, 9]
  generalize H.alloc _ = H1 at *
  refine IWp.loop (fun j e K => ∃ i : Nat, j = c.table.length - i ∧ i ≤ c.table.length ∧ K = H1 ∧ e = [(3, .int .i64 (entriesS (c.table.take i))), (7, frow 1 0 (c.table.map (ints .i64))), (8, .int .i64 c.table.length), (9, .int .i64 (i : Int))]) c.table.length ⟨0, rfl, Nat.zero_le _, rfl, by simp [go_sem, entriesS]⟩ ?_
  rintro j e K ⟨i, rfl, hi, rfl, rfl⟩
  by_cases hlt : i < c.table.length
  · have g : (c.table.map (ints .i64))[i]? = some (ints .i64 c.table[i]) := by simp [hlt]
    have hs := entriesS_snoc c.table i hlt
    have hb := hl (i + 1) (by omega)
    have w1 := IntWalk.i64_in ((i : Int) + 1) (by omega)
    have w2 := IntWalk.i64_in ((entriesS (c.table.take i) : Int) + c.table[i].length) (by omega)
    generalize c.table[i] = x at *
    refine IWp.seq ?_
    refine IWp.run [3, 7, 8, 9, 10] ?_
    simp [go_sem, -getElem?_pos, -List.map_take, -List.map_drop, List.getElem?_cons_zero, List.getElem?_cons_succ, Go.IntWalk.iteOmega, Go.IntWalk.toNatUp, g, hlt, w1, w2]
    refine IWp.seq ?_
    refine IWp.cond ?_
    simp [go_sem, -getElem?_pos, -List.map_take, -List.map_drop, List.getElem?_cons_zero, List.getElem?_cons_succ, Go.IntWalk.iteOmega, Go.IntWalk.toNatUp, g, hlt, w1, w2]
    refine IWp.trim [3, 7, 8, 9] (IWp.skip ?_)
    simp [go_sem, -getElem?_pos, -List.map_take, -List.map_drop, List.getElem?_cons_zero, List.getElem?_cons_succ, Go.IntWalk.iteOmega, Go.IntWalk.toNatUp, g, hlt, w1, w2]
    refine IWp.seq ?_
    refine IWp.block ?_
    refine IWp.seq ?_
    refine IWp.run [3, 5, 7, 8, 9] ?_
    simp [go_sem, -getElem?_pos, -List.map_take, -List.map_drop, List.getElem?_cons_zero, List.getElem?_cons_succ, Go.IntWalk.iteOmega, Go.IntWalk.toNatUp, g, hlt, w1, w2]
    refine IWp.run [3, 7, 8, 9] ?_
    simp [go_sem, -getElem?_pos, -List.map_take, -List.map_drop, List.getElem?_cons_zero, List.getElem?_cons_succ, Go.IntWalk.iteOmega, Go.IntWalk.toNatUp, g, hlt, w1, w2]
    refine IWp.run [3, 7, 8, 9] ?_
    simp [go_sem, -getElem?_pos, -List.map_take, -List.map_drop, List.getElem?_cons_zero, List.getElem?_cons_succ, Go.IntWalk.iteOmega, Go.IntWalk.toNatUp, g, hlt, w1, w2]
    exact ⟨c.table.length - (i + 1), by omega, i + 1, rfl, by omega, by rw [hs]; simp, by omega⟩
  · have ht : c.table.take i = c.table := List.take_of_length_le (by omega)
    rw [ht]
    refine IWp.seq ?_
    refine IWp.run [3, 7, 8, 9, 10] ?_
    simp [go_sem, -getElem?_pos, -List.map_take, -List.map_drop, List.getElem?_cons_zero, List.getElem?_cons_succ, Go.IntWalk.iteOmega, Go.IntWalk.toNatUp, hlt]
    refine IWp.seq ?_
    refine IWp.cond ?_
    simp [go_sem, -getElem?_pos, -List.map_take, -List.map_drop, List.getElem?_cons_zero, List.getElem?_cons_succ, Go.IntWalk.iteOmega, Go.IntWalk.toNatUp, hlt]
    refine IWp.trim [3] (IWp.exit ?_)
    simp [go_sem, -getElem?_pos, -List.map_take, -List.map_drop, List.getElem?_cons_zero, List.getElem?_cons_succ, Go.IntWalk.iteOmega, Go.IntWalk.toNatUp, hlt]
    refine IWp.seq ?_
    refine IWp.run [2] ?_
    simp [go_sem, -getElem?_pos, -List.map_take, -List.map_drop, List.getElem?_cons_zero, List.getElem?_cons_succ, Go.IntWalk.iteOmega, Go.IntWalk.toNatUp, hlt]
    refine IWp.ret ?_
    simp [go_sem, -getElem?_pos, -List.map_take, -List.map_drop, List.getElem?_cons_zero, List.getElem?_cons_succ, Go.IntWalk.iteOmega, Go.IntWalk.toNatUp, hlt, Try.results32]
    try exact .same _

end Go.Proofs.Ytmiinclnpcokkaa.I
