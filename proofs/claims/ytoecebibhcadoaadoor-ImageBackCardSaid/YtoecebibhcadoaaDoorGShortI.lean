/- Has a draft not too much? No condition. -/
import Derived.Test.YtoecebibhcadoaaDoorGConf
namespace Go.Proofs.YtoecebibhcadoaaDoor.I
open Go Go.RowKit
set_option linter.unusedVariables false
set_option linter.unusedSimpArgs false
theorem shortI (H : Heap) (d : Draft) :
    ICalls Tryd.prog 10 [d.val] H fun v H' => v = .bool (decide (d.rules.length ≤ 12 ∧ d.slots.length ≤ 40 ∧ ∀ x ∈ d.rules, x.stages.length ≤ 8)) ∧ H' = H := by
  refine ICalls.ans (by simp [go_sem]) fun H => IBody.calls (by kernel_rfl) ?_
  generalize hq : decide (d.rules.length ≤ 12 ∧ d.slots.length ≤ 40 ∧ ∀ x ∈ d.rules, x.stages.length ≤ 8) = q
  by_cases h1 : 12 < d.rules.length
  · skip
    refine IBody.of Tryd.func10 rfl (by rw [Tryd.ntmps10]; simp) ?_
    rw [Tryd.ntmps10]
    have Kp : Kept [[1],[1,13],[],[2],[]] := ⟨⟩
    iterate 5 (refine Kp.s ?_; clear Kp; intro Kp; simp [go_sem, -getElem?_pos, -List.map_take, -List.map_drop, IntWalk.iteOmega, IntWalk.toNatUp, h1, Draft.val, Draft.cells, show (12 : Int) < d.rules.length by omega])
    rw [← hq, decide_eq_false fun h => by have := h.1; omega]
    exact .same _
  by_cases h2 : 40 < d.slots.length
  · skip
    refine IBody.of Tryd.func10 rfl (by rw [Tryd.ntmps10]; simp) ?_
    rw [Tryd.ntmps10]
    have Kp : Kept [[1],[1,13],[],[2],[]] := ⟨⟩
    iterate 5 (refine Kp.s ?_; clear Kp; intro Kp; simp [go_sem, -getElem?_pos, -List.map_take, -List.map_drop, IntWalk.iteOmega, IntWalk.toNatUp, h1, h2, Draft.val, Draft.cells, show ¬ (12 : Int) < d.rules.length by omega, show (40 : Int) < d.slots.length by omega])
    rw [← hq, decide_eq_false fun h => by have := h.2.1; omega]
    exact .same _
  refine IBody.of Tryd.func10 rfl (by rw [Tryd.ntmps10]; simp) ?_
  rw [Tryd.ntmps10]
  have Kp : Kept [[1],[1,13],[],[1],[1,3]] := ⟨⟩
  iterate 5 (refine Kp.s ?_; clear Kp; intro Kp; simp [go_sem, -getElem?_pos, -List.map_take, -List.map_drop, IntWalk.iteOmega, IntWalk.toNatUp, h1, h2, Draft.val, Draft.cells, show ¬ (12 : Int) < d.rules.length by omega, show ¬ (40 : Int) < d.slots.length by omega])
  refine IWp.block ?_
  have hg := Heap.get_alloc_new H d.cells
  simp only [Draft.cells] at hg
  generalize H.next = b at *
  generalize H.alloc _ = H1 at *
  refine IWp.loop (fun j e K => ∃ i : Nat, j = d.rules.length - i ∧ i ≤ d.rules.length ∧ K = H1 ∧ e = [(1, ptrTo b 0), (3, .int .i64 (i : Int))] ∧ ∀ x ∈ d.rules.take i, x.stages.length ≤ 8) d.rules.length ⟨0, rfl, Nat.zero_le _, rfl, by simp [go_sem], by simp⟩ ?_
  rintro j e K ⟨i, rfl, hi, rfl, rfl, hpre⟩
  by_cases hlt : i < d.rules.length
  · have g : (d.rules.map Line.val)[i]? = some d.rules[i].val := by simp [hlt]
    have hm := List.getElem_mem hlt
    have hpre2 : d.rules[i].stages.length ≤ 8 → ∀ x ∈ d.rules.take (i + 1), x.stages.length ≤ 8 := fun h x hx => by
      rw [List.take_succ_eq_append_getElem hlt] at hx
      rcases List.mem_append.1 hx with hx | hx
      · exact hpre x hx
      · simp at hx; subst hx; exact h
    generalize d.rules[i] = x at *
    have w1 := IntWalk.i64_in ((i : Int) + 1) (by omega)
    by_cases h3 : 8 < x.stages.length
    · have hno : ¬ ∀ x ∈ d.rules, x.stages.length ≤ 8 := fun h => by have := h x hm; omega
      have Kp : Kept [[1,3,18],[],[1,3],[1,3,28],[],[2],[]] := ⟨⟩
      iterate 7 (refine Kp.s ?_; clear Kp; intro Kp; simp [go_sem, -getElem?_pos, -List.map_take, -List.map_drop, IntWalk.iteOmega, IntWalk.toNatUp, hg, g, hlt, Line.val, Line.cells, show (8 : Int) < x.stages.length by omega])
      rw [← hq, decide_eq_false fun h => hno h.2.2]
      exact .same _
    · skip
      have Kp : Kept [[1,3,18],[],[1,3],[1,3,28],[],[1,3],[1,3]] := ⟨⟩
      iterate 7 (refine Kp.s ?_; clear Kp; intro Kp; simp [go_sem, -getElem?_pos, -List.map_take, -List.map_drop, IntWalk.iteOmega, IntWalk.toNatUp, hg, g, hlt, w1, Line.val, Line.cells, show ¬ (8 : Int) < x.stages.length by omega])
      exact ⟨d.rules.length - (i + 1), by omega, i + 1, rfl, by omega, by omega, hpre2 (by omega)⟩
  · rw [List.take_of_length_le (by omega)] at hpre
    have Kp : Kept [[1,3,18],[],[],[2],[]] := ⟨⟩
    iterate 5 (refine Kp.s ?_; clear Kp; intro Kp; simp [go_sem, -getElem?_pos, -List.map_take, -List.map_drop, IntWalk.iteOmega, IntWalk.toNatUp, hg, hlt])
    rw [← hq, decide_eq_true ⟨by omega, by omega, hpre⟩]
    exact .same _
end Go.Proofs.YtoecebibhcadoaaDoor.I
