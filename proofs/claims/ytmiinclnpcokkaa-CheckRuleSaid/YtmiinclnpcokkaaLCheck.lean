/- Configurations: the example, and the laws' bodies. No condition. -/
import Derived.Test.YtmiinclnpcokkaaPCheck
namespace Go.Proofs.Ytmiinclnpcokkaa.I
open Go Go.RowKit
set_option linter.unusedVariables false
set_option linter.unusedSimpArgs false


theorem shorts07 (H : Heap) (d : Draft) :
    ICalls Try.prog 29 [d.val] H fun v H' => v = .bool (decide (d.rules.length ≤ 12 ∧ d.slots.length ≤ 40 ∧ ∀ x ∈ d.rules, x.stages.length ≤ 8)) ∧ H' = H := by
  refine ICalls.ans (by simp [go_sem]) fun H => IBody.calls (by kernel_rfl) ?_
  generalize hq : decide (d.rules.length ≤ 12 ∧ d.slots.length ≤ 40 ∧ ∀ x ∈ d.rules, x.stages.length ≤ 8) = q
  by_cases h1 : 12 < d.rules.length
  · skip
    refine IBody.of Try.func29 rfl (by rw [Try.ntmps29]; simp) ?_
    rw [Try.ntmps29]
    refine IWp.seq ?_
    refine IWp.run [1] ?_
    simp [go_sem, -getElem?_pos, -List.map_take, -List.map_drop, List.getElem?_cons_zero, List.getElem?_cons_succ, Go.IntWalk.iteOmega, Go.IntWalk.toNatUp, h1, Draft.val, Draft.cells, show (12 : Int) < d.rules.length by omega]
    refine IWp.seq ?_
    refine IWp.seq ?_
    refine IWp.run [1, 13] ?_
    simp [go_sem, -getElem?_pos, -List.map_take, -List.map_drop, List.getElem?_cons_zero, List.getElem?_cons_succ, Go.IntWalk.iteOmega, Go.IntWalk.toNatUp, h1, Draft.val, Draft.cells, show (12 : Int) < d.rules.length by omega]
    refine IWp.cond ?_
    simp [go_sem, -getElem?_pos, -List.map_take, -List.map_drop, List.getElem?_cons_zero, List.getElem?_cons_succ, Go.IntWalk.iteOmega, Go.IntWalk.toNatUp, h1, Draft.val, Draft.cells, show (12 : Int) < d.rules.length by omega]
    refine IWp.seq ?_
    refine IWp.run [2] ?_
    simp [go_sem, -getElem?_pos, -List.map_take, -List.map_drop, List.getElem?_cons_zero, List.getElem?_cons_succ, Go.IntWalk.iteOmega, Go.IntWalk.toNatUp, h1, Draft.val, Draft.cells, show (12 : Int) < d.rules.length by omega]
    refine IWp.ret ?_
    simp [go_sem, -getElem?_pos, -List.map_take, -List.map_drop, List.getElem?_cons_zero, List.getElem?_cons_succ, Go.IntWalk.iteOmega, Go.IntWalk.toNatUp, h1, Draft.val, Draft.cells, show (12 : Int) < d.rules.length by omega, Try.results29]
    rw [← hq, decide_eq_false fun h => by have := h.1; omega]
    exact .same _
  by_cases h2 : 40 < d.slots.length
  · skip
    refine IBody.of Try.func29 rfl (by rw [Try.ntmps29]; simp) ?_
    rw [Try.ntmps29]
    refine IWp.seq ?_
    refine IWp.run [1] ?_
    simp [go_sem, -getElem?_pos, -List.map_take, -List.map_drop, List.getElem?_cons_zero, List.getElem?_cons_succ, Go.IntWalk.iteOmega, Go.IntWalk.toNatUp, h1, h2, Draft.val, Draft.cells, show ¬ (12 : Int) < d.rules.length by omega, show (40 : Int) < d.slots.length by omega]
    refine IWp.seq ?_
    refine IWp.seq ?_
    refine IWp.run [1, 13] ?_
    simp [go_sem, -getElem?_pos, -List.map_take, -List.map_drop, List.getElem?_cons_zero, List.getElem?_cons_succ, Go.IntWalk.iteOmega, Go.IntWalk.toNatUp, h1, h2, Draft.val, Draft.cells, show ¬ (12 : Int) < d.rules.length by omega, show (40 : Int) < d.slots.length by omega]
    refine IWp.cond ?_
    simp [go_sem, -getElem?_pos, -List.map_take, -List.map_drop, List.getElem?_cons_zero, List.getElem?_cons_succ, Go.IntWalk.iteOmega, Go.IntWalk.toNatUp, h1, h2, Draft.val, Draft.cells, show ¬ (12 : Int) < d.rules.length by omega, show (40 : Int) < d.slots.length by omega]
    refine IWp.seq ?_
    refine IWp.run [2] ?_
    simp [go_sem, -getElem?_pos, -List.map_take, -List.map_drop, List.getElem?_cons_zero, List.getElem?_cons_succ, Go.IntWalk.iteOmega, Go.IntWalk.toNatUp, h1, h2, Draft.val, Draft.cells, show ¬ (12 : Int) < d.rules.length by omega, show (40 : Int) < d.slots.length by omega]
    refine IWp.ret ?_
    simp [go_sem, -getElem?_pos, -List.map_take, -List.map_drop, List.getElem?_cons_zero, List.getElem?_cons_succ, Go.IntWalk.iteOmega, Go.IntWalk.toNatUp, h1, h2, Draft.val, Draft.cells, show ¬ (12 : Int) < d.rules.length by omega, show (40 : Int) < d.slots.length by omega, Try.results29]
    rw [← hq, decide_eq_false fun h => by have := h.2.1; omega]
    exact .same _
  refine IBody.of Try.func29 rfl (by rw [Try.ntmps29]; simp) ?_
  rw [Try.ntmps29]
  refine IWp.seq ?_
  refine IWp.run [1] ?_
  simp [go_sem, -getElem?_pos, -List.map_take, -List.map_drop, List.getElem?_cons_zero, List.getElem?_cons_succ, Go.IntWalk.iteOmega, Go.IntWalk.toNatUp, h1, h2, Draft.val, Draft.cells, show ¬ (12 : Int) < d.rules.length by omega, show ¬ (40 : Int) < d.slots.length by omega]
  refine IWp.seq ?_
  refine IWp.seq ?_
  refine IWp.run [1, 13] ?_
  simp [go_sem, -getElem?_pos, -List.map_take, -List.map_drop, List.getElem?_cons_zero, List.getElem?_cons_succ, Go.IntWalk.iteOmega, Go.IntWalk.toNatUp, h1, h2, Draft.val, Draft.cells, show ¬ (12 : Int) < d.rules.length by omega, show ¬ (40 : Int) < d.slots.length by omega]
  refine IWp.cond ?_
  simp [go_sem, -getElem?_pos, -List.map_take, -List.map_drop, List.getElem?_cons_zero, List.getElem?_cons_succ, Go.IntWalk.iteOmega, Go.IntWalk.toNatUp, h1, h2, Draft.val, Draft.cells, show ¬ (12 : Int) < d.rules.length by omega, show ¬ (40 : Int) < d.slots.length by omega]
  refine IWp.trim [1] (IWp.skip ?_)
  simp [go_sem, -getElem?_pos, -List.map_take, -List.map_drop, List.getElem?_cons_zero, List.getElem?_cons_succ, Go.IntWalk.iteOmega, Go.IntWalk.toNatUp, h1, h2, Draft.val, Draft.cells, show ¬ (12 : Int) < d.rules.length by omega, show ¬ (40 : Int) < d.slots.length by omega]
  refine IWp.seq ?_
  refine IWp.seq ?_
  refine IWp.run [1, 3] ?_
  simp [go_sem, -getElem?_pos, -List.map_take, -List.map_drop, List.getElem?_cons_zero, List.getElem?_cons_succ, Go.IntWalk.iteOmega, Go.IntWalk.toNatUp, h1, h2, Draft.val, Draft.cells, show ¬ (12 : Int) < d.rules.length by omega, show ¬ (40 : Int) < d.slots.length by omega]
  refine IWp.block ?_
  -- LOOP live [1, 3]
  have hg := Heap.get_alloc_new H d.cells
  simp only [Draft.cells] at hg
  generalize H.next = b at *
  generalize H.alloc _ = H1 at *
  refine IWp.loop (fun j e K => ∃ i : Nat, j = d.rules.length - i ∧ i ≤ d.rules.length ∧ K = H1 ∧ e = [(1, ptrTo b 0), (3, .int .i64 (i : Int))] ∧ ∀ x ∈ d.rules.take i, x.stages.length ≤ 8) d.rules.length ⟨0, rfl, Nat.zero_le _, rfl, by simp [go_sem], by simp⟩ ?_
  rintro j e K ⟨i, rfl, hi, rfl, rfl, hpre⟩
  by_cases hlt : i < d.rules.length
  · have g : (d.rules.map Line.val)[i]? = some d.rules[i].val := by simp [hlt]
    have hm := List.getElem_mem hlt
    have hpre2 : d.rules[i].stages.length ≤ 8 → ∀ x ∈ d.rules.take (i + 1), x.stages.length ≤ 8 := fun h x hx => by
      rw [List.take_succ_eq_append_getElem hlt] at hx
      rcases List.mem_append.1 hx with hx | hx
      · exact hpre x hx
      · simp at hx; subst hx; exact h
    generalize d.rules[i] = x at *
    have w1 := IntWalk.i64_in ((i : Int) + 1) (by omega)
    by_cases h3 : 8 < x.stages.length
    · have hno : ¬ ∀ x ∈ d.rules, x.stages.length ≤ 8 := fun h => by have := h x hm; omega
      refine IWp.seq ?_
      refine IWp.seq ?_
      refine IWp.run [1, 3, 18] ?_
      simp [go_sem, -getElem?_pos, -List.map_take, -List.map_drop, List.getElem?_cons_zero, List.getElem?_cons_succ, Go.IntWalk.iteOmega, Go.IntWalk.toNatUp, hg, g, hlt, Line.val, Line.cells, show (8 : Int) < x.stages.length by omega]
      refine IWp.cond ?_
      simp [go_sem, -getElem?_pos, -List.map_take, -List.map_drop, List.getElem?_cons_zero, List.getElem?_cons_succ, Go.IntWalk.iteOmega, Go.IntWalk.toNatUp, hg, g, hlt, Line.val, Line.cells, show (8 : Int) < x.stages.length by omega]
      refine IWp.trim [1, 3] (IWp.skip ?_)
      simp [go_sem, -getElem?_pos, -List.map_take, -List.map_drop, List.getElem?_cons_zero, List.getElem?_cons_succ, Go.IntWalk.iteOmega, Go.IntWalk.toNatUp, hg, g, hlt, Line.val, Line.cells, show (8 : Int) < x.stages.length by omega]
      refine IWp.seq ?_
      refine IWp.block ?_
      refine IWp.seq ?_
      refine IWp.run [1, 3, 28] ?_
      simp [go_sem, -getElem?_pos, -List.map_take, -List.map_drop, List.getElem?_cons_zero, List.getElem?_cons_succ, Go.IntWalk.iteOmega, Go.IntWalk.toNatUp, hg, g, hlt, Line.val, Line.cells, show (8 : Int) < x.stages.length by omega]
      refine IWp.cond ?_
      simp [go_sem, -getElem?_pos, -List.map_take, -List.map_drop, List.getElem?_cons_zero, List.getElem?_cons_succ, Go.IntWalk.iteOmega, Go.IntWalk.toNatUp, hg, g, hlt, Line.val, Line.cells, show (8 : Int) < x.stages.length by omega]
      refine IWp.seq ?_
      refine IWp.run [2] ?_
      simp [go_sem, -getElem?_pos, -List.map_take, -List.map_drop, List.getElem?_cons_zero, List.getElem?_cons_succ, Go.IntWalk.iteOmega, Go.IntWalk.toNatUp, hg, g, hlt, Line.val, Line.cells, show (8 : Int) < x.stages.length by omega]
      refine IWp.ret ?_
      simp [go_sem, -getElem?_pos, -List.map_take, -List.map_drop, List.getElem?_cons_zero, List.getElem?_cons_succ, Go.IntWalk.iteOmega, Go.IntWalk.toNatUp, hg, g, hlt, Line.val, Line.cells, show (8 : Int) < x.stages.length by omega, Try.results29]
      rw [← hq, decide_eq_false fun h => hno h.2.2]
      exact .same _
    · skip
      refine IWp.seq ?_
      refine IWp.seq ?_
      refine IWp.run [1, 3, 18] ?_
      simp [go_sem, -getElem?_pos, -List.map_take, -List.map_drop, List.getElem?_cons_zero, List.getElem?_cons_succ, Go.IntWalk.iteOmega, Go.IntWalk.toNatUp, hg, g, hlt, w1, Line.val, Line.cells, show ¬ (8 : Int) < x.stages.length by omega]
      refine IWp.cond ?_
      simp [go_sem, -getElem?_pos, -List.map_take, -List.map_drop, List.getElem?_cons_zero, List.getElem?_cons_succ, Go.IntWalk.iteOmega, Go.IntWalk.toNatUp, hg, g, hlt, w1, Line.val, Line.cells, show ¬ (8 : Int) < x.stages.length by omega]
      refine IWp.trim [1, 3] (IWp.skip ?_)
      simp [go_sem, -getElem?_pos, -List.map_take, -List.map_drop, List.getElem?_cons_zero, List.getElem?_cons_succ, Go.IntWalk.iteOmega, Go.IntWalk.toNatUp, hg, g, hlt, w1, Line.val, Line.cells, show ¬ (8 : Int) < x.stages.length by omega]
      refine IWp.seq ?_
      refine IWp.block ?_
      refine IWp.seq ?_
      refine IWp.run [1, 3, 28] ?_
      simp [go_sem, -getElem?_pos, -List.map_take, -List.map_drop, List.getElem?_cons_zero, List.getElem?_cons_succ, Go.IntWalk.iteOmega, Go.IntWalk.toNatUp, hg, g, hlt, w1, Line.val, Line.cells, show ¬ (8 : Int) < x.stages.length by omega]
      refine IWp.cond ?_
      simp [go_sem, -getElem?_pos, -List.map_take, -List.map_drop, List.getElem?_cons_zero, List.getElem?_cons_succ, Go.IntWalk.iteOmega, Go.IntWalk.toNatUp, hg, g, hlt, w1, Line.val, Line.cells, show ¬ (8 : Int) < x.stages.length by omega]
      refine IWp.trim [1, 3] (IWp.skip ?_)
      simp [go_sem, -getElem?_pos, -List.map_take, -List.map_drop, List.getElem?_cons_zero, List.getElem?_cons_succ, Go.IntWalk.iteOmega, Go.IntWalk.toNatUp, hg, g, hlt, w1, Line.val, Line.cells, show ¬ (8 : Int) < x.stages.length by omega]
      refine IWp.run [1, 3] ?_
      simp [go_sem, -getElem?_pos, -List.map_take, -List.map_drop, List.getElem?_cons_zero, List.getElem?_cons_succ, Go.IntWalk.iteOmega, Go.IntWalk.toNatUp, hg, g, hlt, w1, Line.val, Line.cells, show ¬ (8 : Int) < x.stages.length by omega]
      exact ⟨d.rules.length - (i + 1), by omega, i + 1, rfl, by omega, by omega, hpre2 (by omega)⟩
  · rw [List.take_of_length_le (by omega)] at hpre
    refine IWp.seq ?_
    refine IWp.seq ?_
    refine IWp.run [1, 3, 18] ?_
    simp [go_sem, -getElem?_pos, -List.map_take, -List.map_drop, List.getElem?_cons_zero, List.getElem?_cons_succ, Go.IntWalk.iteOmega, Go.IntWalk.toNatUp, hg, hlt]
    refine IWp.cond ?_
    simp [go_sem, -getElem?_pos, -List.map_take, -List.map_drop, List.getElem?_cons_zero, List.getElem?_cons_succ, Go.IntWalk.iteOmega, Go.IntWalk.toNatUp, hg, hlt]
    refine IWp.trim [] (IWp.exit ?_)
    simp [go_sem, -getElem?_pos, -List.map_take, -List.map_drop, List.getElem?_cons_zero, List.getElem?_cons_succ, Go.IntWalk.iteOmega, Go.IntWalk.toNatUp, hg, hlt]
    refine IWp.seq ?_
    refine IWp.run [2] ?_
    simp [go_sem, -getElem?_pos, -List.map_take, -List.map_drop, List.getElem?_cons_zero, List.getElem?_cons_succ, Go.IntWalk.iteOmega, Go.IntWalk.toNatUp, hg, hlt]
    refine IWp.ret ?_
    simp [go_sem, -getElem?_pos, -List.map_take, -List.map_drop, List.getElem?_cons_zero, List.getElem?_cons_succ, Go.IntWalk.iteOmega, Go.IntWalk.toNatUp, hg, hlt, Try.results29]
    rw [← hq, decide_eq_true ⟨by omega, by omega, hpre⟩]
    exact .same _

theorem shorts07T (d : Draft) (h : shortD d) (H : Heap) : ICalls Try.prog 29 [.agg ⟨d.cells⟩] H fun v H' => v = .bool true ∧ H' = H := by
  have := shorts07 H d
  rw [decide_eq_true (show d.rules.length ≤ 12 ∧ d.slots.length ≤ 40 ∧ ∀ x ∈ d.rules, x.stages.length ≤ 8 from h)] at this; exact this
theorem shorts07F (d : Draft) (h : ¬ shortD d) (H : Heap) : ICalls Try.prog 29 [.agg ⟨d.cells⟩] H fun v H' => v = .bool false ∧ H' = H := by
  have := shorts07 H d
  rw [decide_eq_false (show ¬ (d.rules.length ≤ 12 ∧ d.slots.length ≤ 40 ∧ ∀ x ∈ d.rules, x.stages.length ≤ 8) from h)] at this; exact this

def confN : Config := ⟨[], [], [], 0, 0, 0, 0, 0, 0, false, 0⟩
def draftN : Draft := ⟨[], [], 0, 0, 0, 0, false, 0⟩
theorem draftN_wf : draftN.wf := by simp [draftN, Draft.wf, maxLen]
theorem right_make (K : Heap) {d : Draft} (hw : d.wf) : ICalls Try.prog 30 [(makeS d).val] K fun v H' => v = .bool true ∧ H' = K := by
  have := rightC K (makeS d) (sized_make hw)
  rw [(make_right hw).all] at this
  exact this

theorem nothing (H : Heap) : ICalls Try.prog 28 [] H fun v H' => v = .bool true ∧ H' = H := by
  refine ICalls.ans (by simp [go_sem]) fun H => IBody.calls (by kernel_rfl) ?_
  have hfN : firstS confN = (1, 0) := (AllTo.zero (c := confN)).bad (k := 0) (i := 0) (by omega) (show 0 < 1 by omega) .zero rfl
  have c1 := fun K => firstC K confN ⟨by decide, by decide, by decide, by decide, by decide⟩
  rw [hfN] at c1
  have c2 := fun K => make K draftN draftN_wf
  have c3 := fun K => right_make K draftN_wf
  refine IBody.of Try.func28 rfl (by rw [Try.ntmps28]; simp) ?_
  rw [Try.ntmps28]
  refine IWp.seq ?_
  refine IWp.run [] ?_
  simp [go_sem, -getElem?_pos, -List.map_take, -List.map_drop, List.getElem?_cons_zero, List.getElem?_cons_succ, Go.IntWalk.iteOmega, Go.IntWalk.toNatUp]
  refine IWp.seq ?_
  refine IWp.run [1, 2] ?_
  simp [go_sem, -getElem?_pos, -List.map_take, -List.map_drop, List.getElem?_cons_zero, List.getElem?_cons_succ, Go.IntWalk.iteOmega, Go.IntWalk.toNatUp]
  refine ICalls.as (.cons (.agg (.cons (.nil 2) (.cons (.nil 9) (.cons (.nil 1) (FrzL.same _))))) .nil) (ICalls.then (c1 _) ?_)
  simp [go_sem]
  refine IWp.seq ?_
  refine IWp.run [0] ?_
  simp [go_sem, -getElem?_pos, -List.map_take, -List.map_drop, List.getElem?_cons_zero, List.getElem?_cons_succ, Go.IntWalk.iteOmega, Go.IntWalk.toNatUp]
  refine ICalls.as (.cons (.agg (.cons (.nil 9) (.cons (.nil 1) (FrzL.same _)))) .nil) (ICalls.then (c2 _) ?_)
  simp [go_sem]
  refine ICalls.then (c3 _) ?_
  simp [go_sem]
  refine IWp.ret ?_
  simp [go_sem, -getElem?_pos, -List.map_take, -List.map_drop, List.getElem?_cons_zero, List.getElem?_cons_succ, Go.IntWalk.iteOmega, Go.IntWalk.toNatUp, Try.results28]
  try exact .same _

theorem sameC (H : Heap) (c : Config) (hS : Sized c) : ICalls Try.prog 31 [c.val] H fun v H' => v = .bool true ∧ H' = H := by
  refine ICalls.ans (by simp [go_sem]) fun H => IBody.calls (by kernel_rfl) ?_
  have c1 := fun K => firstC K c hS
  have c2 := fun K => firstR K c hS
  have c3 := fun K => rightC K c hS
  have hg := Heap.get_alloc_new H c.cells
  simp only [Config.val, Config.cells] at c1 c2 c3 hg
  refine IBody.of Try.func31 rfl (by rw [Try.ntmps31]; simp) ?_
  rw [Try.ntmps31]
  refine IWp.seq ?_
  refine IWp.run [1] ?_
  simp [go_sem, -getElem?_pos, -List.map_take, -List.map_drop, List.getElem?_cons_zero, List.getElem?_cons_succ, Go.IntWalk.iteOmega, Go.IntWalk.toNatUp, Config.val, Config.cells, hg]
  refine IWp.seq ?_
  refine IWp.run [1, 3, 4] ?_
  simp [go_sem, -getElem?_pos, -List.map_take, -List.map_drop, List.getElem?_cons_zero, List.getElem?_cons_succ, Go.IntWalk.iteOmega, Go.IntWalk.toNatUp, Config.val, Config.cells, hg]
  refine ICalls.then (c1 _) ?_
  try simp [go_sem, -getElem?_pos, -List.map_take, -List.map_drop, List.getElem?_cons_zero, List.getElem?_cons_succ, Go.IntWalk.iteOmega, Go.IntWalk.toNatUp, Config.val, Config.cells, hg]
  refine IWp.seq ?_
  refine IWp.run [1, 3, 4, 5, 6] ?_
  simp [go_sem, -getElem?_pos, -List.map_take, -List.map_drop, List.getElem?_cons_zero, List.getElem?_cons_succ, Go.IntWalk.iteOmega, Go.IntWalk.toNatUp, Config.val, Config.cells, hg]
  refine ICalls.then (c2 _) ?_
  try simp [go_sem, -getElem?_pos, -List.map_take, -List.map_drop, List.getElem?_cons_zero, List.getElem?_cons_succ, Go.IntWalk.iteOmega, Go.IntWalk.toNatUp, Config.val, Config.cells, hg]
  refine IWp.seq ?_
  refine IWp.run [2] ?_
  simp [go_sem, -getElem?_pos, -List.map_take, -List.map_drop, List.getElem?_cons_zero, List.getElem?_cons_succ, Go.IntWalk.iteOmega, Go.IntWalk.toNatUp, Config.val, Config.cells, hg]
  refine ICalls.then (c3 _) ?_
  try simp [go_sem, -getElem?_pos, -List.map_take, -List.map_drop, List.getElem?_cons_zero, List.getElem?_cons_succ, Go.IntWalk.iteOmega, Go.IntWalk.toNatUp, Config.val, Config.cells, hg]
  refine IWp.ret ?_
  simp [go_sem, -getElem?_pos, -List.map_take, -List.map_drop, List.getElem?_cons_zero, List.getElem?_cons_succ, Go.IntWalk.iteOmega, Go.IntWalk.toNatUp, Config.val, Config.cells, hg, Try.results31]
  try exact .same _

theorem checkDrafts_law (H : Heap) (d : Draft) (hw : d.wf) :
    IBody Try.prog 9 [d.val] H fun v _ => v = .bool true := by
  by_cases hs : shortD d
  case neg =>
    have h1 := shorts07F d hs
    simp only [Draft.cells] at h1
    refine IBody.of Try.func9 rfl (by rw [Try.ntmps9]; simp) ?_
    rw [Try.ntmps9]
    refine IWp.seq ?_
    refine IWp.run [1] ?_
    simp [go_sem, -getElem?_pos, -List.map_take, -List.map_drop, List.getElem?_cons_zero, List.getElem?_cons_succ, Go.IntWalk.iteOmega, Go.IntWalk.toNatUp, Draft.val, Draft.cells]
    refine IWp.seq ?_
    refine IWp.seq ?_
    refine IWp.run [1, 10] ?_
    simp [go_sem, -getElem?_pos, -List.map_take, -List.map_drop, List.getElem?_cons_zero, List.getElem?_cons_succ, Go.IntWalk.iteOmega, Go.IntWalk.toNatUp, Draft.val, Draft.cells]
    refine ICalls.then (nothing _) ?_
    try simp [go_sem, -getElem?_pos, -List.map_take, -List.map_drop, List.getElem?_cons_zero, List.getElem?_cons_succ, Go.IntWalk.iteOmega, Go.IntWalk.toNatUp, Draft.val, Draft.cells]
    refine ICalls.then (h1 _) ?_
    try simp [go_sem, -getElem?_pos, -List.map_take, -List.map_drop, List.getElem?_cons_zero, List.getElem?_cons_succ, Go.IntWalk.iteOmega, Go.IntWalk.toNatUp, Draft.val, Draft.cells]
    refine IWp.cond ?_
    simp [go_sem, -getElem?_pos, -List.map_take, -List.map_drop, List.getElem?_cons_zero, List.getElem?_cons_succ, Go.IntWalk.iteOmega, Go.IntWalk.toNatUp, Draft.val, Draft.cells]
    refine IWp.seq ?_
    refine IWp.run [2] ?_
    simp [go_sem, -getElem?_pos, -List.map_take, -List.map_drop, List.getElem?_cons_zero, List.getElem?_cons_succ, Go.IntWalk.iteOmega, Go.IntWalk.toNatUp, Draft.val, Draft.cells]
    refine ICalls.then (nothing _) ?_
    try simp [go_sem, -getElem?_pos, -List.map_take, -List.map_drop, List.getElem?_cons_zero, List.getElem?_cons_succ, Go.IntWalk.iteOmega, Go.IntWalk.toNatUp, Draft.val, Draft.cells]
    refine IWp.ret ?_
    simp [go_sem, -getElem?_pos, -List.map_take, -List.map_drop, List.getElem?_cons_zero, List.getElem?_cons_succ, Go.IntWalk.iteOmega, Go.IntWalk.toNatUp, Draft.val, Draft.cells, Try.results9]
  have h1 := shorts07T d hs
  have h2 := fun K => make K d hw
  have hS := sized_make hw
  have h3 := fun K => right_make K hw
  have h4 := fun K => sameC K (makeS d) hS
  have h5 := fun K => entriesC K (makeS d) (by have := hS.table; omega) hS.ent
  have h6 := fun K => refEntries K (makeS d) (by have := hS.table; omega) hS.ent
  simp only [Draft.val, Draft.cells, Config.val, Config.cells] at h1 h2 h3 h4 h5 h6
  generalize makeS d = c at *
  have hg := Heap.get_alloc_new (H.alloc d.cells) c.cells
  simp only [Config.cells, Draft.cells, next_alloc] at hg
  refine IBody.of Try.func9 rfl (by rw [Try.ntmps9]; simp) ?_
  rw [Try.ntmps9]
  refine IWp.seq ?_
  refine IWp.run [1] ?_
  simp [go_sem, -getElem?_pos, -List.map_take, -List.map_drop, List.getElem?_cons_zero, List.getElem?_cons_succ, Go.IntWalk.iteOmega, Go.IntWalk.toNatUp, Draft.val, Draft.cells, hg]
  refine IWp.seq ?_
  refine IWp.seq ?_
  refine IWp.run [1, 10] ?_
  simp [go_sem, -getElem?_pos, -List.map_take, -List.map_drop, List.getElem?_cons_zero, List.getElem?_cons_succ, Go.IntWalk.iteOmega, Go.IntWalk.toNatUp, Draft.val, Draft.cells, hg]
  refine ICalls.then (nothing _) ?_
  try simp [go_sem, -getElem?_pos, -List.map_take, -List.map_drop, List.getElem?_cons_zero, List.getElem?_cons_succ, Go.IntWalk.iteOmega, Go.IntWalk.toNatUp, Draft.val, Draft.cells, hg]
  refine ICalls.then (h1 _) ?_
  try simp [go_sem, -getElem?_pos, -List.map_take, -List.map_drop, List.getElem?_cons_zero, List.getElem?_cons_succ, Go.IntWalk.iteOmega, Go.IntWalk.toNatUp, Draft.val, Draft.cells, hg]
  refine IWp.cond ?_
  simp [go_sem, -getElem?_pos, -List.map_take, -List.map_drop, List.getElem?_cons_zero, List.getElem?_cons_succ, Go.IntWalk.iteOmega, Go.IntWalk.toNatUp, Draft.val, Draft.cells, hg]
  refine IWp.trim [1] (IWp.skip ?_)
  simp [go_sem, -getElem?_pos, -List.map_take, -List.map_drop, List.getElem?_cons_zero, List.getElem?_cons_succ, Go.IntWalk.iteOmega, Go.IntWalk.toNatUp, Draft.val, Draft.cells, hg]
  refine IWp.seq ?_
  refine IWp.run [3] ?_
  simp [go_sem, -getElem?_pos, -List.map_take, -List.map_drop, List.getElem?_cons_zero, List.getElem?_cons_succ, Go.IntWalk.iteOmega, Go.IntWalk.toNatUp, Draft.val, Draft.cells, hg]
  refine ICalls.then (h2 _) ?_
  try simp [go_sem, -getElem?_pos, -List.map_take, -List.map_drop, List.getElem?_cons_zero, List.getElem?_cons_succ, Go.IntWalk.iteOmega, Go.IntWalk.toNatUp, Draft.val, Draft.cells, hg]
  refine IWp.seq ?_
  refine IWp.draw [2] [H.next + 1] (.ld 0 [1, 2, 3, 4, 5, 6, 7, 8, 9, 10, 11, 12, 13] (.eff 1 (.val 2 (.ld 3 [4, 5, 6, 7, 8, 9, 10, 11, 12, 13] (.eff 4 (.val 5 (.val 6 (.ld 7 [8, 10, 11, 12, 13] (.val 9 (.eff 8 (.eff 10 (.val 11 (.val 12 (.val 13 .done))) .done) .done))))) .done))) .done)) follows (by kernel_rfl) ?_
  simp [go_sem, -getElem?_pos, -List.map_take, -List.map_drop, List.getElem?_cons_zero, List.getElem?_cons_succ, Go.IntWalk.iteOmega, Go.IntWalk.toNatUp, Draft.val, Draft.cells, hg]
  refine ICalls.then (h3 _) ?_
  try simp [go_sem, -getElem?_pos, -List.map_take, -List.map_drop, List.getElem?_cons_zero, List.getElem?_cons_succ, Go.IntWalk.iteOmega, Go.IntWalk.toNatUp, Draft.val, Draft.cells, hg]
  refine ICalls.then (h4 _) ?_
  try simp [go_sem, -getElem?_pos, -List.map_take, -List.map_drop, List.getElem?_cons_zero, List.getElem?_cons_succ, Go.IntWalk.iteOmega, Go.IntWalk.toNatUp, Draft.val, Draft.cells, hg]
  refine ICalls.then (h5 _) ?_
  try simp [go_sem, -getElem?_pos, -List.map_take, -List.map_drop, List.getElem?_cons_zero, List.getElem?_cons_succ, Go.IntWalk.iteOmega, Go.IntWalk.toNatUp, Draft.val, Draft.cells, hg]
  refine ICalls.then (h6 _) ?_
  try simp [go_sem, -getElem?_pos, -List.map_take, -List.map_drop, List.getElem?_cons_zero, List.getElem?_cons_succ, Go.IntWalk.iteOmega, Go.IntWalk.toNatUp, Draft.val, Draft.cells, hg]
  refine IWp.ret ?_
  simp [go_sem, -getElem?_pos, -List.map_take, -List.map_drop, List.getElem?_cons_zero, List.getElem?_cons_succ, Go.IntWalk.iteOmega, Go.IntWalk.toNatUp, Draft.val, Draft.cells, hg, Try.results9]

end Go.Proofs.Ytmiinclnpcokkaa.I
