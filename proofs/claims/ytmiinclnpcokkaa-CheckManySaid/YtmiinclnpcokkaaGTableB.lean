/- Tables: how late conditions may be shown; the example. No condition. -/
import Derived.Test.YtmiinclnpcokkaaGTable
namespace Go.Proofs.Ytmiinclnpcokkaa.I
open Go Go.RowKit
set_option linter.unusedVariables false
set_option linter.unusedSimpArgs false

def waitN (c : Config) : Nat := (c.rules.length + 1) * c.table.length
theorem waitN_le (c : Config) (h1 : c.rules.length ≤ 1000) (h2 : c.table.length ≤ 1000) : waitN c ≤ 1001000 := by
  unfold waitN
  exact Nat.le_trans (Nat.mul_le_mul (show c.rules.length + 1 ≤ 1001 by omega) h2) (by decide)

theorem refWait (H : Heap) (c : Config) (h1 : c.rules.length ≤ 1000) (h2 : c.table.length ≤ 1000) :
    ICalls Try.prog 27 [c.val] H fun v H' => v = .int .i64 (waitN c) ∧ H' = H := by
  refine ICalls.ans (by simp [go_sem]) fun H => IBody.calls (by kernel_rfl) ?_
  refine IBody.of Try.func27 rfl (by rw [Try.ntmps27]; simp) ?_
  rw [Try.ntmps27]
  refine IWp.seq ?_
  refine IWp.run [1] ?_
  simp [go_sem, -getElem?_pos, -List.map_take, -List.map_drop, List.getElem?_cons_zero, List.getElem?_cons_succ, Go.IntWalk.iteOmega, Go.IntWalk.toNatUp, Config.val, Config.cells]
  refine IWp.seq ?_
  refine IWp.run [1, 3] ?_
  simp [go_sem, -getElem?_pos, -List.map_take, -List.map_drop, List.getElem?_cons_zero, List.getElem?_cons_succ, Go.IntWalk.iteOmega, Go.IntWalk.toNatUp, Config.val, Config.cells]
  refine IWp.seq ?_
  refine IWp.seq ?_
  refine IWp.run [1, 3, 4] ?_
  simp [go_sem, -getElem?_pos, -List.map_take, -List.map_drop, List.getElem?_cons_zero, List.getElem?_cons_succ, Go.IntWalk.iteOmega, Go.IntWalk.toNatUp, Config.val, Config.cells]
  refine IWp.block ?_
  -- LOOP live [1, 3, 4]
  have hg := Heap.get_alloc_new H c.cells
  simp only [Config.cells] at hg
  generalize H.next = b at *
  generalize H.alloc _ = H1 at *
  refine IWp.loop (fun q e K => ∃ j : Nat, q = c.rules.length + 1 - j ∧ j ≤ c.rules.length + 1 ∧ K = H1 ∧ e = [(1, ptrTo b 0), (3, .int .i64 (j * c.table.length : Nat)), (4, .int .i64 (j : Int))]) (c.rules.length + 1) ⟨0, rfl, Nat.zero_le _, rfl, by simp [go_sem]⟩ ?_
  rintro q e K ⟨j, rfl, hj, rfl, rfl⟩
  have hst : (j + 1) * c.table.length = j * c.table.length + c.table.length := by rw [Nat.add_mul]; omega
  have hle : (j + 1) * c.table.length ≤ 1002 * 1000 := Nat.mul_le_mul (by omega) h2
  have hw : waitN c = (c.rules.length + 1) * c.table.length := rfl
  have w1 := IntWalk.i64_in ((j : Int) + 1) (by omega)
  by_cases hlt : j ≤ c.rules.length
  · generalize hx : j * c.table.length = x at *
    have w2 := IntWalk.i64_in ((x : Int) + c.table.length) (by omega)
    refine IWp.seq ?_
    refine IWp.seq ?_
    refine IWp.run [1, 3, 4, 9] ?_
    simp [go_sem, -getElem?_pos, -List.map_take, -List.map_drop, List.getElem?_cons_zero, List.getElem?_cons_succ, Go.IntWalk.iteOmega, Go.IntWalk.toNatUp, hg, w1, w2, hlt]
    refine IWp.cond ?_
    simp [go_sem, -getElem?_pos, -List.map_take, -List.map_drop, List.getElem?_cons_zero, List.getElem?_cons_succ, Go.IntWalk.iteOmega, Go.IntWalk.toNatUp, hg, w1, w2, hlt]
    refine IWp.trim [1, 3, 4] (IWp.skip ?_)
    simp [go_sem, -getElem?_pos, -List.map_take, -List.map_drop, List.getElem?_cons_zero, List.getElem?_cons_succ, Go.IntWalk.iteOmega, Go.IntWalk.toNatUp, hg, w1, w2, hlt]
    refine IWp.seq ?_
    refine IWp.block ?_
    refine IWp.run [1, 3, 4] ?_
    simp [go_sem, -getElem?_pos, -List.map_take, -List.map_drop, List.getElem?_cons_zero, List.getElem?_cons_succ, Go.IntWalk.iteOmega, Go.IntWalk.toNatUp, hg, w1, w2, hlt]
    refine IWp.run [1, 3, 4] ?_
    simp [go_sem, -getElem?_pos, -List.map_take, -List.map_drop, List.getElem?_cons_zero, List.getElem?_cons_succ, Go.IntWalk.iteOmega, Go.IntWalk.toNatUp, hg, w1, w2, hlt]
    exact ⟨c.rules.length + 1 - (j + 1), by omega, j + 1, rfl, by omega, by rw [← Int.natCast_mul, hst, Int.natCast_add], by omega⟩
  · have hje : j = c.rules.length + 1 := by omega
    subst hje
    rw [hw]
    generalize (c.rules.length + 1) * c.table.length = x at *
    refine IWp.seq ?_
    refine IWp.seq ?_
    refine IWp.run [1, 3, 4, 9] ?_
    simp [go_sem, -getElem?_pos, -List.map_take, -List.map_drop, List.getElem?_cons_zero, List.getElem?_cons_succ, Go.IntWalk.iteOmega, Go.IntWalk.toNatUp, hg, hlt, show ¬ (c.rules.length : Int) + 1 ≤ c.rules.length by omega]
    refine IWp.cond ?_
    simp [go_sem, -getElem?_pos, -List.map_take, -List.map_drop, List.getElem?_cons_zero, List.getElem?_cons_succ, Go.IntWalk.iteOmega, Go.IntWalk.toNatUp, hg, hlt, show ¬ (c.rules.length : Int) + 1 ≤ c.rules.length by omega]
    refine IWp.trim [3] (IWp.exit ?_)
    simp [go_sem, -getElem?_pos, -List.map_take, -List.map_drop, List.getElem?_cons_zero, List.getElem?_cons_succ, Go.IntWalk.iteOmega, Go.IntWalk.toNatUp, hg, hlt, show ¬ (c.rules.length : Int) + 1 ≤ c.rules.length by omega]
    refine IWp.seq ?_
    refine IWp.run [2] ?_
    simp [go_sem, -getElem?_pos, -List.map_take, -List.map_drop, List.getElem?_cons_zero, List.getElem?_cons_succ, Go.IntWalk.iteOmega, Go.IntWalk.toNatUp, hg, hlt, show ¬ (c.rules.length : Int) + 1 ≤ c.rules.length by omega]
    refine IWp.ret ?_
    simp [go_sem, -getElem?_pos, -List.map_take, -List.map_drop, List.getElem?_cons_zero, List.getElem?_cons_succ, Go.IntWalk.iteOmega, Go.IntWalk.toNatUp, hg, hlt, show ¬ (c.rules.length : Int) + 1 ≤ c.rules.length by omega, Try.results27]
    try exact .same _

def inR (c : Config) (k : Int) : Prop := 0 ≤ k ∧ k < c.rules.length
instance (c : Config) (k : Int) : Decidable (inR c k) := inferInstanceAs (Decidable (_ ∧ _))
def delayAt (c : Config) (k : Int) : Int := match c.rules[k.toNat]? with | some r => r.delay | none => 0
def lateS (g : Int) (c : Config) (k : Int) : Int := if inR c k then delayAt c k + 2 * g + waitN c else 0
def goneS (g : Int) (c : Config) (k : Int) : Int := if inR c k then g + waitN c else 0

/-- Configurations whose numbers are small. -/
structure Small (c : Config) : Prop where
  rules : c.rules.length ≤ 1000
  tab0 : 0 < c.table.length
  tab : c.table.length ≤ 1000
  rows : ∀ x ∈ c.table, x.length ≤ 1000000
  delay : ∀ r ∈ c.rules, 0 ≤ r.delay ∧ r.delay ≤ 1000000

theorem gapP_in (T : List (List Int)) (k : Int) : 0 ≤ gapP T k ∧ gapP T k ≤ 2 * T.length + 1 := by
  have := gapSt_in T k T.length
  unfold gapP
  rw [Int.max_def]
  split <;> omega
theorem gapR_in (T : List (List Int)) (k : Int) : 0 ≤ gapR T k ∧ gapR T k ≤ 2 * T.length := by
  have := gapRt_in T k (2 * T.length)
  unfold gapR; omega

theorem delayAt_get {c : Config} (hS : Small c) {k : Int} (hk : inR c k) : ∃ r : Rule, (c.rules.map Rule.val)[k.toNat]? = some r.val ∧ delayAt c k = r.delay ∧ 0 ≤ r.delay ∧ r.delay ≤ 1000000 := by
  have hlt : k.toNat < c.rules.length := by have := hk.1; have := hk.2; omega
  refine ⟨c.rules[k.toNat], by simp [hlt], by unfold delayAt; rw [List.getElem?_eq_getElem hlt], hS.delay _ (List.getElem_mem hlt)⟩

theorem lateT (H : Heap) (c : Config) (hS : Small c) (k : Int) (hw : -9223372036854775808 ≤ k ∧ k < 9223372036854775808) :
    ICalls Try.prog 22 [c.val, .int .i64 k] H fun v H' => v = .int .i64 (lateS (gapP c.table k) c k) ∧ H' = H := by
  refine ICalls.ans (by simp [go_sem]) fun H => IBody.calls (by kernel_rfl) ?_
  have hh := fun K => hasT K c k
  have hgp := fun K => gapT K c k (by have := hS.tab; omega) hS.rows
  have hwt := fun K => waitT K c (by have := hS.rules; omega) (by have := hS.tab; omega)
  have hwl := waitN_le c hS.rules hS.tab
  have hg0 := gapP_in c.table k
  have ht := hS.tab
  rw [show (((c.rules.length + 1) * c.table.length : Nat) : Int) = (waitN c : Int) from rfl] at hwt
  unfold lateS
  by_cases hk : inR c k
  · obtain ⟨r, hr1, hr2, hr3⟩ := delayAt_get hS hk
    rw [if_pos hk, hr2]
    rw [if_pos (show 0 ≤ k ∧ k < (c.rules.length : Int) from hk)] at hgp
    have hkb : (decide (0 ≤ k) && decide (k < c.rules.length)) = true := by simp [hk.1, hk.2]
    rw [hkb] at hh
    have hk1 := hk.1
    have hk2 := hk.2
    generalize gapP c.table k = g at *
    generalize waitN c = w at *
    have w1 := IntWalk.i64_in (2 * g) (by omega)
    have w2 := IntWalk.i64_in (r.delay + 2 * g) (by omega)
    have w3 := IntWalk.i64_in (r.delay + 2 * g + w) (by omega)
    simp only [Config.val, Config.cells] at hh hgp hwt
    have hk3 : k.toNat < c.rules.length := by omega
    refine IBody.of Try.func22 rfl (by rw [Try.ntmps22]; simp) ?_
    rw [Try.ntmps22]
    refine IWp.seq ?_
    refine IWp.run [1, 2] ?_
    simp [go_sem, -getElem?_pos, -List.map_take, -List.map_drop, List.getElem?_cons_zero, List.getElem?_cons_succ, Go.IntWalk.iteOmega, Go.IntWalk.toNatUp, Config.val, Config.cells, Rule.val, Rule.cells, hr1, hk1, hk2, hk3, w1, w2, w3]
    refine IWp.seq ?_
    refine IWp.seq ?_
    refine IWp.run [1, 2, 8] ?_
    simp [go_sem, -getElem?_pos, -List.map_take, -List.map_drop, List.getElem?_cons_zero, List.getElem?_cons_succ, Go.IntWalk.iteOmega, Go.IntWalk.toNatUp, Config.val, Config.cells, Rule.val, Rule.cells, hr1, hk1, hk2, hk3, w1, w2, w3]
    refine ICalls.then (hh _) ?_
    try simp [go_sem, -getElem?_pos, -List.map_take, -List.map_drop, List.getElem?_cons_zero, List.getElem?_cons_succ, Go.IntWalk.iteOmega, Go.IntWalk.toNatUp, Config.val, Config.cells, Rule.val, Rule.cells, hr1, hk1, hk2, hk3, w1, w2, w3]
    refine IWp.cond ?_
    simp [go_sem, -getElem?_pos, -List.map_take, -List.map_drop, List.getElem?_cons_zero, List.getElem?_cons_succ, Go.IntWalk.iteOmega, Go.IntWalk.toNatUp, Config.val, Config.cells, Rule.val, Rule.cells, hr1, hk1, hk2, hk3, w1, w2, w3]
    refine IWp.trim [1, 2] (IWp.skip ?_)
    simp [go_sem, -getElem?_pos, -List.map_take, -List.map_drop, List.getElem?_cons_zero, List.getElem?_cons_succ, Go.IntWalk.iteOmega, Go.IntWalk.toNatUp, Config.val, Config.cells, Rule.val, Rule.cells, hr1, hk1, hk2, hk3, w1, w2, w3]
    refine IWp.seq ?_
    refine IWp.draw [4] [H.next] (.ld 6 [8, 9, 10, 12, 13, 14] (.val 0 (.val 2 (.val 7 (.val 1 (.val 3 (.val 4 (.val 5 (.val 11 (.eff 8 (.val 9 (.val 10 (.eff 12 (.val 13 (.val 14 .done)) .done))) .done)))))))))) follows (by kernel_rfl) ?_
    simp [go_sem, -getElem?_pos, -List.map_take, -List.map_drop, List.getElem?_cons_zero, List.getElem?_cons_succ, Go.IntWalk.iteOmega, Go.IntWalk.toNatUp, Config.val, Config.cells, Rule.val, Rule.cells, hr1, hk1, hk2, hk3, w1, w2, w3]
    refine ICalls.then (hgp _) ?_
    try simp [go_sem, -getElem?_pos, -List.map_take, -List.map_drop, List.getElem?_cons_zero, List.getElem?_cons_succ, Go.IntWalk.iteOmega, Go.IntWalk.toNatUp, Config.val, Config.cells, Rule.val, Rule.cells, hr1, hk1, hk2, hk3, w1, w2, w3]
    refine ICalls.then (hwt _) ?_
    try simp [go_sem, -getElem?_pos, -List.map_take, -List.map_drop, List.getElem?_cons_zero, List.getElem?_cons_succ, Go.IntWalk.iteOmega, Go.IntWalk.toNatUp, Config.val, Config.cells, Rule.val, Rule.cells, hr1, hk1, hk2, hk3, w1, w2, w3]
    refine IWp.ret ?_
    simp [go_sem, -getElem?_pos, -List.map_take, -List.map_drop, List.getElem?_cons_zero, List.getElem?_cons_succ, Go.IntWalk.iteOmega, Go.IntWalk.toNatUp, Config.val, Config.cells, Rule.val, Rule.cells, hr1, hk1, hk2, hk3, w1, w2, w3, Try.results22]
    try exact .same _
  · rw [if_neg hk]
    have hkb : (decide (0 ≤ k) && decide (k < c.rules.length)) = false := by
      by_cases h : 0 ≤ k
      · have : ¬ k < c.rules.length := fun h2 => hk ⟨h, h2⟩
        simp [this]
      · simp [h]
    rw [hkb] at hh
    simp only [Config.val, Config.cells] at hh
    refine IBody.of Try.func22 rfl (by rw [Try.ntmps22]; simp) ?_
    rw [Try.ntmps22]
    refine IWp.seq ?_
    refine IWp.run [1, 2] ?_
    simp [go_sem, -getElem?_pos, -List.map_take, -List.map_drop, List.getElem?_cons_zero, List.getElem?_cons_succ, Go.IntWalk.iteOmega, Go.IntWalk.toNatUp, Config.val, Config.cells]
    refine IWp.seq ?_
    refine IWp.seq ?_
    refine IWp.run [1, 2, 8] ?_
    simp [go_sem, -getElem?_pos, -List.map_take, -List.map_drop, List.getElem?_cons_zero, List.getElem?_cons_succ, Go.IntWalk.iteOmega, Go.IntWalk.toNatUp, Config.val, Config.cells]
    refine ICalls.then (hh _) ?_
    try simp [go_sem, -getElem?_pos, -List.map_take, -List.map_drop, List.getElem?_cons_zero, List.getElem?_cons_succ, Go.IntWalk.iteOmega, Go.IntWalk.toNatUp, Config.val, Config.cells]
    refine IWp.cond ?_
    simp [go_sem, -getElem?_pos, -List.map_take, -List.map_drop, List.getElem?_cons_zero, List.getElem?_cons_succ, Go.IntWalk.iteOmega, Go.IntWalk.toNatUp, Config.val, Config.cells]
    refine IWp.seq ?_
    refine IWp.run [4] ?_
    simp [go_sem, -getElem?_pos, -List.map_take, -List.map_drop, List.getElem?_cons_zero, List.getElem?_cons_succ, Go.IntWalk.iteOmega, Go.IntWalk.toNatUp, Config.val, Config.cells]
    refine IWp.ret ?_
    simp [go_sem, -getElem?_pos, -List.map_take, -List.map_drop, List.getElem?_cons_zero, List.getElem?_cons_succ, Go.IntWalk.iteOmega, Go.IntWalk.toNatUp, Config.val, Config.cells, Try.results22]
    try exact .same _

theorem goneT (H : Heap) (c : Config) (hS : Small c) (k : Int) (hw : -9223372036854775808 ≤ k ∧ k < 9223372036854775808) :
    ICalls Try.prog 24 [c.val, .int .i64 k] H fun v H' => v = .int .i64 (goneS (gapP c.table k) c k) ∧ H' = H := by
  refine ICalls.ans (by simp [go_sem]) fun H => IBody.calls (by kernel_rfl) ?_
  have hh := fun K => hasT K c k
  have hgp := fun K => gapT K c k (by have := hS.tab; omega) hS.rows
  have hwt := fun K => waitT K c (by have := hS.rules; omega) (by have := hS.tab; omega)
  have hwl := waitN_le c hS.rules hS.tab
  have hg0 := gapP_in c.table k
  have ht := hS.tab
  rw [show (((c.rules.length + 1) * c.table.length : Nat) : Int) = (waitN c : Int) from rfl] at hwt
  unfold goneS
  by_cases hk : inR c k
  · rw [if_pos hk]
    rw [if_pos (show 0 ≤ k ∧ k < (c.rules.length : Int) from hk)] at hgp
    have hkb : (decide (0 ≤ k) && decide (k < c.rules.length)) = true := by simp [hk.1, hk.2]
    rw [hkb] at hh
    generalize gapP c.table k = g at *
    generalize waitN c = w at *
    have w1 := IntWalk.i64_in (g + w) (by omega)
    simp only [Config.val, Config.cells] at hh hgp hwt
    refine IBody.of Try.func24 rfl (by rw [Try.ntmps24]; simp) ?_
    rw [Try.ntmps24]
    refine IWp.seq ?_
    refine IWp.run [1, 2] ?_
    simp [go_sem, -getElem?_pos, -List.map_take, -List.map_drop, List.getElem?_cons_zero, List.getElem?_cons_succ, Go.IntWalk.iteOmega, Go.IntWalk.toNatUp, Config.val, Config.cells, w1]
    refine IWp.seq ?_
    refine IWp.seq ?_
    refine IWp.run [1, 2, 8] ?_
    simp [go_sem, -getElem?_pos, -List.map_take, -List.map_drop, List.getElem?_cons_zero, List.getElem?_cons_succ, Go.IntWalk.iteOmega, Go.IntWalk.toNatUp, Config.val, Config.cells, w1]
    refine ICalls.then (hh _) ?_
    try simp [go_sem, -getElem?_pos, -List.map_take, -List.map_drop, List.getElem?_cons_zero, List.getElem?_cons_succ, Go.IntWalk.iteOmega, Go.IntWalk.toNatUp, Config.val, Config.cells, w1]
    refine IWp.cond ?_
    simp [go_sem, -getElem?_pos, -List.map_take, -List.map_drop, List.getElem?_cons_zero, List.getElem?_cons_succ, Go.IntWalk.iteOmega, Go.IntWalk.toNatUp, Config.val, Config.cells, w1]
    refine IWp.trim [1, 2] (IWp.skip ?_)
    simp [go_sem, -getElem?_pos, -List.map_take, -List.map_drop, List.getElem?_cons_zero, List.getElem?_cons_succ, Go.IntWalk.iteOmega, Go.IntWalk.toNatUp, Config.val, Config.cells, w1]
    refine IWp.seq ?_
    refine IWp.draw [4] [H.next] (.ld 0 [2, 4, 5, 6] (.val 1 (.val 3 (.eff 2 (.eff 4 (.val 5 (.val 6 .done)) .done) .done)))) follows (by kernel_rfl) ?_
    simp [go_sem, -getElem?_pos, -List.map_take, -List.map_drop, List.getElem?_cons_zero, List.getElem?_cons_succ, Go.IntWalk.iteOmega, Go.IntWalk.toNatUp, Config.val, Config.cells, w1]
    refine ICalls.then (hgp _) ?_
    try simp [go_sem, -getElem?_pos, -List.map_take, -List.map_drop, List.getElem?_cons_zero, List.getElem?_cons_succ, Go.IntWalk.iteOmega, Go.IntWalk.toNatUp, Config.val, Config.cells, w1]
    refine ICalls.then (hwt _) ?_
    try simp [go_sem, -getElem?_pos, -List.map_take, -List.map_drop, List.getElem?_cons_zero, List.getElem?_cons_succ, Go.IntWalk.iteOmega, Go.IntWalk.toNatUp, Config.val, Config.cells, w1]
    refine IWp.ret ?_
    simp [go_sem, -getElem?_pos, -List.map_take, -List.map_drop, List.getElem?_cons_zero, List.getElem?_cons_succ, Go.IntWalk.iteOmega, Go.IntWalk.toNatUp, Config.val, Config.cells, w1, Try.results24]
    try exact .same _
  · rw [if_neg hk]
    have hkb : (decide (0 ≤ k) && decide (k < c.rules.length)) = false := by
      by_cases h : 0 ≤ k
      · have : ¬ k < c.rules.length := fun h2 => hk ⟨h, h2⟩
        simp [this]
      · simp [h]
    rw [hkb] at hh
    simp only [Config.val, Config.cells] at hh
    refine IBody.of Try.func24 rfl (by rw [Try.ntmps24]; simp) ?_
    rw [Try.ntmps24]
    refine IWp.seq ?_
    refine IWp.run [1, 2] ?_
    simp [go_sem, -getElem?_pos, -List.map_take, -List.map_drop, List.getElem?_cons_zero, List.getElem?_cons_succ, Go.IntWalk.iteOmega, Go.IntWalk.toNatUp, Config.val, Config.cells]
    refine IWp.seq ?_
    refine IWp.seq ?_
    refine IWp.run [1, 2, 8] ?_
    simp [go_sem, -getElem?_pos, -List.map_take, -List.map_drop, List.getElem?_cons_zero, List.getElem?_cons_succ, Go.IntWalk.iteOmega, Go.IntWalk.toNatUp, Config.val, Config.cells]
    refine ICalls.then (hh _) ?_
    try simp [go_sem, -getElem?_pos, -List.map_take, -List.map_drop, List.getElem?_cons_zero, List.getElem?_cons_succ, Go.IntWalk.iteOmega, Go.IntWalk.toNatUp, Config.val, Config.cells]
    refine IWp.cond ?_
    simp [go_sem, -getElem?_pos, -List.map_take, -List.map_drop, List.getElem?_cons_zero, List.getElem?_cons_succ, Go.IntWalk.iteOmega, Go.IntWalk.toNatUp, Config.val, Config.cells]
    refine IWp.seq ?_
    refine IWp.run [4] ?_
    simp [go_sem, -getElem?_pos, -List.map_take, -List.map_drop, List.getElem?_cons_zero, List.getElem?_cons_succ, Go.IntWalk.iteOmega, Go.IntWalk.toNatUp, Config.val, Config.cells]
    refine IWp.ret ?_
    simp [go_sem, -getElem?_pos, -List.map_take, -List.map_drop, List.getElem?_cons_zero, List.getElem?_cons_succ, Go.IntWalk.iteOmega, Go.IntWalk.toNatUp, Config.val, Config.cells, Try.results24]
    try exact .same _

theorem refLate (H : Heap) (c : Config) (hS : Small c) (k : Int) (hw : -9223372036854775808 ≤ k ∧ k < 9223372036854775808) :
    ICalls Try.prog 23 [c.val, .int .i64 k] H fun v H' => v = .int .i64 (lateS (gapR c.table k) c k) ∧ H' = H := by
  refine ICalls.ans (by simp [go_sem]) fun H => IBody.calls (by kernel_rfl) ?_
  have hgp := fun K => refGap K c k hS.tab0 (by have := hS.tab; omega) hS.rows
  have hwt := fun K => refWait K c hS.rules hS.tab
  have hwl := waitN_le c hS.rules hS.tab
  have hg0 := gapR_in c.table k
  have ht := hS.tab
  unfold lateS
  by_cases hk : inR c k
  · obtain ⟨r, hr1, hr2, hr3⟩ := delayAt_get hS hk
    rw [if_pos hk, hr2]
    have hk1 := hk.1
    have hk2 := hk.2
    generalize gapR c.table k = g at *
    generalize waitN c = w at *
    have w1 := IntWalk.i64_in (r.delay + g) (by omega)
    have w2 := IntWalk.i64_in (r.delay + g + g) (by omega)
    have w3 := IntWalk.i64_in (r.delay + g + g + w) (by omega)
    rw [show r.delay + 2 * g + (w : Int) = r.delay + g + g + w by omega]
    simp only [Config.val, Config.cells] at hgp hwt
    have hk3 : k.toNat < c.rules.length := by omega
    refine IBody.of Try.func23 rfl (by rw [Try.ntmps23]; simp) ?_
    rw [Try.ntmps23]
    refine IWp.seq ?_
    refine IWp.run [1, 2] ?_
    simp [go_sem, -getElem?_pos, -List.map_take, -List.map_drop, List.getElem?_cons_zero, List.getElem?_cons_succ, Go.IntWalk.iteOmega, Go.IntWalk.toNatUp, Config.val, Config.cells, Rule.val, Rule.cells, hr1, hk1, hk2, hk3, w1, w2, w3, show ¬ k < 0 by omega]
    refine IWp.seq ?_
    refine IWp.seq ?_
    refine IWp.run [1, 2, 13] ?_
    simp [go_sem, -getElem?_pos, -List.map_take, -List.map_drop, List.getElem?_cons_zero, List.getElem?_cons_succ, Go.IntWalk.iteOmega, Go.IntWalk.toNatUp, Config.val, Config.cells, Rule.val, Rule.cells, hr1, hk1, hk2, hk3, w1, w2, w3, show ¬ k < 0 by omega]
    refine IWp.cond ?_
    simp [go_sem, -getElem?_pos, -List.map_take, -List.map_drop, List.getElem?_cons_zero, List.getElem?_cons_succ, Go.IntWalk.iteOmega, Go.IntWalk.toNatUp, Config.val, Config.cells, Rule.val, Rule.cells, hr1, hk1, hk2, hk3, w1, w2, w3, show ¬ k < 0 by omega]
    refine IWp.trim [1, 2] (IWp.skip ?_)
    simp [go_sem, -getElem?_pos, -List.map_take, -List.map_drop, List.getElem?_cons_zero, List.getElem?_cons_succ, Go.IntWalk.iteOmega, Go.IntWalk.toNatUp, Config.val, Config.cells, Rule.val, Rule.cells, hr1, hk1, hk2, hk3, w1, w2, w3, show ¬ k < 0 by omega]
    refine IWp.seq ?_
    refine IWp.draw [4] [H.next] (.ld 6 [8, 9, 12, 13, 15, 16, 17] (.val 0 (.val 2 (.val 7 (.val 11 (.val 1 (.val 3 (.val 4 (.val 5 (.val 10 (.val 14 (.eff 8 (.val 9 (.eff 12 (.val 13 (.eff 15 (.val 16 (.val 17 .done)) .done)) .done)) .done)))))))))))) follows (by kernel_rfl) ?_
    simp [go_sem, -getElem?_pos, -List.map_take, -List.map_drop, List.getElem?_cons_zero, List.getElem?_cons_succ, Go.IntWalk.iteOmega, Go.IntWalk.toNatUp, Config.val, Config.cells, Rule.val, Rule.cells, hr1, hk1, hk2, hk3, w1, w2, w3, show ¬ k < 0 by omega]
    refine ICalls.then (hgp _) ?_
    try simp [go_sem, -getElem?_pos, -List.map_take, -List.map_drop, List.getElem?_cons_zero, List.getElem?_cons_succ, Go.IntWalk.iteOmega, Go.IntWalk.toNatUp, Config.val, Config.cells, Rule.val, Rule.cells, hr1, hk1, hk2, hk3, w1, w2, w3, show ¬ k < 0 by omega]
    refine ICalls.then (hgp _) ?_
    try simp [go_sem, -getElem?_pos, -List.map_take, -List.map_drop, List.getElem?_cons_zero, List.getElem?_cons_succ, Go.IntWalk.iteOmega, Go.IntWalk.toNatUp, Config.val, Config.cells, Rule.val, Rule.cells, hr1, hk1, hk2, hk3, w1, w2, w3, show ¬ k < 0 by omega]
    refine ICalls.then (hwt _) ?_
    try simp [go_sem, -getElem?_pos, -List.map_take, -List.map_drop, List.getElem?_cons_zero, List.getElem?_cons_succ, Go.IntWalk.iteOmega, Go.IntWalk.toNatUp, Config.val, Config.cells, Rule.val, Rule.cells, hr1, hk1, hk2, hk3, w1, w2, w3, show ¬ k < 0 by omega]
    refine IWp.ret ?_
    simp [go_sem, -getElem?_pos, -List.map_take, -List.map_drop, List.getElem?_cons_zero, List.getElem?_cons_succ, Go.IntWalk.iteOmega, Go.IntWalk.toNatUp, Config.val, Config.cells, Rule.val, Rule.cells, hr1, hk1, hk2, hk3, w1, w2, w3, show ¬ k < 0 by omega, Try.results23]
    try exact .same _
  · rw [if_neg hk]
    by_cases h : k < 0
    · skip
      refine IBody.of Try.func23 rfl (by rw [Try.ntmps23]; simp) ?_
      rw [Try.ntmps23]
      refine IWp.seq ?_
      refine IWp.run [1, 2] ?_
      simp [go_sem, -getElem?_pos, -List.map_take, -List.map_drop, List.getElem?_cons_zero, List.getElem?_cons_succ, Go.IntWalk.iteOmega, Go.IntWalk.toNatUp, Config.val, Config.cells, h]
      refine IWp.seq ?_
      refine IWp.seq ?_
      refine IWp.run [1, 2, 13] ?_
      simp [go_sem, -getElem?_pos, -List.map_take, -List.map_drop, List.getElem?_cons_zero, List.getElem?_cons_succ, Go.IntWalk.iteOmega, Go.IntWalk.toNatUp, Config.val, Config.cells, h]
      refine IWp.cond ?_
      simp [go_sem, -getElem?_pos, -List.map_take, -List.map_drop, List.getElem?_cons_zero, List.getElem?_cons_succ, Go.IntWalk.iteOmega, Go.IntWalk.toNatUp, Config.val, Config.cells, h]
      refine IWp.seq ?_
      refine IWp.run [4] ?_
      simp [go_sem, -getElem?_pos, -List.map_take, -List.map_drop, List.getElem?_cons_zero, List.getElem?_cons_succ, Go.IntWalk.iteOmega, Go.IntWalk.toNatUp, Config.val, Config.cells, h]
      refine IWp.ret ?_
      simp [go_sem, -getElem?_pos, -List.map_take, -List.map_drop, List.getElem?_cons_zero, List.getElem?_cons_succ, Go.IntWalk.iteOmega, Go.IntWalk.toNatUp, Config.val, Config.cells, h, Try.results23]
      try exact .same _
    · have h2 : (c.rules.length : Int) ≤ k := by
        have : ¬ k < c.rules.length := fun h2 => hk ⟨by omega, h2⟩
        omega
      refine IBody.of Try.func23 rfl (by rw [Try.ntmps23]; simp) ?_
      rw [Try.ntmps23]
      refine IWp.seq ?_
      refine IWp.run [1, 2] ?_
      simp [go_sem, -getElem?_pos, -List.map_take, -List.map_drop, List.getElem?_cons_zero, List.getElem?_cons_succ, Go.IntWalk.iteOmega, Go.IntWalk.toNatUp, Config.val, Config.cells, h, h2]
      refine IWp.seq ?_
      refine IWp.seq ?_
      refine IWp.run [1, 2, 13] ?_
      simp [go_sem, -getElem?_pos, -List.map_take, -List.map_drop, List.getElem?_cons_zero, List.getElem?_cons_succ, Go.IntWalk.iteOmega, Go.IntWalk.toNatUp, Config.val, Config.cells, h, h2]
      refine IWp.cond ?_
      simp [go_sem, -getElem?_pos, -List.map_take, -List.map_drop, List.getElem?_cons_zero, List.getElem?_cons_succ, Go.IntWalk.iteOmega, Go.IntWalk.toNatUp, Config.val, Config.cells, h, h2]
      refine IWp.seq ?_
      refine IWp.run [4] ?_
      simp [go_sem, -getElem?_pos, -List.map_take, -List.map_drop, List.getElem?_cons_zero, List.getElem?_cons_succ, Go.IntWalk.iteOmega, Go.IntWalk.toNatUp, Config.val, Config.cells, h, h2]
      refine IWp.ret ?_
      simp [go_sem, -getElem?_pos, -List.map_take, -List.map_drop, List.getElem?_cons_zero, List.getElem?_cons_succ, Go.IntWalk.iteOmega, Go.IntWalk.toNatUp, Config.val, Config.cells, h, h2, Try.results23]
      try exact .same _

theorem refGone (H : Heap) (c : Config) (hS : Small c) (k : Int) (hw : -9223372036854775808 ≤ k ∧ k < 9223372036854775808) :
    ICalls Try.prog 25 [c.val, .int .i64 k] H fun v H' => v = .int .i64 (goneS (gapR c.table k) c k) ∧ H' = H := by
  refine ICalls.ans (by simp [go_sem]) fun H => IBody.calls (by kernel_rfl) ?_
  have hgp := fun K => refGap K c k hS.tab0 (by have := hS.tab; omega) hS.rows
  have hwt := fun K => refWait K c hS.rules hS.tab
  have hwl := waitN_le c hS.rules hS.tab
  have hg0 := gapR_in c.table k
  have ht := hS.tab
  unfold goneS
  by_cases hk : inR c k
  · rw [if_pos hk]
    have hk1 := hk.1
    have hk2 := hk.2
    generalize gapR c.table k = g at *
    generalize waitN c = w at *
    have w1 := IntWalk.i64_in (g + w) (by omega)
    simp only [Config.val, Config.cells] at hgp hwt
    refine IBody.of Try.func25 rfl (by rw [Try.ntmps25]; simp) ?_
    rw [Try.ntmps25]
    refine IWp.seq ?_
    refine IWp.run [1, 2] ?_
    simp [go_sem, -getElem?_pos, -List.map_take, -List.map_drop, List.getElem?_cons_zero, List.getElem?_cons_succ, Go.IntWalk.iteOmega, Go.IntWalk.toNatUp, Config.val, Config.cells, hk1, hk2, w1, show ¬ k < 0 by omega]
    refine IWp.seq ?_
    refine IWp.seq ?_
    refine IWp.run [1, 2, 13] ?_
    simp [go_sem, -getElem?_pos, -List.map_take, -List.map_drop, List.getElem?_cons_zero, List.getElem?_cons_succ, Go.IntWalk.iteOmega, Go.IntWalk.toNatUp, Config.val, Config.cells, hk1, hk2, w1, show ¬ k < 0 by omega]
    refine IWp.cond ?_
    simp [go_sem, -getElem?_pos, -List.map_take, -List.map_drop, List.getElem?_cons_zero, List.getElem?_cons_succ, Go.IntWalk.iteOmega, Go.IntWalk.toNatUp, Config.val, Config.cells, hk1, hk2, w1, show ¬ k < 0 by omega]
    refine IWp.trim [1, 2] (IWp.skip ?_)
    simp [go_sem, -getElem?_pos, -List.map_take, -List.map_drop, List.getElem?_cons_zero, List.getElem?_cons_succ, Go.IntWalk.iteOmega, Go.IntWalk.toNatUp, Config.val, Config.cells, hk1, hk2, w1, show ¬ k < 0 by omega]
    refine IWp.seq ?_
    refine IWp.draw [4] [H.next] (.ld 0 [2, 4, 5, 6] (.val 1 (.val 3 (.eff 2 (.eff 4 (.val 5 (.val 6 .done)) .done) .done)))) follows (by kernel_rfl) ?_
    simp [go_sem, -getElem?_pos, -List.map_take, -List.map_drop, List.getElem?_cons_zero, List.getElem?_cons_succ, Go.IntWalk.iteOmega, Go.IntWalk.toNatUp, Config.val, Config.cells, hk1, hk2, w1, show ¬ k < 0 by omega]
    refine ICalls.then (hgp _) ?_
    try simp [go_sem, -getElem?_pos, -List.map_take, -List.map_drop, List.getElem?_cons_zero, List.getElem?_cons_succ, Go.IntWalk.iteOmega, Go.IntWalk.toNatUp, Config.val, Config.cells, hk1, hk2, w1, show ¬ k < 0 by omega]
    refine ICalls.then (hwt _) ?_
    try simp [go_sem, -getElem?_pos, -List.map_take, -List.map_drop, List.getElem?_cons_zero, List.getElem?_cons_succ, Go.IntWalk.iteOmega, Go.IntWalk.toNatUp, Config.val, Config.cells, hk1, hk2, w1, show ¬ k < 0 by omega]
    refine IWp.ret ?_
    simp [go_sem, -getElem?_pos, -List.map_take, -List.map_drop, List.getElem?_cons_zero, List.getElem?_cons_succ, Go.IntWalk.iteOmega, Go.IntWalk.toNatUp, Config.val, Config.cells, hk1, hk2, w1, show ¬ k < 0 by omega, Try.results25]
    try exact .same _
  · rw [if_neg hk]
    by_cases h : k < 0
    · skip
      refine IBody.of Try.func25 rfl (by rw [Try.ntmps25]; simp) ?_
      rw [Try.ntmps25]
      refine IWp.seq ?_
      refine IWp.run [1, 2] ?_
      simp [go_sem, -getElem?_pos, -List.map_take, -List.map_drop, List.getElem?_cons_zero, List.getElem?_cons_succ, Go.IntWalk.iteOmega, Go.IntWalk.toNatUp, Config.val, Config.cells, h]
      refine IWp.seq ?_
      refine IWp.seq ?_
      refine IWp.run [1, 2, 13] ?_
      simp [go_sem, -getElem?_pos, -List.map_take, -List.map_drop, List.getElem?_cons_zero, List.getElem?_cons_succ, Go.IntWalk.iteOmega, Go.IntWalk.toNatUp, Config.val, Config.cells, h]
      refine IWp.cond ?_
      simp [go_sem, -getElem?_pos, -List.map_take, -List.map_drop, List.getElem?_cons_zero, List.getElem?_cons_succ, Go.IntWalk.iteOmega, Go.IntWalk.toNatUp, Config.val, Config.cells, h]
      refine IWp.seq ?_
      refine IWp.run [4] ?_
      simp [go_sem, -getElem?_pos, -List.map_take, -List.map_drop, List.getElem?_cons_zero, List.getElem?_cons_succ, Go.IntWalk.iteOmega, Go.IntWalk.toNatUp, Config.val, Config.cells, h]
      refine IWp.ret ?_
      simp [go_sem, -getElem?_pos, -List.map_take, -List.map_drop, List.getElem?_cons_zero, List.getElem?_cons_succ, Go.IntWalk.iteOmega, Go.IntWalk.toNatUp, Config.val, Config.cells, h, Try.results25]
      try exact .same _
    · have h2 : (c.rules.length : Int) ≤ k := by
        have : ¬ k < c.rules.length := fun h2 => hk ⟨by omega, h2⟩
        omega
      refine IBody.of Try.func25 rfl (by rw [Try.ntmps25]; simp) ?_
      rw [Try.ntmps25]
      refine IWp.seq ?_
      refine IWp.run [1, 2] ?_
      simp [go_sem, -getElem?_pos, -List.map_take, -List.map_drop, List.getElem?_cons_zero, List.getElem?_cons_succ, Go.IntWalk.iteOmega, Go.IntWalk.toNatUp, Config.val, Config.cells, h, h2]
      refine IWp.seq ?_
      refine IWp.seq ?_
      refine IWp.run [1, 2, 13] ?_
      simp [go_sem, -getElem?_pos, -List.map_take, -List.map_drop, List.getElem?_cons_zero, List.getElem?_cons_succ, Go.IntWalk.iteOmega, Go.IntWalk.toNatUp, Config.val, Config.cells, h, h2]
      refine IWp.cond ?_
      simp [go_sem, -getElem?_pos, -List.map_take, -List.map_drop, List.getElem?_cons_zero, List.getElem?_cons_succ, Go.IntWalk.iteOmega, Go.IntWalk.toNatUp, Config.val, Config.cells, h, h2]
      refine IWp.seq ?_
      refine IWp.run [4] ?_
      simp [go_sem, -getElem?_pos, -List.map_take, -List.map_drop, List.getElem?_cons_zero, List.getElem?_cons_succ, Go.IntWalk.iteOmega, Go.IntWalk.toNatUp, Config.val, Config.cells, h, h2]
      refine IWp.ret ?_
      simp [go_sem, -getElem?_pos, -List.map_take, -List.map_drop, List.getElem?_cons_zero, List.getElem?_cons_succ, Go.IntWalk.iteOmega, Go.IntWalk.toNatUp, Config.val, Config.cells, h, h2, Try.results25]
      try exact .same _

theorem sameI (H : Heap) (m k : Int) (L M : List Int) (hl : L.length ≤ 1000000) :
    ICalls Try.prog 17 [frow 1 m (L.map (Value.int .i64)), frow 1 k (M.map (Value.int .i64))] H fun v H' => v = .bool (decide (L = M)) ∧ H' = H := by
  refine IBody.calls (by kernel_rfl) ?_
  by_cases hlen : L.length = M.length
  · skip
    refine IBody.of Try.func17 rfl (by rw [Try.ntmps17]; simp) ?_
    rw [Try.ntmps17]
    refine IWp.seq ?_
    refine IWp.run [0, 1] ?_
    simp [go_sem, -getElem?_pos, -List.map_take, -List.map_drop, List.getElem?_cons_zero, List.getElem?_cons_succ, Go.IntWalk.iteOmega, Go.IntWalk.toNatUp, hlen]
    refine IWp.seq ?_
    refine IWp.seq ?_
    refine IWp.run [0, 1, 10] ?_
    simp [go_sem, -getElem?_pos, -List.map_take, -List.map_drop, List.getElem?_cons_zero, List.getElem?_cons_succ, Go.IntWalk.iteOmega, Go.IntWalk.toNatUp, hlen]
    refine IWp.cond ?_
    simp [go_sem, -getElem?_pos, -List.map_take, -List.map_drop, List.getElem?_cons_zero, List.getElem?_cons_succ, Go.IntWalk.iteOmega, Go.IntWalk.toNatUp, hlen]
    refine IWp.trim [0, 1] (IWp.skip ?_)
    simp [go_sem, -getElem?_pos, -List.map_take, -List.map_drop, List.getElem?_cons_zero, List.getElem?_cons_succ, Go.IntWalk.iteOmega, Go.IntWalk.toNatUp, hlen]
    refine IWp.seq ?_
    refine IWp.seq ?_
    refine IWp.run [0, 1, 5] ?_
    simp [go_sem, -getElem?_pos, -List.map_take, -List.map_drop, List.getElem?_cons_zero, List.getElem?_cons_succ, Go.IntWalk.iteOmega, Go.IntWalk.toNatUp, hlen]
    refine IWp.block ?_
    -- LOOP live [0, 1, 5]
    refine IWp.loop (fun j e K => ∃ i : Nat, j = L.length - i ∧ i ≤ L.length ∧ e = [(0, frow 1 m (L.map (Value.int .i64))), (1, frow 1 k (M.map (Value.int .i64))), (5, .int .i64 (i : Int))] ∧ K = H ∧ L.take i = M.take i) L.length ⟨0, rfl, Nat.zero_le _, rfl, rfl, rfl⟩ ?_
    rintro j e K ⟨i, rfl, hi, rfl, rfl, hpre⟩
    by_cases hlt : i < L.length
    · have hltM : i < M.length := by omega
      have w1 := IntWalk.i64_in ((i : Int) + 1) (by omega)
      by_cases he : L[i] = M[i]
      · skip
        refine IWp.seq ?_
        refine IWp.seq ?_
        refine IWp.run [0, 1, 5, 14] ?_
        simp [go_sem, -getElem?_pos, -List.map_take, -List.map_drop, List.getElem?_cons_zero, List.getElem?_cons_succ, Go.IntWalk.iteOmega, Go.IntWalk.toNatUp, hlt, hltM, List.getElem?_eq_getElem hlt, List.getElem?_eq_getElem hltM, he, w1, show ¬ ((i : Int) < 0) by omega, show (i : Int) < M.length by omega]
        refine IWp.cond ?_
        simp [go_sem, -getElem?_pos, -List.map_take, -List.map_drop, List.getElem?_cons_zero, List.getElem?_cons_succ, Go.IntWalk.iteOmega, Go.IntWalk.toNatUp, hlt, hltM, List.getElem?_eq_getElem hlt, List.getElem?_eq_getElem hltM, he, w1, show ¬ ((i : Int) < 0) by omega, show (i : Int) < M.length by omega]
        refine IWp.trim [0, 1, 5] (IWp.skip ?_)
        simp [go_sem, -getElem?_pos, -List.map_take, -List.map_drop, List.getElem?_cons_zero, List.getElem?_cons_succ, Go.IntWalk.iteOmega, Go.IntWalk.toNatUp, hlt, hltM, List.getElem?_eq_getElem hlt, List.getElem?_eq_getElem hltM, he, w1, show ¬ ((i : Int) < 0) by omega, show (i : Int) < M.length by omega]
        refine IWp.seq ?_
        refine IWp.block ?_
        refine IWp.seq ?_
        refine IWp.read [0, 1, 5, 25] follows (by kernel_rfl) ?_
        simp [go_sem, -getElem?_pos, -List.map_take, -List.map_drop, List.getElem?_cons_zero, List.getElem?_cons_succ, Go.IntWalk.iteOmega, Go.IntWalk.toNatUp, hlt, hltM, List.getElem?_eq_getElem hlt, List.getElem?_eq_getElem hltM, he, w1, show ¬ ((i : Int) < 0) by omega, show (i : Int) < M.length by omega]
        refine IWp.cond ?_
        simp [go_sem, -getElem?_pos, -List.map_take, -List.map_drop, List.getElem?_cons_zero, List.getElem?_cons_succ, Go.IntWalk.iteOmega, Go.IntWalk.toNatUp, hlt, hltM, List.getElem?_eq_getElem hlt, List.getElem?_eq_getElem hltM, he, w1, show ¬ ((i : Int) < 0) by omega, show (i : Int) < M.length by omega]
        refine IWp.trim [0, 1, 5] (IWp.skip ?_)
        simp [go_sem, -getElem?_pos, -List.map_take, -List.map_drop, List.getElem?_cons_zero, List.getElem?_cons_succ, Go.IntWalk.iteOmega, Go.IntWalk.toNatUp, hlt, hltM, List.getElem?_eq_getElem hlt, List.getElem?_eq_getElem hltM, he, w1, show ¬ ((i : Int) < 0) by omega, show (i : Int) < M.length by omega]
        refine IWp.run [0, 1, 5] ?_
        simp [go_sem, -getElem?_pos, -List.map_take, -List.map_drop, List.getElem?_cons_zero, List.getElem?_cons_succ, Go.IntWalk.iteOmega, Go.IntWalk.toNatUp, hlt, hltM, List.getElem?_eq_getElem hlt, List.getElem?_eq_getElem hltM, he, w1, show ¬ ((i : Int) < 0) by omega, show (i : Int) < M.length by omega]
        exact ⟨L.length - (i + 1), by omega, i + 1, rfl, by omega, rfl, by rw [List.take_succ_eq_append_getElem hlt, List.take_succ_eq_append_getElem hltM, hpre, he]⟩
      · skip
        refine IWp.seq ?_
        refine IWp.seq ?_
        refine IWp.run [0, 1, 5, 14] ?_
        simp [go_sem, -getElem?_pos, -List.map_take, -List.map_drop, List.getElem?_cons_zero, List.getElem?_cons_succ, Go.IntWalk.iteOmega, Go.IntWalk.toNatUp, hlt, hltM, List.getElem?_eq_getElem hlt, List.getElem?_eq_getElem hltM, he, w1, show ¬ ((i : Int) < 0) by omega, show (i : Int) < M.length by omega]
        refine IWp.cond ?_
        simp [go_sem, -getElem?_pos, -List.map_take, -List.map_drop, List.getElem?_cons_zero, List.getElem?_cons_succ, Go.IntWalk.iteOmega, Go.IntWalk.toNatUp, hlt, hltM, List.getElem?_eq_getElem hlt, List.getElem?_eq_getElem hltM, he, w1, show ¬ ((i : Int) < 0) by omega, show (i : Int) < M.length by omega]
        refine IWp.trim [0, 1, 5] (IWp.skip ?_)
        simp [go_sem, -getElem?_pos, -List.map_take, -List.map_drop, List.getElem?_cons_zero, List.getElem?_cons_succ, Go.IntWalk.iteOmega, Go.IntWalk.toNatUp, hlt, hltM, List.getElem?_eq_getElem hlt, List.getElem?_eq_getElem hltM, he, w1, show ¬ ((i : Int) < 0) by omega, show (i : Int) < M.length by omega]
        refine IWp.seq ?_
        refine IWp.block ?_
        refine IWp.seq ?_
        refine IWp.read [0, 1, 5, 25] follows (by kernel_rfl) ?_
        simp [go_sem, -getElem?_pos, -List.map_take, -List.map_drop, List.getElem?_cons_zero, List.getElem?_cons_succ, Go.IntWalk.iteOmega, Go.IntWalk.toNatUp, hlt, hltM, List.getElem?_eq_getElem hlt, List.getElem?_eq_getElem hltM, he, w1, show ¬ ((i : Int) < 0) by omega, show (i : Int) < M.length by omega]
        refine IWp.cond ?_
        simp [go_sem, -getElem?_pos, -List.map_take, -List.map_drop, List.getElem?_cons_zero, List.getElem?_cons_succ, Go.IntWalk.iteOmega, Go.IntWalk.toNatUp, hlt, hltM, List.getElem?_eq_getElem hlt, List.getElem?_eq_getElem hltM, he, w1, show ¬ ((i : Int) < 0) by omega, show (i : Int) < M.length by omega]
        refine IWp.seq ?_
        refine IWp.run [4] ?_
        simp [go_sem, -getElem?_pos, -List.map_take, -List.map_drop, List.getElem?_cons_zero, List.getElem?_cons_succ, Go.IntWalk.iteOmega, Go.IntWalk.toNatUp, hlt, hltM, List.getElem?_eq_getElem hlt, List.getElem?_eq_getElem hltM, he, w1, show ¬ ((i : Int) < 0) by omega, show (i : Int) < M.length by omega]
        refine IWp.ret ?_
        simp [go_sem, -getElem?_pos, -List.map_take, -List.map_drop, List.getElem?_cons_zero, List.getElem?_cons_succ, Go.IntWalk.iteOmega, Go.IntWalk.toNatUp, hlt, hltM, List.getElem?_eq_getElem hlt, List.getElem?_eq_getElem hltM, he, w1, show ¬ ((i : Int) < 0) by omega, show (i : Int) < M.length by omega, Try.results17]
        exact fun e => he (by subst e; rfl)
    · skip
      refine IWp.seq ?_
      refine IWp.seq ?_
      refine IWp.run [0, 1, 5, 14] ?_
      simp [go_sem, -getElem?_pos, -List.map_take, -List.map_drop, List.getElem?_cons_zero, List.getElem?_cons_succ, Go.IntWalk.iteOmega, Go.IntWalk.toNatUp, show ¬ ((i : Int) < M.length) by omega]
      refine IWp.cond ?_
      simp [go_sem, -getElem?_pos, -List.map_take, -List.map_drop, List.getElem?_cons_zero, List.getElem?_cons_succ, Go.IntWalk.iteOmega, Go.IntWalk.toNatUp, show ¬ ((i : Int) < M.length) by omega]
      refine IWp.trim [] (IWp.exit ?_)
      simp [go_sem, -getElem?_pos, -List.map_take, -List.map_drop, List.getElem?_cons_zero, List.getElem?_cons_succ, Go.IntWalk.iteOmega, Go.IntWalk.toNatUp, show ¬ ((i : Int) < M.length) by omega]
      refine IWp.seq ?_
      refine IWp.run [4] ?_
      simp [go_sem, -getElem?_pos, -List.map_take, -List.map_drop, List.getElem?_cons_zero, List.getElem?_cons_succ, Go.IntWalk.iteOmega, Go.IntWalk.toNatUp, show ¬ ((i : Int) < M.length) by omega]
      refine IWp.ret ?_
      simp [go_sem, -getElem?_pos, -List.map_take, -List.map_drop, List.getElem?_cons_zero, List.getElem?_cons_succ, Go.IntWalk.iteOmega, Go.IntWalk.toNatUp, show ¬ ((i : Int) < M.length) by omega, Try.results17]
      rw [← List.take_of_length_le (show L.length ≤ i by omega), hpre, List.take_of_length_le (by omega)]
  · skip
    refine IBody.of Try.func17 rfl (by rw [Try.ntmps17]; simp) ?_
    rw [Try.ntmps17]
    refine IWp.seq ?_
    refine IWp.run [0, 1] ?_
    simp [go_sem, -getElem?_pos, -List.map_take, -List.map_drop, List.getElem?_cons_zero, List.getElem?_cons_succ, Go.IntWalk.iteOmega, Go.IntWalk.toNatUp, hlen, show ¬ ((L.length : Int) = M.length) by omega]
    refine IWp.seq ?_
    refine IWp.seq ?_
    refine IWp.run [0, 1, 10] ?_
    simp [go_sem, -getElem?_pos, -List.map_take, -List.map_drop, List.getElem?_cons_zero, List.getElem?_cons_succ, Go.IntWalk.iteOmega, Go.IntWalk.toNatUp, hlen, show ¬ ((L.length : Int) = M.length) by omega]
    refine IWp.cond ?_
    simp [go_sem, -getElem?_pos, -List.map_take, -List.map_drop, List.getElem?_cons_zero, List.getElem?_cons_succ, Go.IntWalk.iteOmega, Go.IntWalk.toNatUp, hlen, show ¬ ((L.length : Int) = M.length) by omega]
    refine IWp.seq ?_
    refine IWp.run [4] ?_
    simp [go_sem, -getElem?_pos, -List.map_take, -List.map_drop, List.getElem?_cons_zero, List.getElem?_cons_succ, Go.IntWalk.iteOmega, Go.IntWalk.toNatUp, hlen, show ¬ ((L.length : Int) = M.length) by omega]
    refine IWp.ret ?_
    simp [go_sem, -getElem?_pos, -List.map_take, -List.map_drop, List.getElem?_cons_zero, List.getElem?_cons_succ, Go.IntWalk.iteOmega, Go.IntWalk.toNatUp, hlen, show ¬ ((L.length : Int) = M.length) by omega, Try.results17]
    exact fun e => hlen (by rw [e])

end Go.Proofs.Ytmiinclnpcokkaa.I
