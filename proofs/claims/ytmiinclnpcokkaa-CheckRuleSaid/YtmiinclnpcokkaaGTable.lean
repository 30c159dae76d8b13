/- Tables: who is looked at when; gaps, and how late conditions may be shown: what the program and the document answer. No condition. -/
import Derived.Test.YtmiinclnpcokkaaGConf
namespace Go.Proofs.Ytmiinclnpcokkaa.I
open Go Go.RowKit
set_option linter.unusedVariables false
set_option linter.unusedSimpArgs false

/-- Who is looked at at a tick. -/
def slotAt (T : List (List Int)) (now : Int) : List Int := if now < 1 then [] else T.getD ((now - 1) % T.length).toNat []

theorem cloneI_own (H : Heap) (m : Int) (L : List Int) (hL : L.length ≤ 1000000) :
    ICalls Try.prog 35 [frow 1 m (L.map (Value.int .i64))] H fun v H' => Bld 1 H' H.next v (L.map (Value.int .i64)) ∧ Old H H' := by
  refine IBody.calls (by kernel_rfl) ?_
  cases L with
  | nil =>
    refine IBody.none_or ?_ ?_
    · skip
      refine IBody.of Try.func35 rfl (by rw [Try.ntmps35]; simp) ?_
      rw [Try.ntmps35]
      refine IWp.seq ?_
      refine IWp.run [0] ?_
      simp [go_sem, -getElem?_pos, -List.map_take, -List.map_drop, List.getElem?_cons_zero, List.getElem?_cons_succ, Go.IntWalk.iteOmega, Go.IntWalk.toNatUp]
      refine IWp.seq ?_
      refine IWp.seq ?_
      refine IWp.run [0, 4] ?_
      simp [go_sem, -getElem?_pos, -List.map_take, -List.map_drop, List.getElem?_cons_zero, List.getElem?_cons_succ, Go.IntWalk.iteOmega, Go.IntWalk.toNatUp]
      refine IWp.cond ?_
      simp [go_sem, -getElem?_pos, -List.map_take, -List.map_drop, List.getElem?_cons_zero, List.getElem?_cons_succ, Go.IntWalk.iteOmega, Go.IntWalk.toNatUp]
      refine IWp.seq ?_
      refine IWp.run [2] ?_
      simp [go_sem, -getElem?_pos, -List.map_take, -List.map_drop, List.getElem?_cons_zero, List.getElem?_cons_succ, Go.IntWalk.iteOmega, Go.IntWalk.toNatUp]
      refine IWp.ret ?_
      simp [go_sem, -getElem?_pos, -List.map_take, -List.map_drop, List.getElem?_cons_zero, List.getElem?_cons_succ, Go.IntWalk.iteOmega, Go.IntWalk.toNatUp, Try.results35]
      exact ⟨Bld.nil _ _ _, Old.refl H⟩
    · skip
      refine IBody.of Try.func35 rfl (by rw [Try.ntmps35]; simp) ?_
      rw [Try.ntmps35]
      refine IWp.seq ?_
      refine IWp.run [0] ?_
      simp [go_sem, -getElem?_pos, -List.map_take, -List.map_drop, List.getElem?_cons_zero, List.getElem?_cons_succ, Go.IntWalk.iteOmega, Go.IntWalk.toNatUp]
      refine IWp.seq ?_
      refine IWp.seq ?_
      refine IWp.run [0, 4] ?_
      simp [go_sem, -getElem?_pos, -List.map_take, -List.map_drop, List.getElem?_cons_zero, List.getElem?_cons_succ, Go.IntWalk.iteOmega, Go.IntWalk.toNatUp]
      refine IWp.cond ?_
      simp [go_sem, -getElem?_pos, -List.map_take, -List.map_drop, List.getElem?_cons_zero, List.getElem?_cons_succ, Go.IntWalk.iteOmega, Go.IntWalk.toNatUp]
      refine IWp.trim [0] (IWp.skip ?_)
      simp [go_sem, -getElem?_pos, -List.map_take, -List.map_drop, List.getElem?_cons_zero, List.getElem?_cons_succ, Go.IntWalk.iteOmega, Go.IntWalk.toNatUp]
      refine IWp.seq ?_
      refine IWp.run [2] ?_
      simp [go_sem, -getElem?_pos, -List.map_take, -List.map_drop, List.getElem?_cons_zero, List.getElem?_cons_succ, Go.IntWalk.iteOmega, Go.IntWalk.toNatUp]
      refine IWp.ret ?_
      simp [go_sem, -getElem?_pos, -List.map_take, -List.map_drop, List.getElem?_cons_zero, List.getElem?_cons_succ, Go.IntWalk.iteOmega, Go.IntWalk.toNatUp, Try.results35]
      exact ⟨⟨fun _ h => (by cases h), .inr ⟨H.next, Nat.le_refl _, rfl, by simp [get_alloc]⟩⟩, (Old.refl H).alloc _⟩
  | cons x L =>
    have hb : Bld 1 (H.alloc []) H.next (.slice (some ⟨H.next, 0, some 1⟩) 0 1) [] := ⟨fun _ h => (by cases h), .inr ⟨H.next, Nat.le_refl _, rfl, by simp [get_alloc]⟩⟩
    obtain ⟨v, H', e, b1, b2, b3, _⟩ := app_own (P := Try.prog) (t := 36) (e := 3) (sz := 1) (by_ := 8) (z := .int .i64 0) (ws := (x :: L).map (Value.int .i64)) (x := frow 1 m ((x :: L).map (Value.int .i64))) (by kernel_rfl) (by kernel_rfl) (by kernel_rfl) (by kernel_rfl) (by rfl) hb (map_sz .i64 _) (by simp [irow_frow]) (by rw [map_flat]; exact map_one .i64 _) (by rw [next_alloc]; omega) (by simp at hL ⊢; omega) (by simp at hL ⊢; omega)
    simp only [List.map_cons] at e b1 ⊢
    refine IBody.of Try.func35 rfl (by rw [Try.ntmps35]; simp) ?_
    rw [Try.ntmps35]
    refine IWp.seq ?_
    refine IWp.run [0] ?_
    simp [go_sem, -getElem?_pos, -List.map_take, -List.map_drop, List.getElem?_cons_zero, List.getElem?_cons_succ, Go.IntWalk.iteOmega, Go.IntWalk.toNatUp, e]
    refine IWp.seq ?_
    refine IWp.seq ?_
    refine IWp.run [0, 4] ?_
    simp [go_sem, -getElem?_pos, -List.map_take, -List.map_drop, List.getElem?_cons_zero, List.getElem?_cons_succ, Go.IntWalk.iteOmega, Go.IntWalk.toNatUp, e]
    refine IWp.cond ?_
    simp [go_sem, -getElem?_pos, -List.map_take, -List.map_drop, List.getElem?_cons_zero, List.getElem?_cons_succ, Go.IntWalk.iteOmega, Go.IntWalk.toNatUp, e]
    refine IWp.trim [0] (IWp.skip ?_)
    simp [go_sem, -getElem?_pos, -List.map_take, -List.map_drop, List.getElem?_cons_zero, List.getElem?_cons_succ, Go.IntWalk.iteOmega, Go.IntWalk.toNatUp, e]
    refine IWp.seq ?_
    refine IWp.run [2] ?_
    simp [go_sem, -getElem?_pos, -List.map_take, -List.map_drop, List.getElem?_cons_zero, List.getElem?_cons_succ, Go.IntWalk.iteOmega, Go.IntWalk.toNatUp, e]
    refine IWp.ret ?_
    simp [go_sem, -getElem?_pos, -List.map_take, -List.map_drop, List.getElem?_cons_zero, List.getElem?_cons_succ, Go.IntWalk.iteOmega, Go.IntWalk.toNatUp, e, Try.results35]
    exact ⟨by simpa using b1, fun b hb => by rw [b2 b hb, Heap.get_alloc_lt _ _ _ hb], by rw [next_alloc] at b3; omega⟩

theorem tmod_at {a : Int} {n : Nat} (h0 : 0 ≤ a) (hn : 0 < n) : a.tmod n = ((a % n).toNat : Int) ∧ (a % n).toNat < n := by
  have h1 := Int.emod_nonneg a (show (n : Int) ≠ 0 by omega)
  have h2 := Int.emod_lt_of_pos a (show 0 < (n : Int) by omega)
  rw [Int.tmod_eq_emod_of_nonneg h0]; omega

theorem slot_own (H : Heap) (c : Config) (now : Int) (hn : 0 < c.table.length) (hl : c.table.length ≤ 1000000) (hm : ∀ x ∈ c.table, x.length ≤ 1000000) (hw : -9223372036854775808 ≤ now ∧ now < 9223372036854775808) :
    ICalls Try.prog 18 [c.val, .int .i64 now] H fun v H' => Bld 1 H' H.next v ((slotAt c.table now).map (Value.int .i64)) ∧ Old H H' := by
  refine IBody.calls (by kernel_rfl) ?_
  by_cases h1 : now < 1
  · have hs : slotAt c.table now = [] := if_pos h1
    rw [hs]
    refine IBody.of Try.func18 rfl (by rw [Try.ntmps18]; simp) ?_
    rw [Try.ntmps18]
    refine IWp.seq ?_
    refine IWp.run [1, 2] ?_
    simp [go_sem, -getElem?_pos, -List.map_take, -List.map_drop, List.getElem?_cons_zero, List.getElem?_cons_succ, Go.IntWalk.iteOmega, Go.IntWalk.toNatUp, h1, Config.val, Config.cells]
    refine IWp.seq ?_
    refine IWp.seq ?_
    refine IWp.run [1, 2, 6] ?_
    simp [go_sem, -getElem?_pos, -List.map_take, -List.map_drop, List.getElem?_cons_zero, List.getElem?_cons_succ, Go.IntWalk.iteOmega, Go.IntWalk.toNatUp, h1, Config.val, Config.cells]
    refine IWp.cond ?_
    simp [go_sem, -getElem?_pos, -List.map_take, -List.map_drop, List.getElem?_cons_zero, List.getElem?_cons_succ, Go.IntWalk.iteOmega, Go.IntWalk.toNatUp, h1, Config.val, Config.cells]
    refine IWp.seq ?_
    refine IWp.run [4] ?_
    simp [go_sem, -getElem?_pos, -List.map_take, -List.map_drop, List.getElem?_cons_zero, List.getElem?_cons_succ, Go.IntWalk.iteOmega, Go.IntWalk.toNatUp, h1, Config.val, Config.cells]
    refine IWp.ret ?_
    simp [go_sem, -getElem?_pos, -List.map_take, -List.map_drop, List.getElem?_cons_zero, List.getElem?_cons_succ, Go.IntWalk.iteOmega, Go.IntWalk.toNatUp, h1, Config.val, Config.cells, Try.results18]
    exact ⟨Bld.nil _ _ _, (Old.refl H).alloc _⟩
  · have hs : slotAt c.table now = c.table.getD ((now - 1) % c.table.length).toNat [] := if_neg h1
    rw [hs]
    obtain ⟨ht, hlt⟩ := tmod_at (a := now - 1) (n := c.table.length) (by omega) hn
    have g : (c.table.map (ints .i64))[((now - 1) % c.table.length).toNat]? = some (ints .i64 (c.table.getD ((now - 1) % c.table.length).toNat [])) := by
      rw [List.getElem?_map, List.getElem?_eq_getElem hlt, List.getD_eq_getElem?_getD, List.getElem?_eq_getElem hlt]; rfl
    have hml : (c.table.getD ((now - 1) % c.table.length).toNat []).length ≤ 1000000 := by
      rw [List.getD_eq_getElem?_getD, List.getElem?_eq_getElem hlt]; exact hm _ (List.getElem_mem hlt)
    generalize ((now - 1) % c.table.length).toNat = j at *
    generalize c.table.getD j [] = L at *
    have hne : c.table ≠ [] := fun e => by rw [e] at hn; simp at hn
    have w1 := IntWalk.i64_in (now - 1) (by omega)
    have w2 := IntWalk.i64_in (j : Int) (by omega)
    refine IBody.of Try.func18 rfl (by rw [Try.ntmps18]; simp) ?_
    rw [Try.ntmps18]
    refine IWp.seq ?_
    refine IWp.run [1, 2] ?_
    simp [go_sem, -getElem?_pos, -List.map_take, -List.map_drop, List.getElem?_cons_zero, List.getElem?_cons_succ, Go.IntWalk.iteOmega, Go.IntWalk.toNatUp, h1, Config.val, Config.cells, w1, w2, ht, g, hlt, hne, show ¬ (c.table.length : Int) = 0 by omega, show (j : Int) < c.table.length by omega]
    refine IWp.seq ?_
    refine IWp.seq ?_
    refine IWp.run [1, 2, 6] ?_
    simp [go_sem, -getElem?_pos, -List.map_take, -List.map_drop, List.getElem?_cons_zero, List.getElem?_cons_succ, Go.IntWalk.iteOmega, Go.IntWalk.toNatUp, h1, Config.val, Config.cells, w1, w2, ht, g, hlt, hne, show ¬ (c.table.length : Int) = 0 by omega, show (j : Int) < c.table.length by omega]
    refine IWp.cond ?_
    simp [go_sem, -getElem?_pos, -List.map_take, -List.map_drop, List.getElem?_cons_zero, List.getElem?_cons_succ, Go.IntWalk.iteOmega, Go.IntWalk.toNatUp, h1, Config.val, Config.cells, w1, w2, ht, g, hlt, hne, show ¬ (c.table.length : Int) = 0 by omega, show (j : Int) < c.table.length by omega]
    refine IWp.trim [1, 2] (IWp.skip ?_)
    simp [go_sem, -getElem?_pos, -List.map_take, -List.map_drop, List.getElem?_cons_zero, List.getElem?_cons_succ, Go.IntWalk.iteOmega, Go.IntWalk.toNatUp, h1, Config.val, Config.cells, w1, w2, ht, g, hlt, hne, show ¬ (c.table.length : Int) = 0 by omega, show (j : Int) < c.table.length by omega]
    refine IWp.seq ?_
    refine IWp.draw [4] [] (.val 0 (.ld 1 [8, 9, 10, 11] (.val 2 (.val 3 (.val 4 (.ld 5 [6, 7, 8, 9, 10, 11] (.val 6 (.val 7 (.val 8 (.ld 9 [10, 11] (.eff 10 (.val 11 .done) .done))))))))))) follows (by kernel_rfl) ?_
    simp [go_sem, -getElem?_pos, -List.map_take, -List.map_drop, List.getElem?_cons_zero, List.getElem?_cons_succ, Go.IntWalk.iteOmega, Go.IntWalk.toNatUp, h1, Config.val, Config.cells, w1, w2, ht, g, hlt, hne, show ¬ (c.table.length : Int) = 0 by omega, show (j : Int) < c.table.length by omega]
    refine ICalls.mono (cloneI_own _ 0 L hml) ?_
    rintro v H' ⟨h2, o2⟩
    try simp [go_sem, -getElem?_pos, -List.map_take, -List.map_drop, List.getElem?_cons_zero, List.getElem?_cons_succ, Go.IntWalk.iteOmega, Go.IntWalk.toNatUp, h1, Config.val, Config.cells, w1, w2, ht, g, hlt, hne, show ¬ (c.table.length : Int) = 0 by omega, show (j : Int) < c.table.length by omega]
    refine IWp.ret ?_
    simp [go_sem, -getElem?_pos, -List.map_take, -List.map_drop, List.getElem?_cons_zero, List.getElem?_cons_succ, Go.IntWalk.iteOmega, Go.IntWalk.toNatUp, h1, Config.val, Config.cells, w1, w2, ht, g, hlt, hne, show ¬ (c.table.length : Int) = 0 by omega, show (j : Int) < c.table.length by omega, Try.results18]
    exact ⟨h2.le (by rw [next_alloc]; omega), ((Old.refl H).alloc _).trans o2⟩

theorem slot (H : Heap) (c : Config) (now : Int) (hn : 0 < c.table.length) (hl : c.table.length ≤ 1000000) (hm : ∀ x ∈ c.table, x.length ≤ 1000000) (hw : -9223372036854775808 ≤ now ∧ now < 9223372036854775808) :
    ICalls Try.prog 18 [c.val, .int .i64 now] H fun v H' => v = ints .i64 (slotAt c.table now) ∧ H' = H :=
  ICalls.ans (by rw [cl_ints]; trivial) fun H => (slot_own H c now hn hl hm hw).mono fun v H' h => h.1.frz

theorem refSlot (H : Heap) (c : Config) (now : Int) (hn : 0 < c.table.length) (hl : c.table.length ≤ 1000000) (hw : -9223372036854775808 ≤ now ∧ now < 9223372036854775808) :
    ICalls Try.prog 19 [c.val, .int .i64 now] H fun v H' => v = ints .i64 (slotAt c.table now) ∧ H' = H := by
  refine ICalls.ans (by rw [cl_ints]; trivial) fun H => IBody.calls (by kernel_rfl) ?_
  by_cases h1 : now < 1
  · have hs : slotAt c.table now = [] := if_pos h1
    rw [hs]
    refine IBody.of Try.func19 rfl (by rw [Try.ntmps19]; simp) ?_
    rw [Try.ntmps19]
    refine IWp.seq ?_
    refine IWp.run [1, 2] ?_
    simp [go_sem, -getElem?_pos, -List.map_take, -List.map_drop, List.getElem?_cons_zero, List.getElem?_cons_succ, Go.IntWalk.iteOmega, Go.IntWalk.toNatUp, h1, Config.val, Config.cells]
    refine IWp.seq ?_
    refine IWp.seq ?_
    refine IWp.run [1, 2, 6] ?_
    simp [go_sem, -getElem?_pos, -List.map_take, -List.map_drop, List.getElem?_cons_zero, List.getElem?_cons_succ, Go.IntWalk.iteOmega, Go.IntWalk.toNatUp, h1, Config.val, Config.cells]
    refine IWp.cond ?_
    simp [go_sem, -getElem?_pos, -List.map_take, -List.map_drop, List.getElem?_cons_zero, List.getElem?_cons_succ, Go.IntWalk.iteOmega, Go.IntWalk.toNatUp, h1, Config.val, Config.cells]
    refine IWp.seq ?_
    refine IWp.run [4] ?_
    simp [go_sem, -getElem?_pos, -List.map_take, -List.map_drop, List.getElem?_cons_zero, List.getElem?_cons_succ, Go.IntWalk.iteOmega, Go.IntWalk.toNatUp, h1, Config.val, Config.cells]
    refine IWp.ret ?_
    simp [go_sem, -getElem?_pos, -List.map_take, -List.map_drop, List.getElem?_cons_zero, List.getElem?_cons_succ, Go.IntWalk.iteOmega, Go.IntWalk.toNatUp, h1, Config.val, Config.cells, Try.results19]
    try exact .nil 1
  · have hs : slotAt c.table now = c.table.getD ((now - 1) % c.table.length).toNat [] := if_neg h1
    rw [hs]
    obtain ⟨ht, hlt⟩ := tmod_at (a := now - 1) (n := c.table.length) (by omega) hn
    have g : (c.table.map (ints .i64))[((now - 1) % c.table.length).toNat]? = some (ints .i64 (c.table.getD ((now - 1) % c.table.length).toNat [])) := by
      rw [List.getElem?_map, List.getElem?_eq_getElem hlt, List.getD_eq_getElem?_getD, List.getElem?_eq_getElem hlt]; rfl
    generalize ((now - 1) % c.table.length).toNat = j at *
    generalize c.table.getD j [] = L at *
    have hne : c.table ≠ [] := fun e => by rw [e] at hn; simp at hn
    have w1 := IntWalk.i64_in (now - 1) (by omega)
    have w2 := IntWalk.i64_in (j : Int) (by omega)
    refine IBody.of Try.func19 rfl (by rw [Try.ntmps19]; simp) ?_
    rw [Try.ntmps19]
    refine IWp.seq ?_
    refine IWp.run [1, 2] ?_
    simp [go_sem, -getElem?_pos, -List.map_take, -List.map_drop, List.getElem?_cons_zero, List.getElem?_cons_succ, Go.IntWalk.iteOmega, Go.IntWalk.toNatUp, h1, Config.val, Config.cells, w1, w2, ht, g, hlt, hne, show ¬ (c.table.length : Int) = 0 by omega, show (j : Int) < c.table.length by omega]
    refine IWp.seq ?_
    refine IWp.seq ?_
    refine IWp.run [1, 2, 6] ?_
    simp [go_sem, -getElem?_pos, -List.map_take, -List.map_drop, List.getElem?_cons_zero, List.getElem?_cons_succ, Go.IntWalk.iteOmega, Go.IntWalk.toNatUp, h1, Config.val, Config.cells, w1, w2, ht, g, hlt, hne, show ¬ (c.table.length : Int) = 0 by omega, show (j : Int) < c.table.length by omega]
    refine IWp.cond ?_
    simp [go_sem, -getElem?_pos, -List.map_take, -List.map_drop, List.getElem?_cons_zero, List.getElem?_cons_succ, Go.IntWalk.iteOmega, Go.IntWalk.toNatUp, h1, Config.val, Config.cells, w1, w2, ht, g, hlt, hne, show ¬ (c.table.length : Int) = 0 by omega, show (j : Int) < c.table.length by omega]
    refine IWp.trim [1, 2] (IWp.skip ?_)
    simp [go_sem, -getElem?_pos, -List.map_take, -List.map_drop, List.getElem?_cons_zero, List.getElem?_cons_succ, Go.IntWalk.iteOmega, Go.IntWalk.toNatUp, h1, Config.val, Config.cells, w1, w2, ht, g, hlt, hne, show ¬ (c.table.length : Int) = 0 by omega, show (j : Int) < c.table.length by omega]
    refine IWp.seq ?_
    refine IWp.read [4] follows (by kernel_rfl) ?_
    simp [go_sem, -getElem?_pos, -List.map_take, -List.map_drop, List.getElem?_cons_zero, List.getElem?_cons_succ, Go.IntWalk.iteOmega, Go.IntWalk.toNatUp, h1, Config.val, Config.cells, w1, w2, ht, g, hlt, hne, show ¬ (c.table.length : Int) = 0 by omega, show (j : Int) < c.table.length by omega]
    refine IWp.ret ?_
    simp [go_sem, -getElem?_pos, -List.map_take, -List.map_drop, List.getElem?_cons_zero, List.getElem?_cons_succ, Go.IntWalk.iteOmega, Go.IntWalk.toNatUp, h1, Config.val, Config.cells, w1, w2, ht, g, hlt, hne, show ¬ (c.table.length : Int) = 0 by omega, show (j : Int) < c.table.length by omega, Try.results19]
    try exact .same _

theorem hasT (H : Heap) (c : Config) (k : Int) :
    ICalls Try.prog 36 [c.val, .int .i64 k] H fun v H' => v = .bool (decide (0 ≤ k) && decide (k < c.rules.length)) ∧ H' = H := by
  refine ICalls.ans (by simp [go_sem]) fun H => IBody.calls (by kernel_rfl) ?_
  by_cases h : 0 ≤ k
  · skip
    refine IBody.of Try.func36 rfl (by rw [Try.ntmps36]; simp) ?_
    rw [Try.ntmps36]
    refine IWp.seq ?_
    refine IWp.run [1, 2] ?_
    simp [go_sem, -getElem?_pos, -List.map_take, -List.map_drop, List.getElem?_cons_zero, List.getElem?_cons_succ, Go.IntWalk.iteOmega, Go.IntWalk.toNatUp, h, Config.val, Config.cells]
    refine IWp.seq ?_
    refine IWp.run [4] ?_
    simp [go_sem, -getElem?_pos, -List.map_take, -List.map_drop, List.getElem?_cons_zero, List.getElem?_cons_succ, Go.IntWalk.iteOmega, Go.IntWalk.toNatUp, h, Config.val, Config.cells]
    refine IWp.ret ?_
    simp [go_sem, -getElem?_pos, -List.map_take, -List.map_drop, List.getElem?_cons_zero, List.getElem?_cons_succ, Go.IntWalk.iteOmega, Go.IntWalk.toNatUp, h, Config.val, Config.cells, Try.results36]
    try exact .same _
  · skip
    refine IBody.of Try.func36 rfl (by rw [Try.ntmps36]; simp) ?_
    rw [Try.ntmps36]
    refine IWp.seq ?_
    refine IWp.run [1, 2] ?_
    simp [go_sem, -getElem?_pos, -List.map_take, -List.map_drop, List.getElem?_cons_zero, List.getElem?_cons_succ, Go.IntWalk.iteOmega, Go.IntWalk.toNatUp, h, Config.val, Config.cells]
    refine IWp.seq ?_
    refine IWp.run [4] ?_
    simp [go_sem, -getElem?_pos, -List.map_take, -List.map_drop, List.getElem?_cons_zero, List.getElem?_cons_succ, Go.IntWalk.iteOmega, Go.IntWalk.toNatUp, h, Config.val, Config.cells]
    refine IWp.ret ?_
    simp [go_sem, -getElem?_pos, -List.map_take, -List.map_drop, List.getElem?_cons_zero, List.getElem?_cons_succ, Go.IntWalk.iteOmega, Go.IntWalk.toNatUp, h, Config.val, Config.cells, Try.results36]
    try exact .same _

theorem waitT (H : Heap) (c : Config) (h1 : c.rules.length ≤ 100000) (h2 : c.table.length ≤ 100000) :
    ICalls Try.prog 26 [c.val] H fun v H' => v = .int .i64 (((c.rules.length + 1) * c.table.length : Nat) : Int) ∧ H' = H := by
  refine ICalls.ans (by simp [go_sem]) fun H => IBody.calls (by kernel_rfl) ?_
  have hm : (c.rules.length + 1) * c.table.length ≤ 100001 * 100000 := Nat.mul_le_mul (by omega) h2
  have w1 := IntWalk.i64_in ((c.rules.length : Int) + 1) (by omega)
  have hc : ((c.rules.length : Int) + 1) * c.table.length = (((c.rules.length + 1) * c.table.length : Nat) : Int) := by rw [Int.natCast_mul]; rfl
  have w2 := IntWalk.i64_in (((c.rules.length + 1) * c.table.length : Nat) : Int) (by omega)
  rw [← hc] at w2 ⊢
  refine IBody.of Try.func26 rfl (by rw [Try.ntmps26]; simp) ?_
  rw [Try.ntmps26]
  refine IWp.seq ?_
  refine IWp.run [1] ?_
  simp [go_sem, -getElem?_pos, -List.map_take, -List.map_drop, List.getElem?_cons_zero, List.getElem?_cons_succ, Go.IntWalk.iteOmega, Go.IntWalk.toNatUp, w1, w2, Config.val, Config.cells]
  refine IWp.seq ?_
  refine IWp.run [2] ?_
  simp [go_sem, -getElem?_pos, -List.map_take, -List.map_drop, List.getElem?_cons_zero, List.getElem?_cons_succ, Go.IntWalk.iteOmega, Go.IntWalk.toNatUp, w1, w2, Config.val, Config.cells]
  refine IWp.ret ?_
  simp [go_sem, -getElem?_pos, -List.map_take, -List.map_drop, List.getElem?_cons_zero, List.getElem?_cons_succ, Go.IntWalk.iteOmega, Go.IntWalk.toNatUp, w1, w2, Config.val, Config.cells, Try.results26]
  try exact .same _

theorem indexI (H : Heap) (m : Int) (L : List Int) (x : Int) (hL : L.length ≤ 1000000) :
    ICalls Try.prog 41 [frow 1 m (L.map (Value.int .i64)), .int .i64 x] H fun v H' => v = .int .i64 (if x ∈ L then (L.idxOf x : Int) else -1) ∧ H' = H := by
  refine ICalls.ans (by simp [go_sem]) fun H => IBody.calls (by kernel_rfl) ?_
  generalize hr : (if x ∈ L then (L.idxOf x : Int) else -1) = r
  refine IBody.of Try.func41 rfl (by rw [Try.ntmps41]; simp) ?_
  rw [Try.ntmps41]
  refine IWp.seq ?_
  refine IWp.run [0, 1] ?_
  simp [go_sem, -getElem?_pos, -List.map_take, -List.map_drop, List.getElem?_cons_zero, List.getElem?_cons_succ, Go.IntWalk.iteOmega, Go.IntWalk.toNatUp]
  refine IWp.seq ?_
  refine IWp.seq ?_
  refine IWp.run [0, 1, 7, 8] ?_
  simp [go_sem, -getElem?_pos, -List.map_take, -List.map_drop, List.getElem?_cons_zero, List.getElem?_cons_succ, Go.IntWalk.iteOmega, Go.IntWalk.toNatUp]
  refine IWp.block ?_
  -- LOOP live [0, 1, 7, 8]
  refine IWp.loop (fun j e K => ∃ i : Nat, j = L.length - i ∧ i ≤ L.length ∧ K = H ∧ ¬ x ∈ L.take i ∧ e = [(0, frow 1 m (L.map (Value.int .i64))), (1, .int .i64 x), (7, .int .i64 L.length), (8, .int .i64 (i : Int))]) L.length ⟨0, rfl, Nat.zero_le _, rfl, by simp, by simp [go_sem]⟩ ?_
  rintro j e K ⟨i, rfl, hi, rfl, hno, rfl⟩
  have w1 := IntWalk.i64_in ((i : Int) + 1) (by omega)
  by_cases hlt : i < L.length
  · have g : L[i]? = some L[i] := List.getElem?_eq_getElem hlt
    have hst : x ∈ L.take (i + 1) ↔ x ∈ L.take i ∨ x = L[i] := by rw [List.take_succ_eq_append_getElem hlt, List.mem_append, List.mem_singleton]
    by_cases he : x = L[i]
    · have hx : x ∈ L := by rw [he]; exact List.getElem_mem hlt
      have hid : L.idxOf x = i := by
        have h1 : L = L.take i ++ L.drop i := (List.take_append_drop i L).symm
        have h2 : L.idxOf x = (L.take i ++ L.drop i).idxOf x := by rw [← h1]
        rw [h2, List.idxOf_append, if_neg hno, List.drop_eq_getElem_cons hlt, he, List.idxOf_cons_self, List.length_take]; omega
      rw [if_pos hx, hid] at hr
      subst hr
      rw [← he] at g
      refine IWp.seq ?_
      refine IWp.run [0, 1, 7, 8, 9] ?_
      simp [go_sem, -getElem?_pos, -List.map_take, -List.map_drop, List.getElem?_cons_zero, List.getElem?_cons_succ, Go.IntWalk.iteOmega, Go.IntWalk.toNatUp, g, hlt]
      refine IWp.seq ?_
      refine IWp.cond ?_
      simp [go_sem, -getElem?_pos, -List.map_take, -List.map_drop, List.getElem?_cons_zero, List.getElem?_cons_succ, Go.IntWalk.iteOmega, Go.IntWalk.toNatUp, g, hlt]
      refine IWp.trim [0, 1, 7, 8] (IWp.skip ?_)
      simp [go_sem, -getElem?_pos, -List.map_take, -List.map_drop, List.getElem?_cons_zero, List.getElem?_cons_succ, Go.IntWalk.iteOmega, Go.IntWalk.toNatUp, g, hlt]
      refine IWp.seq ?_
      refine IWp.block ?_
      refine IWp.seq ?_
      refine IWp.run [0, 1, 5, 7, 8] ?_
      simp [go_sem, -getElem?_pos, -List.map_take, -List.map_drop, List.getElem?_cons_zero, List.getElem?_cons_succ, Go.IntWalk.iteOmega, Go.IntWalk.toNatUp, g, hlt]
      refine IWp.seq ?_
      refine IWp.run [0, 1, 5, 7, 8, 16] ?_
      simp [go_sem, -getElem?_pos, -List.map_take, -List.map_drop, List.getElem?_cons_zero, List.getElem?_cons_succ, Go.IntWalk.iteOmega, Go.IntWalk.toNatUp, g, hlt]
      refine IWp.cond ?_
      simp [go_sem, -getElem?_pos, -List.map_take, -List.map_drop, List.getElem?_cons_zero, List.getElem?_cons_succ, Go.IntWalk.iteOmega, Go.IntWalk.toNatUp, g, hlt]
      refine IWp.seq ?_
      refine IWp.run [4] ?_
      simp [go_sem, -getElem?_pos, -List.map_take, -List.map_drop, List.getElem?_cons_zero, List.getElem?_cons_succ, Go.IntWalk.iteOmega, Go.IntWalk.toNatUp, g, hlt]
      refine IWp.ret ?_
      simp [go_sem, -getElem?_pos, -List.map_take, -List.map_drop, List.getElem?_cons_zero, List.getElem?_cons_succ, Go.IntWalk.iteOmega, Go.IntWalk.toNatUp, g, hlt, Try.results41]
      try exact .same _
    · have hst2 : ¬ x ∈ L.take (i + 1) := fun h => (hst.1 h).elim hno he
      clear hst
      generalize L[i] = y at *
      refine IWp.seq ?_
      refine IWp.run [0, 1, 7, 8, 9] ?_
      simp [go_sem, -getElem?_pos, -List.map_take, -List.map_drop, List.getElem?_cons_zero, List.getElem?_cons_succ, Go.IntWalk.iteOmega, Go.IntWalk.toNatUp, g, hlt, he, w1]
      refine IWp.seq ?_
      refine IWp.cond ?_
      simp [go_sem, -getElem?_pos, -List.map_take, -List.map_drop, List.getElem?_cons_zero, List.getElem?_cons_succ, Go.IntWalk.iteOmega, Go.IntWalk.toNatUp, g, hlt, he, w1]
      refine IWp.trim [0, 1, 7, 8] (IWp.skip ?_)
      simp [go_sem, -getElem?_pos, -List.map_take, -List.map_drop, List.getElem?_cons_zero, List.getElem?_cons_succ, Go.IntWalk.iteOmega, Go.IntWalk.toNatUp, g, hlt, he, w1]
      refine IWp.seq ?_
      refine IWp.block ?_
      refine IWp.seq ?_
      refine IWp.run [0, 1, 5, 7, 8] ?_
      simp [go_sem, -getElem?_pos, -List.map_take, -List.map_drop, List.getElem?_cons_zero, List.getElem?_cons_succ, Go.IntWalk.iteOmega, Go.IntWalk.toNatUp, g, hlt, he, w1]
      refine IWp.seq ?_
      refine IWp.run [0, 1, 5, 7, 8, 16] ?_
      simp [go_sem, -getElem?_pos, -List.map_take, -List.map_drop, List.getElem?_cons_zero, List.getElem?_cons_succ, Go.IntWalk.iteOmega, Go.IntWalk.toNatUp, g, hlt, he, w1]
      refine IWp.cond ?_
      simp [go_sem, -getElem?_pos, -List.map_take, -List.map_drop, List.getElem?_cons_zero, List.getElem?_cons_succ, Go.IntWalk.iteOmega, Go.IntWalk.toNatUp, g, hlt, he, w1]
      refine IWp.trim [0, 1, 7, 8] (IWp.skip ?_)
      simp [go_sem, -getElem?_pos, -List.map_take, -List.map_drop, List.getElem?_cons_zero, List.getElem?_cons_succ, Go.IntWalk.iteOmega, Go.IntWalk.toNatUp, g, hlt, he, w1]
      refine IWp.run [0, 1, 7, 8] ?_
      simp [go_sem, -getElem?_pos, -List.map_take, -List.map_drop, List.getElem?_cons_zero, List.getElem?_cons_succ, Go.IntWalk.iteOmega, Go.IntWalk.toNatUp, g, hlt, he, w1]
      exact ⟨L.length - (i + 1), by omega, i + 1, rfl, by omega, hst2, by omega⟩
  · rw [List.take_of_length_le (by omega)] at hno
    rw [if_neg hno] at hr
    subst hr
    refine IWp.seq ?_
    refine IWp.run [0, 1, 7, 8, 9] ?_
    simp [go_sem, -getElem?_pos, -List.map_take, -List.map_drop, List.getElem?_cons_zero, List.getElem?_cons_succ, Go.IntWalk.iteOmega, Go.IntWalk.toNatUp, hlt]
    refine IWp.seq ?_
    refine IWp.cond ?_
    simp [go_sem, -getElem?_pos, -List.map_take, -List.map_drop, List.getElem?_cons_zero, List.getElem?_cons_succ, Go.IntWalk.iteOmega, Go.IntWalk.toNatUp, hlt]
    refine IWp.trim [] (IWp.exit ?_)
    simp [go_sem, -getElem?_pos, -List.map_take, -List.map_drop, List.getElem?_cons_zero, List.getElem?_cons_succ, Go.IntWalk.iteOmega, Go.IntWalk.toNatUp, hlt]
    refine IWp.seq ?_
    refine IWp.run [4] ?_
    simp [go_sem, -getElem?_pos, -List.map_take, -List.map_drop, List.getElem?_cons_zero, List.getElem?_cons_succ, Go.IntWalk.iteOmega, Go.IntWalk.toNatUp, hlt]
    refine IWp.ret ?_
    simp [go_sem, -getElem?_pos, -List.map_take, -List.map_drop, List.getElem?_cons_zero, List.getElem?_cons_succ, Go.IntWalk.iteOmega, Go.IntWalk.toNatUp, hlt, Try.results41]
    try exact .same _

theorem containsI (H : Heap) (m : Int) (L : List Int) (x : Int) (hL : L.length ≤ 1000000) :
    ICalls Try.prog 37 [frow 1 m (L.map (Value.int .i64)), .int .i64 x] H fun v H' => v = .bool (decide (x ∈ L)) ∧ H' = H := by
  refine ICalls.ans (by simp [go_sem]) fun H => IBody.calls (by kernel_rfl) ?_
  have hi := indexI H m L x hL
  have hd : decide ((0 : Int) ≤ (if x ∈ L then (L.idxOf x : Int) else -1)) = decide (x ∈ L) := by
    by_cases h : x ∈ L
    · simp [h]
    · simp [h]
  generalize (if x ∈ L then (L.idxOf x : Int) else -1) = r at *
  refine IBody.of Try.func37 rfl (by rw [Try.ntmps37]; simp) ?_
  rw [Try.ntmps37]
  refine IWp.seq ?_
  refine IWp.run [0, 1] ?_
  simp [go_sem, -getElem?_pos, -List.map_take, -List.map_drop, List.getElem?_cons_zero, List.getElem?_cons_succ, Go.IntWalk.iteOmega, Go.IntWalk.toNatUp]
  refine IWp.seq ?_
  refine IWp.run [4] ?_
  simp [go_sem, -getElem?_pos, -List.map_take, -List.map_drop, List.getElem?_cons_zero, List.getElem?_cons_succ, Go.IntWalk.iteOmega, Go.IntWalk.toNatUp]
  refine ICalls.then (hi) ?_
  try simp [go_sem, -getElem?_pos, -List.map_take, -List.map_drop, List.getElem?_cons_zero, List.getElem?_cons_succ, Go.IntWalk.iteOmega, Go.IntWalk.toNatUp]
  refine IWp.ret ?_
  simp [go_sem, -getElem?_pos, -List.map_take, -List.map_drop, List.getElem?_cons_zero, List.getElem?_cons_succ, Go.IntWalk.iteOmega, Go.IntWalk.toNatUp, Try.results37]
  rw [hd]
  exact .same _

/-! ### gaps -/
def gapSt (T : List (List Int)) (k : Int) : Nat → Int × Int × Int
  | 0 => (0, -1, -1)
  | i + 1 => if k ∈ T.getD i [] then (if (gapSt T k i).2.1 < 0 then (gapSt T k i).1 else max (gapSt T k i).1 (i - (gapSt T k i).2.2), if (gapSt T k i).2.1 < 0 then (i : Int) else (gapSt T k i).2.1, (i : Int)) else gapSt T k i
def gapP (T : List (List Int)) (k : Int) : Int := max (gapSt T k T.length).1 ((gapSt T k T.length).2.1 + T.length - (gapSt T k T.length).2.2)
theorem gapSt_in (T : List (List Int)) (k : Int) : ∀ i : Nat, 0 ≤ (gapSt T k i).1 ∧ (gapSt T k i).1 ≤ i ∧ -1 ≤ (gapSt T k i).2.1 ∧ (gapSt T k i).2.1 < i + 1 ∧ -1 ≤ (gapSt T k i).2.2 ∧ (gapSt T k i).2.2 < i + 1 ∧ (gapSt T k i).2.1 ≤ (gapSt T k i).2.2 ∧ ((gapSt T k i).2.1 < 0 ↔ (gapSt T k i).2.2 < 0) ∧ (0 ≤ (gapSt T k i).2.1 → (gapSt T k i).2.2 < i)
  | 0 => by simp [gapSt]
  | i + 1 => by
    have ih := gapSt_in T k i
    rw [gapSt]
    split
    · simp only
      split <;> omega
    · omega

theorem gapT (H : Heap) (c : Config) (k : Int) (hl : c.table.length ≤ 100000) (hm : ∀ x ∈ c.table, x.length ≤ 1000000) :
    ICalls Try.prog 20 [c.val, .int .i64 k] H fun v H' => v = .int .i64 (if 0 ≤ k ∧ k < c.rules.length then gapP c.table k else 0) ∧ H' = H := by
  refine ICalls.ans (by simp [go_sem]) fun H => IBody.calls (by kernel_rfl) ?_
  by_cases hk : 0 ≤ k ∧ k < c.rules.length
  case neg =>
    rw [if_neg hk]
    have hkb : (decide (0 ≤ k) && decide (k < c.rules.length)) = false := by
      by_cases h : 0 ≤ k
      · simp [h]; omega
      · simp [h]
    have hh := fun K => hasT K c k
    rw [hkb] at hh
    simp only [Config.val, Config.cells] at hh
    refine IBody.of Try.func20 rfl (by rw [Try.ntmps20]; simp) ?_
    rw [Try.ntmps20]
    refine IWp.seq ?_
    refine IWp.run [1, 2] ?_
    simp [go_sem, -getElem?_pos, -List.map_take, -List.map_drop, List.getElem?_cons_zero, List.getElem?_cons_succ, Go.IntWalk.iteOmega, Go.IntWalk.toNatUp, Config.val, Config.cells]
    refine IWp.seq ?_
    refine IWp.seq ?_
    refine IWp.run [1, 2, 13] ?_
    simp [go_sem, -getElem?_pos, -List.map_take, -List.map_drop, List.getElem?_cons_zero, List.getElem?_cons_succ, Go.IntWalk.iteOmega, Go.IntWalk.toNatUp, Config.val, Config.cells]
    refine ICalls.then (hh _) ?_
    try simp [go_sem, -getElem?_pos, -List.map_take, -List.map_drop, List.getElem?_cons_zero, List.getElem?_cons_succ, Go.IntWalk.iteOmega, Go.IntWalk.toNatUp, Config.val, Config.cells]
    refine IWp.cond ?_
    simp [go_sem, -getElem?_pos, -List.map_take, -List.map_drop, List.getElem?_cons_zero, List.getElem?_cons_succ, Go.IntWalk.iteOmega, Go.IntWalk.toNatUp, Config.val, Config.cells]
    refine IWp.seq ?_
    refine IWp.run [4] ?_
    simp [go_sem, -getElem?_pos, -List.map_take, -List.map_drop, List.getElem?_cons_zero, List.getElem?_cons_succ, Go.IntWalk.iteOmega, Go.IntWalk.toNatUp, Config.val, Config.cells]
    refine IWp.ret ?_
    simp [go_sem, -getElem?_pos, -List.map_take, -List.map_drop, List.getElem?_cons_zero, List.getElem?_cons_succ, Go.IntWalk.iteOmega, Go.IntWalk.toNatUp, Config.val, Config.cells, Try.results20]
    try exact .same _
  rw [if_pos hk]
  have hkb : (decide (0 ≤ k) && decide (k < c.rules.length)) = true := by simp [hk.1, hk.2]
  have hh := fun K => hasT K c k
  rw [hkb] at hh
  simp only [Config.val, Config.cells] at hh
  have wn1 := IntWalk.i64_in (-1) (by omega)
  refine IBody.of Try.func20 rfl (by rw [Try.ntmps20]; simp) ?_
  rw [Try.ntmps20]
  refine IWp.seq ?_
  refine IWp.run [1, 2] ?_
  simp [go_sem, -getElem?_pos, -List.map_take, -List.map_drop, List.getElem?_cons_zero, List.getElem?_cons_succ, Go.IntWalk.iteOmega, Go.IntWalk.toNatUp, Config.val, Config.cells, wn1]
  refine IWp.seq ?_
  refine IWp.seq ?_
  refine IWp.run [1, 2, 13] ?_
  simp [go_sem, -getElem?_pos, -List.map_take, -List.map_drop, List.getElem?_cons_zero, List.getElem?_cons_succ, Go.IntWalk.iteOmega, Go.IntWalk.toNatUp, Config.val, Config.cells, wn1]
  refine ICalls.then (hh _) ?_
  try simp [go_sem, -getElem?_pos, -List.map_take, -List.map_drop, List.getElem?_cons_zero, List.getElem?_cons_succ, Go.IntWalk.iteOmega, Go.IntWalk.toNatUp, Config.val, Config.cells, wn1]
  refine IWp.cond ?_
  simp [go_sem, -getElem?_pos, -List.map_take, -List.map_drop, List.getElem?_cons_zero, List.getElem?_cons_succ, Go.IntWalk.iteOmega, Go.IntWalk.toNatUp, Config.val, Config.cells, wn1]
  refine IWp.trim [1, 2] (IWp.skip ?_)
  simp [go_sem, -getElem?_pos, -List.map_take, -List.map_drop, List.getElem?_cons_zero, List.getElem?_cons_succ, Go.IntWalk.iteOmega, Go.IntWalk.toNatUp, Config.val, Config.cells, wn1]
  refine IWp.seq ?_
  refine IWp.run [1, 2, 5, 6, 7] ?_
  simp [go_sem, -getElem?_pos, -List.map_take, -List.map_drop, List.getElem?_cons_zero, List.getElem?_cons_succ, Go.IntWalk.iteOmega, Go.IntWalk.toNatUp, Config.val, Config.cells, wn1]
  refine IWp.seq ?_
  refine IWp.seq ?_
  refine IWp.run [1, 2, 5, 6, 7, 15, 16, 17] ?_
  simp [go_sem, -getElem?_pos, -List.map_take, -List.map_drop, List.getElem?_cons_zero, List.getElem?_cons_succ, Go.IntWalk.iteOmega, Go.IntWalk.toNatUp, Config.val, Config.cells, wn1]
  refine IWp.block ?_
  -- LOOP live [1, 2, 5, 6, 7, 15, 16, 17]
  have hg := Heap.get_alloc_new H c.cells
  simp only [Config.cells] at hg
  generalize H.next = b at *
  generalize H.alloc _ = H1 at *
  refine IWp.loop (fun j e K => ∃ i : Nat, j = c.table.length - i ∧ i ≤ c.table.length ∧ K = H1 ∧ e = [(1, .int .i64 k), (2, ptrTo b 0), (5, .int .i64 (gapSt c.table k i).1), (6, .int .i64 (gapSt c.table k i).2.1), (7, .int .i64 (gapSt c.table k i).2.2), (15, frow 1 0 (c.table.map (ints .i64))), (16, .int .i64 c.table.length), (17, .int .i64 (i : Int))]) c.table.length ⟨0, rfl, Nat.zero_le _, rfl, by simp [go_sem, gapSt]⟩ ?_
  rintro j e K ⟨i, rfl, hi, rfl, rfl⟩
  have hin := gapSt_in c.table k i
  have w1 := IntWalk.i64_in ((i : Int) + 1) (by omega)
  by_cases hlt : i < c.table.length
  · have g : (c.table.map (ints .i64))[i]? = some (ints .i64 (c.table.getD i [])) := by
      rw [List.getElem?_map, List.getElem?_eq_getElem hlt, List.getD_eq_getElem?_getD, List.getElem?_eq_getElem hlt]; rfl
    have hx : (c.table.getD i []).length ≤ 1000000 := by
      rw [List.getD_eq_getElem?_getD, List.getElem?_eq_getElem hlt]; exact hm _ (List.getElem_mem hlt)
    have hst : gapSt c.table k (i + 1) = if k ∈ c.table.getD i [] then (if (gapSt c.table k i).2.1 < 0 then (gapSt c.table k i).1 else max (gapSt c.table k i).1 (i - (gapSt c.table k i).2.2), if (gapSt c.table k i).2.1 < 0 then (i : Int) else (gapSt c.table k i).2.1, (i : Int)) else gapSt c.table k i := rfl
    have hcon := fun K => containsI K 0 (c.table.getD i []) k hx
    generalize c.table.getD i [] = L at *
    generalize gapSt c.table k i = s at *
    obtain ⟨a, f, q⟩ := s
    simp only at hin hst ⊢
    by_cases hc : k ∈ L
    · rw [if_pos hc] at hst
      rw [decide_eq_true hc] at hcon
      by_cases hf : f < 0
      · rw [if_pos hf, if_pos hf] at hst
        refine IWp.seq ?_
        refine IWp.run [1, 2, 5, 6, 7, 15, 16, 17, 18] ?_
        simp [go_sem, -getElem?_pos, -List.map_take, -List.map_drop, List.getElem?_cons_zero, List.getElem?_cons_succ, Go.IntWalk.iteOmega, Go.IntWalk.toNatUp, hg, g, hlt, hf, w1]
        refine IWp.seq ?_
        refine IWp.cond ?_
        simp [go_sem, -getElem?_pos, -List.map_take, -List.map_drop, List.getElem?_cons_zero, List.getElem?_cons_succ, Go.IntWalk.iteOmega, Go.IntWalk.toNatUp, hg, g, hlt, hf, w1]
        refine IWp.trim [1, 2, 5, 6, 7, 15, 16, 17] (IWp.skip ?_)
        simp [go_sem, -getElem?_pos, -List.map_take, -List.map_drop, List.getElem?_cons_zero, List.getElem?_cons_succ, Go.IntWalk.iteOmega, Go.IntWalk.toNatUp, hg, g, hlt, hf, w1]
        refine IWp.seq ?_
        refine IWp.block ?_
        refine IWp.seq ?_
        refine IWp.run [1, 2, 5, 6, 7, 8, 9, 15, 16, 17] ?_
        simp [go_sem, -getElem?_pos, -List.map_take, -List.map_drop, List.getElem?_cons_zero, List.getElem?_cons_succ, Go.IntWalk.iteOmega, Go.IntWalk.toNatUp, hg, g, hlt, hf, w1]
        refine IWp.seq ?_
        refine IWp.seq ?_
        refine IWp.run [1, 2, 5, 6, 7, 8, 15, 16, 17, 25] ?_
        simp [go_sem, -getElem?_pos, -List.map_take, -List.map_drop, List.getElem?_cons_zero, List.getElem?_cons_succ, Go.IntWalk.iteOmega, Go.IntWalk.toNatUp, hg, g, hlt, hf, w1]
        refine ICalls.then (hcon _) ?_
        try simp [go_sem, -getElem?_pos, -List.map_take, -List.map_drop, List.getElem?_cons_zero, List.getElem?_cons_succ, Go.IntWalk.iteOmega, Go.IntWalk.toNatUp, hg, g, hlt, hf, w1]
        refine IWp.cond ?_
        simp [go_sem, -getElem?_pos, -List.map_take, -List.map_drop, List.getElem?_cons_zero, List.getElem?_cons_succ, Go.IntWalk.iteOmega, Go.IntWalk.toNatUp, hg, g, hlt, hf, w1]
        refine IWp.trim [1, 2, 5, 6, 7, 8, 15, 16, 17] (IWp.skip ?_)
        simp [go_sem, -getElem?_pos, -List.map_take, -List.map_drop, List.getElem?_cons_zero, List.getElem?_cons_succ, Go.IntWalk.iteOmega, Go.IntWalk.toNatUp, hg, g, hlt, hf, w1]
        refine IWp.seq ?_
        refine IWp.seq ?_
        refine IWp.run [1, 2, 5, 6, 7, 8, 15, 16, 17, 27] ?_
        simp [go_sem, -getElem?_pos, -List.map_take, -List.map_drop, List.getElem?_cons_zero, List.getElem?_cons_succ, Go.IntWalk.iteOmega, Go.IntWalk.toNatUp, hg, g, hlt, hf, w1]
        refine IWp.cond ?_
        simp [go_sem, -getElem?_pos, -List.map_take, -List.map_drop, List.getElem?_cons_zero, List.getElem?_cons_succ, Go.IntWalk.iteOmega, Go.IntWalk.toNatUp, hg, g, hlt, hf, w1]
        refine IWp.run [1, 2, 5, 6, 8, 15, 16, 17] ?_
        simp [go_sem, -getElem?_pos, -List.map_take, -List.map_drop, List.getElem?_cons_zero, List.getElem?_cons_succ, Go.IntWalk.iteOmega, Go.IntWalk.toNatUp, hg, g, hlt, hf, w1]
        refine IWp.run [1, 2, 5, 6, 7, 15, 16, 17] ?_
        simp [go_sem, -getElem?_pos, -List.map_take, -List.map_drop, List.getElem?_cons_zero, List.getElem?_cons_succ, Go.IntWalk.iteOmega, Go.IntWalk.toNatUp, hg, g, hlt, hf, w1]
        refine IWp.run [1, 2, 5, 6, 7, 15, 16, 17] ?_
        simp [go_sem, -getElem?_pos, -List.map_take, -List.map_drop, List.getElem?_cons_zero, List.getElem?_cons_succ, Go.IntWalk.iteOmega, Go.IntWalk.toNatUp, hg, g, hlt, hf, w1]
        exact ⟨c.table.length - (i + 1), by omega, i + 1, rfl, by omega, by rw [hst], by rw [hst], by rw [hst], by omega⟩
      · rw [if_neg hf, if_neg hf] at hst
        have w2 := IntWalk.i64_in ((i : Int) - q) (by omega)
        have hmx : (if a < (i : Int) - q then (i : Int) - q else a) = max a ((i : Int) - q) := by rw [Int.max_def]; split <;> split <;> omega
        refine IWp.seq ?_
        refine IWp.run [1, 2, 5, 6, 7, 15, 16, 17, 18] ?_
        simp [go_sem, -getElem?_pos, -List.map_take, -List.map_drop, List.getElem?_cons_zero, List.getElem?_cons_succ, Go.IntWalk.iteOmega, Go.IntWalk.toNatUp, hg, g, hlt, hf, w1, w2]
        refine IWp.seq ?_
        refine IWp.cond ?_
        simp [go_sem, -getElem?_pos, -List.map_take, -List.map_drop, List.getElem?_cons_zero, List.getElem?_cons_succ, Go.IntWalk.iteOmega, Go.IntWalk.toNatUp, hg, g, hlt, hf, w1, w2]
        refine IWp.trim [1, 2, 5, 6, 7, 15, 16, 17] (IWp.skip ?_)
        simp [go_sem, -getElem?_pos, -List.map_take, -List.map_drop, List.getElem?_cons_zero, List.getElem?_cons_succ, Go.IntWalk.iteOmega, Go.IntWalk.toNatUp, hg, g, hlt, hf, w1, w2]
        refine IWp.seq ?_
        refine IWp.block ?_
        refine IWp.seq ?_
        refine IWp.run [1, 2, 5, 6, 7, 8, 9, 15, 16, 17] ?_
        simp [go_sem, -getElem?_pos, -List.map_take, -List.map_drop, List.getElem?_cons_zero, List.getElem?_cons_succ, Go.IntWalk.iteOmega, Go.IntWalk.toNatUp, hg, g, hlt, hf, w1, w2]
        refine IWp.seq ?_
        refine IWp.seq ?_
        refine IWp.run [1, 2, 5, 6, 7, 8, 15, 16, 17, 25] ?_
        simp [go_sem, -getElem?_pos, -List.map_take, -List.map_drop, List.getElem?_cons_zero, List.getElem?_cons_succ, Go.IntWalk.iteOmega, Go.IntWalk.toNatUp, hg, g, hlt, hf, w1, w2]
        refine ICalls.then (hcon _) ?_
        try simp [go_sem, -getElem?_pos, -List.map_take, -List.map_drop, List.getElem?_cons_zero, List.getElem?_cons_succ, Go.IntWalk.iteOmega, Go.IntWalk.toNatUp, hg, g, hlt, hf, w1, w2]
        refine IWp.cond ?_
        simp [go_sem, -getElem?_pos, -List.map_take, -List.map_drop, List.getElem?_cons_zero, List.getElem?_cons_succ, Go.IntWalk.iteOmega, Go.IntWalk.toNatUp, hg, g, hlt, hf, w1, w2]
        refine IWp.trim [1, 2, 5, 6, 7, 8, 15, 16, 17] (IWp.skip ?_)
        simp [go_sem, -getElem?_pos, -List.map_take, -List.map_drop, List.getElem?_cons_zero, List.getElem?_cons_succ, Go.IntWalk.iteOmega, Go.IntWalk.toNatUp, hg, g, hlt, hf, w1, w2]
        refine IWp.seq ?_
        refine IWp.seq ?_
        refine IWp.run [1, 2, 5, 6, 7, 8, 15, 16, 17, 27] ?_
        simp [go_sem, -getElem?_pos, -List.map_take, -List.map_drop, List.getElem?_cons_zero, List.getElem?_cons_succ, Go.IntWalk.iteOmega, Go.IntWalk.toNatUp, hg, g, hlt, hf, w1, w2]
        refine IWp.cond ?_
        simp [go_sem, -getElem?_pos, -List.map_take, -List.map_drop, List.getElem?_cons_zero, List.getElem?_cons_succ, Go.IntWalk.iteOmega, Go.IntWalk.toNatUp, hg, g, hlt, hf, w1, w2]
        refine IWp.run [1, 2, 5, 6, 8, 15, 16, 17] ?_
        simp [go_sem, -getElem?_pos, -List.map_take, -List.map_drop, List.getElem?_cons_zero, List.getElem?_cons_succ, Go.IntWalk.iteOmega, Go.IntWalk.toNatUp, hg, g, hlt, hf, w1, w2]
        refine IWp.run [1, 2, 5, 6, 7, 15, 16, 17] ?_
        simp [go_sem, -getElem?_pos, -List.map_take, -List.map_drop, List.getElem?_cons_zero, List.getElem?_cons_succ, Go.IntWalk.iteOmega, Go.IntWalk.toNatUp, hg, g, hlt, hf, w1, w2]
        refine IWp.run [1, 2, 5, 6, 7, 15, 16, 17] ?_
        simp [go_sem, -getElem?_pos, -List.map_take, -List.map_drop, List.getElem?_cons_zero, List.getElem?_cons_succ, Go.IntWalk.iteOmega, Go.IntWalk.toNatUp, hg, g, hlt, hf, w1, w2]
        exact ⟨c.table.length - (i + 1), by omega, i + 1, rfl, by omega, by rw [hst, ← hmx], by rw [hst], by rw [hst], by omega⟩
    · rw [if_neg hc] at hst
      rw [decide_eq_false hc] at hcon
      refine IWp.seq ?_
      refine IWp.run [1, 2, 5, 6, 7, 15, 16, 17, 18] ?_
      simp [go_sem, -getElem?_pos, -List.map_take, -List.map_drop, List.getElem?_cons_zero, List.getElem?_cons_succ, Go.IntWalk.iteOmega, Go.IntWalk.toNatUp, hg, g, hlt, w1]
      refine IWp.seq ?_
      refine IWp.cond ?_
      simp [go_sem, -getElem?_pos, -List.map_take, -List.map_drop, List.getElem?_cons_zero, List.getElem?_cons_succ, Go.IntWalk.iteOmega, Go.IntWalk.toNatUp, hg, g, hlt, w1]
      refine IWp.trim [1, 2, 5, 6, 7, 15, 16, 17] (IWp.skip ?_)
      simp [go_sem, -getElem?_pos, -List.map_take, -List.map_drop, List.getElem?_cons_zero, List.getElem?_cons_succ, Go.IntWalk.iteOmega, Go.IntWalk.toNatUp, hg, g, hlt, w1]
      refine IWp.seq ?_
      refine IWp.block ?_
      refine IWp.seq ?_
      refine IWp.run [1, 2, 5, 6, 7, 8, 9, 15, 16, 17] ?_
      simp [go_sem, -getElem?_pos, -List.map_take, -List.map_drop, List.getElem?_cons_zero, List.getElem?_cons_succ, Go.IntWalk.iteOmega, Go.IntWalk.toNatUp, hg, g, hlt, w1]
      refine IWp.seq ?_
      refine IWp.seq ?_
      refine IWp.run [1, 2, 5, 6, 7, 8, 15, 16, 17, 25] ?_
      simp [go_sem, -getElem?_pos, -List.map_take, -List.map_drop, List.getElem?_cons_zero, List.getElem?_cons_succ, Go.IntWalk.iteOmega, Go.IntWalk.toNatUp, hg, g, hlt, w1]
      refine ICalls.then (hcon _) ?_
      try simp [go_sem, -getElem?_pos, -List.map_take, -List.map_drop, List.getElem?_cons_zero, List.getElem?_cons_succ, Go.IntWalk.iteOmega, Go.IntWalk.toNatUp, hg, g, hlt, w1]
      refine IWp.cond ?_
      simp [go_sem, -getElem?_pos, -List.map_take, -List.map_drop, List.getElem?_cons_zero, List.getElem?_cons_succ, Go.IntWalk.iteOmega, Go.IntWalk.toNatUp, hg, g, hlt, w1]
      refine IWp.trim [1, 2, 5, 6, 7, 15, 16, 17] (IWp.exit ?_)
      simp [go_sem, -getElem?_pos, -List.map_take, -List.map_drop, List.getElem?_cons_zero, List.getElem?_cons_succ, Go.IntWalk.iteOmega, Go.IntWalk.toNatUp, hg, g, hlt, w1]
      refine IWp.run [1, 2, 5, 6, 7, 15, 16, 17] ?_
      simp [go_sem, -getElem?_pos, -List.map_take, -List.map_drop, List.getElem?_cons_zero, List.getElem?_cons_succ, Go.IntWalk.iteOmega, Go.IntWalk.toNatUp, hg, g, hlt, w1]
      exact ⟨c.table.length - (i + 1), by omega, i + 1, rfl, by omega, by rw [hst], by rw [hst], by rw [hst], by omega⟩
  · have hie : i = c.table.length := by omega
    subst hie
    unfold gapP
    generalize gapSt c.table k c.table.length = s at *
    obtain ⟨a, f, q⟩ := s
    simp only at hin ⊢
    have w2 := IntWalk.i64_in (f + (c.table.length : Int)) (by omega)
    have w3 := IntWalk.i64_in (f + (c.table.length : Int) - q) (by omega)
    have hmx : (if a < f + (c.table.length : Int) - q then f + (c.table.length : Int) - q else a) = max a (f + (c.table.length : Int) - q) := by rw [Int.max_def]; split <;> split <;> omega
    rw [← hmx]
    refine IWp.seq ?_
    refine IWp.run [1, 2, 5, 6, 7, 15, 16, 17, 18] ?_
    simp [go_sem, -getElem?_pos, -List.map_take, -List.map_drop, List.getElem?_cons_zero, List.getElem?_cons_succ, Go.IntWalk.iteOmega, Go.IntWalk.toNatUp, hg, w2, w3]
    refine IWp.seq ?_
    refine IWp.cond ?_
    simp [go_sem, -getElem?_pos, -List.map_take, -List.map_drop, List.getElem?_cons_zero, List.getElem?_cons_succ, Go.IntWalk.iteOmega, Go.IntWalk.toNatUp, hg, w2, w3]
    refine IWp.trim [2, 5, 6, 7] (IWp.exit ?_)
    simp [go_sem, -getElem?_pos, -List.map_take, -List.map_drop, List.getElem?_cons_zero, List.getElem?_cons_succ, Go.IntWalk.iteOmega, Go.IntWalk.toNatUp, hg, w2, w3]
    refine IWp.seq ?_
    refine IWp.run [4] ?_
    simp [go_sem, -getElem?_pos, -List.map_take, -List.map_drop, List.getElem?_cons_zero, List.getElem?_cons_succ, Go.IntWalk.iteOmega, Go.IntWalk.toNatUp, hg, w2, w3]
    refine IWp.ret ?_
    simp [go_sem, -getElem?_pos, -List.map_take, -List.map_drop, List.getElem?_cons_zero, List.getElem?_cons_succ, Go.IntWalk.iteOmega, Go.IntWalk.toNatUp, hg, w2, w3, Try.results20]
    trace_state
    try exact .same _

def gapRt (T : List (List Int)) (k : Int) : Nat → Int × Int
  | 0 => (0, 0)
  | j + 1 => if k ∈ slotAt T ((j : Int) + 1) then (if 0 < (gapRt T k j).2 ∧ (gapRt T k j).1 < (j : Int) + 1 - (gapRt T k j).2 then (j : Int) + 1 - (gapRt T k j).2 else (gapRt T k j).1, (j : Int) + 1) else gapRt T k j
def gapR (T : List (List Int)) (k : Int) : Int := (gapRt T k (2 * T.length)).1
theorem gapRt_in (T : List (List Int)) (k : Int) : ∀ j : Nat, 0 ≤ (gapRt T k j).1 ∧ (gapRt T k j).1 ≤ j ∧ 0 ≤ (gapRt T k j).2 ∧ (gapRt T k j).2 ≤ j
  | 0 => by simp [gapRt]
  | j + 1 => by
    have ih := gapRt_in T k j
    rw [gapRt]
    split
    · simp only
      split <;> omega
    · omega

theorem refHas (H : Heap) (c : Config) (k now : Int) (hn : 0 < c.table.length) (hl : c.table.length ≤ 1000000) (hm : ∀ x ∈ c.table, x.length ≤ 1000000) (hw : -9223372036854775808 ≤ now ∧ now < 9223372036854775808) :
    ICalls Try.prog 38 [c.val, .int .i64 k, .int .i64 now] H fun v H' => v = .bool (decide (k ∈ slotAt c.table now)) ∧ H' = H := by
  refine ICalls.ans (by simp [go_sem]) fun H => IBody.calls (by kernel_rfl) ?_
  have hs := fun K => refSlot K c now hn hl hw
  have hsl : (slotAt c.table now).length ≤ 1000000 := by
    unfold slotAt
    split
    · simp
    · rw [List.getD_eq_getElem?_getD]
      cases h : c.table[((now - 1) % c.table.length).toNat]? with
      | none => simp
      | some x => exact hm x (List.mem_of_getElem? h)
  simp only [Config.val, Config.cells] at hs
  generalize slotAt c.table now = L at *
  generalize hq : decide (k ∈ L) = q
  refine IBody.of Try.func38 rfl (by rw [Try.ntmps38]; simp) ?_
  rw [Try.ntmps38]
  refine IWp.seq ?_
  refine IWp.run [1, 2, 3] ?_
  simp [go_sem, -getElem?_pos, -List.map_take, -List.map_drop, List.getElem?_cons_zero, List.getElem?_cons_succ, Go.IntWalk.iteOmega, Go.IntWalk.toNatUp, Config.val, Config.cells]
  refine IWp.seq ?_
  refine IWp.run [1, 7] ?_
  simp [go_sem, -getElem?_pos, -List.map_take, -List.map_drop, List.getElem?_cons_zero, List.getElem?_cons_succ, Go.IntWalk.iteOmega, Go.IntWalk.toNatUp, Config.val, Config.cells]
  refine ICalls.then (hs _) ?_
  try simp [go_sem, -getElem?_pos, -List.map_take, -List.map_drop, List.getElem?_cons_zero, List.getElem?_cons_succ, Go.IntWalk.iteOmega, Go.IntWalk.toNatUp, Config.val, Config.cells]
  refine IWp.seq ?_
  refine IWp.seq ?_
  refine IWp.run [1, 7, 8] ?_
  simp [go_sem, -getElem?_pos, -List.map_take, -List.map_drop, List.getElem?_cons_zero, List.getElem?_cons_succ, Go.IntWalk.iteOmega, Go.IntWalk.toNatUp, Config.val, Config.cells]
  refine IWp.block ?_
  -- LOOP live [1, 7, 8]
  generalize H.alloc _ = H1
  refine IWp.loop (fun j e K => ∃ i : Nat, j = L.length - i ∧ i ≤ L.length ∧ K = H1 ∧ ¬ k ∈ L.take i ∧ e = [(1, .int .i64 k), (7, ints .i64 L), (8, .int .i64 (i : Int))]) L.length ⟨0, rfl, Nat.zero_le _, rfl, by simp, by simp [go_sem]⟩ ?_
  rintro j e K ⟨i, rfl, hi, rfl, hno, rfl⟩
  have w1 := IntWalk.i64_in ((i : Int) + 1) (by omega)
  by_cases hlt : i < L.length
  · have g : L[i]? = some L[i] := List.getElem?_eq_getElem hlt
    have hst : k ∈ L.take (i + 1) ↔ k ∈ L.take i ∨ k = L[i] := by rw [List.take_succ_eq_append_getElem hlt, List.mem_append, List.mem_singleton]
    by_cases he : L[i] = k
    · have hx : k ∈ L := by rw [← he]; exact List.getElem_mem hlt
      rw [← hq, decide_eq_true hx]
      rw [he] at g
      refine IWp.seq ?_
      refine IWp.seq ?_
      refine IWp.run [1, 7, 8, 15] ?_
      simp [go_sem, -getElem?_pos, -List.map_take, -List.map_drop, List.getElem?_cons_zero, List.getElem?_cons_succ, Go.IntWalk.iteOmega, Go.IntWalk.toNatUp, g, hlt]
      refine IWp.cond ?_
      simp [go_sem, -getElem?_pos, -List.map_take, -List.map_drop, List.getElem?_cons_zero, List.getElem?_cons_succ, Go.IntWalk.iteOmega, Go.IntWalk.toNatUp, g, hlt]
      refine IWp.trim [1, 7, 8] (IWp.skip ?_)
      simp [go_sem, -getElem?_pos, -List.map_take, -List.map_drop, List.getElem?_cons_zero, List.getElem?_cons_succ, Go.IntWalk.iteOmega, Go.IntWalk.toNatUp, g, hlt]
      refine IWp.seq ?_
      refine IWp.block ?_
      refine IWp.seq ?_
      refine IWp.run [1, 7, 8, 23] ?_
      simp [go_sem, -getElem?_pos, -List.map_take, -List.map_drop, List.getElem?_cons_zero, List.getElem?_cons_succ, Go.IntWalk.iteOmega, Go.IntWalk.toNatUp, g, hlt]
      refine IWp.cond ?_
      simp [go_sem, -getElem?_pos, -List.map_take, -List.map_drop, List.getElem?_cons_zero, List.getElem?_cons_succ, Go.IntWalk.iteOmega, Go.IntWalk.toNatUp, g, hlt]
      refine IWp.seq ?_
      refine IWp.run [6] ?_
      simp [go_sem, -getElem?_pos, -List.map_take, -List.map_drop, List.getElem?_cons_zero, List.getElem?_cons_succ, Go.IntWalk.iteOmega, Go.IntWalk.toNatUp, g, hlt]
      refine IWp.ret ?_
      simp [go_sem, -getElem?_pos, -List.map_take, -List.map_drop, List.getElem?_cons_zero, List.getElem?_cons_succ, Go.IntWalk.iteOmega, Go.IntWalk.toNatUp, g, hlt, Try.results38]
      try exact .same _
    · have hst2 : ¬ k ∈ L.take (i + 1) := fun h => (hst.1 h).elim hno (fun e => he e.symm)
      clear hst
      generalize L[i] = y at *
      refine IWp.seq ?_
      refine IWp.seq ?_
      refine IWp.run [1, 7, 8, 15] ?_
      simp [go_sem, -getElem?_pos, -List.map_take, -List.map_drop, List.getElem?_cons_zero, List.getElem?_cons_succ, Go.IntWalk.iteOmega, Go.IntWalk.toNatUp, g, hlt, he, w1]
      refine IWp.cond ?_
      simp [go_sem, -getElem?_pos, -List.map_take, -List.map_drop, List.getElem?_cons_zero, List.getElem?_cons_succ, Go.IntWalk.iteOmega, Go.IntWalk.toNatUp, g, hlt, he, w1]
      refine IWp.trim [1, 7, 8] (IWp.skip ?_)
      simp [go_sem, -getElem?_pos, -List.map_take, -List.map_drop, List.getElem?_cons_zero, List.getElem?_cons_succ, Go.IntWalk.iteOmega, Go.IntWalk.toNatUp, g, hlt, he, w1]
      refine IWp.seq ?_
      refine IWp.block ?_
      refine IWp.seq ?_
      refine IWp.run [1, 7, 8, 23] ?_
      simp [go_sem, -getElem?_pos, -List.map_take, -List.map_drop, List.getElem?_cons_zero, List.getElem?_cons_succ, Go.IntWalk.iteOmega, Go.IntWalk.toNatUp, g, hlt, he, w1]
      refine IWp.cond ?_
      simp [go_sem, -getElem?_pos, -List.map_take, -List.map_drop, List.getElem?_cons_zero, List.getElem?_cons_succ, Go.IntWalk.iteOmega, Go.IntWalk.toNatUp, g, hlt, he, w1]
      refine IWp.trim [1, 7, 8] (IWp.skip ?_)
      simp [go_sem, -getElem?_pos, -List.map_take, -List.map_drop, List.getElem?_cons_zero, List.getElem?_cons_succ, Go.IntWalk.iteOmega, Go.IntWalk.toNatUp, g, hlt, he, w1]
      refine IWp.run [1, 7, 8] ?_
      simp [go_sem, -getElem?_pos, -List.map_take, -List.map_drop, List.getElem?_cons_zero, List.getElem?_cons_succ, Go.IntWalk.iteOmega, Go.IntWalk.toNatUp, g, hlt, he, w1]
      exact ⟨L.length - (i + 1), by omega, i + 1, rfl, by omega, hst2, by omega⟩
  · rw [List.take_of_length_le (by omega)] at hno
    rw [← hq, decide_eq_false hno]
    refine IWp.seq ?_
    refine IWp.seq ?_
    refine IWp.run [1, 7, 8, 15] ?_
    simp [go_sem, -getElem?_pos, -List.map_take, -List.map_drop, List.getElem?_cons_zero, List.getElem?_cons_succ, Go.IntWalk.iteOmega, Go.IntWalk.toNatUp, hlt]
    refine IWp.cond ?_
    simp [go_sem, -getElem?_pos, -List.map_take, -List.map_drop, List.getElem?_cons_zero, List.getElem?_cons_succ, Go.IntWalk.iteOmega, Go.IntWalk.toNatUp, hlt]
    refine IWp.trim [] (IWp.exit ?_)
    simp [go_sem, -getElem?_pos, -List.map_take, -List.map_drop, List.getElem?_cons_zero, List.getElem?_cons_succ, Go.IntWalk.iteOmega, Go.IntWalk.toNatUp, hlt]
    refine IWp.seq ?_
    refine IWp.run [6] ?_
    simp [go_sem, -getElem?_pos, -List.map_take, -List.map_drop, List.getElem?_cons_zero, List.getElem?_cons_succ, Go.IntWalk.iteOmega, Go.IntWalk.toNatUp, hlt]
    refine IWp.ret ?_
    simp [go_sem, -getElem?_pos, -List.map_take, -List.map_drop, List.getElem?_cons_zero, List.getElem?_cons_succ, Go.IntWalk.iteOmega, Go.IntWalk.toNatUp, hlt, Try.results38]
    try exact .same _

theorem refGap (H : Heap) (c : Config) (k : Int) (hn : 0 < c.table.length) (hl : c.table.length ≤ 100000) (hm : ∀ x ∈ c.table, x.length ≤ 1000000) :
    ICalls Try.prog 21 [c.val, .int .i64 k] H fun v H' => v = .int .i64 (gapR c.table k) ∧ H' = H := by
  refine ICalls.ans (by simp [go_sem]) fun H => IBody.calls (by kernel_rfl) ?_
  refine IBody.of Try.func21 rfl (by rw [Try.ntmps21]; simp) ?_
  rw [Try.ntmps21]
  refine IWp.seq ?_
  refine IWp.run [1, 2] ?_
  simp [go_sem, -getElem?_pos, -List.map_take, -List.map_drop, List.getElem?_cons_zero, List.getElem?_cons_succ, Go.IntWalk.iteOmega, Go.IntWalk.toNatUp, Config.val, Config.cells]
  refine IWp.seq ?_
  refine IWp.run [1, 2, 5, 6] ?_
  simp [go_sem, -getElem?_pos, -List.map_take, -List.map_drop, List.getElem?_cons_zero, List.getElem?_cons_succ, Go.IntWalk.iteOmega, Go.IntWalk.toNatUp, Config.val, Config.cells]
  refine IWp.seq ?_
  refine IWp.seq ?_
  refine IWp.run [1, 2, 5, 6, 7] ?_
  simp [go_sem, -getElem?_pos, -List.map_take, -List.map_drop, List.getElem?_cons_zero, List.getElem?_cons_succ, Go.IntWalk.iteOmega, Go.IntWalk.toNatUp, Config.val, Config.cells]
  refine IWp.block ?_
  -- LOOP live [1, 2, 5, 6, 7]
  have hg := Heap.get_alloc_new H c.cells
  simp only [Config.cells] at hg
  generalize H.next = b at *
  generalize H.alloc _ = H1 at *
  have w0 := IntWalk.i64_in (2 * (c.table.length : Int)) (by omega)
  refine IWp.loop (fun q e K => ∃ j : Nat, q = 2 * c.table.length - j ∧ j ≤ 2 * c.table.length ∧ K = H1 ∧ e = [(1, .int .i64 k), (2, ptrTo b 0), (5, .int .i64 (gapRt c.table k j).1), (6, .int .i64 (gapRt c.table k j).2), (7, .int .i64 ((j : Int) + 1))]) (2 * c.table.length) ⟨0, rfl, Nat.zero_le _, rfl, by simp [go_sem, gapRt]⟩ ?_
  rintro q e K ⟨j, rfl, hj, rfl, rfl⟩
  have hin := gapRt_in c.table k j
  have w1 := IntWalk.i64_in ((j : Int) + 1 + 1) (by omega)
  have hh := fun K => refHas K c k ((j : Int) + 1) hn (by omega) hm (by omega)
  simp only [Config.val, Config.cells] at hh
  by_cases hlt : j < 2 * c.table.length
  · have hst : gapRt c.table k (j + 1) = if k ∈ slotAt c.table ((j : Int) + 1) then (if 0 < (gapRt c.table k j).2 ∧ (gapRt c.table k j).1 < (j : Int) + 1 - (gapRt c.table k j).2 then (j : Int) + 1 - (gapRt c.table k j).2 else (gapRt c.table k j).1, (j : Int) + 1) else gapRt c.table k j := rfl
    generalize gapRt c.table k j = s at *
    obtain ⟨a, f⟩ := s
    simp only at hin hst ⊢
    have w2 := IntWalk.i64_in ((j : Int) + 1 - f) (by omega)
    by_cases hc : k ∈ slotAt c.table ((j : Int) + 1)
    · rw [if_pos hc] at hst
      rw [decide_eq_true hc] at hh
      by_cases hf : 0 < f ∧ a < (j : Int) + 1 - f
      · rw [if_pos hf] at hst
        refine IWp.seq ?_
        refine IWp.seq ?_
        refine IWp.run [1, 2, 5, 6, 7, 13] ?_
        simp [go_sem, -getElem?_pos, -List.map_take, -List.map_drop, List.getElem?_cons_zero, List.getElem?_cons_succ, Go.IntWalk.iteOmega, Go.IntWalk.toNatUp, hg, w0, w1, w2, hf.1, hf.2, show (j : Int) + 1 ≤ 2 * c.table.length by omega]
        refine IWp.cond ?_
        simp [go_sem, -getElem?_pos, -List.map_take, -List.map_drop, List.getElem?_cons_zero, List.getElem?_cons_succ, Go.IntWalk.iteOmega, Go.IntWalk.toNatUp, hg, w0, w1, w2, hf.1, hf.2, show (j : Int) + 1 ≤ 2 * c.table.length by omega]
        refine IWp.trim [1, 2, 5, 6, 7] (IWp.skip ?_)
        simp [go_sem, -getElem?_pos, -List.map_take, -List.map_drop, List.getElem?_cons_zero, List.getElem?_cons_succ, Go.IntWalk.iteOmega, Go.IntWalk.toNatUp, hg, w0, w1, w2, hf.1, hf.2, show (j : Int) + 1 ≤ 2 * c.table.length by omega]
        refine IWp.seq ?_
        refine IWp.block ?_
        refine IWp.seq ?_
        refine IWp.seq ?_
        refine IWp.run [1, 2, 5, 6, 7, 20] ?_
        simp [go_sem, -getElem?_pos, -List.map_take, -List.map_drop, List.getElem?_cons_zero, List.getElem?_cons_succ, Go.IntWalk.iteOmega, Go.IntWalk.toNatUp, hg, w0, w1, w2, hf.1, hf.2, show (j : Int) + 1 ≤ 2 * c.table.length by omega]
        refine ICalls.then (hh _) ?_
        try simp [go_sem, -getElem?_pos, -List.map_take, -List.map_drop, List.getElem?_cons_zero, List.getElem?_cons_succ, Go.IntWalk.iteOmega, Go.IntWalk.toNatUp, hg, w0, w1, w2, hf.1, hf.2, show (j : Int) + 1 ≤ 2 * c.table.length by omega]
        refine IWp.cond ?_
        simp [go_sem, -getElem?_pos, -List.map_take, -List.map_drop, List.getElem?_cons_zero, List.getElem?_cons_succ, Go.IntWalk.iteOmega, Go.IntWalk.toNatUp, hg, w0, w1, w2, hf.1, hf.2, show (j : Int) + 1 ≤ 2 * c.table.length by omega]
        refine IWp.trim [1, 2, 5, 6, 7] (IWp.skip ?_)
        simp [go_sem, -getElem?_pos, -List.map_take, -List.map_drop, List.getElem?_cons_zero, List.getElem?_cons_succ, Go.IntWalk.iteOmega, Go.IntWalk.toNatUp, hg, w0, w1, w2, hf.1, hf.2, show (j : Int) + 1 ≤ 2 * c.table.length by omega]
        refine IWp.seq ?_
        refine IWp.seq ?_
        refine IWp.run [1, 2, 5, 6, 7, 29] ?_
        simp [go_sem, -getElem?_pos, -List.map_take, -List.map_drop, List.getElem?_cons_zero, List.getElem?_cons_succ, Go.IntWalk.iteOmega, Go.IntWalk.toNatUp, hg, w0, w1, w2, hf.1, hf.2, show (j : Int) + 1 ≤ 2 * c.table.length by omega]
        refine IWp.cond ?_
        simp [go_sem, -getElem?_pos, -List.map_take, -List.map_drop, List.getElem?_cons_zero, List.getElem?_cons_succ, Go.IntWalk.iteOmega, Go.IntWalk.toNatUp, hg, w0, w1, w2, hf.1, hf.2, show (j : Int) + 1 ≤ 2 * c.table.length by omega]
        refine IWp.run [1, 2, 5, 7] ?_
        simp [go_sem, -getElem?_pos, -List.map_take, -List.map_drop, List.getElem?_cons_zero, List.getElem?_cons_succ, Go.IntWalk.iteOmega, Go.IntWalk.toNatUp, hg, w0, w1, w2, hf.1, hf.2, show (j : Int) + 1 ≤ 2 * c.table.length by omega]
        refine IWp.run [1, 2, 5, 6, 7] ?_
        simp [go_sem, -getElem?_pos, -List.map_take, -List.map_drop, List.getElem?_cons_zero, List.getElem?_cons_succ, Go.IntWalk.iteOmega, Go.IntWalk.toNatUp, hg, w0, w1, w2, hf.1, hf.2, show (j : Int) + 1 ≤ 2 * c.table.length by omega]
        refine IWp.run [1, 2, 5, 6, 7] ?_
        simp [go_sem, -getElem?_pos, -List.map_take, -List.map_drop, List.getElem?_cons_zero, List.getElem?_cons_succ, Go.IntWalk.iteOmega, Go.IntWalk.toNatUp, hg, w0, w1, w2, hf.1, hf.2, show (j : Int) + 1 ≤ 2 * c.table.length by omega]
        exact ⟨2 * c.table.length - (j + 1), by omega, j + 1, rfl, by omega, by rw [hst], by rw [hst], by omega⟩
      · rw [if_neg hf] at hst
        by_cases hf1 : 0 < f
        · have hf2 : ¬ a < (j : Int) + 1 - f := fun h => hf ⟨hf1, h⟩
          refine IWp.seq ?_
          refine IWp.seq ?_
          refine IWp.run [1, 2, 5, 6, 7, 13] ?_
          simp [go_sem, -getElem?_pos, -List.map_take, -List.map_drop, List.getElem?_cons_zero, List.getElem?_cons_succ, Go.IntWalk.iteOmega, Go.IntWalk.toNatUp, hg, w0, w1, w2, hf1, hf2, show (j : Int) + 1 ≤ 2 * c.table.length by omega]
          refine IWp.cond ?_
          simp [go_sem, -getElem?_pos, -List.map_take, -List.map_drop, List.getElem?_cons_zero, List.getElem?_cons_succ, Go.IntWalk.iteOmega, Go.IntWalk.toNatUp, hg, w0, w1, w2, hf1, hf2, show (j : Int) + 1 ≤ 2 * c.table.length by omega]
          refine IWp.trim [1, 2, 5, 6, 7] (IWp.skip ?_)
          simp [go_sem, -getElem?_pos, -List.map_take, -List.map_drop, List.getElem?_cons_zero, List.getElem?_cons_succ, Go.IntWalk.iteOmega, Go.IntWalk.toNatUp, hg, w0, w1, w2, hf1, hf2, show (j : Int) + 1 ≤ 2 * c.table.length by omega]
          refine IWp.seq ?_
          refine IWp.block ?_
          refine IWp.seq ?_
          refine IWp.seq ?_
          refine IWp.run [1, 2, 5, 6, 7, 20] ?_
          simp [go_sem, -getElem?_pos, -List.map_take, -List.map_drop, List.getElem?_cons_zero, List.getElem?_cons_succ, Go.IntWalk.iteOmega, Go.IntWalk.toNatUp, hg, w0, w1, w2, hf1, hf2, show (j : Int) + 1 ≤ 2 * c.table.length by omega]
          refine ICalls.then (hh _) ?_
          try simp [go_sem, -getElem?_pos, -List.map_take, -List.map_drop, List.getElem?_cons_zero, List.getElem?_cons_succ, Go.IntWalk.iteOmega, Go.IntWalk.toNatUp, hg, w0, w1, w2, hf1, hf2, show (j : Int) + 1 ≤ 2 * c.table.length by omega]
          refine IWp.cond ?_
          simp [go_sem, -getElem?_pos, -List.map_take, -List.map_drop, List.getElem?_cons_zero, List.getElem?_cons_succ, Go.IntWalk.iteOmega, Go.IntWalk.toNatUp, hg, w0, w1, w2, hf1, hf2, show (j : Int) + 1 ≤ 2 * c.table.length by omega]
          refine IWp.trim [1, 2, 5, 6, 7] (IWp.skip ?_)
          simp [go_sem, -getElem?_pos, -List.map_take, -List.map_drop, List.getElem?_cons_zero, List.getElem?_cons_succ, Go.IntWalk.iteOmega, Go.IntWalk.toNatUp, hg, w0, w1, w2, hf1, hf2, show (j : Int) + 1 ≤ 2 * c.table.length by omega]
          refine IWp.seq ?_
          refine IWp.seq ?_
          refine IWp.run [1, 2, 5, 6, 7, 29] ?_
          simp [go_sem, -getElem?_pos, -List.map_take, -List.map_drop, List.getElem?_cons_zero, List.getElem?_cons_succ, Go.IntWalk.iteOmega, Go.IntWalk.toNatUp, hg, w0, w1, w2, hf1, hf2, show (j : Int) + 1 ≤ 2 * c.table.length by omega]
          refine IWp.cond ?_
          simp [go_sem, -getElem?_pos, -List.map_take, -List.map_drop, List.getElem?_cons_zero, List.getElem?_cons_succ, Go.IntWalk.iteOmega, Go.IntWalk.toNatUp, hg, w0, w1, w2, hf1, hf2, show (j : Int) + 1 ≤ 2 * c.table.length by omega]
          refine IWp.trim [1, 2, 5, 7] (IWp.skip ?_)
          simp [go_sem, -getElem?_pos, -List.map_take, -List.map_drop, List.getElem?_cons_zero, List.getElem?_cons_succ, Go.IntWalk.iteOmega, Go.IntWalk.toNatUp, hg, w0, w1, w2, hf1, hf2, show (j : Int) + 1 ≤ 2 * c.table.length by omega]
          refine IWp.run [1, 2, 5, 6, 7] ?_
          simp [go_sem, -getElem?_pos, -List.map_take, -List.map_drop, List.getElem?_cons_zero, List.getElem?_cons_succ, Go.IntWalk.iteOmega, Go.IntWalk.toNatUp, hg, w0, w1, w2, hf1, hf2, show (j : Int) + 1 ≤ 2 * c.table.length by omega]
          refine IWp.run [1, 2, 5, 6, 7] ?_
          simp [go_sem, -getElem?_pos, -List.map_take, -List.map_drop, List.getElem?_cons_zero, List.getElem?_cons_succ, Go.IntWalk.iteOmega, Go.IntWalk.toNatUp, hg, w0, w1, w2, hf1, hf2, show (j : Int) + 1 ≤ 2 * c.table.length by omega]
          exact ⟨2 * c.table.length - (j + 1), by omega, j + 1, rfl, by omega, by rw [hst], by rw [hst], by omega⟩
        · skip
          refine IWp.seq ?_
          refine IWp.seq ?_
          refine IWp.run [1, 2, 5, 6, 7, 13] ?_
          simp [go_sem, -getElem?_pos, -List.map_take, -List.map_drop, List.getElem?_cons_zero, List.getElem?_cons_succ, Go.IntWalk.iteOmega, Go.IntWalk.toNatUp, hg, w0, w1, hf1, show (j : Int) + 1 ≤ 2 * c.table.length by omega]
          refine IWp.cond ?_
          simp [go_sem, -getElem?_pos, -List.map_take, -List.map_drop, List.getElem?_cons_zero, List.getElem?_cons_succ, Go.IntWalk.iteOmega, Go.IntWalk.toNatUp, hg, w0, w1, hf1, show (j : Int) + 1 ≤ 2 * c.table.length by omega]
          refine IWp.trim [1, 2, 5, 6, 7] (IWp.skip ?_)
          simp [go_sem, -getElem?_pos, -List.map_take, -List.map_drop, List.getElem?_cons_zero, List.getElem?_cons_succ, Go.IntWalk.iteOmega, Go.IntWalk.toNatUp, hg, w0, w1, hf1, show (j : Int) + 1 ≤ 2 * c.table.length by omega]
          refine IWp.seq ?_
          refine IWp.block ?_
          refine IWp.seq ?_
          refine IWp.seq ?_
          refine IWp.run [1, 2, 5, 6, 7, 20] ?_
          simp [go_sem, -getElem?_pos, -List.map_take, -List.map_drop, List.getElem?_cons_zero, List.getElem?_cons_succ, Go.IntWalk.iteOmega, Go.IntWalk.toNatUp, hg, w0, w1, hf1, show (j : Int) + 1 ≤ 2 * c.table.length by omega]
          refine ICalls.then (hh _) ?_
          try simp [go_sem, -getElem?_pos, -List.map_take, -List.map_drop, List.getElem?_cons_zero, List.getElem?_cons_succ, Go.IntWalk.iteOmega, Go.IntWalk.toNatUp, hg, w0, w1, hf1, show (j : Int) + 1 ≤ 2 * c.table.length by omega]
          refine IWp.cond ?_
          simp [go_sem, -getElem?_pos, -List.map_take, -List.map_drop, List.getElem?_cons_zero, List.getElem?_cons_succ, Go.IntWalk.iteOmega, Go.IntWalk.toNatUp, hg, w0, w1, hf1, show (j : Int) + 1 ≤ 2 * c.table.length by omega]
          refine IWp.trim [1, 2, 5, 6, 7] (IWp.skip ?_)
          simp [go_sem, -getElem?_pos, -List.map_take, -List.map_drop, List.getElem?_cons_zero, List.getElem?_cons_succ, Go.IntWalk.iteOmega, Go.IntWalk.toNatUp, hg, w0, w1, hf1, show (j : Int) + 1 ≤ 2 * c.table.length by omega]
          refine IWp.seq ?_
          refine IWp.seq ?_
          refine IWp.run [1, 2, 5, 6, 7, 29] ?_
          simp [go_sem, -getElem?_pos, -List.map_take, -List.map_drop, List.getElem?_cons_zero, List.getElem?_cons_succ, Go.IntWalk.iteOmega, Go.IntWalk.toNatUp, hg, w0, w1, hf1, show (j : Int) + 1 ≤ 2 * c.table.length by omega]
          refine IWp.cond ?_
          simp [go_sem, -getElem?_pos, -List.map_take, -List.map_drop, List.getElem?_cons_zero, List.getElem?_cons_succ, Go.IntWalk.iteOmega, Go.IntWalk.toNatUp, hg, w0, w1, hf1, show (j : Int) + 1 ≤ 2 * c.table.length by omega]
          refine IWp.trim [1, 2, 5, 7] (IWp.skip ?_)
          simp [go_sem, -getElem?_pos, -List.map_take, -List.map_drop, List.getElem?_cons_zero, List.getElem?_cons_succ, Go.IntWalk.iteOmega, Go.IntWalk.toNatUp, hg, w0, w1, hf1, show (j : Int) + 1 ≤ 2 * c.table.length by omega]
          refine IWp.run [1, 2, 5, 6, 7] ?_
          simp [go_sem, -getElem?_pos, -List.map_take, -List.map_drop, List.getElem?_cons_zero, List.getElem?_cons_succ, Go.IntWalk.iteOmega, Go.IntWalk.toNatUp, hg, w0, w1, hf1, show (j : Int) + 1 ≤ 2 * c.table.length by omega]
          refine IWp.run [1, 2, 5, 6, 7] ?_
          simp [go_sem, -getElem?_pos, -List.map_take, -List.map_drop, List.getElem?_cons_zero, List.getElem?_cons_succ, Go.IntWalk.iteOmega, Go.IntWalk.toNatUp, hg, w0, w1, hf1, show (j : Int) + 1 ≤ 2 * c.table.length by omega]
          exact ⟨2 * c.table.length - (j + 1), by omega, j + 1, rfl, by omega, by rw [hst], by rw [hst], by omega⟩
    · rw [if_neg hc] at hst
      rw [decide_eq_false hc] at hh
      refine IWp.seq ?_
      refine IWp.seq ?_
      refine IWp.run [1, 2, 5, 6, 7, 13] ?_
      simp [go_sem, -getElem?_pos, -List.map_take, -List.map_drop, List.getElem?_cons_zero, List.getElem?_cons_succ, Go.IntWalk.iteOmega, Go.IntWalk.toNatUp, hg, w0, w1, show (j : Int) + 1 ≤ 2 * c.table.length by omega]
      refine IWp.cond ?_
      simp [go_sem, -getElem?_pos, -List.map_take, -List.map_drop, List.getElem?_cons_zero, List.getElem?_cons_succ, Go.IntWalk.iteOmega, Go.IntWalk.toNatUp, hg, w0, w1, show (j : Int) + 1 ≤ 2 * c.table.length by omega]
      refine IWp.trim [1, 2, 5, 6, 7] (IWp.skip ?_)
      simp [go_sem, -getElem?_pos, -List.map_take, -List.map_drop, List.getElem?_cons_zero, List.getElem?_cons_succ, Go.IntWalk.iteOmega, Go.IntWalk.toNatUp, hg, w0, w1, show (j : Int) + 1 ≤ 2 * c.table.length by omega]
      refine IWp.seq ?_
      refine IWp.block ?_
      refine IWp.seq ?_
      refine IWp.seq ?_
      refine IWp.run [1, 2, 5, 6, 7, 20] ?_
      simp [go_sem, -getElem?_pos, -List.map_take, -List.map_drop, List.getElem?_cons_zero, List.getElem?_cons_succ, Go.IntWalk.iteOmega, Go.IntWalk.toNatUp, hg, w0, w1, show (j : Int) + 1 ≤ 2 * c.table.length by omega]
      refine ICalls.then (hh _) ?_
      try simp [go_sem, -getElem?_pos, -List.map_take, -List.map_drop, List.getElem?_cons_zero, List.getElem?_cons_succ, Go.IntWalk.iteOmega, Go.IntWalk.toNatUp, hg, w0, w1, show (j : Int) + 1 ≤ 2 * c.table.length by omega]
      refine IWp.cond ?_
      simp [go_sem, -getElem?_pos, -List.map_take, -List.map_drop, List.getElem?_cons_zero, List.getElem?_cons_succ, Go.IntWalk.iteOmega, Go.IntWalk.toNatUp, hg, w0, w1, show (j : Int) + 1 ≤ 2 * c.table.length by omega]
      refine IWp.trim [1, 2, 5, 6, 7] (IWp.exit ?_)
      simp [go_sem, -getElem?_pos, -List.map_take, -List.map_drop, List.getElem?_cons_zero, List.getElem?_cons_succ, Go.IntWalk.iteOmega, Go.IntWalk.toNatUp, hg, w0, w1, show (j : Int) + 1 ≤ 2 * c.table.length by omega]
      refine IWp.run [1, 2, 5, 6, 7] ?_
      simp [go_sem, -getElem?_pos, -List.map_take, -List.map_drop, List.getElem?_cons_zero, List.getElem?_cons_succ, Go.IntWalk.iteOmega, Go.IntWalk.toNatUp, hg, w0, w1, show (j : Int) + 1 ≤ 2 * c.table.length by omega]
      exact ⟨2 * c.table.length - (j + 1), by omega, j + 1, rfl, by omega, by rw [hst], by rw [hst], by omega⟩
  · have hje : j = 2 * c.table.length := by omega
    subst hje
    unfold gapR
    refine IWp.seq ?_
    refine IWp.seq ?_
    refine IWp.run [1, 2, 5, 6, 7, 13] ?_
    simp [go_sem, -getElem?_pos, -List.map_take, -List.map_drop, List.getElem?_cons_zero, List.getElem?_cons_succ, Go.IntWalk.iteOmega, Go.IntWalk.toNatUp, hg, w0, show ¬ 2 * (c.table.length : Int) + 1 ≤ 2 * c.table.length by omega]
    refine IWp.cond ?_
    simp [go_sem, -getElem?_pos, -List.map_take, -List.map_drop, List.getElem?_cons_zero, List.getElem?_cons_succ, Go.IntWalk.iteOmega, Go.IntWalk.toNatUp, hg, w0, show ¬ 2 * (c.table.length : Int) + 1 ≤ 2 * c.table.length by omega]
    refine IWp.trim [5] (IWp.exit ?_)
    simp [go_sem, -getElem?_pos, -List.map_take, -List.map_drop, List.getElem?_cons_zero, List.getElem?_cons_succ, Go.IntWalk.iteOmega, Go.IntWalk.toNatUp, hg, w0, show ¬ 2 * (c.table.length : Int) + 1 ≤ 2 * c.table.length by omega]
    refine IWp.seq ?_
    refine IWp.run [4] ?_
    simp [go_sem, -getElem?_pos, -List.map_take, -List.map_drop, List.getElem?_cons_zero, List.getElem?_cons_succ, Go.IntWalk.iteOmega, Go.IntWalk.toNatUp, hg, w0, show ¬ 2 * (c.table.length : Int) + 1 ≤ 2 * c.table.length by omega]
    refine IWp.ret ?_
    simp [go_sem, -getElem?_pos, -List.map_take, -List.map_drop, List.getElem?_cons_zero, List.getElem?_cons_succ, Go.IntWalk.iteOmega, Go.IntWalk.toNatUp, hg, w0, show ¬ 2 * (c.table.length : Int) + 1 ≤ 2 * c.table.length by omega, Try.results21]
    try exact .same _

end Go.Proofs.Ytmiinclnpcokkaa.I
