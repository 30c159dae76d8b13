/- Configurations: how many numbers a table has, whether a rule stands in it; how a draft's configuration is made. No condition. -/
import Derived.Test.YtoecebibhcadoaaGConf
namespace Go.Proofs.Ytoecebibhcadoaa.I
open Go Go.RowKit
set_option linter.unusedVariables false
set_option linter.unusedSimpArgs false


theorem entriesS_snoc (T : List (List Int)) (i : Nat) (h : i < T.length) : entriesS (T.take (i + 1)) = entriesS (T.take i) + T[i].length := by
  unfold entriesS; rw [List.take_succ_eq_append_getElem h, List.map_append, List.sum_append]; rfl

theorem refEntries (H : Heap) (c : Config) (hl0 : c.table.length ≤ 1000000) (hl : ∀ n ≤ c.table.length, (entriesS (c.table.take n) : Int) < 9223372036854775808) :
    ICalls Try.prog 8 [c.val] H fun v H' => v = .int .i64 (entriesS c.table) ∧ H' = H := by
  refine ICalls.ans (by simp [go_sem]) fun H => IBody.calls (by kernel_rfl) ?_
  refine IBody.of Try.func8 rfl (by rw [Try.ntmps8]; simp) ?_
  rw [Try.ntmps8]
  refine IWp.seq ?_
  refine IWp.run [1] ?_
  simp [go_sem, -getElem?_pos, -List.map_take, -List.map_drop, List.getElem?_cons_zero, List.getElem?_cons_succ, Go.IntWalk.iteOmega, Go.IntWalk.toNatUp, Config.val, Config.cells]
  refine IWp.seq ?_
  refine IWp.run [1, 3] ?_
  simp [go_sem, -getElem?_pos, -List.map_take, -List.map_drop, List.getElem?_cons_zero, List.getElem?_cons_succ, Go.IntWalk.iteOmega, Go.IntWalk.toNatUp, Config.val, Config.cells]
  refine IWp.seq ?_
  refine IWp.seq ?_
  refine IWp.run [1, 3, 4] ?_
  simp [go_sem, -getElem?_pos, -List.map_take, -List.map_drop, List.getElem?_cons_zero, List.getElem?_cons_succ, Go.IntWalk.iteOmega, Go.IntWalk.toNatUp, Config.val, Config.cells]
  refine IWp.block ?_
  -- LOOP live [1, 3, 4]
  have hg := Heap.get_alloc_new H c.cells
  simp only [Config.cells] at hg
  generalize H.next = b at *
  generalize H.alloc _ = H1 at *
  refine IWp.loop (fun j e K => ∃ i : Nat, j = c.table.length - i ∧ i ≤ c.table.length ∧ K = H1 ∧ e = [(1, ptrTo b 0), (3, .int .i64 (entriesS (c.table.take i))), (4, .int .i64 (i : Int))]) c.table.length ⟨0, rfl, Nat.zero_le _, rfl, by simp [go_sem, entriesS]⟩ ?_
  rintro j e K ⟨i, rfl, hi, rfl, rfl⟩
  by_cases hlt : i < c.table.length
  · have g : (c.table.map (ints .i64))[i]? = some (ints .i64 c.table[i]) := by simp [hlt]
    have hs := entriesS_snoc c.table i hlt
    have hb := hl (i + 1) (by omega)
    have w1 := IntWalk.i64_in ((i : Int) + 1) (by omega)
    have w2 := IntWalk.i64_in ((entriesS (c.table.take i) : Int) + c.table[i].length) (by omega)
    generalize c.table[i] = x at *
    refine IWp.seq ?_
    refine IWp.seq ?_
    refine IWp.run [1, 3, 4, 9] ?_
    simp [go_sem, -getElem?_pos, -List.map_take, -List.map_drop, List.getElem?_cons_zero, List.getElem?_cons_succ, Go.IntWalk.iteOmega, Go.IntWalk.toNatUp, hg, g, hlt, w1, w2]
    refine IWp.cond ?_
    simp [go_sem, -getElem?_pos, -List.map_take, -List.map_drop, List.getElem?_cons_zero, List.getElem?_cons_succ, Go.IntWalk.iteOmega, Go.IntWalk.toNatUp, hg, g, hlt, w1, w2]
    refine IWp.trim [1, 3, 4] (IWp.skip ?_)
    simp [go_sem, -getElem?_pos, -List.map_take, -List.map_drop, List.getElem?_cons_zero, List.getElem?_cons_succ, Go.IntWalk.iteOmega, Go.IntWalk.toNatUp, hg, g, hlt, w1, w2]
    refine IWp.seq ?_
    refine IWp.block ?_
    refine IWp.run [1, 3, 4] ?_
    simp [go_sem, -getElem?_pos, -List.map_take, -List.map_drop, List.getElem?_cons_zero, List.getElem?_cons_succ, Go.IntWalk.iteOmega, Go.IntWalk.toNatUp, hg, g, hlt, w1, w2]
    refine IWp.run [1, 3, 4] ?_
    simp [go_sem, -getElem?_pos, -List.map_take, -List.map_drop, List.getElem?_cons_zero, List.getElem?_cons_succ, Go.IntWalk.iteOmega, Go.IntWalk.toNatUp, hg, g, hlt, w1, w2]
    exact ⟨c.table.length - (i + 1), by omega, i + 1, rfl, by omega, by rw [hs]; simp, by omega⟩
  · have ht : c.table.take i = c.table := List.take_of_length_le (by omega)
    rw [ht]
    refine IWp.seq ?_
    refine IWp.seq ?_
    refine IWp.run [1, 3, 4, 9] ?_
    simp [go_sem, -getElem?_pos, -List.map_take, -List.map_drop, List.getElem?_cons_zero, List.getElem?_cons_succ, Go.IntWalk.iteOmega, Go.IntWalk.toNatUp, hg, hlt]
    refine IWp.cond ?_
    simp [go_sem, -getElem?_pos, -List.map_take, -List.map_drop, List.getElem?_cons_zero, List.getElem?_cons_succ, Go.IntWalk.iteOmega, Go.IntWalk.toNatUp, hg, hlt]
    refine IWp.trim [3] (IWp.exit ?_)
    simp [go_sem, -getElem?_pos, -List.map_take, -List.map_drop, List.getElem?_cons_zero, List.getElem?_cons_succ, Go.IntWalk.iteOmega, Go.IntWalk.toNatUp, hg, hlt]
    refine IWp.seq ?_
    refine IWp.run [2] ?_
    simp [go_sem, -getElem?_pos, -List.map_take, -List.map_drop, List.getElem?_cons_zero, List.getElem?_cons_succ, Go.IntWalk.iteOmega, Go.IntWalk.toNatUp, hg, hlt]
    refine IWp.ret ?_
    simp [go_sem, -getElem?_pos, -List.map_take, -List.map_drop, List.getElem?_cons_zero, List.getElem?_cons_succ, Go.IntWalk.iteOmega, Go.IntWalk.toNatUp, hg, hlt, Try.results8]

theorem refStands (H : Heap) (c : Config) (n : Int) (hl : c.table.length ≤ 1000000) (hll : ∀ x ∈ c.table, x.length ≤ 1000000) :
    ICalls Try.prog 7 [c.val, .int .i64 n] H fun v H' => v = .bool (standsS c.table n) ∧ H' = H := by
  refine ICalls.ans (by simp [go_sem]) fun H => IBody.calls (by kernel_rfl) ?_
  refine IBody.of Try.func7 rfl (by rw [Try.ntmps7]; simp) ?_
  rw [Try.ntmps7]
  refine IWp.seq ?_
  refine IWp.run [1, 2] ?_
  simp [go_sem, -getElem?_pos, -List.map_take, -List.map_drop, List.getElem?_cons_zero, List.getElem?_cons_succ, Go.IntWalk.iteOmega, Go.IntWalk.toNatUp, Config.val, Config.cells]
  refine IWp.seq ?_
  refine IWp.seq ?_
  refine IWp.run [1, 2, 5] ?_
  simp [go_sem, -getElem?_pos, -List.map_take, -List.map_drop, List.getElem?_cons_zero, List.getElem?_cons_succ, Go.IntWalk.iteOmega, Go.IntWalk.toNatUp, Config.val, Config.cells]
  refine IWp.block ?_
  -- LOOP live [1, 2, 5]
  have hg := Heap.get_alloc_new H c.cells
  simp only [Config.cells] at hg
  generalize H.next = b at *
  generalize H.alloc _ = H1 at *
  refine IWp.loop (fun j e K => ∃ i : Nat, j = c.table.length - i ∧ i ≤ c.table.length ∧ K = H1 ∧ e = [(1, .int .i64 n), (2, ptrTo b 0), (5, .int .i64 (i : Int))] ∧ standsS (c.table.take i) n = false) c.table.length ⟨0, rfl, Nat.zero_le _, rfl, by simp [go_sem], by simp [standsS]⟩ ?_
  rintro j e K ⟨i, rfl, hi, rfl, rfl, hpre⟩
  by_cases hlt : i < c.table.length
  · have g : (c.table.map (ints .i64))[i]? = some (ints .i64 c.table[i]) := by simp [hlt]
    have hm := List.getElem_mem hlt
    have hx := hll _ hm
    have hstep : standsS (c.table.take (i + 1)) n = (standsS (c.table.take i) n || decide (n ∈ c.table[i])) := by
      unfold standsS; rw [List.take_succ_eq_append_getElem hlt, List.any_append]; simp
    have hyes : n ∈ c.table[i] → standsS c.table n = true := fun h => by
      unfold standsS; rw [List.any_eq_true]; exact ⟨_, hm, by simpa using h⟩
    generalize c.table[i] = x at *
    have w1 := IntWalk.i64_in ((i : Int) + 1) (by omega)
    refine IWp.seq ?_
    refine IWp.seq ?_
    refine IWp.run [1, 2, 5, 11] ?_
    simp [go_sem, -getElem?_pos, -List.map_take, -List.map_drop, List.getElem?_cons_zero, List.getElem?_cons_succ, Go.IntWalk.iteOmega, Go.IntWalk.toNatUp, hg, g, hlt]
    refine IWp.cond ?_
    simp [go_sem, -getElem?_pos, -List.map_take, -List.map_drop, List.getElem?_cons_zero, List.getElem?_cons_succ, Go.IntWalk.iteOmega, Go.IntWalk.toNatUp, hg, g, hlt]
    refine IWp.trim [1, 2, 5] (IWp.skip ?_)
    simp [go_sem, -getElem?_pos, -List.map_take, -List.map_drop, List.getElem?_cons_zero, List.getElem?_cons_succ, Go.IntWalk.iteOmega, Go.IntWalk.toNatUp, hg, g, hlt]
    refine IWp.seq ?_
    refine IWp.block ?_
    refine IWp.seq ?_
    refine IWp.run [1, 2, 5, 6] ?_
    simp [go_sem, -getElem?_pos, -List.map_take, -List.map_drop, List.getElem?_cons_zero, List.getElem?_cons_succ, Go.IntWalk.iteOmega, Go.IntWalk.toNatUp, hg, g, hlt]
    refine IWp.block ?_
    -- LOOP live [1, 2, 5, 6]
    refine IWp.loop (fun j e K2 => ∃ k : Nat, j = x.length - k ∧ k ≤ x.length ∧ K2 = K ∧ e = [(1, .int .i64 n), (2, ptrTo b 0), (5, .int .i64 (i : Int)), (6, .int .i64 (k : Int))] ∧ ¬ n ∈ x.take k) x.length ⟨0, rfl, Nat.zero_le _, rfl, by simp [go_sem], by simp⟩ ?_
    rintro j e K ⟨k, rfl, hk, rfl, rfl, hpk⟩
    by_cases hlk : k < x.length
    · have gk : x[k]? = some x[k] := List.getElem?_eq_getElem hlk
      have hmk := List.getElem_mem hlk
      have hsk : n ∈ x.take (k + 1) ↔ n ∈ x.take k ∨ n = x[k] := by rw [List.take_succ_eq_append_getElem hlk, List.mem_append, List.mem_singleton]
      generalize x[k] = y at *
      have w2 := IntWalk.i64_in ((k : Int) + 1) (by omega)
      by_cases he : y = n
      · subst he
        rw [hyes hmk]
        refine IWp.seq ?_
        refine IWp.seq ?_
        refine IWp.run [1, 2, 5, 6, 21] ?_
        simp [go_sem, -getElem?_pos, -List.map_take, -List.map_drop, List.getElem?_cons_zero, List.getElem?_cons_succ, Go.IntWalk.iteOmega, Go.IntWalk.toNatUp, hg, g, gk, hlt, hlk]
        refine IWp.cond ?_
        simp [go_sem, -getElem?_pos, -List.map_take, -List.map_drop, List.getElem?_cons_zero, List.getElem?_cons_succ, Go.IntWalk.iteOmega, Go.IntWalk.toNatUp, hg, g, gk, hlt, hlk]
        refine IWp.trim [1, 2, 5, 6] (IWp.skip ?_)
        simp [go_sem, -getElem?_pos, -List.map_take, -List.map_drop, List.getElem?_cons_zero, List.getElem?_cons_succ, Go.IntWalk.iteOmega, Go.IntWalk.toNatUp, hg, g, gk, hlt, hlk]
        refine IWp.seq ?_
        refine IWp.block ?_
        refine IWp.seq ?_
        refine IWp.run [1, 2, 5, 6, 33] ?_
        simp [go_sem, -getElem?_pos, -List.map_take, -List.map_drop, List.getElem?_cons_zero, List.getElem?_cons_succ, Go.IntWalk.iteOmega, Go.IntWalk.toNatUp, hg, g, gk, hlt, hlk]
        refine IWp.cond ?_
        simp [go_sem, -getElem?_pos, -List.map_take, -List.map_drop, List.getElem?_cons_zero, List.getElem?_cons_succ, Go.IntWalk.iteOmega, Go.IntWalk.toNatUp, hg, g, gk, hlt, hlk]
        refine IWp.seq ?_
        refine IWp.run [4] ?_
        simp [go_sem, -getElem?_pos, -List.map_take, -List.map_drop, List.getElem?_cons_zero, List.getElem?_cons_succ, Go.IntWalk.iteOmega, Go.IntWalk.toNatUp, hg, g, gk, hlt, hlk]
        refine IWp.ret ?_
        simp [go_sem, -getElem?_pos, -List.map_take, -List.map_drop, List.getElem?_cons_zero, List.getElem?_cons_succ, Go.IntWalk.iteOmega, Go.IntWalk.toNatUp, hg, g, gk, hlt, hlk, Try.results7]
      · skip
        refine IWp.seq ?_
        refine IWp.seq ?_
        refine IWp.run [1, 2, 5, 6, 21] ?_
        simp [go_sem, -getElem?_pos, -List.map_take, -List.map_drop, List.getElem?_cons_zero, List.getElem?_cons_succ, Go.IntWalk.iteOmega, Go.IntWalk.toNatUp, hg, g, gk, hlt, hlk, he, w2]
        refine IWp.cond ?_
        simp [go_sem, -getElem?_pos, -List.map_take, -List.map_drop, List.getElem?_cons_zero, List.getElem?_cons_succ, Go.IntWalk.iteOmega, Go.IntWalk.toNatUp, hg, g, gk, hlt, hlk, he, w2]
        refine IWp.trim [1, 2, 5, 6] (IWp.skip ?_)
        simp [go_sem, -getElem?_pos, -List.map_take, -List.map_drop, List.getElem?_cons_zero, List.getElem?_cons_succ, Go.IntWalk.iteOmega, Go.IntWalk.toNatUp, hg, g, gk, hlt, hlk, he, w2]
        refine IWp.seq ?_
        refine IWp.block ?_
        refine IWp.seq ?_
        refine IWp.run [1, 2, 5, 6, 33] ?_
        simp [go_sem, -getElem?_pos, -List.map_take, -List.map_drop, List.getElem?_cons_zero, List.getElem?_cons_succ, Go.IntWalk.iteOmega, Go.IntWalk.toNatUp, hg, g, gk, hlt, hlk, he, w2]
        refine IWp.cond ?_
        simp [go_sem, -getElem?_pos, -List.map_take, -List.map_drop, List.getElem?_cons_zero, List.getElem?_cons_succ, Go.IntWalk.iteOmega, Go.IntWalk.toNatUp, hg, g, gk, hlt, hlk, he, w2]
        refine IWp.trim [1, 2, 5, 6] (IWp.skip ?_)
        simp [go_sem, -getElem?_pos, -List.map_take, -List.map_drop, List.getElem?_cons_zero, List.getElem?_cons_succ, Go.IntWalk.iteOmega, Go.IntWalk.toNatUp, hg, g, gk, hlt, hlk, he, w2]
        refine IWp.run [1, 2, 5, 6] ?_
        simp [go_sem, -getElem?_pos, -List.map_take, -List.map_drop, List.getElem?_cons_zero, List.getElem?_cons_succ, Go.IntWalk.iteOmega, Go.IntWalk.toNatUp, hg, g, gk, hlt, hlk, he, w2]
        exact ⟨x.length - (k + 1), by omega, k + 1, rfl, by omega, by omega, by rw [hsk]; simp [hpk]; exact fun e => he e.symm⟩
    · rw [List.take_of_length_le (by omega)] at hpk
      refine IWp.seq ?_
      refine IWp.seq ?_
      refine IWp.run [1, 2, 5, 6, 21] ?_
      simp [go_sem, -getElem?_pos, -List.map_take, -List.map_drop, List.getElem?_cons_zero, List.getElem?_cons_succ, Go.IntWalk.iteOmega, Go.IntWalk.toNatUp, hg, g, hlt, hlk, w1]
      refine IWp.cond ?_
      simp [go_sem, -getElem?_pos, -List.map_take, -List.map_drop, List.getElem?_cons_zero, List.getElem?_cons_succ, Go.IntWalk.iteOmega, Go.IntWalk.toNatUp, hg, g, hlt, hlk, w1]
      refine IWp.trim [1, 2, 5] (IWp.exit ?_)
      simp [go_sem, -getElem?_pos, -List.map_take, -List.map_drop, List.getElem?_cons_zero, List.getElem?_cons_succ, Go.IntWalk.iteOmega, Go.IntWalk.toNatUp, hg, g, hlt, hlk, w1]
      refine IWp.run [1, 2, 5] ?_
      simp [go_sem, -getElem?_pos, -List.map_take, -List.map_drop, List.getElem?_cons_zero, List.getElem?_cons_succ, Go.IntWalk.iteOmega, Go.IntWalk.toNatUp, hg, g, hlt, hlk, w1]
      exact ⟨c.table.length - (i + 1), by omega, i + 1, rfl, by omega, by omega, by rw [hstep, hpre]; simp [hpk]⟩
  · rw [List.take_of_length_le (by omega)] at hpre
    rw [hpre]
    refine IWp.seq ?_
    refine IWp.seq ?_
    refine IWp.run [1, 2, 5, 11] ?_
    simp [go_sem, -getElem?_pos, -List.map_take, -List.map_drop, List.getElem?_cons_zero, List.getElem?_cons_succ, Go.IntWalk.iteOmega, Go.IntWalk.toNatUp, hg, hlt]
    refine IWp.cond ?_
    simp [go_sem, -getElem?_pos, -List.map_take, -List.map_drop, List.getElem?_cons_zero, List.getElem?_cons_succ, Go.IntWalk.iteOmega, Go.IntWalk.toNatUp, hg, hlt]
    refine IWp.trim [] (IWp.exit ?_)
    simp [go_sem, -getElem?_pos, -List.map_take, -List.map_drop, List.getElem?_cons_zero, List.getElem?_cons_succ, Go.IntWalk.iteOmega, Go.IntWalk.toNatUp, hg, hlt]
    refine IWp.seq ?_
    refine IWp.run [4] ?_
    simp [go_sem, -getElem?_pos, -List.map_take, -List.map_drop, List.getElem?_cons_zero, List.getElem?_cons_succ, Go.IntWalk.iteOmega, Go.IntWalk.toNatUp, hg, hlt]
    refine IWp.ret ?_
    simp [go_sem, -getElem?_pos, -List.map_take, -List.map_drop, List.getElem?_cons_zero, List.getElem?_cons_succ, Go.IntWalk.iteOmega, Go.IntWalk.toNatUp, hg, hlt, Try.results7]

end Go.Proofs.Ytoecebibhcadoaa.I
