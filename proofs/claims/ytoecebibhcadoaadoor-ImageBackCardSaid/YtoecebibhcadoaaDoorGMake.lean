/- Configurations: how many numbers a table has, whether a rule stands in it; how a draft's configuration is made. No condition. -/
import Derived.Test.YtoecebibhcadoaaDoorGConf
namespace Go.Proofs.YtoecebibhcadoaaDoor.I
open Go Go.RowKit
set_option linter.unusedVariables false
set_option linter.unusedSimpArgs false
theorem entriesS_snoc (T : List (List Int)) (i : Nat) (h : i < T.length) : entriesS (T.take (i + 1)) = entriesS (T.take i) + T[i].length := by
  unfold entriesS; rw [List.take_succ_eq_append_getElem h, List.map_append, List.sum_append]; rfl
theorem refEntries (H : Heap) (c : Config) (hl0 : c.table.length ≤ 1000000) (hl : ∀ n ≤ c.table.length, (entriesS (c.table.take n) : Int) < 9223372036854775808) :
    ICalls Tryd.prog 20 [c.val] H fun v H' => v = .int .i64 (entriesS c.table) ∧ H' = H := by
  refine ICalls.ans (by simp [go_sem]) fun H => IBody.calls (by kernel_rfl) ?_
  refine IBody.of Tryd.func20 rfl (by rw [Tryd.ntmps20]; simp) ?_
  rw [Tryd.ntmps20]
  have Kp : Kept [[1],[1,3],[1,3,4]] := ⟨⟩
  iterate 3 (refine Kp.s ?_; clear Kp; intro Kp; simp [go_sem, -getElem?_pos, -List.map_take, -List.map_drop, IntWalk.iteOmega, IntWalk.toNatUp, Config.val, Config.cells])
  refine IWp.block ?_
  have hg := Heap.get_alloc_new H c.cells
  simp only [Config.cells] at hg
  generalize H.next = b at *
  generalize H.alloc _ = H1 at *
  refine IWp.loop (fun j e K => ∃ i : Nat, j = c.table.length - i ∧ i ≤ c.table.length ∧ K = H1 ∧ e = [(1, ptrTo b 0), (3, .int .i64 (entriesS (c.table.take i))), (4, .int .i64 (i : Int))]) c.table.length ⟨0, rfl, Nat.zero_le _, rfl, by simp [go_sem, entriesS]⟩ ?_
  rintro j e K ⟨i, rfl, hi, rfl, rfl⟩
  by_cases hlt : i < c.table.length
  · have g : (c.table.map (ints .i64))[i]? = some (ints .i64 c.table[i]) := by simp [hlt]
    have hs := entriesS_snoc c.table i hlt
    have hb := hl (i + 1) (by omega)
    have w1 := IntWalk.i64_in ((i : Int) + 1) (by omega)
    have w2 := IntWalk.i64_in ((entriesS (c.table.take i) : Int) + c.table[i].length) (by omega)
    generalize c.table[i] = x at *
    have Kp : Kept [[1,3,4,9],[],[1,3,4],[1,3,4],[1,3,4]] := ⟨⟩
    iterate 5 (refine Kp.s ?_; clear Kp; intro Kp; simp [go_sem, -getElem?_pos, -List.map_take, -List.map_drop, IntWalk.iteOmega, IntWalk.toNatUp, hg, g, hlt, w1, w2])
    exact ⟨c.table.length - (i + 1), by omega, i + 1, rfl, by omega, by rw [hs]; simp, by omega⟩
  · have ht : c.table.take i = c.table := List.take_of_length_le (by omega)
    rw [ht]
    have Kp : Kept [[1,3,4,9],[],[3],[2],[]] := ⟨⟩
    iterate 5 (refine Kp.s ?_; clear Kp; intro Kp; simp [go_sem, -getElem?_pos, -List.map_take, -List.map_drop, IntWalk.iteOmega, IntWalk.toNatUp, hg, hlt])
theorem refStands (H : Heap) (c : Config) (n : Int) (hl : c.table.length ≤ 1000000) (hll : ∀ x ∈ c.table, x.length ≤ 1000000) :
    ICalls Tryd.prog 21 [c.val, .int .i64 n] H fun v H' => v = .bool (standsS c.table n) ∧ H' = H := by
  refine ICalls.ans (by simp [go_sem]) fun H => IBody.calls (by kernel_rfl) ?_
  refine IBody.of Tryd.func21 rfl (by rw [Tryd.ntmps21]; simp) ?_
  rw [Tryd.ntmps21]
  have Kp : Kept [[1,2],[1,2,5]] := ⟨⟩
  iterate 2 (refine Kp.s ?_; clear Kp; intro Kp; simp [go_sem, -getElem?_pos, -List.map_take, -List.map_drop, IntWalk.iteOmega, IntWalk.toNatUp, Config.val, Config.cells])
  refine IWp.block ?_
  have hg := Heap.get_alloc_new H c.cells
  simp only [Config.cells] at hg
  generalize H.next = b at *
  generalize H.alloc _ = H1 at *
  refine IWp.loop (fun j e K => ∃ i : Nat, j = c.table.length - i ∧ i ≤ c.table.length ∧ K = H1 ∧ e = [(1, .int .i64 n), (2, ptrTo b 0), (5, .int .i64 (i : Int))] ∧ standsS (c.table.take i) n = false) c.table.length ⟨0, rfl, Nat.zero_le _, rfl, by simp [go_sem], by simp [standsS]⟩ ?_
  rintro j e K ⟨i, rfl, hi, rfl, rfl, hpre⟩
  by_cases hlt : i < c.table.length
  · have g : (c.table.map (ints .i64))[i]? = some (ints .i64 c.table[i]) := by simp [hlt]
    have hm := List.getElem_mem hlt
    have hx := hll _ hm
    have hstep : standsS (c.table.take (i + 1)) n = (standsS (c.table.take i) n || decide (n ∈ c.table[i])) := by
      unfold standsS; rw [List.take_succ_eq_append_getElem hlt, List.any_append]; simp
    have hyes : n ∈ c.table[i] → standsS c.table n = true := fun h => by
      unfold standsS; rw [List.any_eq_true]; exact ⟨_, hm, by simpa using h⟩
    generalize c.table[i] = x at *
    have w1 := IntWalk.i64_in ((i : Int) + 1) (by omega)
    have Kp : Kept [[1,2,5,11],[],[1,2,5],[1,2,5,6]] := ⟨⟩
    iterate 4 (refine Kp.s ?_; clear Kp; intro Kp; simp [go_sem, -getElem?_pos, -List.map_take, -List.map_drop, IntWalk.iteOmega, IntWalk.toNatUp, hg, g, hlt])
    refine IWp.block ?_
    refine IWp.loop (fun j e K2 => ∃ k : Nat, j = x.length - k ∧ k ≤ x.length ∧ K2 = K ∧ e = [(1, .int .i64 n), (2, ptrTo b 0), (5, .int .i64 (i : Int)), (6, .int .i64 (k : Int))] ∧ ¬ n ∈ x.take k) x.length ⟨0, rfl, Nat.zero_le _, rfl, by simp [go_sem], by simp⟩ ?_
    rintro j e K ⟨k, rfl, hk, rfl, rfl, hpk⟩
    by_cases hlk : k < x.length
    · have gk : x[k]? = some x[k] := List.getElem?_eq_getElem hlk
      have hmk := List.getElem_mem hlk
      have hsk : n ∈ x.take (k + 1) ↔ n ∈ x.take k ∨ n = x[k] := by rw [List.take_succ_eq_append_getElem hlk, List.mem_append, List.mem_singleton]
      generalize x[k] = y at *
      have w2 := IntWalk.i64_in ((k : Int) + 1) (by omega)
      by_cases he : y = n
      · subst he
        rw [hyes hmk]
        have Kp : Kept [[1,2,5,6,21],[],[1,2,5,6],[1,2,5,6,33],[],[4],[]] := ⟨⟩
        iterate 7 (refine Kp.s ?_; clear Kp; intro Kp; simp [go_sem, -getElem?_pos, -List.map_take, -List.map_drop, IntWalk.iteOmega, IntWalk.toNatUp, hg, g, gk, hlt, hlk])
      · skip
        have Kp : Kept [[1,2,5,6,21],[],[1,2,5,6],[1,2,5,6,33],[],[1,2,5,6],[1,2,5,6]] := ⟨⟩
        iterate 7 (refine Kp.s ?_; clear Kp; intro Kp; simp [go_sem, -getElem?_pos, -List.map_take, -List.map_drop, IntWalk.iteOmega, IntWalk.toNatUp, hg, g, gk, hlt, hlk, he, w2])
        exact ⟨x.length - (k + 1), by omega, k + 1, rfl, by omega, by omega, by rw [hsk]; simp [hpk]; exact fun e => he e.symm⟩
    · rw [List.take_of_length_le (by omega)] at hpk
      have Kp : Kept [[1,2,5,6,21],[],[1,2,5],[1,2,5]] := ⟨⟩
      iterate 4 (refine Kp.s ?_; clear Kp; intro Kp; simp [go_sem, -getElem?_pos, -List.map_take, -List.map_drop, IntWalk.iteOmega, IntWalk.toNatUp, hg, g, hlt, hlk, w1])
      exact ⟨c.table.length - (i + 1), by omega, i + 1, rfl, by omega, by omega, by rw [hstep, hpre]; simp [hpk]⟩
  · rw [List.take_of_length_le (by omega)] at hpre
    rw [hpre]
    have Kp : Kept [[1,2,5,11],[],[],[4],[]] := ⟨⟩
    iterate 5 (refine Kp.s ?_; clear Kp; intro Kp; simp [go_sem, -getElem?_pos, -List.map_take, -List.map_drop, IntWalk.iteOmega, IntWalk.toNatUp, hg, hlt])
end Go.Proofs.YtoecebibhcadoaaDoor.I
