/- Of images: how long one is. No condition. -/
import Derived.Test.YtoecebibhcadoaaDoorZD
namespace Go.Proofs.YtoecebibhcadoaaDoor.I
open Go Go.RowKit
set_option linter.unusedVariables false
set_option linter.unusedSimpArgs false
def sumR (l : List Rule) : Nat := (l.map fun r => 1 + 5 * r.stages.length).sum
theorem sumR_le (l : List Rule) (h : ∀ r ∈ l, r.stages.length ≤ 255) : sumR l ≤ 1276 * l.length := by
  induction l with
  | nil => exact Nat.le_refl _
  | cons r l ih =>
    have := h r (List.mem_cons_self ..)
    have := ih fun x hx => h x (List.mem_cons_of_mem _ hx)
    unfold sumR at *
    simp only [List.map_cons, List.sum_cons, List.length_cons]
    omega
theorem sumR_snoc (l : List Rule) {i : Nat} (h : i < l.length) : sumR (l.take (i + 1)) = sumR (l.take i) + (1 + 5 * l[i].stages.length) := by
  unfold sumR; rw [List.take_succ_eq_append_getElem h, List.map_append, List.sum_append]; simp
theorem rules_len (l : List Rule) : (l.flatMap ruleY).length = 20 * l.length + sumR l := by
  induction l with
  | nil => rfl
  | cons r l ih =>
    rw [List.flatMap_cons, List.length_append, ih, ruleY_len]
    unfold sumR
    simp only [List.map_cons, List.sum_cons, List.length_cons]
    omega
theorem slots_len (T : List (List Int)) : (T.flatMap slotB).length = T.length + entriesS T := by
  induction T with
  | nil => rfl
  | cons l T ih =>
    rw [List.flatMap_cons, List.length_append, ih, slotB_len]
    unfold entriesS
    simp only [List.map_cons, List.sum_cons, List.length_cons]
    omega
set_option maxHeartbeats 4000000 in
theorem imageLength_law (H : Heap) (d : Draft) (hd : d.wf) : IBody Tryd.prog 8 [d.val] H fun v _ => v = .bool true := by
  by_cases hs : shortD d
  · obtain ⟨c, hc⟩ : ∃ c, c = makeS d := ⟨_, rfl⟩
    have hw : c.wf := by rw [hc]; exact make_wf hd
    have hf : Fit c := by rw [hc]; exact make_fit hd
    have mk := fun K => make K d hd
    rw [← hc] at mk
    have dcs := decide_eq_true hs
    have l1 := hf.s.1
    have l2 := hf.r.1
    have l3 := hf.t.1
    have he : ∀ n ≤ c.table.length, (entriesS (c.table.take n) : Int) < 9223372036854775808 := fun n hn => by
      have := entriesS_le 255 (c.table.take n) fun x hx => (hf.t.2 x (List.mem_of_mem_take hx)).1
      rw [List.length_take] at this
      omega
    have e0 := entriesS_le 255 c.table fun x hx => (hf.t.2 x hx).1
    obtain ⟨E, hE⟩ : ∃ E, E = entriesS c.table := ⟨_, rfl⟩
    have ce := fun K => refEntries K c (by omega) he
    rw [← hE] at ce e0
    have hsum := sumR_le c.rules fun r hr => (hf.r.2 r hr).2.2.2.2.2.1
    have tot : (closed (cfgB c)).length = 25 + 8 * c.sigs.length + 20 * c.rules.length + c.table.length + E + sumR c.rules := by
      rw [closed_len', cfgB_len, rules_len, slots_len, hE]; omega
    have g0 : ((H.alloc d.cells).alloc c.cells).get (H.next + 1) = some ⟨c.cells, true⟩ := by simp [get_alloc, next_alloc]
    simp only [Config.cells, Draft.cells] at g0
    refine IBody.of Tryd.func8 rfl (by rw [Tryd.ntmps8]; simp) ?_
    rw [Tryd.ntmps8]
    have Kp : Kept [[1],[1,12]] := ⟨⟩
    iterate 2 (refine Kp.s ?_; clear Kp; intro Kp; simp [go_sem, -getElem?_pos, -List.map_take, -List.map_drop, IntWalk.iteOmega, IntWalk.toNatUp, Draft.val, Draft.cells, dcs, Config.val, Config.cells])
    refine ICalls.then (noneC _) ?_
    try simp [go_sem, -getElem?_pos, -List.map_take, -List.map_drop, IntWalk.iteOmega, IntWalk.toNatUp, Draft.val, Draft.cells, dcs, Config.val, Config.cells]
    refine ICalls.then (shortD' _ d) ?_
    try simp [go_sem, -getElem?_pos, -List.map_take, -List.map_drop, IntWalk.iteOmega, IntWalk.toNatUp, Draft.val, Draft.cells, dcs, Config.val, Config.cells]
    have Kp : Kept [[],[1],[3]] := ⟨⟩
    iterate 3 (refine Kp.s ?_; clear Kp; intro Kp; simp [go_sem, -getElem?_pos, -List.map_take, -List.map_drop, IntWalk.iteOmega, IntWalk.toNatUp, Draft.val, Draft.cells, dcs, Config.val, Config.cells])
    refine ICalls.then (mk _) ?_
    try simp [go_sem, -getElem?_pos, -List.map_take, -List.map_drop, IntWalk.iteOmega, IntWalk.toNatUp, Draft.val, Draft.cells, dcs, Config.val, Config.cells]
    refine IWp.seq ?_
    generalize (H.alloc _).alloc _ = K at g0 ⊢
    generalize H.next + 1 = q at g0 ⊢
    refine IWp.draw [3, 4] [q] (.ld 16 [17, 18, 19, 20, 21, 22] (.val 0 (.val 6 (.val 12 (.val 1 (.val 2 (.val 3 (.val 4 (.val 5 (.val 7 (.val 8 (.val 9 (.val 10 (.val 11 (.val 13 (.val 14 (.val 15 (.eff 17 (.val 18 (.val 19 (.val 20 (.val 21 (.val 22 .done))))) .done)))))))))))))))))) follows (by kernel_rfl) ?_
    simp (disch := omega) [go_sem, -getElem?_pos, -List.map_take, -List.map_drop, IntWalk.iteOmega, IntWalk.toNatUp, IntWalk.i64_in, IntWalk.u8_in, IntWalk.i64_quo, IntWalk.u8_quo, IntWalk.rem_in, g0, Config.val, Config.cells]
    refine ICalls.then (ce _) ?_
    try simp (disch := omega) [go_sem, -getElem?_pos, -List.map_take, -List.map_drop, IntWalk.iteOmega, IntWalk.toNatUp, IntWalk.i64_in, IntWalk.u8_in, IntWalk.i64_quo, IntWalk.u8_quo, IntWalk.rem_in, g0, Config.val, Config.cells]
    refine IWp.seq ?_
    refine IWp.seq ?_
    obtain ⟨Z, hZ⟩ : ∃ Z : Int, Z = 4 + 8 * (c.sigs.length : Int) + 1 + 20 * c.rules.length + 1 + c.table.length + E + 4 + 13 + 2 := ⟨_, rfl⟩
    rw [← hZ]
    have hZb : 0 ≤ Z ∧ Z ≤ 100000 := by omega
    refine IWp.one [3, 4, 5] ?_
    simp [go_sem, -getElem?_pos, -List.map_take, -List.map_drop, IntWalk.iteOmega, IntWalk.toNatUp]
    refine IWp.block ?_
    refine IWp.loop (fun j e M => ∃ i : Nat, j = c.rules.length - i ∧ i ≤ c.rules.length ∧ M = K ∧ e = [(3, ptrTo q 0), (4, .int .i64 (Z + sumR (c.rules.take i))), (5, .int .i64 (i : Int))]) c.rules.length ⟨0, rfl, Nat.zero_le _, rfl, by simp [go_sem, sumR]⟩ ?_
    rintro j e M ⟨i, rfl, hi, rfl, rfl⟩
    by_cases hlt : i < c.rules.length
    · have g : c.rules[i]? = some c.rules[i] := by simp [hlt]
      have hstep := sumR_snoc c.rules hlt
      have hk := (hf.r.2 c.rules[i] (List.getElem_mem hlt)).2.2.2.2.2.1
      have hsl := sumR_le (c.rules.take i) fun r hr => (hf.r.2 r (List.mem_of_mem_take hr)).2.2.2.2.2.1
      rw [List.length_take] at hsl
      generalize c.rules[i] = x at *
      have w1 := IntWalk.i64_in ((i : Int) + 1) (by omega)
      have w2 := IntWalk.i64_in (5 * (x.stages.length : Int)) (by omega)
      have w3 := IntWalk.i64_in (1 + 5 * (x.stages.length : Int)) (by omega)
      have w4 := IntWalk.i64_in (Z + (sumR (c.rules.take i) : Int) + (1 + 5 * (x.stages.length : Int))) (by omega)
      have Kp : Kept [[3,4,5,42],[],[3,4,5],[3,4,5],[3,4,5]] := ⟨⟩
      iterate 5 (refine Kp.s ?_; clear Kp; intro Kp; simp [go_sem, -getElem?_pos, -List.map_take, -List.map_drop, IntWalk.iteOmega, IntWalk.toNatUp, g0, hlt, g, w1, w2, w3, w4, Rule.val, Rule.cells])
      exact ⟨c.rules.length - (i + 1), by omega, i + 1, rfl, by omega, by rw [hstep]; simp; omega⟩
    · have ht : c.rules.take i = c.rules := List.take_of_length_le (by omega)
      rw [ht]
      have Kp : Kept [[3,4,5,42],[],[3,4],[2]] := ⟨⟩
      iterate 4 (refine Kp.s ?_; clear Kp; intro Kp; simp [go_sem, -getElem?_pos, -List.map_take, -List.map_drop, IntWalk.iteOmega, IntWalk.toNatUp, g0, hlt, tot, Config.val, Config.cells, show ¬ (i : Int) < c.rules.length by omega, show (25 + 8 * (c.sigs.length : Int) + 20 * c.rules.length + c.table.length + E + sumR c.rules) = Z + sumR c.rules by omega])
      refine ICalls.then (encodeC _ c hw (cfgB_small hf)) ?_
      try simp [go_sem, -getElem?_pos, -List.map_take, -List.map_drop, IntWalk.iteOmega, IntWalk.toNatUp, g0, hlt, tot, Config.val, Config.cells, show ¬ (i : Int) < c.rules.length by omega, show (25 + 8 * (c.sigs.length : Int) + 20 * c.rules.length + c.table.length + E + sumR c.rules) = Z + sumR c.rules by omega]
      refine IWp.one [] ?_
      simp [go_sem, -getElem?_pos, -List.map_take, -List.map_drop, IntWalk.iteOmega, IntWalk.toNatUp, g0, hlt, tot, Config.val, Config.cells, show ¬ (i : Int) < c.rules.length by omega, show (25 + 8 * (c.sigs.length : Int) + 20 * c.rules.length + c.table.length + E + sumR c.rules) = Z + sumR c.rules by omega]
  · have dcs := decide_eq_false hs
    refine IBody.of Tryd.func8 rfl (by rw [Tryd.ntmps8]; simp) ?_
    rw [Tryd.ntmps8]
    have Kp : Kept [[1],[1,12]] := ⟨⟩
    iterate 2 (refine Kp.s ?_; clear Kp; intro Kp; simp [go_sem, -getElem?_pos, -List.map_take, -List.map_drop, IntWalk.iteOmega, IntWalk.toNatUp, Draft.val, Draft.cells, dcs])
    refine ICalls.then (noneC _) ?_
    try simp [go_sem, -getElem?_pos, -List.map_take, -List.map_drop, IntWalk.iteOmega, IntWalk.toNatUp, Draft.val, Draft.cells, dcs]
    refine ICalls.then (shortD' _ d) ?_
    try simp [go_sem, -getElem?_pos, -List.map_take, -List.map_drop, IntWalk.iteOmega, IntWalk.toNatUp, Draft.val, Draft.cells, dcs]
    have Kp : Kept [[],[2]] := ⟨⟩
    iterate 2 (refine Kp.s ?_; clear Kp; intro Kp; simp [go_sem, -getElem?_pos, -List.map_take, -List.map_drop, IntWalk.iteOmega, IntWalk.toNatUp, Draft.val, Draft.cells, dcs])
    refine ICalls.then (noneC _) ?_
    try simp [go_sem, -getElem?_pos, -List.map_take, -List.map_drop, IntWalk.iteOmega, IntWalk.toNatUp, Draft.val, Draft.cells, dcs]
    refine IWp.one [] ?_
    simp [go_sem, -getElem?_pos, -List.map_take, -List.map_drop, IntWalk.iteOmega, IntWalk.toNatUp, Draft.val, Draft.cells, dcs]
end Go.Proofs.YtoecebibhcadoaaDoor.I
