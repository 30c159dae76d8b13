/- Tables: the runs between looks, and the bounds: the laws' bodies. No condition. -/
import Derived.Test.YtmiinclnpcokkaaLTableB
import Derived.Test.YtmiinclnpcokkaaPLooks
namespace Go.Proofs.Ytmiinclnpcokkaa.I
open Go Go.RowKit
set_option linter.unusedVariables false
set_option linter.unusedSimpArgs false

set_option maxHeartbeats 1000000 in
theorem tableLooks_law (H : Heap) (d : Draft) (at_ rule : Int) (hw : d.wf) (w1 : 0 ≤ at_ ∧ at_ < 65536) (w2 : 0 ≤ rule ∧ rule < 256) :
    IBody Try.prog 4 [d.val, .int .u16 at_, .int .u8 rule] H fun v _ => v = .bool true := by
  by_cases hs : shortD d
  case neg =>
    have h1 := shortsF d hs
    simp only [Draft.cells] at h1
    refine IBody.of Try.func4 rfl (by rw [Try.ntmps4]; simp) ?_
    rw [Try.ntmps4]
    refine IWp.seq ?_
    refine IWp.run [1, 2, 3] ?_
    simp [go_sem, -getElem?_pos, -List.map_take, -List.map_drop, List.getElem?_cons_zero, List.getElem?_cons_succ, Go.IntWalk.iteOmega, Go.IntWalk.toNatUp, Draft.val, Draft.cells]
    refine IWp.seq ?_
    refine IWp.seq ?_
    refine IWp.run [1, 2, 3, 22] ?_
    simp [go_sem, -getElem?_pos, -List.map_take, -List.map_drop, List.getElem?_cons_zero, List.getElem?_cons_succ, Go.IntWalk.iteOmega, Go.IntWalk.toNatUp, Draft.val, Draft.cells]
    refine ICalls.then (gaps _) ?_
    try simp [go_sem, -getElem?_pos, -List.map_take, -List.map_drop, List.getElem?_cons_zero, List.getElem?_cons_succ, Go.IntWalk.iteOmega, Go.IntWalk.toNatUp, Draft.val, Draft.cells]
    refine ICalls.then (h1 _) ?_
    try simp [go_sem, -getElem?_pos, -List.map_take, -List.map_drop, List.getElem?_cons_zero, List.getElem?_cons_succ, Go.IntWalk.iteOmega, Go.IntWalk.toNatUp, Draft.val, Draft.cells]
    refine IWp.cond ?_
    simp [go_sem, -getElem?_pos, -List.map_take, -List.map_drop, List.getElem?_cons_zero, List.getElem?_cons_succ, Go.IntWalk.iteOmega, Go.IntWalk.toNatUp, Draft.val, Draft.cells]
    refine IWp.seq ?_
    refine IWp.run [6] ?_
    simp [go_sem, -getElem?_pos, -List.map_take, -List.map_drop, List.getElem?_cons_zero, List.getElem?_cons_succ, Go.IntWalk.iteOmega, Go.IntWalk.toNatUp, Draft.val, Draft.cells]
    refine ICalls.then (gaps _) ?_
    try simp [go_sem, -getElem?_pos, -List.map_take, -List.map_drop, List.getElem?_cons_zero, List.getElem?_cons_succ, Go.IntWalk.iteOmega, Go.IntWalk.toNatUp, Draft.val, Draft.cells]
    refine IWp.ret ?_
    simp [go_sem, -getElem?_pos, -List.map_take, -List.map_drop, List.getElem?_cons_zero, List.getElem?_cons_succ, Go.IntWalk.iteOmega, Go.IntWalk.toNatUp, Draft.val, Draft.cells, Try.results4]
  have h1 := shortsT d hs
  have h2 := fun K => make K d hw
  have hS := small_make hw
  obtain ⟨hk, htm, hR0, hR8⟩ := rule_in hw w2
  obtain ⟨oi, ho1, ho2⟩ := occ_in hw hk
  have hrows := rows_make hw
  simp only [Draft.val, Draft.cells, Config.val, Config.cells] at h1 h2
  generalize makeS d = c at *
  generalize rule % (c.rules.length : Int) = k at *
  have hl := hS.tab
  have hk1 := hk.1
  have hk2 := hk.2
  obtain ⟨q1, q2, q3⟩ := looks_most c.table k at_ w1.1 ho1 ho2
  have cg := fun K => gapT K c k (by omega) hS.rows
  rw [if_pos ⟨hk1, hk2⟩] at cg
  simp only [Config.val, Config.cells] at cg
  generalize gapP c.table k = g at *
  have v1 := IntWalk.i64_in rule (by omega)
  have v2 := IntWalk.i64_in k (by omega)
  have v3 := IntWalk.i64_in at_ (by omega)
  have v4 := IntWalk.i64_in (at_ + 1) (by omega)
  have v5 := IntWalk.i64_in (3 * (c.table.length : Int)) (by omega)
  have v6 := IntWalk.i64_in (at_ + 1 + 3 * (c.table.length : Int)) (by omega)
  have v7 := IntWalk.i64_in (g - 1) (by omega)
  have hRne : c.rules ≠ [] := fun e => hR0 (by rw [e]; rfl)
  have hg := Heap.get_alloc_new (H.alloc d.cells) c.cells
  simp only [Config.cells, Draft.cells, next_alloc] at hg
  refine IBody.of Try.func4 rfl (by rw [Try.ntmps4]; simp) ?_
  rw [Try.ntmps4]
  refine IWp.seq ?_
  refine IWp.run [1, 2, 3] ?_
  simp [go_sem, -getElem?_pos, -List.map_take, -List.map_drop, List.getElem?_cons_zero, List.getElem?_cons_succ, Go.IntWalk.iteOmega, Go.IntWalk.toNatUp, Draft.val, Draft.cells, hg, v1, v2, v3, v4, htm, hRne, show ¬ (c.rules.length : Int) = 0 by omega]
  refine IWp.seq ?_
  refine IWp.seq ?_
  refine IWp.run [1, 2, 3, 22] ?_
  simp [go_sem, -getElem?_pos, -List.map_take, -List.map_drop, List.getElem?_cons_zero, List.getElem?_cons_succ, Go.IntWalk.iteOmega, Go.IntWalk.toNatUp, Draft.val, Draft.cells, hg, v1, v2, v3, v4, htm, hRne, show ¬ (c.rules.length : Int) = 0 by omega]
  refine ICalls.then (gaps _) ?_
  try simp [go_sem, -getElem?_pos, -List.map_take, -List.map_drop, List.getElem?_cons_zero, List.getElem?_cons_succ, Go.IntWalk.iteOmega, Go.IntWalk.toNatUp, Draft.val, Draft.cells, hg, v1, v2, v3, v4, htm, hRne, show ¬ (c.rules.length : Int) = 0 by omega]
  refine ICalls.then (h1 _) ?_
  try simp [go_sem, -getElem?_pos, -List.map_take, -List.map_drop, List.getElem?_cons_zero, List.getElem?_cons_succ, Go.IntWalk.iteOmega, Go.IntWalk.toNatUp, Draft.val, Draft.cells, hg, v1, v2, v3, v4, htm, hRne, show ¬ (c.rules.length : Int) = 0 by omega]
  refine IWp.cond ?_
  simp [go_sem, -getElem?_pos, -List.map_take, -List.map_drop, List.getElem?_cons_zero, List.getElem?_cons_succ, Go.IntWalk.iteOmega, Go.IntWalk.toNatUp, Draft.val, Draft.cells, hg, v1, v2, v3, v4, htm, hRne, show ¬ (c.rules.length : Int) = 0 by omega]
  refine IWp.trim [1, 2, 3] (IWp.skip ?_)
  simp [go_sem, -getElem?_pos, -List.map_take, -List.map_drop, List.getElem?_cons_zero, List.getElem?_cons_succ, Go.IntWalk.iteOmega, Go.IntWalk.toNatUp, Draft.val, Draft.cells, hg, v1, v2, v3, v4, htm, hRne, show ¬ (c.rules.length : Int) = 0 by omega]
  refine IWp.seq ?_
  refine IWp.run [1, 2, 7] ?_
  simp [go_sem, -getElem?_pos, -List.map_take, -List.map_drop, List.getElem?_cons_zero, List.getElem?_cons_succ, Go.IntWalk.iteOmega, Go.IntWalk.toNatUp, Draft.val, Draft.cells, hg, v1, v2, v3, v4, htm, hRne, show ¬ (c.rules.length : Int) = 0 by omega]
  refine ICalls.then (h2 _) ?_
  try simp [go_sem, -getElem?_pos, -List.map_take, -List.map_drop, List.getElem?_cons_zero, List.getElem?_cons_succ, Go.IntWalk.iteOmega, Go.IntWalk.toNatUp, Draft.val, Draft.cells, hg, v1, v2, v3, v4, htm, hRne, show ¬ (c.rules.length : Int) = 0 by omega]
  refine IWp.seq ?_
  refine IWp.run [1, 7, 8] ?_
  simp [go_sem, -getElem?_pos, -List.map_take, -List.map_drop, List.getElem?_cons_zero, List.getElem?_cons_succ, Go.IntWalk.iteOmega, Go.IntWalk.toNatUp, Draft.val, Draft.cells, hg, v1, v2, v3, v4, htm, hRne, show ¬ (c.rules.length : Int) = 0 by omega]
  refine IWp.seq ?_
  refine IWp.run [1, 7, 8, 9] ?_
  simp [go_sem, -getElem?_pos, -List.map_take, -List.map_drop, List.getElem?_cons_zero, List.getElem?_cons_succ, Go.IntWalk.iteOmega, Go.IntWalk.toNatUp, Draft.val, Draft.cells, hg, v1, v2, v3, v4, htm, hRne, show ¬ (c.rules.length : Int) = 0 by omega]
  refine ICalls.then (cg _) ?_
  try simp [go_sem, -getElem?_pos, -List.map_take, -List.map_drop, List.getElem?_cons_zero, List.getElem?_cons_succ, Go.IntWalk.iteOmega, Go.IntWalk.toNatUp, Draft.val, Draft.cells, hg, v1, v2, v3, v4, htm, hRne, show ¬ (c.rules.length : Int) = 0 by omega]
  refine IWp.seq ?_
  refine IWp.run [1, 7, 8, 9, 10, 11] ?_
  simp [go_sem, -getElem?_pos, -List.map_take, -List.map_drop, List.getElem?_cons_zero, List.getElem?_cons_succ, Go.IntWalk.iteOmega, Go.IntWalk.toNatUp, Draft.val, Draft.cells, hg, v1, v2, v3, v4, htm, hRne, show ¬ (c.rules.length : Int) = 0 by omega]
  refine IWp.seq ?_
  refine IWp.seq ?_
  refine IWp.run [1, 7, 8, 9, 10, 11, 12] ?_
  simp [go_sem, -getElem?_pos, -List.map_take, -List.map_drop, List.getElem?_cons_zero, List.getElem?_cons_succ, Go.IntWalk.iteOmega, Go.IntWalk.toNatUp, Draft.val, Draft.cells, hg, v1, v2, v3, v4, htm, hRne, show ¬ (c.rules.length : Int) = 0 by omega]
  refine IWp.block ?_
  -- LOOP live [1, 7, 8, 9, 10, 11, 12]
  generalize H.next + 1 = cb at *
  generalize (H.alloc _).alloc _ = H1 at *
  obtain ⟨Z, hZ⟩ : ∃ Z, Z = runS (lookB c.table k at_) := ⟨_, rfl⟩
  rw [← hZ] at q3
  have hZi : ∀ i, (Z i).1 ≤ i ∧ (Z i).2 ≤ i := fun i => by rw [hZ]; exact runS_in _ i
  have hZ1 : ∀ i, lookB c.table k at_ i = true → Z (i + 1) = (0, (Z i).2) := fun i h => by
    rw [hZ]; simp only [runS, if_pos h]; congr 1; omega
  have hZ2 : ∀ i, lookB c.table k at_ i = false → Z (i + 1) = ((Z i).1 + 1, max (Z i).2 ((Z i).1 + 1)) := fun i h => by
    rw [hZ]; simp only [runS, h]; simp
  refine IWp.loop (fun q e K => ∃ i : Nat, q = 3 * c.table.length - i ∧ i ≤ 3 * c.table.length ∧ K = H1 ∧ e = [(1, .int .u16 at_), (7, ptrTo cb 0), (8, .int .i64 k), (9, .int .i64 g), (10, .int .i64 ((Z i).1 : Int)), (11, .int .i64 ((Z i).2 : Int)), (12, .int .i64 (at_ + 1 + (i : Int)))]) (3 * c.table.length) ⟨0, rfl, Nat.zero_le _, rfl, by rw [hZ]; simp [go_sem, runS]⟩ ?_
  rintro q e K ⟨i, rfl, hi, rfl, rfl⟩
  have wi := IntWalk.i64_in (at_ + 1 + (i : Int) + 1) (by omega)
  have hzi := hZi i
  by_cases hlt : i < 3 * c.table.length
  case neg =>
    have hie : i = 3 * c.table.length := by omega
    subst hie
    refine IWp.seq ?_
    refine IWp.seq ?_
    refine IWp.run [1, 7, 8, 9, 10, 11, 12, 47] ?_
    simp [go_sem, -getElem?_pos, -List.map_take, -List.map_drop, List.getElem?_cons_zero, List.getElem?_cons_succ, Go.IntWalk.iteOmega, Go.IntWalk.toNatUp, hg, v3, v4, v5, v6, q1, q2, q3, v7, show ¬ (at_ + 1 + ((3 * c.table.length : Nat) : Int) < at_ + 1 + 3 * (c.table.length : Int)) by omega]
    refine IWp.cond ?_
    simp [go_sem, -getElem?_pos, -List.map_take, -List.map_drop, List.getElem?_cons_zero, List.getElem?_cons_succ, Go.IntWalk.iteOmega, Go.IntWalk.toNatUp, hg, v3, v4, v5, v6, q1, q2, q3, v7, show ¬ (at_ + 1 + ((3 * c.table.length : Nat) : Int) < at_ + 1 + 3 * (c.table.length : Int)) by omega]
    refine IWp.trim [7, 9, 11] (IWp.exit ?_)
    simp [go_sem, -getElem?_pos, -List.map_take, -List.map_drop, List.getElem?_cons_zero, List.getElem?_cons_succ, Go.IntWalk.iteOmega, Go.IntWalk.toNatUp, hg, v3, v4, v5, v6, q1, q2, q3, v7, show ¬ (at_ + 1 + ((3 * c.table.length : Nat) : Int) < at_ + 1 + 3 * (c.table.length : Int)) by omega]
    refine IWp.seq ?_
    refine IWp.run [6] ?_
    simp [go_sem, -getElem?_pos, -List.map_take, -List.map_drop, List.getElem?_cons_zero, List.getElem?_cons_succ, Go.IntWalk.iteOmega, Go.IntWalk.toNatUp, hg, v3, v4, v5, v6, q1, q2, q3, v7, show ¬ (at_ + 1 + ((3 * c.table.length : Nat) : Int) < at_ + 1 + 3 * (c.table.length : Int)) by omega]
    refine IWp.ret ?_
    simp [go_sem, -getElem?_pos, -List.map_take, -List.map_drop, List.getElem?_cons_zero, List.getElem?_cons_succ, Go.IntWalk.iteOmega, Go.IntWalk.toNatUp, hg, v3, v4, v5, v6, q1, q2, q3, v7, show ¬ (at_ + 1 + ((3 * c.table.length : Nat) : Int) < at_ + 1 + 3 * (c.table.length : Int)) by omega, Try.results4]
  have hltI : at_ + 1 + (i : Int) < at_ + 1 + 3 * (c.table.length : Int) := by omega
  have c1 := fun K => slot K c (at_ + 1 + i) hS.tab0 (by omega) hS.rows (by omega)
  have hyl := slotAt_len hS (at_ + 1 + i)
  have hlb : lookB c.table k at_ i = decide (k ∈ slotAt c.table (at_ + 1 + i)) := rfl
  have hz1 := hZ1 i
  have hz2 := hZ2 i
  rw [hlb] at hz1 hz2
  simp only [Config.val, Config.cells] at c1
  generalize slotAt c.table (at_ + 1 + i) = Y at *
  obtain ⟨z2, hze⟩ : ∃ z2, z2 = Z (i + 1) := ⟨_, rfl⟩
  rw [← hze] at hz1 hz2
  generalize Z i = z at hzi hz1 hz2 ⊢
  obtain ⟨za, zb⟩ := z
  simp only at hzi hz1 hz2 ⊢
  refine IWp.seq ?_
  refine IWp.seq ?_
  refine IWp.run [1, 7, 8, 9, 10, 11, 12, 47] ?_
  simp [go_sem, -getElem?_pos, -List.map_take, -List.map_drop, List.getElem?_cons_zero, List.getElem?_cons_succ, Go.IntWalk.iteOmega, Go.IntWalk.toNatUp, hg, v3, v4, v5, v6, hltI]
  refine IWp.cond ?_
  simp [go_sem, -getElem?_pos, -List.map_take, -List.map_drop, List.getElem?_cons_zero, List.getElem?_cons_succ, Go.IntWalk.iteOmega, Go.IntWalk.toNatUp, hg, v3, v4, v5, v6, hltI]
  refine IWp.trim [1, 7, 8, 9, 10, 11, 12] (IWp.skip ?_)
  simp [go_sem, -getElem?_pos, -List.map_take, -List.map_drop, List.getElem?_cons_zero, List.getElem?_cons_succ, Go.IntWalk.iteOmega, Go.IntWalk.toNatUp, hg, v3, v4, v5, v6, hltI]
  -- CUT live [1, 7, 8, 9, 10, 11, 12]
  refine IWp.cut (fun e' K' => K' = K ∧ e' = [(1, .int .u16 at_), (7, ptrTo cb 0), (8, .int .i64 k), (9, .int .i64 g), (10, .int .i64 (z2.1 : Int)), (11, .int .i64 (z2.2 : Int)), (12, .int .i64 (at_ + 1 + (i : Int)))]) ?_ ?_
  case refine_2 =>
    rintro e' K' ⟨rfl, rfl⟩
    refine IWp.run [1, 7, 8, 9, 10, 11, 12] ?_
    simp [go_sem, -getElem?_pos, -List.map_take, -List.map_drop, List.getElem?_cons_zero, List.getElem?_cons_succ, Go.IntWalk.iteOmega, Go.IntWalk.toNatUp, wi]
    exact ⟨3 * c.table.length - (i + 1), by omega, i + 1, rfl, by omega, by rw [hze], by rw [hze], by omega⟩
  refine IWp.block ?_
  refine IWp.seq ?_
  refine IWp.run [1, 7, 8, 9, 10, 11, 12, 13] ?_
  simp [go_sem, -getElem?_pos, -List.map_take, -List.map_drop, List.getElem?_cons_zero, List.getElem?_cons_succ, Go.IntWalk.iteOmega, Go.IntWalk.toNatUp, hg]
  refine ICalls.then (c1 _) ?_
  try simp [go_sem, -getElem?_pos, -List.map_take, -List.map_drop, List.getElem?_cons_zero, List.getElem?_cons_succ, Go.IntWalk.iteOmega, Go.IntWalk.toNatUp, hg]
  refine IWp.seq ?_
  refine IWp.run [1, 7, 8, 9, 10, 11, 12, 13, 14] ?_
  simp [go_sem, -getElem?_pos, -List.map_take, -List.map_drop, List.getElem?_cons_zero, List.getElem?_cons_succ, Go.IntWalk.iteOmega, Go.IntWalk.toNatUp, hg]
  -- CUT live [1, 7, 8, 9, 10, 11, 12, 14]
  refine IWp.cut (fun e' K' => K' = K ∧ e' = [(1, .int .u16 at_), (7, ptrTo cb 0), (8, .int .i64 k), (9, .int .i64 g), (10, .int .i64 (za : Int)), (11, .int .i64 (zb : Int)), (12, .int .i64 (at_ + 1 + (i : Int))), (14, .bool (decide (k ∈ Y)))]) ?_ ?_
  case refine_2 =>
    rintro e' K' ⟨rfl, rfl⟩
    have wz := IntWalk.i64_in ((za : Int) + 1) (by omega)
    by_cases hy : k ∈ Y
    · rw [hz1 (decide_eq_true hy)]
      refine IWp.seq ?_
      refine IWp.run [1, 7, 8, 9, 10, 11, 12, 14] ?_
      simp [go_sem, -getElem?_pos, -List.map_take, -List.map_drop, List.getElem?_cons_zero, List.getElem?_cons_succ, Go.IntWalk.iteOmega, Go.IntWalk.toNatUp, wz, hy, show ¬ ((zb : Int) < 0) by omega]
      refine IWp.seq ?_
      refine IWp.seq ?_
      refine IWp.run [1, 7, 8, 9, 10, 11, 12, 70] ?_
      simp [go_sem, -getElem?_pos, -List.map_take, -List.map_drop, List.getElem?_cons_zero, List.getElem?_cons_succ, Go.IntWalk.iteOmega, Go.IntWalk.toNatUp, wz, hy, show ¬ ((zb : Int) < 0) by omega]
      refine IWp.cond ?_
      simp [go_sem, -getElem?_pos, -List.map_take, -List.map_drop, List.getElem?_cons_zero, List.getElem?_cons_succ, Go.IntWalk.iteOmega, Go.IntWalk.toNatUp, wz, hy, show ¬ ((zb : Int) < 0) by omega]
      refine IWp.run [1, 7, 8, 9, 10, 11, 12] ?_
      simp [go_sem, -getElem?_pos, -List.map_take, -List.map_drop, List.getElem?_cons_zero, List.getElem?_cons_succ, Go.IntWalk.iteOmega, Go.IntWalk.toNatUp, wz, hy, show ¬ ((zb : Int) < 0) by omega]
      refine IWp.seq ?_
      refine IWp.run [1, 7, 8, 9, 10, 11, 12, 73] ?_
      simp [go_sem, -getElem?_pos, -List.map_take, -List.map_drop, List.getElem?_cons_zero, List.getElem?_cons_succ, Go.IntWalk.iteOmega, Go.IntWalk.toNatUp, wz, hy, show ¬ ((zb : Int) < 0) by omega]
      refine IWp.cond ?_
      simp [go_sem, -getElem?_pos, -List.map_take, -List.map_drop, List.getElem?_cons_zero, List.getElem?_cons_succ, Go.IntWalk.iteOmega, Go.IntWalk.toNatUp, wz, hy, show ¬ ((zb : Int) < 0) by omega]
      refine IWp.trim [1, 7, 8, 9, 10, 11, 12] (IWp.skip ?_)
      simp [go_sem, -getElem?_pos, -List.map_take, -List.map_drop, List.getElem?_cons_zero, List.getElem?_cons_succ, Go.IntWalk.iteOmega, Go.IntWalk.toNatUp, wz, hy, show ¬ ((zb : Int) < 0) by omega]
    · rw [hz2 (decide_eq_false hy)]
      by_cases hm : zb < za + 1
      · skip
        refine IWp.seq ?_
        refine IWp.run [1, 7, 8, 9, 10, 11, 12, 14] ?_
        simp [go_sem, -getElem?_pos, -List.map_take, -List.map_drop, List.getElem?_cons_zero, List.getElem?_cons_succ, Go.IntWalk.iteOmega, Go.IntWalk.toNatUp, wz, hy, show (zb : Int) < (za : Int) + 1 by omega]
        refine IWp.seq ?_
        refine IWp.seq ?_
        refine IWp.run [1, 7, 8, 9, 10, 11, 12, 70] ?_
        simp [go_sem, -getElem?_pos, -List.map_take, -List.map_drop, List.getElem?_cons_zero, List.getElem?_cons_succ, Go.IntWalk.iteOmega, Go.IntWalk.toNatUp, wz, hy, show (zb : Int) < (za : Int) + 1 by omega]
        refine IWp.cond ?_
        simp [go_sem, -getElem?_pos, -List.map_take, -List.map_drop, List.getElem?_cons_zero, List.getElem?_cons_succ, Go.IntWalk.iteOmega, Go.IntWalk.toNatUp, wz, hy, show (zb : Int) < (za : Int) + 1 by omega]
        refine IWp.trim [1, 7, 8, 9, 10, 11, 12] (IWp.skip ?_)
        simp [go_sem, -getElem?_pos, -List.map_take, -List.map_drop, List.getElem?_cons_zero, List.getElem?_cons_succ, Go.IntWalk.iteOmega, Go.IntWalk.toNatUp, wz, hy, show (zb : Int) < (za : Int) + 1 by omega]
        refine IWp.seq ?_
        refine IWp.run [1, 7, 8, 9, 10, 11, 12, 73] ?_
        simp [go_sem, -getElem?_pos, -List.map_take, -List.map_drop, List.getElem?_cons_zero, List.getElem?_cons_succ, Go.IntWalk.iteOmega, Go.IntWalk.toNatUp, wz, hy, show (zb : Int) < (za : Int) + 1 by omega]
        refine IWp.cond ?_
        simp [go_sem, -getElem?_pos, -List.map_take, -List.map_drop, List.getElem?_cons_zero, List.getElem?_cons_succ, Go.IntWalk.iteOmega, Go.IntWalk.toNatUp, wz, hy, show (zb : Int) < (za : Int) + 1 by omega]
        refine IWp.run [1, 7, 8, 9, 10, 11, 12] ?_
        simp [go_sem, -getElem?_pos, -List.map_take, -List.map_drop, List.getElem?_cons_zero, List.getElem?_cons_succ, Go.IntWalk.iteOmega, Go.IntWalk.toNatUp, wz, hy, show (zb : Int) < (za : Int) + 1 by omega]
        omega
      · skip
        refine IWp.seq ?_
        refine IWp.run [1, 7, 8, 9, 10, 11, 12, 14] ?_
        simp [go_sem, -getElem?_pos, -List.map_take, -List.map_drop, List.getElem?_cons_zero, List.getElem?_cons_succ, Go.IntWalk.iteOmega, Go.IntWalk.toNatUp, wz, hy, show ¬ ((zb : Int) < (za : Int) + 1) by omega]
        refine IWp.seq ?_
        refine IWp.seq ?_
        refine IWp.run [1, 7, 8, 9, 10, 11, 12, 70] ?_
        simp [go_sem, -getElem?_pos, -List.map_take, -List.map_drop, List.getElem?_cons_zero, List.getElem?_cons_succ, Go.IntWalk.iteOmega, Go.IntWalk.toNatUp, wz, hy, show ¬ ((zb : Int) < (za : Int) + 1) by omega]
        refine IWp.cond ?_
        simp [go_sem, -getElem?_pos, -List.map_take, -List.map_drop, List.getElem?_cons_zero, List.getElem?_cons_succ, Go.IntWalk.iteOmega, Go.IntWalk.toNatUp, wz, hy, show ¬ ((zb : Int) < (za : Int) + 1) by omega]
        refine IWp.trim [1, 7, 8, 9, 10, 11, 12] (IWp.skip ?_)
        simp [go_sem, -getElem?_pos, -List.map_take, -List.map_drop, List.getElem?_cons_zero, List.getElem?_cons_succ, Go.IntWalk.iteOmega, Go.IntWalk.toNatUp, wz, hy, show ¬ ((zb : Int) < (za : Int) + 1) by omega]
        refine IWp.seq ?_
        refine IWp.run [1, 7, 8, 9, 10, 11, 12, 73] ?_
        simp [go_sem, -getElem?_pos, -List.map_take, -List.map_drop, List.getElem?_cons_zero, List.getElem?_cons_succ, Go.IntWalk.iteOmega, Go.IntWalk.toNatUp, wz, hy, show ¬ ((zb : Int) < (za : Int) + 1) by omega]
        refine IWp.cond ?_
        simp [go_sem, -getElem?_pos, -List.map_take, -List.map_drop, List.getElem?_cons_zero, List.getElem?_cons_succ, Go.IntWalk.iteOmega, Go.IntWalk.toNatUp, wz, hy, show ¬ ((zb : Int) < (za : Int) + 1) by omega]
        refine IWp.trim [1, 7, 8, 9, 10, 11, 12] (IWp.skip ?_)
        simp [go_sem, -getElem?_pos, -List.map_take, -List.map_drop, List.getElem?_cons_zero, List.getElem?_cons_succ, Go.IntWalk.iteOmega, Go.IntWalk.toNatUp, wz, hy, show ¬ ((zb : Int) < (za : Int) + 1) by omega]
        omega
  refine IWp.seq ?_
  refine IWp.run [1, 7, 8, 9, 10, 11, 12, 13, 14, 15] ?_
  simp [go_sem, -getElem?_pos, -List.map_take, -List.map_drop, List.getElem?_cons_zero, List.getElem?_cons_succ, Go.IntWalk.iteOmega, Go.IntWalk.toNatUp]
  refine IWp.block ?_
  -- LOOP live [1, 7, 8, 9, 10, 11, 12, 13, 14, 15]
  refine IWp.loop (fun q e K2 => ∃ j : Nat, q = Y.length - j ∧ j ≤ Y.length ∧ K2 = K ∧ e = [(1, .int .u16 at_), (7, ptrTo cb 0), (8, .int .i64 k), (9, .int .i64 g), (10, .int .i64 (za : Int)), (11, .int .i64 (zb : Int)), (12, .int .i64 (at_ + 1 + (i : Int))), (13, ints .i64 Y), (14, .bool (decide (k ∈ Y.take j))), (15, .int .i64 (j : Int))]) Y.length ⟨0, rfl, Nat.zero_le _, rfl, by simp [go_sem]⟩ ?_
  rintro q e K2 ⟨j, rfl, hj, rfl, rfl⟩
  have wj := IntWalk.i64_in ((j : Int) + 1) (by omega)
  by_cases hjl : j < Y.length
  · have gj : Y[j]? = some Y[j] := List.getElem?_eq_getElem hjl
    have hct : (k ∈ Y.take (j + 1)) ↔ (k ∈ Y.take j ∨ Y[j] = k) := by
      rw [List.take_succ_eq_append_getElem hjl, List.mem_append, List.mem_singleton]
      exact or_congr_right ⟨fun h => h.symm, fun h => h.symm⟩
    generalize Y[j] = y at *
    by_cases hin : k ∈ Y.take j
    · have hin2 : k ∈ Y.take (j + 1) := hct.2 (.inl hin)
      rw [decide_eq_true hin]
      refine IWp.seq ?_
      refine IWp.seq ?_
      refine IWp.run [1, 7, 8, 9, 10, 11, 12, 13, 14, 15, 56] ?_
      simp [go_sem, -getElem?_pos, -List.map_take, -List.map_drop, List.getElem?_cons_zero, List.getElem?_cons_succ, Go.IntWalk.iteOmega, Go.IntWalk.toNatUp, gj, hjl, wj]
      refine IWp.cond ?_
      simp [go_sem, -getElem?_pos, -List.map_take, -List.map_drop, List.getElem?_cons_zero, List.getElem?_cons_succ, Go.IntWalk.iteOmega, Go.IntWalk.toNatUp, gj, hjl, wj]
      refine IWp.trim [1, 7, 8, 9, 10, 11, 12, 13, 14, 15] (IWp.skip ?_)
      simp [go_sem, -getElem?_pos, -List.map_take, -List.map_drop, List.getElem?_cons_zero, List.getElem?_cons_succ, Go.IntWalk.iteOmega, Go.IntWalk.toNatUp, gj, hjl, wj]
      refine IWp.seq ?_
      refine IWp.block ?_
      refine IWp.run [1, 7, 8, 9, 10, 11, 12, 13, 14, 15] ?_
      simp [go_sem, -getElem?_pos, -List.map_take, -List.map_drop, List.getElem?_cons_zero, List.getElem?_cons_succ, Go.IntWalk.iteOmega, Go.IntWalk.toNatUp, gj, hjl, wj]
      refine IWp.run [1, 7, 8, 9, 10, 11, 12, 13, 14, 15] ?_
      simp [go_sem, -getElem?_pos, -List.map_take, -List.map_drop, List.getElem?_cons_zero, List.getElem?_cons_succ, Go.IntWalk.iteOmega, Go.IntWalk.toNatUp, gj, hjl, wj]
      exact ⟨Y.length - (j + 1), by omega, j + 1, rfl, by omega, by first | exact hin2 | rw [decide_eq_true hin2], by omega⟩
    · rw [decide_eq_false hin]
      by_cases he : y = k
      · have hin2 : k ∈ Y.take (j + 1) := hct.2 (.inr he)
        subst he
        refine IWp.seq ?_
        refine IWp.seq ?_
        refine IWp.run [1, 7, 8, 9, 10, 11, 12, 13, 14, 15, 56] ?_
        simp [go_sem, -getElem?_pos, -List.map_take, -List.map_drop, List.getElem?_cons_zero, List.getElem?_cons_succ, Go.IntWalk.iteOmega, Go.IntWalk.toNatUp, gj, hjl, wj]
        refine IWp.cond ?_
        simp [go_sem, -getElem?_pos, -List.map_take, -List.map_drop, List.getElem?_cons_zero, List.getElem?_cons_succ, Go.IntWalk.iteOmega, Go.IntWalk.toNatUp, gj, hjl, wj]
        refine IWp.trim [1, 7, 8, 9, 10, 11, 12, 13, 14, 15] (IWp.skip ?_)
        simp [go_sem, -getElem?_pos, -List.map_take, -List.map_drop, List.getElem?_cons_zero, List.getElem?_cons_succ, Go.IntWalk.iteOmega, Go.IntWalk.toNatUp, gj, hjl, wj]
        refine IWp.seq ?_
        refine IWp.block ?_
        refine IWp.run [1, 7, 8, 9, 10, 11, 12, 13, 14, 15] ?_
        simp [go_sem, -getElem?_pos, -List.map_take, -List.map_drop, List.getElem?_cons_zero, List.getElem?_cons_succ, Go.IntWalk.iteOmega, Go.IntWalk.toNatUp, gj, hjl, wj]
        refine IWp.run [1, 7, 8, 9, 10, 11, 12, 13, 14, 15] ?_
        simp [go_sem, -getElem?_pos, -List.map_take, -List.map_drop, List.getElem?_cons_zero, List.getElem?_cons_succ, Go.IntWalk.iteOmega, Go.IntWalk.toNatUp, gj, hjl, wj]
        exact ⟨Y.length - (j + 1), by omega, j + 1, rfl, by omega, by first | exact hin2 | rw [decide_eq_true hin2], by omega⟩
      · have hin2 : ¬ k ∈ Y.take (j + 1) := fun h => (hct.1 h).elim hin he
        refine IWp.seq ?_
        refine IWp.seq ?_
        refine IWp.run [1, 7, 8, 9, 10, 11, 12, 13, 14, 15, 56] ?_
        simp [go_sem, -getElem?_pos, -List.map_take, -List.map_drop, List.getElem?_cons_zero, List.getElem?_cons_succ, Go.IntWalk.iteOmega, Go.IntWalk.toNatUp, gj, hjl, wj, he]
        refine IWp.cond ?_
        simp [go_sem, -getElem?_pos, -List.map_take, -List.map_drop, List.getElem?_cons_zero, List.getElem?_cons_succ, Go.IntWalk.iteOmega, Go.IntWalk.toNatUp, gj, hjl, wj, he]
        refine IWp.trim [1, 7, 8, 9, 10, 11, 12, 13, 14, 15] (IWp.skip ?_)
        simp [go_sem, -getElem?_pos, -List.map_take, -List.map_drop, List.getElem?_cons_zero, List.getElem?_cons_succ, Go.IntWalk.iteOmega, Go.IntWalk.toNatUp, gj, hjl, wj, he]
        refine IWp.seq ?_
        refine IWp.block ?_
        refine IWp.run [1, 7, 8, 9, 10, 11, 12, 13, 14, 15] ?_
        simp [go_sem, -getElem?_pos, -List.map_take, -List.map_drop, List.getElem?_cons_zero, List.getElem?_cons_succ, Go.IntWalk.iteOmega, Go.IntWalk.toNatUp, gj, hjl, wj, he]
        refine IWp.run [1, 7, 8, 9, 10, 11, 12, 13, 14, 15] ?_
        simp [go_sem, -getElem?_pos, -List.map_take, -List.map_drop, List.getElem?_cons_zero, List.getElem?_cons_succ, Go.IntWalk.iteOmega, Go.IntWalk.toNatUp, gj, hjl, wj, he]
        exact ⟨Y.length - (j + 1), by omega, j + 1, rfl, by omega, by first | exact hin2 | rw [decide_eq_false hin2], by omega⟩
  · rw [List.take_of_length_le (by omega)]
    refine IWp.seq ?_
    refine IWp.seq ?_
    refine IWp.run [1, 7, 8, 9, 10, 11, 12, 13, 14, 15, 56] ?_
    simp [go_sem, -getElem?_pos, -List.map_take, -List.map_drop, List.getElem?_cons_zero, List.getElem?_cons_succ, Go.IntWalk.iteOmega, Go.IntWalk.toNatUp, hjl]
    refine IWp.cond ?_
    simp [go_sem, -getElem?_pos, -List.map_take, -List.map_drop, List.getElem?_cons_zero, List.getElem?_cons_succ, Go.IntWalk.iteOmega, Go.IntWalk.toNatUp, hjl]
    refine IWp.trim [1, 7, 8, 9, 10, 11, 12, 14] (IWp.exit ?_)
    simp [go_sem, -getElem?_pos, -List.map_take, -List.map_drop, List.getElem?_cons_zero, List.getElem?_cons_succ, Go.IntWalk.iteOmega, Go.IntWalk.toNatUp, hjl]

end Go.Proofs.Ytmiinclnpcokkaa.I
