/- Tables: more laws' bodies. No condition. -/
import Derived.Test.YtmiinclnpcokkaaLTable
namespace Go.Proofs.Ytmiinclnpcokkaa.I
open Go Go.RowKit
set_option linter.unusedVariables false
set_option linter.unusedSimpArgs false

theorem slotAt_len {c : Config} (hS : Small c) (t : Int) : (slotAt c.table t).length ≤ 1000000 := by
  unfold slotAt
  split
  · simp
  · rw [List.getD_eq_getElem?_getD]
    cases h : c.table[((t - 1) % c.table.length).toNat]? with
    | none => simp
    | some x => exact hS.rows x (List.mem_of_getElem? h)

theorem sameI_view (H : Heap) (n : Nat) (v : Value) (L : List Int) (hb : Bld 1 H n v (L.map (Value.int .i64))) (hl : L.length ≤ 1000000) :
    ICalls Try.prog 17 [v, ints .i64 L] H fun v H' => v = .bool true ∧ H' = H := by
  refine ICalls.view (.cons hb.frz (.cons (.same _) .nil)) (by rw [ClL_cons, cl_ints, ClL_cons, cl_ints, ClL_nil]; exact ⟨trivial, trivial, trivial⟩) ((sameI Heap.empty 0 0 L L hl).mono ?_)
  rintro v _ ⟨rfl, rfl⟩
  exact ⟨rfl, by simp⟩

theorem tableRound_law (H : Heap) (d : Draft) (now n : Int) (hw : d.wf) (w1 : 0 ≤ now ∧ now < 4294967296) (w2 : 0 ≤ n ∧ n < 256) :
    IBody Try.prog 5 [d.val, .int .u32 now, .int .u8 n] H fun v _ => v = .bool true := by
  by_cases hs : shortD d
  case neg =>
    have h1 := shortsF d hs
    simp only [Draft.cells] at h1
    refine IBody.of Try.func5 rfl (by rw [Try.ntmps5]; simp) ?_
    rw [Try.ntmps5]
    refine IWp.seq ?_
    refine IWp.run [1, 2, 3] ?_
    simp [go_sem, -getElem?_pos, -List.map_take, -List.map_drop, List.getElem?_cons_zero, List.getElem?_cons_succ, Go.IntWalk.iteOmega, Go.IntWalk.toNatUp, Draft.val, Draft.cells]
    refine IWp.seq ?_
    refine IWp.seq ?_
    refine IWp.run [1, 2, 3, 18] ?_
    simp [go_sem, -getElem?_pos, -List.map_take, -List.map_drop, List.getElem?_cons_zero, List.getElem?_cons_succ, Go.IntWalk.iteOmega, Go.IntWalk.toNatUp, Draft.val, Draft.cells]
    refine ICalls.then (gaps _) ?_
    try simp [go_sem, -getElem?_pos, -List.map_take, -List.map_drop, List.getElem?_cons_zero, List.getElem?_cons_succ, Go.IntWalk.iteOmega, Go.IntWalk.toNatUp, Draft.val, Draft.cells]
    refine ICalls.then (h1 _) ?_
    try simp [go_sem, -getElem?_pos, -List.map_take, -List.map_drop, List.getElem?_cons_zero, List.getElem?_cons_succ, Go.IntWalk.iteOmega, Go.IntWalk.toNatUp, Draft.val, Draft.cells]
    refine IWp.cond ?_
    simp [go_sem, -getElem?_pos, -List.map_take, -List.map_drop, List.getElem?_cons_zero, List.getElem?_cons_succ, Go.IntWalk.iteOmega, Go.IntWalk.toNatUp, Draft.val, Draft.cells]
    refine IWp.seq ?_
    refine IWp.run [6] ?_
    simp [go_sem, -getElem?_pos, -List.map_take, -List.map_drop, List.getElem?_cons_zero, List.getElem?_cons_succ, Go.IntWalk.iteOmega, Go.IntWalk.toNatUp, Draft.val, Draft.cells]
    refine ICalls.then (gaps _) ?_
    try simp [go_sem, -getElem?_pos, -List.map_take, -List.map_drop, List.getElem?_cons_zero, List.getElem?_cons_succ, Go.IntWalk.iteOmega, Go.IntWalk.toNatUp, Draft.val, Draft.cells]
    refine IWp.ret ?_
    simp [go_sem, -getElem?_pos, -List.map_take, -List.map_drop, List.getElem?_cons_zero, List.getElem?_cons_succ, Go.IntWalk.iteOmega, Go.IntWalk.toNatUp, Draft.val, Draft.cells, Try.results5]
  have h1 := shortsT d hs
  have h2 := fun K => make K d hw
  have hS := small_make hw
  simp only [Draft.val, Draft.cells, Config.val, Config.cells] at h1 h2
  generalize makeS d = c at *
  have hl := hS.tab
  have hnl : n * (c.table.length : Int) ≤ 255 * 1000 := by
    have h : n * (c.table.length : Int) ≤ 255 * (c.table.length : Int) := Int.mul_le_mul_of_nonneg_right (by omega) (by omega)
    omega
  have hnl0 : 0 ≤ n * (c.table.length : Int) := Int.mul_nonneg (by omega) (by omega)
  have hrd := slotAt_round c.table (t := now + 1) (by omega) hS.tab0 n.toNat
  rw [show ((n.toNat : Nat) : Int) = n by omega] at hrd
  have c1 := fun K => slot_own K c (now + 1) hS.tab0 (by omega) hS.rows (by omega)
  have c2 := fun K => slot K c (now + 1 + n * c.table.length) hS.tab0 (by omega) hS.rows (by omega)
  have c3 := fun K => slot K c (now + 1) hS.tab0 (by omega) hS.rows (by omega)
  have hr := slotAt_len hS (now + 1)
  rw [hrd] at c2
  simp only [Config.val, Config.cells] at c1 c2 c3
  have v1 := IntWalk.i64_in now (by omega)
  have v2 := IntWalk.i64_in (now + 1) (by omega)
  have v3 := IntWalk.i64_in n (by omega)
  generalize hL : slotAt c.table (now + 1) = L at *
  have v4 := IntWalk.i64_in (n * (c.table.length : Int)) (by omega)
  have v5 := IntWalk.i64_in (now + 1 + n * (c.table.length : Int)) (by omega)
  have hg := Heap.get_alloc_new (H.alloc d.cells) c.cells
  have hgn : H.next + 1 < ((H.alloc d.cells).alloc c.cells).next := by simp [next_alloc]
  simp only [Config.cells, Draft.cells, next_alloc] at hg hgn
  refine IBody.of Try.func5 rfl (by rw [Try.ntmps5]; simp) ?_
  rw [Try.ntmps5]
  refine IWp.seq ?_
  refine IWp.run [1, 2, 3] ?_
  simp [go_sem, -getElem?_pos, -List.map_take, -List.map_drop, List.getElem?_cons_zero, List.getElem?_cons_succ, Go.IntWalk.iteOmega, Go.IntWalk.toNatUp, Draft.val, Draft.cells, hg, v1, v2, v3, v4, v5]
  refine IWp.seq ?_
  refine IWp.seq ?_
  refine IWp.run [1, 2, 3, 18] ?_
  simp [go_sem, -getElem?_pos, -List.map_take, -List.map_drop, List.getElem?_cons_zero, List.getElem?_cons_succ, Go.IntWalk.iteOmega, Go.IntWalk.toNatUp, Draft.val, Draft.cells, hg, v1, v2, v3, v4, v5]
  refine ICalls.then (gaps _) ?_
  try simp [go_sem, -getElem?_pos, -List.map_take, -List.map_drop, List.getElem?_cons_zero, List.getElem?_cons_succ, Go.IntWalk.iteOmega, Go.IntWalk.toNatUp, Draft.val, Draft.cells, hg, v1, v2, v3, v4, v5]
  refine ICalls.then (h1 _) ?_
  try simp [go_sem, -getElem?_pos, -List.map_take, -List.map_drop, List.getElem?_cons_zero, List.getElem?_cons_succ, Go.IntWalk.iteOmega, Go.IntWalk.toNatUp, Draft.val, Draft.cells, hg, v1, v2, v3, v4, v5]
  refine IWp.cond ?_
  simp [go_sem, -getElem?_pos, -List.map_take, -List.map_drop, List.getElem?_cons_zero, List.getElem?_cons_succ, Go.IntWalk.iteOmega, Go.IntWalk.toNatUp, Draft.val, Draft.cells, hg, v1, v2, v3, v4, v5]
  refine IWp.trim [1, 2, 3] (IWp.skip ?_)
  simp [go_sem, -getElem?_pos, -List.map_take, -List.map_drop, List.getElem?_cons_zero, List.getElem?_cons_succ, Go.IntWalk.iteOmega, Go.IntWalk.toNatUp, Draft.val, Draft.cells, hg, v1, v2, v3, v4, v5]
  refine IWp.seq ?_
  refine IWp.run [1, 2, 7] ?_
  simp [go_sem, -getElem?_pos, -List.map_take, -List.map_drop, List.getElem?_cons_zero, List.getElem?_cons_succ, Go.IntWalk.iteOmega, Go.IntWalk.toNatUp, Draft.val, Draft.cells, hg, v1, v2, v3, v4, v5]
  refine ICalls.then (h2 _) ?_
  try simp [go_sem, -getElem?_pos, -List.map_take, -List.map_drop, List.getElem?_cons_zero, List.getElem?_cons_succ, Go.IntWalk.iteOmega, Go.IntWalk.toNatUp, Draft.val, Draft.cells, hg, v1, v2, v3, v4, v5]
  refine IWp.seq ?_
  refine IWp.run [2, 7, 8] ?_
  simp [go_sem, -getElem?_pos, -List.map_take, -List.map_drop, List.getElem?_cons_zero, List.getElem?_cons_succ, Go.IntWalk.iteOmega, Go.IntWalk.toNatUp, Draft.val, Draft.cells, hg, v1, v2, v3, v4, v5]
  refine IWp.seq ?_
  refine IWp.run [2, 7, 8, 9] ?_
  simp [go_sem, -getElem?_pos, -List.map_take, -List.map_drop, List.getElem?_cons_zero, List.getElem?_cons_succ, Go.IntWalk.iteOmega, Go.IntWalk.toNatUp, Draft.val, Draft.cells, hg, v1, v2, v3, v4, v5]
  refine ICalls.mono (c1 _) ?_
  rintro a H2 ⟨b2, o2⟩
  have hg2 := (o2.1 (H.next + 1) (by simp only [next_alloc]; omega)).trans hg
  try simp [go_sem, -getElem?_pos, -List.map_take, -List.map_drop, List.getElem?_cons_zero, List.getElem?_cons_succ, Go.IntWalk.iteOmega, Go.IntWalk.toNatUp, Draft.val, Draft.cells, hg, v1, v2, v3, v4, v5]
  refine IWp.seq ?_
  refine IWp.run [7, 8, 9, 10] ?_
  simp [go_sem, -getElem?_pos, -List.map_take, -List.map_drop, List.getElem?_cons_zero, List.getElem?_cons_succ, Go.IntWalk.iteOmega, Go.IntWalk.toNatUp, Draft.val, Draft.cells, hg, v1, v2, v3, v4, v5]
  have b2 : Bld 1 H2 (H.next + 1 + 1) a (L.map (Value.int .i64)) := b2
  clear hg hgn o2
  generalize H.next + 1 = cb at *
  have hcb := Heap.lt_of_get hg2
  simp [go_sem, hg2, v1, v2, v3, v4, v5]
  refine ICalls.then (c2 _) ?_
  simp [go_sem, hg2]
  have hsv := sameI_view H2 _ a L b2 hr
  refine IWp.seq ?_
  refine IWp.seq ?_
  refine IWp.run [7, 8, 9, 10, 41] ?_
  simp [go_sem, -getElem?_pos, -List.map_take, -List.map_drop, List.getElem?_cons_zero, List.getElem?_cons_succ, Go.IntWalk.iteOmega, Go.IntWalk.toNatUp]
  refine ICalls.then (hsv) ?_
  try simp [go_sem, -getElem?_pos, -List.map_take, -List.map_drop, List.getElem?_cons_zero, List.getElem?_cons_succ, Go.IntWalk.iteOmega, Go.IntWalk.toNatUp]
  refine IWp.cond ?_
  simp [go_sem, -getElem?_pos, -List.map_take, -List.map_drop, List.getElem?_cons_zero, List.getElem?_cons_succ, Go.IntWalk.iteOmega, Go.IntWalk.toNatUp]
  refine IWp.trim [7, 8, 9, 10] (IWp.skip ?_)
  simp [go_sem, -getElem?_pos, -List.map_take, -List.map_drop, List.getElem?_cons_zero, List.getElem?_cons_succ, Go.IntWalk.iteOmega, Go.IntWalk.toNatUp]
  refine IWp.seq ?_
  refine IWp.seq ?_
  refine IWp.run [7, 8, 9, 10, 11] ?_
  simp [go_sem, -getElem?_pos, -List.map_take, -List.map_drop, List.getElem?_cons_zero, List.getElem?_cons_succ, Go.IntWalk.iteOmega, Go.IntWalk.toNatUp]
  refine IWp.block ?_
  -- LOOP live [7, 8, 9, 10, 11]
  rcases b2.2 with ⟨rfl, e2⟩ | ⟨q, q1, rfl, q3⟩
  · have hL0 : L = [] := by simpa using e2
    subst hL0
    refine IWp.loop (fun k e K => K = H2 ∧ e = [(7, ptrTo cb 0), (8, .int .i64 (now + 1)), (9, .slice none 0 0), (10, ints .i64 []), (11, .int .i64 0)]) 0 ⟨rfl, by simp [go_sem]⟩ ?_
    rintro k e K ⟨rfl, rfl⟩
    refine IWp.seq ?_
    refine IWp.seq ?_
    refine IWp.run [7, 8, 9, 10, 11, 45] ?_
    simp [go_sem, -getElem?_pos, -List.map_take, -List.map_drop, List.getElem?_cons_zero, List.getElem?_cons_succ, Go.IntWalk.iteOmega, Go.IntWalk.toNatUp, hg2]
    refine IWp.cond ?_
    simp [go_sem, -getElem?_pos, -List.map_take, -List.map_drop, List.getElem?_cons_zero, List.getElem?_cons_succ, Go.IntWalk.iteOmega, Go.IntWalk.toNatUp, hg2]
    refine IWp.trim [7, 8, 10] (IWp.exit ?_)
    simp [go_sem, -getElem?_pos, -List.map_take, -List.map_drop, List.getElem?_cons_zero, List.getElem?_cons_succ, Go.IntWalk.iteOmega, Go.IntWalk.toNatUp, hg2]
    refine IWp.seq ?_
    refine IWp.run [6] ?_
    simp [go_sem, -getElem?_pos, -List.map_take, -List.map_drop, List.getElem?_cons_zero, List.getElem?_cons_succ, Go.IntWalk.iteOmega, Go.IntWalk.toNatUp, hg2]
    refine ICalls.then (c3 _) ?_
    try simp [go_sem, -getElem?_pos, -List.map_take, -List.map_drop, List.getElem?_cons_zero, List.getElem?_cons_succ, Go.IntWalk.iteOmega, Go.IntWalk.toNatUp, hg2]
    refine ICalls.then (sameI _ 0 0 [] [] (by simp)) ?_
    try simp [go_sem, -getElem?_pos, -List.map_take, -List.map_drop, List.getElem?_cons_zero, List.getElem?_cons_succ, Go.IntWalk.iteOmega, Go.IntWalk.toNatUp, hg2]
    refine IWp.ret ?_
    simp [go_sem, -getElem?_pos, -List.map_take, -List.map_drop, List.getElem?_cons_zero, List.getElem?_cons_succ, Go.IntWalk.iteOmega, Go.IntWalk.toNatUp, hg2, Try.results5]
  · rw [map_flat] at q3
    rw [List.length_map]
    have hqc : ¬ cb = q := by omega
    refine IWp.loop (fun k e K => ∃ (i : Nat) (cs : List Value), k = L.length - i ∧ i ≤ L.length ∧ cs.length = L.length ∧ K.get q = some ⟨cs, true⟩ ∧ K.get cb = H2.get cb ∧ e = [(7, ptrTo cb 0), (8, .int .i64 (now + 1)), (9, .slice (some ⟨q, 0, some 1⟩) L.length 1), (10, ints .i64 L), (11, .int .i64 (i : Int))]) L.length ⟨0, _, rfl, Nat.zero_le _, by rw [List.length_map], q3, rfl, by simp [go_sem]⟩ ?_
    rintro k e K ⟨i, cs, rfl, hi, hcs, hqK, hcK, rfl⟩
    rw [hg2] at hcK
    have wi := IntWalk.i64_in ((i : Int) + 1) (by omega)
    by_cases hlt : i < L.length
    · skip
      refine IWp.seq ?_
      refine IWp.seq ?_
      refine IWp.run [7, 8, 9, 10, 11, 45] ?_
      simp [go_sem, -getElem?_pos, -List.map_take, -List.map_drop, List.getElem?_cons_zero, List.getElem?_cons_succ, Go.IntWalk.iteOmega, Go.IntWalk.toNatUp, hlt, hqK, hcs, wi]
      refine IWp.cond ?_
      simp [go_sem, -getElem?_pos, -List.map_take, -List.map_drop, List.getElem?_cons_zero, List.getElem?_cons_succ, Go.IntWalk.iteOmega, Go.IntWalk.toNatUp, hlt, hqK, hcs, wi]
      refine IWp.trim [7, 8, 9, 10, 11] (IWp.skip ?_)
      simp [go_sem, -getElem?_pos, -List.map_take, -List.map_drop, List.getElem?_cons_zero, List.getElem?_cons_succ, Go.IntWalk.iteOmega, Go.IntWalk.toNatUp, hlt, hqK, hcs, wi]
      refine IWp.seq ?_
      refine IWp.block ?_
      refine IWp.run [7, 8, 9, 10, 11] ?_
      simp [go_sem, -getElem?_pos, -List.map_take, -List.map_drop, List.getElem?_cons_zero, List.getElem?_cons_succ, Go.IntWalk.iteOmega, Go.IntWalk.toNatUp, hlt, hqK, hcs, wi]
      refine IWp.run [7, 8, 9, 10, 11] ?_
      simp [go_sem, -getElem?_pos, -List.map_take, -List.map_drop, List.getElem?_cons_zero, List.getElem?_cons_succ, Go.IntWalk.iteOmega, Go.IntWalk.toNatUp, hlt, hqK, hcs, wi]
      exact ⟨L.length - (i + 1), by omega, i + 1, rfl, by omega, _, by rw [splice_one' _ _ _ (by omega), List.length_set, hcs], rfl, by rw [hcK, hg2], by omega⟩
    · skip
      refine IWp.seq ?_
      refine IWp.seq ?_
      refine IWp.run [7, 8, 9, 10, 11, 45] ?_
      simp [go_sem, -getElem?_pos, -List.map_take, -List.map_drop, List.getElem?_cons_zero, List.getElem?_cons_succ, Go.IntWalk.iteOmega, Go.IntWalk.toNatUp, hlt, hcK]
      refine IWp.cond ?_
      simp [go_sem, -getElem?_pos, -List.map_take, -List.map_drop, List.getElem?_cons_zero, List.getElem?_cons_succ, Go.IntWalk.iteOmega, Go.IntWalk.toNatUp, hlt, hcK]
      refine IWp.trim [7, 8, 10] (IWp.exit ?_)
      simp [go_sem, -getElem?_pos, -List.map_take, -List.map_drop, List.getElem?_cons_zero, List.getElem?_cons_succ, Go.IntWalk.iteOmega, Go.IntWalk.toNatUp, hlt, hcK]
      refine IWp.seq ?_
      refine IWp.run [6] ?_
      simp [go_sem, -getElem?_pos, -List.map_take, -List.map_drop, List.getElem?_cons_zero, List.getElem?_cons_succ, Go.IntWalk.iteOmega, Go.IntWalk.toNatUp, hlt, hcK]
      refine ICalls.then (c3 _) ?_
      try simp [go_sem, -getElem?_pos, -List.map_take, -List.map_drop, List.getElem?_cons_zero, List.getElem?_cons_succ, Go.IntWalk.iteOmega, Go.IntWalk.toNatUp, hlt, hcK]
      refine ICalls.then (sameI _ 0 0 L L hr) ?_
      try simp [go_sem, -getElem?_pos, -List.map_take, -List.map_drop, List.getElem?_cons_zero, List.getElem?_cons_succ, Go.IntWalk.iteOmega, Go.IntWalk.toNatUp, hlt, hcK]
      refine IWp.ret ?_
      simp [go_sem, -getElem?_pos, -List.map_take, -List.map_drop, List.getElem?_cons_zero, List.getElem?_cons_succ, Go.IntWalk.iteOmega, Go.IntWalk.toNatUp, hlt, hcK, Try.results5]

/-! ### sums over a round -/
def sumTo (f : Nat → Nat) : Nat → Nat
  | 0 => 0
  | m + 1 => sumTo f m + f m
theorem sumTo_le (f : Nat → Nat) (b : Nat) (h : ∀ i, f i ≤ b) : ∀ m, sumTo f m ≤ b * m
  | 0 => Nat.le_refl _
  | m + 1 => by have := sumTo_le f b h m; have := h m; rw [sumTo, Nat.mul_succ]; omega
theorem sumTo_mem (f : Nat → Nat) {i m : Nat} (h : i < m) : f i ≤ sumTo f m := by
  induction m with
  | zero => omega
  | succ m ih =>
    rw [sumTo]
    by_cases e : i = m
    · subst e; omega
    · have := ih (by omega); omega
theorem sumTo_shift (f : Nat → Nat) : ∀ m, sumTo (fun i => f (i + 1)) m + f 0 = sumTo f (m + 1)
  | 0 => rfl
  | m + 1 => by
    have := sumTo_shift f m
    rw [sumTo, sumTo]; omega
theorem sumTo_congr {f g : Nat → Nat} : ∀ m, (∀ i, i < m → f i = g i) → sumTo f m = sumTo g m
  | 0, _ => rfl
  | m + 1, h => by rw [sumTo, sumTo, sumTo_congr m fun i hi => h i (by omega), h m (by omega)]
theorem sumTo_round (f : Nat → Nat) (n : Nat) (hn : 0 < n) : ∀ a, sumTo (fun i => f ((a + i) % n)) n = sumTo f n
  | 0 => sumTo_congr n fun i hi => by simp only [Nat.zero_add]; rw [Nat.mod_eq_of_lt hi]
  | a + 1 => by
    rw [← sumTo_round f n hn a]
    obtain ⟨m, rfl⟩ : ∃ m, n = m + 1 := ⟨n - 1, by omega⟩
    have h1 := sumTo_shift (fun i => f ((a + i) % (m + 1))) m
    have h2 : sumTo (fun i => f ((a + 1 + i) % (m + 1))) m = sumTo (fun i => f ((a + (i + 1)) % (m + 1))) m := sumTo_congr m fun i _ => by rw [show a + 1 + i = a + (i + 1) by omega]
    rw [← h1, sumTo, h2]
    have h3 : (a + 1 + m) % (m + 1) = (a + 0) % (m + 1) := by rw [show a + 1 + m = a + (m + 1) by omega, Nat.add_mod_right]; rfl
    rw [h3]
theorem count_take (L : List Int) (k : Int) {j : Nat} (h : j < L.length) : (L.take (j + 1)).count k = (L.take j).count k + (if L[j] = k then 1 else 0) := by
  rw [List.take_succ_eq_append_getElem h, List.count_append]
  congr 1
  rw [List.count_singleton]
  by_cases e : L[j] = k <;> simp [e]

theorem rule_in {d : Draft} (hw : d.wf) {rule : Int} (h : 0 ≤ rule ∧ rule < 256) : inR (makeS d) (rule % (makeS d).rules.length) ∧ rule.tmod (makeS d).rules.length = rule % (makeS d).rules.length ∧ (makeS d).rules.length ≠ 0 ∧ (makeS d).rules.length ≤ 8 := by
  have := rulesS_pos d
  have e : (makeS d).rules.length = (rulesS d).length := rfl
  rw [← e] at this
  have h1 := Int.emod_nonneg rule (show ((makeS d).rules.length : Int) ≠ 0 by omega)
  have h2 := Int.emod_lt_of_pos rule (show 0 < ((makeS d).rules.length : Int) by omega)
  exact ⟨⟨h1, h2⟩, Int.tmod_eq_emod_of_nonneg h.1, by omega, by omega⟩
theorem occ_in {d : Draft} (hw : d.wf) {k : Int} (hk : inR (makeS d) k) : ∃ i, i < (makeS d).table.length ∧ occ (makeS d).table k i := by
  obtain ⟨h1, h2, h3⟩ := tableS_all d hw.2.2.1
  have hk1 : 0 ≤ k := hk.1
  have hk2 : k < ((rulesS d).length : Int) := hk.2
  obtain ⟨l, hl, hm⟩ := (standsS_iff _ _).1 (h3 k.toNat (by omega))
  obtain ⟨i, hi, rfl⟩ := List.mem_iff_getElem.1 hl
  refine ⟨i, hi, ?_⟩
  show k ∈ (tableS d).getD i []
  rw [List.getD_eq_getElem?_getD, List.getElem?_eq_getElem hi]
  rwa [show ((k.toNat : Nat) : Int) = k by omega] at hm
theorem rows_make {d : Draft} (hw : d.wf) : ∀ x ∈ (makeS d).table, x.length ≤ 32 := (tableS_all d hw.2.2.1).1.len

set_option maxHeartbeats 1000000 in
theorem tableCounts_law (H : Heap) (d : Draft) (rule from_ : Int) (hw : d.wf) (w1 : 0 ≤ rule ∧ rule < 256) (w2 : 0 ≤ from_ ∧ from_ < 65536) :
    IBody Try.prog 6 [d.val, .int .u8 rule, .int .u16 from_] H fun v _ => v = .bool true := by
  by_cases hs : shortD d
  case neg =>
    have h1 := shortsF d hs
    simp only [Draft.cells] at h1
    refine IBody.of Try.func6 rfl (by rw [Try.ntmps6]; simp) ?_
    rw [Try.ntmps6]
    refine IWp.seq ?_
    refine IWp.run [1, 2, 3] ?_
    simp [go_sem, -getElem?_pos, -List.map_take, -List.map_drop, List.getElem?_cons_zero, List.getElem?_cons_succ, Go.IntWalk.iteOmega, Go.IntWalk.toNatUp, Draft.val, Draft.cells]
    refine IWp.seq ?_
    refine IWp.seq ?_
    refine IWp.run [1, 2, 3, 21] ?_
    simp [go_sem, -getElem?_pos, -List.map_take, -List.map_drop, List.getElem?_cons_zero, List.getElem?_cons_succ, Go.IntWalk.iteOmega, Go.IntWalk.toNatUp, Draft.val, Draft.cells]
    refine ICalls.then (gaps _) ?_
    try simp [go_sem, -getElem?_pos, -List.map_take, -List.map_drop, List.getElem?_cons_zero, List.getElem?_cons_succ, Go.IntWalk.iteOmega, Go.IntWalk.toNatUp, Draft.val, Draft.cells]
    refine ICalls.then (h1 _) ?_
    try simp [go_sem, -getElem?_pos, -List.map_take, -List.map_drop, List.getElem?_cons_zero, List.getElem?_cons_succ, Go.IntWalk.iteOmega, Go.IntWalk.toNatUp, Draft.val, Draft.cells]
    refine IWp.cond ?_
    simp [go_sem, -getElem?_pos, -List.map_take, -List.map_drop, List.getElem?_cons_zero, List.getElem?_cons_succ, Go.IntWalk.iteOmega, Go.IntWalk.toNatUp, Draft.val, Draft.cells]
    refine IWp.seq ?_
    refine IWp.run [6] ?_
    simp [go_sem, -getElem?_pos, -List.map_take, -List.map_drop, List.getElem?_cons_zero, List.getElem?_cons_succ, Go.IntWalk.iteOmega, Go.IntWalk.toNatUp, Draft.val, Draft.cells]
    refine ICalls.then (gaps _) ?_
    try simp [go_sem, -getElem?_pos, -List.map_take, -List.map_drop, List.getElem?_cons_zero, List.getElem?_cons_succ, Go.IntWalk.iteOmega, Go.IntWalk.toNatUp, Draft.val, Draft.cells]
    refine IWp.ret ?_
    simp [go_sem, -getElem?_pos, -List.map_take, -List.map_drop, List.getElem?_cons_zero, List.getElem?_cons_succ, Go.IntWalk.iteOmega, Go.IntWalk.toNatUp, Draft.val, Draft.cells, Try.results6]
  have h1 := shortsT d hs
  have h2 := fun K => make K d hw
  have hS := small_make hw
  obtain ⟨hk, htm, hR0, hR8⟩ := rule_in hw w1
  have hocc := occ_in hw hk
  have hrows := rows_make hw
  simp only [Draft.val, Draft.cells, Config.val, Config.cells] at h1 h2
  generalize makeS d = c at *
  generalize rule % (c.rules.length : Int) = k at *
  have hl := hS.tab
  have hk1 := hk.1
  have hk2 := hk.2
  have v1 := IntWalk.i64_in rule (by omega)
  have v2 := IntWalk.i64_in k (by omega)
  have v3 := IntWalk.i64_in from_ (by omega)
  have v4 := IntWalk.i64_in (from_ + 1) (by omega)
  have hRne : c.rules ≠ [] := fun e => hR0 (by rw [e]; rfl)
  have hg := Heap.get_alloc_new (H.alloc d.cells) c.cells
  simp only [Config.cells, Draft.cells, next_alloc] at hg
  refine IBody.of Try.func6 rfl (by rw [Try.ntmps6]; simp) ?_
  rw [Try.ntmps6]
  refine IWp.seq ?_
  refine IWp.run [1, 2, 3] ?_
  simp [go_sem, -getElem?_pos, -List.map_take, -List.map_drop, List.getElem?_cons_zero, List.getElem?_cons_succ, Go.IntWalk.iteOmega, Go.IntWalk.toNatUp, Draft.val, Draft.cells, hg, v1, v2, v3, v4, htm, hRne, show ¬ (c.rules.length : Int) = 0 by omega]
  refine IWp.seq ?_
  refine IWp.seq ?_
  refine IWp.run [1, 2, 3, 21] ?_
  simp [go_sem, -getElem?_pos, -List.map_take, -List.map_drop, List.getElem?_cons_zero, List.getElem?_cons_succ, Go.IntWalk.iteOmega, Go.IntWalk.toNatUp, Draft.val, Draft.cells, hg, v1, v2, v3, v4, htm, hRne, show ¬ (c.rules.length : Int) = 0 by omega]
  refine ICalls.then (gaps _) ?_
  try simp [go_sem, -getElem?_pos, -List.map_take, -List.map_drop, List.getElem?_cons_zero, List.getElem?_cons_succ, Go.IntWalk.iteOmega, Go.IntWalk.toNatUp, Draft.val, Draft.cells, hg, v1, v2, v3, v4, htm, hRne, show ¬ (c.rules.length : Int) = 0 by omega]
  refine ICalls.then (h1 _) ?_
  try simp [go_sem, -getElem?_pos, -List.map_take, -List.map_drop, List.getElem?_cons_zero, List.getElem?_cons_succ, Go.IntWalk.iteOmega, Go.IntWalk.toNatUp, Draft.val, Draft.cells, hg, v1, v2, v3, v4, htm, hRne, show ¬ (c.rules.length : Int) = 0 by omega]
  refine IWp.cond ?_
  simp [go_sem, -getElem?_pos, -List.map_take, -List.map_drop, List.getElem?_cons_zero, List.getElem?_cons_succ, Go.IntWalk.iteOmega, Go.IntWalk.toNatUp, Draft.val, Draft.cells, hg, v1, v2, v3, v4, htm, hRne, show ¬ (c.rules.length : Int) = 0 by omega]
  refine IWp.trim [1, 2, 3] (IWp.skip ?_)
  simp [go_sem, -getElem?_pos, -List.map_take, -List.map_drop, List.getElem?_cons_zero, List.getElem?_cons_succ, Go.IntWalk.iteOmega, Go.IntWalk.toNatUp, Draft.val, Draft.cells, hg, v1, v2, v3, v4, htm, hRne, show ¬ (c.rules.length : Int) = 0 by omega]
  refine IWp.seq ?_
  refine IWp.run [1, 2, 7] ?_
  simp [go_sem, -getElem?_pos, -List.map_take, -List.map_drop, List.getElem?_cons_zero, List.getElem?_cons_succ, Go.IntWalk.iteOmega, Go.IntWalk.toNatUp, Draft.val, Draft.cells, hg, v1, v2, v3, v4, htm, hRne, show ¬ (c.rules.length : Int) = 0 by omega]
  refine ICalls.then (h2 _) ?_
  try simp [go_sem, -getElem?_pos, -List.map_take, -List.map_drop, List.getElem?_cons_zero, List.getElem?_cons_succ, Go.IntWalk.iteOmega, Go.IntWalk.toNatUp, Draft.val, Draft.cells, hg, v1, v2, v3, v4, htm, hRne, show ¬ (c.rules.length : Int) = 0 by omega]
  refine IWp.seq ?_
  refine IWp.run [2, 7, 8] ?_
  simp [go_sem, -getElem?_pos, -List.map_take, -List.map_drop, List.getElem?_cons_zero, List.getElem?_cons_succ, Go.IntWalk.iteOmega, Go.IntWalk.toNatUp, Draft.val, Draft.cells, hg, v1, v2, v3, v4, htm, hRne, show ¬ (c.rules.length : Int) = 0 by omega]
  refine IWp.seq ?_
  refine IWp.run [2, 7, 8, 9, 10] ?_
  simp [go_sem, -getElem?_pos, -List.map_take, -List.map_drop, List.getElem?_cons_zero, List.getElem?_cons_succ, Go.IntWalk.iteOmega, Go.IntWalk.toNatUp, Draft.val, Draft.cells, hg, v1, v2, v3, v4, htm, hRne, show ¬ (c.rules.length : Int) = 0 by omega]
  refine IWp.seq ?_
  refine IWp.seq ?_
  refine IWp.run [2, 7, 8, 9, 10, 11] ?_
  simp [go_sem, -getElem?_pos, -List.map_take, -List.map_drop, List.getElem?_cons_zero, List.getElem?_cons_succ, Go.IntWalk.iteOmega, Go.IntWalk.toNatUp, Draft.val, Draft.cells, hg, v1, v2, v3, v4, htm, hRne, show ¬ (c.rules.length : Int) = 0 by omega]
  refine IWp.block ?_
  -- LOOP live [2, 7, 8, 9, 10, 11]
  generalize H.next + 1 = cb at *
  generalize (H.alloc _).alloc _ = H1 at *
  have hgd : ∀ j, (c.table.getD j []).length ≤ 32 := fun j => by
    rw [List.getD_eq_getElem?_getD]
    cases h : c.table[j]? with
    | none => simp
    | some x => exact hrows x (List.mem_of_getElem? h)
  obtain ⟨fw, hfw⟩ : ∃ fw : Nat → Nat, fw = fun j => (c.table.getD j []).count k := ⟨_, rfl⟩
  obtain ⟨fn, hfn⟩ : ∃ fn : Nat → Nat, fn = fun (j : Nat) => (slotAt c.table (from_ + 1 + (j : Int))).count k := ⟨_, rfl⟩
  have hwl : ∀ j, fw j ≤ 32 := fun j => by rw [hfw]; exact Nat.le_trans List.count_le_length (hgd j)
  have hfe : ∀ j, fn j = fw ((from_.toNat + j) % c.table.length) := fun j => by
    rw [hfn, hfw]
    simp only
    unfold slotAt
    rw [if_neg (by omega)]
    congr 2
    rw [show from_ + 1 + (j : Int) - 1 = ((from_.toNat + j : Nat) : Int) by omega, ← Int.natCast_emod, Int.toNat_natCast]
  have hnl : ∀ j, fn j ≤ 32 := fun j => by rw [hfe]; exact hwl _
  have hsum : sumTo fn c.table.length = sumTo fw c.table.length := by
    rw [← sumTo_round fw c.table.length hS.tab0 from_.toNat]
    exact sumTo_congr _ fun i _ => hfe i
  have hone : 1 ≤ sumTo fw c.table.length := by
    obtain ⟨i, hi, ho⟩ := hocc
    have h3 := sumTo_mem fw hi
    have h4 : 1 ≤ fw i := by rw [hfw]; exact List.count_pos_iff.2 ho
    omega
  refine IWp.loop (fun q e K => ∃ i : Nat, q = c.table.length - i ∧ i ≤ c.table.length ∧ K = H1 ∧ e = [(2, .int .u16 from_), (7, ptrTo cb 0), (8, .int .i64 k), (9, .int .i64 (sumTo fw i)), (10, .int .i64 (sumTo fn i)), (11, .int .i64 (i : Int))]) c.table.length ⟨0, rfl, Nat.zero_le _, rfl, by simp [go_sem, sumTo]⟩ ?_
  rintro q e K ⟨i, rfl, hi, rfl, rfl⟩
  have wi := IntWalk.i64_in ((i : Int) + 1) (by omega)
  by_cases hlt : i < c.table.length
  case neg =>
    have hie : i = c.table.length := by omega
    subst hie
    rw [hsum]
    generalize sumTo fw c.table.length = s at *
    refine IWp.seq ?_
    refine IWp.seq ?_
    refine IWp.run [2, 7, 8, 9, 10, 11, 35] ?_
    simp [go_sem, -getElem?_pos, -List.map_take, -List.map_drop, List.getElem?_cons_zero, List.getElem?_cons_succ, Go.IntWalk.iteOmega, Go.IntWalk.toNatUp, hg, show (1 : Int) ≤ s by omega]
    refine IWp.cond ?_
    simp [go_sem, -getElem?_pos, -List.map_take, -List.map_drop, List.getElem?_cons_zero, List.getElem?_cons_succ, Go.IntWalk.iteOmega, Go.IntWalk.toNatUp, hg, show (1 : Int) ≤ s by omega]
    refine IWp.trim [9, 10] (IWp.exit ?_)
    simp [go_sem, -getElem?_pos, -List.map_take, -List.map_drop, List.getElem?_cons_zero, List.getElem?_cons_succ, Go.IntWalk.iteOmega, Go.IntWalk.toNatUp, hg, show (1 : Int) ≤ s by omega]
    refine IWp.seq ?_
    refine IWp.run [6] ?_
    simp [go_sem, -getElem?_pos, -List.map_take, -List.map_drop, List.getElem?_cons_zero, List.getElem?_cons_succ, Go.IntWalk.iteOmega, Go.IntWalk.toNatUp, hg, show (1 : Int) ≤ s by omega]
    refine IWp.ret ?_
    simp [go_sem, -getElem?_pos, -List.map_take, -List.map_drop, List.getElem?_cons_zero, List.getElem?_cons_succ, Go.IntWalk.iteOmega, Go.IntWalk.toNatUp, hg, show (1 : Int) ≤ s by omega, Try.results6]
  have g : (c.table.map (ints .i64))[i]? = some (ints .i64 (c.table.getD i [])) := by
    rw [List.getElem?_map, List.getElem?_eq_getElem hlt, List.getD_eq_getElem?_getD, List.getElem?_eq_getElem hlt]; rfl
  have hsw : sumTo fw (i + 1) = sumTo fw i + (c.table.getD i []).count k := by rw [sumTo, hfw]
  have hsn : sumTo fn (i + 1) = sumTo fn i + (slotAt c.table (from_ + 1 + i)).count k := by rw [sumTo, hfn]
  have b1 := sumTo_le fw 32 hwl i
  have b2 := sumTo_le fn 32 hnl i
  have hx := hgd i
  have hy := hnl i
  have hyl := slotAt_len hS (from_ + 1 + i)
  have hy32 : (slotAt c.table (from_ + 1 + i)).length ≤ 32 := by
    unfold slotAt
    rw [if_neg (by omega)]
    exact hgd _
  have c1 := fun K => slot K c (from_ + 1 + i) hS.tab0 (by omega) hS.rows (by omega)
  simp only [Config.val, Config.cells] at c1
  have v5 := IntWalk.i64_in (from_ + 1 + (i : Int)) (by omega)
  generalize c.table.getD i [] = X at *
  generalize slotAt c.table (from_ + 1 + i) = Y at *
  generalize sumTo fw i = sw at *
  generalize sumTo fn i = sn at *
  refine IWp.seq ?_
  refine IWp.seq ?_
  refine IWp.run [2, 7, 8, 9, 10, 11, 35] ?_
  simp [go_sem, -getElem?_pos, -List.map_take, -List.map_drop, List.getElem?_cons_zero, List.getElem?_cons_succ, Go.IntWalk.iteOmega, Go.IntWalk.toNatUp, hg, hlt]
  refine IWp.cond ?_
  simp [go_sem, -getElem?_pos, -List.map_take, -List.map_drop, List.getElem?_cons_zero, List.getElem?_cons_succ, Go.IntWalk.iteOmega, Go.IntWalk.toNatUp, hg, hlt]
  refine IWp.trim [2, 7, 8, 9, 10, 11] (IWp.skip ?_)
  simp [go_sem, -getElem?_pos, -List.map_take, -List.map_drop, List.getElem?_cons_zero, List.getElem?_cons_succ, Go.IntWalk.iteOmega, Go.IntWalk.toNatUp, hg, hlt]
  -- CUT live [2, 7, 8, 9, 10, 11]
  refine IWp.cut (fun e' K' => K' = K ∧ e' = [(2, .int .u16 from_), (7, ptrTo cb 0), (8, .int .i64 k), (9, .int .i64 ((sw + X.count k : Nat) : Int)), (10, .int .i64 ((sn + Y.count k : Nat) : Int)), (11, .int .i64 (i : Int))]) ?_ ?_
  case refine_2 =>
    rintro e' K' ⟨rfl, rfl⟩
    refine IWp.run [2, 7, 8, 9, 10, 11] ?_
    simp [go_sem, -getElem?_pos, -List.map_take, -List.map_drop, List.getElem?_cons_zero, List.getElem?_cons_succ, Go.IntWalk.iteOmega, Go.IntWalk.toNatUp, wi]
    exact ⟨c.table.length - (i + 1), by omega, i + 1, rfl, by omega, by rw [hsw]; simp, by rw [hsn]; simp, by omega⟩
  refine IWp.block ?_
  -- CUT live [2, 7, 8, 9, 10, 11]
  refine IWp.cut (fun e' K' => K' = K ∧ e' = [(2, .int .u16 from_), (7, ptrTo cb 0), (8, .int .i64 k), (9, .int .i64 ((sw + X.count k : Nat) : Int)), (10, .int .i64 (sn : Int)), (11, .int .i64 (i : Int))]) ?_ ?_
  case refine_2 =>
    rintro e' K' ⟨rfl, rfl⟩
    refine IWp.seq ?_
    refine IWp.run [2, 7, 8, 9, 10, 11, 13] ?_
    simp [go_sem, -getElem?_pos, -List.map_take, -List.map_drop, List.getElem?_cons_zero, List.getElem?_cons_succ, Go.IntWalk.iteOmega, Go.IntWalk.toNatUp, hg, v3, v4, v5]
    refine ICalls.then (c1 _) ?_
    try simp [go_sem, -getElem?_pos, -List.map_take, -List.map_drop, List.getElem?_cons_zero, List.getElem?_cons_succ, Go.IntWalk.iteOmega, Go.IntWalk.toNatUp, hg, v3, v4, v5]
    refine IWp.seq ?_
    refine IWp.run [2, 7, 8, 9, 10, 11, 13, 14] ?_
    simp [go_sem, -getElem?_pos, -List.map_take, -List.map_drop, List.getElem?_cons_zero, List.getElem?_cons_succ, Go.IntWalk.iteOmega, Go.IntWalk.toNatUp, hg, v3, v4, v5]
    refine IWp.block ?_
    -- LOOP live [2, 7, 8, 9, 10, 11, 13, 14]
    refine IWp.loop (fun q e K2 => ∃ j : Nat, q = Y.length - j ∧ j ≤ Y.length ∧ K2 = K' ∧ e = [(2, .int .u16 from_), (7, ptrTo cb 0), (8, .int .i64 k), (9, .int .i64 ((sw + X.count k : Nat) : Int)), (10, .int .i64 ((sn + (Y.take j).count k : Nat) : Int)), (11, .int .i64 (i : Int)), (13, ints .i64 Y), (14, .int .i64 (j : Int))]) Y.length ⟨0, rfl, Nat.zero_le _, rfl, by simp [go_sem]⟩ ?_
    rintro q e K2 ⟨j, rfl, hj, rfl, rfl⟩
    have wj := IntWalk.i64_in ((j : Int) + 1) (by omega)
    by_cases hjl : j < Y.length
    · have gj : Y[j]? = some Y[j] := List.getElem?_eq_getElem hjl
      have hct := count_take Y k hjl
      have hcl : (Y.take j).count k ≤ 32 := Nat.le_trans List.count_le_length (by simp; omega)
      generalize (Y.take j).count k = n0 at *
      generalize Y[j] = y at *
      have wc := IntWalk.i64_in ((sn : Int) + n0 + 1) (by omega)
      by_cases he : y = k
      · rw [if_pos he] at hct
        subst he
        refine IWp.seq ?_
        refine IWp.seq ?_
        refine IWp.run [2, 7, 8, 9, 10, 11, 13, 14, 70] ?_
        simp [go_sem, -getElem?_pos, -List.map_take, -List.map_drop, List.getElem?_cons_zero, List.getElem?_cons_succ, Go.IntWalk.iteOmega, Go.IntWalk.toNatUp, gj, hjl, wj, wc]
        refine IWp.cond ?_
        simp [go_sem, -getElem?_pos, -List.map_take, -List.map_drop, List.getElem?_cons_zero, List.getElem?_cons_succ, Go.IntWalk.iteOmega, Go.IntWalk.toNatUp, gj, hjl, wj, wc]
        refine IWp.trim [2, 7, 8, 9, 10, 11, 13, 14] (IWp.skip ?_)
        simp [go_sem, -getElem?_pos, -List.map_take, -List.map_drop, List.getElem?_cons_zero, List.getElem?_cons_succ, Go.IntWalk.iteOmega, Go.IntWalk.toNatUp, gj, hjl, wj, wc]
        refine IWp.seq ?_
        refine IWp.block ?_
        refine IWp.seq ?_
        refine IWp.run [2, 7, 8, 9, 10, 11, 13, 14, 78] ?_
        simp [go_sem, -getElem?_pos, -List.map_take, -List.map_drop, List.getElem?_cons_zero, List.getElem?_cons_succ, Go.IntWalk.iteOmega, Go.IntWalk.toNatUp, gj, hjl, wj, wc]
        refine IWp.cond ?_
        simp [go_sem, -getElem?_pos, -List.map_take, -List.map_drop, List.getElem?_cons_zero, List.getElem?_cons_succ, Go.IntWalk.iteOmega, Go.IntWalk.toNatUp, gj, hjl, wj, wc]
        refine IWp.run [2, 7, 8, 9, 10, 11, 13, 14] ?_
        simp [go_sem, -getElem?_pos, -List.map_take, -List.map_drop, List.getElem?_cons_zero, List.getElem?_cons_succ, Go.IntWalk.iteOmega, Go.IntWalk.toNatUp, gj, hjl, wj, wc]
        refine IWp.run [2, 7, 8, 9, 10, 11, 13, 14] ?_
        simp [go_sem, -getElem?_pos, -List.map_take, -List.map_drop, List.getElem?_cons_zero, List.getElem?_cons_succ, Go.IntWalk.iteOmega, Go.IntWalk.toNatUp, gj, hjl, wj, wc]
        exact ⟨Y.length - (j + 1), by omega, j + 1, rfl, by omega, by rw [hct]; omega, by omega⟩
      · rw [if_neg he] at hct
        refine IWp.seq ?_
        refine IWp.seq ?_
        refine IWp.run [2, 7, 8, 9, 10, 11, 13, 14, 70] ?_
        simp [go_sem, -getElem?_pos, -List.map_take, -List.map_drop, List.getElem?_cons_zero, List.getElem?_cons_succ, Go.IntWalk.iteOmega, Go.IntWalk.toNatUp, gj, hjl, wj, he]
        refine IWp.cond ?_
        simp [go_sem, -getElem?_pos, -List.map_take, -List.map_drop, List.getElem?_cons_zero, List.getElem?_cons_succ, Go.IntWalk.iteOmega, Go.IntWalk.toNatUp, gj, hjl, wj, he]
        refine IWp.trim [2, 7, 8, 9, 10, 11, 13, 14] (IWp.skip ?_)
        simp [go_sem, -getElem?_pos, -List.map_take, -List.map_drop, List.getElem?_cons_zero, List.getElem?_cons_succ, Go.IntWalk.iteOmega, Go.IntWalk.toNatUp, gj, hjl, wj, he]
        refine IWp.seq ?_
        refine IWp.block ?_
        refine IWp.seq ?_
        refine IWp.run [2, 7, 8, 9, 10, 11, 13, 14, 78] ?_
        simp [go_sem, -getElem?_pos, -List.map_take, -List.map_drop, List.getElem?_cons_zero, List.getElem?_cons_succ, Go.IntWalk.iteOmega, Go.IntWalk.toNatUp, gj, hjl, wj, he]
        refine IWp.cond ?_
        simp [go_sem, -getElem?_pos, -List.map_take, -List.map_drop, List.getElem?_cons_zero, List.getElem?_cons_succ, Go.IntWalk.iteOmega, Go.IntWalk.toNatUp, gj, hjl, wj, he]
        refine IWp.trim [2, 7, 8, 9, 10, 11, 13, 14] (IWp.skip ?_)
        simp [go_sem, -getElem?_pos, -List.map_take, -List.map_drop, List.getElem?_cons_zero, List.getElem?_cons_succ, Go.IntWalk.iteOmega, Go.IntWalk.toNatUp, gj, hjl, wj, he]
        refine IWp.run [2, 7, 8, 9, 10, 11, 13, 14] ?_
        simp [go_sem, -getElem?_pos, -List.map_take, -List.map_drop, List.getElem?_cons_zero, List.getElem?_cons_succ, Go.IntWalk.iteOmega, Go.IntWalk.toNatUp, gj, hjl, wj, he]
        exact ⟨Y.length - (j + 1), by omega, j + 1, rfl, by omega, by rw [hct]; omega, by omega⟩
    · rw [List.take_of_length_le (by omega)]
      refine IWp.seq ?_
      refine IWp.seq ?_
      refine IWp.run [2, 7, 8, 9, 10, 11, 13, 14, 70] ?_
      simp [go_sem, -getElem?_pos, -List.map_take, -List.map_drop, List.getElem?_cons_zero, List.getElem?_cons_succ, Go.IntWalk.iteOmega, Go.IntWalk.toNatUp, hjl]
      refine IWp.cond ?_
      simp [go_sem, -getElem?_pos, -List.map_take, -List.map_drop, List.getElem?_cons_zero, List.getElem?_cons_succ, Go.IntWalk.iteOmega, Go.IntWalk.toNatUp, hjl]
      refine IWp.trim [2, 7, 8, 9, 10, 11] (IWp.exit ?_)
      simp [go_sem, -getElem?_pos, -List.map_take, -List.map_drop, List.getElem?_cons_zero, List.getElem?_cons_succ, Go.IntWalk.iteOmega, Go.IntWalk.toNatUp, hjl]
  refine IWp.seq ?_
  refine IWp.run [2, 7, 8, 9, 10, 11, 12] ?_
  simp [go_sem, -getElem?_pos, -List.map_take, -List.map_drop, List.getElem?_cons_zero, List.getElem?_cons_succ, Go.IntWalk.iteOmega, Go.IntWalk.toNatUp]
  refine IWp.block ?_
  -- LOOP live [2, 7, 8, 9, 10, 11, 12]
  refine IWp.loop (fun q e K2 => ∃ j : Nat, q = X.length - j ∧ j ≤ X.length ∧ K2 = K ∧ e = [(2, .int .u16 from_), (7, ptrTo cb 0), (8, .int .i64 k), (9, .int .i64 ((sw + (X.take j).count k : Nat) : Int)), (10, .int .i64 (sn : Int)), (11, .int .i64 (i : Int)), (12, .int .i64 (j : Int))]) X.length ⟨0, rfl, Nat.zero_le _, rfl, by simp [go_sem]⟩ ?_
  rintro q e K2 ⟨j, rfl, hj, rfl, rfl⟩
  have wj := IntWalk.i64_in ((j : Int) + 1) (by omega)
  by_cases hjl : j < X.length
  · have gj : X[j]? = some X[j] := List.getElem?_eq_getElem hjl
    have hct := count_take X k hjl
    have hcl : (X.take j).count k ≤ 32 := Nat.le_trans List.count_le_length (by simp; omega)
    generalize (X.take j).count k = n0 at *
    generalize X[j] = y at *
    have wc := IntWalk.i64_in ((sw : Int) + n0 + 1) (by omega)
    by_cases he : y = k
    · rw [if_pos he] at hct
      subst he
      refine IWp.seq ?_
      refine IWp.seq ?_
      refine IWp.run [2, 7, 8, 9, 10, 11, 12, 45] ?_
      simp [go_sem, -getElem?_pos, -List.map_take, -List.map_drop, List.getElem?_cons_zero, List.getElem?_cons_succ, Go.IntWalk.iteOmega, Go.IntWalk.toNatUp, hg, g, hlt, gj, hjl, wj, wc]
      refine IWp.cond ?_
      simp [go_sem, -getElem?_pos, -List.map_take, -List.map_drop, List.getElem?_cons_zero, List.getElem?_cons_succ, Go.IntWalk.iteOmega, Go.IntWalk.toNatUp, hg, g, hlt, gj, hjl, wj, wc]
      refine IWp.trim [2, 7, 8, 9, 10, 11, 12] (IWp.skip ?_)
      simp [go_sem, -getElem?_pos, -List.map_take, -List.map_drop, List.getElem?_cons_zero, List.getElem?_cons_succ, Go.IntWalk.iteOmega, Go.IntWalk.toNatUp, hg, g, hlt, gj, hjl, wj, wc]
      refine IWp.seq ?_
      refine IWp.block ?_
      refine IWp.seq ?_
      refine IWp.run [2, 7, 8, 9, 10, 11, 12, 57] ?_
      simp [go_sem, -getElem?_pos, -List.map_take, -List.map_drop, List.getElem?_cons_zero, List.getElem?_cons_succ, Go.IntWalk.iteOmega, Go.IntWalk.toNatUp, hg, g, hlt, gj, hjl, wj, wc]
      refine IWp.cond ?_
      simp [go_sem, -getElem?_pos, -List.map_take, -List.map_drop, List.getElem?_cons_zero, List.getElem?_cons_succ, Go.IntWalk.iteOmega, Go.IntWalk.toNatUp, hg, g, hlt, gj, hjl, wj, wc]
      refine IWp.run [2, 7, 8, 9, 10, 11, 12] ?_
      simp [go_sem, -getElem?_pos, -List.map_take, -List.map_drop, List.getElem?_cons_zero, List.getElem?_cons_succ, Go.IntWalk.iteOmega, Go.IntWalk.toNatUp, hg, g, hlt, gj, hjl, wj, wc]
      refine IWp.run [2, 7, 8, 9, 10, 11, 12] ?_
      simp [go_sem, -getElem?_pos, -List.map_take, -List.map_drop, List.getElem?_cons_zero, List.getElem?_cons_succ, Go.IntWalk.iteOmega, Go.IntWalk.toNatUp, hg, g, hlt, gj, hjl, wj, wc]
      exact ⟨X.length - (j + 1), by omega, j + 1, rfl, by omega, by rw [hct]; omega, by omega⟩
    · rw [if_neg he] at hct
      refine IWp.seq ?_
      refine IWp.seq ?_
      refine IWp.run [2, 7, 8, 9, 10, 11, 12, 45] ?_
      simp [go_sem, -getElem?_pos, -List.map_take, -List.map_drop, List.getElem?_cons_zero, List.getElem?_cons_succ, Go.IntWalk.iteOmega, Go.IntWalk.toNatUp, hg, g, hlt, gj, hjl, wj, he]
      refine IWp.cond ?_
      simp [go_sem, -getElem?_pos, -List.map_take, -List.map_drop, List.getElem?_cons_zero, List.getElem?_cons_succ, Go.IntWalk.iteOmega, Go.IntWalk.toNatUp, hg, g, hlt, gj, hjl, wj, he]
      refine IWp.trim [2, 7, 8, 9, 10, 11, 12] (IWp.skip ?_)
      simp [go_sem, -getElem?_pos, -List.map_take, -List.map_drop, List.getElem?_cons_zero, List.getElem?_cons_succ, Go.IntWalk.iteOmega, Go.IntWalk.toNatUp, hg, g, hlt, gj, hjl, wj, he]
      refine IWp.seq ?_
      refine IWp.block ?_
      refine IWp.seq ?_
      refine IWp.run [2, 7, 8, 9, 10, 11, 12, 57] ?_
      simp [go_sem, -getElem?_pos, -List.map_take, -List.map_drop, List.getElem?_cons_zero, List.getElem?_cons_succ, Go.IntWalk.iteOmega, Go.IntWalk.toNatUp, hg, g, hlt, gj, hjl, wj, he]
      refine IWp.cond ?_
      simp [go_sem, -getElem?_pos, -List.map_take, -List.map_drop, List.getElem?_cons_zero, List.getElem?_cons_succ, Go.IntWalk.iteOmega, Go.IntWalk.toNatUp, hg, g, hlt, gj, hjl, wj, he]
      refine IWp.trim [2, 7, 8, 9, 10, 11, 12] (IWp.skip ?_)
      simp [go_sem, -getElem?_pos, -List.map_take, -List.map_drop, List.getElem?_cons_zero, List.getElem?_cons_succ, Go.IntWalk.iteOmega, Go.IntWalk.toNatUp, hg, g, hlt, gj, hjl, wj, he]
      refine IWp.run [2, 7, 8, 9, 10, 11, 12] ?_
      simp [go_sem, -getElem?_pos, -List.map_take, -List.map_drop, List.getElem?_cons_zero, List.getElem?_cons_succ, Go.IntWalk.iteOmega, Go.IntWalk.toNatUp, hg, g, hlt, gj, hjl, wj, he]
      exact ⟨X.length - (j + 1), by omega, j + 1, rfl, by omega, by rw [hct]; omega, by omega⟩
  · rw [List.take_of_length_le (by omega)]
    refine IWp.seq ?_
    refine IWp.seq ?_
    refine IWp.run [2, 7, 8, 9, 10, 11, 12, 45] ?_
    simp [go_sem, -getElem?_pos, -List.map_take, -List.map_drop, List.getElem?_cons_zero, List.getElem?_cons_succ, Go.IntWalk.iteOmega, Go.IntWalk.toNatUp, hg, g, hlt, hjl]
    refine IWp.cond ?_
    simp [go_sem, -getElem?_pos, -List.map_take, -List.map_drop, List.getElem?_cons_zero, List.getElem?_cons_succ, Go.IntWalk.iteOmega, Go.IntWalk.toNatUp, hg, g, hlt, hjl]
    refine IWp.trim [2, 7, 8, 9, 10, 11] (IWp.exit ?_)
    simp [go_sem, -getElem?_pos, -List.map_take, -List.map_drop, List.getElem?_cons_zero, List.getElem?_cons_succ, Go.IntWalk.iteOmega, Go.IntWalk.toNatUp, hg, g, hlt, hjl]

end Go.Proofs.Ytmiinclnpcokkaa.I
