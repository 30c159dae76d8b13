/- Any other number: the law's body. No condition. -/
import Derived.Test.YtmiinclnpcokkaaLCheck
import Derived.Test.YtmiinclnpcokkaaGMakeO
namespace Go.Proofs.Ytmiinclnpcokkaa.I
open Go Go.RowKit
set_option linter.unusedVariables false
set_option linter.unusedSimpArgs false

theorem same_own (K : Heap) (sb rb : Nat) (c : Config) (hS : Sized c) (rest : List Value) (h1 : K.get sb = some ⟨((c.sigs.map Sig.val).flatMap fun u => u.cells.toList) ++ rest, true⟩) (h2 : K.get rb = some ⟨(c.rules.map Rule.val).flatMap fun u => u.cells.toList, true⟩) :
    ICalls Try.prog 31 [.agg ⟨confO sb rb c⟩] K fun v H' => v = .bool true ∧ H' = K := by
  refine ICalls.view (us := [c.val]) (.cons (.agg ?_) .nil) (by rw [ClL_cons, Config.cl_val, ClL_nil]; exact ⟨trivial, trivial⟩) ((sameC Heap.empty c hS).mono ?_)
  · refine .cons ?_ (.cons ?_ (FrzL.same _))
    · have := Frz.row (H := K) (S := fun _ => true) (b := sb) (o := 0) (sz := 2) (c := 1) (us := c.sigs.map Sig.val) h1 rfl (by rw [List.drop_zero]; exact FrzE.same _ (fun u hu => by obtain ⟨r, _, rfl⟩ := List.mem_map.1 hu; rfl) rest)
      rwa [List.length_map] at this
    · exact frz_lit (c.rules.map Rule.val) h2 rfl (fun u hu => by obtain ⟨r, _, rfl⟩ := List.mem_map.1 hu; rfl) (by simp) rfl
  · rintro v _ ⟨rfl, rfl⟩
    exact ⟨rfl, rfl⟩

set_option maxHeartbeats 2000000 in
theorem checkRest_law (H : Heap) (d : Draft) (what n : Int) (small : Bool) (hw : d.wf) (w1 : 0 ≤ what ∧ what < 256) (w2 : -9223372036854775808 ≤ n ∧ n < 9223372036854775808) :
    IBody Try.prog 12 [d.val, .int .u8 what, .int .i64 n, .bool small] H fun v _ => v = .bool true := by
  by_cases hs : shortD d
  case neg =>
    have h1 := shorts07F d hs
    simp only [Draft.cells] at h1
    refine IBody.of Try.func12 rfl (by rw [Try.ntmps12]; simp) ?_
    rw [Try.ntmps12]
    refine IWp.seq ?_
    refine IWp.run [1, 2, 3, 4] ?_
    simp [go_sem, -getElem?_pos, -List.map_take, -List.map_drop, List.getElem?_cons_zero, List.getElem?_cons_succ, Go.IntWalk.iteOmega, Go.IntWalk.toNatUp, Draft.val, Draft.cells]
    refine IWp.seq ?_
    refine IWp.seq ?_
    refine IWp.run [1, 2, 3, 4, 16] ?_
    simp [go_sem, -getElem?_pos, -List.map_take, -List.map_drop, List.getElem?_cons_zero, List.getElem?_cons_succ, Go.IntWalk.iteOmega, Go.IntWalk.toNatUp, Draft.val, Draft.cells]
    refine ICalls.then (nothing _) ?_
    try simp [go_sem, -getElem?_pos, -List.map_take, -List.map_drop, List.getElem?_cons_zero, List.getElem?_cons_succ, Go.IntWalk.iteOmega, Go.IntWalk.toNatUp, Draft.val, Draft.cells]
    refine ICalls.then (h1 _) ?_
    try simp [go_sem, -getElem?_pos, -List.map_take, -List.map_drop, List.getElem?_cons_zero, List.getElem?_cons_succ, Go.IntWalk.iteOmega, Go.IntWalk.toNatUp, Draft.val, Draft.cells]
    refine IWp.cond ?_
    simp [go_sem, -getElem?_pos, -List.map_take, -List.map_drop, List.getElem?_cons_zero, List.getElem?_cons_succ, Go.IntWalk.iteOmega, Go.IntWalk.toNatUp, Draft.val, Draft.cells]
    refine IWp.seq ?_
    refine IWp.run [8] ?_
    simp [go_sem, -getElem?_pos, -List.map_take, -List.map_drop, List.getElem?_cons_zero, List.getElem?_cons_succ, Go.IntWalk.iteOmega, Go.IntWalk.toNatUp, Draft.val, Draft.cells]
    refine ICalls.then (nothing _) ?_
    try simp [go_sem, -getElem?_pos, -List.map_take, -List.map_drop, List.getElem?_cons_zero, List.getElem?_cons_succ, Go.IntWalk.iteOmega, Go.IntWalk.toNatUp, Draft.val, Draft.cells]
    refine IWp.ret ?_
    simp [go_sem, -getElem?_pos, -List.map_take, -List.map_drop, List.getElem?_cons_zero, List.getElem?_cons_succ, Go.IntWalk.iteOmega, Go.IntWalk.toNatUp, Draft.val, Draft.cells, Try.results12]
  have h1 := shorts07T d hs
  have h2 := fun K => makeO K d hw
  have hS := sized_make hw
  have hcs : (makeS d).sigs = sigsS := rfl
  have hcr : (makeS d).rules = rulesS d := rfl
  unfold MadeO at h2
  rw [← hcr] at h2
  simp only [Draft.val, Draft.cells] at h1 h2
  generalize makeS d = c at *
  obtain ⟨sigs, rules, table, b0, b1, b2, drain, pause, off, brk, log⟩ := c
  simp only at hcs hcr
  subst hcs
  refine IBody.of Try.func12 rfl (by rw [Try.ntmps12]; simp) ?_
  rw [Try.ntmps12]
  refine IWp.seq ?_
  refine IWp.run [1, 2, 3, 4] ?_
  simp [go_sem, -getElem?_pos, -List.map_take, -List.map_drop, List.getElem?_cons_zero, List.getElem?_cons_succ, Go.IntWalk.iteOmega, Go.IntWalk.toNatUp, Draft.val, Draft.cells, confO]
  refine IWp.seq ?_
  refine IWp.seq ?_
  refine IWp.run [1, 2, 3, 4, 16] ?_
  simp [go_sem, -getElem?_pos, -List.map_take, -List.map_drop, List.getElem?_cons_zero, List.getElem?_cons_succ, Go.IntWalk.iteOmega, Go.IntWalk.toNatUp, Draft.val, Draft.cells, confO]
  refine ICalls.then (nothing _) ?_
  try simp [go_sem, -getElem?_pos, -List.map_take, -List.map_drop, List.getElem?_cons_zero, List.getElem?_cons_succ, Go.IntWalk.iteOmega, Go.IntWalk.toNatUp, Draft.val, Draft.cells, confO]
  refine ICalls.then (h1 _) ?_
  try simp [go_sem, -getElem?_pos, -List.map_take, -List.map_drop, List.getElem?_cons_zero, List.getElem?_cons_succ, Go.IntWalk.iteOmega, Go.IntWalk.toNatUp, Draft.val, Draft.cells, confO]
  refine IWp.cond ?_
  simp [go_sem, -getElem?_pos, -List.map_take, -List.map_drop, List.getElem?_cons_zero, List.getElem?_cons_succ, Go.IntWalk.iteOmega, Go.IntWalk.toNatUp, Draft.val, Draft.cells, confO]
  refine IWp.trim [1, 2, 3, 4] (IWp.skip ?_)
  simp [go_sem, -getElem?_pos, -List.map_take, -List.map_drop, List.getElem?_cons_zero, List.getElem?_cons_succ, Go.IntWalk.iteOmega, Go.IntWalk.toNatUp, Draft.val, Draft.cells, confO]
  refine IWp.seq ?_
  refine IWp.run [1, 2, 3, 9] ?_
  simp [go_sem, -getElem?_pos, -List.map_take, -List.map_drop, List.getElem?_cons_zero, List.getElem?_cons_succ, Go.IntWalk.iteOmega, Go.IntWalk.toNatUp, Draft.val, Draft.cells, confO]
  refine ICalls.mono (h2 _) ?_
  rintro v H2 ⟨sb, rb, m1, m2, m3, m4, m5, m6, m7⟩
  subst m4
  try simp [go_sem, -getElem?_pos, -List.map_take, -List.map_drop, List.getElem?_cons_zero, List.getElem?_cons_succ, Go.IntWalk.iteOmega, Go.IntWalk.toNatUp, Draft.val, Draft.cells, confO, confO]
  -- CUT live [1, 2, 9]
  have hsb := Heap.lt_of_get m5
  have hrb := Heap.lt_of_get m6
  obtain ⟨H3, hH3⟩ : ∃ H3, H3 = H2.alloc (confO sb rb ⟨sigsS, rules, table, b0, b1, b2, drain, pause, off, brk, log⟩) := ⟨_, rfl⟩
  have g3 : H3.get H2.next = some ⟨confO sb rb ⟨sigsS, rules, table, b0, b1, b2, drain, pause, off, brk, log⟩, true⟩ := by rw [hH3]; exact Heap.get_alloc_new _ _
  have gs : H3.get sb = some ⟨sigsS.flatMap Sig.cells, true⟩ := by rw [hH3, Heap.get_alloc_lt _ _ _ hsb]; exact m5
  have gr : H3.get rb = some ⟨(rules.map Rule.val).flatMap fun u => u.cells.toList, true⟩ := by rw [hH3, Heap.get_alloc_lt _ _ _ hrb]; exact m6
  simp only [confO, sigsS, List.length_cons, List.length_nil] at hH3 g3
  simp only [sigsS, Sig.cells, List.flatMap_cons, List.flatMap_nil, List.cons_append, List.nil_append] at gs
  have hS' : ∀ (S' : List Sig) (x0 x1 x2 x3 x4 x5 x6 : Int) (x7 : Bool), S'.length ≤ 3 → Sized ⟨S', rules, table, x0, x1, x2, x3, x4, x5, x7, x6⟩ := fun S' _ _ _ _ _ _ _ _ h => ⟨by show S'.length ≤ 1000; omega, hS.rules, hS.table, hS.rows, hS.stages⟩
  simp only [sigsS, List.length_cons, List.length_nil, Nat.zero_add] at *
  rw [← hH3]
  generalize hcb : H2.next = cb at *
  have n1 : ¬ sb = cb := by omega
  have n2 : ¬ rb = cb := by omega
  clear hH3 m5 m6 m7 h1 h2
  refine IWp.cut (fun e K => ∃ n' : Int, e = [(1, .int .u8 what), (2, .int .i64 n'), (9, ptrTo cb 0)] ∧ K = H3) ?_ ?_
  · cases small with
    | true =>
      refine IWp.seq ?_
      refine IWp.run [1, 2, 9, 20] ?_
      simp [go_sem, -getElem?_pos, -List.map_take, -List.map_drop, List.getElem?_cons_zero, List.getElem?_cons_succ, Go.IntWalk.iteOmega, Go.IntWalk.toNatUp, show ¬ (300 : Int) = 0 by omega]
      refine IWp.cond ?_
      simp [go_sem, -getElem?_pos, -List.map_take, -List.map_drop, List.getElem?_cons_zero, List.getElem?_cons_succ, Go.IntWalk.iteOmega, Go.IntWalk.toNatUp, show ¬ (300 : Int) = 0 by omega]
      refine IWp.run [1, 2, 9] ?_
      simp [go_sem, -getElem?_pos, -List.map_take, -List.map_drop, List.getElem?_cons_zero, List.getElem?_cons_succ, Go.IntWalk.iteOmega, Go.IntWalk.toNatUp, show ¬ (300 : Int) = 0 by omega]
      try exact ⟨_, rfl⟩
    | false =>
      refine IWp.seq ?_
      refine IWp.run [1, 2, 9, 20] ?_
      simp [go_sem, -getElem?_pos, -List.map_take, -List.map_drop, List.getElem?_cons_zero, List.getElem?_cons_succ, Go.IntWalk.iteOmega, Go.IntWalk.toNatUp]
      refine IWp.cond ?_
      simp [go_sem, -getElem?_pos, -List.map_take, -List.map_drop, List.getElem?_cons_zero, List.getElem?_cons_succ, Go.IntWalk.iteOmega, Go.IntWalk.toNatUp]
      refine IWp.trim [1, 2, 9] (IWp.skip ?_)
      simp [go_sem, -getElem?_pos, -List.map_take, -List.map_drop, List.getElem?_cons_zero, List.getElem?_cons_succ, Go.IntWalk.iteOmega, Go.IntWalk.toNatUp]
      try exact ⟨_, rfl⟩
  rintro e K ⟨n', rfl, rfl⟩
  have hj3 : what / 8 % 3 = 0 ∨ what / 8 % 3 = 1 ∨ what / 8 % 3 = 2 := by omega
  have hj4 : what / 8 % 4 = 0 ∨ what / 8 % 4 = 1 ∨ what / 8 % 4 = 2 ∨ what / 8 % 4 = 3 := by omega
  have n3 : ¬ rb = sb := fun e => m3 e.symm
  have hk : what % 8 = 0 ∨ what % 8 = 1 ∨ what % 8 = 2 ∨ what % 8 = 3 ∨ what % 8 = 4 ∨ what % 8 = 5 ∨ what % 8 = 6 ∨ what % 8 = 7 := by omega
  rcases hk with hk | hk | hk | hk | hk | hk | hk | hk
  · skip
    rcases hj3 with hj | hj | hj
    · skip
      refine IWp.seq ?_
      refine IWp.seq ?_
      refine IWp.run [1, 2, 9, 24] ?_
      simp (disch := omega) [go_sem, -getElem?_pos, -List.map_take, -List.map_drop, List.getElem?_cons_zero, List.getElem?_cons_succ, Go.IntWalk.iteOmega, Go.IntWalk.toNatUp, Go.IntWalk.i64_in, Go.IntWalk.u8_in, Go.IntWalk.i64_quo, Go.IntWalk.u8_quo, Go.IntWalk.rem_in, hk, hj, g3, gs, gr, n1, n2]
      refine IWp.block ?_
      refine IWp.seq ?_
      refine IWp.run [1, 2, 9, 24, 33] ?_
      simp (disch := omega) [go_sem, -getElem?_pos, -List.map_take, -List.map_drop, List.getElem?_cons_zero, List.getElem?_cons_succ, Go.IntWalk.iteOmega, Go.IntWalk.toNatUp, Go.IntWalk.i64_in, Go.IntWalk.u8_in, Go.IntWalk.i64_quo, Go.IntWalk.u8_quo, Go.IntWalk.rem_in, hk, hj, g3, gs, gr, n1, n2]
      refine IWp.cond ?_
      simp (disch := omega) [go_sem, -getElem?_pos, -List.map_take, -List.map_drop, List.getElem?_cons_zero, List.getElem?_cons_succ, Go.IntWalk.iteOmega, Go.IntWalk.toNatUp, Go.IntWalk.i64_in, Go.IntWalk.u8_in, Go.IntWalk.i64_quo, Go.IntWalk.u8_quo, Go.IntWalk.rem_in, hk, hj, g3, gs, gr, n1, n2]
      refine IWp.run [9] ?_
      simp (disch := omega) [go_sem, -getElem?_pos, -List.map_take, -List.map_drop, List.getElem?_cons_zero, List.getElem?_cons_succ, Go.IntWalk.iteOmega, Go.IntWalk.toNatUp, Go.IntWalk.i64_in, Go.IntWalk.u8_in, Go.IntWalk.i64_quo, Go.IntWalk.u8_quo, Go.IntWalk.rem_in, hk, hj, g3, gs, gr, n1, n2]
      refine IWp.seq ?_
      refine IWp.run [8] ?_
      simp (disch := omega) [go_sem, -getElem?_pos, -List.map_take, -List.map_drop, List.getElem?_cons_zero, List.getElem?_cons_succ, Go.IntWalk.iteOmega, Go.IntWalk.toNatUp, Go.IntWalk.i64_in, Go.IntWalk.u8_in, Go.IntWalk.i64_quo, Go.IntWalk.u8_quo, Go.IntWalk.rem_in, hk, hj, g3, gs, gr, n1, n2]
      refine ICalls.then (same_own _ sb rb ⟨[⟨-100, 300⟩, ⟨0, 250⟩, ⟨-2147483648, 2147483647⟩], rules, table, n', b1, b2, drain, pause, off, brk, log⟩ (hS' _ _ _ _ _ _ _ _ _ (by simp)) [] (by simp [get_set, n1, n2, gs, Sig.val, Sig.cells, Value.cells]) (by simp [get_set, n1, n2, n3, gr])) ?_
      simp [go_sem]
      refine IWp.ret ?_
      simp [go_sem, -getElem?_pos, -List.map_take, -List.map_drop, List.getElem?_cons_zero, List.getElem?_cons_succ, Go.IntWalk.iteOmega, Go.IntWalk.toNatUp, Try.results12]
    · skip
      refine IWp.seq ?_
      refine IWp.seq ?_
      refine IWp.run [1, 2, 9, 24] ?_
      simp (disch := omega) [go_sem, -getElem?_pos, -List.map_take, -List.map_drop, List.getElem?_cons_zero, List.getElem?_cons_succ, Go.IntWalk.iteOmega, Go.IntWalk.toNatUp, Go.IntWalk.i64_in, Go.IntWalk.u8_in, Go.IntWalk.i64_quo, Go.IntWalk.u8_quo, Go.IntWalk.rem_in, hk, hj, g3, gs, gr, n1, n2]
      refine IWp.block ?_
      refine IWp.seq ?_
      refine IWp.run [1, 2, 9, 24, 33] ?_
      simp (disch := omega) [go_sem, -getElem?_pos, -List.map_take, -List.map_drop, List.getElem?_cons_zero, List.getElem?_cons_succ, Go.IntWalk.iteOmega, Go.IntWalk.toNatUp, Go.IntWalk.i64_in, Go.IntWalk.u8_in, Go.IntWalk.i64_quo, Go.IntWalk.u8_quo, Go.IntWalk.rem_in, hk, hj, g3, gs, gr, n1, n2]
      refine IWp.cond ?_
      simp (disch := omega) [go_sem, -getElem?_pos, -List.map_take, -List.map_drop, List.getElem?_cons_zero, List.getElem?_cons_succ, Go.IntWalk.iteOmega, Go.IntWalk.toNatUp, Go.IntWalk.i64_in, Go.IntWalk.u8_in, Go.IntWalk.i64_quo, Go.IntWalk.u8_quo, Go.IntWalk.rem_in, hk, hj, g3, gs, gr, n1, n2]
      refine IWp.run [9] ?_
      simp (disch := omega) [go_sem, -getElem?_pos, -List.map_take, -List.map_drop, List.getElem?_cons_zero, List.getElem?_cons_succ, Go.IntWalk.iteOmega, Go.IntWalk.toNatUp, Go.IntWalk.i64_in, Go.IntWalk.u8_in, Go.IntWalk.i64_quo, Go.IntWalk.u8_quo, Go.IntWalk.rem_in, hk, hj, g3, gs, gr, n1, n2]
      refine IWp.seq ?_
      refine IWp.run [8] ?_
      simp (disch := omega) [go_sem, -getElem?_pos, -List.map_take, -List.map_drop, List.getElem?_cons_zero, List.getElem?_cons_succ, Go.IntWalk.iteOmega, Go.IntWalk.toNatUp, Go.IntWalk.i64_in, Go.IntWalk.u8_in, Go.IntWalk.i64_quo, Go.IntWalk.u8_quo, Go.IntWalk.rem_in, hk, hj, g3, gs, gr, n1, n2]
      refine ICalls.then (same_own _ sb rb ⟨[⟨-100, 300⟩, ⟨0, 250⟩, ⟨-2147483648, 2147483647⟩], rules, table, b0, n', b2, drain, pause, off, brk, log⟩ (hS' _ _ _ _ _ _ _ _ _ (by simp)) [] (by simp [get_set, n1, n2, gs, Sig.val, Sig.cells, Value.cells]) (by simp [get_set, n1, n2, n3, gr])) ?_
      simp [go_sem]
      refine IWp.ret ?_
      simp [go_sem, -getElem?_pos, -List.map_take, -List.map_drop, List.getElem?_cons_zero, List.getElem?_cons_succ, Go.IntWalk.iteOmega, Go.IntWalk.toNatUp, Try.results12]
    · skip
      refine IWp.seq ?_
      refine IWp.seq ?_
      refine IWp.run [1, 2, 9, 24] ?_
      simp (disch := omega) [go_sem, -getElem?_pos, -List.map_take, -List.map_drop, List.getElem?_cons_zero, List.getElem?_cons_succ, Go.IntWalk.iteOmega, Go.IntWalk.toNatUp, Go.IntWalk.i64_in, Go.IntWalk.u8_in, Go.IntWalk.i64_quo, Go.IntWalk.u8_quo, Go.IntWalk.rem_in, hk, hj, g3, gs, gr, n1, n2]
      refine IWp.block ?_
      refine IWp.seq ?_
      refine IWp.run [1, 2, 9, 24, 33] ?_
      simp (disch := omega) [go_sem, -getElem?_pos, -List.map_take, -List.map_drop, List.getElem?_cons_zero, List.getElem?_cons_succ, Go.IntWalk.iteOmega, Go.IntWalk.toNatUp, Go.IntWalk.i64_in, Go.IntWalk.u8_in, Go.IntWalk.i64_quo, Go.IntWalk.u8_quo, Go.IntWalk.rem_in, hk, hj, g3, gs, gr, n1, n2]
      refine IWp.cond ?_
      simp (disch := omega) [go_sem, -getElem?_pos, -List.map_take, -List.map_drop, List.getElem?_cons_zero, List.getElem?_cons_succ, Go.IntWalk.iteOmega, Go.IntWalk.toNatUp, Go.IntWalk.i64_in, Go.IntWalk.u8_in, Go.IntWalk.i64_quo, Go.IntWalk.u8_quo, Go.IntWalk.rem_in, hk, hj, g3, gs, gr, n1, n2]
      refine IWp.run [9] ?_
      simp (disch := omega) [go_sem, -getElem?_pos, -List.map_take, -List.map_drop, List.getElem?_cons_zero, List.getElem?_cons_succ, Go.IntWalk.iteOmega, Go.IntWalk.toNatUp, Go.IntWalk.i64_in, Go.IntWalk.u8_in, Go.IntWalk.i64_quo, Go.IntWalk.u8_quo, Go.IntWalk.rem_in, hk, hj, g3, gs, gr, n1, n2]
      refine IWp.seq ?_
      refine IWp.run [8] ?_
      simp (disch := omega) [go_sem, -getElem?_pos, -List.map_take, -List.map_drop, List.getElem?_cons_zero, List.getElem?_cons_succ, Go.IntWalk.iteOmega, Go.IntWalk.toNatUp, Go.IntWalk.i64_in, Go.IntWalk.u8_in, Go.IntWalk.i64_quo, Go.IntWalk.u8_quo, Go.IntWalk.rem_in, hk, hj, g3, gs, gr, n1, n2]
      refine ICalls.then (same_own _ sb rb ⟨[⟨-100, 300⟩, ⟨0, 250⟩, ⟨-2147483648, 2147483647⟩], rules, table, b0, b1, n', drain, pause, off, brk, log⟩ (hS' _ _ _ _ _ _ _ _ _ (by simp)) [] (by simp [get_set, n1, n2, gs, Sig.val, Sig.cells, Value.cells]) (by simp [get_set, n1, n2, n3, gr])) ?_
      simp [go_sem]
      refine IWp.ret ?_
      simp [go_sem, -getElem?_pos, -List.map_take, -List.map_drop, List.getElem?_cons_zero, List.getElem?_cons_succ, Go.IntWalk.iteOmega, Go.IntWalk.toNatUp, Try.results12]
  · by_cases a1 : 1099511627776 < n'
    · skip
      refine IWp.seq ?_
      refine IWp.seq ?_
      refine IWp.run [1, 2, 9, 24] ?_
      simp (disch := omega) [go_sem, -getElem?_pos, -List.map_take, -List.map_drop, List.getElem?_cons_zero, List.getElem?_cons_succ, Go.IntWalk.iteOmega, Go.IntWalk.toNatUp, Go.IntWalk.i64_in, Go.IntWalk.u8_in, Go.IntWalk.i64_quo, Go.IntWalk.u8_quo, Go.IntWalk.rem_in, hk, a1]
      refine IWp.block ?_
      refine IWp.seq ?_
      refine IWp.run [1, 2, 9, 24, 33] ?_
      simp (disch := omega) [go_sem, -getElem?_pos, -List.map_take, -List.map_drop, List.getElem?_cons_zero, List.getElem?_cons_succ, Go.IntWalk.iteOmega, Go.IntWalk.toNatUp, Go.IntWalk.i64_in, Go.IntWalk.u8_in, Go.IntWalk.i64_quo, Go.IntWalk.u8_quo, Go.IntWalk.rem_in, hk, a1]
      refine IWp.cond ?_
      simp (disch := omega) [go_sem, -getElem?_pos, -List.map_take, -List.map_drop, List.getElem?_cons_zero, List.getElem?_cons_succ, Go.IntWalk.iteOmega, Go.IntWalk.toNatUp, Go.IntWalk.i64_in, Go.IntWalk.u8_in, Go.IntWalk.i64_quo, Go.IntWalk.u8_quo, Go.IntWalk.rem_in, hk, a1]
      refine IWp.seq ?_
      refine IWp.run [1, 2, 9, 24, 42] ?_
      simp (disch := omega) [go_sem, -getElem?_pos, -List.map_take, -List.map_drop, List.getElem?_cons_zero, List.getElem?_cons_succ, Go.IntWalk.iteOmega, Go.IntWalk.toNatUp, Go.IntWalk.i64_in, Go.IntWalk.u8_in, Go.IntWalk.i64_quo, Go.IntWalk.u8_quo, Go.IntWalk.rem_in, hk, a1]
      refine IWp.cond ?_
      simp (disch := omega) [go_sem, -getElem?_pos, -List.map_take, -List.map_drop, List.getElem?_cons_zero, List.getElem?_cons_succ, Go.IntWalk.iteOmega, Go.IntWalk.toNatUp, Go.IntWalk.i64_in, Go.IntWalk.u8_in, Go.IntWalk.i64_quo, Go.IntWalk.u8_quo, Go.IntWalk.rem_in, hk, a1]
      refine IWp.seq ?_
      refine IWp.seq ?_
      refine IWp.run [2, 9, 49] ?_
      simp (disch := omega) [go_sem, -getElem?_pos, -List.map_take, -List.map_drop, List.getElem?_cons_zero, List.getElem?_cons_succ, Go.IntWalk.iteOmega, Go.IntWalk.toNatUp, Go.IntWalk.i64_in, Go.IntWalk.u8_in, Go.IntWalk.i64_quo, Go.IntWalk.u8_quo, Go.IntWalk.rem_in, hk, a1]
      refine IWp.cond ?_
      simp (disch := omega) [go_sem, -getElem?_pos, -List.map_take, -List.map_drop, List.getElem?_cons_zero, List.getElem?_cons_succ, Go.IntWalk.iteOmega, Go.IntWalk.toNatUp, Go.IntWalk.i64_in, Go.IntWalk.u8_in, Go.IntWalk.i64_quo, Go.IntWalk.u8_quo, Go.IntWalk.rem_in, hk, a1]
      refine IWp.seq ?_
      refine IWp.run [8] ?_
      simp (disch := omega) [go_sem, -getElem?_pos, -List.map_take, -List.map_drop, List.getElem?_cons_zero, List.getElem?_cons_succ, Go.IntWalk.iteOmega, Go.IntWalk.toNatUp, Go.IntWalk.i64_in, Go.IntWalk.u8_in, Go.IntWalk.i64_quo, Go.IntWalk.u8_quo, Go.IntWalk.rem_in, hk, a1]
      refine IWp.ret ?_
      simp (disch := omega) [go_sem, -getElem?_pos, -List.map_take, -List.map_drop, List.getElem?_cons_zero, List.getElem?_cons_succ, Go.IntWalk.iteOmega, Go.IntWalk.toNatUp, Go.IntWalk.i64_in, Go.IntWalk.u8_in, Go.IntWalk.i64_quo, Go.IntWalk.u8_quo, Go.IntWalk.rem_in, hk, a1, Try.results12]
    by_cases a2 : n' < -1099511627776
    · skip
      refine IWp.seq ?_
      refine IWp.seq ?_
      refine IWp.run [1, 2, 9, 24] ?_
      simp (disch := omega) [go_sem, -getElem?_pos, -List.map_take, -List.map_drop, List.getElem?_cons_zero, List.getElem?_cons_succ, Go.IntWalk.iteOmega, Go.IntWalk.toNatUp, Go.IntWalk.i64_in, Go.IntWalk.u8_in, Go.IntWalk.i64_quo, Go.IntWalk.u8_quo, Go.IntWalk.rem_in, hk, a1, a2]
      refine IWp.block ?_
      refine IWp.seq ?_
      refine IWp.run [1, 2, 9, 24, 33] ?_
      simp (disch := omega) [go_sem, -getElem?_pos, -List.map_take, -List.map_drop, List.getElem?_cons_zero, List.getElem?_cons_succ, Go.IntWalk.iteOmega, Go.IntWalk.toNatUp, Go.IntWalk.i64_in, Go.IntWalk.u8_in, Go.IntWalk.i64_quo, Go.IntWalk.u8_quo, Go.IntWalk.rem_in, hk, a1, a2]
      refine IWp.cond ?_
      simp (disch := omega) [go_sem, -getElem?_pos, -List.map_take, -List.map_drop, List.getElem?_cons_zero, List.getElem?_cons_succ, Go.IntWalk.iteOmega, Go.IntWalk.toNatUp, Go.IntWalk.i64_in, Go.IntWalk.u8_in, Go.IntWalk.i64_quo, Go.IntWalk.u8_quo, Go.IntWalk.rem_in, hk, a1, a2]
      refine IWp.seq ?_
      refine IWp.run [1, 2, 9, 24, 42] ?_
      simp (disch := omega) [go_sem, -getElem?_pos, -List.map_take, -List.map_drop, List.getElem?_cons_zero, List.getElem?_cons_succ, Go.IntWalk.iteOmega, Go.IntWalk.toNatUp, Go.IntWalk.i64_in, Go.IntWalk.u8_in, Go.IntWalk.i64_quo, Go.IntWalk.u8_quo, Go.IntWalk.rem_in, hk, a1, a2]
      refine IWp.cond ?_
      simp (disch := omega) [go_sem, -getElem?_pos, -List.map_take, -List.map_drop, List.getElem?_cons_zero, List.getElem?_cons_succ, Go.IntWalk.iteOmega, Go.IntWalk.toNatUp, Go.IntWalk.i64_in, Go.IntWalk.u8_in, Go.IntWalk.i64_quo, Go.IntWalk.u8_quo, Go.IntWalk.rem_in, hk, a1, a2]
      refine IWp.seq ?_
      refine IWp.seq ?_
      refine IWp.run [2, 9, 49] ?_
      simp (disch := omega) [go_sem, -getElem?_pos, -List.map_take, -List.map_drop, List.getElem?_cons_zero, List.getElem?_cons_succ, Go.IntWalk.iteOmega, Go.IntWalk.toNatUp, Go.IntWalk.i64_in, Go.IntWalk.u8_in, Go.IntWalk.i64_quo, Go.IntWalk.u8_quo, Go.IntWalk.rem_in, hk, a1, a2]
      refine IWp.cond ?_
      simp (disch := omega) [go_sem, -getElem?_pos, -List.map_take, -List.map_drop, List.getElem?_cons_zero, List.getElem?_cons_succ, Go.IntWalk.iteOmega, Go.IntWalk.toNatUp, Go.IntWalk.i64_in, Go.IntWalk.u8_in, Go.IntWalk.i64_quo, Go.IntWalk.u8_quo, Go.IntWalk.rem_in, hk, a1, a2]
      refine IWp.seq ?_
      refine IWp.run [8] ?_
      simp (disch := omega) [go_sem, -getElem?_pos, -List.map_take, -List.map_drop, List.getElem?_cons_zero, List.getElem?_cons_succ, Go.IntWalk.iteOmega, Go.IntWalk.toNatUp, Go.IntWalk.i64_in, Go.IntWalk.u8_in, Go.IntWalk.i64_quo, Go.IntWalk.u8_quo, Go.IntWalk.rem_in, hk, a1, a2]
      refine IWp.ret ?_
      simp (disch := omega) [go_sem, -getElem?_pos, -List.map_take, -List.map_drop, List.getElem?_cons_zero, List.getElem?_cons_succ, Go.IntWalk.iteOmega, Go.IntWalk.toNatUp, Go.IntWalk.i64_in, Go.IntWalk.u8_in, Go.IntWalk.i64_quo, Go.IntWalk.u8_quo, Go.IntWalk.rem_in, hk, a1, a2, Try.results12]
    refine IWp.seq ?_
    refine IWp.seq ?_
    refine IWp.run [1, 2, 9, 24] ?_
    simp (disch := omega) [go_sem, -getElem?_pos, -List.map_take, -List.map_drop, List.getElem?_cons_zero, List.getElem?_cons_succ, Go.IntWalk.iteOmega, Go.IntWalk.toNatUp, Go.IntWalk.i64_in, Go.IntWalk.u8_in, Go.IntWalk.i64_quo, Go.IntWalk.u8_quo, Go.IntWalk.rem_in, hk, a1, a2, g3, gs, gr, n1, n2]
    refine IWp.block ?_
    refine IWp.seq ?_
    refine IWp.run [1, 2, 9, 24, 33] ?_
    simp (disch := omega) [go_sem, -getElem?_pos, -List.map_take, -List.map_drop, List.getElem?_cons_zero, List.getElem?_cons_succ, Go.IntWalk.iteOmega, Go.IntWalk.toNatUp, Go.IntWalk.i64_in, Go.IntWalk.u8_in, Go.IntWalk.i64_quo, Go.IntWalk.u8_quo, Go.IntWalk.rem_in, hk, a1, a2, g3, gs, gr, n1, n2]
    refine IWp.cond ?_
    simp (disch := omega) [go_sem, -getElem?_pos, -List.map_take, -List.map_drop, List.getElem?_cons_zero, List.getElem?_cons_succ, Go.IntWalk.iteOmega, Go.IntWalk.toNatUp, Go.IntWalk.i64_in, Go.IntWalk.u8_in, Go.IntWalk.i64_quo, Go.IntWalk.u8_quo, Go.IntWalk.rem_in, hk, a1, a2, g3, gs, gr, n1, n2]
    refine IWp.seq ?_
    refine IWp.run [1, 2, 9, 24, 42] ?_
    simp (disch := omega) [go_sem, -getElem?_pos, -List.map_take, -List.map_drop, List.getElem?_cons_zero, List.getElem?_cons_succ, Go.IntWalk.iteOmega, Go.IntWalk.toNatUp, Go.IntWalk.i64_in, Go.IntWalk.u8_in, Go.IntWalk.i64_quo, Go.IntWalk.u8_quo, Go.IntWalk.rem_in, hk, a1, a2, g3, gs, gr, n1, n2]
    refine IWp.cond ?_
    simp (disch := omega) [go_sem, -getElem?_pos, -List.map_take, -List.map_drop, List.getElem?_cons_zero, List.getElem?_cons_succ, Go.IntWalk.iteOmega, Go.IntWalk.toNatUp, Go.IntWalk.i64_in, Go.IntWalk.u8_in, Go.IntWalk.i64_quo, Go.IntWalk.u8_quo, Go.IntWalk.rem_in, hk, a1, a2, g3, gs, gr, n1, n2]
    refine IWp.seq ?_
    refine IWp.seq ?_
    refine IWp.run [2, 9, 49] ?_
    simp (disch := omega) [go_sem, -getElem?_pos, -List.map_take, -List.map_drop, List.getElem?_cons_zero, List.getElem?_cons_succ, Go.IntWalk.iteOmega, Go.IntWalk.toNatUp, Go.IntWalk.i64_in, Go.IntWalk.u8_in, Go.IntWalk.i64_quo, Go.IntWalk.u8_quo, Go.IntWalk.rem_in, hk, a1, a2, g3, gs, gr, n1, n2]
    refine IWp.cond ?_
    simp (disch := omega) [go_sem, -getElem?_pos, -List.map_take, -List.map_drop, List.getElem?_cons_zero, List.getElem?_cons_succ, Go.IntWalk.iteOmega, Go.IntWalk.toNatUp, Go.IntWalk.i64_in, Go.IntWalk.u8_in, Go.IntWalk.i64_quo, Go.IntWalk.u8_quo, Go.IntWalk.rem_in, hk, a1, a2, g3, gs, gr, n1, n2]
    refine IWp.trim [2, 9] (IWp.skip ?_)
    simp (disch := omega) [go_sem, -getElem?_pos, -List.map_take, -List.map_drop, List.getElem?_cons_zero, List.getElem?_cons_succ, Go.IntWalk.iteOmega, Go.IntWalk.toNatUp, Go.IntWalk.i64_in, Go.IntWalk.u8_in, Go.IntWalk.i64_quo, Go.IntWalk.u8_quo, Go.IntWalk.rem_in, hk, a1, a2, g3, gs, gr, n1, n2]
    refine IWp.run [9] ?_
    simp (disch := omega) [go_sem, -getElem?_pos, -List.map_take, -List.map_drop, List.getElem?_cons_zero, List.getElem?_cons_succ, Go.IntWalk.iteOmega, Go.IntWalk.toNatUp, Go.IntWalk.i64_in, Go.IntWalk.u8_in, Go.IntWalk.i64_quo, Go.IntWalk.u8_quo, Go.IntWalk.rem_in, hk, a1, a2, g3, gs, gr, n1, n2]
    refine IWp.seq ?_
    refine IWp.run [8] ?_
    simp (disch := omega) [go_sem, -getElem?_pos, -List.map_take, -List.map_drop, List.getElem?_cons_zero, List.getElem?_cons_succ, Go.IntWalk.iteOmega, Go.IntWalk.toNatUp, Go.IntWalk.i64_in, Go.IntWalk.u8_in, Go.IntWalk.i64_quo, Go.IntWalk.u8_quo, Go.IntWalk.rem_in, hk, a1, a2, g3, gs, gr, n1, n2]
    refine ICalls.then (same_own _ sb rb ⟨[⟨-100, 300⟩, ⟨0, 250⟩, ⟨-2147483648, 2147483647⟩], rules, table, b0, b1, b2, n', pause, off, brk, log⟩ (hS' _ _ _ _ _ _ _ _ _ (by simp)) [] (by simp [get_set, n1, n2, gs, Sig.val, Sig.cells, Value.cells]) (by simp [get_set, n1, n2, n3, gr])) ?_
    simp [go_sem]
    refine IWp.ret ?_
    simp [go_sem, -getElem?_pos, -List.map_take, -List.map_drop, List.getElem?_cons_zero, List.getElem?_cons_succ, Go.IntWalk.iteOmega, Go.IntWalk.toNatUp, Try.results12]
  · skip
    refine IWp.seq ?_
    refine IWp.seq ?_
    refine IWp.run [1, 2, 9, 24] ?_
    simp (disch := omega) [go_sem, -getElem?_pos, -List.map_take, -List.map_drop, List.getElem?_cons_zero, List.getElem?_cons_succ, Go.IntWalk.iteOmega, Go.IntWalk.toNatUp, Go.IntWalk.i64_in, Go.IntWalk.u8_in, Go.IntWalk.i64_quo, Go.IntWalk.u8_quo, Go.IntWalk.rem_in, hk,  g3, gs, gr, n1, n2]
    refine IWp.block ?_
    refine IWp.seq ?_
    refine IWp.run [1, 2, 9, 24, 33] ?_
    simp (disch := omega) [go_sem, -getElem?_pos, -List.map_take, -List.map_drop, List.getElem?_cons_zero, List.getElem?_cons_succ, Go.IntWalk.iteOmega, Go.IntWalk.toNatUp, Go.IntWalk.i64_in, Go.IntWalk.u8_in, Go.IntWalk.i64_quo, Go.IntWalk.u8_quo, Go.IntWalk.rem_in, hk,  g3, gs, gr, n1, n2]
    refine IWp.cond ?_
    simp (disch := omega) [go_sem, -getElem?_pos, -List.map_take, -List.map_drop, List.getElem?_cons_zero, List.getElem?_cons_succ, Go.IntWalk.iteOmega, Go.IntWalk.toNatUp, Go.IntWalk.i64_in, Go.IntWalk.u8_in, Go.IntWalk.i64_quo, Go.IntWalk.u8_quo, Go.IntWalk.rem_in, hk,  g3, gs, gr, n1, n2]
    refine IWp.seq ?_
    refine IWp.run [1, 2, 9, 24, 42] ?_
    simp (disch := omega) [go_sem, -getElem?_pos, -List.map_take, -List.map_drop, List.getElem?_cons_zero, List.getElem?_cons_succ, Go.IntWalk.iteOmega, Go.IntWalk.toNatUp, Go.IntWalk.i64_in, Go.IntWalk.u8_in, Go.IntWalk.i64_quo, Go.IntWalk.u8_quo, Go.IntWalk.rem_in, hk,  g3, gs, gr, n1, n2]
    refine IWp.cond ?_
    simp (disch := omega) [go_sem, -getElem?_pos, -List.map_take, -List.map_drop, List.getElem?_cons_zero, List.getElem?_cons_succ, Go.IntWalk.iteOmega, Go.IntWalk.toNatUp, Go.IntWalk.i64_in, Go.IntWalk.u8_in, Go.IntWalk.i64_quo, Go.IntWalk.u8_quo, Go.IntWalk.rem_in, hk,  g3, gs, gr, n1, n2]
    refine IWp.seq ?_
    refine IWp.run [1, 2, 9, 24, 52] ?_
    simp (disch := omega) [go_sem, -getElem?_pos, -List.map_take, -List.map_drop, List.getElem?_cons_zero, List.getElem?_cons_succ, Go.IntWalk.iteOmega, Go.IntWalk.toNatUp, Go.IntWalk.i64_in, Go.IntWalk.u8_in, Go.IntWalk.i64_quo, Go.IntWalk.u8_quo, Go.IntWalk.rem_in, hk,  g3, gs, gr, n1, n2]
    refine IWp.cond ?_
    simp (disch := omega) [go_sem, -getElem?_pos, -List.map_take, -List.map_drop, List.getElem?_cons_zero, List.getElem?_cons_succ, Go.IntWalk.iteOmega, Go.IntWalk.toNatUp, Go.IntWalk.i64_in, Go.IntWalk.u8_in, Go.IntWalk.i64_quo, Go.IntWalk.u8_quo, Go.IntWalk.rem_in, hk,  g3, gs, gr, n1, n2]
    refine IWp.run [9] ?_
    simp (disch := omega) [go_sem, -getElem?_pos, -List.map_take, -List.map_drop, List.getElem?_cons_zero, List.getElem?_cons_succ, Go.IntWalk.iteOmega, Go.IntWalk.toNatUp, Go.IntWalk.i64_in, Go.IntWalk.u8_in, Go.IntWalk.i64_quo, Go.IntWalk.u8_quo, Go.IntWalk.rem_in, hk,  g3, gs, gr, n1, n2]
    refine IWp.seq ?_
    refine IWp.run [8] ?_
    simp (disch := omega) [go_sem, -getElem?_pos, -List.map_take, -List.map_drop, List.getElem?_cons_zero, List.getElem?_cons_succ, Go.IntWalk.iteOmega, Go.IntWalk.toNatUp, Go.IntWalk.i64_in, Go.IntWalk.u8_in, Go.IntWalk.i64_quo, Go.IntWalk.u8_quo, Go.IntWalk.rem_in, hk,  g3, gs, gr, n1, n2]
    refine ICalls.then (same_own _ sb rb ⟨[⟨-100, 300⟩, ⟨0, 250⟩, ⟨-2147483648, 2147483647⟩], rules, table, b0, b1, b2, drain, n', off, brk, log⟩ (hS' _ _ _ _ _ _ _ _ _ (by simp)) [] (by simp [get_set, n1, n2, gs, Sig.val, Sig.cells, Value.cells]) (by simp [get_set, n1, n2, n3, gr])) ?_
    simp [go_sem]
    refine IWp.ret ?_
    simp [go_sem, -getElem?_pos, -List.map_take, -List.map_drop, List.getElem?_cons_zero, List.getElem?_cons_succ, Go.IntWalk.iteOmega, Go.IntWalk.toNatUp, Try.results12]
  · skip
    refine IWp.seq ?_
    refine IWp.seq ?_
    refine IWp.run [1, 2, 9, 24] ?_
    simp (disch := omega) [go_sem, -getElem?_pos, -List.map_take, -List.map_drop, List.getElem?_cons_zero, List.getElem?_cons_succ, Go.IntWalk.iteOmega, Go.IntWalk.toNatUp, Go.IntWalk.i64_in, Go.IntWalk.u8_in, Go.IntWalk.i64_quo, Go.IntWalk.u8_quo, Go.IntWalk.rem_in, hk,  g3, gs, gr, n1, n2]
    refine IWp.block ?_
    refine IWp.seq ?_
    refine IWp.run [1, 2, 9, 24, 33] ?_
    simp (disch := omega) [go_sem, -getElem?_pos, -List.map_take, -List.map_drop, List.getElem?_cons_zero, List.getElem?_cons_succ, Go.IntWalk.iteOmega, Go.IntWalk.toNatUp, Go.IntWalk.i64_in, Go.IntWalk.u8_in, Go.IntWalk.i64_quo, Go.IntWalk.u8_quo, Go.IntWalk.rem_in, hk,  g3, gs, gr, n1, n2]
    refine IWp.cond ?_
    simp (disch := omega) [go_sem, -getElem?_pos, -List.map_take, -List.map_drop, List.getElem?_cons_zero, List.getElem?_cons_succ, Go.IntWalk.iteOmega, Go.IntWalk.toNatUp, Go.IntWalk.i64_in, Go.IntWalk.u8_in, Go.IntWalk.i64_quo, Go.IntWalk.u8_quo, Go.IntWalk.rem_in, hk,  g3, gs, gr, n1, n2]
    refine IWp.seq ?_
    refine IWp.run [1, 2, 9, 24, 42] ?_
    simp (disch := omega) [go_sem, -getElem?_pos, -List.map_take, -List.map_drop, List.getElem?_cons_zero, List.getElem?_cons_succ, Go.IntWalk.iteOmega, Go.IntWalk.toNatUp, Go.IntWalk.i64_in, Go.IntWalk.u8_in, Go.IntWalk.i64_quo, Go.IntWalk.u8_quo, Go.IntWalk.rem_in, hk,  g3, gs, gr, n1, n2]
    refine IWp.cond ?_
    simp (disch := omega) [go_sem, -getElem?_pos, -List.map_take, -List.map_drop, List.getElem?_cons_zero, List.getElem?_cons_succ, Go.IntWalk.iteOmega, Go.IntWalk.toNatUp, Go.IntWalk.i64_in, Go.IntWalk.u8_in, Go.IntWalk.i64_quo, Go.IntWalk.u8_quo, Go.IntWalk.rem_in, hk,  g3, gs, gr, n1, n2]
    refine IWp.seq ?_
    refine IWp.run [1, 2, 9, 24, 52] ?_
    simp (disch := omega) [go_sem, -getElem?_pos, -List.map_take, -List.map_drop, List.getElem?_cons_zero, List.getElem?_cons_succ, Go.IntWalk.iteOmega, Go.IntWalk.toNatUp, Go.IntWalk.i64_in, Go.IntWalk.u8_in, Go.IntWalk.i64_quo, Go.IntWalk.u8_quo, Go.IntWalk.rem_in, hk,  g3, gs, gr, n1, n2]
    refine IWp.cond ?_
    simp (disch := omega) [go_sem, -getElem?_pos, -List.map_take, -List.map_drop, List.getElem?_cons_zero, List.getElem?_cons_succ, Go.IntWalk.iteOmega, Go.IntWalk.toNatUp, Go.IntWalk.i64_in, Go.IntWalk.u8_in, Go.IntWalk.i64_quo, Go.IntWalk.u8_quo, Go.IntWalk.rem_in, hk,  g3, gs, gr, n1, n2]
    refine IWp.seq ?_
    refine IWp.run [1, 2, 9, 24, 56] ?_
    simp (disch := omega) [go_sem, -getElem?_pos, -List.map_take, -List.map_drop, List.getElem?_cons_zero, List.getElem?_cons_succ, Go.IntWalk.iteOmega, Go.IntWalk.toNatUp, Go.IntWalk.i64_in, Go.IntWalk.u8_in, Go.IntWalk.i64_quo, Go.IntWalk.u8_quo, Go.IntWalk.rem_in, hk,  g3, gs, gr, n1, n2]
    refine IWp.cond ?_
    simp (disch := omega) [go_sem, -getElem?_pos, -List.map_take, -List.map_drop, List.getElem?_cons_zero, List.getElem?_cons_succ, Go.IntWalk.iteOmega, Go.IntWalk.toNatUp, Go.IntWalk.i64_in, Go.IntWalk.u8_in, Go.IntWalk.i64_quo, Go.IntWalk.u8_quo, Go.IntWalk.rem_in, hk,  g3, gs, gr, n1, n2]
    refine IWp.run [9] ?_
    simp (disch := omega) [go_sem, -getElem?_pos, -List.map_take, -List.map_drop, List.getElem?_cons_zero, List.getElem?_cons_succ, Go.IntWalk.iteOmega, Go.IntWalk.toNatUp, Go.IntWalk.i64_in, Go.IntWalk.u8_in, Go.IntWalk.i64_quo, Go.IntWalk.u8_quo, Go.IntWalk.rem_in, hk,  g3, gs, gr, n1, n2]
    refine IWp.seq ?_
    refine IWp.run [8] ?_
    simp (disch := omega) [go_sem, -getElem?_pos, -List.map_take, -List.map_drop, List.getElem?_cons_zero, List.getElem?_cons_succ, Go.IntWalk.iteOmega, Go.IntWalk.toNatUp, Go.IntWalk.i64_in, Go.IntWalk.u8_in, Go.IntWalk.i64_quo, Go.IntWalk.u8_quo, Go.IntWalk.rem_in, hk,  g3, gs, gr, n1, n2]
    refine ICalls.then (same_own _ sb rb ⟨[⟨-100, 300⟩, ⟨0, 250⟩, ⟨-2147483648, 2147483647⟩], rules, table, b0, b1, b2, drain, pause, n', brk, log⟩ (hS' _ _ _ _ _ _ _ _ _ (by simp)) [] (by simp [get_set, n1, n2, gs, Sig.val, Sig.cells, Value.cells]) (by simp [get_set, n1, n2, n3, gr])) ?_
    simp [go_sem]
    refine IWp.ret ?_
    simp [go_sem, -getElem?_pos, -List.map_take, -List.map_drop, List.getElem?_cons_zero, List.getElem?_cons_succ, Go.IntWalk.iteOmega, Go.IntWalk.toNatUp, Try.results12]
  · skip
    refine IWp.seq ?_
    refine IWp.seq ?_
    refine IWp.run [1, 2, 9, 24] ?_
    simp (disch := omega) [go_sem, -getElem?_pos, -List.map_take, -List.map_drop, List.getElem?_cons_zero, List.getElem?_cons_succ, Go.IntWalk.iteOmega, Go.IntWalk.toNatUp, Go.IntWalk.i64_in, Go.IntWalk.u8_in, Go.IntWalk.i64_quo, Go.IntWalk.u8_quo, Go.IntWalk.rem_in, hk,  g3, gs, gr, n1, n2]
    refine IWp.block ?_
    refine IWp.seq ?_
    refine IWp.run [1, 2, 9, 24, 33] ?_
    simp (disch := omega) [go_sem, -getElem?_pos, -List.map_take, -List.map_drop, List.getElem?_cons_zero, List.getElem?_cons_succ, Go.IntWalk.iteOmega, Go.IntWalk.toNatUp, Go.IntWalk.i64_in, Go.IntWalk.u8_in, Go.IntWalk.i64_quo, Go.IntWalk.u8_quo, Go.IntWalk.rem_in, hk,  g3, gs, gr, n1, n2]
    refine IWp.cond ?_
    simp (disch := omega) [go_sem, -getElem?_pos, -List.map_take, -List.map_drop, List.getElem?_cons_zero, List.getElem?_cons_succ, Go.IntWalk.iteOmega, Go.IntWalk.toNatUp, Go.IntWalk.i64_in, Go.IntWalk.u8_in, Go.IntWalk.i64_quo, Go.IntWalk.u8_quo, Go.IntWalk.rem_in, hk,  g3, gs, gr, n1, n2]
    refine IWp.seq ?_
    refine IWp.run [1, 2, 9, 24, 42] ?_
    simp (disch := omega) [go_sem, -getElem?_pos, -List.map_take, -List.map_drop, List.getElem?_cons_zero, List.getElem?_cons_succ, Go.IntWalk.iteOmega, Go.IntWalk.toNatUp, Go.IntWalk.i64_in, Go.IntWalk.u8_in, Go.IntWalk.i64_quo, Go.IntWalk.u8_quo, Go.IntWalk.rem_in, hk,  g3, gs, gr, n1, n2]
    refine IWp.cond ?_
    simp (disch := omega) [go_sem, -getElem?_pos, -List.map_take, -List.map_drop, List.getElem?_cons_zero, List.getElem?_cons_succ, Go.IntWalk.iteOmega, Go.IntWalk.toNatUp, Go.IntWalk.i64_in, Go.IntWalk.u8_in, Go.IntWalk.i64_quo, Go.IntWalk.u8_quo, Go.IntWalk.rem_in, hk,  g3, gs, gr, n1, n2]
    refine IWp.seq ?_
    refine IWp.run [1, 2, 9, 24, 52] ?_
    simp (disch := omega) [go_sem, -getElem?_pos, -List.map_take, -List.map_drop, List.getElem?_cons_zero, List.getElem?_cons_succ, Go.IntWalk.iteOmega, Go.IntWalk.toNatUp, Go.IntWalk.i64_in, Go.IntWalk.u8_in, Go.IntWalk.i64_quo, Go.IntWalk.u8_quo, Go.IntWalk.rem_in, hk,  g3, gs, gr, n1, n2]
    refine IWp.cond ?_
    simp (disch := omega) [go_sem, -getElem?_pos, -List.map_take, -List.map_drop, List.getElem?_cons_zero, List.getElem?_cons_succ, Go.IntWalk.iteOmega, Go.IntWalk.toNatUp, Go.IntWalk.i64_in, Go.IntWalk.u8_in, Go.IntWalk.i64_quo, Go.IntWalk.u8_quo, Go.IntWalk.rem_in, hk,  g3, gs, gr, n1, n2]
    refine IWp.seq ?_
    refine IWp.run [1, 2, 9, 24, 56] ?_
    simp (disch := omega) [go_sem, -getElem?_pos, -List.map_take, -List.map_drop, List.getElem?_cons_zero, List.getElem?_cons_succ, Go.IntWalk.iteOmega, Go.IntWalk.toNatUp, Go.IntWalk.i64_in, Go.IntWalk.u8_in, Go.IntWalk.i64_quo, Go.IntWalk.u8_quo, Go.IntWalk.rem_in, hk,  g3, gs, gr, n1, n2]
    refine IWp.cond ?_
    simp (disch := omega) [go_sem, -getElem?_pos, -List.map_take, -List.map_drop, List.getElem?_cons_zero, List.getElem?_cons_succ, Go.IntWalk.iteOmega, Go.IntWalk.toNatUp, Go.IntWalk.i64_in, Go.IntWalk.u8_in, Go.IntWalk.i64_quo, Go.IntWalk.u8_quo, Go.IntWalk.rem_in, hk,  g3, gs, gr, n1, n2]
    refine IWp.seq ?_
    refine IWp.run [1, 2, 9, 24, 60] ?_
    simp (disch := omega) [go_sem, -getElem?_pos, -List.map_take, -List.map_drop, List.getElem?_cons_zero, List.getElem?_cons_succ, Go.IntWalk.iteOmega, Go.IntWalk.toNatUp, Go.IntWalk.i64_in, Go.IntWalk.u8_in, Go.IntWalk.i64_quo, Go.IntWalk.u8_quo, Go.IntWalk.rem_in, hk,  g3, gs, gr, n1, n2]
    refine IWp.cond ?_
    simp (disch := omega) [go_sem, -getElem?_pos, -List.map_take, -List.map_drop, List.getElem?_cons_zero, List.getElem?_cons_succ, Go.IntWalk.iteOmega, Go.IntWalk.toNatUp, Go.IntWalk.i64_in, Go.IntWalk.u8_in, Go.IntWalk.i64_quo, Go.IntWalk.u8_quo, Go.IntWalk.rem_in, hk,  g3, gs, gr, n1, n2]
    refine IWp.run [9] ?_
    simp (disch := omega) [go_sem, -getElem?_pos, -List.map_take, -List.map_drop, List.getElem?_cons_zero, List.getElem?_cons_succ, Go.IntWalk.iteOmega, Go.IntWalk.toNatUp, Go.IntWalk.i64_in, Go.IntWalk.u8_in, Go.IntWalk.i64_quo, Go.IntWalk.u8_quo, Go.IntWalk.rem_in, hk,  g3, gs, gr, n1, n2]
    refine IWp.seq ?_
    refine IWp.run [8] ?_
    simp (disch := omega) [go_sem, -getElem?_pos, -List.map_take, -List.map_drop, List.getElem?_cons_zero, List.getElem?_cons_succ, Go.IntWalk.iteOmega, Go.IntWalk.toNatUp, Go.IntWalk.i64_in, Go.IntWalk.u8_in, Go.IntWalk.i64_quo, Go.IntWalk.u8_quo, Go.IntWalk.rem_in, hk,  g3, gs, gr, n1, n2]
    refine ICalls.then (same_own _ sb rb ⟨[⟨-100, 300⟩, ⟨0, 250⟩, ⟨-2147483648, 2147483647⟩], rules, table, b0, b1, b2, drain, pause, off, brk, n'⟩ (hS' _ _ _ _ _ _ _ _ _ (by simp)) [] (by simp [get_set, n1, n2, gs, Sig.val, Sig.cells, Value.cells]) (by simp [get_set, n1, n2, n3, gr])) ?_
    simp [go_sem]
    refine IWp.ret ?_
    simp [go_sem, -getElem?_pos, -List.map_take, -List.map_drop, List.getElem?_cons_zero, List.getElem?_cons_succ, Go.IntWalk.iteOmega, Go.IntWalk.toNatUp, Try.results12]
  · skip
    rcases hj3 with hj | hj | hj
    · skip
      refine IWp.seq ?_
      refine IWp.seq ?_
      refine IWp.run [1, 2, 9, 24] ?_
      simp (disch := omega) [go_sem, -getElem?_pos, -List.map_take, -List.map_drop, List.getElem?_cons_zero, List.getElem?_cons_succ, Go.IntWalk.iteOmega, Go.IntWalk.toNatUp, Go.IntWalk.i64_in, Go.IntWalk.u8_in, Go.IntWalk.i64_quo, Go.IntWalk.u8_quo, Go.IntWalk.rem_in, hk, hj, g3, gs, gr, n1, n2]
      refine IWp.block ?_
      refine IWp.seq ?_
      refine IWp.run [1, 2, 9, 24, 33] ?_
      simp (disch := omega) [go_sem, -getElem?_pos, -List.map_take, -List.map_drop, List.getElem?_cons_zero, List.getElem?_cons_succ, Go.IntWalk.iteOmega, Go.IntWalk.toNatUp, Go.IntWalk.i64_in, Go.IntWalk.u8_in, Go.IntWalk.i64_quo, Go.IntWalk.u8_quo, Go.IntWalk.rem_in, hk, hj, g3, gs, gr, n1, n2]
      refine IWp.cond ?_
      simp (disch := omega) [go_sem, -getElem?_pos, -List.map_take, -List.map_drop, List.getElem?_cons_zero, List.getElem?_cons_succ, Go.IntWalk.iteOmega, Go.IntWalk.toNatUp, Go.IntWalk.i64_in, Go.IntWalk.u8_in, Go.IntWalk.i64_quo, Go.IntWalk.u8_quo, Go.IntWalk.rem_in, hk, hj, g3, gs, gr, n1, n2]
      refine IWp.seq ?_
      refine IWp.run [1, 2, 9, 24, 42] ?_
      simp (disch := omega) [go_sem, -getElem?_pos, -List.map_take, -List.map_drop, List.getElem?_cons_zero, List.getElem?_cons_succ, Go.IntWalk.iteOmega, Go.IntWalk.toNatUp, Go.IntWalk.i64_in, Go.IntWalk.u8_in, Go.IntWalk.i64_quo, Go.IntWalk.u8_quo, Go.IntWalk.rem_in, hk, hj, g3, gs, gr, n1, n2]
      refine IWp.cond ?_
      simp (disch := omega) [go_sem, -getElem?_pos, -List.map_take, -List.map_drop, List.getElem?_cons_zero, List.getElem?_cons_succ, Go.IntWalk.iteOmega, Go.IntWalk.toNatUp, Go.IntWalk.i64_in, Go.IntWalk.u8_in, Go.IntWalk.i64_quo, Go.IntWalk.u8_quo, Go.IntWalk.rem_in, hk, hj, g3, gs, gr, n1, n2]
      refine IWp.seq ?_
      refine IWp.run [1, 2, 9, 24, 52] ?_
      simp (disch := omega) [go_sem, -getElem?_pos, -List.map_take, -List.map_drop, List.getElem?_cons_zero, List.getElem?_cons_succ, Go.IntWalk.iteOmega, Go.IntWalk.toNatUp, Go.IntWalk.i64_in, Go.IntWalk.u8_in, Go.IntWalk.i64_quo, Go.IntWalk.u8_quo, Go.IntWalk.rem_in, hk, hj, g3, gs, gr, n1, n2]
      refine IWp.cond ?_
      simp (disch := omega) [go_sem, -getElem?_pos, -List.map_take, -List.map_drop, List.getElem?_cons_zero, List.getElem?_cons_succ, Go.IntWalk.iteOmega, Go.IntWalk.toNatUp, Go.IntWalk.i64_in, Go.IntWalk.u8_in, Go.IntWalk.i64_quo, Go.IntWalk.u8_quo, Go.IntWalk.rem_in, hk, hj, g3, gs, gr, n1, n2]
      refine IWp.seq ?_
      refine IWp.run [1, 2, 9, 24, 56] ?_
      simp (disch := omega) [go_sem, -getElem?_pos, -List.map_take, -List.map_drop, List.getElem?_cons_zero, List.getElem?_cons_succ, Go.IntWalk.iteOmega, Go.IntWalk.toNatUp, Go.IntWalk.i64_in, Go.IntWalk.u8_in, Go.IntWalk.i64_quo, Go.IntWalk.u8_quo, Go.IntWalk.rem_in, hk, hj, g3, gs, gr, n1, n2]
      refine IWp.cond ?_
      simp (disch := omega) [go_sem, -getElem?_pos, -List.map_take, -List.map_drop, List.getElem?_cons_zero, List.getElem?_cons_succ, Go.IntWalk.iteOmega, Go.IntWalk.toNatUp, Go.IntWalk.i64_in, Go.IntWalk.u8_in, Go.IntWalk.i64_quo, Go.IntWalk.u8_quo, Go.IntWalk.rem_in, hk, hj, g3, gs, gr, n1, n2]
      refine IWp.seq ?_
      refine IWp.run [1, 2, 9, 24, 60] ?_
      simp (disch := omega) [go_sem, -getElem?_pos, -List.map_take, -List.map_drop, List.getElem?_cons_zero, List.getElem?_cons_succ, Go.IntWalk.iteOmega, Go.IntWalk.toNatUp, Go.IntWalk.i64_in, Go.IntWalk.u8_in, Go.IntWalk.i64_quo, Go.IntWalk.u8_quo, Go.IntWalk.rem_in, hk, hj, g3, gs, gr, n1, n2]
      refine IWp.cond ?_
      simp (disch := omega) [go_sem, -getElem?_pos, -List.map_take, -List.map_drop, List.getElem?_cons_zero, List.getElem?_cons_succ, Go.IntWalk.iteOmega, Go.IntWalk.toNatUp, Go.IntWalk.i64_in, Go.IntWalk.u8_in, Go.IntWalk.i64_quo, Go.IntWalk.u8_quo, Go.IntWalk.rem_in, hk, hj, g3, gs, gr, n1, n2]
      refine IWp.seq ?_
      refine IWp.run [1, 2, 9, 24, 64] ?_
      simp (disch := omega) [go_sem, -getElem?_pos, -List.map_take, -List.map_drop, List.getElem?_cons_zero, List.getElem?_cons_succ, Go.IntWalk.iteOmega, Go.IntWalk.toNatUp, Go.IntWalk.i64_in, Go.IntWalk.u8_in, Go.IntWalk.i64_quo, Go.IntWalk.u8_quo, Go.IntWalk.rem_in, hk, hj, g3, gs, gr, n1, n2]
      refine IWp.cond ?_
      simp (disch := omega) [go_sem, -getElem?_pos, -List.map_take, -List.map_drop, List.getElem?_cons_zero, List.getElem?_cons_succ, Go.IntWalk.iteOmega, Go.IntWalk.toNatUp, Go.IntWalk.i64_in, Go.IntWalk.u8_in, Go.IntWalk.i64_quo, Go.IntWalk.u8_quo, Go.IntWalk.rem_in, hk, hj, g3, gs, gr, n1, n2]
      refine IWp.run [9] ?_
      simp (disch := omega) [go_sem, -getElem?_pos, -List.map_take, -List.map_drop, List.getElem?_cons_zero, List.getElem?_cons_succ, Go.IntWalk.iteOmega, Go.IntWalk.toNatUp, Go.IntWalk.i64_in, Go.IntWalk.u8_in, Go.IntWalk.i64_quo, Go.IntWalk.u8_quo, Go.IntWalk.rem_in, hk, hj, g3, gs, gr, n1, n2]
      refine IWp.seq ?_
      refine IWp.run [8] ?_
      simp (disch := omega) [go_sem, -getElem?_pos, -List.map_take, -List.map_drop, List.getElem?_cons_zero, List.getElem?_cons_succ, Go.IntWalk.iteOmega, Go.IntWalk.toNatUp, Go.IntWalk.i64_in, Go.IntWalk.u8_in, Go.IntWalk.i64_quo, Go.IntWalk.u8_quo, Go.IntWalk.rem_in, hk, hj, g3, gs, gr, n1, n2]
      refine ICalls.then (same_own _ sb rb ⟨[⟨n', 300⟩, ⟨0, 250⟩, ⟨-2147483648, 2147483647⟩], rules, table, b0, b1, b2, drain, pause, off, brk, log⟩ (hS' _ _ _ _ _ _ _ _ _ (by simp)) [] (by simp [get_set, n1, n2, gs, Sig.val, Sig.cells, Value.cells]) (by simp [get_set, n1, n2, n3, gr])) ?_
      simp [go_sem]
      refine IWp.ret ?_
      simp [go_sem, -getElem?_pos, -List.map_take, -List.map_drop, List.getElem?_cons_zero, List.getElem?_cons_succ, Go.IntWalk.iteOmega, Go.IntWalk.toNatUp, Try.results12]
    · skip
      refine IWp.seq ?_
      refine IWp.seq ?_
      refine IWp.run [1, 2, 9, 24] ?_
      simp (disch := omega) [go_sem, -getElem?_pos, -List.map_take, -List.map_drop, List.getElem?_cons_zero, List.getElem?_cons_succ, Go.IntWalk.iteOmega, Go.IntWalk.toNatUp, Go.IntWalk.i64_in, Go.IntWalk.u8_in, Go.IntWalk.i64_quo, Go.IntWalk.u8_quo, Go.IntWalk.rem_in, hk, hj, g3, gs, gr, n1, n2]
      refine IWp.block ?_
      refine IWp.seq ?_
      refine IWp.run [1, 2, 9, 24, 33] ?_
      simp (disch := omega) [go_sem, -getElem?_pos, -List.map_take, -List.map_drop, List.getElem?_cons_zero, List.getElem?_cons_succ, Go.IntWalk.iteOmega, Go.IntWalk.toNatUp, Go.IntWalk.i64_in, Go.IntWalk.u8_in, Go.IntWalk.i64_quo, Go.IntWalk.u8_quo, Go.IntWalk.rem_in, hk, hj, g3, gs, gr, n1, n2]
      refine IWp.cond ?_
      simp (disch := omega) [go_sem, -getElem?_pos, -List.map_take, -List.map_drop, List.getElem?_cons_zero, List.getElem?_cons_succ, Go.IntWalk.iteOmega, Go.IntWalk.toNatUp, Go.IntWalk.i64_in, Go.IntWalk.u8_in, Go.IntWalk.i64_quo, Go.IntWalk.u8_quo, Go.IntWalk.rem_in, hk, hj, g3, gs, gr, n1, n2]
      refine IWp.seq ?_
      refine IWp.run [1, 2, 9, 24, 42] ?_
      simp (disch := omega) [go_sem, -getElem?_pos, -List.map_take, -List.map_drop, List.getElem?_cons_zero, List.getElem?_cons_succ, Go.IntWalk.iteOmega, Go.IntWalk.toNatUp, Go.IntWalk.i64_in, Go.IntWalk.u8_in, Go.IntWalk.i64_quo, Go.IntWalk.u8_quo, Go.IntWalk.rem_in, hk, hj, g3, gs, gr, n1, n2]
      refine IWp.cond ?_
      simp (disch := omega) [go_sem, -getElem?_pos, -List.map_take, -List.map_drop, List.getElem?_cons_zero, List.getElem?_cons_succ, Go.IntWalk.iteOmega, Go.IntWalk.toNatUp, Go.IntWalk.i64_in, Go.IntWalk.u8_in, Go.IntWalk.i64_quo, Go.IntWalk.u8_quo, Go.IntWalk.rem_in, hk, hj, g3, gs, gr, n1, n2]
      refine IWp.seq ?_
      refine IWp.run [1, 2, 9, 24, 52] ?_
      simp (disch := omega) [go_sem, -getElem?_pos, -List.map_take, -List.map_drop, List.getElem?_cons_zero, List.getElem?_cons_succ, Go.IntWalk.iteOmega, Go.IntWalk.toNatUp, Go.IntWalk.i64_in, Go.IntWalk.u8_in, Go.IntWalk.i64_quo, Go.IntWalk.u8_quo, Go.IntWalk.rem_in, hk, hj, g3, gs, gr, n1, n2]
      refine IWp.cond ?_
      simp (disch := omega) [go_sem, -getElem?_pos, -List.map_take, -List.map_drop, List.getElem?_cons_zero, List.getElem?_cons_succ, Go.IntWalk.iteOmega, Go.IntWalk.toNatUp, Go.IntWalk.i64_in, Go.IntWalk.u8_in, Go.IntWalk.i64_quo, Go.IntWalk.u8_quo, Go.IntWalk.rem_in, hk, hj, g3, gs, gr, n1, n2]
      refine IWp.seq ?_
      refine IWp.run [1, 2, 9, 24, 56] ?_
      simp (disch := omega) [go_sem, -getElem?_pos, -List.map_take, -List.map_drop, List.getElem?_cons_zero, List.getElem?_cons_succ, Go.IntWalk.iteOmega, Go.IntWalk.toNatUp, Go.IntWalk.i64_in, Go.IntWalk.u8_in, Go.IntWalk.i64_quo, Go.IntWalk.u8_quo, Go.IntWalk.rem_in, hk, hj, g3, gs, gr, n1, n2]
      refine IWp.cond ?_
      simp (disch := omega) [go_sem, -getElem?_pos, -List.map_take, -List.map_drop, List.getElem?_cons_zero, List.getElem?_cons_succ, Go.IntWalk.iteOmega, Go.IntWalk.toNatUp, Go.IntWalk.i64_in, Go.IntWalk.u8_in, Go.IntWalk.i64_quo, Go.IntWalk.u8_quo, Go.IntWalk.rem_in, hk, hj, g3, gs, gr, n1, n2]
      refine IWp.seq ?_
      refine IWp.run [1, 2, 9, 24, 60] ?_
      simp (disch := omega) [go_sem, -getElem?_pos, -List.map_take, -List.map_drop, List.getElem?_cons_zero, List.getElem?_cons_succ, Go.IntWalk.iteOmega, Go.IntWalk.toNatUp, Go.IntWalk.i64_in, Go.IntWalk.u8_in, Go.IntWalk.i64_quo, Go.IntWalk.u8_quo, Go.IntWalk.rem_in, hk, hj, g3, gs, gr, n1, n2]
      refine IWp.cond ?_
      simp (disch := omega) [go_sem, -getElem?_pos, -List.map_take, -List.map_drop, List.getElem?_cons_zero, List.getElem?_cons_succ, Go.IntWalk.iteOmega, Go.IntWalk.toNatUp, Go.IntWalk.i64_in, Go.IntWalk.u8_in, Go.IntWalk.i64_quo, Go.IntWalk.u8_quo, Go.IntWalk.rem_in, hk, hj, g3, gs, gr, n1, n2]
      refine IWp.seq ?_
      refine IWp.run [1, 2, 9, 24, 64] ?_
      simp (disch := omega) [go_sem, -getElem?_pos, -List.map_take, -List.map_drop, List.getElem?_cons_zero, List.getElem?_cons_succ, Go.IntWalk.iteOmega, Go.IntWalk.toNatUp, Go.IntWalk.i64_in, Go.IntWalk.u8_in, Go.IntWalk.i64_quo, Go.IntWalk.u8_quo, Go.IntWalk.rem_in, hk, hj, g3, gs, gr, n1, n2]
      refine IWp.cond ?_
      simp (disch := omega) [go_sem, -getElem?_pos, -List.map_take, -List.map_drop, List.getElem?_cons_zero, List.getElem?_cons_succ, Go.IntWalk.iteOmega, Go.IntWalk.toNatUp, Go.IntWalk.i64_in, Go.IntWalk.u8_in, Go.IntWalk.i64_quo, Go.IntWalk.u8_quo, Go.IntWalk.rem_in, hk, hj, g3, gs, gr, n1, n2]
      refine IWp.run [9] ?_
      simp (disch := omega) [go_sem, -getElem?_pos, -List.map_take, -List.map_drop, List.getElem?_cons_zero, List.getElem?_cons_succ, Go.IntWalk.iteOmega, Go.IntWalk.toNatUp, Go.IntWalk.i64_in, Go.IntWalk.u8_in, Go.IntWalk.i64_quo, Go.IntWalk.u8_quo, Go.IntWalk.rem_in, hk, hj, g3, gs, gr, n1, n2]
      refine IWp.seq ?_
      refine IWp.run [8] ?_
      simp (disch := omega) [go_sem, -getElem?_pos, -List.map_take, -List.map_drop, List.getElem?_cons_zero, List.getElem?_cons_succ, Go.IntWalk.iteOmega, Go.IntWalk.toNatUp, Go.IntWalk.i64_in, Go.IntWalk.u8_in, Go.IntWalk.i64_quo, Go.IntWalk.u8_quo, Go.IntWalk.rem_in, hk, hj, g3, gs, gr, n1, n2]
      refine ICalls.then (same_own _ sb rb ⟨[⟨-100, 300⟩, ⟨n', 250⟩, ⟨-2147483648, 2147483647⟩], rules, table, b0, b1, b2, drain, pause, off, brk, log⟩ (hS' _ _ _ _ _ _ _ _ _ (by simp)) [] (by simp [get_set, n1, n2, gs, Sig.val, Sig.cells, Value.cells]) (by simp [get_set, n1, n2, n3, gr])) ?_
      simp [go_sem]
      refine IWp.ret ?_
      simp [go_sem, -getElem?_pos, -List.map_take, -List.map_drop, List.getElem?_cons_zero, List.getElem?_cons_succ, Go.IntWalk.iteOmega, Go.IntWalk.toNatUp, Try.results12]
    · skip
      refine IWp.seq ?_
      refine IWp.seq ?_
      refine IWp.run [1, 2, 9, 24] ?_
      simp (disch := omega) [go_sem, -getElem?_pos, -List.map_take, -List.map_drop, List.getElem?_cons_zero, List.getElem?_cons_succ, Go.IntWalk.iteOmega, Go.IntWalk.toNatUp, Go.IntWalk.i64_in, Go.IntWalk.u8_in, Go.IntWalk.i64_quo, Go.IntWalk.u8_quo, Go.IntWalk.rem_in, hk, hj, g3, gs, gr, n1, n2]
      refine IWp.block ?_
      refine IWp.seq ?_
      refine IWp.run [1, 2, 9, 24, 33] ?_
      simp (disch := omega) [go_sem, -getElem?_pos, -List.map_take, -List.map_drop, List.getElem?_cons_zero, List.getElem?_cons_succ, Go.IntWalk.iteOmega, Go.IntWalk.toNatUp, Go.IntWalk.i64_in, Go.IntWalk.u8_in, Go.IntWalk.i64_quo, Go.IntWalk.u8_quo, Go.IntWalk.rem_in, hk, hj, g3, gs, gr, n1, n2]
      refine IWp.cond ?_
      simp (disch := omega) [go_sem, -getElem?_pos, -List.map_take, -List.map_drop, List.getElem?_cons_zero, List.getElem?_cons_succ, Go.IntWalk.iteOmega, Go.IntWalk.toNatUp, Go.IntWalk.i64_in, Go.IntWalk.u8_in, Go.IntWalk.i64_quo, Go.IntWalk.u8_quo, Go.IntWalk.rem_in, hk, hj, g3, gs, gr, n1, n2]
      refine IWp.seq ?_
      refine IWp.run [1, 2, 9, 24, 42] ?_
      simp (disch := omega) [go_sem, -getElem?_pos, -List.map_take, -List.map_drop, List.getElem?_cons_zero, List.getElem?_cons_succ, Go.IntWalk.iteOmega, Go.IntWalk.toNatUp, Go.IntWalk.i64_in, Go.IntWalk.u8_in, Go.IntWalk.i64_quo, Go.IntWalk.u8_quo, Go.IntWalk.rem_in, hk, hj, g3, gs, gr, n1, n2]
      refine IWp.cond ?_
      simp (disch := omega) [go_sem, -getElem?_pos, -List.map_take, -List.map_drop, List.getElem?_cons_zero, List.getElem?_cons_succ, Go.IntWalk.iteOmega, Go.IntWalk.toNatUp, Go.IntWalk.i64_in, Go.IntWalk.u8_in, Go.IntWalk.i64_quo, Go.IntWalk.u8_quo, Go.IntWalk.rem_in, hk, hj, g3, gs, gr, n1, n2]
      refine IWp.seq ?_
      refine IWp.run [1, 2, 9, 24, 52] ?_
      simp (disch := omega) [go_sem, -getElem?_pos, -List.map_take, -List.map_drop, List.getElem?_cons_zero, List.getElem?_cons_succ, Go.IntWalk.iteOmega, Go.IntWalk.toNatUp, Go.IntWalk.i64_in, Go.IntWalk.u8_in, Go.IntWalk.i64_quo, Go.IntWalk.u8_quo, Go.IntWalk.rem_in, hk, hj, g3, gs, gr, n1, n2]
      refine IWp.cond ?_
      simp (disch := omega) [go_sem, -getElem?_pos, -List.map_take, -List.map_drop, List.getElem?_cons_zero, List.getElem?_cons_succ, Go.IntWalk.iteOmega, Go.IntWalk.toNatUp, Go.IntWalk.i64_in, Go.IntWalk.u8_in, Go.IntWalk.i64_quo, Go.IntWalk.u8_quo, Go.IntWalk.rem_in, hk, hj, g3, gs, gr, n1, n2]
      refine IWp.seq ?_
      refine IWp.run [1, 2, 9, 24, 56] ?_
      simp (disch := omega) [go_sem, -getElem?_pos, -List.map_take, -List.map_drop, List.getElem?_cons_zero, List.getElem?_cons_succ, Go.IntWalk.iteOmega, Go.IntWalk.toNatUp, Go.IntWalk.i64_in, Go.IntWalk.u8_in, Go.IntWalk.i64_quo, Go.IntWalk.u8_quo, Go.IntWalk.rem_in, hk, hj, g3, gs, gr, n1, n2]
      refine IWp.cond ?_
      simp (disch := omega) [go_sem, -getElem?_pos, -List.map_take, -List.map_drop, List.getElem?_cons_zero, List.getElem?_cons_succ, Go.IntWalk.iteOmega, Go.IntWalk.toNatUp, Go.IntWalk.i64_in, Go.IntWalk.u8_in, Go.IntWalk.i64_quo, Go.IntWalk.u8_quo, Go.IntWalk.rem_in, hk, hj, g3, gs, gr, n1, n2]
      refine IWp.seq ?_
      refine IWp.run [1, 2, 9, 24, 60] ?_
      simp (disch := omega) [go_sem, -getElem?_pos, -List.map_take, -List.map_drop, List.getElem?_cons_zero, List.getElem?_cons_succ, Go.IntWalk.iteOmega, Go.IntWalk.toNatUp, Go.IntWalk.i64_in, Go.IntWalk.u8_in, Go.IntWalk.i64_quo, Go.IntWalk.u8_quo, Go.IntWalk.rem_in, hk, hj, g3, gs, gr, n1, n2]
      refine IWp.cond ?_
      simp (disch := omega) [go_sem, -getElem?_pos, -List.map_take, -List.map_drop, List.getElem?_cons_zero, List.getElem?_cons_succ, Go.IntWalk.iteOmega, Go.IntWalk.toNatUp, Go.IntWalk.i64_in, Go.IntWalk.u8_in, Go.IntWalk.i64_quo, Go.IntWalk.u8_quo, Go.IntWalk.rem_in, hk, hj, g3, gs, gr, n1, n2]
      refine IWp.seq ?_
      refine IWp.run [1, 2, 9, 24, 64] ?_
      simp (disch := omega) [go_sem, -getElem?_pos, -List.map_take, -List.map_drop, List.getElem?_cons_zero, List.getElem?_cons_succ, Go.IntWalk.iteOmega, Go.IntWalk.toNatUp, Go.IntWalk.i64_in, Go.IntWalk.u8_in, Go.IntWalk.i64_quo, Go.IntWalk.u8_quo, Go.IntWalk.rem_in, hk, hj, g3, gs, gr, n1, n2]
      refine IWp.cond ?_
      simp (disch := omega) [go_sem, -getElem?_pos, -List.map_take, -List.map_drop, List.getElem?_cons_zero, List.getElem?_cons_succ, Go.IntWalk.iteOmega, Go.IntWalk.toNatUp, Go.IntWalk.i64_in, Go.IntWalk.u8_in, Go.IntWalk.i64_quo, Go.IntWalk.u8_quo, Go.IntWalk.rem_in, hk, hj, g3, gs, gr, n1, n2]
      refine IWp.run [9] ?_
      simp (disch := omega) [go_sem, -getElem?_pos, -List.map_take, -List.map_drop, List.getElem?_cons_zero, List.getElem?_cons_succ, Go.IntWalk.iteOmega, Go.IntWalk.toNatUp, Go.IntWalk.i64_in, Go.IntWalk.u8_in, Go.IntWalk.i64_quo, Go.IntWalk.u8_quo, Go.IntWalk.rem_in, hk, hj, g3, gs, gr, n1, n2]
      refine IWp.seq ?_
      refine IWp.run [8] ?_
      simp (disch := omega) [go_sem, -getElem?_pos, -List.map_take, -List.map_drop, List.getElem?_cons_zero, List.getElem?_cons_succ, Go.IntWalk.iteOmega, Go.IntWalk.toNatUp, Go.IntWalk.i64_in, Go.IntWalk.u8_in, Go.IntWalk.i64_quo, Go.IntWalk.u8_quo, Go.IntWalk.rem_in, hk, hj, g3, gs, gr, n1, n2]
      refine ICalls.then (same_own _ sb rb ⟨[⟨-100, 300⟩, ⟨0, 250⟩, ⟨n', 2147483647⟩], rules, table, b0, b1, b2, drain, pause, off, brk, log⟩ (hS' _ _ _ _ _ _ _ _ _ (by simp)) [] (by simp [get_set, n1, n2, gs, Sig.val, Sig.cells, Value.cells]) (by simp [get_set, n1, n2, n3, gr])) ?_
      simp [go_sem]
      refine IWp.ret ?_
      simp [go_sem, -getElem?_pos, -List.map_take, -List.map_drop, List.getElem?_cons_zero, List.getElem?_cons_succ, Go.IntWalk.iteOmega, Go.IntWalk.toNatUp, Try.results12]
  · skip
    rcases hj3 with hj | hj | hj
    · skip
      refine IWp.seq ?_
      refine IWp.seq ?_
      refine IWp.run [1, 2, 9, 24] ?_
      simp (disch := omega) [go_sem, -getElem?_pos, -List.map_take, -List.map_drop, List.getElem?_cons_zero, List.getElem?_cons_succ, Go.IntWalk.iteOmega, Go.IntWalk.toNatUp, Go.IntWalk.i64_in, Go.IntWalk.u8_in, Go.IntWalk.i64_quo, Go.IntWalk.u8_quo, Go.IntWalk.rem_in, hk, hj, g3, gs, gr, n1, n2]
      refine IWp.block ?_
      refine IWp.seq ?_
      refine IWp.run [1, 2, 9, 24, 33] ?_
      simp (disch := omega) [go_sem, -getElem?_pos, -List.map_take, -List.map_drop, List.getElem?_cons_zero, List.getElem?_cons_succ, Go.IntWalk.iteOmega, Go.IntWalk.toNatUp, Go.IntWalk.i64_in, Go.IntWalk.u8_in, Go.IntWalk.i64_quo, Go.IntWalk.u8_quo, Go.IntWalk.rem_in, hk, hj, g3, gs, gr, n1, n2]
      refine IWp.cond ?_
      simp (disch := omega) [go_sem, -getElem?_pos, -List.map_take, -List.map_drop, List.getElem?_cons_zero, List.getElem?_cons_succ, Go.IntWalk.iteOmega, Go.IntWalk.toNatUp, Go.IntWalk.i64_in, Go.IntWalk.u8_in, Go.IntWalk.i64_quo, Go.IntWalk.u8_quo, Go.IntWalk.rem_in, hk, hj, g3, gs, gr, n1, n2]
      refine IWp.seq ?_
      refine IWp.run [1, 2, 9, 24, 42] ?_
      simp (disch := omega) [go_sem, -getElem?_pos, -List.map_take, -List.map_drop, List.getElem?_cons_zero, List.getElem?_cons_succ, Go.IntWalk.iteOmega, Go.IntWalk.toNatUp, Go.IntWalk.i64_in, Go.IntWalk.u8_in, Go.IntWalk.i64_quo, Go.IntWalk.u8_quo, Go.IntWalk.rem_in, hk, hj, g3, gs, gr, n1, n2]
      refine IWp.cond ?_
      simp (disch := omega) [go_sem, -getElem?_pos, -List.map_take, -List.map_drop, List.getElem?_cons_zero, List.getElem?_cons_succ, Go.IntWalk.iteOmega, Go.IntWalk.toNatUp, Go.IntWalk.i64_in, Go.IntWalk.u8_in, Go.IntWalk.i64_quo, Go.IntWalk.u8_quo, Go.IntWalk.rem_in, hk, hj, g3, gs, gr, n1, n2]
      refine IWp.seq ?_
      refine IWp.run [1, 2, 9, 24, 52] ?_
      simp (disch := omega) [go_sem, -getElem?_pos, -List.map_take, -List.map_drop, List.getElem?_cons_zero, List.getElem?_cons_succ, Go.IntWalk.iteOmega, Go.IntWalk.toNatUp, Go.IntWalk.i64_in, Go.IntWalk.u8_in, Go.IntWalk.i64_quo, Go.IntWalk.u8_quo, Go.IntWalk.rem_in, hk, hj, g3, gs, gr, n1, n2]
      refine IWp.cond ?_
      simp (disch := omega) [go_sem, -getElem?_pos, -List.map_take, -List.map_drop, List.getElem?_cons_zero, List.getElem?_cons_succ, Go.IntWalk.iteOmega, Go.IntWalk.toNatUp, Go.IntWalk.i64_in, Go.IntWalk.u8_in, Go.IntWalk.i64_quo, Go.IntWalk.u8_quo, Go.IntWalk.rem_in, hk, hj, g3, gs, gr, n1, n2]
      refine IWp.seq ?_
      refine IWp.run [1, 2, 9, 24, 56] ?_
      simp (disch := omega) [go_sem, -getElem?_pos, -List.map_take, -List.map_drop, List.getElem?_cons_zero, List.getElem?_cons_succ, Go.IntWalk.iteOmega, Go.IntWalk.toNatUp, Go.IntWalk.i64_in, Go.IntWalk.u8_in, Go.IntWalk.i64_quo, Go.IntWalk.u8_quo, Go.IntWalk.rem_in, hk, hj, g3, gs, gr, n1, n2]
      refine IWp.cond ?_
      simp (disch := omega) [go_sem, -getElem?_pos, -List.map_take, -List.map_drop, List.getElem?_cons_zero, List.getElem?_cons_succ, Go.IntWalk.iteOmega, Go.IntWalk.toNatUp, Go.IntWalk.i64_in, Go.IntWalk.u8_in, Go.IntWalk.i64_quo, Go.IntWalk.u8_quo, Go.IntWalk.rem_in, hk, hj, g3, gs, gr, n1, n2]
      refine IWp.seq ?_
      refine IWp.run [1, 2, 9, 24, 60] ?_
      simp (disch := omega) [go_sem, -getElem?_pos, -List.map_take, -List.map_drop, List.getElem?_cons_zero, List.getElem?_cons_succ, Go.IntWalk.iteOmega, Go.IntWalk.toNatUp, Go.IntWalk.i64_in, Go.IntWalk.u8_in, Go.IntWalk.i64_quo, Go.IntWalk.u8_quo, Go.IntWalk.rem_in, hk, hj, g3, gs, gr, n1, n2]
      refine IWp.cond ?_
      simp (disch := omega) [go_sem, -getElem?_pos, -List.map_take, -List.map_drop, List.getElem?_cons_zero, List.getElem?_cons_succ, Go.IntWalk.iteOmega, Go.IntWalk.toNatUp, Go.IntWalk.i64_in, Go.IntWalk.u8_in, Go.IntWalk.i64_quo, Go.IntWalk.u8_quo, Go.IntWalk.rem_in, hk, hj, g3, gs, gr, n1, n2]
      refine IWp.seq ?_
      refine IWp.run [1, 2, 9, 24, 64] ?_
      simp (disch := omega) [go_sem, -getElem?_pos, -List.map_take, -List.map_drop, List.getElem?_cons_zero, List.getElem?_cons_succ, Go.IntWalk.iteOmega, Go.IntWalk.toNatUp, Go.IntWalk.i64_in, Go.IntWalk.u8_in, Go.IntWalk.i64_quo, Go.IntWalk.u8_quo, Go.IntWalk.rem_in, hk, hj, g3, gs, gr, n1, n2]
      refine IWp.cond ?_
      simp (disch := omega) [go_sem, -getElem?_pos, -List.map_take, -List.map_drop, List.getElem?_cons_zero, List.getElem?_cons_succ, Go.IntWalk.iteOmega, Go.IntWalk.toNatUp, Go.IntWalk.i64_in, Go.IntWalk.u8_in, Go.IntWalk.i64_quo, Go.IntWalk.u8_quo, Go.IntWalk.rem_in, hk, hj, g3, gs, gr, n1, n2]
      refine IWp.seq ?_
      refine IWp.run [1, 2, 9, 75] ?_
      simp (disch := omega) [go_sem, -getElem?_pos, -List.map_take, -List.map_drop, List.getElem?_cons_zero, List.getElem?_cons_succ, Go.IntWalk.iteOmega, Go.IntWalk.toNatUp, Go.IntWalk.i64_in, Go.IntWalk.u8_in, Go.IntWalk.i64_quo, Go.IntWalk.u8_quo, Go.IntWalk.rem_in, hk, hj, g3, gs, gr, n1, n2]
      refine IWp.cond ?_
      simp (disch := omega) [go_sem, -getElem?_pos, -List.map_take, -List.map_drop, List.getElem?_cons_zero, List.getElem?_cons_succ, Go.IntWalk.iteOmega, Go.IntWalk.toNatUp, Go.IntWalk.i64_in, Go.IntWalk.u8_in, Go.IntWalk.i64_quo, Go.IntWalk.u8_quo, Go.IntWalk.rem_in, hk, hj, g3, gs, gr, n1, n2]
      refine IWp.run [9] ?_
      simp (disch := omega) [go_sem, -getElem?_pos, -List.map_take, -List.map_drop, List.getElem?_cons_zero, List.getElem?_cons_succ, Go.IntWalk.iteOmega, Go.IntWalk.toNatUp, Go.IntWalk.i64_in, Go.IntWalk.u8_in, Go.IntWalk.i64_quo, Go.IntWalk.u8_quo, Go.IntWalk.rem_in, hk, hj, g3, gs, gr, n1, n2]
      refine IWp.seq ?_
      refine IWp.run [8] ?_
      simp (disch := omega) [go_sem, -getElem?_pos, -List.map_take, -List.map_drop, List.getElem?_cons_zero, List.getElem?_cons_succ, Go.IntWalk.iteOmega, Go.IntWalk.toNatUp, Go.IntWalk.i64_in, Go.IntWalk.u8_in, Go.IntWalk.i64_quo, Go.IntWalk.u8_quo, Go.IntWalk.rem_in, hk, hj, g3, gs, gr, n1, n2]
      refine ICalls.then (same_own _ sb rb ⟨[⟨-100, n'⟩, ⟨0, 250⟩, ⟨-2147483648, 2147483647⟩], rules, table, b0, b1, b2, drain, pause, off, brk, log⟩ (hS' _ _ _ _ _ _ _ _ _ (by simp)) [] (by simp [get_set, n1, n2, gs, Sig.val, Sig.cells, Value.cells]) (by simp [get_set, n1, n2, n3, gr])) ?_
      simp [go_sem]
      refine IWp.ret ?_
      simp [go_sem, -getElem?_pos, -List.map_take, -List.map_drop, List.getElem?_cons_zero, List.getElem?_cons_succ, Go.IntWalk.iteOmega, Go.IntWalk.toNatUp, Try.results12]
    · skip
      refine IWp.seq ?_
      refine IWp.seq ?_
      refine IWp.run [1, 2, 9, 24] ?_
      simp (disch := omega) [go_sem, -getElem?_pos, -List.map_take, -List.map_drop, List.getElem?_cons_zero, List.getElem?_cons_succ, Go.IntWalk.iteOmega, Go.IntWalk.toNatUp, Go.IntWalk.i64_in, Go.IntWalk.u8_in, Go.IntWalk.i64_quo, Go.IntWalk.u8_quo, Go.IntWalk.rem_in, hk, hj, g3, gs, gr, n1, n2]
      refine IWp.block ?_
      refine IWp.seq ?_
      refine IWp.run [1, 2, 9, 24, 33] ?_
      simp (disch := omega) [go_sem, -getElem?_pos, -List.map_take, -List.map_drop, List.getElem?_cons_zero, List.getElem?_cons_succ, Go.IntWalk.iteOmega, Go.IntWalk.toNatUp, Go.IntWalk.i64_in, Go.IntWalk.u8_in, Go.IntWalk.i64_quo, Go.IntWalk.u8_quo, Go.IntWalk.rem_in, hk, hj, g3, gs, gr, n1, n2]
      refine IWp.cond ?_
      simp (disch := omega) [go_sem, -getElem?_pos, -List.map_take, -List.map_drop, List.getElem?_cons_zero, List.getElem?_cons_succ, Go.IntWalk.iteOmega, Go.IntWalk.toNatUp, Go.IntWalk.i64_in, Go.IntWalk.u8_in, Go.IntWalk.i64_quo, Go.IntWalk.u8_quo, Go.IntWalk.rem_in, hk, hj, g3, gs, gr, n1, n2]
      refine IWp.seq ?_
      refine IWp.run [1, 2, 9, 24, 42] ?_
      simp (disch := omega) [go_sem, -getElem?_pos, -List.map_take, -List.map_drop, List.getElem?_cons_zero, List.getElem?_cons_succ, Go.IntWalk.iteOmega, Go.IntWalk.toNatUp, Go.IntWalk.i64_in, Go.IntWalk.u8_in, Go.IntWalk.i64_quo, Go.IntWalk.u8_quo, Go.IntWalk.rem_in, hk, hj, g3, gs, gr, n1, n2]
      refine IWp.cond ?_
      simp (disch := omega) [go_sem, -getElem?_pos, -List.map_take, -List.map_drop, List.getElem?_cons_zero, List.getElem?_cons_succ, Go.IntWalk.iteOmega, Go.IntWalk.toNatUp, Go.IntWalk.i64_in, Go.IntWalk.u8_in, Go.IntWalk.i64_quo, Go.IntWalk.u8_quo, Go.IntWalk.rem_in, hk, hj, g3, gs, gr, n1, n2]
      refine IWp.seq ?_
      refine IWp.run [1, 2, 9, 24, 52] ?_
      simp (disch := omega) [go_sem, -getElem?_pos, -List.map_take, -List.map_drop, List.getElem?_cons_zero, List.getElem?_cons_succ, Go.IntWalk.iteOmega, Go.IntWalk.toNatUp, Go.IntWalk.i64_in, Go.IntWalk.u8_in, Go.IntWalk.i64_quo, Go.IntWalk.u8_quo, Go.IntWalk.rem_in, hk, hj, g3, gs, gr, n1, n2]
      refine IWp.cond ?_
      simp (disch := omega) [go_sem, -getElem?_pos, -List.map_take, -List.map_drop, List.getElem?_cons_zero, List.getElem?_cons_succ, Go.IntWalk.iteOmega, Go.IntWalk.toNatUp, Go.IntWalk.i64_in, Go.IntWalk.u8_in, Go.IntWalk.i64_quo, Go.IntWalk.u8_quo, Go.IntWalk.rem_in, hk, hj, g3, gs, gr, n1, n2]
      refine IWp.seq ?_
      refine IWp.run [1, 2, 9, 24, 56] ?_
      simp (disch := omega) [go_sem, -getElem?_pos, -List.map_take, -List.map_drop, List.getElem?_cons_zero, List.getElem?_cons_succ, Go.IntWalk.iteOmega, Go.IntWalk.toNatUp, Go.IntWalk.i64_in, Go.IntWalk.u8_in, Go.IntWalk.i64_quo, Go.IntWalk.u8_quo, Go.IntWalk.rem_in, hk, hj, g3, gs, gr, n1, n2]
      refine IWp.cond ?_
      simp (disch := omega) [go_sem, -getElem?_pos, -List.map_take, -List.map_drop, List.getElem?_cons_zero, List.getElem?_cons_succ, Go.IntWalk.iteOmega, Go.IntWalk.toNatUp, Go.IntWalk.i64_in, Go.IntWalk.u8_in, Go.IntWalk.i64_quo, Go.IntWalk.u8_quo, Go.IntWalk.rem_in, hk, hj, g3, gs, gr, n1, n2]
      refine IWp.seq ?_
      refine IWp.run [1, 2, 9, 24, 60] ?_
      simp (disch := omega) [go_sem, -getElem?_pos, -List.map_take, -List.map_drop, List.getElem?_cons_zero, List.getElem?_cons_succ, Go.IntWalk.iteOmega, Go.IntWalk.toNatUp, Go.IntWalk.i64_in, Go.IntWalk.u8_in, Go.IntWalk.i64_quo, Go.IntWalk.u8_quo, Go.IntWalk.rem_in, hk, hj, g3, gs, gr, n1, n2]
      refine IWp.cond ?_
      simp (disch := omega) [go_sem, -getElem?_pos, -List.map_take, -List.map_drop, List.getElem?_cons_zero, List.getElem?_cons_succ, Go.IntWalk.iteOmega, Go.IntWalk.toNatUp, Go.IntWalk.i64_in, Go.IntWalk.u8_in, Go.IntWalk.i64_quo, Go.IntWalk.u8_quo, Go.IntWalk.rem_in, hk, hj, g3, gs, gr, n1, n2]
      refine IWp.seq ?_
      refine IWp.run [1, 2, 9, 24, 64] ?_
      simp (disch := omega) [go_sem, -getElem?_pos, -List.map_take, -List.map_drop, List.getElem?_cons_zero, List.getElem?_cons_succ, Go.IntWalk.iteOmega, Go.IntWalk.toNatUp, Go.IntWalk.i64_in, Go.IntWalk.u8_in, Go.IntWalk.i64_quo, Go.IntWalk.u8_quo, Go.IntWalk.rem_in, hk, hj, g3, gs, gr, n1, n2]
      refine IWp.cond ?_
      simp (disch := omega) [go_sem, -getElem?_pos, -List.map_take, -List.map_drop, List.getElem?_cons_zero, List.getElem?_cons_succ, Go.IntWalk.iteOmega, Go.IntWalk.toNatUp, Go.IntWalk.i64_in, Go.IntWalk.u8_in, Go.IntWalk.i64_quo, Go.IntWalk.u8_quo, Go.IntWalk.rem_in, hk, hj, g3, gs, gr, n1, n2]
      refine IWp.seq ?_
      refine IWp.run [1, 2, 9, 75] ?_
      simp (disch := omega) [go_sem, -getElem?_pos, -List.map_take, -List.map_drop, List.getElem?_cons_zero, List.getElem?_cons_succ, Go.IntWalk.iteOmega, Go.IntWalk.toNatUp, Go.IntWalk.i64_in, Go.IntWalk.u8_in, Go.IntWalk.i64_quo, Go.IntWalk.u8_quo, Go.IntWalk.rem_in, hk, hj, g3, gs, gr, n1, n2]
      refine IWp.cond ?_
      simp (disch := omega) [go_sem, -getElem?_pos, -List.map_take, -List.map_drop, List.getElem?_cons_zero, List.getElem?_cons_succ, Go.IntWalk.iteOmega, Go.IntWalk.toNatUp, Go.IntWalk.i64_in, Go.IntWalk.u8_in, Go.IntWalk.i64_quo, Go.IntWalk.u8_quo, Go.IntWalk.rem_in, hk, hj, g3, gs, gr, n1, n2]
      refine IWp.run [9] ?_
      simp (disch := omega) [go_sem, -getElem?_pos, -List.map_take, -List.map_drop, List.getElem?_cons_zero, List.getElem?_cons_succ, Go.IntWalk.iteOmega, Go.IntWalk.toNatUp, Go.IntWalk.i64_in, Go.IntWalk.u8_in, Go.IntWalk.i64_quo, Go.IntWalk.u8_quo, Go.IntWalk.rem_in, hk, hj, g3, gs, gr, n1, n2]
      refine IWp.seq ?_
      refine IWp.run [8] ?_
      simp (disch := omega) [go_sem, -getElem?_pos, -List.map_take, -List.map_drop, List.getElem?_cons_zero, List.getElem?_cons_succ, Go.IntWalk.iteOmega, Go.IntWalk.toNatUp, Go.IntWalk.i64_in, Go.IntWalk.u8_in, Go.IntWalk.i64_quo, Go.IntWalk.u8_quo, Go.IntWalk.rem_in, hk, hj, g3, gs, gr, n1, n2]
      refine ICalls.then (same_own _ sb rb ⟨[⟨-100, 300⟩, ⟨0, n'⟩, ⟨-2147483648, 2147483647⟩], rules, table, b0, b1, b2, drain, pause, off, brk, log⟩ (hS' _ _ _ _ _ _ _ _ _ (by simp)) [] (by simp [get_set, n1, n2, gs, Sig.val, Sig.cells, Value.cells]) (by simp [get_set, n1, n2, n3, gr])) ?_
      simp [go_sem]
      refine IWp.ret ?_
      simp [go_sem, -getElem?_pos, -List.map_take, -List.map_drop, List.getElem?_cons_zero, List.getElem?_cons_succ, Go.IntWalk.iteOmega, Go.IntWalk.toNatUp, Try.results12]
    · skip
      refine IWp.seq ?_
      refine IWp.seq ?_
      refine IWp.run [1, 2, 9, 24] ?_
      simp (disch := omega) [go_sem, -getElem?_pos, -List.map_take, -List.map_drop, List.getElem?_cons_zero, List.getElem?_cons_succ, Go.IntWalk.iteOmega, Go.IntWalk.toNatUp, Go.IntWalk.i64_in, Go.IntWalk.u8_in, Go.IntWalk.i64_quo, Go.IntWalk.u8_quo, Go.IntWalk.rem_in, hk, hj, g3, gs, gr, n1, n2]
      refine IWp.block ?_
      refine IWp.seq ?_
      refine IWp.run [1, 2, 9, 24, 33] ?_
      simp (disch := omega) [go_sem, -getElem?_pos, -List.map_take, -List.map_drop, List.getElem?_cons_zero, List.getElem?_cons_succ, Go.IntWalk.iteOmega, Go.IntWalk.toNatUp, Go.IntWalk.i64_in, Go.IntWalk.u8_in, Go.IntWalk.i64_quo, Go.IntWalk.u8_quo, Go.IntWalk.rem_in, hk, hj, g3, gs, gr, n1, n2]
      refine IWp.cond ?_
      simp (disch := omega) [go_sem, -getElem?_pos, -List.map_take, -List.map_drop, List.getElem?_cons_zero, List.getElem?_cons_succ, Go.IntWalk.iteOmega, Go.IntWalk.toNatUp, Go.IntWalk.i64_in, Go.IntWalk.u8_in, Go.IntWalk.i64_quo, Go.IntWalk.u8_quo, Go.IntWalk.rem_in, hk, hj, g3, gs, gr, n1, n2]
      refine IWp.seq ?_
      refine IWp.run [1, 2, 9, 24, 42] ?_
      simp (disch := omega) [go_sem, -getElem?_pos, -List.map_take, -List.map_drop, List.getElem?_cons_zero, List.getElem?_cons_succ, Go.IntWalk.iteOmega, Go.IntWalk.toNatUp, Go.IntWalk.i64_in, Go.IntWalk.u8_in, Go.IntWalk.i64_quo, Go.IntWalk.u8_quo, Go.IntWalk.rem_in, hk, hj, g3, gs, gr, n1, n2]
      refine IWp.cond ?_
      simp (disch := omega) [go_sem, -getElem?_pos, -List.map_take, -List.map_drop, List.getElem?_cons_zero, List.getElem?_cons_succ, Go.IntWalk.iteOmega, Go.IntWalk.toNatUp, Go.IntWalk.i64_in, Go.IntWalk.u8_in, Go.IntWalk.i64_quo, Go.IntWalk.u8_quo, Go.IntWalk.rem_in, hk, hj, g3, gs, gr, n1, n2]
      refine IWp.seq ?_
      refine IWp.run [1, 2, 9, 24, 52] ?_
      simp (disch := omega) [go_sem, -getElem?_pos, -List.map_take, -List.map_drop, List.getElem?_cons_zero, List.getElem?_cons_succ, Go.IntWalk.iteOmega, Go.IntWalk.toNatUp, Go.IntWalk.i64_in, Go.IntWalk.u8_in, Go.IntWalk.i64_quo, Go.IntWalk.u8_quo, Go.IntWalk.rem_in, hk, hj, g3, gs, gr, n1, n2]
      refine IWp.cond ?_
      simp (disch := omega) [go_sem, -getElem?_pos, -List.map_take, -List.map_drop, List.getElem?_cons_zero, List.getElem?_cons_succ, Go.IntWalk.iteOmega, Go.IntWalk.toNatUp, Go.IntWalk.i64_in, Go.IntWalk.u8_in, Go.IntWalk.i64_quo, Go.IntWalk.u8_quo, Go.IntWalk.rem_in, hk, hj, g3, gs, gr, n1, n2]
      refine IWp.seq ?_
      refine IWp.run [1, 2, 9, 24, 56] ?_
      simp (disch := omega) [go_sem, -getElem?_pos, -List.map_take, -List.map_drop, List.getElem?_cons_zero, List.getElem?_cons_succ, Go.IntWalk.iteOmega, Go.IntWalk.toNatUp, Go.IntWalk.i64_in, Go.IntWalk.u8_in, Go.IntWalk.i64_quo, Go.IntWalk.u8_quo, Go.IntWalk.rem_in, hk, hj, g3, gs, gr, n1, n2]
      refine IWp.cond ?_
      simp (disch := omega) [go_sem, -getElem?_pos, -List.map_take, -List.map_drop, List.getElem?_cons_zero, List.getElem?_cons_succ, Go.IntWalk.iteOmega, Go.IntWalk.toNatUp, Go.IntWalk.i64_in, Go.IntWalk.u8_in, Go.IntWalk.i64_quo, Go.IntWalk.u8_quo, Go.IntWalk.rem_in, hk, hj, g3, gs, gr, n1, n2]
      refine IWp.seq ?_
      refine IWp.run [1, 2, 9, 24, 60] ?_
      simp (disch := omega) [go_sem, -getElem?_pos, -List.map_take, -List.map_drop, List.getElem?_cons_zero, List.getElem?_cons_succ, Go.IntWalk.iteOmega, Go.IntWalk.toNatUp, Go.IntWalk.i64_in, Go.IntWalk.u8_in, Go.IntWalk.i64_quo, Go.IntWalk.u8_quo, Go.IntWalk.rem_in, hk, hj, g3, gs, gr, n1, n2]
      refine IWp.cond ?_
      simp (disch := omega) [go_sem, -getElem?_pos, -List.map_take, -List.map_drop, List.getElem?_cons_zero, List.getElem?_cons_succ, Go.IntWalk.iteOmega, Go.IntWalk.toNatUp, Go.IntWalk.i64_in, Go.IntWalk.u8_in, Go.IntWalk.i64_quo, Go.IntWalk.u8_quo, Go.IntWalk.rem_in, hk, hj, g3, gs, gr, n1, n2]
      refine IWp.seq ?_
      refine IWp.run [1, 2, 9, 24, 64] ?_
      simp (disch := omega) [go_sem, -getElem?_pos, -List.map_take, -List.map_drop, List.getElem?_cons_zero, List.getElem?_cons_succ, Go.IntWalk.iteOmega, Go.IntWalk.toNatUp, Go.IntWalk.i64_in, Go.IntWalk.u8_in, Go.IntWalk.i64_quo, Go.IntWalk.u8_quo, Go.IntWalk.rem_in, hk, hj, g3, gs, gr, n1, n2]
      refine IWp.cond ?_
      simp (disch := omega) [go_sem, -getElem?_pos, -List.map_take, -List.map_drop, List.getElem?_cons_zero, List.getElem?_cons_succ, Go.IntWalk.iteOmega, Go.IntWalk.toNatUp, Go.IntWalk.i64_in, Go.IntWalk.u8_in, Go.IntWalk.i64_quo, Go.IntWalk.u8_quo, Go.IntWalk.rem_in, hk, hj, g3, gs, gr, n1, n2]
      refine IWp.seq ?_
      refine IWp.run [1, 2, 9, 75] ?_
      simp (disch := omega) [go_sem, -getElem?_pos, -List.map_take, -List.map_drop, List.getElem?_cons_zero, List.getElem?_cons_succ, Go.IntWalk.iteOmega, Go.IntWalk.toNatUp, Go.IntWalk.i64_in, Go.IntWalk.u8_in, Go.IntWalk.i64_quo, Go.IntWalk.u8_quo, Go.IntWalk.rem_in, hk, hj, g3, gs, gr, n1, n2]
      refine IWp.cond ?_
      simp (disch := omega) [go_sem, -getElem?_pos, -List.map_take, -List.map_drop, List.getElem?_cons_zero, List.getElem?_cons_succ, Go.IntWalk.iteOmega, Go.IntWalk.toNatUp, Go.IntWalk.i64_in, Go.IntWalk.u8_in, Go.IntWalk.i64_quo, Go.IntWalk.u8_quo, Go.IntWalk.rem_in, hk, hj, g3, gs, gr, n1, n2]
      refine IWp.run [9] ?_
      simp (disch := omega) [go_sem, -getElem?_pos, -List.map_take, -List.map_drop, List.getElem?_cons_zero, List.getElem?_cons_succ, Go.IntWalk.iteOmega, Go.IntWalk.toNatUp, Go.IntWalk.i64_in, Go.IntWalk.u8_in, Go.IntWalk.i64_quo, Go.IntWalk.u8_quo, Go.IntWalk.rem_in, hk, hj, g3, gs, gr, n1, n2]
      refine IWp.seq ?_
      refine IWp.run [8] ?_
      simp (disch := omega) [go_sem, -getElem?_pos, -List.map_take, -List.map_drop, List.getElem?_cons_zero, List.getElem?_cons_succ, Go.IntWalk.iteOmega, Go.IntWalk.toNatUp, Go.IntWalk.i64_in, Go.IntWalk.u8_in, Go.IntWalk.i64_quo, Go.IntWalk.u8_quo, Go.IntWalk.rem_in, hk, hj, g3, gs, gr, n1, n2]
      refine ICalls.then (same_own _ sb rb ⟨[⟨-100, 300⟩, ⟨0, 250⟩, ⟨-2147483648, n'⟩], rules, table, b0, b1, b2, drain, pause, off, brk, log⟩ (hS' _ _ _ _ _ _ _ _ _ (by simp)) [] (by simp [get_set, n1, n2, gs, Sig.val, Sig.cells, Value.cells]) (by simp [get_set, n1, n2, n3, gr])) ?_
      simp [go_sem]
      refine IWp.ret ?_
      simp [go_sem, -getElem?_pos, -List.map_take, -List.map_drop, List.getElem?_cons_zero, List.getElem?_cons_succ, Go.IntWalk.iteOmega, Go.IntWalk.toNatUp, Try.results12]
  · have e1 : what.tdiv 8 = what / 8 := Int.tdiv_eq_ediv_of_nonneg w1.1
    have e2 : what.tmod 8 = what % 8 := Int.tmod_eq_emod_of_nonneg w1.1
    have e3 : (what / 8).tmod 4 = what / 8 % 4 := Int.tmod_eq_emod_of_nonneg (by omega)
    have u1 := IntWalk.u8_in (what / 8) (by omega)
    have u2 := IntWalk.i64_in (what / 8) (by omega)
    rcases hj4 with hj | hj | hj | hj
    · skip
      refine IWp.seq ?_
      refine IWp.seq ?_
      refine IWp.run [1, 2, 9, 24] ?_
      simp [go_sem, -getElem?_pos, -List.map_take, -List.map_drop, List.getElem?_cons_zero, List.getElem?_cons_succ, Go.IntWalk.iteOmega, Go.IntWalk.toNatUp, e1, e2, e3, u1, u2, hk, hj, g3, gs, gr, n1, n2]
      refine IWp.block ?_
      refine IWp.seq ?_
      refine IWp.run [1, 2, 9, 24, 33] ?_
      simp [go_sem, -getElem?_pos, -List.map_take, -List.map_drop, List.getElem?_cons_zero, List.getElem?_cons_succ, Go.IntWalk.iteOmega, Go.IntWalk.toNatUp, e1, e2, e3, u1, u2, hk, hj, g3, gs, gr, n1, n2]
      refine IWp.cond ?_
      simp [go_sem, -getElem?_pos, -List.map_take, -List.map_drop, List.getElem?_cons_zero, List.getElem?_cons_succ, Go.IntWalk.iteOmega, Go.IntWalk.toNatUp, e1, e2, e3, u1, u2, hk, hj, g3, gs, gr, n1, n2]
      refine IWp.seq ?_
      refine IWp.run [1, 2, 9, 24, 42] ?_
      simp [go_sem, -getElem?_pos, -List.map_take, -List.map_drop, List.getElem?_cons_zero, List.getElem?_cons_succ, Go.IntWalk.iteOmega, Go.IntWalk.toNatUp, e1, e2, e3, u1, u2, hk, hj, g3, gs, gr, n1, n2]
      refine IWp.cond ?_
      simp [go_sem, -getElem?_pos, -List.map_take, -List.map_drop, List.getElem?_cons_zero, List.getElem?_cons_succ, Go.IntWalk.iteOmega, Go.IntWalk.toNatUp, e1, e2, e3, u1, u2, hk, hj, g3, gs, gr, n1, n2]
      refine IWp.seq ?_
      refine IWp.run [1, 2, 9, 24, 52] ?_
      simp [go_sem, -getElem?_pos, -List.map_take, -List.map_drop, List.getElem?_cons_zero, List.getElem?_cons_succ, Go.IntWalk.iteOmega, Go.IntWalk.toNatUp, e1, e2, e3, u1, u2, hk, hj, g3, gs, gr, n1, n2]
      refine IWp.cond ?_
      simp [go_sem, -getElem?_pos, -List.map_take, -List.map_drop, List.getElem?_cons_zero, List.getElem?_cons_succ, Go.IntWalk.iteOmega, Go.IntWalk.toNatUp, e1, e2, e3, u1, u2, hk, hj, g3, gs, gr, n1, n2]
      refine IWp.seq ?_
      refine IWp.run [1, 2, 9, 24, 56] ?_
      simp [go_sem, -getElem?_pos, -List.map_take, -List.map_drop, List.getElem?_cons_zero, List.getElem?_cons_succ, Go.IntWalk.iteOmega, Go.IntWalk.toNatUp, e1, e2, e3, u1, u2, hk, hj, g3, gs, gr, n1, n2]
      refine IWp.cond ?_
      simp [go_sem, -getElem?_pos, -List.map_take, -List.map_drop, List.getElem?_cons_zero, List.getElem?_cons_succ, Go.IntWalk.iteOmega, Go.IntWalk.toNatUp, e1, e2, e3, u1, u2, hk, hj, g3, gs, gr, n1, n2]
      refine IWp.seq ?_
      refine IWp.run [1, 2, 9, 24, 60] ?_
      simp [go_sem, -getElem?_pos, -List.map_take, -List.map_drop, List.getElem?_cons_zero, List.getElem?_cons_succ, Go.IntWalk.iteOmega, Go.IntWalk.toNatUp, e1, e2, e3, u1, u2, hk, hj, g3, gs, gr, n1, n2]
      refine IWp.cond ?_
      simp [go_sem, -getElem?_pos, -List.map_take, -List.map_drop, List.getElem?_cons_zero, List.getElem?_cons_succ, Go.IntWalk.iteOmega, Go.IntWalk.toNatUp, e1, e2, e3, u1, u2, hk, hj, g3, gs, gr, n1, n2]
      refine IWp.seq ?_
      refine IWp.run [1, 2, 9, 24, 64] ?_
      simp [go_sem, -getElem?_pos, -List.map_take, -List.map_drop, List.getElem?_cons_zero, List.getElem?_cons_succ, Go.IntWalk.iteOmega, Go.IntWalk.toNatUp, e1, e2, e3, u1, u2, hk, hj, g3, gs, gr, n1, n2]
      refine IWp.cond ?_
      simp [go_sem, -getElem?_pos, -List.map_take, -List.map_drop, List.getElem?_cons_zero, List.getElem?_cons_succ, Go.IntWalk.iteOmega, Go.IntWalk.toNatUp, e1, e2, e3, u1, u2, hk, hj, g3, gs, gr, n1, n2]
      refine IWp.seq ?_
      refine IWp.run [1, 2, 9, 75] ?_
      simp [go_sem, -getElem?_pos, -List.map_take, -List.map_drop, List.getElem?_cons_zero, List.getElem?_cons_succ, Go.IntWalk.iteOmega, Go.IntWalk.toNatUp, e1, e2, e3, u1, u2, hk, hj, g3, gs, gr, n1, n2]
      refine IWp.cond ?_
      simp [go_sem, -getElem?_pos, -List.map_take, -List.map_drop, List.getElem?_cons_zero, List.getElem?_cons_succ, Go.IntWalk.iteOmega, Go.IntWalk.toNatUp, e1, e2, e3, u1, u2, hk, hj, g3, gs, gr, n1, n2]
      refine IWp.run [9] ?_
      simp [go_sem, -getElem?_pos, -List.map_take, -List.map_drop, List.getElem?_cons_zero, List.getElem?_cons_succ, Go.IntWalk.iteOmega, Go.IntWalk.toNatUp, e1, e2, e3, u1, u2, hk, hj, g3, gs, gr, n1, n2]
      refine IWp.seq ?_
      refine IWp.run [8] ?_
      simp [go_sem, -getElem?_pos, -List.map_take, -List.map_drop, List.getElem?_cons_zero, List.getElem?_cons_succ, Go.IntWalk.iteOmega, Go.IntWalk.toNatUp, e1, e2, e3, u1, u2, hk, hj, g3, gs, gr, n1, n2]
      refine ICalls.then (same_own _ sb rb ⟨[], rules, table, b0, b1, b2, drain, pause, off, brk, log⟩ (hS' _ _ _ _ _ _ _ _ _ (by simp)) [.int .i64 (-100), .int .i64 300, .int .i64 0, .int .i64 250, .int .i64 (-2147483648), .int .i64 2147483647] (by simp [get_set, n1, n2, gs, Sig.val, Sig.cells, Value.cells]) (by simp [get_set, n1, n2, n3, gr])) ?_
      simp [go_sem]
      refine IWp.ret ?_
      simp [go_sem, -getElem?_pos, -List.map_take, -List.map_drop, List.getElem?_cons_zero, List.getElem?_cons_succ, Go.IntWalk.iteOmega, Go.IntWalk.toNatUp, Try.results12]
    · skip
      refine IWp.seq ?_
      refine IWp.seq ?_
      refine IWp.run [1, 2, 9, 24] ?_
      simp [go_sem, -getElem?_pos, -List.map_take, -List.map_drop, List.getElem?_cons_zero, List.getElem?_cons_succ, Go.IntWalk.iteOmega, Go.IntWalk.toNatUp, e1, e2, e3, u1, u2, hk, hj, g3, gs, gr, n1, n2]
      refine IWp.block ?_
      refine IWp.seq ?_
      refine IWp.run [1, 2, 9, 24, 33] ?_
      simp [go_sem, -getElem?_pos, -List.map_take, -List.map_drop, List.getElem?_cons_zero, List.getElem?_cons_succ, Go.IntWalk.iteOmega, Go.IntWalk.toNatUp, e1, e2, e3, u1, u2, hk, hj, g3, gs, gr, n1, n2]
      refine IWp.cond ?_
      simp [go_sem, -getElem?_pos, -List.map_take, -List.map_drop, List.getElem?_cons_zero, List.getElem?_cons_succ, Go.IntWalk.iteOmega, Go.IntWalk.toNatUp, e1, e2, e3, u1, u2, hk, hj, g3, gs, gr, n1, n2]
      refine IWp.seq ?_
      refine IWp.run [1, 2, 9, 24, 42] ?_
      simp [go_sem, -getElem?_pos, -List.map_take, -List.map_drop, List.getElem?_cons_zero, List.getElem?_cons_succ, Go.IntWalk.iteOmega, Go.IntWalk.toNatUp, e1, e2, e3, u1, u2, hk, hj, g3, gs, gr, n1, n2]
      refine IWp.cond ?_
      simp [go_sem, -getElem?_pos, -List.map_take, -List.map_drop, List.getElem?_cons_zero, List.getElem?_cons_succ, Go.IntWalk.iteOmega, Go.IntWalk.toNatUp, e1, e2, e3, u1, u2, hk, hj, g3, gs, gr, n1, n2]
      refine IWp.seq ?_
      refine IWp.run [1, 2, 9, 24, 52] ?_
      simp [go_sem, -getElem?_pos, -List.map_take, -List.map_drop, List.getElem?_cons_zero, List.getElem?_cons_succ, Go.IntWalk.iteOmega, Go.IntWalk.toNatUp, e1, e2, e3, u1, u2, hk, hj, g3, gs, gr, n1, n2]
      refine IWp.cond ?_
      simp [go_sem, -getElem?_pos, -List.map_take, -List.map_drop, List.getElem?_cons_zero, List.getElem?_cons_succ, Go.IntWalk.iteOmega, Go.IntWalk.toNatUp, e1, e2, e3, u1, u2, hk, hj, g3, gs, gr, n1, n2]
      refine IWp.seq ?_
      refine IWp.run [1, 2, 9, 24, 56] ?_
      simp [go_sem, -getElem?_pos, -List.map_take, -List.map_drop, List.getElem?_cons_zero, List.getElem?_cons_succ, Go.IntWalk.iteOmega, Go.IntWalk.toNatUp, e1, e2, e3, u1, u2, hk, hj, g3, gs, gr, n1, n2]
      refine IWp.cond ?_
      simp [go_sem, -getElem?_pos, -List.map_take, -List.map_drop, List.getElem?_cons_zero, List.getElem?_cons_succ, Go.IntWalk.iteOmega, Go.IntWalk.toNatUp, e1, e2, e3, u1, u2, hk, hj, g3, gs, gr, n1, n2]
      refine IWp.seq ?_
      refine IWp.run [1, 2, 9, 24, 60] ?_
      simp [go_sem, -getElem?_pos, -List.map_take, -List.map_drop, List.getElem?_cons_zero, List.getElem?_cons_succ, Go.IntWalk.iteOmega, Go.IntWalk.toNatUp, e1, e2, e3, u1, u2, hk, hj, g3, gs, gr, n1, n2]
      refine IWp.cond ?_
      simp [go_sem, -getElem?_pos, -List.map_take, -List.map_drop, List.getElem?_cons_zero, List.getElem?_cons_succ, Go.IntWalk.iteOmega, Go.IntWalk.toNatUp, e1, e2, e3, u1, u2, hk, hj, g3, gs, gr, n1, n2]
      refine IWp.seq ?_
      refine IWp.run [1, 2, 9, 24, 64] ?_
      simp [go_sem, -getElem?_pos, -List.map_take, -List.map_drop, List.getElem?_cons_zero, List.getElem?_cons_succ, Go.IntWalk.iteOmega, Go.IntWalk.toNatUp, e1, e2, e3, u1, u2, hk, hj, g3, gs, gr, n1, n2]
      refine IWp.cond ?_
      simp [go_sem, -getElem?_pos, -List.map_take, -List.map_drop, List.getElem?_cons_zero, List.getElem?_cons_succ, Go.IntWalk.iteOmega, Go.IntWalk.toNatUp, e1, e2, e3, u1, u2, hk, hj, g3, gs, gr, n1, n2]
      refine IWp.seq ?_
      refine IWp.run [1, 2, 9, 75] ?_
      simp [go_sem, -getElem?_pos, -List.map_take, -List.map_drop, List.getElem?_cons_zero, List.getElem?_cons_succ, Go.IntWalk.iteOmega, Go.IntWalk.toNatUp, e1, e2, e3, u1, u2, hk, hj, g3, gs, gr, n1, n2]
      refine IWp.cond ?_
      simp [go_sem, -getElem?_pos, -List.map_take, -List.map_drop, List.getElem?_cons_zero, List.getElem?_cons_succ, Go.IntWalk.iteOmega, Go.IntWalk.toNatUp, e1, e2, e3, u1, u2, hk, hj, g3, gs, gr, n1, n2]
      refine IWp.run [9] ?_
      simp [go_sem, -getElem?_pos, -List.map_take, -List.map_drop, List.getElem?_cons_zero, List.getElem?_cons_succ, Go.IntWalk.iteOmega, Go.IntWalk.toNatUp, e1, e2, e3, u1, u2, hk, hj, g3, gs, gr, n1, n2]
      refine IWp.seq ?_
      refine IWp.run [8] ?_
      simp [go_sem, -getElem?_pos, -List.map_take, -List.map_drop, List.getElem?_cons_zero, List.getElem?_cons_succ, Go.IntWalk.iteOmega, Go.IntWalk.toNatUp, e1, e2, e3, u1, u2, hk, hj, g3, gs, gr, n1, n2]
      refine ICalls.then (same_own _ sb rb ⟨[⟨-100, 300⟩], rules, table, b0, b1, b2, drain, pause, off, brk, log⟩ (hS' _ _ _ _ _ _ _ _ _ (by simp)) [.int .i64 0, .int .i64 250, .int .i64 (-2147483648), .int .i64 2147483647] (by simp [get_set, n1, n2, gs, Sig.val, Sig.cells, Value.cells]) (by simp [get_set, n1, n2, n3, gr])) ?_
      simp [go_sem]
      refine IWp.ret ?_
      simp [go_sem, -getElem?_pos, -List.map_take, -List.map_drop, List.getElem?_cons_zero, List.getElem?_cons_succ, Go.IntWalk.iteOmega, Go.IntWalk.toNatUp, Try.results12]
    · skip
      refine IWp.seq ?_
      refine IWp.seq ?_
      refine IWp.run [1, 2, 9, 24] ?_
      simp [go_sem, -getElem?_pos, -List.map_take, -List.map_drop, List.getElem?_cons_zero, List.getElem?_cons_succ, Go.IntWalk.iteOmega, Go.IntWalk.toNatUp, e1, e2, e3, u1, u2, hk, hj, g3, gs, gr, n1, n2]
      refine IWp.block ?_
      refine IWp.seq ?_
      refine IWp.run [1, 2, 9, 24, 33] ?_
      simp [go_sem, -getElem?_pos, -List.map_take, -List.map_drop, List.getElem?_cons_zero, List.getElem?_cons_succ, Go.IntWalk.iteOmega, Go.IntWalk.toNatUp, e1, e2, e3, u1, u2, hk, hj, g3, gs, gr, n1, n2]
      refine IWp.cond ?_
      simp [go_sem, -getElem?_pos, -List.map_take, -List.map_drop, List.getElem?_cons_zero, List.getElem?_cons_succ, Go.IntWalk.iteOmega, Go.IntWalk.toNatUp, e1, e2, e3, u1, u2, hk, hj, g3, gs, gr, n1, n2]
      refine IWp.seq ?_
      refine IWp.run [1, 2, 9, 24, 42] ?_
      simp [go_sem, -getElem?_pos, -List.map_take, -List.map_drop, List.getElem?_cons_zero, List.getElem?_cons_succ, Go.IntWalk.iteOmega, Go.IntWalk.toNatUp, e1, e2, e3, u1, u2, hk, hj, g3, gs, gr, n1, n2]
      refine IWp.cond ?_
      simp [go_sem, -getElem?_pos, -List.map_take, -List.map_drop, List.getElem?_cons_zero, List.getElem?_cons_succ, Go.IntWalk.iteOmega, Go.IntWalk.toNatUp, e1, e2, e3, u1, u2, hk, hj, g3, gs, gr, n1, n2]
      refine IWp.seq ?_
      refine IWp.run [1, 2, 9, 24, 52] ?_
      simp [go_sem, -getElem?_pos, -List.map_take, -List.map_drop, List.getElem?_cons_zero, List.getElem?_cons_succ, Go.IntWalk.iteOmega, Go.IntWalk.toNatUp, e1, e2, e3, u1, u2, hk, hj, g3, gs, gr, n1, n2]
      refine IWp.cond ?_
      simp [go_sem, -getElem?_pos, -List.map_take, -List.map_drop, List.getElem?_cons_zero, List.getElem?_cons_succ, Go.IntWalk.iteOmega, Go.IntWalk.toNatUp, e1, e2, e3, u1, u2, hk, hj, g3, gs, gr, n1, n2]
      refine IWp.seq ?_
      refine IWp.run [1, 2, 9, 24, 56] ?_
      simp [go_sem, -getElem?_pos, -List.map_take, -List.map_drop, List.getElem?_cons_zero, List.getElem?_cons_succ, Go.IntWalk.iteOmega, Go.IntWalk.toNatUp, e1, e2, e3, u1, u2, hk, hj, g3, gs, gr, n1, n2]
      refine IWp.cond ?_
      simp [go_sem, -getElem?_pos, -List.map_take, -List.map_drop, List.getElem?_cons_zero, List.getElem?_cons_succ, Go.IntWalk.iteOmega, Go.IntWalk.toNatUp, e1, e2, e3, u1, u2, hk, hj, g3, gs, gr, n1, n2]
      refine IWp.seq ?_
      refine IWp.run [1, 2, 9, 24, 60] ?_
      simp [go_sem, -getElem?_pos, -List.map_take, -List.map_drop, List.getElem?_cons_zero, List.getElem?_cons_succ, Go.IntWalk.iteOmega, Go.IntWalk.toNatUp, e1, e2, e3, u1, u2, hk, hj, g3, gs, gr, n1, n2]
      refine IWp.cond ?_
      simp [go_sem, -getElem?_pos, -List.map_take, -List.map_drop, List.getElem?_cons_zero, List.getElem?_cons_succ, Go.IntWalk.iteOmega, Go.IntWalk.toNatUp, e1, e2, e3, u1, u2, hk, hj, g3, gs, gr, n1, n2]
      refine IWp.seq ?_
      refine IWp.run [1, 2, 9, 24, 64] ?_
      simp [go_sem, -getElem?_pos, -List.map_take, -List.map_drop, List.getElem?_cons_zero, List.getElem?_cons_succ, Go.IntWalk.iteOmega, Go.IntWalk.toNatUp, e1, e2, e3, u1, u2, hk, hj, g3, gs, gr, n1, n2]
      refine IWp.cond ?_
      simp [go_sem, -getElem?_pos, -List.map_take, -List.map_drop, List.getElem?_cons_zero, List.getElem?_cons_succ, Go.IntWalk.iteOmega, Go.IntWalk.toNatUp, e1, e2, e3, u1, u2, hk, hj, g3, gs, gr, n1, n2]
      refine IWp.seq ?_
      refine IWp.run [1, 2, 9, 75] ?_
      simp [go_sem, -getElem?_pos, -List.map_take, -List.map_drop, List.getElem?_cons_zero, List.getElem?_cons_succ, Go.IntWalk.iteOmega, Go.IntWalk.toNatUp, e1, e2, e3, u1, u2, hk, hj, g3, gs, gr, n1, n2]
      refine IWp.cond ?_
      simp [go_sem, -getElem?_pos, -List.map_take, -List.map_drop, List.getElem?_cons_zero, List.getElem?_cons_succ, Go.IntWalk.iteOmega, Go.IntWalk.toNatUp, e1, e2, e3, u1, u2, hk, hj, g3, gs, gr, n1, n2]
      refine IWp.run [9] ?_
      simp [go_sem, -getElem?_pos, -List.map_take, -List.map_drop, List.getElem?_cons_zero, List.getElem?_cons_succ, Go.IntWalk.iteOmega, Go.IntWalk.toNatUp, e1, e2, e3, u1, u2, hk, hj, g3, gs, gr, n1, n2]
      refine IWp.seq ?_
      refine IWp.run [8] ?_
      simp [go_sem, -getElem?_pos, -List.map_take, -List.map_drop, List.getElem?_cons_zero, List.getElem?_cons_succ, Go.IntWalk.iteOmega, Go.IntWalk.toNatUp, e1, e2, e3, u1, u2, hk, hj, g3, gs, gr, n1, n2]
      refine ICalls.then (same_own _ sb rb ⟨[⟨-100, 300⟩, ⟨0, 250⟩], rules, table, b0, b1, b2, drain, pause, off, brk, log⟩ (hS' _ _ _ _ _ _ _ _ _ (by simp)) [.int .i64 (-2147483648), .int .i64 2147483647] (by simp [get_set, n1, n2, gs, Sig.val, Sig.cells, Value.cells]) (by simp [get_set, n1, n2, n3, gr])) ?_
      simp [go_sem]
      refine IWp.ret ?_
      simp [go_sem, -getElem?_pos, -List.map_take, -List.map_drop, List.getElem?_cons_zero, List.getElem?_cons_succ, Go.IntWalk.iteOmega, Go.IntWalk.toNatUp, Try.results12]
    · skip
      refine IWp.seq ?_
      refine IWp.seq ?_
      refine IWp.run [1, 2, 9, 24] ?_
      simp [go_sem, -getElem?_pos, -List.map_take, -List.map_drop, List.getElem?_cons_zero, List.getElem?_cons_succ, Go.IntWalk.iteOmega, Go.IntWalk.toNatUp, e1, e2, e3, u1, u2, hk, hj, g3, gs, gr, n1, n2]
      refine IWp.block ?_
      refine IWp.seq ?_
      refine IWp.run [1, 2, 9, 24, 33] ?_
      simp [go_sem, -getElem?_pos, -List.map_take, -List.map_drop, List.getElem?_cons_zero, List.getElem?_cons_succ, Go.IntWalk.iteOmega, Go.IntWalk.toNatUp, e1, e2, e3, u1, u2, hk, hj, g3, gs, gr, n1, n2]
      refine IWp.cond ?_
      simp [go_sem, -getElem?_pos, -List.map_take, -List.map_drop, List.getElem?_cons_zero, List.getElem?_cons_succ, Go.IntWalk.iteOmega, Go.IntWalk.toNatUp, e1, e2, e3, u1, u2, hk, hj, g3, gs, gr, n1, n2]
      refine IWp.seq ?_
      refine IWp.run [1, 2, 9, 24, 42] ?_
      simp [go_sem, -getElem?_pos, -List.map_take, -List.map_drop, List.getElem?_cons_zero, List.getElem?_cons_succ, Go.IntWalk.iteOmega, Go.IntWalk.toNatUp, e1, e2, e3, u1, u2, hk, hj, g3, gs, gr, n1, n2]
      refine IWp.cond ?_
      simp [go_sem, -getElem?_pos, -List.map_take, -List.map_drop, List.getElem?_cons_zero, List.getElem?_cons_succ, Go.IntWalk.iteOmega, Go.IntWalk.toNatUp, e1, e2, e3, u1, u2, hk, hj, g3, gs, gr, n1, n2]
      refine IWp.seq ?_
      refine IWp.run [1, 2, 9, 24, 52] ?_
      simp [go_sem, -getElem?_pos, -List.map_take, -List.map_drop, List.getElem?_cons_zero, List.getElem?_cons_succ, Go.IntWalk.iteOmega, Go.IntWalk.toNatUp, e1, e2, e3, u1, u2, hk, hj, g3, gs, gr, n1, n2]
      refine IWp.cond ?_
      simp [go_sem, -getElem?_pos, -List.map_take, -List.map_drop, List.getElem?_cons_zero, List.getElem?_cons_succ, Go.IntWalk.iteOmega, Go.IntWalk.toNatUp, e1, e2, e3, u1, u2, hk, hj, g3, gs, gr, n1, n2]
      refine IWp.seq ?_
      refine IWp.run [1, 2, 9, 24, 56] ?_
      simp [go_sem, -getElem?_pos, -List.map_take, -List.map_drop, List.getElem?_cons_zero, List.getElem?_cons_succ, Go.IntWalk.iteOmega, Go.IntWalk.toNatUp, e1, e2, e3, u1, u2, hk, hj, g3, gs, gr, n1, n2]
      refine IWp.cond ?_
      simp [go_sem, -getElem?_pos, -List.map_take, -List.map_drop, List.getElem?_cons_zero, List.getElem?_cons_succ, Go.IntWalk.iteOmega, Go.IntWalk.toNatUp, e1, e2, e3, u1, u2, hk, hj, g3, gs, gr, n1, n2]
      refine IWp.seq ?_
      refine IWp.run [1, 2, 9, 24, 60] ?_
      simp [go_sem, -getElem?_pos, -List.map_take, -List.map_drop, List.getElem?_cons_zero, List.getElem?_cons_succ, Go.IntWalk.iteOmega, Go.IntWalk.toNatUp, e1, e2, e3, u1, u2, hk, hj, g3, gs, gr, n1, n2]
      refine IWp.cond ?_
      simp [go_sem, -getElem?_pos, -List.map_take, -List.map_drop, List.getElem?_cons_zero, List.getElem?_cons_succ, Go.IntWalk.iteOmega, Go.IntWalk.toNatUp, e1, e2, e3, u1, u2, hk, hj, g3, gs, gr, n1, n2]
      refine IWp.seq ?_
      refine IWp.run [1, 2, 9, 24, 64] ?_
      simp [go_sem, -getElem?_pos, -List.map_take, -List.map_drop, List.getElem?_cons_zero, List.getElem?_cons_succ, Go.IntWalk.iteOmega, Go.IntWalk.toNatUp, e1, e2, e3, u1, u2, hk, hj, g3, gs, gr, n1, n2]
      refine IWp.cond ?_
      simp [go_sem, -getElem?_pos, -List.map_take, -List.map_drop, List.getElem?_cons_zero, List.getElem?_cons_succ, Go.IntWalk.iteOmega, Go.IntWalk.toNatUp, e1, e2, e3, u1, u2, hk, hj, g3, gs, gr, n1, n2]
      refine IWp.seq ?_
      refine IWp.run [1, 2, 9, 75] ?_
      simp [go_sem, -getElem?_pos, -List.map_take, -List.map_drop, List.getElem?_cons_zero, List.getElem?_cons_succ, Go.IntWalk.iteOmega, Go.IntWalk.toNatUp, e1, e2, e3, u1, u2, hk, hj, g3, gs, gr, n1, n2]
      refine IWp.cond ?_
      simp [go_sem, -getElem?_pos, -List.map_take, -List.map_drop, List.getElem?_cons_zero, List.getElem?_cons_succ, Go.IntWalk.iteOmega, Go.IntWalk.toNatUp, e1, e2, e3, u1, u2, hk, hj, g3, gs, gr, n1, n2]
      refine IWp.run [9] ?_
      simp [go_sem, -getElem?_pos, -List.map_take, -List.map_drop, List.getElem?_cons_zero, List.getElem?_cons_succ, Go.IntWalk.iteOmega, Go.IntWalk.toNatUp, e1, e2, e3, u1, u2, hk, hj, g3, gs, gr, n1, n2]
      refine IWp.seq ?_
      refine IWp.run [8] ?_
      simp [go_sem, -getElem?_pos, -List.map_take, -List.map_drop, List.getElem?_cons_zero, List.getElem?_cons_succ, Go.IntWalk.iteOmega, Go.IntWalk.toNatUp, e1, e2, e3, u1, u2, hk, hj, g3, gs, gr, n1, n2]
      refine ICalls.then (same_own _ sb rb ⟨[⟨-100, 300⟩, ⟨0, 250⟩, ⟨-2147483648, 2147483647⟩], rules, table, b0, b1, b2, drain, pause, off, brk, log⟩ (hS' _ _ _ _ _ _ _ _ _ (by simp)) [] (by simp [get_set, n1, n2, gs, Sig.val, Sig.cells, Value.cells]) (by simp [get_set, n1, n2, n3, gr])) ?_
      simp [go_sem]
      refine IWp.ret ?_
      simp [go_sem, -getElem?_pos, -List.map_take, -List.map_drop, List.getElem?_cons_zero, List.getElem?_cons_succ, Go.IntWalk.iteOmega, Go.IntWalk.toNatUp, Try.results12]

end Go.Proofs.Ytmiinclnpcokkaa.I
