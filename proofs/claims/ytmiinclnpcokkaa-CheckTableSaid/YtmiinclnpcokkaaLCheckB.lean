/- Any table: the law's body. No condition. -/
import Derived.Test.YtmiinclnpcokkaaLCheck
namespace Go.Proofs.Ytmiinclnpcokkaa.I
open Go Go.RowKit
set_option linter.unusedVariables false
set_option linter.unusedSimpArgs false

theorem layS_rows : ∀ {xs : List Dt} {vs : List Value}, LayS (.row (.int .i64) 1) xs vs → ∃ T : List (List Int), vs = T.map (ints .i64)
  | _, _, .nil _ => ⟨[], rfl⟩
  | _, _, .recs hr _ _ => by cases hr
  | _, _, .one _ h hs => by
    obtain ⟨xs', vs', e, h2, _⟩ := lay_row h
    cases e
    obtain ⟨L, rfl, _⟩ := layS_int h2
    obtain ⟨T, rfl⟩ := layS_rows hs
    exact ⟨L :: T, rfl⟩
theorem layV_rows {d : Dt} {v : Value} (h : LayV (.row (.row (.int .i64) 1) 1) d v) : ∃ T : List (List Int), v = frow 1 0 (T.map (ints .i64)) := by
  obtain ⟨xs, vs, rfl, h2, _⟩ := layV_row h
  obtain ⟨T, rfl⟩ := layS_rows h2
  exact ⟨T, rfl⟩

set_option maxHeartbeats 1000000 in
theorem checkTable_law (H : Heap) (d : Draft) (T : List (List Int)) (near : Bool) (hw : d.wf) :
    IBody Try.prog 11 [d.val, frow 1 0 (T.map (ints .i64)), .bool near] H fun v _ => v = .bool true := by
  by_cases hs : shortD d
  case neg =>
    have h1 := shorts07F d hs
    simp only [Draft.cells] at h1
    refine IBody.of Try.func11 rfl (by rw [Try.ntmps11]; simp) ?_
    rw [Try.ntmps11]
    refine IWp.seq ?_
    refine IWp.run [1, 2, 3] ?_
    simp [go_sem, -getElem?_pos, -List.map_take, -List.map_drop, List.getElem?_cons_zero, List.getElem?_cons_succ, Go.IntWalk.iteOmega, Go.IntWalk.toNatUp, Draft.val, Draft.cells]
    refine IWp.seq ?_
    refine IWp.seq ?_
    refine IWp.run [1, 2, 3, 23] ?_
    simp [go_sem, -getElem?_pos, -List.map_take, -List.map_drop, List.getElem?_cons_zero, List.getElem?_cons_succ, Go.IntWalk.iteOmega, Go.IntWalk.toNatUp, Draft.val, Draft.cells]
    refine ICalls.then (nothing _) ?_
    try simp [go_sem, -getElem?_pos, -List.map_take, -List.map_drop, List.getElem?_cons_zero, List.getElem?_cons_succ, Go.IntWalk.iteOmega, Go.IntWalk.toNatUp, Draft.val, Draft.cells]
    refine ICalls.then (h1 _) ?_
    try simp [go_sem, -getElem?_pos, -List.map_take, -List.map_drop, List.getElem?_cons_zero, List.getElem?_cons_succ, Go.IntWalk.iteOmega, Go.IntWalk.toNatUp, Draft.val, Draft.cells]
    refine IWp.cond ?_
    simp [go_sem, -getElem?_pos, -List.map_take, -List.map_drop, List.getElem?_cons_zero, List.getElem?_cons_succ, Go.IntWalk.iteOmega, Go.IntWalk.toNatUp, Draft.val, Draft.cells]
    refine IWp.seq ?_
    refine IWp.run [6] ?_
    simp [go_sem, -getElem?_pos, -List.map_take, -List.map_drop, List.getElem?_cons_zero, List.getElem?_cons_succ, Go.IntWalk.iteOmega, Go.IntWalk.toNatUp, Draft.val, Draft.cells]
    refine ICalls.then (nothing _) ?_
    try simp [go_sem, -getElem?_pos, -List.map_take, -List.map_drop, List.getElem?_cons_zero, List.getElem?_cons_succ, Go.IntWalk.iteOmega, Go.IntWalk.toNatUp, Draft.val, Draft.cells]
    refine IWp.ret ?_
    simp [go_sem, -getElem?_pos, -List.map_take, -List.map_drop, List.getElem?_cons_zero, List.getElem?_cons_succ, Go.IntWalk.iteOmega, Go.IntWalk.toNatUp, Draft.val, Draft.cells, Try.results11]
  have h1 := shorts07T d hs
  simp only [Draft.cells] at h1
  by_cases hl : 80 < T.length
  · skip
    refine IBody.of Try.func11 rfl (by rw [Try.ntmps11]; simp) ?_
    rw [Try.ntmps11]
    refine IWp.seq ?_
    refine IWp.run [1, 2, 3] ?_
    simp [go_sem, -getElem?_pos, -List.map_take, -List.map_drop, List.getElem?_cons_zero, List.getElem?_cons_succ, Go.IntWalk.iteOmega, Go.IntWalk.toNatUp, Draft.val, Draft.cells, hl, show (80 : Int) < T.length by omega]
    refine IWp.seq ?_
    refine IWp.seq ?_
    refine IWp.run [1, 2, 3, 23] ?_
    simp [go_sem, -getElem?_pos, -List.map_take, -List.map_drop, List.getElem?_cons_zero, List.getElem?_cons_succ, Go.IntWalk.iteOmega, Go.IntWalk.toNatUp, Draft.val, Draft.cells, hl, show (80 : Int) < T.length by omega]
    refine ICalls.then (nothing _) ?_
    try simp [go_sem, -getElem?_pos, -List.map_take, -List.map_drop, List.getElem?_cons_zero, List.getElem?_cons_succ, Go.IntWalk.iteOmega, Go.IntWalk.toNatUp, Draft.val, Draft.cells, hl, show (80 : Int) < T.length by omega]
    refine ICalls.then (h1 _) ?_
    try simp [go_sem, -getElem?_pos, -List.map_take, -List.map_drop, List.getElem?_cons_zero, List.getElem?_cons_succ, Go.IntWalk.iteOmega, Go.IntWalk.toNatUp, Draft.val, Draft.cells, hl, show (80 : Int) < T.length by omega]
    refine IWp.cond ?_
    simp [go_sem, -getElem?_pos, -List.map_take, -List.map_drop, List.getElem?_cons_zero, List.getElem?_cons_succ, Go.IntWalk.iteOmega, Go.IntWalk.toNatUp, Draft.val, Draft.cells, hl, show (80 : Int) < T.length by omega]
    refine IWp.seq ?_
    refine IWp.run [6] ?_
    simp [go_sem, -getElem?_pos, -List.map_take, -List.map_drop, List.getElem?_cons_zero, List.getElem?_cons_succ, Go.IntWalk.iteOmega, Go.IntWalk.toNatUp, Draft.val, Draft.cells, hl, show (80 : Int) < T.length by omega]
    refine ICalls.then (nothing _) ?_
    try simp [go_sem, -getElem?_pos, -List.map_take, -List.map_drop, List.getElem?_cons_zero, List.getElem?_cons_succ, Go.IntWalk.iteOmega, Go.IntWalk.toNatUp, Draft.val, Draft.cells, hl, show (80 : Int) < T.length by omega]
    refine IWp.ret ?_
    simp [go_sem, -getElem?_pos, -List.map_take, -List.map_drop, List.getElem?_cons_zero, List.getElem?_cons_succ, Go.IntWalk.iteOmega, Go.IntWalk.toNatUp, Draft.val, Draft.cells, hl, show (80 : Int) < T.length by omega, Try.results11]
  have h2 := fun K => make K d hw
  have hS := sized_make hw
  have hR1 := rulesS_pos d
  have hR : 1 ≤ (makeS d).rules.length ∧ (makeS d).rules.length ≤ 8 := hR1
  simp only [Draft.val, Draft.cells, Config.val, Config.cells] at h2
  generalize makeS d = c at *
  have hg := Heap.get_alloc_new (H.alloc d.cells) c.cells
  simp only [Config.cells, Draft.cells, next_alloc] at hg
  refine IBody.of Try.func11 rfl (by rw [Try.ntmps11]; simp) ?_
  rw [Try.ntmps11]
  refine IWp.seq ?_
  refine IWp.run [1, 2, 3] ?_
  simp [go_sem, -getElem?_pos, -List.map_take, -List.map_drop, List.getElem?_cons_zero, List.getElem?_cons_succ, Go.IntWalk.iteOmega, Go.IntWalk.toNatUp, Draft.val, Draft.cells, hg, hl, show ¬ (80 : Int) < T.length by omega]
  refine IWp.seq ?_
  refine IWp.seq ?_
  refine IWp.run [1, 2, 3, 23] ?_
  simp [go_sem, -getElem?_pos, -List.map_take, -List.map_drop, List.getElem?_cons_zero, List.getElem?_cons_succ, Go.IntWalk.iteOmega, Go.IntWalk.toNatUp, Draft.val, Draft.cells, hg, hl, show ¬ (80 : Int) < T.length by omega]
  refine ICalls.then (nothing _) ?_
  try simp [go_sem, -getElem?_pos, -List.map_take, -List.map_drop, List.getElem?_cons_zero, List.getElem?_cons_succ, Go.IntWalk.iteOmega, Go.IntWalk.toNatUp, Draft.val, Draft.cells, hg, hl, show ¬ (80 : Int) < T.length by omega]
  refine ICalls.then (h1 _) ?_
  try simp [go_sem, -getElem?_pos, -List.map_take, -List.map_drop, List.getElem?_cons_zero, List.getElem?_cons_succ, Go.IntWalk.iteOmega, Go.IntWalk.toNatUp, Draft.val, Draft.cells, hg, hl, show ¬ (80 : Int) < T.length by omega]
  refine IWp.cond ?_
  simp [go_sem, -getElem?_pos, -List.map_take, -List.map_drop, List.getElem?_cons_zero, List.getElem?_cons_succ, Go.IntWalk.iteOmega, Go.IntWalk.toNatUp, Draft.val, Draft.cells, hg, hl, show ¬ (80 : Int) < T.length by omega]
  refine IWp.trim [1, 2, 3] (IWp.skip ?_)
  simp [go_sem, -getElem?_pos, -List.map_take, -List.map_drop, List.getElem?_cons_zero, List.getElem?_cons_succ, Go.IntWalk.iteOmega, Go.IntWalk.toNatUp, Draft.val, Draft.cells, hg, hl, show ¬ (80 : Int) < T.length by omega]
  refine IWp.seq ?_
  refine IWp.run [1, 2, 7] ?_
  simp [go_sem, -getElem?_pos, -List.map_take, -List.map_drop, List.getElem?_cons_zero, List.getElem?_cons_succ, Go.IntWalk.iteOmega, Go.IntWalk.toNatUp, Draft.val, Draft.cells, hg, hl, show ¬ (80 : Int) < T.length by omega]
  refine ICalls.then (h2 _) ?_
  try simp [go_sem, -getElem?_pos, -List.map_take, -List.map_drop, List.getElem?_cons_zero, List.getElem?_cons_succ, Go.IntWalk.iteOmega, Go.IntWalk.toNatUp, Draft.val, Draft.cells, hg, hl, show ¬ (80 : Int) < T.length by omega]
  refine IWp.seq ?_
  refine IWp.run [1, 2, 7] ?_
  simp [go_sem, -getElem?_pos, -List.map_take, -List.map_drop, List.getElem?_cons_zero, List.getElem?_cons_succ, Go.IntWalk.iteOmega, Go.IntWalk.toNatUp, Draft.val, Draft.cells, hg, hl, show ¬ (80 : Int) < T.length by omega]
  refine IWp.seq ?_
  refine IWp.seq ?_
  refine IWp.run [1, 2, 7, 8] ?_
  simp [go_sem, -getElem?_pos, -List.map_take, -List.map_drop, List.getElem?_cons_zero, List.getElem?_cons_succ, Go.IntWalk.iteOmega, Go.IntWalk.toNatUp, Draft.val, Draft.cells, hg, hl, show ¬ (80 : Int) < T.length by omega]
  refine IWp.block ?_
  -- LOOP live [1, 2, 7, 8]
  obtain ⟨CW, hCW⟩ : ∃ CW : Value → List Value, CW = fun tv => [frow 2 0 (c.sigs.map Sig.val), frow 9 0 (c.rules.map Rule.val), tv, .int .i64 c.b0, .int .i64 c.b1, .int .i64 c.b2, .int .i64 c.drain, .int .i64 c.pause, .int .i64 c.off, .bool c.brk, .int .i64 c.log] := ⟨_, rfl⟩
  obtain ⟨H1, hH1⟩ : ∃ H1, H1 = (H.alloc d.cells).alloc (CW (.slice none 0 0)) := ⟨_, rfl⟩
  have hg1 : H1.get (H.next + 1) = some ⟨CW (.slice none 0 0), true⟩ := by rw [hH1]; exact Heap.get_alloc_new _ _
  have hn1 : H1.next = H.next + 1 + 1 := by rw [hH1]; rfl
  simp only [hCW, Draft.cells] at hH1
  rw [← hH1]
  clear hH1 hg
  generalize H.next + 1 = cb at *
  obtain ⟨Z, hZ⟩ : ∃ Z : Nat → Heap → Prop, Z = fun i K => ∃ (tv : Value) (T' : List (List Int)), T'.length = i ∧ (∀ x ∈ T', x.length ≤ 20) ∧ K.get cb = some ⟨CW tv, true⟩ ∧ Bld 1 K (cb + 1) tv (T'.map (ints .i64)) ∧ cb + 1 ≤ K.next := ⟨_, rfl⟩
  refine IWp.loop (fun q e K => ∃ i : Nat, q = T.length - i ∧ i ≤ T.length ∧ e = [(1, frow 1 0 (T.map (ints .i64))), (2, .bool near), (7, ptrTo cb 0), (8, .int .i64 (i : Int))] ∧ Z i K) T.length ⟨0, rfl, Nat.zero_le _, by simp [go_sem], by rw [hZ]; exact ⟨_, [], rfl, fun _ h => (by cases h), hg1, Bld.nil _ _ _, by omega⟩⟩ ?_
  rintro q e K ⟨i, rfl, hi, rfl, hz⟩
  rw [hZ] at hz
  obtain ⟨tv, T', t1, t2, t3, t4, t5⟩ := hz
  have t3' := t3
  simp only [hCW] at t3'
  have wi := IntWalk.i64_in ((i : Int) + 1) (by omega)
  by_cases hlt : i < T.length
  case neg =>
    refine IWp.seq ?_
    refine IWp.seq ?_
    refine IWp.run [1, 2, 7, 8, 31] ?_
    simp [go_sem, -getElem?_pos, -List.map_take, -List.map_drop, List.getElem?_cons_zero, List.getElem?_cons_succ, Go.IntWalk.iteOmega, Go.IntWalk.toNatUp, hlt]
    refine IWp.cond ?_
    simp [go_sem, -getElem?_pos, -List.map_take, -List.map_drop, List.getElem?_cons_zero, List.getElem?_cons_succ, Go.IntWalk.iteOmega, Go.IntWalk.toNatUp, hlt]
    refine IWp.trim [7] (IWp.exit ?_)
    simp [go_sem, -getElem?_pos, -List.map_take, -List.map_drop, List.getElem?_cons_zero, List.getElem?_cons_succ, Go.IntWalk.iteOmega, Go.IntWalk.toNatUp, hlt]
    refine IWp.seq ?_
    obtain ⟨c', hc'⟩ : ∃ c' : Config, c' = ⟨c.sigs, c.rules, T', c.b0, c.b1, c.b2, c.drain, c.pause, c.off, c.brk, c.log⟩ := ⟨_, rfl⟩
    have hS' : Sized c' := by
      rw [hc']
      exact ⟨hS.sigs, hS.rules, show T'.length ≤ 1000 by omega, fun x hx => by have := t2 x hx; omega, hS.stages⟩
    obtain ⟨K3, hf3, k3, _, _⟩ := FrzH.one (S := fun j => decide (cb < j)) (b := cb) (cs' := c'.cells) (by simp) t3 (by
      rw [hCW, hc']
      exact .cons (.same _) (.cons (.same _) (.cons (t4.frzW fun b hb => by simp; omega) (FrzL.same _))))
    refine IWp.freezeH K3 _ (.cons (.same _) .nil) hf3 ?_
    have c1 := fun K => sameC K c' hS'
    have c2 := fun K => entriesC K c' (by have := hS'.table; omega) hS'.ent
    have c3 := fun K => refEntries K c' (by have := hS'.table; omega) hS'.ent
    clear hf3
    simp only [Config.val, Config.cells] at c1 c2 c3 k3
    refine IWp.draw [6] [cb] (.ld 0 [1, 2, 3, 4, 5, 6, 7, 8, 9] (.eff 1 (.val 2 (.ld 3 [4, 6, 7, 8, 9] (.val 5 (.eff 4 (.eff 6 (.val 7 (.val 8 (.val 9 .done))) .done) .done)))) .done)) follows (by kernel_rfl) ?_
    simp [go_sem, -getElem?_pos, -List.map_take, -List.map_drop, List.getElem?_cons_zero, List.getElem?_cons_succ, Go.IntWalk.iteOmega, Go.IntWalk.toNatUp, k3]
    refine ICalls.then (c1 _) ?_
    try simp [go_sem, -getElem?_pos, -List.map_take, -List.map_drop, List.getElem?_cons_zero, List.getElem?_cons_succ, Go.IntWalk.iteOmega, Go.IntWalk.toNatUp, k3]
    refine ICalls.then (c2 _) ?_
    try simp [go_sem, -getElem?_pos, -List.map_take, -List.map_drop, List.getElem?_cons_zero, List.getElem?_cons_succ, Go.IntWalk.iteOmega, Go.IntWalk.toNatUp, k3]
    refine ICalls.then (c3 _) ?_
    try simp [go_sem, -getElem?_pos, -List.map_take, -List.map_drop, List.getElem?_cons_zero, List.getElem?_cons_succ, Go.IntWalk.iteOmega, Go.IntWalk.toNatUp, k3]
    refine IWp.ret ?_
    simp [go_sem, -getElem?_pos, -List.map_take, -List.map_drop, List.getElem?_cons_zero, List.getElem?_cons_succ, Go.IntWalk.iteOmega, Go.IntWalk.toNatUp, k3, Try.results11]
  have g : (T.map (ints .i64))[i]? = some (ints .i64 T[i]) := by simp [hlt]
  generalize T[i] = X at *
  by_cases hX : 20 < X.length
  · skip
    refine IWp.seq ?_
    refine IWp.seq ?_
    refine IWp.run [1, 2, 7, 8, 31] ?_
    simp [go_sem, -getElem?_pos, -List.map_take, -List.map_drop, List.getElem?_cons_zero, List.getElem?_cons_succ, Go.IntWalk.iteOmega, Go.IntWalk.toNatUp, hlt, g, hX, show (20 : Int) < X.length by omega]
    refine IWp.cond ?_
    simp [go_sem, -getElem?_pos, -List.map_take, -List.map_drop, List.getElem?_cons_zero, List.getElem?_cons_succ, Go.IntWalk.iteOmega, Go.IntWalk.toNatUp, hlt, g, hX, show (20 : Int) < X.length by omega]
    refine IWp.trim [1, 2, 7, 8] (IWp.skip ?_)
    simp [go_sem, -getElem?_pos, -List.map_take, -List.map_drop, List.getElem?_cons_zero, List.getElem?_cons_succ, Go.IntWalk.iteOmega, Go.IntWalk.toNatUp, hlt, g, hX, show (20 : Int) < X.length by omega]
    refine IWp.seq ?_
    refine IWp.block ?_
    refine IWp.seq ?_
    refine IWp.seq ?_
    refine IWp.run [1, 2, 7, 8, 39] ?_
    simp [go_sem, -getElem?_pos, -List.map_take, -List.map_drop, List.getElem?_cons_zero, List.getElem?_cons_succ, Go.IntWalk.iteOmega, Go.IntWalk.toNatUp, hlt, g, hX, show (20 : Int) < X.length by omega]
    refine IWp.cond ?_
    simp [go_sem, -getElem?_pos, -List.map_take, -List.map_drop, List.getElem?_cons_zero, List.getElem?_cons_succ, Go.IntWalk.iteOmega, Go.IntWalk.toNatUp, hlt, g, hX, show (20 : Int) < X.length by omega]
    refine IWp.seq ?_
    refine IWp.run [6] ?_
    simp [go_sem, -getElem?_pos, -List.map_take, -List.map_drop, List.getElem?_cons_zero, List.getElem?_cons_succ, Go.IntWalk.iteOmega, Go.IntWalk.toNatUp, hlt, g, hX, show (20 : Int) < X.length by omega]
    refine IWp.ret ?_
    simp [go_sem, -getElem?_pos, -List.map_take, -List.map_drop, List.getElem?_cons_zero, List.getElem?_cons_succ, Go.IntWalk.iteOmega, Go.IntWalk.toNatUp, hlt, g, hX, show (20 : Int) < X.length by omega, Try.results11]
  refine IWp.seq ?_
  refine IWp.seq ?_
  refine IWp.run [1, 2, 7, 8, 31] ?_
  simp [go_sem, -getElem?_pos, -List.map_take, -List.map_drop, List.getElem?_cons_zero, List.getElem?_cons_succ, Go.IntWalk.iteOmega, Go.IntWalk.toNatUp, hlt, g, hX, show ¬ (20 : Int) < X.length by omega]
  refine IWp.cond ?_
  simp [go_sem, -getElem?_pos, -List.map_take, -List.map_drop, List.getElem?_cons_zero, List.getElem?_cons_succ, Go.IntWalk.iteOmega, Go.IntWalk.toNatUp, hlt, g, hX, show ¬ (20 : Int) < X.length by omega]
  refine IWp.trim [1, 2, 7, 8] (IWp.skip ?_)
  simp [go_sem, -getElem?_pos, -List.map_take, -List.map_drop, List.getElem?_cons_zero, List.getElem?_cons_succ, Go.IntWalk.iteOmega, Go.IntWalk.toNatUp, hlt, g, hX, show ¬ (20 : Int) < X.length by omega]
  refine IWp.seq ?_
  refine IWp.block ?_
  refine IWp.seq ?_
  refine IWp.seq ?_
  refine IWp.run [1, 2, 7, 8, 39] ?_
  simp [go_sem, -getElem?_pos, -List.map_take, -List.map_drop, List.getElem?_cons_zero, List.getElem?_cons_succ, Go.IntWalk.iteOmega, Go.IntWalk.toNatUp, hlt, g, hX, show ¬ (20 : Int) < X.length by omega]
  refine IWp.cond ?_
  simp [go_sem, -getElem?_pos, -List.map_take, -List.map_drop, List.getElem?_cons_zero, List.getElem?_cons_succ, Go.IntWalk.iteOmega, Go.IntWalk.toNatUp, hlt, g, hX, show ¬ (20 : Int) < X.length by omega]
  refine IWp.trim [1, 2, 7, 8] (IWp.skip ?_)
  simp [go_sem, -getElem?_pos, -List.map_take, -List.map_drop, List.getElem?_cons_zero, List.getElem?_cons_succ, Go.IntWalk.iteOmega, Go.IntWalk.toNatUp, hlt, g, hX, show ¬ (20 : Int) < X.length by omega]
  refine IWp.seq ?_
  refine IWp.run [1, 2, 7, 8, 9] ?_
  simp [go_sem, -getElem?_pos, -List.map_take, -List.map_drop, List.getElem?_cons_zero, List.getElem?_cons_succ, Go.IntWalk.iteOmega, Go.IntWalk.toNatUp, hlt, g, hX, show ¬ (20 : Int) < X.length by omega]
  -- CUT live [1, 2, 7, 8, 9]
  have hcbK := Heap.lt_of_get t3
  obtain ⟨Y, hY⟩ : ∃ Y : Value → Heap → Prop, Y = fun sv K' => ∃ L : List Int, L.length ≤ 20 ∧ Bld 1 K' K.next sv (L.map (Value.int .i64)) ∧ Old K K' := ⟨_, rfl⟩
  refine IWp.cut (fun e' K' => ∃ sv, e' = [(1, frow 1 0 (T.map (ints .i64))), (2, .bool near), (7, ptrTo cb 0), (8, .int .i64 (i : Int)), (9, sv)] ∧ Y sv K') ?_ ?_
  case refine_2 =>
    rintro e' K' ⟨sv, rfl, hy⟩
    rw [hY] at hy
    obtain ⟨L, y1, y2, y3⟩ := hy
    have hbl : ∀ j, j < K.next → blkOf sv j = false := fun j hj => by
      rcases y2.2 with ⟨e1, _⟩ | ⟨c, c1, e1, _⟩
      · rw [e1]; rfl
      · rw [e1]; simp [blkOf]; omega
    refine IWp.freezeE (blkOf sv) (.cons (.same _) (.cons (.same _) (.cons (.same _) (.cons (.same _) (.cons y2.frzV .nil))))) ?_
    obtain ⟨K4, hK4⟩ : ∃ K4, K4 = K'.only fun j => !blkOf sv j := ⟨_, rfl⟩
    have ho4 : ∀ j, j < K.next → K4.get j = K.get j := fun j hj => by
      rw [hK4]; show (if (!blkOf sv j) = true then K'.get j else none) = _
      rw [hbl j hj]; exact y3.1 j hj
    have hn4 : K4.next = K'.next := by rw [hK4]; rfl
    rw [← hK4]
    have ht4 : Bld 1 K4 (cb + 1) tv (T'.map (ints .i64)) := t4.same fun j k hj hk => by rw [ho4 j (Heap.lt_of_get hk)]; exact hk
    have s3 := (ho4 cb hcbK).trans t3
    have hKn := y3.2
    obtain ⟨tv', K5, e5, b5, o5, n5, f5, x5⟩ := app_one (P := Try.prog) (t := 30) (e := 36) (sz := 1) (by_ := 24) (z := .slice none 0 0) (by kernel_rfl) (by kernel_rfl) (by kernel_rfl) (by kernel_rfl) rfl (ints .i64 L) [ints .i64 L] ht4 rfl rfl (by simp [one0, ints, frow]) (by omega) (by rw [List.length_map]; omega) (by rw [List.length_map]; omega)
    have u3 := (o5 cb (by omega)).trans s3
    subst x5
    simp only [hCW] at s3 u3
    have hfin : Z (i + 1) (K5.set cb (CW (.slice (some ⟨K4.next + 1, 0, some 1⟩) ((T'.map (ints .i64)).length + 1) 1))) := by
      rw [hZ]
      refine ⟨.slice (some ⟨K4.next + 1, 0, some 1⟩) ((T'.map (ints .i64)).length + 1) 1, T' ++ [L], by simp; omega, fun x hx => (List.mem_append.1 hx).elim (t2 x) (fun h => by simp at h; subst h; exact y1), ?_, ?_, show cb + 1 ≤ K5.next by omega⟩
      · rw [get_set, if_pos rfl, u3]; rfl
      · rw [List.map_append]; exact b5.same fun j k hj hk => by rw [get_set, if_neg (by omega)]; exact hk
    simp only [hCW] at hfin
    rw [List.length_map] at hfin e5
    refine IWp.run [1, 2, 7, 8] ?_
    simp [go_sem, -getElem?_pos, -List.map_take, -List.map_drop, List.getElem?_cons_zero, List.getElem?_cons_succ, Go.IntWalk.iteOmega, Go.IntWalk.toNatUp, s3, u3, e5, get_alloc, wi, hfin, show ¬ cb = K4.next by omega]
    refine IWp.run [1, 2, 7, 8] ?_
    simp [go_sem, -getElem?_pos, -List.map_take, -List.map_drop, List.getElem?_cons_zero, List.getElem?_cons_succ, Go.IntWalk.iteOmega, Go.IntWalk.toNatUp, s3, u3, e5, get_alloc, wi, hfin, show ¬ cb = K4.next by omega]
    exact ⟨T.length - (i + 1), by omega, i + 1, rfl, by omega, by omega, hfin⟩
  refine IWp.seq ?_
  refine IWp.run [1, 2, 7, 8, 9, 10] ?_
  simp [go_sem, -getElem?_pos, -List.map_take, -List.map_drop, List.getElem?_cons_zero, List.getElem?_cons_succ, Go.IntWalk.iteOmega, Go.IntWalk.toNatUp]
  refine IWp.block ?_
  -- LOOP live [1, 2, 7, 8, 9, 10]
  obtain ⟨V, hV⟩ : ∃ V : Nat → Value → Heap → Prop, V = fun k sv K' => ∃ L : List Int, L.length = k ∧ Bld 1 K' K.next sv (L.map (Value.int .i64)) ∧ Old K K' := ⟨_, rfl⟩
  refine IWp.loop (fun q e K' => ∃ k : Nat, q = X.length - k ∧ k ≤ X.length ∧ ∃ sv, e = [(1, frow 1 0 (T.map (ints .i64))), (2, .bool near), (7, ptrTo cb 0), (8, .int .i64 (i : Int)), (9, sv), (10, .int .i64 (k : Int))] ∧ V k sv K') X.length ⟨0, rfl, Nat.zero_le _, .slice none 0 0, by simp [go_sem], by rw [hV]; exact ⟨[], rfl, Bld.nil _ _ _, Old.refl _⟩⟩ ?_
  rintro q e K' ⟨k, rfl, hk, sv, rfl, hv⟩
  rw [hV] at hv
  obtain ⟨L, v1, v2, v3⟩ := hv
  have wk := IntWalk.i64_in ((k : Int) + 1) (by omega)
  have hcv := (v3.1 cb hcbK).trans t3'
  by_cases hkl : k < X.length
  case neg =>
    have hY2 : Y sv K' := by rw [hY]; exact ⟨L, by omega, v2, v3⟩
    refine IWp.seq ?_
    refine IWp.seq ?_
    refine IWp.run [1, 2, 7, 8, 9, 10, 46] ?_
    simp [go_sem, -getElem?_pos, -List.map_take, -List.map_drop, List.getElem?_cons_zero, List.getElem?_cons_succ, Go.IntWalk.iteOmega, Go.IntWalk.toNatUp, hlt, g, hkl]
    refine IWp.cond ?_
    simp [go_sem, -getElem?_pos, -List.map_take, -List.map_drop, List.getElem?_cons_zero, List.getElem?_cons_succ, Go.IntWalk.iteOmega, Go.IntWalk.toNatUp, hlt, g, hkl]
    refine IWp.trim [1, 2, 7, 8, 9] (IWp.exit ?_)
    simp [go_sem, -getElem?_pos, -List.map_take, -List.map_drop, List.getElem?_cons_zero, List.getElem?_cons_succ, Go.IntWalk.iteOmega, Go.IntWalk.toNatUp, hlt, g, hkl]
    exact hY2
  have gk : X[k]? = some X[k] := List.getElem?_eq_getElem hkl
  generalize X[k] = x at *
  have hfin : ∀ (y : Int) (K5 : Heap) (sv' : Value), Bld 1 K5 K.next sv' (L.map (Value.int .i64) ++ [.int .i64 y]) → (∀ b, b < K.next → K5.get b = K'.get b) → K'.next ≤ K5.next → V (k + 1) sv' K5 := fun y K5 sv' hb ho hn => by
    rw [hV]
    exact ⟨L ++ [y], by simp; omega, by rw [List.map_append]; exact hb, fun b hb => by rw [ho b hb, v3.1 b hb], by have := v3.2; omega⟩
  have happ : ∀ y : Int, ∃ sv' K5, iapp Try.prog 36 sv (.slice (some ⟨K'.next, 0, some 1⟩) 1 1) (K'.alloc [.int .i64 y]) = some (sv', K5) ∧ V (k + 1) sv' K5 := fun y => by
    obtain ⟨sv', K5, e5, b5, o5, n5, _⟩ := app_one (P := Try.prog) (t := 36) (e := 3) (sz := 1) (by_ := 8) (z := .int .i64 0) (by kernel_rfl) (by kernel_rfl) (by kernel_rfl) (by kernel_rfl) rfl (.int .i64 y) [.int .i64 y] v2 rfl rfl (by simp [one0]) v3.2 (by rw [List.length_map]; omega) (by rw [List.length_map]; omega)
    exact ⟨sv', K5, e5, hfin y K5 sv' b5 o5 n5⟩
  cases near with
  | false =>
    obtain ⟨sv', K5, e5, f5⟩ := happ x
    refine IWp.seq ?_
    refine IWp.seq ?_
    refine IWp.run [1, 2, 7, 8, 9, 10, 46] ?_
    simp [go_sem, -getElem?_pos, -List.map_take, -List.map_drop, List.getElem?_cons_zero, List.getElem?_cons_succ, Go.IntWalk.iteOmega, Go.IntWalk.toNatUp, hlt, g, hkl, gk, e5, wk]
    refine IWp.cond ?_
    simp [go_sem, -getElem?_pos, -List.map_take, -List.map_drop, List.getElem?_cons_zero, List.getElem?_cons_succ, Go.IntWalk.iteOmega, Go.IntWalk.toNatUp, hlt, g, hkl, gk, e5, wk]
    refine IWp.trim [1, 2, 7, 8, 9, 10] (IWp.skip ?_)
    simp [go_sem, -getElem?_pos, -List.map_take, -List.map_drop, List.getElem?_cons_zero, List.getElem?_cons_succ, Go.IntWalk.iteOmega, Go.IntWalk.toNatUp, hlt, g, hkl, gk, e5, wk]
    refine IWp.seq ?_
    refine IWp.block ?_
    refine IWp.seq ?_
    refine IWp.run [1, 2, 7, 8, 9, 10, 11] ?_
    simp [go_sem, -getElem?_pos, -List.map_take, -List.map_drop, List.getElem?_cons_zero, List.getElem?_cons_succ, Go.IntWalk.iteOmega, Go.IntWalk.toNatUp, hlt, g, hkl, gk, e5, wk]
    refine IWp.seq ?_
    refine IWp.seq ?_
    refine IWp.run [1, 2, 7, 8, 9, 10, 11, 56] ?_
    simp [go_sem, -getElem?_pos, -List.map_take, -List.map_drop, List.getElem?_cons_zero, List.getElem?_cons_succ, Go.IntWalk.iteOmega, Go.IntWalk.toNatUp, hlt, g, hkl, gk, e5, wk]
    refine IWp.cond ?_
    simp [go_sem, -getElem?_pos, -List.map_take, -List.map_drop, List.getElem?_cons_zero, List.getElem?_cons_succ, Go.IntWalk.iteOmega, Go.IntWalk.toNatUp, hlt, g, hkl, gk, e5, wk]
    refine IWp.trim [1, 2, 7, 8, 9, 10, 11] (IWp.skip ?_)
    simp [go_sem, -getElem?_pos, -List.map_take, -List.map_drop, List.getElem?_cons_zero, List.getElem?_cons_succ, Go.IntWalk.iteOmega, Go.IntWalk.toNatUp, hlt, g, hkl, gk, e5, wk]
    refine IWp.run [1, 2, 7, 8, 9, 10] ?_
    simp [go_sem, -getElem?_pos, -List.map_take, -List.map_drop, List.getElem?_cons_zero, List.getElem?_cons_succ, Go.IntWalk.iteOmega, Go.IntWalk.toNatUp, hlt, g, hkl, gk, e5, wk]
    refine IWp.run [1, 2, 7, 8, 9, 10] ?_
    simp [go_sem, -getElem?_pos, -List.map_take, -List.map_drop, List.getElem?_cons_zero, List.getElem?_cons_succ, Go.IntWalk.iteOmega, Go.IntWalk.toNatUp, hlt, g, hkl, gk, e5, wk]
    exact ⟨X.length - (k + 1), by omega, k + 1, rfl, by omega, sv', ⟨rfl, by omega⟩, f5⟩
  | true =>
    have hu := IntWalk.u64_in (c.rules.length : Int) (by omega)
    refine IWp.seq ?_
    refine IWp.seq ?_
    refine IWp.run [1, 2, 7, 8, 9, 10, 46] ?_
    simp [go_sem, -getElem?_pos, -List.map_take, -List.map_drop, List.getElem?_cons_zero, List.getElem?_cons_succ, Go.IntWalk.iteOmega, Go.IntWalk.toNatUp, hlt, g, hkl, gk, hcv, hu, show ¬ (c.rules.length : Int) = 0 by omega, show c.rules ≠ [] from fun e => by rw [e] at hR; simp at hR]
    refine IWp.cond ?_
    simp [go_sem, -getElem?_pos, -List.map_take, -List.map_drop, List.getElem?_cons_zero, List.getElem?_cons_succ, Go.IntWalk.iteOmega, Go.IntWalk.toNatUp, hlt, g, hkl, gk, hcv, hu, show ¬ (c.rules.length : Int) = 0 by omega, show c.rules ≠ [] from fun e => by rw [e] at hR; simp at hR]
    refine IWp.trim [1, 2, 7, 8, 9, 10] (IWp.skip ?_)
    simp [go_sem, -getElem?_pos, -List.map_take, -List.map_drop, List.getElem?_cons_zero, List.getElem?_cons_succ, Go.IntWalk.iteOmega, Go.IntWalk.toNatUp, hlt, g, hkl, gk, hcv, hu, show ¬ (c.rules.length : Int) = 0 by omega, show c.rules ≠ [] from fun e => by rw [e] at hR; simp at hR]
    refine IWp.seq ?_
    refine IWp.block ?_
    refine IWp.seq ?_
    refine IWp.run [1, 2, 7, 8, 9, 10, 11] ?_
    simp [go_sem, -getElem?_pos, -List.map_take, -List.map_drop, List.getElem?_cons_zero, List.getElem?_cons_succ, Go.IntWalk.iteOmega, Go.IntWalk.toNatUp, hlt, g, hkl, gk, hcv, hu, show ¬ (c.rules.length : Int) = 0 by omega, show c.rules ≠ [] from fun e => by rw [e] at hR; simp at hR]
    refine IWp.seq ?_
    refine IWp.seq ?_
    refine IWp.run [1, 2, 7, 8, 9, 10, 11, 56] ?_
    simp [go_sem, -getElem?_pos, -List.map_take, -List.map_drop, List.getElem?_cons_zero, List.getElem?_cons_succ, Go.IntWalk.iteOmega, Go.IntWalk.toNatUp, hlt, g, hkl, gk, hcv, hu, show ¬ (c.rules.length : Int) = 0 by omega, show c.rules ≠ [] from fun e => by rw [e] at hR; simp at hR]
    refine IWp.cond ?_
    simp [go_sem, -getElem?_pos, -List.map_take, -List.map_drop, List.getElem?_cons_zero, List.getElem?_cons_succ, Go.IntWalk.iteOmega, Go.IntWalk.toNatUp, hlt, g, hkl, gk, hcv, hu, show ¬ (c.rules.length : Int) = 0 by omega, show c.rules ≠ [] from fun e => by rw [e] at hR; simp at hR]
    refine IWp.run [1, 2, 7, 8, 9, 10, 11] ?_
    simp [go_sem, -getElem?_pos, -List.map_take, -List.map_drop, List.getElem?_cons_zero, List.getElem?_cons_succ, Go.IntWalk.iteOmega, Go.IntWalk.toNatUp, hlt, g, hkl, gk, hcv, hu, show ¬ (c.rules.length : Int) = 0 by omega, show c.rules ≠ [] from fun e => by rw [e] at hR; simp at hR]
    obtain ⟨sv', K5, e5, f5⟩ := happ (IntKind.i64.wrap ((IntKind.u64.wrap x).tmod c.rules.length))
    refine IWp.run [1, 2, 7, 8, 9, 10] ?_
    simp [go_sem, -getElem?_pos, -List.map_take, -List.map_drop, List.getElem?_cons_zero, List.getElem?_cons_succ, Go.IntWalk.iteOmega, Go.IntWalk.toNatUp, e5, wk]
    refine IWp.run [1, 2, 7, 8, 9, 10] ?_
    simp [go_sem, -getElem?_pos, -List.map_take, -List.map_drop, List.getElem?_cons_zero, List.getElem?_cons_succ, Go.IntWalk.iteOmega, Go.IntWalk.toNatUp, e5, wk]
    exact ⟨X.length - (k + 1), by omega, k + 1, rfl, by omega, sv', ⟨rfl, by omega⟩, f5⟩

end Go.Proofs.Ytmiinclnpcokkaa.I
