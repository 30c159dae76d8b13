/- A configuration is like itself. No condition. -/
import Derived.Test.YtoecebibhcadoaaDoorGConf
import Derived.Test.YtoecebibhcadoaaDoorIDraw
namespace Go.Proofs.YtoecebibhcadoaaDoor.I
open Go Go.RowKit
set_option linter.unusedVariables false
set_option linter.unusedSimpArgs false
set_option maxHeartbeats 4000000 in
theorem sameIself (H : Heap) (m k : Int) (L : List Int) (hL : L.length ≤ 9223372036854775806) : ICalls Tryd.prog 41 [frow 1 m (L.map (Value.int .i64)), frow 1 k (L.map (Value.int .i64))] H fun v H' => v = .bool true ∧ H' = H := by
  refine IBody.calls (by kernel_rfl) ?_
  refine IBody.of Tryd.func41 rfl (by rw [Tryd.ntmps41]; simp) ?_
  rw [Tryd.ntmps41]
  have Kp : Kept [[0,1],[0,1,10],[],[0,1],[0,1,5]] := ⟨⟩
  iterate 5 (refine Kp.s ?_; clear Kp; intro Kp; simp [go_sem, -getElem?_pos, -List.map_take, -List.map_drop, IntWalk.iteOmega, IntWalk.toNatUp])
  refine IWp.block ?_
  refine IWp.loop (fun j e K => ∃ i : Nat, j = L.length - i ∧ i ≤ L.length ∧ K = H ∧ e = [(0, frow 1 m (L.map (Value.int .i64))), (1, frow 1 k (L.map (Value.int .i64))), (5, .int .i64 (i : Int))]) L.length ⟨0, rfl, Nat.zero_le _, rfl, by simp [go_sem]⟩ ?_
  rintro j e K ⟨i, rfl, hi, rfl, rfl⟩
  by_cases hlt : i < L.length
  · have g : L[i]? = some L[i] := by simp [hlt]
    have w1 := IntWalk.i64_in ((i : Int) + 1) (by omega)
    generalize L[i] = x at g
    have Kp : Kept [[0,1,5,14],[],[0,1,5]] := ⟨⟩
    iterate 3 (refine Kp.s ?_; clear Kp; intro Kp; simp [go_sem, -getElem?_pos, -List.map_take, -List.map_drop, IntWalk.iteOmega, IntWalk.toNatUp, g, hlt, w1])
    refine IWp.seq ?_
    refine IWp.block ?_
    refine IWp.seq ?_
    refine IWp.read [0, 1, 5, 25] follows (by kernel_rfl) ?_
    simp [go_sem, -getElem?_pos, -List.map_take, -List.map_drop, IntWalk.iteOmega, IntWalk.toNatUp, g, hlt, w1]
    have Kp : Kept [[],[0,1,5],[0,1,5]] := ⟨⟩
    iterate 3 (refine Kp.s ?_; clear Kp; intro Kp; simp [go_sem, -getElem?_pos, -List.map_take, -List.map_drop, IntWalk.iteOmega, IntWalk.toNatUp, g, hlt, w1])
    exact ⟨L.length - (i + 1), by omega, i + 1, rfl, by omega, by simp⟩
  · skip
    have Kp : Kept [[0,1,5,14],[],[],[4],[]] := ⟨⟩
    iterate 5 (refine Kp.s ?_; clear Kp; intro Kp; simp [go_sem, -getElem?_pos, -List.map_take, -List.map_drop, IntWalk.iteOmega, IntWalk.toNatUp, hlt, show ¬ (i : Int) < L.length by omega])
set_option maxRecDepth 4000 in
set_option maxHeartbeats 4000000 in
theorem sameCfg (H : Heap) (c : Config) (hw : c.wf) (hn : ∀ x ∈ c.table, x.length ≤ 1000000) : ICalls Tryd.prog 16 [c.val, c.val] H fun v H' => v = .bool true ∧ H' = H := by
  refine ICalls.ans (by simp [go_sem]) fun H => IBody.calls (by kernel_rfl) ?_
  have z1 := hw.1.2
  have z2 := hw.2.1.2
  have z3 := hw.2.2.1.2
  have z4 : ∀ x ∈ c.table, x.length ≤ 1000000 := hn
  have z5 : ∀ r ∈ c.rules, r.stages.length ≤ maxLen := fun r hr => (hw.2.1.1 r hr).2.2.2.2.2.2.2.2
  simp only [maxLen] at z1 z2 z3 z5
  have a1 : ((H.alloc [frow 2 0 (c.sigs.map Sig.val), frow 9 0 (c.rules.map Rule.val), frow 1 0 (c.table.map (ints .i64)), .int .i64 c.b0, .int .i64 c.b1, .int .i64 c.b2, .int .i64 c.drain, .int .i64 c.pause, .int .i64 c.off, .bool c.brk, .int .i64 c.log]).alloc [frow 2 0 (c.sigs.map Sig.val), frow 9 0 (c.rules.map Rule.val), frow 1 0 (c.table.map (ints .i64)), .int .i64 c.b0, .int .i64 c.b1, .int .i64 c.b2, .int .i64 c.drain, .int .i64 c.pause, .int .i64 c.off, .bool c.brk, .int .i64 c.log]).get H.next = some ⟨[frow 2 0 (c.sigs.map Sig.val), frow 9 0 (c.rules.map Rule.val), frow 1 0 (c.table.map (ints .i64)), .int .i64 c.b0, .int .i64 c.b1, .int .i64 c.b2, .int .i64 c.drain, .int .i64 c.pause, .int .i64 c.off, .bool c.brk, .int .i64 c.log], true⟩ := by simp only [get_alloc, next_alloc]; rw [if_neg (by omega)]; simp
  have a2 : ((H.alloc [frow 2 0 (c.sigs.map Sig.val), frow 9 0 (c.rules.map Rule.val), frow 1 0 (c.table.map (ints .i64)), .int .i64 c.b0, .int .i64 c.b1, .int .i64 c.b2, .int .i64 c.drain, .int .i64 c.pause, .int .i64 c.off, .bool c.brk, .int .i64 c.log]).alloc [frow 2 0 (c.sigs.map Sig.val), frow 9 0 (c.rules.map Rule.val), frow 1 0 (c.table.map (ints .i64)), .int .i64 c.b0, .int .i64 c.b1, .int .i64 c.b2, .int .i64 c.drain, .int .i64 c.pause, .int .i64 c.off, .bool c.brk, .int .i64 c.log]).get (H.next + 1) = some ⟨[frow 2 0 (c.sigs.map Sig.val), frow 9 0 (c.rules.map Rule.val), frow 1 0 (c.table.map (ints .i64)), .int .i64 c.b0, .int .i64 c.b1, .int .i64 c.b2, .int .i64 c.drain, .int .i64 c.pause, .int .i64 c.off, .bool c.brk, .int .i64 c.log], true⟩ := by simp only [get_alloc, next_alloc]; simp
  refine IBody.of Tryd.func16 rfl (by rw [Tryd.ntmps16]; simp) ?_
  rw [Tryd.ntmps16]
  have Kp : Kept [[2,3],[2,3,77],[],[2,3]] := ⟨⟩
  iterate 4 (refine Kp.s ?_; clear Kp; intro Kp; simp [go_sem, -getElem?_pos, -List.map_take, -List.map_drop, IntWalk.iteOmega, IntWalk.toNatUp, Config.val, Config.cells])
  generalize (H.alloc _).alloc _ = K0 at a1 a2 ⊢
  generalize H.next + 1 = q at a2 ⊢
  generalize H.next = p at a1 ⊢
  refine IWp.cut (fun e K => K.get p = some ⟨[frow 2 0 (c.sigs.map Sig.val), frow 9 0 (c.rules.map Rule.val), frow 1 0 (c.table.map (ints .i64)), .int .i64 c.b0, .int .i64 c.b1, .int .i64 c.b2, .int .i64 c.drain, .int .i64 c.pause, .int .i64 c.off, .bool c.brk, .int .i64 c.log], true⟩ ∧ K.get q = some ⟨[frow 2 0 (c.sigs.map Sig.val), frow 9 0 (c.rules.map Rule.val), frow 1 0 (c.table.map (ints .i64)), .int .i64 c.b0, .int .i64 c.b1, .int .i64 c.b2, .int .i64 c.drain, .int .i64 c.pause, .int .i64 c.off, .bool c.brk, .int .i64 c.log], true⟩ ∧ e = [(2, ptrTo p 0), (3, ptrTo q 0)]) ?_ ?_
  · skip
    refine IWp.one [2, 3, 5] ?_
    simp [go_sem, -getElem?_pos, -List.map_take, -List.map_drop, IntWalk.iteOmega, IntWalk.toNatUp, a1, a2]
    refine IWp.block ?_
    refine IWp.loop (fun j e K => ∃ i : Nat, j = c.sigs.length - i ∧ i ≤ c.sigs.length ∧ K.get p = some ⟨[frow 2 0 (c.sigs.map Sig.val), frow 9 0 (c.rules.map Rule.val), frow 1 0 (c.table.map (ints .i64)), .int .i64 c.b0, .int .i64 c.b1, .int .i64 c.b2, .int .i64 c.drain, .int .i64 c.pause, .int .i64 c.off, .bool c.brk, .int .i64 c.log], true⟩ ∧ K.get q = some ⟨[frow 2 0 (c.sigs.map Sig.val), frow 9 0 (c.rules.map Rule.val), frow 1 0 (c.table.map (ints .i64)), .int .i64 c.b0, .int .i64 c.b1, .int .i64 c.b2, .int .i64 c.drain, .int .i64 c.pause, .int .i64 c.off, .bool c.brk, .int .i64 c.log], true⟩ ∧ e = [(2, ptrTo p 0), (3, ptrTo q 0), (5, .int .i64 (i : Int))]) c.sigs.length ⟨0, rfl, Nat.zero_le _, a1, a2, by simp [go_sem]⟩ ?_
    clear a1 a2
    rintro j e K ⟨i, rfl, hi, a1, a2, rfl⟩
    by_cases hlt : i < c.sigs.length
    · have g : c.sigs[i]? = some c.sigs[i] := by simp [hlt]
      have w1 := IntWalk.i64_in ((i : Int) + 1) (by omega)
      generalize c.sigs[i] = x at *
      have Kp : Kept [[2,3,5,82],[],[2,3,5]] := ⟨⟩
      iterate 3 (refine Kp.s ?_; clear Kp; intro Kp; simp [go_sem, -getElem?_pos, -List.map_take, -List.map_drop, IntWalk.iteOmega, IntWalk.toNatUp, a1, a2, g, hlt, w1, Sig.val, Sig.cells])
      refine IWp.seq ?_
      refine IWp.block ?_
      refine IWp.seq ?_
      refine IWp.read [2, 3, 5, 95] follows (by kernel_rfl) ?_
      simp [go_sem, -getElem?_pos, -List.map_take, -List.map_drop, IntWalk.iteOmega, IntWalk.toNatUp, a1, a2, g, hlt, w1, Sig.val, Sig.cells]
      have Kp : Kept [[],[2,3,5],[2,3,5]] := ⟨⟩
      iterate 3 (refine Kp.s ?_; clear Kp; intro Kp; simp [go_sem, -getElem?_pos, -List.map_take, -List.map_drop, IntWalk.iteOmega, IntWalk.toNatUp, a1, a2, g, hlt, w1, Sig.val, Sig.cells])
      exact ⟨c.sigs.length - (i + 1), by omega, i + 1, rfl, by omega, by simp⟩
    · skip
      have Kp : Kept [[2,3,5,82],[],[2,3]] := ⟨⟩
      iterate 3 (refine Kp.s ?_; clear Kp; intro Kp; simp [go_sem, -getElem?_pos, -List.map_take, -List.map_drop, IntWalk.iteOmega, IntWalk.toNatUp, a1, a2, hlt, show ¬ (i : Int) < c.sigs.length by omega])
  clear a1 a2
  rintro e K1 ⟨a1, a2, rfl⟩
  refine IWp.cut (fun e K => K.get p = some ⟨[frow 2 0 (c.sigs.map Sig.val), frow 9 0 (c.rules.map Rule.val), frow 1 0 (c.table.map (ints .i64)), .int .i64 c.b0, .int .i64 c.b1, .int .i64 c.b2, .int .i64 c.drain, .int .i64 c.pause, .int .i64 c.off, .bool c.brk, .int .i64 c.log], true⟩ ∧ K.get q = some ⟨[frow 2 0 (c.sigs.map Sig.val), frow 9 0 (c.rules.map Rule.val), frow 1 0 (c.table.map (ints .i64)), .int .i64 c.b0, .int .i64 c.b1, .int .i64 c.b2, .int .i64 c.drain, .int .i64 c.pause, .int .i64 c.off, .bool c.brk, .int .i64 c.log], true⟩ ∧ e = [(2, ptrTo p 0), (3, ptrTo q 0)]) ?_ ?_
  · skip
    refine IWp.one [2, 3, 6] ?_
    simp [go_sem, -getElem?_pos, -List.map_take, -List.map_drop, IntWalk.iteOmega, IntWalk.toNatUp, a1, a2]
    refine IWp.block ?_
    refine IWp.loop (fun j e K => ∃ i : Nat, j = c.rules.length - i ∧ i ≤ c.rules.length ∧ K.get p = some ⟨[frow 2 0 (c.sigs.map Sig.val), frow 9 0 (c.rules.map Rule.val), frow 1 0 (c.table.map (ints .i64)), .int .i64 c.b0, .int .i64 c.b1, .int .i64 c.b2, .int .i64 c.drain, .int .i64 c.pause, .int .i64 c.off, .bool c.brk, .int .i64 c.log], true⟩ ∧ K.get q = some ⟨[frow 2 0 (c.sigs.map Sig.val), frow 9 0 (c.rules.map Rule.val), frow 1 0 (c.table.map (ints .i64)), .int .i64 c.b0, .int .i64 c.b1, .int .i64 c.b2, .int .i64 c.drain, .int .i64 c.pause, .int .i64 c.off, .bool c.brk, .int .i64 c.log], true⟩ ∧ e = [(2, ptrTo p 0), (3, ptrTo q 0), (6, .int .i64 (i : Int))]) c.rules.length ⟨0, rfl, Nat.zero_le _, a1, a2, by simp [go_sem]⟩ ?_
    clear a1 a2
    rintro j e K ⟨i, rfl, hi, a1, a2, rfl⟩
    by_cases hlt : i < c.rules.length
    · have g : c.rules[i]? = some c.rules[i] := by simp [hlt]
      have w1 := IntWalk.i64_in ((i : Int) + 1) (by omega)
      have zx := z5 c.rules[i] (List.getElem_mem hlt)
      generalize c.rules[i] = x at *
      have l1 := Heap.lt_of_get a1
      have l2 := Heap.lt_of_get a2
      have b1 : ((K.alloc [.int .u8 x.kind, .int .i64 x.sg, .int .i64 x.lim, .int .i64 x.back, .int .i64 x.delay, .int .i64 x.span, .int .u8 x.prio, .bool x.latch, frow 2 0 (x.stages.map Stage.val)]).alloc [.int .u8 x.kind, .int .i64 x.sg, .int .i64 x.lim, .int .i64 x.back, .int .i64 x.delay, .int .i64 x.span, .int .u8 x.prio, .bool x.latch, frow 2 0 (x.stages.map Stage.val)]).get p = some ⟨[frow 2 0 (c.sigs.map Sig.val), frow 9 0 (c.rules.map Rule.val), frow 1 0 (c.table.map (ints .i64)), .int .i64 c.b0, .int .i64 c.b1, .int .i64 c.b2, .int .i64 c.drain, .int .i64 c.pause, .int .i64 c.off, .bool c.brk, .int .i64 c.log], true⟩ := by simp only [get_alloc, next_alloc]; rw [if_neg (by omega), if_neg (by omega)]; exact a1
      have b2 : ((K.alloc [.int .u8 x.kind, .int .i64 x.sg, .int .i64 x.lim, .int .i64 x.back, .int .i64 x.delay, .int .i64 x.span, .int .u8 x.prio, .bool x.latch, frow 2 0 (x.stages.map Stage.val)]).alloc [.int .u8 x.kind, .int .i64 x.sg, .int .i64 x.lim, .int .i64 x.back, .int .i64 x.delay, .int .i64 x.span, .int .u8 x.prio, .bool x.latch, frow 2 0 (x.stages.map Stage.val)]).get q = some ⟨[frow 2 0 (c.sigs.map Sig.val), frow 9 0 (c.rules.map Rule.val), frow 1 0 (c.table.map (ints .i64)), .int .i64 c.b0, .int .i64 c.b1, .int .i64 c.b2, .int .i64 c.drain, .int .i64 c.pause, .int .i64 c.off, .bool c.brk, .int .i64 c.log], true⟩ := by simp only [get_alloc, next_alloc]; rw [if_neg (by omega), if_neg (by omega)]; exact a2
      have b3 : ((K.alloc [.int .u8 x.kind, .int .i64 x.sg, .int .i64 x.lim, .int .i64 x.back, .int .i64 x.delay, .int .i64 x.span, .int .u8 x.prio, .bool x.latch, frow 2 0 (x.stages.map Stage.val)]).alloc [.int .u8 x.kind, .int .i64 x.sg, .int .i64 x.lim, .int .i64 x.back, .int .i64 x.delay, .int .i64 x.span, .int .u8 x.prio, .bool x.latch, frow 2 0 (x.stages.map Stage.val)]).get K.next = some ⟨[.int .u8 x.kind, .int .i64 x.sg, .int .i64 x.lim, .int .i64 x.back, .int .i64 x.delay, .int .i64 x.span, .int .u8 x.prio, .bool x.latch, frow 2 0 (x.stages.map Stage.val)], true⟩ := by simp only [get_alloc, next_alloc]; rw [if_neg (by omega)]; simp
      have b4 : ((K.alloc [.int .u8 x.kind, .int .i64 x.sg, .int .i64 x.lim, .int .i64 x.back, .int .i64 x.delay, .int .i64 x.span, .int .u8 x.prio, .bool x.latch, frow 2 0 (x.stages.map Stage.val)]).alloc [.int .u8 x.kind, .int .i64 x.sg, .int .i64 x.lim, .int .i64 x.back, .int .i64 x.delay, .int .i64 x.span, .int .u8 x.prio, .bool x.latch, frow 2 0 (x.stages.map Stage.val)]).get (K.next + 1) = some ⟨[.int .u8 x.kind, .int .i64 x.sg, .int .i64 x.lim, .int .i64 x.back, .int .i64 x.delay, .int .i64 x.span, .int .u8 x.prio, .bool x.latch, frow 2 0 (x.stages.map Stage.val)], true⟩ := by simp only [get_alloc, next_alloc]; simp
      have Kp : Kept [[2,3,6,100],[],[2,3,6]] := ⟨⟩
      iterate 3 (refine Kp.s ?_; clear Kp; intro Kp; simp [go_sem, -getElem?_pos, -List.map_take, -List.map_drop, IntWalk.iteOmega, IntWalk.toNatUp, a1, a2, hlt])
      refine IWp.seq ?_
      refine IWp.block ?_
      obtain ⟨Z, hZ⟩ : ∃ Z : Env → Heap → Prop, Z = fun e M => ∃ r s : Nat, M.get p = some ⟨[frow 2 0 (c.sigs.map Sig.val), frow 9 0 (c.rules.map Rule.val), frow 1 0 (c.table.map (ints .i64)), .int .i64 c.b0, .int .i64 c.b1, .int .i64 c.b2, .int .i64 c.drain, .int .i64 c.pause, .int .i64 c.off, .bool c.brk, .int .i64 c.log], true⟩ ∧ M.get q = some ⟨[frow 2 0 (c.sigs.map Sig.val), frow 9 0 (c.rules.map Rule.val), frow 1 0 (c.table.map (ints .i64)), .int .i64 c.b0, .int .i64 c.b1, .int .i64 c.b2, .int .i64 c.drain, .int .i64 c.pause, .int .i64 c.off, .bool c.brk, .int .i64 c.log], true⟩ ∧ M.get r = some ⟨[.int .u8 x.kind, .int .i64 x.sg, .int .i64 x.lim, .int .i64 x.back, .int .i64 x.delay, .int .i64 x.span, .int .u8 x.prio, .bool x.latch, frow 2 0 (x.stages.map Stage.val)], true⟩ ∧ M.get s = some ⟨[.int .u8 x.kind, .int .i64 x.sg, .int .i64 x.lim, .int .i64 x.back, .int .i64 x.delay, .int .i64 x.span, .int .u8 x.prio, .bool x.latch, frow 2 0 (x.stages.map Stage.val)], true⟩ ∧ e = [(2, ptrTo p 0), (3, ptrTo q 0), (6, .int .i64 (i : Int)), (7, ptrTo r 0), (8, ptrTo s 0)] := ⟨_, rfl⟩
      refine IWp.cut Z ?_ ?_
      · skip
        refine IWp.draw [2, 3, 6, 7, 8] [p, q] (.val 0 (.val 2 (.val 5 (.val 7 (.val 1 (.val 3 (.val 4 (.val 6 (.val 8 (.val 9 (.eff 10 (.eff 11 (.eff 12 (.eff 13 .done .done) .done) .done) (.eff 11 (.eff 10 (.eff 12 (.eff 13 .done .done) .done) .done) .done)))))))))))) follows (by kernel_rfl) ?_
        simp [go_sem, -getElem?_pos, -List.map_take, -List.map_drop, IntWalk.iteOmega, IntWalk.toNatUp, a1, a2, g, hlt, Rule.val, Rule.cells]
        rw [hZ]
        exact ⟨⟨_, _, b1, b2, b3, b4, rfl⟩, ⟨_, _, b1, b2, b4, b3, rfl⟩⟩
      clear a1 a2 b1 b2 b3 b4 l1 l2
      rw [hZ]
      rintro e M ⟨r, s, b1, b2, b3, b4, rfl⟩
      have Kp : Kept [[2,3,6,7,8,175],[],[2,3,6,7,8],[2,3,6,7,8,9]] := ⟨⟩
      iterate 4 (refine Kp.s ?_; clear Kp; intro Kp; simp [go_sem, -getElem?_pos, -List.map_take, -List.map_drop, IntWalk.iteOmega, IntWalk.toNatUp, b3, b4])
      refine IWp.block ?_
      refine IWp.loop (fun j e K => ∃ n : Nat, j = x.stages.length - n ∧ n ≤ x.stages.length ∧ K = M ∧ e = [(2, ptrTo p 0), (3, ptrTo q 0), (6, .int .i64 (i : Int)), (7, ptrTo r 0), (8, ptrTo s 0), (9, .int .i64 (n : Int))]) x.stages.length ⟨0, rfl, Nat.zero_le _, rfl, by simp [go_sem]⟩ ?_
      rintro j e K' ⟨n, rfl, hn, rfl, rfl⟩
      by_cases hlt2 : n < x.stages.length
      · have g2 : x.stages[n]? = some x.stages[n] := by simp [hlt2]
        have w2 := IntWalk.i64_in ((n : Int) + 1) (by omega)
        generalize x.stages[n] = y at *
        have Kp : Kept [[2,3,6,7,8,9,180],[],[2,3,6,7,8,9]] := ⟨⟩
        iterate 3 (refine Kp.s ?_; clear Kp; intro Kp; simp [go_sem, -getElem?_pos, -List.map_take, -List.map_drop, IntWalk.iteOmega, IntWalk.toNatUp, b3, b4, g2, hlt2, w2, Stage.val, Stage.cells])
        refine IWp.seq ?_
        refine IWp.block ?_
        refine IWp.seq ?_
        refine IWp.read [2, 3, 6, 7, 8, 9, 193] follows (by kernel_rfl) ?_
        simp [go_sem, -getElem?_pos, -List.map_take, -List.map_drop, IntWalk.iteOmega, IntWalk.toNatUp, b3, b4, g2, hlt2, w2, Stage.val, Stage.cells]
        have Kp : Kept [[],[2,3,6,7,8,9],[2,3,6,7,8,9]] := ⟨⟩
        iterate 3 (refine Kp.s ?_; clear Kp; intro Kp; simp [go_sem, -getElem?_pos, -List.map_take, -List.map_drop, IntWalk.iteOmega, IntWalk.toNatUp, b3, b4, g2, hlt2, w2, Stage.val, Stage.cells])
        exact ⟨x.stages.length - (n + 1), by omega, n + 1, rfl, by omega, by simp⟩
      · skip
        have Kp : Kept [[2,3,6,7,8,9,180],[],[2,3,6],[2,3,6]] := ⟨⟩
        iterate 4 (refine Kp.s ?_; clear Kp; intro Kp; simp [go_sem, -getElem?_pos, -List.map_take, -List.map_drop, IntWalk.iteOmega, IntWalk.toNatUp, b3, b4, hlt2, w1, show ¬ (n : Int) < x.stages.length by omega])
        exact ⟨c.rules.length - (i + 1), by omega, i + 1, rfl, by omega, b1, b2, by simp⟩
    · skip
      have Kp : Kept [[2,3,6,100],[],[2,3]] := ⟨⟩
      iterate 3 (refine Kp.s ?_; clear Kp; intro Kp; simp [go_sem, -getElem?_pos, -List.map_take, -List.map_drop, IntWalk.iteOmega, IntWalk.toNatUp, a1, a2, hlt, show ¬ (i : Int) < c.rules.length by omega])
  clear a1 a2
  rintro e K2 ⟨a1, a2, rfl⟩
  refine IWp.one [2, 3, 10] ?_
  simp [go_sem, -getElem?_pos, -List.map_take, -List.map_drop, IntWalk.iteOmega, IntWalk.toNatUp, a1, a2]
  refine IWp.block ?_
  refine IWp.loop (fun j e K => ∃ i : Nat, j = c.table.length - i ∧ i ≤ c.table.length ∧ K.get p = some ⟨[frow 2 0 (c.sigs.map Sig.val), frow 9 0 (c.rules.map Rule.val), frow 1 0 (c.table.map (ints .i64)), .int .i64 c.b0, .int .i64 c.b1, .int .i64 c.b2, .int .i64 c.drain, .int .i64 c.pause, .int .i64 c.off, .bool c.brk, .int .i64 c.log], true⟩ ∧ K.get q = some ⟨[frow 2 0 (c.sigs.map Sig.val), frow 9 0 (c.rules.map Rule.val), frow 1 0 (c.table.map (ints .i64)), .int .i64 c.b0, .int .i64 c.b1, .int .i64 c.b2, .int .i64 c.drain, .int .i64 c.pause, .int .i64 c.off, .bool c.brk, .int .i64 c.log], true⟩ ∧ e = [(2, ptrTo p 0), (3, ptrTo q 0), (10, .int .i64 (i : Int))]) c.table.length ⟨0, rfl, Nat.zero_le _, a1, a2, by simp [go_sem]⟩ ?_
  clear a1 a2
  rintro j e K ⟨i, rfl, hi, a1, a2, rfl⟩
  by_cases hlt : i < c.table.length
  · have g : c.table[i]? = some c.table[i] := by simp [hlt]
    have w1 := IntWalk.i64_in ((i : Int) + 1) (by omega)
    have zx := z4 c.table[i] (List.getElem_mem hlt)
    generalize c.table[i] = x at *
    have Kp : Kept [[2,3,10,198],[],[2,3,10]] := ⟨⟩
    iterate 3 (refine Kp.s ?_; clear Kp; intro Kp; simp [go_sem, -getElem?_pos, -List.map_take, -List.map_drop, IntWalk.iteOmega, IntWalk.toNatUp, a1, a2, g, hlt, w1, ints])
    refine IWp.seq ?_
    refine IWp.block ?_
    refine IWp.seq ?_
    refine IWp.draw [2, 3, 10, 212] [] (.val 0 (.ld 1 [3, 4, 10, 11] (.val 2 (.val 3 (.ld 4 [10, 11] (.val 5 (.ld 6 [8, 9, 10, 11] (.val 7 (.val 8 (.ld 9 [10, 11] (.eff 10 (.val 11 .done) .done))))))))))) follows (by kernel_rfl) ?_
    simp [go_sem, -getElem?_pos, -List.map_take, -List.map_drop, IntWalk.iteOmega, IntWalk.toNatUp, a1, a2, g, hlt, w1, ints]
    refine ICalls.then (sameIself K 0 0 x (by omega)) ?_
    try simp [go_sem, -getElem?_pos, -List.map_take, -List.map_drop, IntWalk.iteOmega, IntWalk.toNatUp, a1, a2, g, hlt, w1, ints]
    have Kp : Kept [[],[2,3,10],[2,3,10]] := ⟨⟩
    iterate 3 (refine Kp.s ?_; clear Kp; intro Kp; simp [go_sem, -getElem?_pos, -List.map_take, -List.map_drop, IntWalk.iteOmega, IntWalk.toNatUp, a1, a2, g, hlt, w1, ints])
    exact ⟨c.table.length - (i + 1), by omega, i + 1, rfl, by omega, by simp⟩
  · skip
    have Kp : Kept [[2,3,10,198],[],[],[4],[]] := ⟨⟩
    iterate 5 (refine Kp.s ?_; clear Kp; intro Kp; simp [go_sem, -getElem?_pos, -List.map_take, -List.map_drop, IntWalk.iteOmega, IntWalk.toNatUp, a1, a2, hlt, show ¬ (i : Int) < c.table.length by omega])
end Go.Proofs.YtoecebibhcadoaaDoor.I
