/- What is shown, by the document. No condition. -/
import Derived.Test.YtdimnoeldnfikaaGPanelS
namespace Go.Proofs.Ytdimnoeldnfikaa.I
open Go Go.RowKit
set_option linter.unusedVariables false
set_option linter.unusedSimpArgs false

def panV (a bg : Int) : Value := .agg ⟨[.int .u8 a, .int .i64 bg]⟩
theorem outS_cl (o : Outp) : Cl o.val := by
  simp [Outp.val, Outp.cells, go_sem]
  exact fun y _ => Lamp.cl y

set_option maxRecDepth 100000 in
set_option maxHeartbeats 4000000 in
theorem refShowC (H : Heap) (a bg now : Int) (L : List Light) (h : Hush) (hL : L.length ≤ 100000) (hn : (L.map Light.cond).Nodup) (w1 : -9223372036854775808 ≤ now ∧ now < 9223372036854775808) (w2 : -9223372036854775808 ≤ bg ∧ bg < 9223372036854775808) :
    ICalls Try.prog 40 [panV a bg, .int .i64 now, frow 7 0 (L.map Light.val), h.val] H fun v H' => v = .tuple ⟨[panV (audioS now L h) (beganS a bg now L h), (outS a bg now L h).val]⟩ ∧ H' = H := by
  refine ICalls.ans (by
    rw [Cl_tuple, ClL_cons, ClL_cons, ClL_nil]
    exact ⟨by simp [panV, go_sem], outS_cl _, trivial⟩) fun H => IBody.calls (by kernel_rfl) ?_
  have c1 := fun K => refLampsC K L hL
  have c5 := fun K => refHighestC K L true (by omega)
  rw [show heardB true = loudB from rfl] at c5
  have hpn : ∀ n : Nat, ¬ n = n + 1 := by intro n; omega
  refine IBody.of Try.func40 rfl (by rw [Try.ntmps40]; simp) ?_
  rw [Try.ntmps40]
  refine IWp.seq ?_
  refine IWp.run [1, 2, 4, 7, 8, 9] ?_
  simp [go_sem, -getElem?_pos, -List.map_take, -List.map_drop, List.getElem?_cons_zero, List.getElem?_cons_succ, Go.IntWalk.iteOmega, Go.IntWalk.toNatUp, panV, Hush.val, Hush.cells, get_alloc, next_alloc]
  -- CUT live [1, 2, 4, 8, 9, 10]
  obtain ⟨n0, hn0⟩ : ∃ n0, n0 = H.next := ⟨_, rfl⟩
  obtain ⟨H2, hH2⟩ : ∃ H2, H2 = (((H.alloc [.int .u8 a, .int .i64 bg]).alloc [.int .i64 h.till, .int .i64 h.off, .int .u8 h.mark]).alloc [.int .u8 0, .int .i64 0]).alloc [.int .i64 0, .slice none 0 0, .int .u8 0, .bool false, .bool false, .bool false] := ⟨_, rfl⟩
  have g4 : H2.get n0 = some ⟨[.int .u8 a, .int .i64 bg], true⟩ := by rw [hH2, hn0]; simp [get_alloc, next_alloc, show ¬ H.next = H.next + 1 + 1 + 1 by omega, show ¬ H.next = H.next + 1 + 1 by omega]
  have g7 : H2.get (n0 + 1) = some ⟨[.int .i64 h.till, .int .i64 h.off, .int .u8 h.mark], true⟩ := by rw [hH2, hn0]; simp [get_alloc, next_alloc, show ¬ H.next + 1 = H.next + 1 + 1 + 1 by omega]
  have g8 : H2.get (n0 + 1 + 1) = some ⟨[.int .u8 0, .int .i64 0], true⟩ := by rw [hH2, hn0]; simp [get_alloc, next_alloc]
  have g9 : H2.get (n0 + 1 + 1 + 1) = some ⟨[.int .i64 0, .slice none 0 0, .int .u8 0, .bool false, .bool false, .bool false], true⟩ := by rw [hH2, hn0]; simp [get_alloc, next_alloc]
  have hn2 : H2.next = n0 + 1 + 1 + 1 + 1 := by rw [hH2, hn0]; rfl
  rw [← hH2, ← hn0]
  clear hH2 hn0
  have d1 : ¬ n0 = n0 + 1 + 1 + 1 + 1 := by omega
  have d2 : ¬ n0 + 1 = n0 + 1 + 1 + 1 + 1 := by omega
  have d3 : ¬ n0 + 1 + 1 = n0 + 1 + 1 + 1 + 1 := by omega
  have d4 : ¬ n0 + 1 + 1 + 1 = n0 + 1 + 1 + 1 + 1 := by omega
  have d5 : ¬ n0 + 1 + 1 + 1 + 1 = n0 := by omega
  have d6 : ¬ n0 + 1 + 1 = n0 := by omega
  have d7 : ¬ n0 + 1 + 1 + 1 = n0 := by omega
  have d8 : ¬ n0 + 1 + 1 + 1 = n0 + 1 + 1 := by omega
  have d9 : ¬ n0 + 1 + 1 + 1 + 1 = n0 + 1 + 1 := by omega
  have d10 : ¬ n0 + 1 + 1 + 1 + 1 = n0 + 1 + 1 + 1 := by omega
  have d11 : ¬ n0 = n0 + 1 + 1 := by omega
  have d12 : ¬ n0 = n0 + 1 + 1 + 1 := by omega
  have d13 : ¬ n0 + 1 + 1 = n0 + 1 + 1 + 1 := by omega
  obtain ⟨Y, hY⟩ : ∃ Y : Heap → Prop, Y = fun K => K = H2.alloc [.int .i64 now, frow 5 0 ((lampsS L).map Lamp.val), .int .u8 0, .bool false, .bool (decide (now < h.till)), .bool (decide (now < h.off))] := ⟨_, rfl⟩
  have hYi := Eq.mpr (congrFun hY (H2.alloc [.int .i64 now, frow 5 0 ((lampsS L).map Lamp.val), .int .u8 0, .bool false, .bool (decide (now < h.till)), .bool (decide (now < h.off))])) rfl
  refine IWp.cut (fun e' K => e' = [(1, .int .i64 now), (2, frow 7 0 (L.map Light.val)), (4, ptrTo n0 0), (8, ptrTo (n0 + 1 + 1) 0), (9, ptrTo (n0 + 1 + 1 + 1) 0), (10, ptrTo (n0 + 1 + 1 + 1 + 1) 0)] ∧ Y K) ?_ ?_
  · skip
    refine IWp.draw [1, 2, 4, 8, 9, 10] [(n0 + 1)] (.val 0 (.val 1 (.val 3 (.val 5 (.val 7 (.val 9 (.val 4 (.val 6 (.val 8 (.val 10 (.eff 2 (.val 11 (.eff 12 (.eff 13 .done .done) .done)) (.eff 12 (.eff 2 (.val 11 (.eff 13 .done .done)) .done) .done)))))))))))) follows (by kernel_rfl) ?_
    simp [go_sem, -getElem?_pos, -List.map_take, -List.map_drop, List.getElem?_cons_zero, List.getElem?_cons_succ, Go.IntWalk.iteOmega, Go.IntWalk.toNatUp, g7, hn2, get_alloc, d2]
    -- 2 ORDERS
    repeat' (first
      | (refine ICalls.then (c1 _) ?_; simp [go_sem, -getElem?_pos, -List.map_take, -List.map_drop, List.getElem?_cons_zero, List.getElem?_cons_succ, Go.IntWalk.iteOmega, Go.IntWalk.toNatUp, g7, hn2, get_alloc, hYi, d2])
      | (refine ⟨?_, ?_⟩))
  rintro e' K ⟨rfl, hK⟩
  rw [hY] at hK
  subst hK
  clear hYi hY
  obtain ⟨H3, hH3⟩ : ∃ H3, H3 = H2.alloc [.int .i64 now, frow 5 0 ((lampsS L).map Lamp.val), .int .u8 0, .bool false, .bool (decide (now < h.till)), .bool (decide (now < h.off))] := ⟨_, rfl⟩
  have hA : ∀ b, b < H2.next → H3.get b = H2.get b := fun b hb => by rw [hH3]; exact Heap.get_alloc_lt _ _ _ hb
  have k10 : H3.get (n0 + 1 + 1 + 1 + 1) = some ⟨[.int .i64 now, frow 5 0 ((lampsS L).map Lamp.val), .int .u8 0, .bool false, .bool (decide (now < h.till)), .bool (decide (now < h.off))], true⟩ := by rw [hH3, ← hn2]; exact Heap.get_alloc_new _ _
  have k4 := (hA n0 (by omega)).trans g4
  have k8 := (hA (n0 + 1 + 1) (by omega)).trans g8
  have k9 := (hA (n0 + 1 + 1 + 1) (by omega)).trans g9
  rw [← hH3]
  clear hH3 hA g4 g7 g8 g9 hn2
  obtain ⟨Z, hZ⟩ : ∃ Z : Value → Heap → Prop, Z = fun v H' => Frz H' (fun _ => true) v (.tuple ⟨[panV (audioS now L h) (beganS a bg now L h), (outS a bg now L h).val]⟩) := ⟨_, rfl⟩
  have hZi : ∀ H', Z (.tuple ⟨[panV (audioS now L h) (beganS a bg now L h), (outS a bg now L h).val]⟩) H' := fun H' => by rw [hZ]; exact .same _
  have hZe : ∀ v H', Frz H' (fun _ => true) v (.tuple ⟨[panV (audioS now L h) (beganS a bg now L h), (outS a bg now L h).val]⟩) = Z v H' := fun v H' => by rw [hZ]
  have hZp : (fun v H' => Frz H' (fun _ => true) v (.tuple ⟨[panV (audioS now L h) (beganS a bg now L h), (outS a bg now L h).val]⟩)) = Z := hZ.symm
  simp only [panV] at hZp
  simp only [hZp]
  clear hZ hZe hZp
  unfold outS beganS at hZi
  by_cases hs : now < h.till ∨ now < h.off
  · have hau : audioS now L h = 0 := by unfold audioS; rw [if_pos hs]
    rw [hau] at hZi
    have hs1 : ¬ (now < h.till) → now < h.off := fun h1 => hs.elim (fun h2 => absurd h2 h1) id
    by_cases ht : now < h.till
    · by_cases ha : a = 0
      · subst ha
        rw [if_pos rfl] at hZi
        refine IWp.seq ?_
        refine IWp.seq ?_
        refine IWp.run [1, 2, 4, 8, 9, 10, 30] ?_
        simp [go_sem, -getElem?_pos, -List.map_take, -List.map_drop, List.getElem?_cons_zero, List.getElem?_cons_succ, Go.IntWalk.iteOmega, Go.IntWalk.toNatUp, k4, k8, k9, k10, d5, d6, d7, d8, d9, d10, d11, d12, d13, d1, d3, d4, ht]
        refine IWp.cond ?_
        simp [go_sem, -getElem?_pos, -List.map_take, -List.map_drop, List.getElem?_cons_zero, List.getElem?_cons_succ, Go.IntWalk.iteOmega, Go.IntWalk.toNatUp, k4, k8, k9, k10, d5, d6, d7, d8, d9, d10, d11, d12, d13, d1, d3, d4, ht]
        refine IWp.trim [1, 4, 8, 9, 10] (IWp.skip ?_)
        simp [go_sem, -getElem?_pos, -List.map_take, -List.map_drop, List.getElem?_cons_zero, List.getElem?_cons_succ, Go.IntWalk.iteOmega, Go.IntWalk.toNatUp, k4, k8, k9, k10, d5, d6, d7, d8, d9, d10, d11, d12, d13, d1, d3, d4, ht]
        refine IWp.seq ?_
        refine IWp.seq ?_
        refine IWp.run [1, 4, 8, 9, 10, 38] ?_
        simp [go_sem, -getElem?_pos, -List.map_take, -List.map_drop, List.getElem?_cons_zero, List.getElem?_cons_succ, Go.IntWalk.iteOmega, Go.IntWalk.toNatUp, k4, k8, k9, k10, d5, d6, d7, d8, d9, d10, d11, d12, d13, d1, d3, d4, ht]
        refine IWp.cond ?_
        simp [go_sem, -getElem?_pos, -List.map_take, -List.map_drop, List.getElem?_cons_zero, List.getElem?_cons_succ, Go.IntWalk.iteOmega, Go.IntWalk.toNatUp, k4, k8, k9, k10, d5, d6, d7, d8, d9, d10, d11, d12, d13, d1, d3, d4, ht]
        refine IWp.trim [1, 4, 8, 9, 10] (IWp.skip ?_)
        simp [go_sem, -getElem?_pos, -List.map_take, -List.map_drop, List.getElem?_cons_zero, List.getElem?_cons_succ, Go.IntWalk.iteOmega, Go.IntWalk.toNatUp, k4, k8, k9, k10, d5, d6, d7, d8, d9, d10, d11, d12, d13, d1, d3, d4, ht]
        refine IWp.seq ?_
        refine IWp.draw [4, 8, 9, 10] [n0] (.val 0 (.val 2 (.val 3 (.ld 4 [5, 6, 7, 8] (.eff 1 (.eff 5 (.eff 6 (.val 7 (.eff 8 .done .done)) .done) .done) (.eff 5 (.ld 1 [6, 7, 8] (.eff 6 (.val 7 (.eff 8 .done .done)) .done)) .done)))))) follows (by kernel_rfl) ?_
        simp [go_sem, -getElem?_pos, -List.map_take, -List.map_drop, List.getElem?_cons_zero, List.getElem?_cons_succ, Go.IntWalk.iteOmega, Go.IntWalk.toNatUp, k4, k8, k9, k10, d5, d6, d7, d8, d9, d10, d11, d12, d13, d1, d3, d4, ht]
        -- 2 ORDERS
        repeat' (first
          | (refine ICalls.then (refSinceC _ _ _ w1 (by omega)) ?_; simp [go_sem, -getElem?_pos, -List.map_take, -List.map_drop, List.getElem?_cons_zero, List.getElem?_cons_succ, Go.IntWalk.iteOmega, Go.IntWalk.toNatUp, get_set, k4, k8, k9, k10, d5, d6, d7, d8, d9, d10, d11, d12, d13, d1, d3, d4, ht])
          | (refine ICalls.then (refSound _ _ _) ?_; simp [go_sem, -getElem?_pos, -List.map_take, -List.map_drop, List.getElem?_cons_zero, List.getElem?_cons_succ, Go.IntWalk.iteOmega, Go.IntWalk.toNatUp, get_set, k4, k8, k9, k10, d5, d6, d7, d8, d9, d10, d11, d12, d13, d1, d3, d4, ht])
          | (refine And.intro ?_ ?_))
        all_goals (
          skip
          refine IWp.seq ?_
          refine IWp.draw [8, 9] [n0, (n0 + 1 + 1 + 1 + 1)] (.ld 0 [2, 3] (.val 1 (.eff 2 (.eff 3 .done .done) .done))) follows (by kernel_rfl) ?_
          simp [go_sem, -getElem?_pos, -List.map_take, -List.map_drop, List.getElem?_cons_zero, List.getElem?_cons_succ, Go.IntWalk.iteOmega, Go.IntWalk.toNatUp, k4, k8, k9, k10, d5, d6, d7, d8, d9, d10, d11, d12, d13, d1, d3, d4, ht]
          refine IWp.ret ?_
          simp [go_sem, -getElem?_pos, -List.map_take, -List.map_drop, List.getElem?_cons_zero, List.getElem?_cons_succ, Go.IntWalk.iteOmega, Go.IntWalk.toNatUp, k4, k8, k9, k10, d5, d6, d7, d8, d9, d10, d11, d12, d13, d1, d3, d4, ht, Try.results40]
          rw [soundSR]
          have hz := hZi
          simp only [Outp.val, Outp.cells, panV] at hz
          simpa [ht] using hz _
        )
      · rw [if_neg (fun e => ha e.symm)] at hZi
        refine IWp.seq ?_
        refine IWp.seq ?_
        refine IWp.run [1, 2, 4, 8, 9, 10, 30] ?_
        simp [go_sem, -getElem?_pos, -List.map_take, -List.map_drop, List.getElem?_cons_zero, List.getElem?_cons_succ, Go.IntWalk.iteOmega, Go.IntWalk.toNatUp, k4, k8, k9, k10, d5, d6, d7, d8, d9, d10, d11, d12, d13, d1, d3, d4, ht, ha, show ¬ (0 : Int) = a from fun e => ha e.symm]
        refine IWp.cond ?_
        simp [go_sem, -getElem?_pos, -List.map_take, -List.map_drop, List.getElem?_cons_zero, List.getElem?_cons_succ, Go.IntWalk.iteOmega, Go.IntWalk.toNatUp, k4, k8, k9, k10, d5, d6, d7, d8, d9, d10, d11, d12, d13, d1, d3, d4, ht, ha, show ¬ (0 : Int) = a from fun e => ha e.symm]
        refine IWp.trim [1, 4, 8, 9, 10] (IWp.skip ?_)
        simp [go_sem, -getElem?_pos, -List.map_take, -List.map_drop, List.getElem?_cons_zero, List.getElem?_cons_succ, Go.IntWalk.iteOmega, Go.IntWalk.toNatUp, k4, k8, k9, k10, d5, d6, d7, d8, d9, d10, d11, d12, d13, d1, d3, d4, ht, ha, show ¬ (0 : Int) = a from fun e => ha e.symm]
        refine IWp.seq ?_
        refine IWp.seq ?_
        refine IWp.run [1, 4, 8, 9, 10, 38] ?_
        simp [go_sem, -getElem?_pos, -List.map_take, -List.map_drop, List.getElem?_cons_zero, List.getElem?_cons_succ, Go.IntWalk.iteOmega, Go.IntWalk.toNatUp, k4, k8, k9, k10, d5, d6, d7, d8, d9, d10, d11, d12, d13, d1, d3, d4, ht, ha, show ¬ (0 : Int) = a from fun e => ha e.symm]
        refine IWp.cond ?_
        simp [go_sem, -getElem?_pos, -List.map_take, -List.map_drop, List.getElem?_cons_zero, List.getElem?_cons_succ, Go.IntWalk.iteOmega, Go.IntWalk.toNatUp, k4, k8, k9, k10, d5, d6, d7, d8, d9, d10, d11, d12, d13, d1, d3, d4, ht, ha, show ¬ (0 : Int) = a from fun e => ha e.symm]
        refine IWp.run [1, 4, 8, 9, 10] ?_
        simp [go_sem, -getElem?_pos, -List.map_take, -List.map_drop, List.getElem?_cons_zero, List.getElem?_cons_succ, Go.IntWalk.iteOmega, Go.IntWalk.toNatUp, k4, k8, k9, k10, d5, d6, d7, d8, d9, d10, d11, d12, d13, d1, d3, d4, ht, ha, show ¬ (0 : Int) = a from fun e => ha e.symm]
        refine IWp.seq ?_
        refine IWp.draw [4, 8, 9, 10] [n0] (.val 0 (.val 2 (.val 3 (.ld 4 [5, 6, 7, 8] (.eff 1 (.eff 5 (.eff 6 (.val 7 (.eff 8 .done .done)) .done) .done) (.eff 5 (.ld 1 [6, 7, 8] (.eff 6 (.val 7 (.eff 8 .done .done)) .done)) .done)))))) follows (by kernel_rfl) ?_
        simp [go_sem, -getElem?_pos, -List.map_take, -List.map_drop, List.getElem?_cons_zero, List.getElem?_cons_succ, Go.IntWalk.iteOmega, Go.IntWalk.toNatUp, k4, k8, k9, k10, d5, d6, d7, d8, d9, d10, d11, d12, d13, d1, d3, d4, ht, ha, show ¬ (0 : Int) = a from fun e => ha e.symm]
        -- 2 ORDERS
        repeat' (first
          | (refine ICalls.then (refSinceC _ _ _ w1 (by omega)) ?_; simp [go_sem, -getElem?_pos, -List.map_take, -List.map_drop, List.getElem?_cons_zero, List.getElem?_cons_succ, Go.IntWalk.iteOmega, Go.IntWalk.toNatUp, get_set, k4, k8, k9, k10, d5, d6, d7, d8, d9, d10, d11, d12, d13, d1, d3, d4, ht, ha, show ¬ (0 : Int) = a from fun e => ha e.symm])
          | (refine ICalls.then (refSound _ _ _) ?_; simp [go_sem, -getElem?_pos, -List.map_take, -List.map_drop, List.getElem?_cons_zero, List.getElem?_cons_succ, Go.IntWalk.iteOmega, Go.IntWalk.toNatUp, get_set, k4, k8, k9, k10, d5, d6, d7, d8, d9, d10, d11, d12, d13, d1, d3, d4, ht, ha, show ¬ (0 : Int) = a from fun e => ha e.symm])
          | (refine And.intro ?_ ?_))
        all_goals (
          skip
          refine IWp.seq ?_
          refine IWp.draw [8, 9] [n0, (n0 + 1 + 1 + 1 + 1)] (.ld 0 [2, 3] (.val 1 (.eff 2 (.eff 3 .done .done) .done))) follows (by kernel_rfl) ?_
          simp [go_sem, -getElem?_pos, -List.map_take, -List.map_drop, List.getElem?_cons_zero, List.getElem?_cons_succ, Go.IntWalk.iteOmega, Go.IntWalk.toNatUp, k4, k8, k9, k10, d5, d6, d7, d8, d9, d10, d11, d12, d13, d1, d3, d4, ht, ha, show ¬ (0 : Int) = a from fun e => ha e.symm]
          refine IWp.ret ?_
          simp [go_sem, -getElem?_pos, -List.map_take, -List.map_drop, List.getElem?_cons_zero, List.getElem?_cons_succ, Go.IntWalk.iteOmega, Go.IntWalk.toNatUp, k4, k8, k9, k10, d5, d6, d7, d8, d9, d10, d11, d12, d13, d1, d3, d4, ht, ha, show ¬ (0 : Int) = a from fun e => ha e.symm, Try.results40]
          rw [soundSR]
          have hz := hZi
          simp only [Outp.val, Outp.cells, panV] at hz
          simpa [ht] using hz _
        )
    · have ho := hs1 ht
      by_cases ha : a = 0
      · subst ha
        rw [if_pos rfl] at hZi
        refine IWp.seq ?_
        refine IWp.seq ?_
        refine IWp.run [1, 2, 4, 8, 9, 10, 30] ?_
        simp [go_sem, -getElem?_pos, -List.map_take, -List.map_drop, List.getElem?_cons_zero, List.getElem?_cons_succ, Go.IntWalk.iteOmega, Go.IntWalk.toNatUp, k4, k8, k9, k10, d5, d6, d7, d8, d9, d10, d11, d12, d13, d1, d3, d4, ht, ho]
        refine IWp.cond ?_
        simp [go_sem, -getElem?_pos, -List.map_take, -List.map_drop, List.getElem?_cons_zero, List.getElem?_cons_succ, Go.IntWalk.iteOmega, Go.IntWalk.toNatUp, k4, k8, k9, k10, d5, d6, d7, d8, d9, d10, d11, d12, d13, d1, d3, d4, ht, ho]
        refine IWp.trim [1, 4, 8, 9, 10] (IWp.skip ?_)
        simp [go_sem, -getElem?_pos, -List.map_take, -List.map_drop, List.getElem?_cons_zero, List.getElem?_cons_succ, Go.IntWalk.iteOmega, Go.IntWalk.toNatUp, k4, k8, k9, k10, d5, d6, d7, d8, d9, d10, d11, d12, d13, d1, d3, d4, ht, ho]
        refine IWp.seq ?_
        refine IWp.seq ?_
        refine IWp.run [1, 4, 8, 9, 10, 38] ?_
        simp [go_sem, -getElem?_pos, -List.map_take, -List.map_drop, List.getElem?_cons_zero, List.getElem?_cons_succ, Go.IntWalk.iteOmega, Go.IntWalk.toNatUp, k4, k8, k9, k10, d5, d6, d7, d8, d9, d10, d11, d12, d13, d1, d3, d4, ht, ho]
        refine IWp.cond ?_
        simp [go_sem, -getElem?_pos, -List.map_take, -List.map_drop, List.getElem?_cons_zero, List.getElem?_cons_succ, Go.IntWalk.iteOmega, Go.IntWalk.toNatUp, k4, k8, k9, k10, d5, d6, d7, d8, d9, d10, d11, d12, d13, d1, d3, d4, ht, ho]
        refine IWp.trim [1, 4, 8, 9, 10] (IWp.skip ?_)
        simp [go_sem, -getElem?_pos, -List.map_take, -List.map_drop, List.getElem?_cons_zero, List.getElem?_cons_succ, Go.IntWalk.iteOmega, Go.IntWalk.toNatUp, k4, k8, k9, k10, d5, d6, d7, d8, d9, d10, d11, d12, d13, d1, d3, d4, ht, ho]
        refine IWp.seq ?_
        refine IWp.draw [4, 8, 9, 10] [n0] (.val 0 (.val 2 (.val 3 (.ld 4 [5, 6, 7, 8] (.eff 1 (.eff 5 (.eff 6 (.val 7 (.eff 8 .done .done)) .done) .done) (.eff 5 (.ld 1 [6, 7, 8] (.eff 6 (.val 7 (.eff 8 .done .done)) .done)) .done)))))) follows (by kernel_rfl) ?_
        simp [go_sem, -getElem?_pos, -List.map_take, -List.map_drop, List.getElem?_cons_zero, List.getElem?_cons_succ, Go.IntWalk.iteOmega, Go.IntWalk.toNatUp, k4, k8, k9, k10, d5, d6, d7, d8, d9, d10, d11, d12, d13, d1, d3, d4, ht, ho]
        -- 2 ORDERS
        repeat' (first
          | (refine ICalls.then (refSinceC _ _ _ w1 (by omega)) ?_; simp [go_sem, -getElem?_pos, -List.map_take, -List.map_drop, List.getElem?_cons_zero, List.getElem?_cons_succ, Go.IntWalk.iteOmega, Go.IntWalk.toNatUp, get_set, k4, k8, k9, k10, d5, d6, d7, d8, d9, d10, d11, d12, d13, d1, d3, d4, ht, ho])
          | (refine ICalls.then (refSound _ _ _) ?_; simp [go_sem, -getElem?_pos, -List.map_take, -List.map_drop, List.getElem?_cons_zero, List.getElem?_cons_succ, Go.IntWalk.iteOmega, Go.IntWalk.toNatUp, get_set, k4, k8, k9, k10, d5, d6, d7, d8, d9, d10, d11, d12, d13, d1, d3, d4, ht, ho])
          | (refine And.intro ?_ ?_))
        all_goals (
          skip
          refine IWp.seq ?_
          refine IWp.draw [8, 9] [n0, (n0 + 1 + 1 + 1 + 1)] (.ld 0 [2, 3] (.val 1 (.eff 2 (.eff 3 .done .done) .done))) follows (by kernel_rfl) ?_
          simp [go_sem, -getElem?_pos, -List.map_take, -List.map_drop, List.getElem?_cons_zero, List.getElem?_cons_succ, Go.IntWalk.iteOmega, Go.IntWalk.toNatUp, k4, k8, k9, k10, d5, d6, d7, d8, d9, d10, d11, d12, d13, d1, d3, d4, ht, ho]
          refine IWp.ret ?_
          simp [go_sem, -getElem?_pos, -List.map_take, -List.map_drop, List.getElem?_cons_zero, List.getElem?_cons_succ, Go.IntWalk.iteOmega, Go.IntWalk.toNatUp, k4, k8, k9, k10, d5, d6, d7, d8, d9, d10, d11, d12, d13, d1, d3, d4, ht, ho, Try.results40]
          rw [soundSR]
          have hz := hZi
          simp only [Outp.val, Outp.cells, panV] at hz
          simpa [ht, ho] using hz _
        )
      · rw [if_neg (fun e => ha e.symm)] at hZi
        refine IWp.seq ?_
        refine IWp.seq ?_
        refine IWp.run [1, 2, 4, 8, 9, 10, 30] ?_
        simp [go_sem, -getElem?_pos, -List.map_take, -List.map_drop, List.getElem?_cons_zero, List.getElem?_cons_succ, Go.IntWalk.iteOmega, Go.IntWalk.toNatUp, k4, k8, k9, k10, d5, d6, d7, d8, d9, d10, d11, d12, d13, d1, d3, d4, ht, ho, ha, show ¬ (0 : Int) = a from fun e => ha e.symm]
        refine IWp.cond ?_
        simp [go_sem, -getElem?_pos, -List.map_take, -List.map_drop, List.getElem?_cons_zero, List.getElem?_cons_succ, Go.IntWalk.iteOmega, Go.IntWalk.toNatUp, k4, k8, k9, k10, d5, d6, d7, d8, d9, d10, d11, d12, d13, d1, d3, d4, ht, ho, ha, show ¬ (0 : Int) = a from fun e => ha e.symm]
        refine IWp.trim [1, 4, 8, 9, 10] (IWp.skip ?_)
        simp [go_sem, -getElem?_pos, -List.map_take, -List.map_drop, List.getElem?_cons_zero, List.getElem?_cons_succ, Go.IntWalk.iteOmega, Go.IntWalk.toNatUp, k4, k8, k9, k10, d5, d6, d7, d8, d9, d10, d11, d12, d13, d1, d3, d4, ht, ho, ha, show ¬ (0 : Int) = a from fun e => ha e.symm]
        refine IWp.seq ?_
        refine IWp.seq ?_
        refine IWp.run [1, 4, 8, 9, 10, 38] ?_
        simp [go_sem, -getElem?_pos, -List.map_take, -List.map_drop, List.getElem?_cons_zero, List.getElem?_cons_succ, Go.IntWalk.iteOmega, Go.IntWalk.toNatUp, k4, k8, k9, k10, d5, d6, d7, d8, d9, d10, d11, d12, d13, d1, d3, d4, ht, ho, ha, show ¬ (0 : Int) = a from fun e => ha e.symm]
        refine IWp.cond ?_
        simp [go_sem, -getElem?_pos, -List.map_take, -List.map_drop, List.getElem?_cons_zero, List.getElem?_cons_succ, Go.IntWalk.iteOmega, Go.IntWalk.toNatUp, k4, k8, k9, k10, d5, d6, d7, d8, d9, d10, d11, d12, d13, d1, d3, d4, ht, ho, ha, show ¬ (0 : Int) = a from fun e => ha e.symm]
        refine IWp.run [1, 4, 8, 9, 10] ?_
        simp [go_sem, -getElem?_pos, -List.map_take, -List.map_drop, List.getElem?_cons_zero, List.getElem?_cons_succ, Go.IntWalk.iteOmega, Go.IntWalk.toNatUp, k4, k8, k9, k10, d5, d6, d7, d8, d9, d10, d11, d12, d13, d1, d3, d4, ht, ho, ha, show ¬ (0 : Int) = a from fun e => ha e.symm]
        refine IWp.seq ?_
        refine IWp.draw [4, 8, 9, 10] [n0] (.val 0 (.val 2 (.val 3 (.ld 4 [5, 6, 7, 8] (.eff 1 (.eff 5 (.eff 6 (.val 7 (.eff 8 .done .done)) .done) .done) (.eff 5 (.ld 1 [6, 7, 8] (.eff 6 (.val 7 (.eff 8 .done .done)) .done)) .done)))))) follows (by kernel_rfl) ?_
        simp [go_sem, -getElem?_pos, -List.map_take, -List.map_drop, List.getElem?_cons_zero, List.getElem?_cons_succ, Go.IntWalk.iteOmega, Go.IntWalk.toNatUp, k4, k8, k9, k10, d5, d6, d7, d8, d9, d10, d11, d12, d13, d1, d3, d4, ht, ho, ha, show ¬ (0 : Int) = a from fun e => ha e.symm]
        -- 2 ORDERS
        repeat' (first
          | (refine ICalls.then (refSinceC _ _ _ w1 (by omega)) ?_; simp [go_sem, -getElem?_pos, -List.map_take, -List.map_drop, List.getElem?_cons_zero, List.getElem?_cons_succ, Go.IntWalk.iteOmega, Go.IntWalk.toNatUp, get_set, k4, k8, k9, k10, d5, d6, d7, d8, d9, d10, d11, d12, d13, d1, d3, d4, ht, ho, ha, show ¬ (0 : Int) = a from fun e => ha e.symm])
          | (refine ICalls.then (refSound _ _ _) ?_; simp [go_sem, -getElem?_pos, -List.map_take, -List.map_drop, List.getElem?_cons_zero, List.getElem?_cons_succ, Go.IntWalk.iteOmega, Go.IntWalk.toNatUp, get_set, k4, k8, k9, k10, d5, d6, d7, d8, d9, d10, d11, d12, d13, d1, d3, d4, ht, ho, ha, show ¬ (0 : Int) = a from fun e => ha e.symm])
          | (refine And.intro ?_ ?_))
        all_goals (
          skip
          refine IWp.seq ?_
          refine IWp.draw [8, 9] [n0, (n0 + 1 + 1 + 1 + 1)] (.ld 0 [2, 3] (.val 1 (.eff 2 (.eff 3 .done .done) .done))) follows (by kernel_rfl) ?_
          simp [go_sem, -getElem?_pos, -List.map_take, -List.map_drop, List.getElem?_cons_zero, List.getElem?_cons_succ, Go.IntWalk.iteOmega, Go.IntWalk.toNatUp, k4, k8, k9, k10, d5, d6, d7, d8, d9, d10, d11, d12, d13, d1, d3, d4, ht, ho, ha, show ¬ (0 : Int) = a from fun e => ha e.symm]
          refine IWp.ret ?_
          simp [go_sem, -getElem?_pos, -List.map_take, -List.map_drop, List.getElem?_cons_zero, List.getElem?_cons_succ, Go.IntWalk.iteOmega, Go.IntWalk.toNatUp, k4, k8, k9, k10, d5, d6, d7, d8, d9, d10, d11, d12, d13, d1, d3, d4, ht, ho, ha, show ¬ (0 : Int) = a from fun e => ha e.symm, Try.results40]
          rw [soundSR]
          have hz := hZi
          simp only [Outp.val, Outp.cells, panV] at hz
          simpa [ht, ho] using hz _
        )
  · have hau : audioS now L h = topS loudB L := by unfold audioS; rw [if_neg hs]
    rw [hau] at hZi
    have ht : ¬ now < h.till := fun e => hs (.inl e)
    have ho : ¬ now < h.off := fun e => hs (.inr e)
    generalize topS loudB L = au at *
    by_cases ha : au = a
    · subst ha
      rw [if_pos rfl] at hZi
      refine IWp.seq ?_
      refine IWp.seq ?_
      refine IWp.run [1, 2, 4, 8, 9, 10, 30] ?_
      simp [go_sem, -getElem?_pos, -List.map_take, -List.map_drop, List.getElem?_cons_zero, List.getElem?_cons_succ, Go.IntWalk.iteOmega, Go.IntWalk.toNatUp, k4, k8, k9, k10, d5, d6, d7, d8, d9, d10, d11, d12, d13, d1, d3, d4, ht, ho]
      refine IWp.cond ?_
      simp [go_sem, -getElem?_pos, -List.map_take, -List.map_drop, List.getElem?_cons_zero, List.getElem?_cons_succ, Go.IntWalk.iteOmega, Go.IntWalk.toNatUp, k4, k8, k9, k10, d5, d6, d7, d8, d9, d10, d11, d12, d13, d1, d3, d4, ht, ho]
      refine IWp.run [1, 4, 8, 9, 10] ?_
      simp [go_sem, -getElem?_pos, -List.map_take, -List.map_drop, List.getElem?_cons_zero, List.getElem?_cons_succ, Go.IntWalk.iteOmega, Go.IntWalk.toNatUp, k4, k8, k9, k10, d5, d6, d7, d8, d9, d10, d11, d12, d13, d1, d3, d4, ht, ho]
      refine ICalls.then (c5 _) ?_
      try simp [go_sem, -getElem?_pos, -List.map_take, -List.map_drop, List.getElem?_cons_zero, List.getElem?_cons_succ, Go.IntWalk.iteOmega, Go.IntWalk.toNatUp, k4, k8, k9, k10, d5, d6, d7, d8, d9, d10, d11, d12, d13, d1, d3, d4, ht, ho]
      refine IWp.seq ?_
      refine IWp.seq ?_
      refine IWp.run [1, 4, 8, 9, 10, 38] ?_
      simp [go_sem, -getElem?_pos, -List.map_take, -List.map_drop, List.getElem?_cons_zero, List.getElem?_cons_succ, Go.IntWalk.iteOmega, Go.IntWalk.toNatUp, k4, k8, k9, k10, d5, d6, d7, d8, d9, d10, d11, d12, d13, d1, d3, d4, ht, ho]
      refine IWp.cond ?_
      simp [go_sem, -getElem?_pos, -List.map_take, -List.map_drop, List.getElem?_cons_zero, List.getElem?_cons_succ, Go.IntWalk.iteOmega, Go.IntWalk.toNatUp, k4, k8, k9, k10, d5, d6, d7, d8, d9, d10, d11, d12, d13, d1, d3, d4, ht, ho]
      refine IWp.trim [1, 4, 8, 9, 10] (IWp.skip ?_)
      simp [go_sem, -getElem?_pos, -List.map_take, -List.map_drop, List.getElem?_cons_zero, List.getElem?_cons_succ, Go.IntWalk.iteOmega, Go.IntWalk.toNatUp, k4, k8, k9, k10, d5, d6, d7, d8, d9, d10, d11, d12, d13, d1, d3, d4, ht, ho]
      refine IWp.seq ?_
      refine IWp.draw [4, 8, 9, 10] [n0] (.val 0 (.val 2 (.val 3 (.ld 4 [5, 6, 7, 8] (.eff 1 (.eff 5 (.eff 6 (.val 7 (.eff 8 .done .done)) .done) .done) (.eff 5 (.ld 1 [6, 7, 8] (.eff 6 (.val 7 (.eff 8 .done .done)) .done)) .done)))))) follows (by kernel_rfl) ?_
      simp [go_sem, -getElem?_pos, -List.map_take, -List.map_drop, List.getElem?_cons_zero, List.getElem?_cons_succ, Go.IntWalk.iteOmega, Go.IntWalk.toNatUp, k4, k8, k9, k10, d5, d6, d7, d8, d9, d10, d11, d12, d13, d1, d3, d4, ht, ho]
      -- 2 ORDERS
      repeat' (first
        | (refine ICalls.then (refSinceC _ _ _ w1 (by omega)) ?_; simp [go_sem, -getElem?_pos, -List.map_take, -List.map_drop, List.getElem?_cons_zero, List.getElem?_cons_succ, Go.IntWalk.iteOmega, Go.IntWalk.toNatUp, get_set, k4, k8, k9, k10, d5, d6, d7, d8, d9, d10, d11, d12, d13, d1, d3, d4, ht, ho])
        | (refine ICalls.then (refSound _ _ _) ?_; simp [go_sem, -getElem?_pos, -List.map_take, -List.map_drop, List.getElem?_cons_zero, List.getElem?_cons_succ, Go.IntWalk.iteOmega, Go.IntWalk.toNatUp, get_set, k4, k8, k9, k10, d5, d6, d7, d8, d9, d10, d11, d12, d13, d1, d3, d4, ht, ho])
        | (refine And.intro ?_ ?_))
      all_goals (
        skip
        refine IWp.seq ?_
        refine IWp.draw [8, 9] [n0, (n0 + 1 + 1 + 1 + 1)] (.ld 0 [2, 3] (.val 1 (.eff 2 (.eff 3 .done .done) .done))) follows (by kernel_rfl) ?_
        simp [go_sem, -getElem?_pos, -List.map_take, -List.map_drop, List.getElem?_cons_zero, List.getElem?_cons_succ, Go.IntWalk.iteOmega, Go.IntWalk.toNatUp, k4, k8, k9, k10, d5, d6, d7, d8, d9, d10, d11, d12, d13, d1, d3, d4, ht, ho]
        refine IWp.ret ?_
        simp [go_sem, -getElem?_pos, -List.map_take, -List.map_drop, List.getElem?_cons_zero, List.getElem?_cons_succ, Go.IntWalk.iteOmega, Go.IntWalk.toNatUp, k4, k8, k9, k10, d5, d6, d7, d8, d9, d10, d11, d12, d13, d1, d3, d4, ht, ho, Try.results40]
        rw [soundSR]
        have hz := hZi
        simp only [Outp.val, Outp.cells, panV] at hz
        simpa [ht, ho] using hz _
      )
    · rw [if_neg ha] at hZi
      refine IWp.seq ?_
      refine IWp.seq ?_
      refine IWp.run [1, 2, 4, 8, 9, 10, 30] ?_
      simp [go_sem, -getElem?_pos, -List.map_take, -List.map_drop, List.getElem?_cons_zero, List.getElem?_cons_succ, Go.IntWalk.iteOmega, Go.IntWalk.toNatUp, k4, k8, k9, k10, d5, d6, d7, d8, d9, d10, d11, d12, d13, d1, d3, d4, ht, ho, ha]
      refine IWp.cond ?_
      simp [go_sem, -getElem?_pos, -List.map_take, -List.map_drop, List.getElem?_cons_zero, List.getElem?_cons_succ, Go.IntWalk.iteOmega, Go.IntWalk.toNatUp, k4, k8, k9, k10, d5, d6, d7, d8, d9, d10, d11, d12, d13, d1, d3, d4, ht, ho, ha]
      refine IWp.run [1, 4, 8, 9, 10] ?_
      simp [go_sem, -getElem?_pos, -List.map_take, -List.map_drop, List.getElem?_cons_zero, List.getElem?_cons_succ, Go.IntWalk.iteOmega, Go.IntWalk.toNatUp, k4, k8, k9, k10, d5, d6, d7, d8, d9, d10, d11, d12, d13, d1, d3, d4, ht, ho, ha]
      refine ICalls.then (c5 _) ?_
      try simp [go_sem, -getElem?_pos, -List.map_take, -List.map_drop, List.getElem?_cons_zero, List.getElem?_cons_succ, Go.IntWalk.iteOmega, Go.IntWalk.toNatUp, k4, k8, k9, k10, d5, d6, d7, d8, d9, d10, d11, d12, d13, d1, d3, d4, ht, ho, ha]
      refine IWp.seq ?_
      refine IWp.seq ?_
      refine IWp.run [1, 4, 8, 9, 10, 38] ?_
      simp [go_sem, -getElem?_pos, -List.map_take, -List.map_drop, List.getElem?_cons_zero, List.getElem?_cons_succ, Go.IntWalk.iteOmega, Go.IntWalk.toNatUp, k4, k8, k9, k10, d5, d6, d7, d8, d9, d10, d11, d12, d13, d1, d3, d4, ht, ho, ha]
      refine IWp.cond ?_
      simp [go_sem, -getElem?_pos, -List.map_take, -List.map_drop, List.getElem?_cons_zero, List.getElem?_cons_succ, Go.IntWalk.iteOmega, Go.IntWalk.toNatUp, k4, k8, k9, k10, d5, d6, d7, d8, d9, d10, d11, d12, d13, d1, d3, d4, ht, ho, ha]
      refine IWp.run [1, 4, 8, 9, 10] ?_
      simp [go_sem, -getElem?_pos, -List.map_take, -List.map_drop, List.getElem?_cons_zero, List.getElem?_cons_succ, Go.IntWalk.iteOmega, Go.IntWalk.toNatUp, k4, k8, k9, k10, d5, d6, d7, d8, d9, d10, d11, d12, d13, d1, d3, d4, ht, ho, ha]
      refine IWp.seq ?_
      refine IWp.draw [4, 8, 9, 10] [n0] (.val 0 (.val 2 (.val 3 (.ld 4 [5, 6, 7, 8] (.eff 1 (.eff 5 (.eff 6 (.val 7 (.eff 8 .done .done)) .done) .done) (.eff 5 (.ld 1 [6, 7, 8] (.eff 6 (.val 7 (.eff 8 .done .done)) .done)) .done)))))) follows (by kernel_rfl) ?_
      simp [go_sem, -getElem?_pos, -List.map_take, -List.map_drop, List.getElem?_cons_zero, List.getElem?_cons_succ, Go.IntWalk.iteOmega, Go.IntWalk.toNatUp, k4, k8, k9, k10, d5, d6, d7, d8, d9, d10, d11, d12, d13, d1, d3, d4, ht, ho, ha]
      -- 2 ORDERS
      repeat' (first
        | (refine ICalls.then (refSinceC _ _ _ w1 (by omega)) ?_; simp [go_sem, -getElem?_pos, -List.map_take, -List.map_drop, List.getElem?_cons_zero, List.getElem?_cons_succ, Go.IntWalk.iteOmega, Go.IntWalk.toNatUp, get_set, k4, k8, k9, k10, d5, d6, d7, d8, d9, d10, d11, d12, d13, d1, d3, d4, ht, ho, ha])
        | (refine ICalls.then (refSound _ _ _) ?_; simp [go_sem, -getElem?_pos, -List.map_take, -List.map_drop, List.getElem?_cons_zero, List.getElem?_cons_succ, Go.IntWalk.iteOmega, Go.IntWalk.toNatUp, get_set, k4, k8, k9, k10, d5, d6, d7, d8, d9, d10, d11, d12, d13, d1, d3, d4, ht, ho, ha])
        | (refine And.intro ?_ ?_))
      all_goals (
        skip
        refine IWp.seq ?_
        refine IWp.draw [8, 9] [n0, (n0 + 1 + 1 + 1 + 1)] (.ld 0 [2, 3] (.val 1 (.eff 2 (.eff 3 .done .done) .done))) follows (by kernel_rfl) ?_
        simp [go_sem, -getElem?_pos, -List.map_take, -List.map_drop, List.getElem?_cons_zero, List.getElem?_cons_succ, Go.IntWalk.iteOmega, Go.IntWalk.toNatUp, k4, k8, k9, k10, d5, d6, d7, d8, d9, d10, d11, d12, d13, d1, d3, d4, ht, ho, ha]
        refine IWp.ret ?_
        simp [go_sem, -getElem?_pos, -List.map_take, -List.map_drop, List.getElem?_cons_zero, List.getElem?_cons_succ, Go.IntWalk.iteOmega, Go.IntWalk.toNatUp, k4, k8, k9, k10, d5, d6, d7, d8, d9, d10, d11, d12, d13, d1, d3, d4, ht, ho, ha, Try.results40]
        rw [soundSR]
        have hz := hZi
        simp only [Outp.val, Outp.cells, panV] at hz
        simpa [ht, ho] using hz _
      )

end Go.Proofs.Ytdimnoeldnfikaa.I
