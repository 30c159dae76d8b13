/- What no panel shows. No condition. -/
import Derived.Test.YtdimnoeldnfikaaGShowL
namespace Go.Proofs.Ytdimnoeldnfikaa.I
open Go Go.RowKit
set_option linter.unusedVariables false
set_option linter.unusedSimpArgs false

theorem newC (H : Heap) : ICalls Try.prog 39 [] H fun v H' => v = ptrTo H.next 0 ∧ H' = H.alloc [.int .u8 0, .int .i64 0] := by
  refine IBody.calls (by kernel_rfl) ?_
  refine IBody.of Try.func39 rfl (by rw [Try.ntmps39]; simp) ?_
  rw [Try.ntmps39]
  refine IWp.seq ?_
  refine IWp.run [] ?_
  simp [go_sem, -getElem?_pos, -List.map_take, -List.map_drop, List.getElem?_cons_zero, List.getElem?_cons_succ, Go.IntWalk.iteOmega, Go.IntWalk.toNatUp]
  refine IWp.seq ?_
  refine IWp.run [0] ?_
  simp [go_sem, -getElem?_pos, -List.map_take, -List.map_drop, List.getElem?_cons_zero, List.getElem?_cons_succ, Go.IntWalk.iteOmega, Go.IntWalk.toNatUp]
  refine IWp.ret ?_
  simp [go_sem, -getElem?_pos, -List.map_take, -List.map_drop, List.getElem?_cons_zero, List.getElem?_cons_succ, Go.IntWalk.iteOmega, Go.IntWalk.toNatUp, Try.results39]

theorem showNil (H : Heap) (now : Int) (L : List Light) (h : Hush) (hL : L.length ≤ 100000) (hn : (L.map Light.cond).Nodup) :
    ICalls Try.prog 41 [.pointer none, .int .i64 now, frow 7 0 (L.map Light.val), h.val] H fun v H' => v = (outS 0 0 now L h).val ∧ H.next ≤ H'.next ∧ ∀ b, b < H.next → H'.get b = H.get b := by
  refine IBody.calls (by kernel_rfl) ?_
  have c0 := fun K => newC K
  have c1 := fun K => lampsC K L hL hn
  have c2 := fun K => pausedC K h now
  have c3 := fun K => isOffC K h now
  have c4 := fun K => silentC K h now
  have c5 := fun K => loudestC K L (by omega)
  simp only [Hush.val, Hush.cells, List.map_cons, List.map_nil] at c2 c3 c4 c5
  refine IBody.of Try.func41 rfl (by rw [Try.ntmps41]; simp) ?_
  rw [Try.ntmps41]
  refine IWp.seq ?_
  refine IWp.run [0, 1, 2, 7, 8] ?_
  simp [go_sem, -getElem?_pos, -List.map_take, -List.map_drop, List.getElem?_cons_zero, List.getElem?_cons_succ, Go.IntWalk.iteOmega, Go.IntWalk.toNatUp, Hush.val, Hush.cells, get_alloc, next_alloc]
  refine IWp.seq ?_
  refine IWp.seq ?_
  refine IWp.run [0, 1, 2, 7, 8, 11] ?_
  simp [go_sem, -getElem?_pos, -List.map_take, -List.map_drop, List.getElem?_cons_zero, List.getElem?_cons_succ, Go.IntWalk.iteOmega, Go.IntWalk.toNatUp, Hush.val, Hush.cells, get_alloc, next_alloc]
  refine IWp.cond ?_
  simp [go_sem, -getElem?_pos, -List.map_take, -List.map_drop, List.getElem?_cons_zero, List.getElem?_cons_succ, Go.IntWalk.iteOmega, Go.IntWalk.toNatUp, Hush.val, Hush.cells, get_alloc, next_alloc]
  refine IWp.run [0, 1, 2, 7, 8] ?_
  simp [go_sem, -getElem?_pos, -List.map_take, -List.map_drop, List.getElem?_cons_zero, List.getElem?_cons_succ, Go.IntWalk.iteOmega, Go.IntWalk.toNatUp, Hush.val, Hush.cells, get_alloc, next_alloc]
  refine ICalls.mono (c0 _) ?_
  rintro v H9 ⟨hv, hH9⟩
  subst hv; subst hH9
  try simp [go_sem, -getElem?_pos, -List.map_take, -List.map_drop, List.getElem?_cons_zero, List.getElem?_cons_succ, Go.IntWalk.iteOmega, Go.IntWalk.toNatUp, Hush.val, Hush.cells, get_alloc, next_alloc]
  -- CUT live [0, 1, 2, 7, 8, 9]
  obtain ⟨H2, hH2⟩ : ∃ H2, H2 = ((H.alloc [.int .i64 h.till, .int .i64 h.off, .int .u8 h.mark]).alloc [.int .i64 0, .slice none 0 0, .int .u8 0, .bool false, .bool false, .bool false]).alloc [.int .u8 0, .int .i64 0] := ⟨_, rfl⟩
  have g7 : H2.get H.next = some ⟨[.int .i64 h.till, .int .i64 h.off, .int .u8 h.mark], true⟩ := by rw [hH2]; simp [get_alloc, next_alloc, show ∀ n : Nat, ¬ n = n + 1 + 1 by omega]
  have g8 : H2.get (H.next + 1) = some ⟨[.int .i64 0, .slice none 0 0, .int .u8 0, .bool false, .bool false, .bool false], true⟩ := by rw [hH2]; simp [get_alloc, next_alloc, show ∀ n : Nat, ¬ n = n + 1 + 1 by omega]
  have gp : H2.get (H.next + 1 + 1) = some ⟨[.int .u8 0, .int .i64 0], true⟩ := by rw [hH2]; simp [get_alloc, next_alloc]
  have hn2 : H2.next = H.next + 1 + 1 + 1 :=   by rw [hH2]; rfl
  have ho : ∀ b, b < H.next → H2.get b = H.get b := fun b hb => by rw [hH2]; simp [get_alloc, next_alloc, show ¬ b = H.next by omega, show ¬ b = H.next + 1 by omega, show ¬ b = H.next + 1 + 1 by omega]
  rw [← hH2]
  clear hH2
  obtain ⟨Y, hY⟩ : ∃ Y : Heap → Prop, Y = fun K => K = H2.alloc [.int .i64 now, frow 5 0 ((lampsS L).map Lamp.val), .int .u8 0, .bool false, .bool (decide (now < h.till)), .bool (decide (now < h.off))] := ⟨_, rfl⟩
  have hYi := Eq.mpr (congrFun hY (H2.alloc [.int .i64 now, frow 5 0 ((lampsS L).map Lamp.val), .int .u8 0, .bool false, .bool (decide (now < h.till)), .bool (decide (now < h.off))])) rfl
  refine IWp.cut (fun e' K => e' = [(0, ptrTo (H.next + 1 + 1) 0), (1, .int .i64 now), (2, frow 7 0 (L.map Light.val)), (7, ptrTo H.next 0), (8, ptrTo (H.next + 1) 0), (9, ptrTo (H.next + 1 + 1 + 1) 0)] ∧ Y K) ?_ ?_
  · skip
    refine IWp.draw [0, 1, 2, 7, 8, 9] [H.next] (.val 0 (.val 1 (.val 4 (.val 7 (.val 3 (.val 6 (.eff 2 (.eff 5 (.eff 8 (.val 9 (.eff 10 (.eff 11 .done .done) .done)) (.eff 10 (.eff 8 (.val 9 (.eff 11 .done .done)) .done) .done)) (.eff 10 (.eff 5 (.eff 8 (.val 9 (.eff 11 .done .done)) .done) .done) .done)) (.eff 10 (.eff 2 (.eff 5 (.eff 8 (.val 9 (.eff 11 .done .done)) .done) .done) .done) .done)))))))) follows (by kernel_rfl) ?_
    simp [go_sem, -getElem?_pos, -List.map_take, -List.map_drop, List.getElem?_cons_zero, List.getElem?_cons_succ, Go.IntWalk.iteOmega, Go.IntWalk.toNatUp, g7, hn2, get_alloc, show ¬ H.next = H.next + 1 + 1 + 1 by omega]
    -- 4 ORDERS
    repeat' (first
      | (refine ICalls.then (c1 _) ?_; simp [go_sem, -getElem?_pos, -List.map_take, -List.map_drop, List.getElem?_cons_zero, List.getElem?_cons_succ, Go.IntWalk.iteOmega, Go.IntWalk.toNatUp, g7, hn2, get_alloc, hYi, show ¬ H.next = H.next + 1 + 1 + 1 by omega])
      | (refine ICalls.then (c2 _) ?_; simp [go_sem, -getElem?_pos, -List.map_take, -List.map_drop, List.getElem?_cons_zero, List.getElem?_cons_succ, Go.IntWalk.iteOmega, Go.IntWalk.toNatUp, g7, hn2, get_alloc, hYi, show ¬ H.next = H.next + 1 + 1 + 1 by omega])
      | (refine ICalls.then (c3 _) ?_; simp [go_sem, -getElem?_pos, -List.map_take, -List.map_drop, List.getElem?_cons_zero, List.getElem?_cons_succ, Go.IntWalk.iteOmega, Go.IntWalk.toNatUp, g7, hn2, get_alloc, hYi, show ¬ H.next = H.next + 1 + 1 + 1 by omega])
      | (refine ⟨?_, ?_⟩))
  rintro e' K ⟨rfl, hK⟩
  rw [hY] at hK
  subst hK
  clear hYi hY
  obtain ⟨H3, hH3⟩ : ∃ H3, H3 = H2.alloc [.int .i64 now, frow 5 0 ((lampsS L).map Lamp.val), .int .u8 0, .bool false, .bool (decide (now < h.till)), .bool (decide (now < h.off))] := ⟨_, rfl⟩
  have hA : ∀ b, b < H2.next → H3.get b = H2.get b := fun b hb => by rw [hH3]; exact Heap.get_alloc_lt _ _ _ hb
  have g9 : H3.get (H.next + 1 + 1 + 1) = some ⟨[.int .i64 now, frow 5 0 ((lampsS L).map Lamp.val), .int .u8 0, .bool false, .bool (decide (now < h.till)), .bool (decide (now < h.off))], true⟩ := by rw [hH3, ← hn2]; exact Heap.get_alloc_new _ _
  have gp9 := (hA (H.next + 1 + 1) (by omega)).trans gp
  have g79 := (hA H.next (by omega)).trans g7
  have g89 := (hA (H.next + 1) (by omega)).trans g8
  have ho9 : ∀ b, b < H.next → H3.get b = H.get b := fun b hb => (hA b (by omega)).trans (ho b hb)
  have hn9 : H3.next = H.next + 1 + 1 + 1 + 1 := by rw [hH3, next_alloc, hn2]
  rw [← hH3]
  clear hH3 hA g7 g8 gp ho
  obtain ⟨Z, hZ⟩ : ∃ Z : Value → Heap → Prop, Z = fun v H' => v = (outS 0 0 now L h).val ∧ H.next ≤ H'.next ∧ ∀ b, b < H.next → H'.get b = H.get b := ⟨_, rfl⟩
  rw [← hZ]
  have hZi : ∀ H' : Heap, H'.next = H.next + 1 + 1 + 1 + 1 → H'.get (H.next + 1 + 1) = some ⟨[.int .u8 (audioS now L h), .int .i64 (beganS 0 0 now L h)], true⟩ → (∀ b, b < H.next → b ≠ (H.next + 1 + 1) → H'.get b = H3.get b) → Z (outS 0 0 now L h).val H' := fun H' h1 h2 h3 => by
    rw [hZ]
    exact ⟨rfl, by omega, fun b hb => (h3 b hb (by omega)).trans (ho9 b hb)⟩
  have n1 : ¬ (H.next + 1 + 1) = H.next := by omega
  have n2 : ¬ (H.next + 1 + 1) = H.next + 1 := by omega
  have n3 : ¬ (H.next + 1 + 1) = H.next + 1 + 1 + 1 := by omega
  have n4 : ¬ H.next + 1 + 1 + 1 = (H.next + 1 + 1) := by omega
  have n5 : ¬ H.next + 1 + 1 + 1 = H.next + 1 := by omega
  have n6 : ¬ H.next + 1 = H.next + 1 + 1 + 1 := by omega
  have n7 : ¬ H.next = H.next + 1 + 1 + 1 := by omega
  have n8 : ¬ H.next + 1 = (H.next + 1 + 1) := by omega
  unfold outS beganS at hZi
  clear hZ
  by_cases hs : now < h.till ∨ now < h.off
  · have hau : audioS now L h = 0 := by unfold audioS; rw [if_pos hs]
    rw [show (decide (now < h.till) || decide (now < h.off)) = true by simpa using hs] at c4
    rw [hau] at hZi
    by_cases ha : (0 : Int) = 0
    · rw [if_pos rfl] at hZi
      refine IWp.seq ?_
      refine IWp.seq ?_
      refine IWp.run [0, 1, 2, 8, 9, 26] ?_
      simp [go_sem, -getElem?_pos, -List.map_take, -List.map_drop, List.getElem?_cons_zero, List.getElem?_cons_succ, Go.IntWalk.iteOmega, Go.IntWalk.toNatUp, g79, g9, gp9, g89, n1, n2, n3, n4, n5, n6, n7, n8, Hush.val, Hush.cells]
      refine ICalls.then (c4 _) ?_
      try simp [go_sem, -getElem?_pos, -List.map_take, -List.map_drop, List.getElem?_cons_zero, List.getElem?_cons_succ, Go.IntWalk.iteOmega, Go.IntWalk.toNatUp, g79, g9, gp9, g89, n1, n2, n3, n4, n5, n6, n7, n8, Hush.val, Hush.cells]
      refine IWp.cond ?_
      simp [go_sem, -getElem?_pos, -List.map_take, -List.map_drop, List.getElem?_cons_zero, List.getElem?_cons_succ, Go.IntWalk.iteOmega, Go.IntWalk.toNatUp, g79, g9, gp9, g89, n1, n2, n3, n4, n5, n6, n7, n8, Hush.val, Hush.cells]
      refine IWp.trim [0, 1, 8, 9] (IWp.skip ?_)
      simp [go_sem, -getElem?_pos, -List.map_take, -List.map_drop, List.getElem?_cons_zero, List.getElem?_cons_succ, Go.IntWalk.iteOmega, Go.IntWalk.toNatUp, g79, g9, gp9, g89, n1, n2, n3, n4, n5, n6, n7, n8, Hush.val, Hush.cells]
      refine IWp.seq ?_
      refine IWp.seq ?_
      refine IWp.read [0, 1, 8, 9, 36] follows (by kernel_rfl) ?_
      simp [go_sem, -getElem?_pos, -List.map_take, -List.map_drop, List.getElem?_cons_zero, List.getElem?_cons_succ, Go.IntWalk.iteOmega, Go.IntWalk.toNatUp, g79, g9, gp9, g89, n1, n2, n3, n4, n5, n6, n7, n8, Hush.val, Hush.cells]
      refine IWp.cond ?_
      simp [go_sem, -getElem?_pos, -List.map_take, -List.map_drop, List.getElem?_cons_zero, List.getElem?_cons_succ, Go.IntWalk.iteOmega, Go.IntWalk.toNatUp, g79, g9, gp9, g89, n1, n2, n3, n4, n5, n6, n7, n8, Hush.val, Hush.cells]
      refine IWp.trim [0, 1, 8, 9] (IWp.skip ?_)
      simp [go_sem, -getElem?_pos, -List.map_take, -List.map_drop, List.getElem?_cons_zero, List.getElem?_cons_succ, Go.IntWalk.iteOmega, Go.IntWalk.toNatUp, g79, g9, gp9, g89, n1, n2, n3, n4, n5, n6, n7, n8, Hush.val, Hush.cells]
      refine IWp.seq ?_
      refine IWp.draw [8, 9] [(H.next + 1 + 1)] (.val 0 (.val 2 (.val 3 (.val 4 (.val 5 (.ld 6 [7, 8, 9, 10] (.eff 1 (.eff 7 (.eff 8 (.val 9 (.eff 10 .done .done)) .done) .done) (.eff 7 (.ld 1 [8, 9, 10] (.eff 8 (.val 9 (.eff 10 .done .done)) .done)) .done)))))))) follows (by kernel_rfl) ?_
      simp [go_sem, -getElem?_pos, -List.map_take, -List.map_drop, List.getElem?_cons_zero, List.getElem?_cons_succ, Go.IntWalk.iteOmega, Go.IntWalk.toNatUp, g79, g9, gp9, g89, n1, n2, n3, n4, n5, n6, n7, n8, Hush.val, Hush.cells]
      -- 2 ORDERS
      repeat' (first
        | (refine ICalls.then (sinceC _ _ _) ?_; simp [go_sem, -getElem?_pos, -List.map_take, -List.map_drop, List.getElem?_cons_zero, List.getElem?_cons_succ, Go.IntWalk.iteOmega, Go.IntWalk.toNatUp, get_set, g79, g9, gp9, g89, n1, n2, n3, n4, n5, n6, n7, n8, Hush.val, Hush.cells])
        | (refine ICalls.then (sound _ _ _) ?_; simp [go_sem, -getElem?_pos, -List.map_take, -List.map_drop, List.getElem?_cons_zero, List.getElem?_cons_succ, Go.IntWalk.iteOmega, Go.IntWalk.toNatUp, get_set, g79, g9, gp9, g89, n1, n2, n3, n4, n5, n6, n7, n8, Hush.val, Hush.cells])
        | (refine And.intro ?_ ?_))
      all_goals (
        skip
        refine IWp.seq ?_
        refine IWp.run [8] ?_
        simp [go_sem, -getElem?_pos, -List.map_take, -List.map_drop, List.getElem?_cons_zero, List.getElem?_cons_succ, Go.IntWalk.iteOmega, Go.IntWalk.toNatUp, g79, g9, gp9, g89, n1, n2, n3, n4, n5, n6, n7, n8, Hush.val, Hush.cells]
        refine IWp.ret ?_
        simp [go_sem, -getElem?_pos, -List.map_take, -List.map_drop, List.getElem?_cons_zero, List.getElem?_cons_succ, Go.IntWalk.iteOmega, Go.IntWalk.toNatUp, g79, g9, gp9, g89, n1, n2, n3, n4, n5, n6, n7, n8, Hush.val, Hush.cells, Try.results41]
        exact hZi _ hn9 (by simp [get_set, gp9, n1, n2, n3, n4, n5, n6, n7, n8]) (fun b hb hne => by simp [get_set, hne, show ¬ b = H.next + 1 by omega, show ¬ b = H.next + 1 + 1 by omega, show ¬ b = H.next + 1 + 1 + 1 by omega])
      )
    · exact absurd rfl ha
  · have hau : audioS now L h = topS loudB L := by unfold audioS; rw [if_neg hs]
    rw [show (decide (now < h.till) || decide (now < h.off)) = false by simpa using hs] at c4
    rw [hau] at hZi
    generalize topS loudB L = au at *
    by_cases ha : au = 0
    · subst ha
      rw [if_pos rfl] at hZi
      refine IWp.seq ?_
      refine IWp.seq ?_
      refine IWp.run [0, 1, 2, 8, 9, 26] ?_
      simp [go_sem, -getElem?_pos, -List.map_take, -List.map_drop, List.getElem?_cons_zero, List.getElem?_cons_succ, Go.IntWalk.iteOmega, Go.IntWalk.toNatUp, g79, g9, gp9, g89, n1, n2, n3, n4, n5, n6, n7, n8, Hush.val, Hush.cells]
      refine ICalls.then (c4 _) ?_
      try simp [go_sem, -getElem?_pos, -List.map_take, -List.map_drop, List.getElem?_cons_zero, List.getElem?_cons_succ, Go.IntWalk.iteOmega, Go.IntWalk.toNatUp, g79, g9, gp9, g89, n1, n2, n3, n4, n5, n6, n7, n8, Hush.val, Hush.cells]
      refine IWp.cond ?_
      simp [go_sem, -getElem?_pos, -List.map_take, -List.map_drop, List.getElem?_cons_zero, List.getElem?_cons_succ, Go.IntWalk.iteOmega, Go.IntWalk.toNatUp, g79, g9, gp9, g89, n1, n2, n3, n4, n5, n6, n7, n8, Hush.val, Hush.cells]
      refine IWp.run [0, 1, 8, 9] ?_
      simp [go_sem, -getElem?_pos, -List.map_take, -List.map_drop, List.getElem?_cons_zero, List.getElem?_cons_succ, Go.IntWalk.iteOmega, Go.IntWalk.toNatUp, g79, g9, gp9, g89, n1, n2, n3, n4, n5, n6, n7, n8, Hush.val, Hush.cells]
      refine ICalls.then (c5 _) ?_
      try simp [go_sem, -getElem?_pos, -List.map_take, -List.map_drop, List.getElem?_cons_zero, List.getElem?_cons_succ, Go.IntWalk.iteOmega, Go.IntWalk.toNatUp, g79, g9, gp9, g89, n1, n2, n3, n4, n5, n6, n7, n8, Hush.val, Hush.cells]
      refine IWp.seq ?_
      refine IWp.seq ?_
      refine IWp.read [0, 1, 8, 9, 36] follows (by kernel_rfl) ?_
      simp [go_sem, -getElem?_pos, -List.map_take, -List.map_drop, List.getElem?_cons_zero, List.getElem?_cons_succ, Go.IntWalk.iteOmega, Go.IntWalk.toNatUp, g79, g9, gp9, g89, n1, n2, n3, n4, n5, n6, n7, n8, Hush.val, Hush.cells]
      refine IWp.cond ?_
      simp [go_sem, -getElem?_pos, -List.map_take, -List.map_drop, List.getElem?_cons_zero, List.getElem?_cons_succ, Go.IntWalk.iteOmega, Go.IntWalk.toNatUp, g79, g9, gp9, g89, n1, n2, n3, n4, n5, n6, n7, n8, Hush.val, Hush.cells]
      refine IWp.trim [0, 1, 8, 9] (IWp.skip ?_)
      simp [go_sem, -getElem?_pos, -List.map_take, -List.map_drop, List.getElem?_cons_zero, List.getElem?_cons_succ, Go.IntWalk.iteOmega, Go.IntWalk.toNatUp, g79, g9, gp9, g89, n1, n2, n3, n4, n5, n6, n7, n8, Hush.val, Hush.cells]
      refine IWp.seq ?_
      refine IWp.draw [8, 9] [(H.next + 1 + 1)] (.val 0 (.val 2 (.val 3 (.val 4 (.val 5 (.ld 6 [7, 8, 9, 10] (.eff 1 (.eff 7 (.eff 8 (.val 9 (.eff 10 .done .done)) .done) .done) (.eff 7 (.ld 1 [8, 9, 10] (.eff 8 (.val 9 (.eff 10 .done .done)) .done)) .done)))))))) follows (by kernel_rfl) ?_
      simp [go_sem, -getElem?_pos, -List.map_take, -List.map_drop, List.getElem?_cons_zero, List.getElem?_cons_succ, Go.IntWalk.iteOmega, Go.IntWalk.toNatUp, g79, g9, gp9, g89, n1, n2, n3, n4, n5, n6, n7, n8, Hush.val, Hush.cells]
      -- 2 ORDERS
      repeat' (first
        | (refine ICalls.then (sinceC _ _ _) ?_; simp [go_sem, -getElem?_pos, -List.map_take, -List.map_drop, List.getElem?_cons_zero, List.getElem?_cons_succ, Go.IntWalk.iteOmega, Go.IntWalk.toNatUp, get_set, g79, g9, gp9, g89, n1, n2, n3, n4, n5, n6, n7, n8, Hush.val, Hush.cells])
        | (refine ICalls.then (sound _ _ _) ?_; simp [go_sem, -getElem?_pos, -List.map_take, -List.map_drop, List.getElem?_cons_zero, List.getElem?_cons_succ, Go.IntWalk.iteOmega, Go.IntWalk.toNatUp, get_set, g79, g9, gp9, g89, n1, n2, n3, n4, n5, n6, n7, n8, Hush.val, Hush.cells])
        | (refine And.intro ?_ ?_))
      all_goals (
        skip
        refine IWp.seq ?_
        refine IWp.run [8] ?_
        simp [go_sem, -getElem?_pos, -List.map_take, -List.map_drop, List.getElem?_cons_zero, List.getElem?_cons_succ, Go.IntWalk.iteOmega, Go.IntWalk.toNatUp, g79, g9, gp9, g89, n1, n2, n3, n4, n5, n6, n7, n8, Hush.val, Hush.cells]
        refine IWp.ret ?_
        simp [go_sem, -getElem?_pos, -List.map_take, -List.map_drop, List.getElem?_cons_zero, List.getElem?_cons_succ, Go.IntWalk.iteOmega, Go.IntWalk.toNatUp, g79, g9, gp9, g89, n1, n2, n3, n4, n5, n6, n7, n8, Hush.val, Hush.cells, Try.results41]
        exact hZi _ hn9 (by simp [get_set, gp9, n1, n2, n3, n4, n5, n6, n7, n8]) (fun b hb hne => by simp [get_set, hne, show ¬ b = H.next + 1 by omega, show ¬ b = H.next + 1 + 1 by omega, show ¬ b = H.next + 1 + 1 + 1 by omega])
      )
    · rw [if_neg ha] at hZi
      refine IWp.seq ?_
      refine IWp.seq ?_
      refine IWp.run [0, 1, 2, 8, 9, 26] ?_
      simp [go_sem, -getElem?_pos, -List.map_take, -List.map_drop, List.getElem?_cons_zero, List.getElem?_cons_succ, Go.IntWalk.iteOmega, Go.IntWalk.toNatUp, g79, g9, gp9, g89, n1, n2, n3, n4, n5, n6, n7, n8, Hush.val, Hush.cells, ha]
      refine ICalls.then (c4 _) ?_
      try simp [go_sem, -getElem?_pos, -List.map_take, -List.map_drop, List.getElem?_cons_zero, List.getElem?_cons_succ, Go.IntWalk.iteOmega, Go.IntWalk.toNatUp, g79, g9, gp9, g89, n1, n2, n3, n4, n5, n6, n7, n8, Hush.val, Hush.cells, ha]
      refine IWp.cond ?_
      simp [go_sem, -getElem?_pos, -List.map_take, -List.map_drop, List.getElem?_cons_zero, List.getElem?_cons_succ, Go.IntWalk.iteOmega, Go.IntWalk.toNatUp, g79, g9, gp9, g89, n1, n2, n3, n4, n5, n6, n7, n8, Hush.val, Hush.cells, ha]
      refine IWp.run [0, 1, 8, 9] ?_
      simp [go_sem, -getElem?_pos, -List.map_take, -List.map_drop, List.getElem?_cons_zero, List.getElem?_cons_succ, Go.IntWalk.iteOmega, Go.IntWalk.toNatUp, g79, g9, gp9, g89, n1, n2, n3, n4, n5, n6, n7, n8, Hush.val, Hush.cells, ha]
      refine ICalls.then (c5 _) ?_
      try simp [go_sem, -getElem?_pos, -List.map_take, -List.map_drop, List.getElem?_cons_zero, List.getElem?_cons_succ, Go.IntWalk.iteOmega, Go.IntWalk.toNatUp, g79, g9, gp9, g89, n1, n2, n3, n4, n5, n6, n7, n8, Hush.val, Hush.cells, ha]
      refine IWp.seq ?_
      refine IWp.seq ?_
      refine IWp.read [0, 1, 8, 9, 36] follows (by kernel_rfl) ?_
      simp [go_sem, -getElem?_pos, -List.map_take, -List.map_drop, List.getElem?_cons_zero, List.getElem?_cons_succ, Go.IntWalk.iteOmega, Go.IntWalk.toNatUp, g79, g9, gp9, g89, n1, n2, n3, n4, n5, n6, n7, n8, Hush.val, Hush.cells, ha]
      refine IWp.cond ?_
      simp [go_sem, -getElem?_pos, -List.map_take, -List.map_drop, List.getElem?_cons_zero, List.getElem?_cons_succ, Go.IntWalk.iteOmega, Go.IntWalk.toNatUp, g79, g9, gp9, g89, n1, n2, n3, n4, n5, n6, n7, n8, Hush.val, Hush.cells, ha]
      refine IWp.run [0, 1, 8, 9] ?_
      simp [go_sem, -getElem?_pos, -List.map_take, -List.map_drop, List.getElem?_cons_zero, List.getElem?_cons_succ, Go.IntWalk.iteOmega, Go.IntWalk.toNatUp, g79, g9, gp9, g89, n1, n2, n3, n4, n5, n6, n7, n8, Hush.val, Hush.cells, ha]
      refine IWp.seq ?_
      refine IWp.draw [8, 9] [(H.next + 1 + 1)] (.val 0 (.val 2 (.val 3 (.val 4 (.val 5 (.ld 6 [7, 8, 9, 10] (.eff 1 (.eff 7 (.eff 8 (.val 9 (.eff 10 .done .done)) .done) .done) (.eff 7 (.ld 1 [8, 9, 10] (.eff 8 (.val 9 (.eff 10 .done .done)) .done)) .done)))))))) follows (by kernel_rfl) ?_
      simp [go_sem, -getElem?_pos, -List.map_take, -List.map_drop, List.getElem?_cons_zero, List.getElem?_cons_succ, Go.IntWalk.iteOmega, Go.IntWalk.toNatUp, g79, g9, gp9, g89, n1, n2, n3, n4, n5, n6, n7, n8, Hush.val, Hush.cells, ha]
      -- 2 ORDERS
      repeat' (first
        | (refine ICalls.then (sinceC _ _ _) ?_; simp [go_sem, -getElem?_pos, -List.map_take, -List.map_drop, List.getElem?_cons_zero, List.getElem?_cons_succ, Go.IntWalk.iteOmega, Go.IntWalk.toNatUp, get_set, g79, g9, gp9, g89, n1, n2, n3, n4, n5, n6, n7, n8, Hush.val, Hush.cells, ha])
        | (refine ICalls.then (sound _ _ _) ?_; simp [go_sem, -getElem?_pos, -List.map_take, -List.map_drop, List.getElem?_cons_zero, List.getElem?_cons_succ, Go.IntWalk.iteOmega, Go.IntWalk.toNatUp, get_set, g79, g9, gp9, g89, n1, n2, n3, n4, n5, n6, n7, n8, Hush.val, Hush.cells, ha])
        | (refine And.intro ?_ ?_))
      all_goals (
        skip
        refine IWp.seq ?_
        refine IWp.run [8] ?_
        simp [go_sem, -getElem?_pos, -List.map_take, -List.map_drop, List.getElem?_cons_zero, List.getElem?_cons_succ, Go.IntWalk.iteOmega, Go.IntWalk.toNatUp, g79, g9, gp9, g89, n1, n2, n3, n4, n5, n6, n7, n8, Hush.val, Hush.cells, ha]
        refine IWp.ret ?_
        simp [go_sem, -getElem?_pos, -List.map_take, -List.map_drop, List.getElem?_cons_zero, List.getElem?_cons_succ, Go.IntWalk.iteOmega, Go.IntWalk.toNatUp, g79, g9, gp9, g89, n1, n2, n3, n4, n5, n6, n7, n8, Hush.val, Hush.cells, ha, Try.results41]
        exact hZi _ hn9 (by simp [get_set, gp9, n1, n2, n3, n4, n5, n6, n7, n8]) (fun b hb hne => by simp [get_set, hne, show ¬ b = H.next + 1 by omega, show ¬ b = H.next + 1 + 1 by omega, show ¬ b = H.next + 1 + 1 + 1 by omega])
      )


end Go.Proofs.Ytdimnoeldnfikaa.I
