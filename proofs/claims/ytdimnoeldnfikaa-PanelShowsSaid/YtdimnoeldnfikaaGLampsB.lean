/- Which lamps are told, by the document: those that are lit, each put in at its place. No condition. -/
import Derived.Test.YtdimnoeldnfikaaGLamps
namespace Go.Proofs.Ytdimnoeldnfikaa.I
open Go Go.RowKit
set_option linter.unusedVariables false
set_option linter.unusedSimpArgs false

theorem Bld.alloc2 {sz : Nat} {H : Heap} {n : Nat} {v : Value} {us : List Value} (h : Bld sz H n v us) (cs ds : List Value) : Bld sz ((H.alloc cs).alloc ds) n v us := (h.alloc cs).alloc ds
theorem frzOld {sz : Nat} {H K : Heap} {v : Value} {us : List Value} (h : Bld sz H 0 v us) (hK : ∀ b k, H.get b = some k → K.get b = some k) (N : Nat) (hN : H.next ≤ N) : Frz K (fun j => decide (j < N)) v (frow sz 0 us) := by
  rcases h with ⟨h0, ⟨rfl, rfl⟩ | ⟨b, _, rfl, h3⟩⟩
  · exact .nil sz
  · have hlt := Heap.lt_of_get h3
    refine .row (hK _ _ h3) (by simp; omega) ?_
    have := FrzE.same (H := K) (S := fun j => decide (j < N)) us h0 []
    simpa using this

set_option maxRecDepth 100000 in
set_option maxHeartbeats 2000000 in
theorem refLampsC (H : Heap) (L : List Light) (hL : L.length ≤ 100000) : ICalls Try.prog 35 [frow 7 0 (L.map Light.val)] H fun v H' => v = frow 5 0 ((lampsS L).map Lamp.val) ∧ H' = H := by
  refine ICalls.ans (by simp [go_sem]; exact fun y _ => Lamp.cl y) fun H => IBody.calls (by kernel_rfl) ?_
  refine IBody.of Try.func35 rfl (by rw [Try.ntmps35]; simp) ?_
  rw [Try.ntmps35]
  refine IWp.seq ?_
  refine IWp.run [0] ?_
  simp [go_sem, -getElem?_pos, -List.map_take, -List.map_drop, List.getElem?_cons_zero, List.getElem?_cons_succ, Go.IntWalk.iteOmega, Go.IntWalk.toNatUp]
  refine IWp.seq ?_
  refine IWp.run [0, 3] ?_
  simp [go_sem, -getElem?_pos, -List.map_take, -List.map_drop, List.getElem?_cons_zero, List.getElem?_cons_succ, Go.IntWalk.iteOmega, Go.IntWalk.toNatUp]
  refine IWp.seq ?_
  refine IWp.seq ?_
  refine IWp.run [0, 3, 4] ?_
  simp [go_sem, -getElem?_pos, -List.map_take, -List.map_drop, List.getElem?_cons_zero, List.getElem?_cons_succ, Go.IntWalk.iteOmega, Go.IntWalk.toNatUp]
  refine IWp.block ?_
  -- LOOP live [0, 3, 4]
  refine IWp.loop (fun q e K => ∃ (i : Nat) (v : Value), q = L.length - i ∧ i ≤ L.length ∧ Bld 5 K 0 v ((lampsS (L.take i)).map Lamp.val) ∧ e = [(0, frow 7 0 (L.map Light.val)), (3, v), (4, .int .i64 (i : Int))]) L.length ⟨0, .slice none 0 0, rfl, Nat.zero_le _, Bld.nil _ _ _, by simp [go_sem]⟩ ?_
  rintro q e K ⟨i, v, rfl, hi, hv, rfl⟩
  have wi := IntWalk.i64_in ((i : Int) + 1) (by omega)
  by_cases hlt : i < L.length
  case neg =>
    rw [List.take_of_length_le (by omega)] at hv
    refine IWp.seq ?_
    refine IWp.seq ?_
    refine IWp.run [0, 3, 4, 13] ?_
    simp [go_sem, -getElem?_pos, -List.map_take, -List.map_drop, List.getElem?_cons_zero, List.getElem?_cons_succ, Go.IntWalk.iteOmega, Go.IntWalk.toNatUp, hlt]
    refine IWp.cond ?_
    simp [go_sem, -getElem?_pos, -List.map_take, -List.map_drop, List.getElem?_cons_zero, List.getElem?_cons_succ, Go.IntWalk.iteOmega, Go.IntWalk.toNatUp, hlt]
    refine IWp.trim [3] (IWp.exit ?_)
    simp [go_sem, -getElem?_pos, -List.map_take, -List.map_drop, List.getElem?_cons_zero, List.getElem?_cons_succ, Go.IntWalk.iteOmega, Go.IntWalk.toNatUp, hlt]
    refine IWp.seq ?_
    refine IWp.run [2] ?_
    simp [go_sem, -getElem?_pos, -List.map_take, -List.map_drop, List.getElem?_cons_zero, List.getElem?_cons_succ, Go.IntWalk.iteOmega, Go.IntWalk.toNatUp, hlt]
    refine IWp.ret ?_
    simp [go_sem, -getElem?_pos, -List.map_take, -List.map_drop, List.getElem?_cons_zero, List.getElem?_cons_succ, Go.IntWalk.iteOmega, Go.IntWalk.toNatUp, hlt, Try.results35]
    exact hv.frz
  have gi : (L.map Light.val)[i]? = some (L[i]).val := by simp [hlt]
  have hs := lampsS_snoc L hlt
  have hlen := lampsS_len (L.take i)
  rw [List.length_take] at hlen
  generalize L[i] = x at *
  cases hp : x.life.lit with
  | false =>
    rw [hp] at hs
    simp only [Bool.false_eq_true, if_false] at hs
    have hv2 : Bld 5 (K.alloc x.cells) 0 v ((lampsS (L.take i)).map Lamp.val) := hv.alloc _
    rw [← hs] at hv2
    simp only [Light.cells, Life.cells, hp, List.cons_append, List.nil_append] at hv2
    refine IWp.seq ?_
    refine IWp.seq ?_
    refine IWp.run [0, 3, 4, 13] ?_
    simp [go_sem, -getElem?_pos, -List.map_take, -List.map_drop, List.getElem?_cons_zero, List.getElem?_cons_succ, Go.IntWalk.iteOmega, Go.IntWalk.toNatUp, hlt, gi, wi, hp, Light.val, Light.cells, Life.cells]
    refine IWp.cond ?_
    simp [go_sem, -getElem?_pos, -List.map_take, -List.map_drop, List.getElem?_cons_zero, List.getElem?_cons_succ, Go.IntWalk.iteOmega, Go.IntWalk.toNatUp, hlt, gi, wi, hp, Light.val, Light.cells, Life.cells]
    refine IWp.trim [0, 3, 4] (IWp.skip ?_)
    simp [go_sem, -getElem?_pos, -List.map_take, -List.map_drop, List.getElem?_cons_zero, List.getElem?_cons_succ, Go.IntWalk.iteOmega, Go.IntWalk.toNatUp, hlt, gi, wi, hp, Light.val, Light.cells, Life.cells]
    refine IWp.seq ?_
    refine IWp.block ?_
    refine IWp.seq ?_
    refine IWp.run [0, 3, 4, 5] ?_
    simp [go_sem, -getElem?_pos, -List.map_take, -List.map_drop, List.getElem?_cons_zero, List.getElem?_cons_succ, Go.IntWalk.iteOmega, Go.IntWalk.toNatUp, hlt, gi, wi, hp, Light.val, Light.cells, Life.cells]
    refine IWp.seq ?_
    refine IWp.seq ?_
    refine IWp.run [0, 3, 4, 5, 23] ?_
    simp [go_sem, -getElem?_pos, -List.map_take, -List.map_drop, List.getElem?_cons_zero, List.getElem?_cons_succ, Go.IntWalk.iteOmega, Go.IntWalk.toNatUp, hlt, gi, wi, hp, Light.val, Light.cells, Life.cells]
    refine IWp.cond ?_
    simp [go_sem, -getElem?_pos, -List.map_take, -List.map_drop, List.getElem?_cons_zero, List.getElem?_cons_succ, Go.IntWalk.iteOmega, Go.IntWalk.toNatUp, hlt, gi, wi, hp, Light.val, Light.cells, Life.cells]
    refine IWp.trim [0, 3, 4] (IWp.exit ?_)
    simp [go_sem, -getElem?_pos, -List.map_take, -List.map_drop, List.getElem?_cons_zero, List.getElem?_cons_succ, Go.IntWalk.iteOmega, Go.IntWalk.toNatUp, hlt, gi, wi, hp, Light.val, Light.cells, Life.cells]
    refine IWp.run [0, 3, 4] ?_
    simp [go_sem, -getElem?_pos, -List.map_take, -List.map_drop, List.getElem?_cons_zero, List.getElem?_cons_succ, Go.IntWalk.iteOmega, Go.IntWalk.toNatUp, hlt, gi, wi, hp, Light.val, Light.cells, Life.cells]
    exact ⟨L.length - (i + 1), by omega, i + 1, by omega, by omega, v, hv2, rfl, by omega⟩
  | true =>
    rw [hp] at hs
    simp only [if_true] at hs
    generalize lampsS (L.take i) = O at *
    refine IWp.seq ?_
    refine IWp.seq ?_
    refine IWp.run [0, 3, 4, 13] ?_
    simp [go_sem, -getElem?_pos, -List.map_take, -List.map_drop, List.getElem?_cons_zero, List.getElem?_cons_succ, Go.IntWalk.iteOmega, Go.IntWalk.toNatUp, hlt, gi, wi, hp, Light.val, Light.cells, Life.cells]
    refine IWp.cond ?_
    simp [go_sem, -getElem?_pos, -List.map_take, -List.map_drop, List.getElem?_cons_zero, List.getElem?_cons_succ, Go.IntWalk.iteOmega, Go.IntWalk.toNatUp, hlt, gi, wi, hp, Light.val, Light.cells, Life.cells]
    refine IWp.trim [0, 3, 4] (IWp.skip ?_)
    simp [go_sem, -getElem?_pos, -List.map_take, -List.map_drop, List.getElem?_cons_zero, List.getElem?_cons_succ, Go.IntWalk.iteOmega, Go.IntWalk.toNatUp, hlt, gi, wi, hp, Light.val, Light.cells, Life.cells]
    refine IWp.seq ?_
    refine IWp.block ?_
    refine IWp.seq ?_
    refine IWp.run [0, 3, 4, 5] ?_
    simp [go_sem, -getElem?_pos, -List.map_take, -List.map_drop, List.getElem?_cons_zero, List.getElem?_cons_succ, Go.IntWalk.iteOmega, Go.IntWalk.toNatUp, hlt, gi, wi, hp, Light.val, Light.cells, Life.cells]
    refine IWp.seq ?_
    refine IWp.seq ?_
    refine IWp.run [0, 3, 4, 5, 23] ?_
    simp [go_sem, -getElem?_pos, -List.map_take, -List.map_drop, List.getElem?_cons_zero, List.getElem?_cons_succ, Go.IntWalk.iteOmega, Go.IntWalk.toNatUp, hlt, gi, wi, hp, Light.val, Light.cells, Life.cells]
    refine IWp.cond ?_
    simp [go_sem, -getElem?_pos, -List.map_take, -List.map_drop, List.getElem?_cons_zero, List.getElem?_cons_succ, Go.IntWalk.iteOmega, Go.IntWalk.toNatUp, hlt, gi, wi, hp, Light.val, Light.cells, Life.cells]
    refine IWp.trim [0, 3, 4, 5] (IWp.skip ?_)
    simp [go_sem, -getElem?_pos, -List.map_take, -List.map_drop, List.getElem?_cons_zero, List.getElem?_cons_succ, Go.IntWalk.iteOmega, Go.IntWalk.toNatUp, hlt, gi, wi, hp, Light.val, Light.cells, Life.cells]
    refine IWp.seq ?_
    refine IWp.run [0, 3, 4, 6] ?_
    simp [go_sem, -getElem?_pos, -List.map_take, -List.map_drop, List.getElem?_cons_zero, List.getElem?_cons_succ, Go.IntWalk.iteOmega, Go.IntWalk.toNatUp, hlt, gi, wi, hp, Light.val, Light.cells, Life.cells]
    refine IWp.seq ?_
    refine IWp.run [0, 3, 4, 6, 7] ?_
    simp [go_sem, -getElem?_pos, -List.map_take, -List.map_drop, List.getElem?_cons_zero, List.getElem?_cons_succ, Go.IntWalk.iteOmega, Go.IntWalk.toNatUp, hlt, gi, wi, hp, Light.val, Light.cells, Life.cells]
    refine IWp.seq ?_
    refine IWp.run [0, 3, 4, 6, 7, 8] ?_
    simp [go_sem, -getElem?_pos, -List.map_take, -List.map_drop, List.getElem?_cons_zero, List.getElem?_cons_succ, Go.IntWalk.iteOmega, Go.IntWalk.toNatUp, hlt, gi, wi, hp, Light.val, Light.cells, Life.cells]
    -- CUT live [0, 4, 6, 7, 8]
    have hv3 : ∃ b6, b6 = K.next + 1 := ⟨_, rfl⟩
    obtain ⟨b6, hb6⟩ := hv3
    have hO : O.length ≤ L.length := by omega
    refine IWp.freezeE (fun j => decide (j < K.next)) (e' := [(0, frow 7 0 (L.map Light.val)), (3, frow 5 0 (O.map Lamp.val)), (4, .int .i64 (i : Int)), (6, ptrTo b6 0), (7, .slice none 0 0), (8, .bool false)]) (.cons (.same _) (.cons (frzOld hv (fun b k hb => by have := Heap.lt_of_get hb; simp [get_alloc, next_alloc, show ¬ b = K.next by omega, show ¬ b = K.next + 1 by omega, hb]) _ (Nat.le_refl _)) (.cons (.same _) (.cons (hb6 ▸ .same _) (.cons (.same _) (.cons (.same _) .nil)))))) ?_
    obtain ⟨K1, hK1⟩ : ∃ K1, K1 = ((K.alloc [Value.int IntKind.i64 x.cond, Value.int IntKind.u8 x.prio, Value.bool x.life.on, Value.bool true, Value.bool x.life.acked, Value.int IntKind.i64 x.life.since, Value.int IntKind.i64 x.life.stage]).alloc [Value.int IntKind.i64 x.cond, Value.int IntKind.u8 x.prio, Value.int IntKind.i64 x.life.stage, Value.bool x.life.on, Value.bool x.life.acked]).only fun b => !decide (b < K.next) := ⟨_, rfl⟩
    have g6 : K1.get b6 = some ⟨(lampOf x).cells, true⟩ := by
      rw [hK1, hb6]
      simp [Heap.only, get_alloc, next_alloc, lampOf, Lamp.cells]
    have hn1 : K1.next = b6 + 1 := by rw [hK1, hb6]; rfl
    rw [← hK1]
    clear hK1 hv
    generalize lampOf x = A at *
    refine IWp.cut (fun e' K2 => ∃ m, K2.get b6 = some ⟨A.cells, true⟩ ∧ Bld 5 K2 (b6 + 1) m ((partL A O).map Lamp.val) ∧ b6 + 1 ≤ K2.next ∧ e' = [(0, frow 7 0 (L.map Light.val)), (4, .int .i64 (i : Int)), (6, ptrTo b6 0), (7, m), (8, .bool (O.any (lampLt A)))]) ?_ ?_
    case refine_2 =>
      rintro e' K2 ⟨m, g, hm, hn2, rfl⟩
      have hend := partL_end (a := A) (O := O)
      simp only [Lamp.cells] at g
      cases hd : O.any (lampLt A) with
      | true =>
        rw [hd] at hend
        simp only [if_true] at hend
        refine IWp.seq ?_
        refine IWp.seq ?_
        refine IWp.run [0, 4, 6, 7, 88] ?_
        simp [go_sem, -getElem?_pos, -List.map_take, -List.map_drop, List.getElem?_cons_zero, List.getElem?_cons_succ, Go.IntWalk.iteOmega, Go.IntWalk.toNatUp, wi]
        refine IWp.cond ?_
        simp [go_sem, -getElem?_pos, -List.map_take, -List.map_drop, List.getElem?_cons_zero, List.getElem?_cons_succ, Go.IntWalk.iteOmega, Go.IntWalk.toNatUp, wi]
        refine IWp.trim [0, 4, 7] (IWp.skip ?_)
        simp [go_sem, -getElem?_pos, -List.map_take, -List.map_drop, List.getElem?_cons_zero, List.getElem?_cons_succ, Go.IntWalk.iteOmega, Go.IntWalk.toNatUp, wi]
        refine IWp.run [0, 3, 4] ?_
        simp [go_sem, -getElem?_pos, -List.map_take, -List.map_drop, List.getElem?_cons_zero, List.getElem?_cons_succ, Go.IntWalk.iteOmega, Go.IntWalk.toNatUp, wi]
        refine IWp.run [0, 3, 4] ?_
        simp [go_sem, -getElem?_pos, -List.map_take, -List.map_drop, List.getElem?_cons_zero, List.getElem?_cons_succ, Go.IntWalk.iteOmega, Go.IntWalk.toNatUp, wi]
        exact ⟨L.length - (i + 1), by omega, i + 1, by omega, by omega, m, by rw [hs, hend]; exact hm.le (Nat.zero_le _), rfl, by omega⟩
      | false =>
        rw [hd] at hend
        simp only [Bool.false_eq_true, if_false] at hend
        have hlp : (partL A O).length ≤ O.length := by unfold partL; rw [hd]; simp
        obtain ⟨v', H', e2, b2, s2, n2, _⟩ := app_one (P := Try.prog) (t := 58) (e := 104) (sz := 5) (by_ := 32) (z := .agg ⟨[.int .i64 0, .int .u8 0, .int .i64 0, .bool false, .bool false]⟩) (by kernel_rfl) (by kernel_rfl) (by kernel_rfl) (by kernel_rfl) rfl A.val A.cells hm rfl rfl rfl hn2 (by simp; omega) (by simp; omega)
        rw [← List.map_singleton, ← List.map_append, ← hend, ← hs] at b2
        simp only [Lamp.cells] at e2
        refine IWp.seq ?_
        refine IWp.seq ?_
        refine IWp.run [0, 4, 6, 7, 88] ?_
        simp [go_sem, -getElem?_pos, -List.map_take, -List.map_drop, List.getElem?_cons_zero, List.getElem?_cons_succ, Go.IntWalk.iteOmega, Go.IntWalk.toNatUp, wi, g, e2]
        refine IWp.cond ?_
        simp [go_sem, -getElem?_pos, -List.map_take, -List.map_drop, List.getElem?_cons_zero, List.getElem?_cons_succ, Go.IntWalk.iteOmega, Go.IntWalk.toNatUp, wi, g, e2]
        refine IWp.run [0, 4, 7] ?_
        simp [go_sem, -getElem?_pos, -List.map_take, -List.map_drop, List.getElem?_cons_zero, List.getElem?_cons_succ, Go.IntWalk.iteOmega, Go.IntWalk.toNatUp, wi, g, e2]
        refine IWp.run [0, 3, 4] ?_
        simp [go_sem, -getElem?_pos, -List.map_take, -List.map_drop, List.getElem?_cons_zero, List.getElem?_cons_succ, Go.IntWalk.iteOmega, Go.IntWalk.toNatUp, wi, g, e2]
        refine IWp.run [0, 3, 4] ?_
        simp [go_sem, -getElem?_pos, -List.map_take, -List.map_drop, List.getElem?_cons_zero, List.getElem?_cons_succ, Go.IntWalk.iteOmega, Go.IntWalk.toNatUp, wi, g, e2]
        exact ⟨L.length - (i + 1), by omega, i + 1, by omega, by omega, v', b2.le (Nat.zero_le _), rfl, by omega⟩
    refine IWp.seq ?_
    refine IWp.run [0, 3, 4, 6, 7, 8, 9] ?_
    simp [go_sem, -getElem?_pos, -List.map_take, -List.map_drop, List.getElem?_cons_zero, List.getElem?_cons_succ, Go.IntWalk.iteOmega, Go.IntWalk.toNatUp]
    refine IWp.block ?_
    -- LOOP live [0, 3, 4, 6, 7, 8, 9]
    refine IWp.loop (fun q e K2 => ∃ (k : Nat) (m : Value), q = O.length - k ∧ k ≤ O.length ∧ K2.get b6 = some ⟨A.cells, true⟩ ∧ Bld 5 K2 (b6 + 1) m ((partL A (O.take k)).map Lamp.val) ∧ b6 + 1 ≤ K2.next ∧ e = [(0, frow 7 0 (L.map Light.val)), (3, frow 5 0 (O.map Lamp.val)), (4, .int .i64 (i : Int)), (6, ptrTo b6 0), (7, m), (8, .bool ((O.take k).any (lampLt A))), (9, .int .i64 (k : Int))]) O.length ⟨0, .slice none 0 0, rfl, Nat.zero_le _, g6, Bld.nil _ _ _, by omega, by simp [go_sem]⟩ ?_
    rintro q e K2 ⟨k, m, rfl, hk, g, hm, hn2, rfl⟩
    have wk := IntWalk.i64_in ((k : Int) + 1) (by omega)
    by_cases hkl : k < O.length
    case neg =>
      rw [List.take_of_length_le (by omega)] at hm
      rw [List.take_of_length_le (by omega)]
      refine IWp.seq ?_
      refine IWp.seq ?_
      refine IWp.run [0, 3, 4, 6, 7, 8, 9, 41] ?_
      simp [go_sem, -getElem?_pos, -List.map_take, -List.map_drop, List.getElem?_cons_zero, List.getElem?_cons_succ, Go.IntWalk.iteOmega, Go.IntWalk.toNatUp, hkl]
      refine IWp.cond ?_
      simp [go_sem, -getElem?_pos, -List.map_take, -List.map_drop, List.getElem?_cons_zero, List.getElem?_cons_succ, Go.IntWalk.iteOmega, Go.IntWalk.toNatUp, hkl]
      refine IWp.trim [0, 4, 6, 7, 8] (IWp.exit ?_)
      simp [go_sem, -getElem?_pos, -List.map_take, -List.map_drop, List.getElem?_cons_zero, List.getElem?_cons_succ, Go.IntWalk.iteOmega, Go.IntWalk.toNatUp, hkl]
      exact ⟨g, hm, hn2⟩
    have gk : (O.map Lamp.val)[k]? = some (O[k]).val := by simp [hkl]
    have hlp : (partL A (O.take k)).length ≤ k + 1 := by
      unfold partL
      split
      · rw [insL_len, List.length_take]; omega
      · rw [List.length_take]; omega
    have p1 := partL_done (a := A) hkl
    have p2 := partL_now (a := A) hkl
    have p3 := partL_not (a := A) hkl
    generalize O[k] = y at *
    have one : ∀ (K3 : Heap) (m3 : Value) (P3 : List Lamp), Bld 5 K3 (b6 + 1) m3 (P3.map Lamp.val) → b6 + 1 ≤ K3.next → P3.length ≤ k + 2 → ∀ (z : Lamp), ∃ v' H', iapp Try.prog 58 m3 (.slice (some ⟨K3.next, 0, some 5⟩) 1 1) (K3.alloc [.int .i64 z.cond, .int .u8 z.prio, .int .i64 z.stage, .bool z.cause, .bool z.acked]) = some (v', H') ∧ Bld 5 H' (b6 + 1) v' ((P3 ++ [z]).map Lamp.val) ∧ (∀ b, b < b6 + 1 → H'.get b = K3.get b) ∧ b6 + 1 ≤ H'.next := by
      intro K3 m3 P3 hb hn hl z
      obtain ⟨v', H', e2, b2, s2, n2, _⟩ := app_one (P := Try.prog) (t := 58) (e := 104) (sz := 5) (by_ := 32) (z := .agg ⟨[.int .i64 0, .int .u8 0, .int .i64 0, .bool false, .bool false]⟩) (by kernel_rfl) (by kernel_rfl) (by kernel_rfl) (by kernel_rfl) rfl z.val z.cells hb rfl rfl rfl hn (by simp; omega) (by simp; omega)
      rw [← List.map_singleton, ← List.map_append] at b2
      exact ⟨v', H', e2, b2, s2, by omega⟩
    cases hd : (O.take k).any (lampLt A) with
    | true =>
      obtain ⟨q1, q2⟩ := p1 hd
      obtain ⟨v', H', e2, b2, s2, n2⟩ := one K2 m _ hm hn2 (by omega) y
      rw [← q2] at b2
      have g2 := (s2 b6 (by omega)).trans g
      simp only [Lamp.cells] at g
      refine IWp.seq ?_
      refine IWp.seq ?_
      refine IWp.run [0, 3, 4, 6, 7, 8, 9, 41] ?_
      simp [go_sem, -getElem?_pos, -List.map_take, -List.map_drop, List.getElem?_cons_zero, List.getElem?_cons_succ, Go.IntWalk.iteOmega, Go.IntWalk.toNatUp, hkl, gk, wk, g, Lamp.val, Lamp.cells, e2]
      refine IWp.cond ?_
      simp [go_sem, -getElem?_pos, -List.map_take, -List.map_drop, List.getElem?_cons_zero, List.getElem?_cons_succ, Go.IntWalk.iteOmega, Go.IntWalk.toNatUp, hkl, gk, wk, g, Lamp.val, Lamp.cells, e2]
      refine IWp.trim [0, 3, 4, 6, 7, 8, 9] (IWp.skip ?_)
      simp [go_sem, -getElem?_pos, -List.map_take, -List.map_drop, List.getElem?_cons_zero, List.getElem?_cons_succ, Go.IntWalk.iteOmega, Go.IntWalk.toNatUp, hkl, gk, wk, g, Lamp.val, Lamp.cells, e2]
      refine IWp.seq ?_
      refine IWp.block ?_
      refine IWp.seq ?_
      refine IWp.seq ?_
      refine IWp.read [0, 3, 4, 6, 7, 8, 9, 75] follows (by kernel_rfl) ?_
      simp [go_sem, -getElem?_pos, -List.map_take, -List.map_drop, List.getElem?_cons_zero, List.getElem?_cons_succ, Go.IntWalk.iteOmega, Go.IntWalk.toNatUp, hkl, gk, wk, g, Lamp.val, Lamp.cells, e2]
      refine IWp.cond ?_
      simp [go_sem, -getElem?_pos, -List.map_take, -List.map_drop, List.getElem?_cons_zero, List.getElem?_cons_succ, Go.IntWalk.iteOmega, Go.IntWalk.toNatUp, hkl, gk, wk, g, Lamp.val, Lamp.cells, e2]
      refine IWp.trim [0, 3, 4, 6, 7, 8, 9] (IWp.skip ?_)
      simp [go_sem, -getElem?_pos, -List.map_take, -List.map_drop, List.getElem?_cons_zero, List.getElem?_cons_succ, Go.IntWalk.iteOmega, Go.IntWalk.toNatUp, hkl, gk, wk, g, Lamp.val, Lamp.cells, e2]
      refine IWp.run [0, 3, 4, 6, 7, 8, 9] ?_
      simp [go_sem, -getElem?_pos, -List.map_take, -List.map_drop, List.getElem?_cons_zero, List.getElem?_cons_succ, Go.IntWalk.iteOmega, Go.IntWalk.toNatUp, hkl, gk, wk, g, Lamp.val, Lamp.cells, e2]
      refine IWp.run [0, 3, 4, 6, 7, 8, 9] ?_
      simp [go_sem, -getElem?_pos, -List.map_take, -List.map_drop, List.getElem?_cons_zero, List.getElem?_cons_succ, Go.IntWalk.iteOmega, Go.IntWalk.toNatUp, hkl, gk, wk, g, Lamp.val, Lamp.cells, e2]
      exact ⟨O.length - (k + 1), by omega, k + 1, by omega, by omega, g2, v', b2, n2, rfl, by simpa using q1, by omega⟩
    | false =>
      cases hl : lampLt A y with
      | true =>
        obtain ⟨q1, q2⟩ := p2 hd hl
        obtain ⟨v1, H1, e1, c1, s1, n1⟩ := one K2 m _ hm hn2 (by omega) A
        obtain ⟨v', H', e2, b2, s2, n2⟩ := one H1 v1 _ c1 n1 (by simp; omega) y
        rw [← q2] at b2
        have g1 := (s1 b6 (by omega)).trans g
        have g2 := (s2 b6 (by omega)).trans g1
        simp only [Lamp.cells] at g
        unfold lampLt at hl
        simp only [decide_eq_true_eq] at hl
        by_cases h1 : y.prio < A.prio
        · skip
          refine IWp.seq ?_
          refine IWp.seq ?_
          refine IWp.run [0, 3, 4, 6, 7, 8, 9, 41] ?_
          simp [go_sem, -getElem?_pos, -List.map_take, -List.map_drop, List.getElem?_cons_zero, List.getElem?_cons_succ, Go.IntWalk.iteOmega, Go.IntWalk.toNatUp, hkl, gk, wk, g, h1, Lamp.val, Lamp.cells, e1, e2]
          refine IWp.cond ?_
          simp [go_sem, -getElem?_pos, -List.map_take, -List.map_drop, List.getElem?_cons_zero, List.getElem?_cons_succ, Go.IntWalk.iteOmega, Go.IntWalk.toNatUp, hkl, gk, wk, g, h1, Lamp.val, Lamp.cells, e1, e2]
          refine IWp.trim [0, 3, 4, 6, 7, 8, 9] (IWp.skip ?_)
          simp [go_sem, -getElem?_pos, -List.map_take, -List.map_drop, List.getElem?_cons_zero, List.getElem?_cons_succ, Go.IntWalk.iteOmega, Go.IntWalk.toNatUp, hkl, gk, wk, g, h1, Lamp.val, Lamp.cells, e1, e2]
          refine IWp.seq ?_
          refine IWp.block ?_
          refine IWp.seq ?_
          refine IWp.seq ?_
          refine IWp.read [0, 3, 4, 6, 7, 8, 9, 75] follows (by kernel_rfl) ?_
          simp [go_sem, -getElem?_pos, -List.map_take, -List.map_drop, List.getElem?_cons_zero, List.getElem?_cons_succ, Go.IntWalk.iteOmega, Go.IntWalk.toNatUp, hkl, gk, wk, g, h1, Lamp.val, Lamp.cells, e1, e2]
          refine IWp.cond ?_
          simp [go_sem, -getElem?_pos, -List.map_take, -List.map_drop, List.getElem?_cons_zero, List.getElem?_cons_succ, Go.IntWalk.iteOmega, Go.IntWalk.toNatUp, hkl, gk, wk, g, h1, Lamp.val, Lamp.cells, e1, e2]
          refine IWp.seq ?_
          refine IWp.run [0, 3, 4, 6, 7, 9] ?_
          simp [go_sem, -getElem?_pos, -List.map_take, -List.map_drop, List.getElem?_cons_zero, List.getElem?_cons_succ, Go.IntWalk.iteOmega, Go.IntWalk.toNatUp, hkl, gk, wk, g, h1, Lamp.val, Lamp.cells, e1, e2]
          refine IWp.run [0, 3, 4, 6, 7, 8, 9] ?_
          simp [go_sem, -getElem?_pos, -List.map_take, -List.map_drop, List.getElem?_cons_zero, List.getElem?_cons_succ, Go.IntWalk.iteOmega, Go.IntWalk.toNatUp, hkl, gk, wk, g, h1, Lamp.val, Lamp.cells, e1, e2]
          refine IWp.run [0, 3, 4, 6, 7, 8, 9] ?_
          simp [go_sem, -getElem?_pos, -List.map_take, -List.map_drop, List.getElem?_cons_zero, List.getElem?_cons_succ, Go.IntWalk.iteOmega, Go.IntWalk.toNatUp, hkl, gk, wk, g, h1, Lamp.val, Lamp.cells, e1, e2]
          refine IWp.run [0, 3, 4, 6, 7, 8, 9] ?_
          simp [go_sem, -getElem?_pos, -List.map_take, -List.map_drop, List.getElem?_cons_zero, List.getElem?_cons_succ, Go.IntWalk.iteOmega, Go.IntWalk.toNatUp, hkl, gk, wk, g, h1, Lamp.val, Lamp.cells, e1, e2]
          exact ⟨O.length - (k + 1), by omega, k + 1, by omega, by omega, g2, v', b2, n2, rfl, by simpa using q1, by omega⟩
        · have h2 : A.prio = y.prio := by omega
          have h3 : A.cond < y.cond := by omega
          refine IWp.seq ?_
          refine IWp.seq ?_
          refine IWp.run [0, 3, 4, 6, 7, 8, 9, 41] ?_
          simp [go_sem, -getElem?_pos, -List.map_take, -List.map_drop, List.getElem?_cons_zero, List.getElem?_cons_succ, Go.IntWalk.iteOmega, Go.IntWalk.toNatUp, hkl, gk, wk, g, h1, eq_true h2, h3, Lamp.val, Lamp.cells, e1, e2]
          refine IWp.cond ?_
          simp [go_sem, -getElem?_pos, -List.map_take, -List.map_drop, List.getElem?_cons_zero, List.getElem?_cons_succ, Go.IntWalk.iteOmega, Go.IntWalk.toNatUp, hkl, gk, wk, g, h1, eq_true h2, h3, Lamp.val, Lamp.cells, e1, e2]
          refine IWp.trim [0, 3, 4, 6, 7, 8, 9] (IWp.skip ?_)
          simp [go_sem, -getElem?_pos, -List.map_take, -List.map_drop, List.getElem?_cons_zero, List.getElem?_cons_succ, Go.IntWalk.iteOmega, Go.IntWalk.toNatUp, hkl, gk, wk, g, h1, eq_true h2, h3, Lamp.val, Lamp.cells, e1, e2]
          refine IWp.seq ?_
          refine IWp.block ?_
          refine IWp.seq ?_
          refine IWp.seq ?_
          refine IWp.read [0, 3, 4, 6, 7, 8, 9, 75] follows (by kernel_rfl) ?_
          simp [go_sem, -getElem?_pos, -List.map_take, -List.map_drop, List.getElem?_cons_zero, List.getElem?_cons_succ, Go.IntWalk.iteOmega, Go.IntWalk.toNatUp, hkl, gk, wk, g, h1, eq_true h2, h3, Lamp.val, Lamp.cells, e1, e2]
          refine IWp.cond ?_
          simp [go_sem, -getElem?_pos, -List.map_take, -List.map_drop, List.getElem?_cons_zero, List.getElem?_cons_succ, Go.IntWalk.iteOmega, Go.IntWalk.toNatUp, hkl, gk, wk, g, h1, eq_true h2, h3, Lamp.val, Lamp.cells, e1, e2]
          refine IWp.seq ?_
          refine IWp.run [0, 3, 4, 6, 7, 9] ?_
          simp [go_sem, -getElem?_pos, -List.map_take, -List.map_drop, List.getElem?_cons_zero, List.getElem?_cons_succ, Go.IntWalk.iteOmega, Go.IntWalk.toNatUp, hkl, gk, wk, g, h1, eq_true h2, h3, Lamp.val, Lamp.cells, e1, e2]
          refine IWp.run [0, 3, 4, 6, 7, 8, 9] ?_
          simp [go_sem, -getElem?_pos, -List.map_take, -List.map_drop, List.getElem?_cons_zero, List.getElem?_cons_succ, Go.IntWalk.iteOmega, Go.IntWalk.toNatUp, hkl, gk, wk, g, h1, eq_true h2, h3, Lamp.val, Lamp.cells, e1, e2]
          refine IWp.run [0, 3, 4, 6, 7, 8, 9] ?_
          simp [go_sem, -getElem?_pos, -List.map_take, -List.map_drop, List.getElem?_cons_zero, List.getElem?_cons_succ, Go.IntWalk.iteOmega, Go.IntWalk.toNatUp, hkl, gk, wk, g, h1, eq_true h2, h3, Lamp.val, Lamp.cells, e1, e2]
          refine IWp.run [0, 3, 4, 6, 7, 8, 9] ?_
          simp [go_sem, -getElem?_pos, -List.map_take, -List.map_drop, List.getElem?_cons_zero, List.getElem?_cons_succ, Go.IntWalk.iteOmega, Go.IntWalk.toNatUp, hkl, gk, wk, g, h1, eq_true h2, h3, Lamp.val, Lamp.cells, e1, e2]
          exact ⟨O.length - (k + 1), by omega, k + 1, by omega, by omega, g2, v', b2, n2, rfl, by simpa using q1, by omega⟩
      | false =>
        obtain ⟨q1, q2⟩ := p3 hd hl
        obtain ⟨v', H', e2, b2, s2, n2⟩ := one K2 m _ hm hn2 (by omega) y
        rw [← q2] at b2
        have g2 := (s2 b6 (by omega)).trans g
        simp only [Lamp.cells] at g
        unfold lampLt at hl
        simp only [decide_eq_false_iff_not] at hl
        have h1 : ¬ y.prio < A.prio := by omega
        by_cases h2 : A.prio = y.prio
        · have h3 : ¬ A.cond < y.cond := by omega
          refine IWp.seq ?_
          refine IWp.seq ?_
          refine IWp.run [0, 3, 4, 6, 7, 8, 9, 41] ?_
          simp [go_sem, -getElem?_pos, -List.map_take, -List.map_drop, List.getElem?_cons_zero, List.getElem?_cons_succ, Go.IntWalk.iteOmega, Go.IntWalk.toNatUp, hkl, gk, wk, g, h1, eq_true h2, h3, Lamp.val, Lamp.cells, e2]
          refine IWp.cond ?_
          simp [go_sem, -getElem?_pos, -List.map_take, -List.map_drop, List.getElem?_cons_zero, List.getElem?_cons_succ, Go.IntWalk.iteOmega, Go.IntWalk.toNatUp, hkl, gk, wk, g, h1, eq_true h2, h3, Lamp.val, Lamp.cells, e2]
          refine IWp.trim [0, 3, 4, 6, 7, 8, 9] (IWp.skip ?_)
          simp [go_sem, -getElem?_pos, -List.map_take, -List.map_drop, List.getElem?_cons_zero, List.getElem?_cons_succ, Go.IntWalk.iteOmega, Go.IntWalk.toNatUp, hkl, gk, wk, g, h1, eq_true h2, h3, Lamp.val, Lamp.cells, e2]
          refine IWp.seq ?_
          refine IWp.block ?_
          refine IWp.seq ?_
          refine IWp.seq ?_
          refine IWp.read [0, 3, 4, 6, 7, 8, 9, 75] follows (by kernel_rfl) ?_
          simp [go_sem, -getElem?_pos, -List.map_take, -List.map_drop, List.getElem?_cons_zero, List.getElem?_cons_succ, Go.IntWalk.iteOmega, Go.IntWalk.toNatUp, hkl, gk, wk, g, h1, eq_true h2, h3, Lamp.val, Lamp.cells, e2]
          refine IWp.cond ?_
          simp [go_sem, -getElem?_pos, -List.map_take, -List.map_drop, List.getElem?_cons_zero, List.getElem?_cons_succ, Go.IntWalk.iteOmega, Go.IntWalk.toNatUp, hkl, gk, wk, g, h1, eq_true h2, h3, Lamp.val, Lamp.cells, e2]
          refine IWp.trim [0, 3, 4, 6, 7, 8, 9] (IWp.skip ?_)
          simp [go_sem, -getElem?_pos, -List.map_take, -List.map_drop, List.getElem?_cons_zero, List.getElem?_cons_succ, Go.IntWalk.iteOmega, Go.IntWalk.toNatUp, hkl, gk, wk, g, h1, eq_true h2, h3, Lamp.val, Lamp.cells, e2]
          refine IWp.run [0, 3, 4, 6, 7, 8, 9] ?_
          simp [go_sem, -getElem?_pos, -List.map_take, -List.map_drop, List.getElem?_cons_zero, List.getElem?_cons_succ, Go.IntWalk.iteOmega, Go.IntWalk.toNatUp, hkl, gk, wk, g, h1, eq_true h2, h3, Lamp.val, Lamp.cells, e2]
          refine IWp.run [0, 3, 4, 6, 7, 8, 9] ?_
          simp [go_sem, -getElem?_pos, -List.map_take, -List.map_drop, List.getElem?_cons_zero, List.getElem?_cons_succ, Go.IntWalk.iteOmega, Go.IntWalk.toNatUp, hkl, gk, wk, g, h1, eq_true h2, h3, Lamp.val, Lamp.cells, e2]
          exact ⟨O.length - (k + 1), by omega, k + 1, by omega, by omega, g2, v', b2, n2, rfl, by simpa using q1, by omega⟩
        · skip
          refine IWp.seq ?_
          refine IWp.seq ?_
          refine IWp.run [0, 3, 4, 6, 7, 8, 9, 41] ?_
          simp [go_sem, -getElem?_pos, -List.map_take, -List.map_drop, List.getElem?_cons_zero, List.getElem?_cons_succ, Go.IntWalk.iteOmega, Go.IntWalk.toNatUp, hkl, gk, wk, g, h1, h2, Lamp.val, Lamp.cells, e2]
          refine IWp.cond ?_
          simp [go_sem, -getElem?_pos, -List.map_take, -List.map_drop, List.getElem?_cons_zero, List.getElem?_cons_succ, Go.IntWalk.iteOmega, Go.IntWalk.toNatUp, hkl, gk, wk, g, h1, h2, Lamp.val, Lamp.cells, e2]
          refine IWp.trim [0, 3, 4, 6, 7, 8, 9] (IWp.skip ?_)
          simp [go_sem, -getElem?_pos, -List.map_take, -List.map_drop, List.getElem?_cons_zero, List.getElem?_cons_succ, Go.IntWalk.iteOmega, Go.IntWalk.toNatUp, hkl, gk, wk, g, h1, h2, Lamp.val, Lamp.cells, e2]
          refine IWp.seq ?_
          refine IWp.block ?_
          refine IWp.seq ?_
          refine IWp.seq ?_
          refine IWp.read [0, 3, 4, 6, 7, 8, 9, 75] follows (by kernel_rfl) ?_
          simp [go_sem, -getElem?_pos, -List.map_take, -List.map_drop, List.getElem?_cons_zero, List.getElem?_cons_succ, Go.IntWalk.iteOmega, Go.IntWalk.toNatUp, hkl, gk, wk, g, h1, h2, Lamp.val, Lamp.cells, e2]
          refine IWp.cond ?_
          simp [go_sem, -getElem?_pos, -List.map_take, -List.map_drop, List.getElem?_cons_zero, List.getElem?_cons_succ, Go.IntWalk.iteOmega, Go.IntWalk.toNatUp, hkl, gk, wk, g, h1, h2, Lamp.val, Lamp.cells, e2]
          refine IWp.trim [0, 3, 4, 6, 7, 8, 9] (IWp.skip ?_)
          simp [go_sem, -getElem?_pos, -List.map_take, -List.map_drop, List.getElem?_cons_zero, List.getElem?_cons_succ, Go.IntWalk.iteOmega, Go.IntWalk.toNatUp, hkl, gk, wk, g, h1, h2, Lamp.val, Lamp.cells, e2]
          refine IWp.run [0, 3, 4, 6, 7, 8, 9] ?_
          simp [go_sem, -getElem?_pos, -List.map_take, -List.map_drop, List.getElem?_cons_zero, List.getElem?_cons_succ, Go.IntWalk.iteOmega, Go.IntWalk.toNatUp, hkl, gk, wk, g, h1, h2, Lamp.val, Lamp.cells, e2]
          refine IWp.run [0, 3, 4, 6, 7, 8, 9] ?_
          simp [go_sem, -getElem?_pos, -List.map_take, -List.map_drop, List.getElem?_cons_zero, List.getElem?_cons_succ, Go.IntWalk.iteOmega, Go.IntWalk.toNatUp, hkl, gk, wk, g, h1, h2, Lamp.val, Lamp.cells, e2]
          exact ⟨O.length - (k + 1), by omega, k + 1, by omega, by omega, g2, v', b2, n2, rfl, by simpa using q1, by omega⟩

end Go.Proofs.Ytdimnoeldnfikaa.I
