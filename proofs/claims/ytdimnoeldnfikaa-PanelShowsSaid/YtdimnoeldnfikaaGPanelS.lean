/- Panels by the document: how high, what is shown; outputs that are alike. No condition. -/
import Derived.Test.YtdimnoeldnfikaaGPanelR
namespace Go.Proofs.Ytdimnoeldnfikaa.I
open Go Go.RowKit
set_option linter.unusedVariables false
set_option linter.unusedSimpArgs false

def heardB (loud : Bool) : Life → Bool := if loud = true then loudB else Life.lit
theorem refHighestC (H : Heap) (L : List Light) (loud : Bool) (hL : L.length ≤ 1000000) : ICalls Try.prog 37 [frow 7 0 (L.map Light.val), .bool loud] H fun v H' => v = .int .u8 (topS (heardB loud) L) ∧ H' = H := by
  refine ICalls.ans (by simp [go_sem]) fun H => IBody.calls (by kernel_rfl) ?_
  refine IBody.of Try.func37 rfl (by rw [Try.ntmps37]; simp) ?_
  rw [Try.ntmps37]
  refine IWp.seq ?_
  refine IWp.run [0, 1] ?_
  simp [go_sem, -getElem?_pos, -List.map_take, -List.map_drop, List.getElem?_cons_zero, List.getElem?_cons_succ, Go.IntWalk.iteOmega, Go.IntWalk.toNatUp]
  refine IWp.seq ?_
  refine IWp.run [0, 1, 5] ?_
  simp [go_sem, -getElem?_pos, -List.map_take, -List.map_drop, List.getElem?_cons_zero, List.getElem?_cons_succ, Go.IntWalk.iteOmega, Go.IntWalk.toNatUp]
  refine IWp.seq ?_
  refine IWp.seq ?_
  refine IWp.run [0, 1, 5, 6] ?_
  simp [go_sem, -getElem?_pos, -List.map_take, -List.map_drop, List.getElem?_cons_zero, List.getElem?_cons_succ, Go.IntWalk.iteOmega, Go.IntWalk.toNatUp]
  refine IWp.block ?_
  -- LOOP live [0, 1, 5, 6]
  refine IWp.loop (fun q e K => ∃ i : Nat, q = L.length - i ∧ i ≤ L.length ∧ e = [(0, frow 7 0 (L.map Light.val)), (1, .bool loud), (5, .int .u8 (topS (heardB loud) (L.take i))), (6, .int .i64 (i : Int))]) L.length ⟨0, rfl, Nat.zero_le _, by simp [go_sem, topS]⟩ ?_
  rintro q e K ⟨i, rfl, hi, rfl⟩
  have wi := IntWalk.i64_in ((i : Int) + 1) (by omega)
  by_cases hlt : i < L.length
  case neg =>
    rw [List.take_of_length_le (by omega)]
    refine IWp.seq ?_
    refine IWp.seq ?_
    refine IWp.run [0, 1, 5, 6, 10] ?_
    simp [go_sem, -getElem?_pos, -List.map_take, -List.map_drop, List.getElem?_cons_zero, List.getElem?_cons_succ, Go.IntWalk.iteOmega, Go.IntWalk.toNatUp, hlt]
    refine IWp.cond ?_
    simp [go_sem, -getElem?_pos, -List.map_take, -List.map_drop, List.getElem?_cons_zero, List.getElem?_cons_succ, Go.IntWalk.iteOmega, Go.IntWalk.toNatUp, hlt]
    refine IWp.trim [5] (IWp.exit ?_)
    simp [go_sem, -getElem?_pos, -List.map_take, -List.map_drop, List.getElem?_cons_zero, List.getElem?_cons_succ, Go.IntWalk.iteOmega, Go.IntWalk.toNatUp, hlt]
    refine IWp.seq ?_
    refine IWp.run [4] ?_
    simp [go_sem, -getElem?_pos, -List.map_take, -List.map_drop, List.getElem?_cons_zero, List.getElem?_cons_succ, Go.IntWalk.iteOmega, Go.IntWalk.toNatUp, hlt]
    refine IWp.ret ?_
    simp [go_sem, -getElem?_pos, -List.map_take, -List.map_drop, List.getElem?_cons_zero, List.getElem?_cons_succ, Go.IntWalk.iteOmega, Go.IntWalk.toNatUp, hlt, Try.results37]
    try exact .same _
  have gi : (L.map Light.val)[i]? = some (L[i]).val := by simp [hlt]
  have hs := topS_snoc (heardB loud) L hlt
  generalize L[i] = x at *
  generalize topS (heardB loud) (L.take i) = w at *
  cases hl : x.life.lit with
  | false =>
    have hb : heardB loud x.life = false := by unfold heardB loudB; split <;> simp [hl]
    rw [hb] at hs
    refine IWp.seq ?_
    refine IWp.seq ?_
    refine IWp.run [0, 1, 5, 6, 10] ?_
    simp [go_sem, -getElem?_pos, -List.map_take, -List.map_drop, List.getElem?_cons_zero, List.getElem?_cons_succ, Go.IntWalk.iteOmega, Go.IntWalk.toNatUp, hlt, gi, wi, hl, Light.val, Light.cells, Life.cells]
    refine IWp.cond ?_
    simp [go_sem, -getElem?_pos, -List.map_take, -List.map_drop, List.getElem?_cons_zero, List.getElem?_cons_succ, Go.IntWalk.iteOmega, Go.IntWalk.toNatUp, hlt, gi, wi, hl, Light.val, Light.cells, Life.cells]
    refine IWp.trim [0, 1, 5, 6] (IWp.skip ?_)
    simp [go_sem, -getElem?_pos, -List.map_take, -List.map_drop, List.getElem?_cons_zero, List.getElem?_cons_succ, Go.IntWalk.iteOmega, Go.IntWalk.toNatUp, hlt, gi, wi, hl, Light.val, Light.cells, Life.cells]
    refine IWp.seq ?_
    refine IWp.block ?_
    refine IWp.seq ?_
    refine IWp.run [0, 1, 5, 6, 39] ?_
    simp [go_sem, -getElem?_pos, -List.map_take, -List.map_drop, List.getElem?_cons_zero, List.getElem?_cons_succ, Go.IntWalk.iteOmega, Go.IntWalk.toNatUp, hlt, gi, wi, hl, Light.val, Light.cells, Life.cells]
    refine IWp.cond ?_
    simp [go_sem, -getElem?_pos, -List.map_take, -List.map_drop, List.getElem?_cons_zero, List.getElem?_cons_succ, Go.IntWalk.iteOmega, Go.IntWalk.toNatUp, hlt, gi, wi, hl, Light.val, Light.cells, Life.cells]
    refine IWp.trim [0, 1, 5, 6] (IWp.skip ?_)
    simp [go_sem, -getElem?_pos, -List.map_take, -List.map_drop, List.getElem?_cons_zero, List.getElem?_cons_succ, Go.IntWalk.iteOmega, Go.IntWalk.toNatUp, hlt, gi, wi, hl, Light.val, Light.cells, Life.cells]
    refine IWp.run [0, 1, 5, 6] ?_
    simp [go_sem, -getElem?_pos, -List.map_take, -List.map_drop, List.getElem?_cons_zero, List.getElem?_cons_succ, Go.IntWalk.iteOmega, Go.IntWalk.toNatUp, hlt, gi, wi, hl, Light.val, Light.cells, Life.cells]
    exact ⟨L.length - (i + 1), by omega, i + 1, rfl, by omega, by rw [hs]; rfl, by omega⟩
  | true =>
    cases loud with
    | false =>
      have hb : heardB false x.life = true := by unfold heardB; simp [hl]
      rw [hb] at hs
      simp only [if_true] at hs
      by_cases hp : w < x.prio
      · skip
        refine IWp.seq ?_
        refine IWp.seq ?_
        refine IWp.run [0, 1, 5, 6, 10] ?_
        simp [go_sem, -getElem?_pos, -List.map_take, -List.map_drop, List.getElem?_cons_zero, List.getElem?_cons_succ, Go.IntWalk.iteOmega, Go.IntWalk.toNatUp, hlt, gi, wi, hl, hp, Light.val, Light.cells, Life.cells]
        refine IWp.cond ?_
        simp [go_sem, -getElem?_pos, -List.map_take, -List.map_drop, List.getElem?_cons_zero, List.getElem?_cons_succ, Go.IntWalk.iteOmega, Go.IntWalk.toNatUp, hlt, gi, wi, hl, hp, Light.val, Light.cells, Life.cells]
        refine IWp.trim [0, 1, 5, 6] (IWp.skip ?_)
        simp [go_sem, -getElem?_pos, -List.map_take, -List.map_drop, List.getElem?_cons_zero, List.getElem?_cons_succ, Go.IntWalk.iteOmega, Go.IntWalk.toNatUp, hlt, gi, wi, hl, hp, Light.val, Light.cells, Life.cells]
        refine IWp.seq ?_
        refine IWp.block ?_
        refine IWp.seq ?_
        refine IWp.run [0, 1, 5, 6, 39] ?_
        simp [go_sem, -getElem?_pos, -List.map_take, -List.map_drop, List.getElem?_cons_zero, List.getElem?_cons_succ, Go.IntWalk.iteOmega, Go.IntWalk.toNatUp, hlt, gi, wi, hl, hp, Light.val, Light.cells, Life.cells]
        refine IWp.cond ?_
        simp [go_sem, -getElem?_pos, -List.map_take, -List.map_drop, List.getElem?_cons_zero, List.getElem?_cons_succ, Go.IntWalk.iteOmega, Go.IntWalk.toNatUp, hlt, gi, wi, hl, hp, Light.val, Light.cells, Life.cells]
        refine IWp.run [0, 1, 5, 6] ?_
        simp [go_sem, -getElem?_pos, -List.map_take, -List.map_drop, List.getElem?_cons_zero, List.getElem?_cons_succ, Go.IntWalk.iteOmega, Go.IntWalk.toNatUp, hlt, gi, wi, hl, hp, Light.val, Light.cells, Life.cells]
        refine IWp.run [0, 1, 5, 6] ?_
        simp [go_sem, -getElem?_pos, -List.map_take, -List.map_drop, List.getElem?_cons_zero, List.getElem?_cons_succ, Go.IntWalk.iteOmega, Go.IntWalk.toNatUp, hlt, gi, wi, hl, hp, Light.val, Light.cells, Life.cells]
        exact ⟨L.length - (i + 1), by omega, i + 1, rfl, by omega, by rw [hs]; omega, by omega⟩
      · skip
        refine IWp.seq ?_
        refine IWp.seq ?_
        refine IWp.run [0, 1, 5, 6, 10] ?_
        simp [go_sem, -getElem?_pos, -List.map_take, -List.map_drop, List.getElem?_cons_zero, List.getElem?_cons_succ, Go.IntWalk.iteOmega, Go.IntWalk.toNatUp, hlt, gi, wi, hl, hp, Light.val, Light.cells, Life.cells]
        refine IWp.cond ?_
        simp [go_sem, -getElem?_pos, -List.map_take, -List.map_drop, List.getElem?_cons_zero, List.getElem?_cons_succ, Go.IntWalk.iteOmega, Go.IntWalk.toNatUp, hlt, gi, wi, hl, hp, Light.val, Light.cells, Life.cells]
        refine IWp.trim [0, 1, 5, 6] (IWp.skip ?_)
        simp [go_sem, -getElem?_pos, -List.map_take, -List.map_drop, List.getElem?_cons_zero, List.getElem?_cons_succ, Go.IntWalk.iteOmega, Go.IntWalk.toNatUp, hlt, gi, wi, hl, hp, Light.val, Light.cells, Life.cells]
        refine IWp.seq ?_
        refine IWp.block ?_
        refine IWp.seq ?_
        refine IWp.run [0, 1, 5, 6, 39] ?_
        simp [go_sem, -getElem?_pos, -List.map_take, -List.map_drop, List.getElem?_cons_zero, List.getElem?_cons_succ, Go.IntWalk.iteOmega, Go.IntWalk.toNatUp, hlt, gi, wi, hl, hp, Light.val, Light.cells, Life.cells]
        refine IWp.cond ?_
        simp [go_sem, -getElem?_pos, -List.map_take, -List.map_drop, List.getElem?_cons_zero, List.getElem?_cons_succ, Go.IntWalk.iteOmega, Go.IntWalk.toNatUp, hlt, gi, wi, hl, hp, Light.val, Light.cells, Life.cells]
        refine IWp.trim [0, 1, 5, 6] (IWp.skip ?_)
        simp [go_sem, -getElem?_pos, -List.map_take, -List.map_drop, List.getElem?_cons_zero, List.getElem?_cons_succ, Go.IntWalk.iteOmega, Go.IntWalk.toNatUp, hlt, gi, wi, hl, hp, Light.val, Light.cells, Life.cells]
        refine IWp.run [0, 1, 5, 6] ?_
        simp [go_sem, -getElem?_pos, -List.map_take, -List.map_drop, List.getElem?_cons_zero, List.getElem?_cons_succ, Go.IntWalk.iteOmega, Go.IntWalk.toNatUp, hlt, gi, wi, hl, hp, Light.val, Light.cells, Life.cells]
        exact ⟨L.length - (i + 1), by omega, i + 1, rfl, by omega, by rw [hs]; omega, by omega⟩
    | true =>
      cases ha : x.life.acked with
      | true =>
        have hb : heardB true x.life = false := by unfold heardB loudB; simp [hl, ha]
        rw [hb] at hs
        refine IWp.seq ?_
        refine IWp.seq ?_
        refine IWp.run [0, 1, 5, 6, 10] ?_
        simp [go_sem, -getElem?_pos, -List.map_take, -List.map_drop, List.getElem?_cons_zero, List.getElem?_cons_succ, Go.IntWalk.iteOmega, Go.IntWalk.toNatUp, hlt, gi, wi, hl, ha, Light.val, Light.cells, Life.cells]
        refine IWp.cond ?_
        simp [go_sem, -getElem?_pos, -List.map_take, -List.map_drop, List.getElem?_cons_zero, List.getElem?_cons_succ, Go.IntWalk.iteOmega, Go.IntWalk.toNatUp, hlt, gi, wi, hl, ha, Light.val, Light.cells, Life.cells]
        refine IWp.trim [0, 1, 5, 6] (IWp.skip ?_)
        simp [go_sem, -getElem?_pos, -List.map_take, -List.map_drop, List.getElem?_cons_zero, List.getElem?_cons_succ, Go.IntWalk.iteOmega, Go.IntWalk.toNatUp, hlt, gi, wi, hl, ha, Light.val, Light.cells, Life.cells]
        refine IWp.seq ?_
        refine IWp.block ?_
        refine IWp.seq ?_
        refine IWp.run [0, 1, 5, 6, 39] ?_
        simp [go_sem, -getElem?_pos, -List.map_take, -List.map_drop, List.getElem?_cons_zero, List.getElem?_cons_succ, Go.IntWalk.iteOmega, Go.IntWalk.toNatUp, hlt, gi, wi, hl, ha, Light.val, Light.cells, Life.cells]
        refine IWp.cond ?_
        simp [go_sem, -getElem?_pos, -List.map_take, -List.map_drop, List.getElem?_cons_zero, List.getElem?_cons_succ, Go.IntWalk.iteOmega, Go.IntWalk.toNatUp, hlt, gi, wi, hl, ha, Light.val, Light.cells, Life.cells]
        refine IWp.trim [0, 1, 5, 6] (IWp.skip ?_)
        simp [go_sem, -getElem?_pos, -List.map_take, -List.map_drop, List.getElem?_cons_zero, List.getElem?_cons_succ, Go.IntWalk.iteOmega, Go.IntWalk.toNatUp, hlt, gi, wi, hl, ha, Light.val, Light.cells, Life.cells]
        refine IWp.run [0, 1, 5, 6] ?_
        simp [go_sem, -getElem?_pos, -List.map_take, -List.map_drop, List.getElem?_cons_zero, List.getElem?_cons_succ, Go.IntWalk.iteOmega, Go.IntWalk.toNatUp, hlt, gi, wi, hl, ha, Light.val, Light.cells, Life.cells]
        exact ⟨L.length - (i + 1), by omega, i + 1, rfl, by omega, by rw [hs]; rfl, by omega⟩
      | false =>
        have hb : heardB true x.life = true := by unfold heardB loudB; simp [hl, ha]
        rw [hb] at hs
        simp only [if_true] at hs
        by_cases hp : w < x.prio
        · skip
          refine IWp.seq ?_
          refine IWp.seq ?_
          refine IWp.run [0, 1, 5, 6, 10] ?_
          simp [go_sem, -getElem?_pos, -List.map_take, -List.map_drop, List.getElem?_cons_zero, List.getElem?_cons_succ, Go.IntWalk.iteOmega, Go.IntWalk.toNatUp, hlt, gi, wi, hl, ha, hp, Light.val, Light.cells, Life.cells]
          refine IWp.cond ?_
          simp [go_sem, -getElem?_pos, -List.map_take, -List.map_drop, List.getElem?_cons_zero, List.getElem?_cons_succ, Go.IntWalk.iteOmega, Go.IntWalk.toNatUp, hlt, gi, wi, hl, ha, hp, Light.val, Light.cells, Life.cells]
          refine IWp.trim [0, 1, 5, 6] (IWp.skip ?_)
          simp [go_sem, -getElem?_pos, -List.map_take, -List.map_drop, List.getElem?_cons_zero, List.getElem?_cons_succ, Go.IntWalk.iteOmega, Go.IntWalk.toNatUp, hlt, gi, wi, hl, ha, hp, Light.val, Light.cells, Life.cells]
          refine IWp.seq ?_
          refine IWp.block ?_
          refine IWp.seq ?_
          refine IWp.run [0, 1, 5, 6, 39] ?_
          simp [go_sem, -getElem?_pos, -List.map_take, -List.map_drop, List.getElem?_cons_zero, List.getElem?_cons_succ, Go.IntWalk.iteOmega, Go.IntWalk.toNatUp, hlt, gi, wi, hl, ha, hp, Light.val, Light.cells, Life.cells]
          refine IWp.cond ?_
          simp [go_sem, -getElem?_pos, -List.map_take, -List.map_drop, List.getElem?_cons_zero, List.getElem?_cons_succ, Go.IntWalk.iteOmega, Go.IntWalk.toNatUp, hlt, gi, wi, hl, ha, hp, Light.val, Light.cells, Life.cells]
          refine IWp.run [0, 1, 5, 6] ?_
          simp [go_sem, -getElem?_pos, -List.map_take, -List.map_drop, List.getElem?_cons_zero, List.getElem?_cons_succ, Go.IntWalk.iteOmega, Go.IntWalk.toNatUp, hlt, gi, wi, hl, ha, hp, Light.val, Light.cells, Life.cells]
          refine IWp.run [0, 1, 5, 6] ?_
          simp [go_sem, -getElem?_pos, -List.map_take, -List.map_drop, List.getElem?_cons_zero, List.getElem?_cons_succ, Go.IntWalk.iteOmega, Go.IntWalk.toNatUp, hlt, gi, wi, hl, ha, hp, Light.val, Light.cells, Life.cells]
          exact ⟨L.length - (i + 1), by omega, i + 1, rfl, by omega, by rw [hs]; omega, by omega⟩
        · skip
          refine IWp.seq ?_
          refine IWp.seq ?_
          refine IWp.run [0, 1, 5, 6, 10] ?_
          simp [go_sem, -getElem?_pos, -List.map_take, -List.map_drop, List.getElem?_cons_zero, List.getElem?_cons_succ, Go.IntWalk.iteOmega, Go.IntWalk.toNatUp, hlt, gi, wi, hl, ha, hp, Light.val, Light.cells, Life.cells]
          refine IWp.cond ?_
          simp [go_sem, -getElem?_pos, -List.map_take, -List.map_drop, List.getElem?_cons_zero, List.getElem?_cons_succ, Go.IntWalk.iteOmega, Go.IntWalk.toNatUp, hlt, gi, wi, hl, ha, hp, Light.val, Light.cells, Life.cells]
          refine IWp.trim [0, 1, 5, 6] (IWp.skip ?_)
          simp [go_sem, -getElem?_pos, -List.map_take, -List.map_drop, List.getElem?_cons_zero, List.getElem?_cons_succ, Go.IntWalk.iteOmega, Go.IntWalk.toNatUp, hlt, gi, wi, hl, ha, hp, Light.val, Light.cells, Life.cells]
          refine IWp.seq ?_
          refine IWp.block ?_
          refine IWp.seq ?_
          refine IWp.run [0, 1, 5, 6, 39] ?_
          simp [go_sem, -getElem?_pos, -List.map_take, -List.map_drop, List.getElem?_cons_zero, List.getElem?_cons_succ, Go.IntWalk.iteOmega, Go.IntWalk.toNatUp, hlt, gi, wi, hl, ha, hp, Light.val, Light.cells, Life.cells]
          refine IWp.cond ?_
          simp [go_sem, -getElem?_pos, -List.map_take, -List.map_drop, List.getElem?_cons_zero, List.getElem?_cons_succ, Go.IntWalk.iteOmega, Go.IntWalk.toNatUp, hlt, gi, wi, hl, ha, hp, Light.val, Light.cells, Life.cells]
          refine IWp.trim [0, 1, 5, 6] (IWp.skip ?_)
          simp [go_sem, -getElem?_pos, -List.map_take, -List.map_drop, List.getElem?_cons_zero, List.getElem?_cons_succ, Go.IntWalk.iteOmega, Go.IntWalk.toNatUp, hlt, gi, wi, hl, ha, hp, Light.val, Light.cells, Life.cells]
          refine IWp.run [0, 1, 5, 6] ?_
          simp [go_sem, -getElem?_pos, -List.map_take, -List.map_drop, List.getElem?_cons_zero, List.getElem?_cons_succ, Go.IntWalk.iteOmega, Go.IntWalk.toNatUp, hlt, gi, wi, hl, ha, hp, Light.val, Light.cells, Life.cells]
          exact ⟨L.length - (i + 1), by omega, i + 1, rfl, by omega, by rw [hs]; omega, by omega⟩

set_option maxRecDepth 100000 in
set_option maxHeartbeats 2000000 in
theorem sameC (H : Heap) (o : Outp) (hL : o.lamps.length ≤ 1000000) : ICalls Try.prog 33 [o.val, o.val] H fun v H' => v = .bool true ∧ H' = H := by
  refine ICalls.ans (by simp [go_sem]) fun H => IBody.calls (by kernel_rfl) ?_
  obtain ⟨tick, L, au, so, pa, of⟩ := o
  simp only at hL
  refine IBody.of Try.func33 rfl (by rw [Try.ntmps33]; simp) ?_
  rw [Try.ntmps33]
  refine IWp.seq ?_
  refine IWp.run [2, 3] ?_
  simp [go_sem, -getElem?_pos, -List.map_take, -List.map_drop, List.getElem?_cons_zero, List.getElem?_cons_succ, Go.IntWalk.iteOmega, Go.IntWalk.toNatUp, Outp.val, Outp.cells, get_alloc, next_alloc]
  refine IWp.seq ?_
  refine IWp.seq ?_
  refine IWp.run [2, 3, 47] ?_
  simp [go_sem, -getElem?_pos, -List.map_take, -List.map_drop, List.getElem?_cons_zero, List.getElem?_cons_succ, Go.IntWalk.iteOmega, Go.IntWalk.toNatUp, Outp.val, Outp.cells, get_alloc, next_alloc]
  refine IWp.cond ?_
  simp [go_sem, -getElem?_pos, -List.map_take, -List.map_drop, List.getElem?_cons_zero, List.getElem?_cons_succ, Go.IntWalk.iteOmega, Go.IntWalk.toNatUp, Outp.val, Outp.cells, get_alloc, next_alloc]
  refine IWp.trim [2, 3] (IWp.skip ?_)
  simp [go_sem, -getElem?_pos, -List.map_take, -List.map_drop, List.getElem?_cons_zero, List.getElem?_cons_succ, Go.IntWalk.iteOmega, Go.IntWalk.toNatUp, Outp.val, Outp.cells, get_alloc, next_alloc]
  refine IWp.seq ?_
  refine IWp.seq ?_
  refine IWp.run [2, 3, 5] ?_
  simp [go_sem, -getElem?_pos, -List.map_take, -List.map_drop, List.getElem?_cons_zero, List.getElem?_cons_succ, Go.IntWalk.iteOmega, Go.IntWalk.toNatUp, Outp.val, Outp.cells, get_alloc, next_alloc]
  refine IWp.block ?_
  -- LOOP live [2, 3, 5]
  obtain ⟨K0, hK0⟩ : ∃ K0, K0 = (H.alloc [.int .i64 tick, frow 5 0 (L.map Lamp.val), .int .u8 au, .bool so, .bool pa, .bool of]).alloc [.int .i64 tick, frow 5 0 (L.map Lamp.val), .int .u8 au, .bool so, .bool pa, .bool of] := ⟨_, rfl⟩
  have g1 : K0.get H.next = some ⟨[.int .i64 tick, frow 5 0 (L.map Lamp.val), .int .u8 au, .bool so, .bool pa, .bool of], true⟩ := by rw [hK0]; simp [get_alloc, next_alloc]
  have g2 : K0.get (H.next + 1) = some ⟨[.int .i64 tick, frow 5 0 (L.map Lamp.val), .int .u8 au, .bool so, .bool pa, .bool of], true⟩ := by rw [hK0]; simp [get_alloc, next_alloc]
  rw [← hK0]
  clear hK0
  refine IWp.loop (fun q e K => ∃ i : Nat, q = L.length - i ∧ i ≤ L.length ∧ K = K0 ∧ e = [(2, ptrTo H.next 0), (3, ptrTo (H.next + 1) 0), (5, .int .i64 (i : Int))]) L.length ⟨0, rfl, Nat.zero_le _, rfl, by simp [go_sem]⟩ ?_
  rintro q e K ⟨i, rfl, hi, rfl, rfl⟩
  have wi := IntWalk.i64_in ((i : Int) + 1) (by omega)
  by_cases hlt : i < L.length
  case neg =>
    refine IWp.seq ?_
    refine IWp.seq ?_
    refine IWp.run [2, 3, 5, 52] ?_
    simp [go_sem, -getElem?_pos, -List.map_take, -List.map_drop, List.getElem?_cons_zero, List.getElem?_cons_succ, Go.IntWalk.iteOmega, Go.IntWalk.toNatUp, hlt, g1, g2]
    refine IWp.cond ?_
    simp [go_sem, -getElem?_pos, -List.map_take, -List.map_drop, List.getElem?_cons_zero, List.getElem?_cons_succ, Go.IntWalk.iteOmega, Go.IntWalk.toNatUp, hlt, g1, g2]
    refine IWp.trim [] (IWp.exit ?_)
    simp [go_sem, -getElem?_pos, -List.map_take, -List.map_drop, List.getElem?_cons_zero, List.getElem?_cons_succ, Go.IntWalk.iteOmega, Go.IntWalk.toNatUp, hlt, g1, g2]
    refine IWp.seq ?_
    refine IWp.run [4] ?_
    simp [go_sem, -getElem?_pos, -List.map_take, -List.map_drop, List.getElem?_cons_zero, List.getElem?_cons_succ, Go.IntWalk.iteOmega, Go.IntWalk.toNatUp, hlt, g1, g2]
    refine IWp.ret ?_
    simp [go_sem, -getElem?_pos, -List.map_take, -List.map_drop, List.getElem?_cons_zero, List.getElem?_cons_succ, Go.IntWalk.iteOmega, Go.IntWalk.toNatUp, hlt, g1, g2, Try.results33]
    try exact .same _
  have gi : (L.map Lamp.val)[i]? = some (L[i]).val := by simp [hlt]
  generalize L[i] = x at *
  refine IWp.seq ?_
  refine IWp.seq ?_
  refine IWp.run [2, 3, 5, 52] ?_
  simp [go_sem, -getElem?_pos, -List.map_take, -List.map_drop, List.getElem?_cons_zero, List.getElem?_cons_succ, Go.IntWalk.iteOmega, Go.IntWalk.toNatUp, hlt, gi, wi, g1, g2, Lamp.val, Lamp.cells]
  refine IWp.cond ?_
  simp [go_sem, -getElem?_pos, -List.map_take, -List.map_drop, List.getElem?_cons_zero, List.getElem?_cons_succ, Go.IntWalk.iteOmega, Go.IntWalk.toNatUp, hlt, gi, wi, g1, g2, Lamp.val, Lamp.cells]
  refine IWp.trim [2, 3, 5] (IWp.skip ?_)
  simp [go_sem, -getElem?_pos, -List.map_take, -List.map_drop, List.getElem?_cons_zero, List.getElem?_cons_succ, Go.IntWalk.iteOmega, Go.IntWalk.toNatUp, hlt, gi, wi, g1, g2, Lamp.val, Lamp.cells]
  refine IWp.seq ?_
  refine IWp.block ?_
  refine IWp.seq ?_
  refine IWp.read [2, 3, 5, 65] follows (by kernel_rfl) ?_
  simp [go_sem, -getElem?_pos, -List.map_take, -List.map_drop, List.getElem?_cons_zero, List.getElem?_cons_succ, Go.IntWalk.iteOmega, Go.IntWalk.toNatUp, hlt, gi, wi, g1, g2, Lamp.val, Lamp.cells]
  refine IWp.cond ?_
  simp [go_sem, -getElem?_pos, -List.map_take, -List.map_drop, List.getElem?_cons_zero, List.getElem?_cons_succ, Go.IntWalk.iteOmega, Go.IntWalk.toNatUp, hlt, gi, wi, g1, g2, Lamp.val, Lamp.cells]
  refine IWp.trim [2, 3, 5] (IWp.skip ?_)
  simp [go_sem, -getElem?_pos, -List.map_take, -List.map_drop, List.getElem?_cons_zero, List.getElem?_cons_succ, Go.IntWalk.iteOmega, Go.IntWalk.toNatUp, hlt, gi, wi, g1, g2, Lamp.val, Lamp.cells]
  refine IWp.run [2, 3, 5] ?_
  simp [go_sem, -getElem?_pos, -List.map_take, -List.map_drop, List.getElem?_cons_zero, List.getElem?_cons_succ, Go.IntWalk.iteOmega, Go.IntWalk.toNatUp, hlt, gi, wi, g1, g2, Lamp.val, Lamp.cells]
  exact ⟨L.length - (i + 1), by omega, i + 1, rfl, by omega, by omega⟩

end Go.Proofs.Ytdimnoeldnfikaa.I
