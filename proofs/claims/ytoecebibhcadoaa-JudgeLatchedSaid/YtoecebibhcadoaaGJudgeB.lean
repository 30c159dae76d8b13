/- Judges: what is kept, heard, in order. No condition. -/
import Derived.Test.YtoecebibhcadoaaGJudge
namespace Go.Proofs.Ytoecebibhcadoaa.I
open Go Go.RowKit
set_option linter.unusedVariables false
set_option linter.unusedSimpArgs false

theorem kept (H : Heap) (c : Config) (a b : Outp) (L : List Cmd) (ha : a.lamps.length ≤ 1000000) (hb : b.lamps.length ≤ 1000000) (hl : L.length ≤ 1000000) :
    ICalls Try.prog 6 [c.val, a.val, b.val, frow 3 0 (L.map Cmd.val)] H fun v H' => v = .bool (!(a.lamps.any (lostB c b L))) ∧ H' = H := by
  refine ICalls.ans (by simp [go_sem]) fun H => IBody.calls (by kernel_rfl) ?_
  refine IBody.of Try.func6 rfl (by rw [Try.ntmps6]; simp) ?_
  rw [Try.ntmps6]
  refine IWp.seq ?_
  refine IWp.run [4, 5, 6, 7] ?_
  simp [go_sem, -getElem?_pos, -List.map_take, -List.map_drop, List.getElem?_cons_zero, List.getElem?_cons_succ, Go.IntWalk.iteOmega, Go.IntWalk.toNatUp, Config.val, Config.cells, Outp.val, Outp.cells]
  refine IWp.seq ?_
  refine IWp.run [8] ?_
  simp [go_sem, -getElem?_pos, -List.map_take, -List.map_drop, List.getElem?_cons_zero, List.getElem?_cons_succ, Go.IntWalk.iteOmega, Go.IntWalk.toNatUp, Config.val, Config.cells, Outp.val, Outp.cells]
  have n2 : ∀ n : Nat, ¬ n = n + 1 + 1 := by omega
  have n3 : ∀ n : Nat, ¬ n = n + 1 + 1 + 1 := by omega
  have hcl : ClL [fptr 0 b.val, fptr 0 c.val, fptr 0 (frow 3 0 (L.map Cmd.val))] := by
    simp [go_sem]
    exact ⟨Outp.cl b, Config.cl c, fun x _ => Cmd.cl x⟩
  have hx := fun K => containsLamp K a.lamps 12 _ hcl (lostB c b L) ha fun x hx K => lostF K c b L x hb hl
  generalize hS : (fun j => decide (H.next ≤ j)) = S
  have hSv : ∀ j, H.next ≤ j → S j = true := fun j hj => by rw [← hS]; simpa using hj
  refine ICalls.freeze S (.cons (.same _) (.cons (.clo (.cons (.ptrL (x := b.val) (cs := b.cells) ?_ (hSv _ (by omega)) (FrzL.same _)) (.cons (.ptrL (x := c.val) (cs := c.cells) ?_ (hSv _ (by omega)) (FrzL.same _)) (.cons (.ptrL (x := frow 3 0 (L.map Cmd.val)) (cs := [frow 3 0 (L.map Cmd.val)]) ?_ (hSv _ (by omega)) (FrzL.same _)) .nil)))) .nil)) (ICalls.then (hx _) ?_)
  · simp [get_alloc, next_alloc, Outp.cells, n2, n3]
  · simp [get_alloc, next_alloc, Config.cells, n2, n3]
  · simp [get_alloc, next_alloc, n2, n3]
    rfl
  simp [go_sem]
  refine IWp.ret ?_
  simp [go_sem, -getElem?_pos, -List.map_take, -List.map_drop, List.getElem?_cons_zero, List.getElem?_cons_succ, Go.IntWalk.iteOmega, Go.IntWalk.toNatUp, Try.results6]
  try exact .same _

def wantS (T : List Lamp) : Int := T.foldl (fun w x => if x.acked = true then w else max w x.prio) 0
theorem wantS_snoc (T : List Lamp) {i : Nat} (h : i < T.length) : wantS (T.take (i + 1)) = if T[i].acked = true then wantS (T.take i) else max (wantS (T.take i)) T[i].prio := by
  unfold wantS
  rw [List.take_succ_eq_append_getElem h, List.foldl_append]; rfl
def audS (o : Outp) : Bool := decide (o.audio = if o.paused = true ∨ o.off = true then 0 else wantS o.lamps)
theorem audible (H : Heap) (o : Outp) (hl : o.lamps.length ≤ 1000000) : ICalls Try.prog 9 [o.val] H fun v H' => v = .bool (audS o) ∧ H' = H := by
  refine ICalls.ans (by simp [go_sem]) fun H => IBody.calls (by kernel_rfl) ?_
  refine IBody.of Try.func9 rfl (by rw [Try.ntmps9]; simp) ?_
  rw [Try.ntmps9]
  refine IWp.seq ?_
  refine IWp.run [1] ?_
  simp [go_sem, -getElem?_pos, -List.map_take, -List.map_drop, List.getElem?_cons_zero, List.getElem?_cons_succ, Go.IntWalk.iteOmega, Go.IntWalk.toNatUp, Outp.val, Outp.cells]
  refine IWp.seq ?_
  refine IWp.run [1, 3] ?_
  simp [go_sem, -getElem?_pos, -List.map_take, -List.map_drop, List.getElem?_cons_zero, List.getElem?_cons_succ, Go.IntWalk.iteOmega, Go.IntWalk.toNatUp, Outp.val, Outp.cells]
  refine IWp.seq ?_
  refine IWp.seq ?_
  refine IWp.run [1, 3, 7, 8, 9] ?_
  simp [go_sem, -getElem?_pos, -List.map_take, -List.map_drop, List.getElem?_cons_zero, List.getElem?_cons_succ, Go.IntWalk.iteOmega, Go.IntWalk.toNatUp, Outp.val, Outp.cells]
  refine IWp.block ?_
  -- LOOP live [1, 3, 7, 8, 9]
  have hg := Heap.get_alloc_new H o.cells
  simp only [Outp.cells] at hg
  generalize H.next = b at *
  generalize H.alloc _ = H1 at *
  refine IWp.loop (fun q e K => ∃ i : Nat, q = o.lamps.length - i ∧ i ≤ o.lamps.length ∧ K.get b = H1.get b ∧ e = [(1, ptrTo b 0), (3, .int .u8 (wantS (o.lamps.take i))), (7, frow 5 0 (o.lamps.map Lamp.val)), (8, .int .i64 o.lamps.length), (9, .int .i64 (i : Int))]) o.lamps.length ⟨0, rfl, Nat.zero_le _, rfl, by simp [go_sem, wantS]⟩ ?_
  rintro q e K ⟨i, rfl, hi, hK, rfl⟩
  rw [hg] at hK
  have wi := IntWalk.i64_in ((i : Int) + 1) (by omega)
  by_cases hlt : i < o.lamps.length
  · have g : (o.lamps.map Lamp.val)[i]? = some (o.lamps[i]).val := by simp [hlt]
    have hs := wantS_snoc o.lamps hlt
    generalize o.lamps[i] = x at *
    have hbk : ¬ b = K.next := by have := Heap.lt_of_get hK; omega
    cases ha : x.acked with
    | true =>
      rw [ha] at hs
      refine IWp.seq ?_
      refine IWp.run [1, 3, 7, 8, 9, 10] ?_
      simp [go_sem, -getElem?_pos, -List.map_take, -List.map_drop, List.getElem?_cons_zero, List.getElem?_cons_succ, Go.IntWalk.iteOmega, Go.IntWalk.toNatUp, hlt, g, ha, wi, hK, hbk, get_alloc, Lamp.val, Lamp.cells]
      refine IWp.seq ?_
      refine IWp.cond ?_
      simp [go_sem, -getElem?_pos, -List.map_take, -List.map_drop, List.getElem?_cons_zero, List.getElem?_cons_succ, Go.IntWalk.iteOmega, Go.IntWalk.toNatUp, hlt, g, ha, wi, hK, hbk, get_alloc, Lamp.val, Lamp.cells]
      refine IWp.trim [1, 3, 7, 8, 9] (IWp.skip ?_)
      simp [go_sem, -getElem?_pos, -List.map_take, -List.map_drop, List.getElem?_cons_zero, List.getElem?_cons_succ, Go.IntWalk.iteOmega, Go.IntWalk.toNatUp, hlt, g, ha, wi, hK, hbk, get_alloc, Lamp.val, Lamp.cells]
      refine IWp.seq ?_
      refine IWp.block ?_
      refine IWp.seq ?_
      refine IWp.run [1, 3, 5, 7, 8, 9] ?_
      simp [go_sem, -getElem?_pos, -List.map_take, -List.map_drop, List.getElem?_cons_zero, List.getElem?_cons_succ, Go.IntWalk.iteOmega, Go.IntWalk.toNatUp, hlt, g, ha, wi, hK, hbk, get_alloc, Lamp.val, Lamp.cells]
      refine IWp.seq ?_
      refine IWp.run [1, 3, 5, 7, 8, 9, 15] ?_
      simp [go_sem, -getElem?_pos, -List.map_take, -List.map_drop, List.getElem?_cons_zero, List.getElem?_cons_succ, Go.IntWalk.iteOmega, Go.IntWalk.toNatUp, hlt, g, ha, wi, hK, hbk, get_alloc, Lamp.val, Lamp.cells]
      refine IWp.cond ?_
      simp [go_sem, -getElem?_pos, -List.map_take, -List.map_drop, List.getElem?_cons_zero, List.getElem?_cons_succ, Go.IntWalk.iteOmega, Go.IntWalk.toNatUp, hlt, g, ha, wi, hK, hbk, get_alloc, Lamp.val, Lamp.cells]
      refine IWp.trim [1, 3, 7, 8, 9] (IWp.skip ?_)
      simp [go_sem, -getElem?_pos, -List.map_take, -List.map_drop, List.getElem?_cons_zero, List.getElem?_cons_succ, Go.IntWalk.iteOmega, Go.IntWalk.toNatUp, hlt, g, ha, wi, hK, hbk, get_alloc, Lamp.val, Lamp.cells]
      refine IWp.run [1, 3, 7, 8, 9] ?_
      simp [go_sem, -getElem?_pos, -List.map_take, -List.map_drop, List.getElem?_cons_zero, List.getElem?_cons_succ, Go.IntWalk.iteOmega, Go.IntWalk.toNatUp, hlt, g, ha, wi, hK, hbk, get_alloc, Lamp.val, Lamp.cells]
      exact ⟨o.lamps.length - (i + 1), by omega, i + 1, rfl, by omega, by rw [hg], by rw [hs]; rfl, by omega⟩
    | false =>
      rw [ha] at hs
      refine IWp.seq ?_
      refine IWp.run [1, 3, 7, 8, 9, 10] ?_
      simp [go_sem, -getElem?_pos, -List.map_take, -List.map_drop, List.getElem?_cons_zero, List.getElem?_cons_succ, Go.IntWalk.iteOmega, Go.IntWalk.toNatUp, hlt, g, ha, wi, hK, hbk, get_alloc, Lamp.val, Lamp.cells]
      refine IWp.seq ?_
      refine IWp.cond ?_
      simp [go_sem, -getElem?_pos, -List.map_take, -List.map_drop, List.getElem?_cons_zero, List.getElem?_cons_succ, Go.IntWalk.iteOmega, Go.IntWalk.toNatUp, hlt, g, ha, wi, hK, hbk, get_alloc, Lamp.val, Lamp.cells]
      refine IWp.trim [1, 3, 7, 8, 9] (IWp.skip ?_)
      simp [go_sem, -getElem?_pos, -List.map_take, -List.map_drop, List.getElem?_cons_zero, List.getElem?_cons_succ, Go.IntWalk.iteOmega, Go.IntWalk.toNatUp, hlt, g, ha, wi, hK, hbk, get_alloc, Lamp.val, Lamp.cells]
      refine IWp.seq ?_
      refine IWp.block ?_
      refine IWp.seq ?_
      refine IWp.run [1, 3, 5, 7, 8, 9] ?_
      simp [go_sem, -getElem?_pos, -List.map_take, -List.map_drop, List.getElem?_cons_zero, List.getElem?_cons_succ, Go.IntWalk.iteOmega, Go.IntWalk.toNatUp, hlt, g, ha, wi, hK, hbk, get_alloc, Lamp.val, Lamp.cells]
      refine IWp.seq ?_
      refine IWp.run [1, 3, 5, 7, 8, 9, 15] ?_
      simp [go_sem, -getElem?_pos, -List.map_take, -List.map_drop, List.getElem?_cons_zero, List.getElem?_cons_succ, Go.IntWalk.iteOmega, Go.IntWalk.toNatUp, hlt, g, ha, wi, hK, hbk, get_alloc, Lamp.val, Lamp.cells]
      refine IWp.cond ?_
      simp [go_sem, -getElem?_pos, -List.map_take, -List.map_drop, List.getElem?_cons_zero, List.getElem?_cons_succ, Go.IntWalk.iteOmega, Go.IntWalk.toNatUp, hlt, g, ha, wi, hK, hbk, get_alloc, Lamp.val, Lamp.cells]
      refine IWp.run [1, 3, 7, 8, 9] ?_
      simp [go_sem, -getElem?_pos, -List.map_take, -List.map_drop, List.getElem?_cons_zero, List.getElem?_cons_succ, Go.IntWalk.iteOmega, Go.IntWalk.toNatUp, hlt, g, ha, wi, hK, hbk, get_alloc, Lamp.val, Lamp.cells]
      refine IWp.run [1, 3, 7, 8, 9] ?_
      simp [go_sem, -getElem?_pos, -List.map_take, -List.map_drop, List.getElem?_cons_zero, List.getElem?_cons_succ, Go.IntWalk.iteOmega, Go.IntWalk.toNatUp, hlt, g, ha, wi, hK, hbk, get_alloc, Lamp.val, Lamp.cells]
      exact ⟨o.lamps.length - (i + 1), by omega, i + 1, rfl, by omega, by rw [hg], by rw [hs]; simp only [Bool.false_eq_true, if_false]; omega, by omega⟩
  · rw [List.take_of_length_le (by omega)]
    unfold audS
    generalize wantS o.lamps = w at *
    cases hp : o.paused with
    | true =>
      refine IWp.seq ?_
      refine IWp.run [1, 3, 7, 8, 9, 10] ?_
      simp [go_sem, -getElem?_pos, -List.map_take, -List.map_drop, List.getElem?_cons_zero, List.getElem?_cons_succ, Go.IntWalk.iteOmega, Go.IntWalk.toNatUp, hlt, hK, hp]
      refine IWp.seq ?_
      refine IWp.cond ?_
      simp [go_sem, -getElem?_pos, -List.map_take, -List.map_drop, List.getElem?_cons_zero, List.getElem?_cons_succ, Go.IntWalk.iteOmega, Go.IntWalk.toNatUp, hlt, hK, hp]
      refine IWp.trim [1, 3] (IWp.exit ?_)
      simp [go_sem, -getElem?_pos, -List.map_take, -List.map_drop, List.getElem?_cons_zero, List.getElem?_cons_succ, Go.IntWalk.iteOmega, Go.IntWalk.toNatUp, hlt, hK, hp]
      refine IWp.seq ?_
      refine IWp.seq ?_
      refine IWp.run [1, 3, 26] ?_
      simp [go_sem, -getElem?_pos, -List.map_take, -List.map_drop, List.getElem?_cons_zero, List.getElem?_cons_succ, Go.IntWalk.iteOmega, Go.IntWalk.toNatUp, hlt, hK, hp]
      refine IWp.cond ?_
      simp [go_sem, -getElem?_pos, -List.map_take, -List.map_drop, List.getElem?_cons_zero, List.getElem?_cons_succ, Go.IntWalk.iteOmega, Go.IntWalk.toNatUp, hlt, hK, hp]
      refine IWp.run [1, 3] ?_
      simp [go_sem, -getElem?_pos, -List.map_take, -List.map_drop, List.getElem?_cons_zero, List.getElem?_cons_succ, Go.IntWalk.iteOmega, Go.IntWalk.toNatUp, hlt, hK, hp]
      refine IWp.seq ?_
      refine IWp.run [2] ?_
      simp [go_sem, -getElem?_pos, -List.map_take, -List.map_drop, List.getElem?_cons_zero, List.getElem?_cons_succ, Go.IntWalk.iteOmega, Go.IntWalk.toNatUp, hlt, hK, hp]
      refine IWp.ret ?_
      simp [go_sem, -getElem?_pos, -List.map_take, -List.map_drop, List.getElem?_cons_zero, List.getElem?_cons_succ, Go.IntWalk.iteOmega, Go.IntWalk.toNatUp, hlt, hK, hp, Try.results9]
      try exact .same _
    | false =>
      cases ho : o.off with
      | true =>
        refine IWp.seq ?_
        refine IWp.run [1, 3, 7, 8, 9, 10] ?_
        simp [go_sem, -getElem?_pos, -List.map_take, -List.map_drop, List.getElem?_cons_zero, List.getElem?_cons_succ, Go.IntWalk.iteOmega, Go.IntWalk.toNatUp, hlt, hK, hp, ho]
        refine IWp.seq ?_
        refine IWp.cond ?_
        simp [go_sem, -getElem?_pos, -List.map_take, -List.map_drop, List.getElem?_cons_zero, List.getElem?_cons_succ, Go.IntWalk.iteOmega, Go.IntWalk.toNatUp, hlt, hK, hp, ho]
        refine IWp.trim [1, 3] (IWp.exit ?_)
        simp [go_sem, -getElem?_pos, -List.map_take, -List.map_drop, List.getElem?_cons_zero, List.getElem?_cons_succ, Go.IntWalk.iteOmega, Go.IntWalk.toNatUp, hlt, hK, hp, ho]
        refine IWp.seq ?_
        refine IWp.seq ?_
        refine IWp.run [1, 3, 26] ?_
        simp [go_sem, -getElem?_pos, -List.map_take, -List.map_drop, List.getElem?_cons_zero, List.getElem?_cons_succ, Go.IntWalk.iteOmega, Go.IntWalk.toNatUp, hlt, hK, hp, ho]
        refine IWp.cond ?_
        simp [go_sem, -getElem?_pos, -List.map_take, -List.map_drop, List.getElem?_cons_zero, List.getElem?_cons_succ, Go.IntWalk.iteOmega, Go.IntWalk.toNatUp, hlt, hK, hp, ho]
        refine IWp.run [1, 3] ?_
        simp [go_sem, -getElem?_pos, -List.map_take, -List.map_drop, List.getElem?_cons_zero, List.getElem?_cons_succ, Go.IntWalk.iteOmega, Go.IntWalk.toNatUp, hlt, hK, hp, ho]
        refine IWp.seq ?_
        refine IWp.run [2] ?_
        simp [go_sem, -getElem?_pos, -List.map_take, -List.map_drop, List.getElem?_cons_zero, List.getElem?_cons_succ, Go.IntWalk.iteOmega, Go.IntWalk.toNatUp, hlt, hK, hp, ho]
        refine IWp.ret ?_
        simp [go_sem, -getElem?_pos, -List.map_take, -List.map_drop, List.getElem?_cons_zero, List.getElem?_cons_succ, Go.IntWalk.iteOmega, Go.IntWalk.toNatUp, hlt, hK, hp, ho, Try.results9]
        try exact .same _
      | false =>
        refine IWp.seq ?_
        refine IWp.run [1, 3, 7, 8, 9, 10] ?_
        simp [go_sem, -getElem?_pos, -List.map_take, -List.map_drop, List.getElem?_cons_zero, List.getElem?_cons_succ, Go.IntWalk.iteOmega, Go.IntWalk.toNatUp, hlt, hK, hp, ho]
        refine IWp.seq ?_
        refine IWp.cond ?_
        simp [go_sem, -getElem?_pos, -List.map_take, -List.map_drop, List.getElem?_cons_zero, List.getElem?_cons_succ, Go.IntWalk.iteOmega, Go.IntWalk.toNatUp, hlt, hK, hp, ho]
        refine IWp.trim [1, 3] (IWp.exit ?_)
        simp [go_sem, -getElem?_pos, -List.map_take, -List.map_drop, List.getElem?_cons_zero, List.getElem?_cons_succ, Go.IntWalk.iteOmega, Go.IntWalk.toNatUp, hlt, hK, hp, ho]
        refine IWp.seq ?_
        refine IWp.seq ?_
        refine IWp.run [1, 3, 26] ?_
        simp [go_sem, -getElem?_pos, -List.map_take, -List.map_drop, List.getElem?_cons_zero, List.getElem?_cons_succ, Go.IntWalk.iteOmega, Go.IntWalk.toNatUp, hlt, hK, hp, ho]
        refine IWp.cond ?_
        simp [go_sem, -getElem?_pos, -List.map_take, -List.map_drop, List.getElem?_cons_zero, List.getElem?_cons_succ, Go.IntWalk.iteOmega, Go.IntWalk.toNatUp, hlt, hK, hp, ho]
        refine IWp.trim [1, 3] (IWp.skip ?_)
        simp [go_sem, -getElem?_pos, -List.map_take, -List.map_drop, List.getElem?_cons_zero, List.getElem?_cons_succ, Go.IntWalk.iteOmega, Go.IntWalk.toNatUp, hlt, hK, hp, ho]
        refine IWp.seq ?_
        refine IWp.run [2] ?_
        simp [go_sem, -getElem?_pos, -List.map_take, -List.map_drop, List.getElem?_cons_zero, List.getElem?_cons_succ, Go.IntWalk.iteOmega, Go.IntWalk.toNatUp, hlt, hK, hp, ho]
        refine IWp.ret ?_
        simp [go_sem, -getElem?_pos, -List.map_take, -List.map_drop, List.getElem?_cons_zero, List.getElem?_cons_succ, Go.IntWalk.iteOmega, Go.IntWalk.toNatUp, hlt, hK, hp, ho, Try.results9]
        try exact .same _

theorem ordered1 (H : Heap) (o : Outp) (hl : o.lamps.length ≤ 1) (hp : ∀ x ∈ o.lamps, 1 ≤ x.prio ∧ x.prio ≤ 3) : ICalls Try.prog 10 [o.val] H fun v H' => v = .bool true ∧ H' = H := by
  refine ICalls.ans (by simp [go_sem]) fun H => IBody.calls (by kernel_rfl) ?_
  refine IBody.of Try.func10 rfl (by rw [Try.ntmps10]; simp) ?_
  rw [Try.ntmps10]
  refine IWp.seq ?_
  refine IWp.run [1] ?_
  simp [go_sem, -getElem?_pos, -List.map_take, -List.map_drop, List.getElem?_cons_zero, List.getElem?_cons_succ, Go.IntWalk.iteOmega, Go.IntWalk.toNatUp, Outp.val, Outp.cells]
  refine IWp.seq ?_
  refine IWp.seq ?_
  refine IWp.run [1, 8, 9, 10] ?_
  simp [go_sem, -getElem?_pos, -List.map_take, -List.map_drop, List.getElem?_cons_zero, List.getElem?_cons_succ, Go.IntWalk.iteOmega, Go.IntWalk.toNatUp, Outp.val, Outp.cells]
  refine IWp.block ?_
  -- LOOP live [1, 8, 9, 10]
  have hg := Heap.get_alloc_new H o.cells
  simp only [Outp.cells] at hg
  generalize H.next = b at *
  generalize H.alloc _ = H1 at *
  refine IWp.loop (fun q e K => ∃ i : Nat, q = o.lamps.length - i ∧ i ≤ o.lamps.length ∧ K.get b = H1.get b ∧ e = [(1, ptrTo b 0), (8, frow 5 0 (o.lamps.map Lamp.val)), (9, .int .i64 o.lamps.length), (10, .int .i64 (i : Int))]) o.lamps.length ⟨0, rfl, Nat.zero_le _, rfl, by simp [go_sem]⟩ ?_
  rintro q e K ⟨i, rfl, hi, hK, rfl⟩
  rw [hg] at hK
  have wi := IntWalk.i64_in ((i : Int) + 1) (by omega)
  by_cases hlt : i < o.lamps.length
  · have hi0 : i = 0 := by omega
    subst hi0
    have g : (o.lamps.map Lamp.val)[0]? = some (o.lamps[0]).val := by simp [hlt]
    obtain ⟨p1, p2⟩ := hp _ (List.getElem_mem hlt)
    generalize o.lamps[0] = x at *
    have hbk : ¬ b = K.next := by have := Heap.lt_of_get hK; omega
    refine IWp.seq ?_
    refine IWp.run [1, 8, 9, 10, 11] ?_
    simp [go_sem, -getElem?_pos, -List.map_take, -List.map_drop, List.getElem?_cons_zero, List.getElem?_cons_succ, Go.IntWalk.iteOmega, Go.IntWalk.toNatUp, hlt, g, hK, hbk, get_alloc, Lamp.val, Lamp.cells, show ¬ x.prio < 1 by omega, show ¬ 3 < x.prio by omega, show o.lamps ≠ [] from fun e => by rw [e] at hlt; simp at hlt]
    refine IWp.seq ?_
    refine IWp.cond ?_
    simp [go_sem, -getElem?_pos, -List.map_take, -List.map_drop, List.getElem?_cons_zero, List.getElem?_cons_succ, Go.IntWalk.iteOmega, Go.IntWalk.toNatUp, hlt, g, hK, hbk, get_alloc, Lamp.val, Lamp.cells, show ¬ x.prio < 1 by omega, show ¬ 3 < x.prio by omega, show o.lamps ≠ [] from fun e => by rw [e] at hlt; simp at hlt]
    refine IWp.trim [1, 8, 9, 10] (IWp.skip ?_)
    simp [go_sem, -getElem?_pos, -List.map_take, -List.map_drop, List.getElem?_cons_zero, List.getElem?_cons_succ, Go.IntWalk.iteOmega, Go.IntWalk.toNatUp, hlt, g, hK, hbk, get_alloc, Lamp.val, Lamp.cells, show ¬ x.prio < 1 by omega, show ¬ 3 < x.prio by omega, show o.lamps ≠ [] from fun e => by rw [e] at hlt; simp at hlt]
    refine IWp.seq ?_
    refine IWp.block ?_
    refine IWp.seq ?_
    refine IWp.run [1, 3, 4, 8, 9, 10] ?_
    simp [go_sem, -getElem?_pos, -List.map_take, -List.map_drop, List.getElem?_cons_zero, List.getElem?_cons_succ, Go.IntWalk.iteOmega, Go.IntWalk.toNatUp, hlt, g, hK, hbk, get_alloc, Lamp.val, Lamp.cells, show ¬ x.prio < 1 by omega, show ¬ 3 < x.prio by omega, show o.lamps ≠ [] from fun e => by rw [e] at hlt; simp at hlt]
    refine IWp.seq ?_
    refine IWp.seq ?_
    refine IWp.run [1, 3, 4, 8, 9, 10, 22] ?_
    simp [go_sem, -getElem?_pos, -List.map_take, -List.map_drop, List.getElem?_cons_zero, List.getElem?_cons_succ, Go.IntWalk.iteOmega, Go.IntWalk.toNatUp, hlt, g, hK, hbk, get_alloc, Lamp.val, Lamp.cells, show ¬ x.prio < 1 by omega, show ¬ 3 < x.prio by omega, show o.lamps ≠ [] from fun e => by rw [e] at hlt; simp at hlt]
    refine IWp.cond ?_
    simp [go_sem, -getElem?_pos, -List.map_take, -List.map_drop, List.getElem?_cons_zero, List.getElem?_cons_succ, Go.IntWalk.iteOmega, Go.IntWalk.toNatUp, hlt, g, hK, hbk, get_alloc, Lamp.val, Lamp.cells, show ¬ x.prio < 1 by omega, show ¬ 3 < x.prio by omega, show o.lamps ≠ [] from fun e => by rw [e] at hlt; simp at hlt]
    refine IWp.trim [1, 3, 4, 8, 9, 10] (IWp.skip ?_)
    simp [go_sem, -getElem?_pos, -List.map_take, -List.map_drop, List.getElem?_cons_zero, List.getElem?_cons_succ, Go.IntWalk.iteOmega, Go.IntWalk.toNatUp, hlt, g, hK, hbk, get_alloc, Lamp.val, Lamp.cells, show ¬ x.prio < 1 by omega, show ¬ 3 < x.prio by omega, show o.lamps ≠ [] from fun e => by rw [e] at hlt; simp at hlt]
    refine IWp.seq ?_
    refine IWp.run [1, 4, 8, 9, 10, 26, 27, 28] ?_
    simp [go_sem, -getElem?_pos, -List.map_take, -List.map_drop, List.getElem?_cons_zero, List.getElem?_cons_succ, Go.IntWalk.iteOmega, Go.IntWalk.toNatUp, hlt, g, hK, hbk, get_alloc, Lamp.val, Lamp.cells, show ¬ x.prio < 1 by omega, show ¬ 3 < x.prio by omega, show o.lamps ≠ [] from fun e => by rw [e] at hlt; simp at hlt]
    refine IWp.block ?_
    -- LOOP live [1, 4, 8, 9, 10, 26, 27, 28]
    generalize hK2 : K.alloc _ = K2
    have hb2 : K2.get b = K.get b := by rw [← hK2]; exact Heap.get_alloc_lt _ _ _ (Heap.lt_of_get hK)
    refine IWp.loop (fun q e K' => q = 0 ∧ K' = K2 ∧ e = [(1, ptrTo b 0), (4, ptrTo K.next 0), (8, frow 5 0 (o.lamps.map Lamp.val)), (9, .int .i64 o.lamps.length), (10, .int .i64 0), (26, frow 5 0 []), (27, .int .i64 0), (28, .int .i64 0)]) 0 ⟨rfl, rfl, by simp [go_sem]⟩ ?_
    rintro q e K' ⟨rfl, rfl, rfl⟩
    refine IWp.seq ?_
    refine IWp.run [1, 4, 8, 9, 10, 26, 27, 28, 29] ?_
    simp [go_sem, -getElem?_pos, -List.map_take, -List.map_drop, List.getElem?_cons_zero, List.getElem?_cons_succ, Go.IntWalk.iteOmega, Go.IntWalk.toNatUp, IntWalk.i64_in 1 (by omega)]
    refine IWp.seq ?_
    refine IWp.cond ?_
    simp [go_sem, -getElem?_pos, -List.map_take, -List.map_drop, List.getElem?_cons_zero, List.getElem?_cons_succ, Go.IntWalk.iteOmega, Go.IntWalk.toNatUp, IntWalk.i64_in 1 (by omega)]
    refine IWp.trim [1, 8, 9, 10] (IWp.exit ?_)
    simp [go_sem, -getElem?_pos, -List.map_take, -List.map_drop, List.getElem?_cons_zero, List.getElem?_cons_succ, Go.IntWalk.iteOmega, Go.IntWalk.toNatUp, IntWalk.i64_in 1 (by omega)]
    refine IWp.run [1, 8, 9, 10] ?_
    simp [go_sem, -getElem?_pos, -List.map_take, -List.map_drop, List.getElem?_cons_zero, List.getElem?_cons_succ, Go.IntWalk.iteOmega, Go.IntWalk.toNatUp, IntWalk.i64_in 1 (by omega)]
    exact ⟨o.lamps.length - 1, by omega, 1, rfl, by omega, by rw [hb2, hK, hg], rfl⟩
  · skip
    refine IWp.seq ?_
    refine IWp.run [1, 8, 9, 10, 11] ?_
    simp [go_sem, -getElem?_pos, -List.map_take, -List.map_drop, List.getElem?_cons_zero, List.getElem?_cons_succ, Go.IntWalk.iteOmega, Go.IntWalk.toNatUp, hlt]
    refine IWp.seq ?_
    refine IWp.cond ?_
    simp [go_sem, -getElem?_pos, -List.map_take, -List.map_drop, List.getElem?_cons_zero, List.getElem?_cons_succ, Go.IntWalk.iteOmega, Go.IntWalk.toNatUp, hlt]
    refine IWp.trim [] (IWp.exit ?_)
    simp [go_sem, -getElem?_pos, -List.map_take, -List.map_drop, List.getElem?_cons_zero, List.getElem?_cons_succ, Go.IntWalk.iteOmega, Go.IntWalk.toNatUp, hlt]
    refine IWp.seq ?_
    refine IWp.run [2] ?_
    simp [go_sem, -getElem?_pos, -List.map_take, -List.map_drop, List.getElem?_cons_zero, List.getElem?_cons_succ, Go.IntWalk.iteOmega, Go.IntWalk.toNatUp, hlt]
    refine IWp.ret ?_
    simp [go_sem, -getElem?_pos, -List.map_take, -List.map_drop, List.getElem?_cons_zero, List.getElem?_cons_succ, Go.IntWalk.iteOmega, Go.IntWalk.toNatUp, hlt, Try.results10]
    try exact .same _

end Go.Proofs.Ytoecebibhcadoaa.I
