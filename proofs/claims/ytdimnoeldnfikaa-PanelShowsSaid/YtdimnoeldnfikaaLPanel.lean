/- The laws of lamps: which are told, in which order, how high. No condition. -/
import Derived.Test.YtdimnoeldnfikaaGPanelD
import Derived.Test.YtdimnoeldnfikaaILaw
namespace Go.Proofs.Ytdimnoeldnfikaa.I
open Go Go.RowKit
set_option linter.unusedVariables false
set_option linter.unusedSimpArgs false

def One.ty : Ty := .recd [.int .u8, .int .u8, .int .u8, .int .u16]
theorem One.ofLay {d : Dt} {cs : List Value} (h : Lay One.ty d cs) : ∃ x : One, cs = x.cells ∧ x.wf := by
  cases h with
  | recd h =>
    obtain _ | ⟨h0, h⟩ := h
    obtain _ | ⟨h1, h⟩ := h
    obtain _ | ⟨h2, h⟩ := h
    obtain _ | ⟨h3, h⟩ := h
    cases h
    obtain ⟨a0, rfl, w0⟩ := lay_int h0
    obtain ⟨a1, rfl, w1⟩ := lay_int h1
    obtain ⟨a2, rfl, w2⟩ := lay_int h2
    obtain ⟨a3, rfl, w3⟩ := lay_int h3
    exact ⟨⟨a0, a1, a2, a3⟩, by simp [One.cells], ⟨wf_u8 w0, wf_u8 w1, wf_u8 w2, wf_u16 w3⟩⟩
theorem One.ofLayS : ∀ {xs : List Dt} {vs : List Value}, LayS One.ty xs vs → ∃ L : List One, vs = L.map One.val ∧ ∀ x ∈ L, x.wf
  | _, _, .nil _ => ⟨[], rfl, fun _ h => (by cases h)⟩
  | _, _, .one hr _ _ => by cases hr
  | _, _, .recs hr h hs => by
    obtain ⟨x, rfl, hx⟩ := One.ofLay h
    obtain ⟨L, rfl, hw⟩ := One.ofLayS hs
    exact ⟨x :: L, rfl, fun y hy => by
      rcases List.mem_cons.1 hy with rfl | hy
      · exact hx
      · exact hw y hy⟩
theorem One.ofV {d : Dt} {v : Value} (h : LayV One.ty d v) : ∃ x : One, v = x.val ∧ x.wf := by
  obtain ⟨cs, rfl, h2⟩ := layV_rec h
  obtain ⟨x, rfl, hx⟩ := One.ofLay h2
  exact ⟨x, rfl, hx⟩
theorem One.ofRow {d : Dt} {v : Value} {k : Nat} (h : LayV (.row One.ty k) d v) : ∃ L : List One, v = frow k 0 (L.map One.val) ∧ (∀ x ∈ L, x.wf) ∧ L.length ≤ maxLen := by
  obtain ⟨xs, vs, rfl, hs, hl⟩ := layV_row h
  obtain ⟨L, rfl, hw⟩ := One.ofLayS hs
  exact ⟨L, rfl, hw, by simpa using hl⟩
theorem One.ok_of (x : One) (h : x.wf) : x.ok := h

def lampsO (L : List Lamp) : Outp := ⟨0, L, 0, false, false, false⟩
theorem panelLamps_law (H : Heap) (l : List One) (turn : Bool) (hw : ∀ x ∈ l, x.ok) : IBody Try.prog 10 [frow 4 0 (l.map One.val), .bool turn] H fun v _ => v = .bool true := by
  by_cases hl : 40 < l.length
  · skip
    refine IBody.of Try.func10 rfl (by rw [Try.ntmps10]; simp) ?_
    rw [Try.ntmps10]
    refine IWp.seq ?_
    refine IWp.run [0, 1] ?_
    simp [go_sem, -getElem?_pos, -List.map_take, -List.map_drop, List.getElem?_cons_zero, List.getElem?_cons_succ, Go.IntWalk.iteOmega, Go.IntWalk.toNatUp, hl]
    refine IWp.seq ?_
    refine IWp.seq ?_
    refine IWp.run [0, 1, 13] ?_
    simp [go_sem, -getElem?_pos, -List.map_take, -List.map_drop, List.getElem?_cons_zero, List.getElem?_cons_succ, Go.IntWalk.iteOmega, Go.IntWalk.toNatUp, hl]
    refine ICalls.then (darkC _) ?_
    try simp [go_sem, -getElem?_pos, -List.map_take, -List.map_drop, List.getElem?_cons_zero, List.getElem?_cons_succ, Go.IntWalk.iteOmega, Go.IntWalk.toNatUp, hl]
    refine IWp.cond ?_
    simp [go_sem, -getElem?_pos, -List.map_take, -List.map_drop, List.getElem?_cons_zero, List.getElem?_cons_succ, Go.IntWalk.iteOmega, Go.IntWalk.toNatUp, hl]
    refine IWp.seq ?_
    refine IWp.run [4] ?_
    simp [go_sem, -getElem?_pos, -List.map_take, -List.map_drop, List.getElem?_cons_zero, List.getElem?_cons_succ, Go.IntWalk.iteOmega, Go.IntWalk.toNatUp, hl]
    refine ICalls.then (darkC _) ?_
    try simp [go_sem, -getElem?_pos, -List.map_take, -List.map_drop, List.getElem?_cons_zero, List.getElem?_cons_succ, Go.IntWalk.iteOmega, Go.IntWalk.toNatUp, hl]
    refine IWp.ret ?_
    simp [go_sem, -getElem?_pos, -List.map_take, -List.map_drop, List.getElem?_cons_zero, List.getElem?_cons_succ, Go.IntWalk.iteOmega, Go.IntWalk.toNatUp, hl, Try.results10]
    try rfl
  · have c1 := fun K => ofC K l turn (by omega) hw
    have hL := ofL_len turn l
    have hn := ofL_nodup turn l
    generalize ofL turn l = L at *
    have c2 := fun K => lampsC K L (by omega) hn
    have c3 := fun K => refLampsC K L (by omega)
    have c4 := fun K => sameC K (lampsO (lampsS L)) (by have := lampsS_len L; simp only [lampsO]; omega)
    have c5 := fun K => highestC K L (by omega)
    have c6 := fun K => refHighestC K L false (by omega)
    have c7 := fun K => loudestC K L (by omega)
    have c8 := fun K => refHighestC K L true (by omega)
    rw [show heardB false = Life.lit from rfl] at c6
    rw [show heardB true = loudB from rfl] at c8
    simp only [lampsO, Outp.val, Outp.cells] at c4
    refine IBody.of Try.func10 rfl (by rw [Try.ntmps10]; simp) ?_
    rw [Try.ntmps10]
    refine IWp.seq ?_
    refine IWp.run [0, 1] ?_
    simp [go_sem, -getElem?_pos, -List.map_take, -List.map_drop, List.getElem?_cons_zero, List.getElem?_cons_succ, Go.IntWalk.iteOmega, Go.IntWalk.toNatUp, hl]
    refine IWp.seq ?_
    refine IWp.seq ?_
    refine IWp.run [0, 1, 13] ?_
    simp [go_sem, -getElem?_pos, -List.map_take, -List.map_drop, List.getElem?_cons_zero, List.getElem?_cons_succ, Go.IntWalk.iteOmega, Go.IntWalk.toNatUp, hl]
    refine ICalls.then (darkC _) ?_
    try simp [go_sem, -getElem?_pos, -List.map_take, -List.map_drop, List.getElem?_cons_zero, List.getElem?_cons_succ, Go.IntWalk.iteOmega, Go.IntWalk.toNatUp, hl]
    refine IWp.cond ?_
    simp [go_sem, -getElem?_pos, -List.map_take, -List.map_drop, List.getElem?_cons_zero, List.getElem?_cons_succ, Go.IntWalk.iteOmega, Go.IntWalk.toNatUp, hl]
    refine IWp.trim [0, 1] (IWp.skip ?_)
    simp [go_sem, -getElem?_pos, -List.map_take, -List.map_drop, List.getElem?_cons_zero, List.getElem?_cons_succ, Go.IntWalk.iteOmega, Go.IntWalk.toNatUp, hl]
    refine IWp.seq ?_
    refine IWp.run [5, 6] ?_
    simp [go_sem, -getElem?_pos, -List.map_take, -List.map_drop, List.getElem?_cons_zero, List.getElem?_cons_succ, Go.IntWalk.iteOmega, Go.IntWalk.toNatUp, hl]
    refine ICalls.then (c1 _) ?_
    try simp [go_sem, -getElem?_pos, -List.map_take, -List.map_drop, List.getElem?_cons_zero, List.getElem?_cons_succ, Go.IntWalk.iteOmega, Go.IntWalk.toNatUp, hl]
    refine IWp.seq ?_
    refine IWp.run [4] ?_
    simp [go_sem, -getElem?_pos, -List.map_take, -List.map_drop, List.getElem?_cons_zero, List.getElem?_cons_succ, Go.IntWalk.iteOmega, Go.IntWalk.toNatUp, hl]
    refine ICalls.then (c2 _) ?_
    try simp [go_sem, -getElem?_pos, -List.map_take, -List.map_drop, List.getElem?_cons_zero, List.getElem?_cons_succ, Go.IntWalk.iteOmega, Go.IntWalk.toNatUp, hl]
    refine ICalls.then (c3 _) ?_
    try simp [go_sem, -getElem?_pos, -List.map_take, -List.map_drop, List.getElem?_cons_zero, List.getElem?_cons_succ, Go.IntWalk.iteOmega, Go.IntWalk.toNatUp, hl]
    refine ICalls.then (c4 _) ?_
    try simp [go_sem, -getElem?_pos, -List.map_take, -List.map_drop, List.getElem?_cons_zero, List.getElem?_cons_succ, Go.IntWalk.iteOmega, Go.IntWalk.toNatUp, hl]
    refine ICalls.then (c5 _) ?_
    try simp [go_sem, -getElem?_pos, -List.map_take, -List.map_drop, List.getElem?_cons_zero, List.getElem?_cons_succ, Go.IntWalk.iteOmega, Go.IntWalk.toNatUp, hl]
    refine ICalls.then (c6 _) ?_
    try simp [go_sem, -getElem?_pos, -List.map_take, -List.map_drop, List.getElem?_cons_zero, List.getElem?_cons_succ, Go.IntWalk.iteOmega, Go.IntWalk.toNatUp, hl]
    refine ICalls.then (c7 _) ?_
    try simp [go_sem, -getElem?_pos, -List.map_take, -List.map_drop, List.getElem?_cons_zero, List.getElem?_cons_succ, Go.IntWalk.iteOmega, Go.IntWalk.toNatUp, hl]
    refine ICalls.then (c8 _) ?_
    try simp [go_sem, -getElem?_pos, -List.map_take, -List.map_drop, List.getElem?_cons_zero, List.getElem?_cons_succ, Go.IntWalk.iteOmega, Go.IntWalk.toNatUp, hl]
    refine IWp.ret ?_
    simp [go_sem, -getElem?_pos, -List.map_take, -List.map_drop, List.getElem?_cons_zero, List.getElem?_cons_succ, Go.IntWalk.iteOmega, Go.IntWalk.toNatUp, hl, Try.results10]
    try rfl

end Go.Proofs.Ytdimnoeldnfikaa.I
