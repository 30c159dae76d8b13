/- Drafts as arguments; what their rules are made of. No condition. -/
import Derived.Test.YtoecebibhcadoaaDoorGConf
import Derived.Test.YtoecebibhcadoaaDoorILaw
namespace Go.Proofs.YtoecebibhcadoaaDoor.I
open Go Go.RowKit
set_option linter.unusedVariables false
set_option linter.unusedSimpArgs false
def Line.ty : Ty := .recd [.int .u8, .int .u8, .int .u8, .int .u8, .int .u8, .int .u8, .int .u8, .bool, .row (.int .u8) 1]
theorem Line.ofLay {d : Dt} {cs : List Value} (h : Lay Line.ty d cs) : ∃ x : Line, cs = x.cells ∧ x.wf := by
  cases h with
  | recd h =>
    obtain _ | ⟨h0, h⟩ := h
    obtain _ | ⟨h1, h⟩ := h
    obtain _ | ⟨h2, h⟩ := h
    obtain _ | ⟨h3, h⟩ := h
    obtain _ | ⟨h4, h⟩ := h
    obtain _ | ⟨h5, h⟩ := h
    obtain _ | ⟨h6, h⟩ := h
    obtain _ | ⟨h7, h⟩ := h
    obtain _ | ⟨h8, h⟩ := h
    cases h
    obtain ⟨a0, rfl, w0⟩ := lay_int h0
    obtain ⟨a1, rfl, w1⟩ := lay_int h1
    obtain ⟨a2, rfl, w2⟩ := lay_int h2
    obtain ⟨a3, rfl, w3⟩ := lay_int h3
    obtain ⟨a4, rfl, w4⟩ := lay_int h4
    obtain ⟨a5, rfl, w5⟩ := lay_int h5
    obtain ⟨a6, rfl, w6⟩ := lay_int h6
    obtain ⟨a7, rfl⟩ := lay_bool h7
    obtain ⟨a8, rfl, w8, z8⟩ := lay_ints h8
    exact ⟨⟨a0, a1, a2, a3, a4, a5, a6, a7, a8⟩, by simp [Line.cells], ⟨wf_u8 w0, wf_u8 w1, wf_u8 w2, wf_u8 w3, wf_u8 w4, wf_u8 w5, wf_u8 w6, ⟨fun n hn => wf_u8 (w8 n hn), z8⟩⟩⟩
theorem Line.ofLayS : ∀ {xs : List Dt} {vs : List Value}, LayS Line.ty xs vs → ∃ L : List Line, vs = L.map Line.val ∧ ∀ x ∈ L, x.wf
  | _, _, .nil _ => ⟨[], rfl, fun _ h => (by cases h)⟩
  | _, _, .one hr _ _ => by cases hr
  | _, _, .recs hr h hs => by
    obtain ⟨x, rfl, hx⟩ := Line.ofLay h
    obtain ⟨L, rfl, hw⟩ := Line.ofLayS hs
    exact ⟨x :: L, rfl, fun y hy => by
      rcases List.mem_cons.1 hy with rfl | hy
      · exact hx
      · exact hw y hy⟩
theorem Line.ofV {d : Dt} {v : Value} (h : LayV Line.ty d v) : ∃ x : Line, v = x.val ∧ x.wf := by
  obtain ⟨cs, rfl, h2⟩ := layV_rec h
  obtain ⟨x, rfl, hx⟩ := Line.ofLay h2
  exact ⟨x, rfl, hx⟩
theorem Line.ofRow {d : Dt} {v : Value} {k : Nat} (h : LayV (.row Line.ty k) d v) : ∃ L : List Line, v = frow k 0 (L.map Line.val) ∧ (∀ x ∈ L, x.wf) ∧ L.length ≤ maxLen := by
  obtain ⟨xs, vs, rfl, hs, hl⟩ := layV_row h
  obtain ⟨L, rfl, hw⟩ := Line.ofLayS hs
  exact ⟨L, rfl, hw, by simpa using hl⟩
def Draft.ty : Ty := .recd [.row Line.ty 9, .row (.int .u8) 1, .int .u8, .int .u8, .int .u8, .int .u8, .bool, .int .u8]
theorem Draft.ofLay {d : Dt} {cs : List Value} (h : Lay Draft.ty d cs) : ∃ x : Draft, cs = x.cells ∧ x.wf := by
  cases h with
  | recd h =>
    obtain _ | ⟨h0, h⟩ := h
    obtain _ | ⟨h1, h⟩ := h
    obtain _ | ⟨h2, h⟩ := h
    obtain _ | ⟨h3, h⟩ := h
    obtain _ | ⟨h4, h⟩ := h
    obtain _ | ⟨h5, h⟩ := h
    obtain _ | ⟨h6, h⟩ := h
    obtain _ | ⟨h7, h⟩ := h
    cases h
    obtain ⟨xs0, vs0, rfl, s0, z0⟩ := lay_row h0
    obtain ⟨a0, rfl, w0⟩ := Line.ofLayS s0
    obtain ⟨a1, rfl, w1, z1⟩ := lay_ints h1
    obtain ⟨a2, rfl, w2⟩ := lay_int h2
    obtain ⟨a3, rfl, w3⟩ := lay_int h3
    obtain ⟨a4, rfl, w4⟩ := lay_int h4
    obtain ⟨a5, rfl, w5⟩ := lay_int h5
    obtain ⟨a6, rfl⟩ := lay_bool h6
    obtain ⟨a7, rfl, w7⟩ := lay_int h7
    exact ⟨⟨a0, a1, a2, a3, a4, a5, a6, a7⟩, by simp [Draft.cells], ⟨⟨w0, by simpa using z0⟩, ⟨fun n hn => wf_u8 (w1 n hn), z1⟩, wf_u8 w2, wf_u8 w3, wf_u8 w4, wf_u8 w5, wf_u8 w7⟩⟩
theorem Draft.ofLayS : ∀ {xs : List Dt} {vs : List Value}, LayS Draft.ty xs vs → ∃ L : List Draft, vs = L.map Draft.val ∧ ∀ x ∈ L, x.wf
  | _, _, .nil _ => ⟨[], rfl, fun _ h => (by cases h)⟩
  | _, _, .one hr _ _ => by cases hr
  | _, _, .recs hr h hs => by
    obtain ⟨x, rfl, hx⟩ := Draft.ofLay h
    obtain ⟨L, rfl, hw⟩ := Draft.ofLayS hs
    exact ⟨x :: L, rfl, fun y hy => by
      rcases List.mem_cons.1 hy with rfl | hy
      · exact hx
      · exact hw y hy⟩
theorem Draft.ofV {d : Dt} {v : Value} (h : LayV Draft.ty d v) : ∃ x : Draft, v = x.val ∧ x.wf := by
  obtain ⟨cs, rfl, h2⟩ := layV_rec h
  obtain ⟨x, rfl, hx⟩ := Draft.ofLay h2
  exact ⟨x, rfl, hx⟩
theorem Draft.ofRow {d : Dt} {v : Value} {k : Nat} (h : LayV (.row Draft.ty k) d v) : ∃ L : List Draft, v = frow k 0 (L.map Draft.val) ∧ (∀ x ∈ L, x.wf) ∧ L.length ≤ maxLen := by
  obtain ⟨xs, vs, rfl, hs, hl⟩ := layV_row h
  obtain ⟨L, rfl, hw⟩ := Draft.ofLayS hs
  exact ⟨L, rfl, hw, by simpa using hl⟩
theorem ruleS_delay (x : Line) (h : 0 ≤ x.delay ∧ x.delay < 256) : 0 ≤ (ruleS x).delay ∧ (ruleS x).delay ≤ 7 := by
  show 0 ≤ x.delay % 8 ∧ x.delay % 8 ≤ 7
  omega
theorem rules_mem {d : Draft} (hw : d.wf) {r : Rule} (hr : r ∈ rulesS d) : ∃ x : Line, x.wf ∧ r = ruleS x := by
  unfold rulesS at hr
  split at hr
  · simp at hr; exact ⟨lineZ, by simp [lineZ, Line.wf], hr⟩
  · obtain ⟨x, hx, rfl⟩ := List.mem_map.1 hr
    exact ⟨x, hw.1.1 x (List.mem_of_mem_take hx), rfl⟩
def shortD (d : Draft) : Prop := d.rules.length ≤ 12 ∧ d.slots.length ≤ 40 ∧ ∀ x ∈ d.rules, x.stages.length ≤ 8
instance (d : Draft) : Decidable (shortD d) := inferInstanceAs (Decidable (_ ∧ _))
end Go.Proofs.YtoecebibhcadoaaDoor.I
