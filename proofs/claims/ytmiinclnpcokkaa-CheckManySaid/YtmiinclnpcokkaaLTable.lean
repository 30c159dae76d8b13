/- Tables: the example, and the laws' bodies. No condition. -/
import Derived.Test.YtmiinclnpcokkaaGMakeB
import Derived.Test.YtmiinclnpcokkaaPConf
import Derived.Test.YtmiinclnpcokkaaPGap
import Derived.Test.YtmiinclnpcokkaaILaw
namespace Go.Proofs.Ytmiinclnpcokkaa.I
open Go Go.RowKit
set_option linter.unusedVariables false
set_option linter.unusedSimpArgs false

def Line.ty : Ty := .recd [.int .u8, .int .u8, .int .u8, .int .u8, .int .u8, .int .u8, .int .u8, .bool, .row (.int .u8) 1]
theorem Line.ofLay {d : Dt} {cs : List Value} (h : Lay Line.ty d cs) : ∃ x : Line, cs = x.cells ∧ x.wf := by
  cases h with
  | recd h =>
    obtain _ | ⟨h0, h⟩ := h
    obtain _ | ⟨h1, h⟩ := h
    obtain _ | ⟨h2, h⟩ := h
    obtain _ | ⟨h3, h⟩ := h
    obtain _ | ⟨h4, h⟩ := h
    obtain _ | ⟨h5, h⟩ := h
    obtain _ | ⟨h6, h⟩ := h
    obtain _ | ⟨h7, h⟩ := h
    obtain _ | ⟨h8, h⟩ := h
    cases h
    obtain ⟨a0, rfl, w0⟩ := lay_int h0
    obtain ⟨a1, rfl, w1⟩ := lay_int h1
    obtain ⟨a2, rfl, w2⟩ := lay_int h2
    obtain ⟨a3, rfl, w3⟩ := lay_int h3
    obtain ⟨a4, rfl, w4⟩ := lay_int h4
    obtain ⟨a5, rfl, w5⟩ := lay_int h5
    obtain ⟨a6, rfl, w6⟩ := lay_int h6
    obtain ⟨a7, rfl⟩ := lay_bool h7
    obtain ⟨a8, rfl, w8, z8⟩ := lay_ints h8
    exact ⟨⟨a0, a1, a2, a3, a4, a5, a6, a7, a8⟩, by simp [Line.cells], ⟨wf_u8 w0, wf_u8 w1, wf_u8 w2, wf_u8 w3, wf_u8 w4, wf_u8 w5, wf_u8 w6, ⟨fun n hn => wf_u8 (w8 n hn), z8⟩⟩⟩
theorem Line.ofLayS : ∀ {xs : List Dt} {vs : List Value}, LayS Line.ty xs vs → ∃ L : List Line, vs = L.map Line.val ∧ ∀ x ∈ L, x.wf
  | _, _, .nil _ => ⟨[], rfl, fun _ h => (by cases h)⟩
  | _, _, .one hr _ _ => by cases hr
  | _, _, .recs hr h hs => by
    obtain ⟨x, rfl, hx⟩ := Line.ofLay h
    obtain ⟨L, rfl, hw⟩ := Line.ofLayS hs
    exact ⟨x :: L, rfl, fun y hy => by
      rcases List.mem_cons.1 hy with rfl | hy
      · exact hx
      · exact hw y hy⟩
theorem Line.ofV {d : Dt} {v : Value} (h : LayV Line.ty d v) : ∃ x : Line, v = x.val ∧ x.wf := by
  obtain ⟨cs, rfl, h2⟩ := layV_rec h
  obtain ⟨x, rfl, hx⟩ := Line.ofLay h2
  exact ⟨x, rfl, hx⟩
theorem Line.ofRow {d : Dt} {v : Value} {k : Nat} (h : LayV (.row Line.ty k) d v) : ∃ L : List Line, v = frow k 0 (L.map Line.val) ∧ (∀ x ∈ L, x.wf) ∧ L.length ≤ maxLen := by
  obtain ⟨xs, vs, rfl, hs, hl⟩ := layV_row h
  obtain ⟨L, rfl, hw⟩ := Line.ofLayS hs
  exact ⟨L, rfl, hw, by simpa using hl⟩
def Draft.ty : Ty := .recd [.row Line.ty 9, .row (.int .u8) 1, .int .u8, .int .u8, .int .u8, .int .u8, .bool, .int .u8]
theorem Draft.ofLay {d : Dt} {cs : List Value} (h : Lay Draft.ty d cs) : ∃ x : Draft, cs = x.cells ∧ x.wf := by
  cases h with
  | recd h =>
    obtain _ | ⟨h0, h⟩ := h
    obtain _ | ⟨h1, h⟩ := h
    obtain _ | ⟨h2, h⟩ := h
    obtain _ | ⟨h3, h⟩ := h
    obtain _ | ⟨h4, h⟩ := h
    obtain _ | ⟨h5, h⟩ := h
    obtain _ | ⟨h6, h⟩ := h
    obtain _ | ⟨h7, h⟩ := h
    cases h
    obtain ⟨xs0, vs0, rfl, s0, z0⟩ := lay_row h0
    obtain ⟨a0, rfl, w0⟩ := Line.ofLayS s0
    obtain ⟨a1, rfl, w1, z1⟩ := lay_ints h1
    obtain ⟨a2, rfl, w2⟩ := lay_int h2
    obtain ⟨a3, rfl, w3⟩ := lay_int h3
    obtain ⟨a4, rfl, w4⟩ := lay_int h4
    obtain ⟨a5, rfl, w5⟩ := lay_int h5
    obtain ⟨a6, rfl⟩ := lay_bool h6
    obtain ⟨a7, rfl, w7⟩ := lay_int h7
    exact ⟨⟨a0, a1, a2, a3, a4, a5, a6, a7⟩, by simp [Draft.cells], ⟨⟨w0, by simpa using z0⟩, ⟨fun n hn => wf_u8 (w1 n hn), z1⟩, wf_u8 w2, wf_u8 w3, wf_u8 w4, wf_u8 w5, wf_u8 w7⟩⟩
theorem Draft.ofLayS : ∀ {xs : List Dt} {vs : List Value}, LayS Draft.ty xs vs → ∃ L : List Draft, vs = L.map Draft.val ∧ ∀ x ∈ L, x.wf
  | _, _, .nil _ => ⟨[], rfl, fun _ h => (by cases h)⟩
  | _, _, .one hr _ _ => by cases hr
  | _, _, .recs hr h hs => by
    obtain ⟨x, rfl, hx⟩ := Draft.ofLay h
    obtain ⟨L, rfl, hw⟩ := Draft.ofLayS hs
    exact ⟨x :: L, rfl, fun y hy => by
      rcases List.mem_cons.1 hy with rfl | hy
      · exact hx
      · exact hw y hy⟩
theorem Draft.ofV {d : Dt} {v : Value} (h : LayV Draft.ty d v) : ∃ x : Draft, v = x.val ∧ x.wf := by
  obtain ⟨cs, rfl, h2⟩ := layV_rec h
  obtain ⟨x, rfl, hx⟩ := Draft.ofLay h2
  exact ⟨x, rfl, hx⟩
theorem Draft.ofRow {d : Dt} {v : Value} {k : Nat} (h : LayV (.row Draft.ty k) d v) : ∃ L : List Draft, v = frow k 0 (L.map Draft.val) ∧ (∀ x ∈ L, x.wf) ∧ L.length ≤ maxLen := by
  obtain ⟨xs, vs, rfl, hs, hl⟩ := layV_row h
  obtain ⟨L, rfl, hw⟩ := Draft.ofLayS hs
  exact ⟨L, rfl, hw, by simpa using hl⟩

def ruleZ : Rule := ⟨0, 0, 0, 0, 0, 0, 0, false, []⟩
def gapC : Config := ⟨[], [ruleZ, ruleZ], [[0, 1], [0], []], 0, 0, 0, 0, 0, 0, false, 0⟩

theorem ruleS_delay (x : Line) (h : 0 ≤ x.delay ∧ x.delay < 256) : 0 ≤ (ruleS x).delay ∧ (ruleS x).delay ≤ 7 := by
  show 0 ≤ x.delay % 8 ∧ x.delay % 8 ≤ 7
  omega
theorem rules_mem {d : Draft} (hw : d.wf) {r : Rule} (hr : r ∈ rulesS d) : ∃ x : Line, x.wf ∧ r = ruleS x := by
  unfold rulesS at hr
  split at hr
  · simp at hr; exact ⟨lineZ, by simp [lineZ, Line.wf], hr⟩
  · obtain ⟨x, hx, rfl⟩ := List.mem_map.1 hr
    exact ⟨x, hw.1.1 x (List.mem_of_mem_take hx), rfl⟩
theorem small_make {d : Draft} (hw : d.wf) : Small (makeS d) := by
  have hb : 0 ≤ d.bands ∧ d.bands < 256 := hw.2.2.1
  obtain ⟨h1, h2, h3⟩ := tableS_all d hb
  have hn := slotsN_pos d hb
  have hR := rulesS_pos d
  refine ⟨show (rulesS d).length ≤ 1000 by omega, show 0 < (tableS d).length by omega, show (tableS d).length ≤ 1000 by omega, fun x hx => by have := h1.len x hx; omega, fun r hr => ?_⟩
  obtain ⟨x, hx, rfl⟩ := rules_mem hw hr
  have := ruleS_delay x hx.2.2.2.2.1
  omega

def rz9 : List Value := [.int .u8 0, .int .i64 0, .int .i64 0, .int .i64 0, .int .i64 0, .int .i64 0, .int .u8 0, .bool false, .slice none 0 0]
theorem gaps (H : Heap) : ICalls Try.prog 14 [] H fun v H' => v = .bool true ∧ H' = H := by
  refine ICalls.ans (by simp [go_sem]) fun H => IBody.calls (by kernel_rfl) ?_
  refine IBody.of Try.func14 rfl (by rw [Try.ntmps14]; simp) ?_
  rw [Try.ntmps14]
  refine IWp.seq ?_
  refine IWp.run [] ?_
  simp [go_sem, -getElem?_pos, -List.map_take, -List.map_drop, List.getElem?_cons_zero, List.getElem?_cons_succ, Go.IntWalk.iteOmega, Go.IntWalk.toNatUp]
  refine IWp.seq ?_
  refine IWp.run [1] ?_
  simp [go_sem, -getElem?_pos, -List.map_take, -List.map_drop, List.getElem?_cons_zero, List.getElem?_cons_succ, Go.IntWalk.iteOmega, Go.IntWalk.toNatUp]
  refine IWp.seq ?_
  obtain ⟨H6, hH6⟩ : ∃ H6, H6 = (((((H.alloc (rz9 ++ rz9)).alloc [.int .i64 0, .int .i64 1]).alloc [.int .i64 0]).alloc [.slice (some ⟨H.next + 1, 0, some 1⟩) 2 1, .slice (some ⟨H.next + 1 + 1, 0, some 1⟩) 1 1, .slice none 0 0])).alloc [.slice none 0 0, .slice (some ⟨H.next, 0, some 9⟩) 2 1, .slice (some ⟨H.next + 1 + 1 + 1, 0, some 1⟩) 3 1, .int .i64 0, .int .i64 0, .int .i64 0, .int .i64 0, .int .i64 0, .int .i64 0, .bool false, .int .i64 0] := ⟨_, rfl⟩
  have n1 : ∀ n : Nat, ¬ n = n + 1 := by omega
  have n2 : ∀ n : Nat, ¬ n = n + 1 + 1 := by omega
  have n3 : ∀ n : Nat, ¬ n = n + 1 + 1 + 1 := by omega
  have n4 : ∀ n : Nat, ¬ n = n + 1 + 1 + 1 + 1 := by omega
  have g0 : H6.get H.next = some ⟨rz9 ++ rz9, true⟩ := by rw [hH6]; simp [get_alloc, next_alloc, n1, n2, n3, n4]
  have g1 : H6.get (H.next + 1) = some ⟨[.int .i64 0, .int .i64 1], true⟩ := by rw [hH6]; simp [get_alloc, next_alloc, n1, n2, n3, n4]
  have g2 : H6.get (H.next + 1 + 1) = some ⟨[.int .i64 0], true⟩ := by rw [hH6]; simp [get_alloc, next_alloc, n1, n2, n3, n4]
  have g3 : H6.get (H.next + 1 + 1 + 1) = some ⟨[.slice (some ⟨H.next + 1, 0, some 1⟩) 2 1, .slice (some ⟨H.next + 1 + 1, 0, some 1⟩) 1 1, .slice none 0 0], true⟩ := by rw [hH6]; simp [get_alloc, next_alloc, n1, n2, n3, n4]
  have g4 : H6.get (H.next + 1 + 1 + 1 + 1) = some ⟨[.slice none 0 0, .slice (some ⟨H.next, 0, some 9⟩) 2 1, .slice (some ⟨H.next + 1 + 1 + 1, 0, some 1⟩) 3 1, .int .i64 0, .int .i64 0, .int .i64 0, .int .i64 0, .int .i64 0, .int .i64 0, .bool false, .int .i64 0], true⟩ := by rw [hH6]; simp [get_alloc, next_alloc]
  simp only [rz9, List.cons_append, List.nil_append] at hH6
  rw [← hH6]
  generalize hc4 : H.next + 1 + 1 + 1 + 1 = c4 at *
  have hz : ∀ (S : Nat → Bool), FrzL H6 S rz9 ruleZ.val.cells.toList := fun S => .cons (.same _) (.cons (.same _) (.cons (.same _) (.cons (.same _) (.cons (.same _) (.cons (.same _) (.cons (.same _) (.cons (.same _) (.cons (.nil 2) .nil))))))))
  obtain ⟨K, hf, k4, _, _⟩ := FrzH.one (S := fun j => !(j == c4)) (b := c4) (cs' := gapC.cells) (by simp) g4 (by
    refine .cons (.nil 2) (.cons ?_ (.cons ?_ (FrzL.same _)))
    · refine Frz.row (us := [ruleZ.val, ruleZ.val]) g0 (by simp; omega) ?_
      exact FrzE.cons (l := rz9) rfl (hz _) (FrzE.cons (l := rz9) (cs := []) rfl (hz _) .nil)
    · refine Frz.row (us := [ints .i64 [0, 1], ints .i64 [0], ints .i64 []]) g3 (by simp; omega) ?_
      exact FrzE.cons (l := [_]) rfl (.cons (frz_lit ([(0 : Int), 1].map (Value.int .i64)) g1 (map_flat _ _) (map_sz .i64 _) rfl (by simp; omega)) .nil) (FrzE.cons (l := [_]) rfl (.cons (frz_lit ([(0 : Int)].map (Value.int .i64)) g2 (map_flat _ _) (map_sz .i64 _) rfl (by simp; omega)) .nil) (FrzE.cons (l := [_]) (cs := []) rfl (.cons (.nil 1) .nil) .nil)))
  refine IWp.freezeH K _ (.cons (.same _) .nil) hf ?_
  clear hf g0 g1 g2 g3 g4 hz hH6
  have e1 : (if 0 ≤ (0 : Int) ∧ (0 : Int) < gapC.rules.length then gapP gapC.table 0 else 0) = 2 := by decide
  have e2 : (if 0 ≤ (1 : Int) ∧ (1 : Int) < gapC.rules.length then gapP gapC.table 1 else 0) = 3 := by decide
  have e3 : slotAt gapC.table 5 = [0] := by decide
  have hm : ∀ x ∈ gapC.table, x.length ≤ 1000000 := by decide
  have c1 := fun K => gapT K gapC 0 (by decide) hm
  have c2 := fun K => gapT K gapC 1 (by decide) hm
  have c3 := fun K => slot K gapC 5 (by decide) (by decide) hm (by decide)
  have c5 := fun K => waitT K gapC (by decide) (by decide)
  rw [e1] at c1
  rw [e2] at c2
  rw [e3] at c3
  simp only [Config.val] at c1 c2 c3 c5
  simp only [Config.cells, gapC] at c1 c2 c3 c5 k4
  have hlt := Heap.lt_of_get k4
  refine IWp.run [0] ?_
  simp [go_sem, -getElem?_pos, -List.map_take, -List.map_drop, List.getElem?_cons_zero, List.getElem?_cons_succ, Go.IntWalk.iteOmega, Go.IntWalk.toNatUp, k4, show ¬ c4 = K.next by omega]
  refine ICalls.then (c1 _) ?_
  try simp [go_sem, -getElem?_pos, -List.map_take, -List.map_drop, List.getElem?_cons_zero, List.getElem?_cons_succ, Go.IntWalk.iteOmega, Go.IntWalk.toNatUp, k4, show ¬ c4 = K.next by omega]
  refine ICalls.then (c2 _) ?_
  try simp [go_sem, -getElem?_pos, -List.map_take, -List.map_drop, List.getElem?_cons_zero, List.getElem?_cons_succ, Go.IntWalk.iteOmega, Go.IntWalk.toNatUp, k4, show ¬ c4 = K.next by omega]
  refine ICalls.then (c3 _) ?_
  try simp [go_sem, -getElem?_pos, -List.map_take, -List.map_drop, List.getElem?_cons_zero, List.getElem?_cons_succ, Go.IntWalk.iteOmega, Go.IntWalk.toNatUp, k4, show ¬ c4 = K.next by omega]
  refine ICalls.freeze1 K.next (.cons (.same _) (.cons (frz_lit ([(0 : Int)].map (Value.int .i64)) (by simp [get_alloc]) (map_flat _ _) (map_sz .i64 _) rfl (by simp)) .nil)) (ICalls.then (sameI _ 0 0 [0] [0] (by decide)) ?_)
  simp [go_sem, k4, show ¬ c4 = K.next by omega]
  refine ICalls.then (c5 _) ?_
  simp [go_sem]
  refine IWp.ret ?_
  simp [go_sem, -getElem?_pos, -List.map_take, -List.map_drop, List.getElem?_cons_zero, List.getElem?_cons_succ, Go.IntWalk.iteOmega, Go.IntWalk.toNatUp, Try.results14]

/-! ### the laws -/
def shortD (d : Draft) : Prop := d.rules.length ≤ 12 ∧ d.slots.length ≤ 40 ∧ ∀ x ∈ d.rules, x.stages.length ≤ 8
instance (d : Draft) : Decidable (shortD d) := inferInstanceAs (Decidable (_ ∧ _))
theorem shortsD (H : Heap) (d : Draft) : ICalls Try.prog 15 [d.val] H fun v H' => v = .bool (decide (shortD d)) ∧ H' = H := shorts H d
theorem shortsT (d : Draft) (h : shortD d) (H : Heap) : ICalls Try.prog 15 [.agg ⟨d.cells⟩] H fun v H' => v = .bool true ∧ H' = H := by
  have := shortsD H d
  rw [decide_eq_true h] at this; exact this
theorem shortsF (d : Draft) (h : ¬ shortD d) (H : Heap) : ICalls Try.prog 15 [.agg ⟨d.cells⟩] H fun v H' => v = .bool false ∧ H' = H := by
  have := shortsD H d
  rw [decide_eq_false h] at this; exact this

theorem tableSlots_law (H : Heap) (d : Draft) (now : Int) (hw : d.wf) (w1 : -9223372036854775808 ≤ now ∧ now < 9223372036854775808) :
    IBody Try.prog 3 [d.val, .int .i64 now] H fun v _ => v = .bool true := by
  by_cases hs : shortD d
  case neg =>
    have h1 := shortsF d hs
    simp only [Draft.cells] at h1
    refine IBody.of Try.func3 rfl (by rw [Try.ntmps3]; simp) ?_
    rw [Try.ntmps3]
    refine IWp.seq ?_
    refine IWp.run [1, 2] ?_
    simp [go_sem, -getElem?_pos, -List.map_take, -List.map_drop, List.getElem?_cons_zero, List.getElem?_cons_succ, Go.IntWalk.iteOmega, Go.IntWalk.toNatUp, Draft.val, Draft.cells]
    refine IWp.seq ?_
    refine IWp.seq ?_
    refine IWp.run [1, 2, 13] ?_
    simp [go_sem, -getElem?_pos, -List.map_take, -List.map_drop, List.getElem?_cons_zero, List.getElem?_cons_succ, Go.IntWalk.iteOmega, Go.IntWalk.toNatUp, Draft.val, Draft.cells]
    refine ICalls.then (gaps _) ?_
    try simp [go_sem, -getElem?_pos, -List.map_take, -List.map_drop, List.getElem?_cons_zero, List.getElem?_cons_succ, Go.IntWalk.iteOmega, Go.IntWalk.toNatUp, Draft.val, Draft.cells]
    refine ICalls.then (h1 _) ?_
    try simp [go_sem, -getElem?_pos, -List.map_take, -List.map_drop, List.getElem?_cons_zero, List.getElem?_cons_succ, Go.IntWalk.iteOmega, Go.IntWalk.toNatUp, Draft.val, Draft.cells]
    refine IWp.cond ?_
    simp [go_sem, -getElem?_pos, -List.map_take, -List.map_drop, List.getElem?_cons_zero, List.getElem?_cons_succ, Go.IntWalk.iteOmega, Go.IntWalk.toNatUp, Draft.val, Draft.cells]
    refine IWp.seq ?_
    refine IWp.run [4] ?_
    simp [go_sem, -getElem?_pos, -List.map_take, -List.map_drop, List.getElem?_cons_zero, List.getElem?_cons_succ, Go.IntWalk.iteOmega, Go.IntWalk.toNatUp, Draft.val, Draft.cells]
    refine ICalls.then (gaps _) ?_
    try simp [go_sem, -getElem?_pos, -List.map_take, -List.map_drop, List.getElem?_cons_zero, List.getElem?_cons_succ, Go.IntWalk.iteOmega, Go.IntWalk.toNatUp, Draft.val, Draft.cells]
    refine IWp.ret ?_
    simp [go_sem, -getElem?_pos, -List.map_take, -List.map_drop, List.getElem?_cons_zero, List.getElem?_cons_succ, Go.IntWalk.iteOmega, Go.IntWalk.toNatUp, Draft.val, Draft.cells, Try.results3]
  have h1 := shortsT d hs
  have h2 := fun K => make K d hw
  have hS := small_make hw
  simp only [Draft.val, Draft.cells, Config.val, Config.cells] at h1 h2
  generalize makeS d = c at *
  have hr : ∀ t, (slotAt c.table t).length ≤ 1000000 := fun t => by
    unfold slotAt
    split
    · simp
    · rw [List.getD_eq_getElem?_getD]
      cases h : c.table[((t - 1) % c.table.length).toNat]? with
      | none => simp
      | some x => exact hS.rows x (List.mem_of_getElem? h)
  have c1 := fun K t ht => slot K c t hS.tab0 (by have := hS.tab; omega) hS.rows ht
  have c2 := fun K t ht => refSlot K c t hS.tab0 (by have := hS.tab; omega) ht
  simp only [Config.val, Config.cells] at c1 c2
  refine IBody.of Try.func3 rfl (by rw [Try.ntmps3]; simp) ?_
  rw [Try.ntmps3]
  refine IWp.seq ?_
  refine IWp.run [1, 2] ?_
  simp [go_sem, -getElem?_pos, -List.map_take, -List.map_drop, List.getElem?_cons_zero, List.getElem?_cons_succ, Go.IntWalk.iteOmega, Go.IntWalk.toNatUp, Draft.val, Draft.cells]
  refine IWp.seq ?_
  refine IWp.seq ?_
  refine IWp.run [1, 2, 13] ?_
  simp [go_sem, -getElem?_pos, -List.map_take, -List.map_drop, List.getElem?_cons_zero, List.getElem?_cons_succ, Go.IntWalk.iteOmega, Go.IntWalk.toNatUp, Draft.val, Draft.cells]
  refine ICalls.then (gaps _) ?_
  try simp [go_sem, -getElem?_pos, -List.map_take, -List.map_drop, List.getElem?_cons_zero, List.getElem?_cons_succ, Go.IntWalk.iteOmega, Go.IntWalk.toNatUp, Draft.val, Draft.cells]
  refine ICalls.then (h1 _) ?_
  try simp [go_sem, -getElem?_pos, -List.map_take, -List.map_drop, List.getElem?_cons_zero, List.getElem?_cons_succ, Go.IntWalk.iteOmega, Go.IntWalk.toNatUp, Draft.val, Draft.cells]
  refine IWp.cond ?_
  simp [go_sem, -getElem?_pos, -List.map_take, -List.map_drop, List.getElem?_cons_zero, List.getElem?_cons_succ, Go.IntWalk.iteOmega, Go.IntWalk.toNatUp, Draft.val, Draft.cells]
  refine IWp.trim [1, 2] (IWp.skip ?_)
  simp [go_sem, -getElem?_pos, -List.map_take, -List.map_drop, List.getElem?_cons_zero, List.getElem?_cons_succ, Go.IntWalk.iteOmega, Go.IntWalk.toNatUp, Draft.val, Draft.cells]
  refine IWp.seq ?_
  refine IWp.run [1, 5] ?_
  simp [go_sem, -getElem?_pos, -List.map_take, -List.map_drop, List.getElem?_cons_zero, List.getElem?_cons_succ, Go.IntWalk.iteOmega, Go.IntWalk.toNatUp, Draft.val, Draft.cells]
  refine ICalls.then (h2 _) ?_
  try simp [go_sem, -getElem?_pos, -List.map_take, -List.map_drop, List.getElem?_cons_zero, List.getElem?_cons_succ, Go.IntWalk.iteOmega, Go.IntWalk.toNatUp, Draft.val, Draft.cells]
  refine IWp.seq ?_
  refine IWp.seq ?_
  refine IWp.run [1, 5, 6] ?_
  simp [go_sem, -getElem?_pos, -List.map_take, -List.map_drop, List.getElem?_cons_zero, List.getElem?_cons_succ, Go.IntWalk.iteOmega, Go.IntWalk.toNatUp, Draft.val, Draft.cells]
  refine IWp.block ?_
  -- LOOP live [1, 5, 6]
  have hg := Heap.get_alloc_new (H.alloc d.cells) c.cells
  simp only [Config.cells, Draft.cells, next_alloc] at hg
  generalize H.next + 1 = cb at *
  generalize (H.alloc _).alloc _ = H1 at *
  refine IWp.loop (fun q e K => ∃ i : Nat, q = 20 - i ∧ i ≤ 20 ∧ K = H1 ∧ e = [(1, .int .i64 now), (5, ptrTo cb 0), (6, .int .i64 (i : Int))]) 20 ⟨0, rfl, Nat.zero_le _, rfl, by simp [go_sem]⟩ ?_
  rintro q e K ⟨i, rfl, hi, rfl, rfl⟩
  have wi := IntWalk.i64_in ((i : Int) + 1) (by omega)
  by_cases hlt : i < 20
  · skip
    refine IWp.seq ?_
    refine IWp.seq ?_
    refine IWp.run [1, 5, 6, 18] ?_
    simp [go_sem, -getElem?_pos, -List.map_take, -List.map_drop, List.getElem?_cons_zero, List.getElem?_cons_succ, Go.IntWalk.iteOmega, Go.IntWalk.toNatUp, hg, wi, show (i : Int) < 20 by omega]
    refine IWp.cond ?_
    simp [go_sem, -getElem?_pos, -List.map_take, -List.map_drop, List.getElem?_cons_zero, List.getElem?_cons_succ, Go.IntWalk.iteOmega, Go.IntWalk.toNatUp, hg, wi, show (i : Int) < 20 by omega]
    refine IWp.trim [1, 5, 6] (IWp.skip ?_)
    simp [go_sem, -getElem?_pos, -List.map_take, -List.map_drop, List.getElem?_cons_zero, List.getElem?_cons_succ, Go.IntWalk.iteOmega, Go.IntWalk.toNatUp, hg, wi, show (i : Int) < 20 by omega]
    refine IWp.seq ?_
    refine IWp.block ?_
    refine IWp.seq ?_
    refine IWp.draw [1, 5, 6, 28] [cb] (.ld 0 [2, 5, 6, 7] (.val 1 (.val 4 (.val 3 (.eff 2 (.eff 5 (.eff 6 (.val 7 .done) .done) .done) .done))))) follows (by kernel_rfl) ?_
    simp [go_sem, -getElem?_pos, -List.map_take, -List.map_drop, List.getElem?_cons_zero, List.getElem?_cons_succ, Go.IntWalk.iteOmega, Go.IntWalk.toNatUp, hg, wi, show (i : Int) < 20 by omega]
    refine ICalls.then (c1 _ _ (by omega)) ?_
    try simp [go_sem, -getElem?_pos, -List.map_take, -List.map_drop, List.getElem?_cons_zero, List.getElem?_cons_succ, Go.IntWalk.iteOmega, Go.IntWalk.toNatUp, hg, wi, show (i : Int) < 20 by omega]
    refine ICalls.then (c2 _ _ (by omega)) ?_
    try simp [go_sem, -getElem?_pos, -List.map_take, -List.map_drop, List.getElem?_cons_zero, List.getElem?_cons_succ, Go.IntWalk.iteOmega, Go.IntWalk.toNatUp, hg, wi, show (i : Int) < 20 by omega]
    refine ICalls.then (sameI _ 0 0 _ _ (hr _)) ?_
    try simp [go_sem, -getElem?_pos, -List.map_take, -List.map_drop, List.getElem?_cons_zero, List.getElem?_cons_succ, Go.IntWalk.iteOmega, Go.IntWalk.toNatUp, hg, wi, show (i : Int) < 20 by omega]
    refine IWp.cond ?_
    simp [go_sem, -getElem?_pos, -List.map_take, -List.map_drop, List.getElem?_cons_zero, List.getElem?_cons_succ, Go.IntWalk.iteOmega, Go.IntWalk.toNatUp, hg, wi, show (i : Int) < 20 by omega]
    refine IWp.trim [1, 5, 6] (IWp.skip ?_)
    simp [go_sem, -getElem?_pos, -List.map_take, -List.map_drop, List.getElem?_cons_zero, List.getElem?_cons_succ, Go.IntWalk.iteOmega, Go.IntWalk.toNatUp, hg, wi, show (i : Int) < 20 by omega]
    refine IWp.run [1, 5, 6] ?_
    simp [go_sem, -getElem?_pos, -List.map_take, -List.map_drop, List.getElem?_cons_zero, List.getElem?_cons_succ, Go.IntWalk.iteOmega, Go.IntWalk.toNatUp, hg, wi, show (i : Int) < 20 by omega]
    exact ⟨20 - (i + 1), by omega, i + 1, rfl, by omega, by omega⟩
  · skip
    refine IWp.seq ?_
    refine IWp.seq ?_
    refine IWp.run [1, 5, 6, 18] ?_
    simp [go_sem, -getElem?_pos, -List.map_take, -List.map_drop, List.getElem?_cons_zero, List.getElem?_cons_succ, Go.IntWalk.iteOmega, Go.IntWalk.toNatUp, hg, show ¬ (i : Int) < 20 by omega]
    refine IWp.cond ?_
    simp [go_sem, -getElem?_pos, -List.map_take, -List.map_drop, List.getElem?_cons_zero, List.getElem?_cons_succ, Go.IntWalk.iteOmega, Go.IntWalk.toNatUp, hg, show ¬ (i : Int) < 20 by omega]
    refine IWp.trim [1, 5] (IWp.exit ?_)
    simp [go_sem, -getElem?_pos, -List.map_take, -List.map_drop, List.getElem?_cons_zero, List.getElem?_cons_succ, Go.IntWalk.iteOmega, Go.IntWalk.toNatUp, hg, show ¬ (i : Int) < 20 by omega]
    refine IWp.seq ?_
    refine IWp.draw [4] [cb] (.ld 0 [2, 5, 6, 7] (.val 1 (.val 4 (.val 3 (.eff 2 (.eff 5 (.eff 6 (.val 7 .done) .done) .done) .done))))) follows (by kernel_rfl) ?_
    simp [go_sem, -getElem?_pos, -List.map_take, -List.map_drop, List.getElem?_cons_zero, List.getElem?_cons_succ, Go.IntWalk.iteOmega, Go.IntWalk.toNatUp, hg, show ¬ (i : Int) < 20 by omega]
    refine ICalls.then (c1 _ _ w1) ?_
    try simp [go_sem, -getElem?_pos, -List.map_take, -List.map_drop, List.getElem?_cons_zero, List.getElem?_cons_succ, Go.IntWalk.iteOmega, Go.IntWalk.toNatUp, hg, show ¬ (i : Int) < 20 by omega]
    refine ICalls.then (c2 _ _ w1) ?_
    try simp [go_sem, -getElem?_pos, -List.map_take, -List.map_drop, List.getElem?_cons_zero, List.getElem?_cons_succ, Go.IntWalk.iteOmega, Go.IntWalk.toNatUp, hg, show ¬ (i : Int) < 20 by omega]
    refine ICalls.then (sameI _ 0 0 _ _ (hr _)) ?_
    try simp [go_sem, -getElem?_pos, -List.map_take, -List.map_drop, List.getElem?_cons_zero, List.getElem?_cons_succ, Go.IntWalk.iteOmega, Go.IntWalk.toNatUp, hg, show ¬ (i : Int) < 20 by omega]
    refine IWp.ret ?_
    simp [go_sem, -getElem?_pos, -List.map_take, -List.map_drop, List.getElem?_cons_zero, List.getElem?_cons_succ, Go.IntWalk.iteOmega, Go.IntWalk.toNatUp, hg, show ¬ (i : Int) < 20 by omega, Try.results3]

theorem gapR_make {d : Draft} (hw : d.wf) (k : Int) : (inR (makeS d) k → gapR (makeS d).table k = gapP (makeS d).table k) ∧ (¬ inR (makeS d) k → gapR (makeS d).table k = 0) := by
  obtain ⟨h1, h2, h3⟩ := tableS_all d hw.2.2.1
  refine ⟨fun hk => ?_, fun hk => gapR_none _ _ fun i ho => ?_⟩
  · have hk1 : 0 ≤ k := hk.1
    have hk2 : k < ((rulesS d).length : Int) := hk.2
    have := (standsS_iff _ _).1 (h3 k.toNat (by omega))
    obtain ⟨l, hl, hm⟩ := this
    obtain ⟨i, hi, rfl⟩ := List.mem_iff_getElem.1 hl
    refine gapR_eq (tableS d) k (i := i) hi ?_
    show k ∈ (tableS d).getD i []
    rw [List.getD_eq_getElem?_getD, List.getElem?_eq_getElem hi]
    rwa [show ((k.toNat : Nat) : Int) = k by omega] at hm
  · have ho' : k ∈ (tableS d).getD i [] := ho
    rw [List.getD_eq_getElem?_getD] at ho'
    cases e : (tableS d)[i]? with
    | none => rw [e] at ho'; cases ho'
    | some l =>
      rw [e] at ho'
      exact hk (h1.inn l (List.mem_of_getElem? e) k ho')

theorem tableGaps_law (H : Heap) (d : Draft) (k : Int) (hw : d.wf) (w1 : -9223372036854775808 ≤ k ∧ k < 9223372036854775808) :
    IBody Try.prog 7 [d.val, .int .i64 k] H fun v _ => v = .bool true := by
  by_cases hs : shortD d
  case neg =>
    have h1 := shortsF d hs
    simp only [Draft.cells] at h1
    refine IBody.of Try.func7 rfl (by rw [Try.ntmps7]; simp) ?_
    rw [Try.ntmps7]
    refine IWp.seq ?_
    refine IWp.run [1, 2] ?_
    simp [go_sem, -getElem?_pos, -List.map_take, -List.map_drop, List.getElem?_cons_zero, List.getElem?_cons_succ, Go.IntWalk.iteOmega, Go.IntWalk.toNatUp, Draft.val, Draft.cells]
    refine IWp.seq ?_
    refine IWp.seq ?_
    refine IWp.run [1, 2, 14] ?_
    simp [go_sem, -getElem?_pos, -List.map_take, -List.map_drop, List.getElem?_cons_zero, List.getElem?_cons_succ, Go.IntWalk.iteOmega, Go.IntWalk.toNatUp, Draft.val, Draft.cells]
    refine ICalls.then (gaps _) ?_
    try simp [go_sem, -getElem?_pos, -List.map_take, -List.map_drop, List.getElem?_cons_zero, List.getElem?_cons_succ, Go.IntWalk.iteOmega, Go.IntWalk.toNatUp, Draft.val, Draft.cells]
    refine ICalls.then (h1 _) ?_
    try simp [go_sem, -getElem?_pos, -List.map_take, -List.map_drop, List.getElem?_cons_zero, List.getElem?_cons_succ, Go.IntWalk.iteOmega, Go.IntWalk.toNatUp, Draft.val, Draft.cells]
    refine IWp.cond ?_
    simp [go_sem, -getElem?_pos, -List.map_take, -List.map_drop, List.getElem?_cons_zero, List.getElem?_cons_succ, Go.IntWalk.iteOmega, Go.IntWalk.toNatUp, Draft.val, Draft.cells]
    refine IWp.seq ?_
    refine IWp.run [4] ?_
    simp [go_sem, -getElem?_pos, -List.map_take, -List.map_drop, List.getElem?_cons_zero, List.getElem?_cons_succ, Go.IntWalk.iteOmega, Go.IntWalk.toNatUp, Draft.val, Draft.cells]
    refine ICalls.then (gaps _) ?_
    try simp [go_sem, -getElem?_pos, -List.map_take, -List.map_drop, List.getElem?_cons_zero, List.getElem?_cons_succ, Go.IntWalk.iteOmega, Go.IntWalk.toNatUp, Draft.val, Draft.cells]
    refine IWp.ret ?_
    simp [go_sem, -getElem?_pos, -List.map_take, -List.map_drop, List.getElem?_cons_zero, List.getElem?_cons_succ, Go.IntWalk.iteOmega, Go.IntWalk.toNatUp, Draft.val, Draft.cells, Try.results7]
  have h1 := shortsT d hs
  have h2 := fun K => make K d hw
  have hS := small_make hw
  have hgr := gapR_make hw
  simp only [Draft.val, Draft.cells, Config.val, Config.cells] at h1 h2
  generalize makeS d = c at *
  have hR := hS.rules
  have e1 : ∀ k, (if 0 ≤ k ∧ k < (c.rules.length : Int) then gapP c.table k else 0) = gapR c.table k := fun k => by
    by_cases h : inR c k
    · rw [if_pos (show 0 ≤ k ∧ k < (c.rules.length : Int) from h), (hgr k).1 h]
    · rw [if_neg (show ¬ (0 ≤ k ∧ k < (c.rules.length : Int)) from h), (hgr k).2 h]
  have e2 : ∀ k, lateS (gapP c.table k) c k = lateS (gapR c.table k) c k := fun k => by
    unfold lateS
    by_cases h : inR c k
    · rw [(hgr k).1 h]
    · rw [if_neg h, if_neg h]
  have e3 : ∀ k, goneS (gapP c.table k) c k = goneS (gapR c.table k) c k := fun k => by
    unfold goneS
    by_cases h : inR c k
    · rw [(hgr k).1 h]
    · rw [if_neg h, if_neg h]
  have hwp : 1 ≤ waitN c := by
    unfold waitN
    exact Nat.le_trans (show 1 ≤ 1 * 1 by omega) (Nat.mul_le_mul (by omega) hS.tab0)
  have p1 : decide (0 < lateS (gapR c.table k) c k) = (decide (0 ≤ k) && decide (k < c.rules.length)) := by
    unfold lateS
    by_cases h : inR c k
    · obtain ⟨r, _, hr2, hr3, _⟩ := delayAt_get hS h
      have hg := gapR_in c.table k
      have ha := h.1
      have hb := h.2
      rw [if_pos h, hr2]
      simp [ha, hb]; omega
    · rw [if_neg h]
      by_cases ha : 0 ≤ k
      · have hb : ¬ k < c.rules.length := fun hb => h ⟨ha, hb⟩
        simp [hb]
      · simp [ha]
  have p2 : decide (0 < goneS (gapR c.table k) c k) = (decide (0 ≤ k) && decide (k < c.rules.length)) := by
    unfold goneS
    by_cases h : inR c k
    · have hg := gapR_in c.table k
      have ha := h.1
      have hb := h.2
      rw [if_pos h]
      simp [ha, hb]; omega
    · rw [if_neg h]
      by_cases ha : 0 ≤ k
      · have hb : ¬ k < c.rules.length := fun hb => h ⟨ha, hb⟩
        simp [hb]
      · simp [ha]
  have c1 := fun K k => gapT K c k (by have := hS.tab; omega) hS.rows
  have c2 := fun K k => refGap K c k hS.tab0 (by have := hS.tab; omega) hS.rows
  have c3 := fun K k hk => lateT K c hS k hk
  have c4 := fun K k hk => refLate K c hS k hk
  have c5 := fun K k hk => goneT K c hS k hk
  have c6 := fun K k hk => refGone K c hS k hk
  have c7 := fun K => waitT K c (by omega) (by have := hS.tab; omega)
  have c8 := fun K => refWait K c hS.rules hS.tab
  rw [show (((c.rules.length + 1) * c.table.length : Nat) : Int) = (waitN c : Int) from rfl] at c7
  simp only [Config.val, Config.cells, e1, e2, e3] at c1 c2 c3 c4 c5 c6 c7 c8
  have wm := IntWalk.i64_in (-1) (by omega)
  refine IBody.of Try.func7 rfl (by rw [Try.ntmps7]; simp) ?_
  rw [Try.ntmps7]
  refine IWp.seq ?_
  refine IWp.run [1, 2] ?_
  simp [go_sem, -getElem?_pos, -List.map_take, -List.map_drop, List.getElem?_cons_zero, List.getElem?_cons_succ, Go.IntWalk.iteOmega, Go.IntWalk.toNatUp, Draft.val, Draft.cells, wm]
  refine IWp.seq ?_
  refine IWp.seq ?_
  refine IWp.run [1, 2, 14] ?_
  simp [go_sem, -getElem?_pos, -List.map_take, -List.map_drop, List.getElem?_cons_zero, List.getElem?_cons_succ, Go.IntWalk.iteOmega, Go.IntWalk.toNatUp, Draft.val, Draft.cells, wm]
  refine ICalls.then (gaps _) ?_
  try simp [go_sem, -getElem?_pos, -List.map_take, -List.map_drop, List.getElem?_cons_zero, List.getElem?_cons_succ, Go.IntWalk.iteOmega, Go.IntWalk.toNatUp, Draft.val, Draft.cells, wm]
  refine ICalls.then (h1 _) ?_
  try simp [go_sem, -getElem?_pos, -List.map_take, -List.map_drop, List.getElem?_cons_zero, List.getElem?_cons_succ, Go.IntWalk.iteOmega, Go.IntWalk.toNatUp, Draft.val, Draft.cells, wm]
  refine IWp.cond ?_
  simp [go_sem, -getElem?_pos, -List.map_take, -List.map_drop, List.getElem?_cons_zero, List.getElem?_cons_succ, Go.IntWalk.iteOmega, Go.IntWalk.toNatUp, Draft.val, Draft.cells, wm]
  refine IWp.trim [1, 2] (IWp.skip ?_)
  simp [go_sem, -getElem?_pos, -List.map_take, -List.map_drop, List.getElem?_cons_zero, List.getElem?_cons_succ, Go.IntWalk.iteOmega, Go.IntWalk.toNatUp, Draft.val, Draft.cells, wm]
  refine IWp.seq ?_
  refine IWp.run [1, 5] ?_
  simp [go_sem, -getElem?_pos, -List.map_take, -List.map_drop, List.getElem?_cons_zero, List.getElem?_cons_succ, Go.IntWalk.iteOmega, Go.IntWalk.toNatUp, Draft.val, Draft.cells, wm]
  refine ICalls.then (h2 _) ?_
  try simp [go_sem, -getElem?_pos, -List.map_take, -List.map_drop, List.getElem?_cons_zero, List.getElem?_cons_succ, Go.IntWalk.iteOmega, Go.IntWalk.toNatUp, Draft.val, Draft.cells, wm]
  refine IWp.seq ?_
  refine IWp.seq ?_
  refine IWp.run [1, 5, 6] ?_
  simp [go_sem, -getElem?_pos, -List.map_take, -List.map_drop, List.getElem?_cons_zero, List.getElem?_cons_succ, Go.IntWalk.iteOmega, Go.IntWalk.toNatUp, Draft.val, Draft.cells, wm]
  refine IWp.block ?_
  -- LOOP live [1, 5, 6]
  have hg := Heap.get_alloc_new (H.alloc d.cells) c.cells
  simp only [Config.cells, Draft.cells, next_alloc] at hg
  generalize H.next + 1 = cb at *
  generalize (H.alloc _).alloc _ = H1 at *
  refine IWp.loop (fun q e K => ∃ i : Nat, q = c.rules.length + 2 - i ∧ i ≤ c.rules.length + 2 ∧ K = H1 ∧ e = [(1, .int .i64 k), (5, ptrTo cb 0), (6, .int .i64 ((i : Int) - 1))]) (c.rules.length + 2) ⟨0, rfl, Nat.zero_le _, rfl, by simp [go_sem]⟩ ?_
  rintro q e K ⟨i, rfl, hi, rfl, rfl⟩
  have wi := IntWalk.i64_in (i : Int) (by omega)
  by_cases hlt : i < c.rules.length + 2
  · skip
    refine IWp.seq ?_
    refine IWp.seq ?_
    refine IWp.run [1, 5, 6, 22] ?_
    simp [go_sem, -getElem?_pos, -List.map_take, -List.map_drop, List.getElem?_cons_zero, List.getElem?_cons_succ, Go.IntWalk.iteOmega, Go.IntWalk.toNatUp, hg, wi, show (i : Int) - 1 ≤ c.rules.length by omega]
    refine IWp.cond ?_
    simp [go_sem, -getElem?_pos, -List.map_take, -List.map_drop, List.getElem?_cons_zero, List.getElem?_cons_succ, Go.IntWalk.iteOmega, Go.IntWalk.toNatUp, hg, wi, show (i : Int) - 1 ≤ c.rules.length by omega]
    refine IWp.trim [1, 5, 6] (IWp.skip ?_)
    simp [go_sem, -getElem?_pos, -List.map_take, -List.map_drop, List.getElem?_cons_zero, List.getElem?_cons_succ, Go.IntWalk.iteOmega, Go.IntWalk.toNatUp, hg, wi, show (i : Int) - 1 ≤ c.rules.length by omega]
    refine IWp.seq ?_
    refine IWp.block ?_
    refine IWp.seq ?_
    refine IWp.draw [1, 5, 6, 49] [cb] (.ld 0 [2, 5, 6, 7, 8, 9, 10, 11, 12, 13, 14, 15, 16, 17, 18, 19, 20, 21, 22, 23, 24] (.val 1 (.val 4 (.val 3 (.eff 2 (.eff 5 (.val 6 (.val 7 (.ld 8 [10, 13, 14, 15, 16, 17, 18, 19, 20, 21, 22, 23, 24] (.val 9 (.val 12 (.val 11 (.eff 10 (.eff 13 (.val 14 (.val 15 (.val 16 (.ld 17 [19, 22, 23, 24] (.val 18 (.val 21 (.val 20 (.eff 19 (.eff 22 (.val 23 (.val 24 .done)) .done) .done)))))))) .done) .done))))))) .done) .done))))) follows (by kernel_rfl) ?_
    simp [go_sem, -getElem?_pos, -List.map_take, -List.map_drop, List.getElem?_cons_zero, List.getElem?_cons_succ, Go.IntWalk.iteOmega, Go.IntWalk.toNatUp, hg, wi, show (i : Int) - 1 ≤ c.rules.length by omega]
    refine ICalls.then (c1 _ _) ?_
    try simp [go_sem, -getElem?_pos, -List.map_take, -List.map_drop, List.getElem?_cons_zero, List.getElem?_cons_succ, Go.IntWalk.iteOmega, Go.IntWalk.toNatUp, hg, wi, show (i : Int) - 1 ≤ c.rules.length by omega]
    refine ICalls.then (c2 _ _) ?_
    try simp [go_sem, -getElem?_pos, -List.map_take, -List.map_drop, List.getElem?_cons_zero, List.getElem?_cons_succ, Go.IntWalk.iteOmega, Go.IntWalk.toNatUp, hg, wi, show (i : Int) - 1 ≤ c.rules.length by omega]
    refine ICalls.then (c3 _ _ (by omega)) ?_
    try simp [go_sem, -getElem?_pos, -List.map_take, -List.map_drop, List.getElem?_cons_zero, List.getElem?_cons_succ, Go.IntWalk.iteOmega, Go.IntWalk.toNatUp, hg, wi, show (i : Int) - 1 ≤ c.rules.length by omega]
    refine ICalls.then (c4 _ _ (by omega)) ?_
    try simp [go_sem, -getElem?_pos, -List.map_take, -List.map_drop, List.getElem?_cons_zero, List.getElem?_cons_succ, Go.IntWalk.iteOmega, Go.IntWalk.toNatUp, hg, wi, show (i : Int) - 1 ≤ c.rules.length by omega]
    refine ICalls.then (c5 _ _ (by omega)) ?_
    try simp [go_sem, -getElem?_pos, -List.map_take, -List.map_drop, List.getElem?_cons_zero, List.getElem?_cons_succ, Go.IntWalk.iteOmega, Go.IntWalk.toNatUp, hg, wi, show (i : Int) - 1 ≤ c.rules.length by omega]
    refine ICalls.then (c6 _ _ (by omega)) ?_
    try simp [go_sem, -getElem?_pos, -List.map_take, -List.map_drop, List.getElem?_cons_zero, List.getElem?_cons_succ, Go.IntWalk.iteOmega, Go.IntWalk.toNatUp, hg, wi, show (i : Int) - 1 ≤ c.rules.length by omega]
    refine IWp.cond ?_
    simp [go_sem, -getElem?_pos, -List.map_take, -List.map_drop, List.getElem?_cons_zero, List.getElem?_cons_succ, Go.IntWalk.iteOmega, Go.IntWalk.toNatUp, hg, wi, show (i : Int) - 1 ≤ c.rules.length by omega]
    refine IWp.trim [1, 5, 6] (IWp.skip ?_)
    simp [go_sem, -getElem?_pos, -List.map_take, -List.map_drop, List.getElem?_cons_zero, List.getElem?_cons_succ, Go.IntWalk.iteOmega, Go.IntWalk.toNatUp, hg, wi, show (i : Int) - 1 ≤ c.rules.length by omega]
    refine IWp.run [1, 5, 6] ?_
    simp [go_sem, -getElem?_pos, -List.map_take, -List.map_drop, List.getElem?_cons_zero, List.getElem?_cons_succ, Go.IntWalk.iteOmega, Go.IntWalk.toNatUp, hg, wi, show (i : Int) - 1 ≤ c.rules.length by omega]
    exact ⟨c.rules.length + 2 - (i + 1), by omega, i + 1, rfl, by omega, by omega⟩
  · by_cases hk0 : 0 ≤ k
    · have P1 : (0 < lateS (gapR c.table k) c k) = (k < (c.rules.length : Int)) := propext (by have h := p1; rw [decide_eq_true hk0, Bool.true_and] at h; exact decide_eq_decide.1 h)
      have P2 : (0 < goneS (gapR c.table k) c k) = (k < (c.rules.length : Int)) := propext (by have h := p2; rw [decide_eq_true hk0, Bool.true_and] at h; exact decide_eq_decide.1 h)
      refine IWp.seq ?_
      refine IWp.seq ?_
      refine IWp.run [1, 5, 6, 22] ?_
      simp [go_sem, -getElem?_pos, -List.map_take, -List.map_drop, List.getElem?_cons_zero, List.getElem?_cons_succ, Go.IntWalk.iteOmega, Go.IntWalk.toNatUp, hg, hk0, P1, P2, show ¬ (i : Int) - 1 ≤ c.rules.length by omega]
      refine IWp.cond ?_
      simp [go_sem, -getElem?_pos, -List.map_take, -List.map_drop, List.getElem?_cons_zero, List.getElem?_cons_succ, Go.IntWalk.iteOmega, Go.IntWalk.toNatUp, hg, hk0, P1, P2, show ¬ (i : Int) - 1 ≤ c.rules.length by omega]
      refine IWp.trim [1, 5] (IWp.exit ?_)
      simp [go_sem, -getElem?_pos, -List.map_take, -List.map_drop, List.getElem?_cons_zero, List.getElem?_cons_succ, Go.IntWalk.iteOmega, Go.IntWalk.toNatUp, hg, hk0, P1, P2, show ¬ (i : Int) - 1 ≤ c.rules.length by omega]
      refine IWp.seq ?_
      refine IWp.run [1, 5, 7] ?_
      simp [go_sem, -getElem?_pos, -List.map_take, -List.map_drop, List.getElem?_cons_zero, List.getElem?_cons_succ, Go.IntWalk.iteOmega, Go.IntWalk.toNatUp, hg, hk0, P1, P2, show ¬ (i : Int) - 1 ≤ c.rules.length by omega]
      refine IWp.seq ?_
      refine IWp.draw [4] [cb] (.ld 0 [1, 3, 4, 5, 6, 7, 8, 9, 10, 11, 12, 13, 14, 15, 16, 17, 18, 19, 20, 21] (.val 2 (.eff 1 (.eff 3 (.val 4 (.val 5 (.ld 6 [8, 9, 11, 12, 13, 14, 15, 16, 17, 18, 19, 20, 21] (.val 7 (.val 10 (.eff 8 (.val 9 (.val 11 (.val 12 (.val 13 (.ld 14 [16, 17, 19, 20, 21] (.val 15 (.val 18 (.eff 16 (.val 17 (.val 19 (.val 20 (.val 21 .done)))) .done)))))))) .done)))))) .done) .done))) follows (by kernel_rfl) ?_
      simp [go_sem, -getElem?_pos, -List.map_take, -List.map_drop, List.getElem?_cons_zero, List.getElem?_cons_succ, Go.IntWalk.iteOmega, Go.IntWalk.toNatUp, hg, hk0, P1, P2, show ¬ (i : Int) - 1 ≤ c.rules.length by omega]
      refine ICalls.then (c7 _) ?_
      try simp [go_sem, -getElem?_pos, -List.map_take, -List.map_drop, List.getElem?_cons_zero, List.getElem?_cons_succ, Go.IntWalk.iteOmega, Go.IntWalk.toNatUp, hg, hk0, P1, P2, show ¬ (i : Int) - 1 ≤ c.rules.length by omega]
      refine ICalls.then (c8 _) ?_
      try simp [go_sem, -getElem?_pos, -List.map_take, -List.map_drop, List.getElem?_cons_zero, List.getElem?_cons_succ, Go.IntWalk.iteOmega, Go.IntWalk.toNatUp, hg, hk0, P1, P2, show ¬ (i : Int) - 1 ≤ c.rules.length by omega]
      refine ICalls.then (c3 _ _ w1) ?_
      try simp [go_sem, -getElem?_pos, -List.map_take, -List.map_drop, List.getElem?_cons_zero, List.getElem?_cons_succ, Go.IntWalk.iteOmega, Go.IntWalk.toNatUp, hg, hk0, P1, P2, show ¬ (i : Int) - 1 ≤ c.rules.length by omega]
      refine ICalls.then (c5 _ _ w1) ?_
      try simp [go_sem, -getElem?_pos, -List.map_take, -List.map_drop, List.getElem?_cons_zero, List.getElem?_cons_succ, Go.IntWalk.iteOmega, Go.IntWalk.toNatUp, hg, hk0, P1, P2, show ¬ (i : Int) - 1 ≤ c.rules.length by omega]
      refine IWp.ret ?_
      simp [go_sem, -getElem?_pos, -List.map_take, -List.map_drop, List.getElem?_cons_zero, List.getElem?_cons_succ, Go.IntWalk.iteOmega, Go.IntWalk.toNatUp, hg, hk0, P1, P2, show ¬ (i : Int) - 1 ≤ c.rules.length by omega, Try.results7]
    · have P1 : (0 < lateS (gapR c.table k) c k) = False := by have := p1; simp [hk0] at this; exact eq_false (by omega)
      have P2 : (0 < goneS (gapR c.table k) c k) = False := by have := p2; simp [hk0] at this; exact eq_false (by omega)
      refine IWp.seq ?_
      refine IWp.seq ?_
      refine IWp.run [1, 5, 6, 22] ?_
      simp [go_sem, -getElem?_pos, -List.map_take, -List.map_drop, List.getElem?_cons_zero, List.getElem?_cons_succ, Go.IntWalk.iteOmega, Go.IntWalk.toNatUp, hg, hk0, P1, P2, show ¬ (i : Int) - 1 ≤ c.rules.length by omega]
      refine IWp.cond ?_
      simp [go_sem, -getElem?_pos, -List.map_take, -List.map_drop, List.getElem?_cons_zero, List.getElem?_cons_succ, Go.IntWalk.iteOmega, Go.IntWalk.toNatUp, hg, hk0, P1, P2, show ¬ (i : Int) - 1 ≤ c.rules.length by omega]
      refine IWp.trim [1, 5] (IWp.exit ?_)
      simp [go_sem, -getElem?_pos, -List.map_take, -List.map_drop, List.getElem?_cons_zero, List.getElem?_cons_succ, Go.IntWalk.iteOmega, Go.IntWalk.toNatUp, hg, hk0, P1, P2, show ¬ (i : Int) - 1 ≤ c.rules.length by omega]
      refine IWp.seq ?_
      refine IWp.run [1, 5, 7] ?_
      simp [go_sem, -getElem?_pos, -List.map_take, -List.map_drop, List.getElem?_cons_zero, List.getElem?_cons_succ, Go.IntWalk.iteOmega, Go.IntWalk.toNatUp, hg, hk0, P1, P2, show ¬ (i : Int) - 1 ≤ c.rules.length by omega]
      refine IWp.seq ?_
      refine IWp.draw [4] [cb] (.ld 0 [1, 3, 4, 5, 6, 7, 8, 9, 10, 11, 12, 13, 14, 15, 16, 17, 18, 19, 20, 21] (.val 2 (.eff 1 (.eff 3 (.val 4 (.val 5 (.ld 6 [8, 9, 11, 12, 13, 14, 15, 16, 17, 18, 19, 20, 21] (.val 7 (.val 10 (.eff 8 (.val 9 (.val 11 (.val 12 (.val 13 (.ld 14 [16, 17, 19, 20, 21] (.val 15 (.val 18 (.eff 16 (.val 17 (.val 19 (.val 20 (.val 21 .done)))) .done)))))))) .done)))))) .done) .done))) follows (by kernel_rfl) ?_
      simp [go_sem, -getElem?_pos, -List.map_take, -List.map_drop, List.getElem?_cons_zero, List.getElem?_cons_succ, Go.IntWalk.iteOmega, Go.IntWalk.toNatUp, hg, hk0, P1, P2, show ¬ (i : Int) - 1 ≤ c.rules.length by omega]
      refine ICalls.then (c7 _) ?_
      try simp [go_sem, -getElem?_pos, -List.map_take, -List.map_drop, List.getElem?_cons_zero, List.getElem?_cons_succ, Go.IntWalk.iteOmega, Go.IntWalk.toNatUp, hg, hk0, P1, P2, show ¬ (i : Int) - 1 ≤ c.rules.length by omega]
      refine ICalls.then (c8 _) ?_
      try simp [go_sem, -getElem?_pos, -List.map_take, -List.map_drop, List.getElem?_cons_zero, List.getElem?_cons_succ, Go.IntWalk.iteOmega, Go.IntWalk.toNatUp, hg, hk0, P1, P2, show ¬ (i : Int) - 1 ≤ c.rules.length by omega]
      refine ICalls.then (c3 _ _ w1) ?_
      try simp [go_sem, -getElem?_pos, -List.map_take, -List.map_drop, List.getElem?_cons_zero, List.getElem?_cons_succ, Go.IntWalk.iteOmega, Go.IntWalk.toNatUp, hg, hk0, P1, P2, show ¬ (i : Int) - 1 ≤ c.rules.length by omega]
      refine ICalls.then (c5 _ _ w1) ?_
      try simp [go_sem, -getElem?_pos, -List.map_take, -List.map_drop, List.getElem?_cons_zero, List.getElem?_cons_succ, Go.IntWalk.iteOmega, Go.IntWalk.toNatUp, hg, hk0, P1, P2, show ¬ (i : Int) - 1 ≤ c.rules.length by omega]
      refine IWp.ret ?_
      simp [go_sem, -getElem?_pos, -List.map_take, -List.map_drop, List.getElem?_cons_zero, List.getElem?_cons_succ, Go.IntWalk.iteOmega, Go.IntWalk.toNatUp, hg, hk0, P1, P2, show ¬ (i : Int) - 1 ≤ c.rules.length by omega, Try.results7]

end Go.Proofs.Ytmiinclnpcokkaa.I
