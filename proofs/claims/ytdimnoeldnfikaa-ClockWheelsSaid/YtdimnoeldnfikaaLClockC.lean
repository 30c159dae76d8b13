/- Whatever is set, stopped, and asked of a wheel: the law's body. No condition. -/
import Derived.Test.YtdimnoeldnfikaaLClock
import Derived.Test.YtdimnoeldnfikaaGTimerE
import Derived.Test.YtdimnoeldnfikaaILaw
namespace Go.Proofs.Ytdimnoeldnfikaa.I
open Go Go.RowKit Go.Maps
set_option linter.unusedVariables false
set_option linter.unusedSimpArgs false

structure Act where
  do_ : Int
  id : Int
  at_ : Int
  deriving DecidableEq
def Act.cells (x : Act) : List Value := [.int .u8 x.do_, .int .i64 x.id, .int .i64 x.at_]
def Act.val (x : Act) : Value := .agg ⟨x.cells⟩
theorem Act.val_cells (x : Act) : x.val.cells = ⟨x.cells⟩ := rfl
def Act.wf (x : Act) : Prop := (0 ≤ x.do_ ∧ x.do_ < 256) ∧ (-9223372036854775808 ≤ x.id ∧ x.id < 9223372036854775808) ∧ (-9223372036854775808 ≤ x.at_ ∧ x.at_ < 9223372036854775808)
theorem Act.cl (x : Act) : ClL x.cells := by
  simp [Act.cells, ClL_cons, ClL_nil, ClL_append, Cl_int, Cl_bool, Cl_string, ↓cl_ints, Cl_frow_map]
theorem Act.cl_row (sz : Nat) (m : Int) (L : List Act) : Cl (frow sz m (L.map Act.val)) = True := by
  rw [Cl_frow_map]; simp [Act.val_cells, Act.cl]
theorem Act.cl_val (x : Act) : Cl x.val = True := by
  unfold Act.val; rw [Cl_agg]; simp [Act.cl]
def Act.ty : Ty := .recd [.int .u8, .int .i64, .int .i64]
theorem Act.ofLay {d : Dt} {cs : List Value} (h : Lay Act.ty d cs) : ∃ x : Act, cs = x.cells ∧ x.wf := by
  cases h with
  | recd h =>
    obtain _ | ⟨h0, h⟩ := h
    obtain _ | ⟨h1, h⟩ := h
    obtain _ | ⟨h2, h⟩ := h
    cases h
    obtain ⟨a0, rfl, w0⟩ := lay_int h0
    obtain ⟨a1, rfl, w1⟩ := lay_int h1
    obtain ⟨a2, rfl, w2⟩ := lay_int h2
    exact ⟨⟨a0, a1, a2⟩, by simp [Act.cells], ⟨wf_u8 w0, wf_i64 w1, wf_i64 w2⟩⟩
theorem Act.ofLayS : ∀ {xs : List Dt} {vs : List Value}, LayS Act.ty xs vs → ∃ L : List Act, vs = L.map Act.val ∧ ∀ x ∈ L, x.wf
  | _, _, .nil _ => ⟨[], rfl, fun _ h => (by cases h)⟩
  | _, _, .one hr _ _ => by cases hr
  | _, _, .recs hr h hs => by
    obtain ⟨x, rfl, hx⟩ := Act.ofLay h
    obtain ⟨L, rfl, hw⟩ := Act.ofLayS hs
    exact ⟨x :: L, rfl, fun y hy => by
      rcases List.mem_cons.1 hy with rfl | hy
      · exact hx
      · exact hw y hy⟩
theorem Act.ofV {d : Dt} {v : Value} (h : LayV Act.ty d v) : ∃ x : Act, v = x.val ∧ x.wf := by
  obtain ⟨cs, rfl, h2⟩ := layV_rec h
  obtain ⟨x, rfl, hx⟩ := Act.ofLay h2
  exact ⟨x, rfl, hx⟩
theorem Act.ofRow {d : Dt} {v : Value} {k : Nat} (h : LayV (.row Act.ty k) d v) : ∃ L : List Act, v = frow k 0 (L.map Act.val) ∧ (∀ x ∈ L, x.wf) ∧ L.length ≤ maxLen := by
  obtain ⟨xs, vs, rfl, hs, hl⟩ := layV_row h
  obtain ⟨L, rfl, hw⟩ := Act.ofLayS hs
  exact ⟨L, rfl, hw, by simpa using hl⟩

theorem likeAt {D : Dat} {m : List (Int × Int)} (h : Like D m) (x : Int) : atI D x = atM m x ∧ Maps.has D (.int .i64 x) = decide (x ∈ m.map (·.1)) := by
  by_cases hx : x ∈ m.map (·.1)
  · refine ⟨?_, by rw [decide_eq_true hx]; exact (h.has x).mpr hx⟩
    obtain ⟨p, hp, e⟩ := List.mem_map.mp hx
    unfold atM
    cases hf : m.find? (fun p => p.1 == x) with
    | none =>
      have := List.find?_eq_none.mp hf p hp
      simp [e] at this
    | some q =>
      have h1 := List.find?_some hf
      have h2 := List.mem_of_find?_eq_some hf
      have h3 := h.at_ q h2
      have h4 : q.1 = x := by simpa using h1
      rw [h4] at h3
      simpa using h3
  · obtain ⟨h1, h2⟩ := h.atNone hx
    refine ⟨?_, by rw [decide_eq_false hx]; exact h2⟩
    rw [h1]
    unfold atM
    rw [List.find?_eq_none.mpr (fun p hp => by
      have : p.1 ≠ x := fun e => hx (List.mem_map.mpr ⟨p, hp, e⟩)
      simpa using this)]
    rfl
theorem putLen (m : List (Int × Int)) (x t : Int) : (without m x ++ [(x, t)]).length ≤ m.length + 1 := by
  have := without_le m x
  simp; omega

set_option maxRecDepth 100000 in
set_option maxHeartbeats 8000000 in
theorem clockWheels_law (H : Heap) (l : List Act) (near : Bool) (hT : H.tab = none) (hw : ∀ x ∈ l, x.wf) : IBody Try.prog 8 [frow 3 0 (l.map Act.val), .bool near] H fun v _ => v = .bool true := by
  by_cases hl : 60 < l.length
  · skip
    refine IBody.of Try.func8 rfl (by rw [Try.ntmps8]; simp) ?_
    rw [Try.ntmps8]
    refine IWp.seq ?_
    refine IWp.run [0, 1] ?_
    simp [go_sem, -getElem?_pos, -List.map_take, -List.map_drop, List.getElem?_cons_zero, List.getElem?_cons_succ, Go.IntWalk.iteOmega, Go.IntWalk.toNatUp, hl]
    refine IWp.seq ?_
    refine IWp.seq ?_
    refine IWp.run [0, 1, 24] ?_
    simp [go_sem, -getElem?_pos, -List.map_take, -List.map_drop, List.getElem?_cons_zero, List.getElem?_cons_succ, Go.IntWalk.iteOmega, Go.IntWalk.toNatUp, hl]
    refine ICalls.then (duesC _) ?_
    try simp [go_sem, -getElem?_pos, -List.map_take, -List.map_drop, List.getElem?_cons_zero, List.getElem?_cons_succ, Go.IntWalk.iteOmega, Go.IntWalk.toNatUp, hl]
    refine IWp.cond ?_
    simp [go_sem, -getElem?_pos, -List.map_take, -List.map_drop, List.getElem?_cons_zero, List.getElem?_cons_succ, Go.IntWalk.iteOmega, Go.IntWalk.toNatUp, hl]
    refine IWp.seq ?_
    refine IWp.run [4] ?_
    simp [go_sem, -getElem?_pos, -List.map_take, -List.map_drop, List.getElem?_cons_zero, List.getElem?_cons_succ, Go.IntWalk.iteOmega, Go.IntWalk.toNatUp, hl]
    refine ICalls.then (duesC _) ?_
    try simp [go_sem, -getElem?_pos, -List.map_take, -List.map_drop, List.getElem?_cons_zero, List.getElem?_cons_succ, Go.IntWalk.iteOmega, Go.IntWalk.toNatUp, hl]
    refine IWp.ret ?_
    simp [go_sem, -getElem?_pos, -List.map_take, -List.map_drop, List.getElem?_cons_zero, List.getElem?_cons_succ, Go.IntWalk.iteOmega, Go.IntWalk.toNatUp, hl, Try.results8]
    try rfl
  refine IBody.of Try.func8 rfl (by rw [Try.ntmps8]; simp) ?_
  rw [Try.ntmps8]
  refine IWp.seq ?_
  refine IWp.run [0, 1] ?_
  simp [go_sem, -getElem?_pos, -List.map_take, -List.map_drop, List.getElem?_cons_zero, List.getElem?_cons_succ, Go.IntWalk.iteOmega, Go.IntWalk.toNatUp, hl]
  refine IWp.seq ?_
  refine IWp.seq ?_
  refine IWp.run [0, 1, 24] ?_
  simp [go_sem, -getElem?_pos, -List.map_take, -List.map_drop, List.getElem?_cons_zero, List.getElem?_cons_succ, Go.IntWalk.iteOmega, Go.IntWalk.toNatUp, hl]
  refine ICalls.then (duesC _) ?_
  try simp [go_sem, -getElem?_pos, -List.map_take, -List.map_drop, List.getElem?_cons_zero, List.getElem?_cons_succ, Go.IntWalk.iteOmega, Go.IntWalk.toNatUp, hl]
  refine IWp.cond ?_
  simp [go_sem, -getElem?_pos, -List.map_take, -List.map_drop, List.getElem?_cons_zero, List.getElem?_cons_succ, Go.IntWalk.iteOmega, Go.IntWalk.toNatUp, hl]
  refine IWp.trim [0, 1] (IWp.skip ?_)
  simp [go_sem, -getElem?_pos, -List.map_take, -List.map_drop, List.getElem?_cons_zero, List.getElem?_cons_succ, Go.IntWalk.iteOmega, Go.IntWalk.toNatUp, hl]
  refine IWp.seq ?_
  refine IWp.run [0, 1, 5] ?_
  simp [go_sem, -getElem?_pos, -List.map_take, -List.map_drop, List.getElem?_cons_zero, List.getElem?_cons_succ, Go.IntWalk.iteOmega, Go.IntWalk.toNatUp, hl]
  refine ICalls.mono (newW H hT) ?_
  rintro v K1 ⟨hv, hb1, ht1, hn1, ho1⟩
  subst hv
  try simp [go_sem, -getElem?_pos, -List.map_take, -List.map_drop, List.getElem?_cons_zero, List.getElem?_cons_succ, Go.IntWalk.iteOmega, Go.IntWalk.toNatUp, hl]
  refine IWp.seq ?_
  refine IWp.run [0, 1, 5, 6] ?_
  simp [go_sem, -getElem?_pos, -List.map_take, -List.map_drop, List.getElem?_cons_zero, List.getElem?_cons_succ, Go.IntWalk.iteOmega, Go.IntWalk.toNatUp, hl]
  refine IWp.seq ?_
  refine IWp.seq ?_
  refine IWp.freezeE (fun _ => false) (e' := [(0, frow 3 0 (l.map Act.val)), (1, .bool near), (5, ptrTo (H.next + 1) 0), (6, frow 2 0 (([] : List (Int × Int)).map tmV))]) (.cons (.same _) (.cons (.same _) (.cons (.same _) (.cons (.nil 2) .nil)))) ?_
  obtain ⟨K0, hK0⟩ : ∃ K0, K0 = K1.only fun b => !false := ⟨_, rfl⟩
  have hb0 : K0.get (H.next + 1) = some ⟨[.map (some H.next)], true⟩ := by rw [hK0]; simpa [Heap.only] using hb1
  have ht0 : K0.tab = some (wTab H.next 0 (.map [])) := by rw [hK0]; exact ht1
  rw [← hK0]
  clear hK0
  generalize H.next = t at *
  obtain ⟨wb, hwb⟩ : ∃ wb, wb = t + 1 := ⟨_, rfl⟩
  rw [← hwb] at hb0 ⊢
  clear hwb hb1 ht1 hn1 ho1 hT
  refine IWp.run [0, 1, 5, 6, 7] ?_
  simp [go_sem, -getElem?_pos, -List.map_take, -List.map_drop, List.getElem?_cons_zero, List.getElem?_cons_succ, Go.IntWalk.iteOmega, Go.IntWalk.toNatUp]
  refine IWp.block ?_
  -- LOOP live [0, 1, 5, 6, 7]
  refine IWp.loop (fun q e K => ∃ (i n : Nat) (D : Dat) (m : List (Int × Int)), q = l.length - i ∧ i ≤ l.length ∧ n ≤ i ∧ m.length ≤ i ∧ K.get wb = some ⟨[.map (some t)], true⟩ ∧ K.tab = some (wTab t n D) ∧ Like D m ∧ e = [(0, frow 3 0 (l.map Act.val)), (1, .bool near), (5, ptrTo wb 0), (6, frow 2 0 (m.map tmV)), (7, .int .i64 (i : Int))]) l.length ⟨0, 0, .map [], [], rfl, Nat.zero_le _, Nat.le_refl _, Nat.le_refl _, hb0, ht0, Like.nil, by simp [go_sem]⟩ ?_
  rintro q e K ⟨i, n, D, m, rfl, hi, hn, hm, hb, ht, hlike, rfl⟩
  have wi := IntWalk.i64_in ((i : Int) + 1) (by omega)
  by_cases hlt : i < l.length
  case neg =>
    refine IWp.seq ?_
    refine IWp.seq ?_
    refine IWp.run [0, 1, 5, 6, 7, 30] ?_
    simp [go_sem, -getElem?_pos, -List.map_take, -List.map_drop, List.getElem?_cons_zero, List.getElem?_cons_succ, Go.IntWalk.iteOmega, Go.IntWalk.toNatUp, hlt]
    refine IWp.cond ?_
    simp [go_sem, -getElem?_pos, -List.map_take, -List.map_drop, List.getElem?_cons_zero, List.getElem?_cons_succ, Go.IntWalk.iteOmega, Go.IntWalk.toNatUp, hlt]
    refine IWp.trim [] (IWp.exit ?_)
    simp [go_sem, -getElem?_pos, -List.map_take, -List.map_drop, List.getElem?_cons_zero, List.getElem?_cons_succ, Go.IntWalk.iteOmega, Go.IntWalk.toNatUp, hlt]
    refine IWp.seq ?_
    refine IWp.run [4] ?_
    simp [go_sem, -getElem?_pos, -List.map_take, -List.map_drop, List.getElem?_cons_zero, List.getElem?_cons_succ, Go.IntWalk.iteOmega, Go.IntWalk.toNatUp, hlt]
    refine IWp.ret ?_
    simp [go_sem, -getElem?_pos, -List.map_take, -List.map_drop, List.getElem?_cons_zero, List.getElem?_cons_succ, Go.IntWalk.iteOmega, Go.IntWalk.toNatUp, hlt, Try.results8]
    try rfl
  have gi : (l.map Act.val)[i]? = some (l[i]).val := by simp [hlt]
  have hx := hw l[i] (List.getElem_mem hlt)
  generalize l[i] = x at *
  obtain ⟨d, id0, at0⟩ := x
  obtain ⟨hd, hid0, hat0⟩ := hx
  simp only at hd hid0 hat0
  have md : d.tmod 4 = d % 4 := Int.tmod_eq_emod_of_nonneg hd.1
  have ud := IntWalk.u8_in (d % 4) (by omega)
  obtain ⟨id, hid⟩ : ∃ id, id = if near = true then id0.tmod 6 else id0 := ⟨_, rfl⟩
  obtain ⟨t1, ht1⟩ : ∃ t1, t1 = if near = true then at0.tmod 20 else at0 := ⟨_, rfl⟩
  have b1 := Int.tmod_lt_of_pos id0 (show (0 : Int) < 6 by omega)
  have b2 := Int.lt_tmod_of_pos id0 (show (0 : Int) < 6 by omega)
  have b3 := Int.tmod_lt_of_pos at0 (show (0 : Int) < 20 by omega)
  have b4 := Int.lt_tmod_of_pos at0 (show (0 : Int) < 20 by omega)
  have r1 : In64 id := by rw [hid]; split <;> constructor <;> omega
  have r2 : In64 t1 := by rw [ht1]; split <;> constructor <;> omega
  have i1 := IntWalk.i64_in (id0.tmod 6) (by omega)
  have i2 := IntWalk.i64_in (at0.tmod 20) (by omega)
  have wx := i64wf r1
  have wv := i64wf r2
  by_cases hk : d % 4 = 0
  · cases near with
    | true =>
      rw [if_pos rfl] at hid ht1
      rw [hid] at wx r1
      rw [ht1] at wv r2
      clear hid ht1
      have hl2 := hlike.put (id0.tmod 6) (at0.tmod 20) wx
      have hml := putLen m (id0.tmod 6) (at0.tmod 20)
      have hS := fun K => refSetC K m (id0.tmod 6) (at0.tmod 20) (by omega)
      obtain ⟨M, hM⟩ : ∃ M, M = without m (id0.tmod 6) ++ [((id0.tmod 6), (at0.tmod 20))] := ⟨_, rfl⟩
      rw [← hM] at hl2 hml hS
      clear hM
      have hA := fun K2 hb2 ht2 => atW K2 wb t (n + 1) (D.put (.int .i64 (id0.tmod 6)) (eI (at0.tmod 20))) (id0.tmod 6) hb2 ht2 wx
      rw [(likeAt hl2 (id0.tmod 6)).1, (likeAt hl2 (id0.tmod 6)).2] at hA
      have hLn := fun K2 hb2 ht2 => lenW K2 wb t (n + 1) (D.put (.int .i64 (id0.tmod 6)) (eI (at0.tmod 20))) hb2 ht2
      rw [hl2.size] at hLn
      refine IWp.seq ?_
      refine IWp.seq ?_
      refine IWp.run [0, 1, 5, 6, 7, 30] ?_
      simp [go_sem, -getElem?_pos, -List.map_take, -List.map_drop, List.getElem?_cons_zero, List.getElem?_cons_succ, Go.IntWalk.iteOmega, Go.IntWalk.toNatUp, hlt, gi, wi, md, ud, i1, i2, Act.val, Act.cells, hk, List.length_map]
      refine IWp.cond ?_
      simp [go_sem, -getElem?_pos, -List.map_take, -List.map_drop, List.getElem?_cons_zero, List.getElem?_cons_succ, Go.IntWalk.iteOmega, Go.IntWalk.toNatUp, hlt, gi, wi, md, ud, i1, i2, Act.val, Act.cells, hk, List.length_map]
      refine IWp.trim [0, 1, 5, 6, 7] (IWp.skip ?_)
      simp [go_sem, -getElem?_pos, -List.map_take, -List.map_drop, List.getElem?_cons_zero, List.getElem?_cons_succ, Go.IntWalk.iteOmega, Go.IntWalk.toNatUp, hlt, gi, wi, md, ud, i1, i2, Act.val, Act.cells, hk, List.length_map]
      refine IWp.seq ?_
      refine IWp.block ?_
      refine IWp.seq ?_
      refine IWp.read [0, 1, 5, 6, 7, 8, 9] follows (by kernel_rfl) ?_
      simp [go_sem, -getElem?_pos, -List.map_take, -List.map_drop, List.getElem?_cons_zero, List.getElem?_cons_succ, Go.IntWalk.iteOmega, Go.IntWalk.toNatUp, hlt, gi, wi, md, ud, i1, i2, Act.val, Act.cells, hk, List.length_map]
      refine IWp.seq ?_
      refine IWp.seq ?_
      refine IWp.run [0, 1, 5, 6, 7, 8, 9, 43] ?_
      simp [go_sem, -getElem?_pos, -List.map_take, -List.map_drop, List.getElem?_cons_zero, List.getElem?_cons_succ, Go.IntWalk.iteOmega, Go.IntWalk.toNatUp, hlt, gi, wi, md, ud, i1, i2, Act.val, Act.cells, hk, List.length_map]
      refine IWp.cond ?_
      simp [go_sem, -getElem?_pos, -List.map_take, -List.map_drop, List.getElem?_cons_zero, List.getElem?_cons_succ, Go.IntWalk.iteOmega, Go.IntWalk.toNatUp, hlt, gi, wi, md, ud, i1, i2, Act.val, Act.cells, hk, List.length_map]
      refine IWp.run [0, 1, 5, 6, 7, 8, 9] ?_
      simp [go_sem, -getElem?_pos, -List.map_take, -List.map_drop, List.getElem?_cons_zero, List.getElem?_cons_succ, Go.IntWalk.iteOmega, Go.IntWalk.toNatUp, hlt, gi, wi, md, ud, i1, i2, Act.val, Act.cells, hk, List.length_map]
      refine IWp.seq ?_
      refine IWp.seq ?_
      refine IWp.run [0, 1, 5, 6, 7, 8, 9, 53] ?_
      simp [go_sem, -getElem?_pos, -List.map_take, -List.map_drop, List.getElem?_cons_zero, List.getElem?_cons_succ, Go.IntWalk.iteOmega, Go.IntWalk.toNatUp, hlt, gi, wi, md, ud, i1, i2, Act.val, Act.cells, hk, List.length_map]
      refine IWp.block ?_
      refine IWp.seq ?_
      refine IWp.seq ?_
      refine IWp.run [0, 1, 5, 6, 7, 8, 9, 53, 67] ?_
      simp [go_sem, -getElem?_pos, -List.map_take, -List.map_drop, List.getElem?_cons_zero, List.getElem?_cons_succ, Go.IntWalk.iteOmega, Go.IntWalk.toNatUp, hlt, gi, wi, md, ud, i1, i2, Act.val, Act.cells, hk, List.length_map]
      refine IWp.cond ?_
      simp [go_sem, -getElem?_pos, -List.map_take, -List.map_drop, List.getElem?_cons_zero, List.getElem?_cons_succ, Go.IntWalk.iteOmega, Go.IntWalk.toNatUp, hlt, gi, wi, md, ud, i1, i2, Act.val, Act.cells, hk, List.length_map]
      refine IWp.trim [0, 1, 5, 6, 7, 8, 9, 53, 67] (IWp.skip ?_)
      simp [go_sem, -getElem?_pos, -List.map_take, -List.map_drop, List.getElem?_cons_zero, List.getElem?_cons_succ, Go.IntWalk.iteOmega, Go.IntWalk.toNatUp, hlt, gi, wi, md, ud, i1, i2, Act.val, Act.cells, hk, List.length_map]
      refine IWp.cond ?_
      simp [go_sem, -getElem?_pos, -List.map_take, -List.map_drop, List.getElem?_cons_zero, List.getElem?_cons_succ, Go.IntWalk.iteOmega, Go.IntWalk.toNatUp, hlt, gi, wi, md, ud, i1, i2, Act.val, Act.cells, hk, List.length_map]
      refine IWp.seq ?_
      refine IWp.run [0, 1, 5, 6, 7, 8, 9] ?_
      simp [go_sem, -getElem?_pos, -List.map_take, -List.map_drop, List.getElem?_cons_zero, List.getElem?_cons_succ, Go.IntWalk.iteOmega, Go.IntWalk.toNatUp, hlt, gi, wi, md, ud, i1, i2, Act.val, Act.cells, hk, List.length_map]
      refine ICalls.mono (setW K wb t n D (id0.tmod 6) (at0.tmod 20) hb ht (by unfold maxLen; omega) wx wv) ?_
      rintro v K2 ⟨hv, hK2⟩
      subst hv; subst hK2
      try simp [go_sem, -getElem?_pos, -List.map_take, -List.map_drop, List.getElem?_cons_zero, List.getElem?_cons_succ, Go.IntWalk.iteOmega, Go.IntWalk.toNatUp, hlt, gi, wi, md, ud, i1, i2, Act.val, Act.cells, hk, List.length_map]
      refine IWp.run [0, 1, 5, 6, 7, 8] ?_
      simp [go_sem, -getElem?_pos, -List.map_take, -List.map_drop, List.getElem?_cons_zero, List.getElem?_cons_succ, Go.IntWalk.iteOmega, Go.IntWalk.toNatUp, hlt, gi, wi, md, ud, i1, i2, Act.val, Act.cells, hk, List.length_map]
      refine ICalls.then (hS _) ?_
      try simp [go_sem, -getElem?_pos, -List.map_take, -List.map_drop, List.getElem?_cons_zero, List.getElem?_cons_succ, Go.IntWalk.iteOmega, Go.IntWalk.toNatUp, hlt, gi, wi, md, ud, i1, i2, Act.val, Act.cells, hk, List.length_map]
      refine IWp.seq ?_
      refine IWp.run [0, 1, 5, 6, 7, 8, 14, 15] ?_
      simp [go_sem, -getElem?_pos, -List.map_take, -List.map_drop, List.getElem?_cons_zero, List.getElem?_cons_succ, Go.IntWalk.iteOmega, Go.IntWalk.toNatUp, hlt, gi, wi, md, ud, i1, i2, Act.val, Act.cells, hk, List.length_map]
      refine ICalls.then (hA _ hb rfl) ?_
      try simp [go_sem, -getElem?_pos, -List.map_take, -List.map_drop, List.getElem?_cons_zero, List.getElem?_cons_succ, Go.IntWalk.iteOmega, Go.IntWalk.toNatUp, hlt, gi, wi, md, ud, i1, i2, Act.val, Act.cells, hk, List.length_map]
      refine IWp.seq ?_
      refine IWp.run [0, 1, 5, 6, 7, 14, 15, 16, 17] ?_
      simp [go_sem, -getElem?_pos, -List.map_take, -List.map_drop, List.getElem?_cons_zero, List.getElem?_cons_succ, Go.IntWalk.iteOmega, Go.IntWalk.toNatUp, hlt, gi, wi, md, ud, i1, i2, Act.val, Act.cells, hk, List.length_map]
      refine ICalls.then (refAtC _ M (id0.tmod 6) (by omega)) ?_
      try simp [go_sem, -getElem?_pos, -List.map_take, -List.map_drop, List.getElem?_cons_zero, List.getElem?_cons_succ, Go.IntWalk.iteOmega, Go.IntWalk.toNatUp, hlt, gi, wi, md, ud, i1, i2, Act.val, Act.cells, hk, List.length_map]
      refine IWp.seq ?_
      refine IWp.run [0, 1, 5, 6, 7, 118] ?_
      simp [go_sem, -getElem?_pos, -List.map_take, -List.map_drop, List.getElem?_cons_zero, List.getElem?_cons_succ, Go.IntWalk.iteOmega, Go.IntWalk.toNatUp, hlt, gi, wi, md, ud, i1, i2, Act.val, Act.cells, hk, List.length_map]
      refine ICalls.then (hLn _ hb rfl) ?_
      try simp [go_sem, -getElem?_pos, -List.map_take, -List.map_drop, List.getElem?_cons_zero, List.getElem?_cons_succ, Go.IntWalk.iteOmega, Go.IntWalk.toNatUp, hlt, gi, wi, md, ud, i1, i2, Act.val, Act.cells, hk, List.length_map]
      refine IWp.cond ?_
      simp [go_sem, -getElem?_pos, -List.map_take, -List.map_drop, List.getElem?_cons_zero, List.getElem?_cons_succ, Go.IntWalk.iteOmega, Go.IntWalk.toNatUp, hlt, gi, wi, md, ud, i1, i2, Act.val, Act.cells, hk, List.length_map]
      refine IWp.trim [0, 1, 5, 6, 7] (IWp.skip ?_)
      simp [go_sem, -getElem?_pos, -List.map_take, -List.map_drop, List.getElem?_cons_zero, List.getElem?_cons_succ, Go.IntWalk.iteOmega, Go.IntWalk.toNatUp, hlt, gi, wi, md, ud, i1, i2, Act.val, Act.cells, hk, List.length_map]
      refine IWp.run [0, 1, 5, 6, 7] ?_
      simp [go_sem, -getElem?_pos, -List.map_take, -List.map_drop, List.getElem?_cons_zero, List.getElem?_cons_succ, Go.IntWalk.iteOmega, Go.IntWalk.toNatUp, hlt, gi, wi, md, ud, i1, i2, Act.val, Act.cells, hk, List.length_map]
      exact ⟨l.length - (i + 1), by omega, i + 1, rfl, by omega, n + 1, by omega, _, M, by omega, hb, rfl, hl2, rfl, by omega⟩
    | false =>
      rw [if_neg (by simp)] at hid ht1
      rw [hid] at wx r1
      rw [ht1] at wv r2
      clear hid ht1
      have hl2 := hlike.put id0 at0 wx
      have hml := putLen m id0 at0
      have hS := fun K => refSetC K m id0 at0 (by omega)
      obtain ⟨M, hM⟩ : ∃ M, M = without m id0 ++ [(id0, at0)] := ⟨_, rfl⟩
      rw [← hM] at hl2 hml hS
      clear hM
      have hA := fun K2 hb2 ht2 => atW K2 wb t (n + 1) (D.put (.int .i64 id0) (eI at0)) id0 hb2 ht2 wx
      rw [(likeAt hl2 id0).1, (likeAt hl2 id0).2] at hA
      have hLn := fun K2 hb2 ht2 => lenW K2 wb t (n + 1) (D.put (.int .i64 id0) (eI at0)) hb2 ht2
      rw [hl2.size] at hLn
      refine IWp.seq ?_
      refine IWp.seq ?_
      refine IWp.run [0, 1, 5, 6, 7, 30] ?_
      simp [go_sem, -getElem?_pos, -List.map_take, -List.map_drop, List.getElem?_cons_zero, List.getElem?_cons_succ, Go.IntWalk.iteOmega, Go.IntWalk.toNatUp, hlt, gi, wi, md, ud, i1, i2, Act.val, Act.cells, hk, List.length_map]
      refine IWp.cond ?_
      simp [go_sem, -getElem?_pos, -List.map_take, -List.map_drop, List.getElem?_cons_zero, List.getElem?_cons_succ, Go.IntWalk.iteOmega, Go.IntWalk.toNatUp, hlt, gi, wi, md, ud, i1, i2, Act.val, Act.cells, hk, List.length_map]
      refine IWp.trim [0, 1, 5, 6, 7] (IWp.skip ?_)
      simp [go_sem, -getElem?_pos, -List.map_take, -List.map_drop, List.getElem?_cons_zero, List.getElem?_cons_succ, Go.IntWalk.iteOmega, Go.IntWalk.toNatUp, hlt, gi, wi, md, ud, i1, i2, Act.val, Act.cells, hk, List.length_map]
      refine IWp.seq ?_
      refine IWp.block ?_
      refine IWp.seq ?_
      refine IWp.read [0, 1, 5, 6, 7, 8, 9] follows (by kernel_rfl) ?_
      simp [go_sem, -getElem?_pos, -List.map_take, -List.map_drop, List.getElem?_cons_zero, List.getElem?_cons_succ, Go.IntWalk.iteOmega, Go.IntWalk.toNatUp, hlt, gi, wi, md, ud, i1, i2, Act.val, Act.cells, hk, List.length_map]
      refine IWp.seq ?_
      refine IWp.seq ?_
      refine IWp.run [0, 1, 5, 6, 7, 8, 9, 43] ?_
      simp [go_sem, -getElem?_pos, -List.map_take, -List.map_drop, List.getElem?_cons_zero, List.getElem?_cons_succ, Go.IntWalk.iteOmega, Go.IntWalk.toNatUp, hlt, gi, wi, md, ud, i1, i2, Act.val, Act.cells, hk, List.length_map]
      refine IWp.cond ?_
      simp [go_sem, -getElem?_pos, -List.map_take, -List.map_drop, List.getElem?_cons_zero, List.getElem?_cons_succ, Go.IntWalk.iteOmega, Go.IntWalk.toNatUp, hlt, gi, wi, md, ud, i1, i2, Act.val, Act.cells, hk, List.length_map]
      refine IWp.trim [0, 1, 5, 6, 7, 8, 9] (IWp.skip ?_)
      simp [go_sem, -getElem?_pos, -List.map_take, -List.map_drop, List.getElem?_cons_zero, List.getElem?_cons_succ, Go.IntWalk.iteOmega, Go.IntWalk.toNatUp, hlt, gi, wi, md, ud, i1, i2, Act.val, Act.cells, hk, List.length_map]
      refine IWp.seq ?_
      refine IWp.seq ?_
      refine IWp.run [0, 1, 5, 6, 7, 8, 9, 53] ?_
      simp [go_sem, -getElem?_pos, -List.map_take, -List.map_drop, List.getElem?_cons_zero, List.getElem?_cons_succ, Go.IntWalk.iteOmega, Go.IntWalk.toNatUp, hlt, gi, wi, md, ud, i1, i2, Act.val, Act.cells, hk, List.length_map]
      refine IWp.block ?_
      refine IWp.seq ?_
      refine IWp.seq ?_
      refine IWp.run [0, 1, 5, 6, 7, 8, 9, 53, 67] ?_
      simp [go_sem, -getElem?_pos, -List.map_take, -List.map_drop, List.getElem?_cons_zero, List.getElem?_cons_succ, Go.IntWalk.iteOmega, Go.IntWalk.toNatUp, hlt, gi, wi, md, ud, i1, i2, Act.val, Act.cells, hk, List.length_map]
      refine IWp.cond ?_
      simp [go_sem, -getElem?_pos, -List.map_take, -List.map_drop, List.getElem?_cons_zero, List.getElem?_cons_succ, Go.IntWalk.iteOmega, Go.IntWalk.toNatUp, hlt, gi, wi, md, ud, i1, i2, Act.val, Act.cells, hk, List.length_map]
      refine IWp.trim [0, 1, 5, 6, 7, 8, 9, 53, 67] (IWp.skip ?_)
      simp [go_sem, -getElem?_pos, -List.map_take, -List.map_drop, List.getElem?_cons_zero, List.getElem?_cons_succ, Go.IntWalk.iteOmega, Go.IntWalk.toNatUp, hlt, gi, wi, md, ud, i1, i2, Act.val, Act.cells, hk, List.length_map]
      refine IWp.cond ?_
      simp [go_sem, -getElem?_pos, -List.map_take, -List.map_drop, List.getElem?_cons_zero, List.getElem?_cons_succ, Go.IntWalk.iteOmega, Go.IntWalk.toNatUp, hlt, gi, wi, md, ud, i1, i2, Act.val, Act.cells, hk, List.length_map]
      refine IWp.seq ?_
      refine IWp.run [0, 1, 5, 6, 7, 8, 9] ?_
      simp [go_sem, -getElem?_pos, -List.map_take, -List.map_drop, List.getElem?_cons_zero, List.getElem?_cons_succ, Go.IntWalk.iteOmega, Go.IntWalk.toNatUp, hlt, gi, wi, md, ud, i1, i2, Act.val, Act.cells, hk, List.length_map]
      refine ICalls.mono (setW K wb t n D id0 at0 hb ht (by unfold maxLen; omega) wx wv) ?_
      rintro v K2 ⟨hv, hK2⟩
      subst hv; subst hK2
      try simp [go_sem, -getElem?_pos, -List.map_take, -List.map_drop, List.getElem?_cons_zero, List.getElem?_cons_succ, Go.IntWalk.iteOmega, Go.IntWalk.toNatUp, hlt, gi, wi, md, ud, i1, i2, Act.val, Act.cells, hk, List.length_map]
      refine IWp.run [0, 1, 5, 6, 7, 8] ?_
      simp [go_sem, -getElem?_pos, -List.map_take, -List.map_drop, List.getElem?_cons_zero, List.getElem?_cons_succ, Go.IntWalk.iteOmega, Go.IntWalk.toNatUp, hlt, gi, wi, md, ud, i1, i2, Act.val, Act.cells, hk, List.length_map]
      refine ICalls.then (hS _) ?_
      try simp [go_sem, -getElem?_pos, -List.map_take, -List.map_drop, List.getElem?_cons_zero, List.getElem?_cons_succ, Go.IntWalk.iteOmega, Go.IntWalk.toNatUp, hlt, gi, wi, md, ud, i1, i2, Act.val, Act.cells, hk, List.length_map]
      refine IWp.seq ?_
      refine IWp.run [0, 1, 5, 6, 7, 8, 14, 15] ?_
      simp [go_sem, -getElem?_pos, -List.map_take, -List.map_drop, List.getElem?_cons_zero, List.getElem?_cons_succ, Go.IntWalk.iteOmega, Go.IntWalk.toNatUp, hlt, gi, wi, md, ud, i1, i2, Act.val, Act.cells, hk, List.length_map]
      refine ICalls.then (hA _ hb rfl) ?_
      try simp [go_sem, -getElem?_pos, -List.map_take, -List.map_drop, List.getElem?_cons_zero, List.getElem?_cons_succ, Go.IntWalk.iteOmega, Go.IntWalk.toNatUp, hlt, gi, wi, md, ud, i1, i2, Act.val, Act.cells, hk, List.length_map]
      refine IWp.seq ?_
      refine IWp.run [0, 1, 5, 6, 7, 14, 15, 16, 17] ?_
      simp [go_sem, -getElem?_pos, -List.map_take, -List.map_drop, List.getElem?_cons_zero, List.getElem?_cons_succ, Go.IntWalk.iteOmega, Go.IntWalk.toNatUp, hlt, gi, wi, md, ud, i1, i2, Act.val, Act.cells, hk, List.length_map]
      refine ICalls.then (refAtC _ M id0 (by omega)) ?_
      try simp [go_sem, -getElem?_pos, -List.map_take, -List.map_drop, List.getElem?_cons_zero, List.getElem?_cons_succ, Go.IntWalk.iteOmega, Go.IntWalk.toNatUp, hlt, gi, wi, md, ud, i1, i2, Act.val, Act.cells, hk, List.length_map]
      refine IWp.seq ?_
      refine IWp.run [0, 1, 5, 6, 7, 118] ?_
      simp [go_sem, -getElem?_pos, -List.map_take, -List.map_drop, List.getElem?_cons_zero, List.getElem?_cons_succ, Go.IntWalk.iteOmega, Go.IntWalk.toNatUp, hlt, gi, wi, md, ud, i1, i2, Act.val, Act.cells, hk, List.length_map]
      refine ICalls.then (hLn _ hb rfl) ?_
      try simp [go_sem, -getElem?_pos, -List.map_take, -List.map_drop, List.getElem?_cons_zero, List.getElem?_cons_succ, Go.IntWalk.iteOmega, Go.IntWalk.toNatUp, hlt, gi, wi, md, ud, i1, i2, Act.val, Act.cells, hk, List.length_map]
      refine IWp.cond ?_
      simp [go_sem, -getElem?_pos, -List.map_take, -List.map_drop, List.getElem?_cons_zero, List.getElem?_cons_succ, Go.IntWalk.iteOmega, Go.IntWalk.toNatUp, hlt, gi, wi, md, ud, i1, i2, Act.val, Act.cells, hk, List.length_map]
      refine IWp.trim [0, 1, 5, 6, 7] (IWp.skip ?_)
      simp [go_sem, -getElem?_pos, -List.map_take, -List.map_drop, List.getElem?_cons_zero, List.getElem?_cons_succ, Go.IntWalk.iteOmega, Go.IntWalk.toNatUp, hlt, gi, wi, md, ud, i1, i2, Act.val, Act.cells, hk, List.length_map]
      refine IWp.run [0, 1, 5, 6, 7] ?_
      simp [go_sem, -getElem?_pos, -List.map_take, -List.map_drop, List.getElem?_cons_zero, List.getElem?_cons_succ, Go.IntWalk.iteOmega, Go.IntWalk.toNatUp, hlt, gi, wi, md, ud, i1, i2, Act.val, Act.cells, hk, List.length_map]
      exact ⟨l.length - (i + 1), by omega, i + 1, rfl, by omega, n + 1, by omega, _, M, by omega, hb, rfl, hl2, rfl, by omega⟩
  by_cases hk : d % 4 = 1
  · cases near with
    | true =>
      rw [if_pos rfl] at hid ht1
      rw [hid] at wx r1
      rw [ht1] at wv r2
      clear hid ht1
      have hl2 := hlike.put (id0.tmod 6) (at0.tmod 20) wx
      have hml := putLen m (id0.tmod 6) (at0.tmod 20)
      have hS := fun K => refSetC K m (id0.tmod 6) (at0.tmod 20) (by omega)
      obtain ⟨M, hM⟩ : ∃ M, M = without m (id0.tmod 6) ++ [((id0.tmod 6), (at0.tmod 20))] := ⟨_, rfl⟩
      rw [← hM] at hl2 hml hS
      clear hM
      have hA := fun K2 hb2 ht2 => atW K2 wb t (n + 1) (D.put (.int .i64 (id0.tmod 6)) (eI (at0.tmod 20))) (id0.tmod 6) hb2 ht2 wx
      rw [(likeAt hl2 (id0.tmod 6)).1, (likeAt hl2 (id0.tmod 6)).2] at hA
      have hLn := fun K2 hb2 ht2 => lenW K2 wb t (n + 1) (D.put (.int .i64 (id0.tmod 6)) (eI (at0.tmod 20))) hb2 ht2
      rw [hl2.size] at hLn
      refine IWp.seq ?_
      refine IWp.seq ?_
      refine IWp.run [0, 1, 5, 6, 7, 30] ?_
      simp [go_sem, -getElem?_pos, -List.map_take, -List.map_drop, List.getElem?_cons_zero, List.getElem?_cons_succ, Go.IntWalk.iteOmega, Go.IntWalk.toNatUp, hlt, gi, wi, md, ud, i1, i2, Act.val, Act.cells, hk, List.length_map]
      refine IWp.cond ?_
      simp [go_sem, -getElem?_pos, -List.map_take, -List.map_drop, List.getElem?_cons_zero, List.getElem?_cons_succ, Go.IntWalk.iteOmega, Go.IntWalk.toNatUp, hlt, gi, wi, md, ud, i1, i2, Act.val, Act.cells, hk, List.length_map]
      refine IWp.trim [0, 1, 5, 6, 7] (IWp.skip ?_)
      simp [go_sem, -getElem?_pos, -List.map_take, -List.map_drop, List.getElem?_cons_zero, List.getElem?_cons_succ, Go.IntWalk.iteOmega, Go.IntWalk.toNatUp, hlt, gi, wi, md, ud, i1, i2, Act.val, Act.cells, hk, List.length_map]
      refine IWp.seq ?_
      refine IWp.block ?_
      refine IWp.seq ?_
      refine IWp.read [0, 1, 5, 6, 7, 8, 9] follows (by kernel_rfl) ?_
      simp [go_sem, -getElem?_pos, -List.map_take, -List.map_drop, List.getElem?_cons_zero, List.getElem?_cons_succ, Go.IntWalk.iteOmega, Go.IntWalk.toNatUp, hlt, gi, wi, md, ud, i1, i2, Act.val, Act.cells, hk, List.length_map]
      refine IWp.seq ?_
      refine IWp.seq ?_
      refine IWp.run [0, 1, 5, 6, 7, 8, 9, 43] ?_
      simp [go_sem, -getElem?_pos, -List.map_take, -List.map_drop, List.getElem?_cons_zero, List.getElem?_cons_succ, Go.IntWalk.iteOmega, Go.IntWalk.toNatUp, hlt, gi, wi, md, ud, i1, i2, Act.val, Act.cells, hk, List.length_map]
      refine IWp.cond ?_
      simp [go_sem, -getElem?_pos, -List.map_take, -List.map_drop, List.getElem?_cons_zero, List.getElem?_cons_succ, Go.IntWalk.iteOmega, Go.IntWalk.toNatUp, hlt, gi, wi, md, ud, i1, i2, Act.val, Act.cells, hk, List.length_map]
      refine IWp.run [0, 1, 5, 6, 7, 8, 9] ?_
      simp [go_sem, -getElem?_pos, -List.map_take, -List.map_drop, List.getElem?_cons_zero, List.getElem?_cons_succ, Go.IntWalk.iteOmega, Go.IntWalk.toNatUp, hlt, gi, wi, md, ud, i1, i2, Act.val, Act.cells, hk, List.length_map]
      refine IWp.seq ?_
      refine IWp.seq ?_
      refine IWp.run [0, 1, 5, 6, 7, 8, 9, 53] ?_
      simp [go_sem, -getElem?_pos, -List.map_take, -List.map_drop, List.getElem?_cons_zero, List.getElem?_cons_succ, Go.IntWalk.iteOmega, Go.IntWalk.toNatUp, hlt, gi, wi, md, ud, i1, i2, Act.val, Act.cells, hk, List.length_map]
      refine IWp.block ?_
      refine IWp.seq ?_
      refine IWp.seq ?_
      refine IWp.run [0, 1, 5, 6, 7, 8, 9, 53, 67] ?_
      simp [go_sem, -getElem?_pos, -List.map_take, -List.map_drop, List.getElem?_cons_zero, List.getElem?_cons_succ, Go.IntWalk.iteOmega, Go.IntWalk.toNatUp, hlt, gi, wi, md, ud, i1, i2, Act.val, Act.cells, hk, List.length_map]
      refine IWp.cond ?_
      simp [go_sem, -getElem?_pos, -List.map_take, -List.map_drop, List.getElem?_cons_zero, List.getElem?_cons_succ, Go.IntWalk.iteOmega, Go.IntWalk.toNatUp, hlt, gi, wi, md, ud, i1, i2, Act.val, Act.cells, hk, List.length_map]
      refine IWp.run [0, 1, 5, 6, 7, 8, 9, 53, 67] ?_
      simp [go_sem, -getElem?_pos, -List.map_take, -List.map_drop, List.getElem?_cons_zero, List.getElem?_cons_succ, Go.IntWalk.iteOmega, Go.IntWalk.toNatUp, hlt, gi, wi, md, ud, i1, i2, Act.val, Act.cells, hk, List.length_map]
      refine IWp.cond ?_
      simp [go_sem, -getElem?_pos, -List.map_take, -List.map_drop, List.getElem?_cons_zero, List.getElem?_cons_succ, Go.IntWalk.iteOmega, Go.IntWalk.toNatUp, hlt, gi, wi, md, ud, i1, i2, Act.val, Act.cells, hk, List.length_map]
      refine IWp.seq ?_
      refine IWp.run [0, 1, 5, 6, 7, 8, 9] ?_
      simp [go_sem, -getElem?_pos, -List.map_take, -List.map_drop, List.getElem?_cons_zero, List.getElem?_cons_succ, Go.IntWalk.iteOmega, Go.IntWalk.toNatUp, hlt, gi, wi, md, ud, i1, i2, Act.val, Act.cells, hk, List.length_map]
      refine ICalls.mono (setW K wb t n D (id0.tmod 6) (at0.tmod 20) hb ht (by unfold maxLen; omega) wx wv) ?_
      rintro v K2 ⟨hv, hK2⟩
      subst hv; subst hK2
      try simp [go_sem, -getElem?_pos, -List.map_take, -List.map_drop, List.getElem?_cons_zero, List.getElem?_cons_succ, Go.IntWalk.iteOmega, Go.IntWalk.toNatUp, hlt, gi, wi, md, ud, i1, i2, Act.val, Act.cells, hk, List.length_map]
      refine IWp.run [0, 1, 5, 6, 7, 8] ?_
      simp [go_sem, -getElem?_pos, -List.map_take, -List.map_drop, List.getElem?_cons_zero, List.getElem?_cons_succ, Go.IntWalk.iteOmega, Go.IntWalk.toNatUp, hlt, gi, wi, md, ud, i1, i2, Act.val, Act.cells, hk, List.length_map]
      refine ICalls.then (hS _) ?_
      try simp [go_sem, -getElem?_pos, -List.map_take, -List.map_drop, List.getElem?_cons_zero, List.getElem?_cons_succ, Go.IntWalk.iteOmega, Go.IntWalk.toNatUp, hlt, gi, wi, md, ud, i1, i2, Act.val, Act.cells, hk, List.length_map]
      refine IWp.seq ?_
      refine IWp.run [0, 1, 5, 6, 7, 8, 14, 15] ?_
      simp [go_sem, -getElem?_pos, -List.map_take, -List.map_drop, List.getElem?_cons_zero, List.getElem?_cons_succ, Go.IntWalk.iteOmega, Go.IntWalk.toNatUp, hlt, gi, wi, md, ud, i1, i2, Act.val, Act.cells, hk, List.length_map]
      refine ICalls.then (hA _ hb rfl) ?_
      try simp [go_sem, -getElem?_pos, -List.map_take, -List.map_drop, List.getElem?_cons_zero, List.getElem?_cons_succ, Go.IntWalk.iteOmega, Go.IntWalk.toNatUp, hlt, gi, wi, md, ud, i1, i2, Act.val, Act.cells, hk, List.length_map]
      refine IWp.seq ?_
      refine IWp.run [0, 1, 5, 6, 7, 14, 15, 16, 17] ?_
      simp [go_sem, -getElem?_pos, -List.map_take, -List.map_drop, List.getElem?_cons_zero, List.getElem?_cons_succ, Go.IntWalk.iteOmega, Go.IntWalk.toNatUp, hlt, gi, wi, md, ud, i1, i2, Act.val, Act.cells, hk, List.length_map]
      refine ICalls.then (refAtC _ M (id0.tmod 6) (by omega)) ?_
      try simp [go_sem, -getElem?_pos, -List.map_take, -List.map_drop, List.getElem?_cons_zero, List.getElem?_cons_succ, Go.IntWalk.iteOmega, Go.IntWalk.toNatUp, hlt, gi, wi, md, ud, i1, i2, Act.val, Act.cells, hk, List.length_map]
      refine IWp.seq ?_
      refine IWp.run [0, 1, 5, 6, 7, 118] ?_
      simp [go_sem, -getElem?_pos, -List.map_take, -List.map_drop, List.getElem?_cons_zero, List.getElem?_cons_succ, Go.IntWalk.iteOmega, Go.IntWalk.toNatUp, hlt, gi, wi, md, ud, i1, i2, Act.val, Act.cells, hk, List.length_map]
      refine ICalls.then (hLn _ hb rfl) ?_
      try simp [go_sem, -getElem?_pos, -List.map_take, -List.map_drop, List.getElem?_cons_zero, List.getElem?_cons_succ, Go.IntWalk.iteOmega, Go.IntWalk.toNatUp, hlt, gi, wi, md, ud, i1, i2, Act.val, Act.cells, hk, List.length_map]
      refine IWp.cond ?_
      simp [go_sem, -getElem?_pos, -List.map_take, -List.map_drop, List.getElem?_cons_zero, List.getElem?_cons_succ, Go.IntWalk.iteOmega, Go.IntWalk.toNatUp, hlt, gi, wi, md, ud, i1, i2, Act.val, Act.cells, hk, List.length_map]
      refine IWp.trim [0, 1, 5, 6, 7] (IWp.skip ?_)
      simp [go_sem, -getElem?_pos, -List.map_take, -List.map_drop, List.getElem?_cons_zero, List.getElem?_cons_succ, Go.IntWalk.iteOmega, Go.IntWalk.toNatUp, hlt, gi, wi, md, ud, i1, i2, Act.val, Act.cells, hk, List.length_map]
      refine IWp.run [0, 1, 5, 6, 7] ?_
      simp [go_sem, -getElem?_pos, -List.map_take, -List.map_drop, List.getElem?_cons_zero, List.getElem?_cons_succ, Go.IntWalk.iteOmega, Go.IntWalk.toNatUp, hlt, gi, wi, md, ud, i1, i2, Act.val, Act.cells, hk, List.length_map]
      exact ⟨l.length - (i + 1), by omega, i + 1, rfl, by omega, n + 1, by omega, _, M, by omega, hb, rfl, hl2, rfl, by omega⟩
    | false =>
      rw [if_neg (by simp)] at hid ht1
      rw [hid] at wx r1
      rw [ht1] at wv r2
      clear hid ht1
      have hl2 := hlike.put id0 at0 wx
      have hml := putLen m id0 at0
      have hS := fun K => refSetC K m id0 at0 (by omega)
      obtain ⟨M, hM⟩ : ∃ M, M = without m id0 ++ [(id0, at0)] := ⟨_, rfl⟩
      rw [← hM] at hl2 hml hS
      clear hM
      have hA := fun K2 hb2 ht2 => atW K2 wb t (n + 1) (D.put (.int .i64 id0) (eI at0)) id0 hb2 ht2 wx
      rw [(likeAt hl2 id0).1, (likeAt hl2 id0).2] at hA
      have hLn := fun K2 hb2 ht2 => lenW K2 wb t (n + 1) (D.put (.int .i64 id0) (eI at0)) hb2 ht2
      rw [hl2.size] at hLn
      refine IWp.seq ?_
      refine IWp.seq ?_
      refine IWp.run [0, 1, 5, 6, 7, 30] ?_
      simp [go_sem, -getElem?_pos, -List.map_take, -List.map_drop, List.getElem?_cons_zero, List.getElem?_cons_succ, Go.IntWalk.iteOmega, Go.IntWalk.toNatUp, hlt, gi, wi, md, ud, i1, i2, Act.val, Act.cells, hk, List.length_map]
      refine IWp.cond ?_
      simp [go_sem, -getElem?_pos, -List.map_take, -List.map_drop, List.getElem?_cons_zero, List.getElem?_cons_succ, Go.IntWalk.iteOmega, Go.IntWalk.toNatUp, hlt, gi, wi, md, ud, i1, i2, Act.val, Act.cells, hk, List.length_map]
      refine IWp.trim [0, 1, 5, 6, 7] (IWp.skip ?_)
      simp [go_sem, -getElem?_pos, -List.map_take, -List.map_drop, List.getElem?_cons_zero, List.getElem?_cons_succ, Go.IntWalk.iteOmega, Go.IntWalk.toNatUp, hlt, gi, wi, md, ud, i1, i2, Act.val, Act.cells, hk, List.length_map]
      refine IWp.seq ?_
      refine IWp.block ?_
      refine IWp.seq ?_
      refine IWp.read [0, 1, 5, 6, 7, 8, 9] follows (by kernel_rfl) ?_
      simp [go_sem, -getElem?_pos, -List.map_take, -List.map_drop, List.getElem?_cons_zero, List.getElem?_cons_succ, Go.IntWalk.iteOmega, Go.IntWalk.toNatUp, hlt, gi, wi, md, ud, i1, i2, Act.val, Act.cells, hk, List.length_map]
      refine IWp.seq ?_
      refine IWp.seq ?_
      refine IWp.run [0, 1, 5, 6, 7, 8, 9, 43] ?_
      simp [go_sem, -getElem?_pos, -List.map_take, -List.map_drop, List.getElem?_cons_zero, List.getElem?_cons_succ, Go.IntWalk.iteOmega, Go.IntWalk.toNatUp, hlt, gi, wi, md, ud, i1, i2, Act.val, Act.cells, hk, List.length_map]
      refine IWp.cond ?_
      simp [go_sem, -getElem?_pos, -List.map_take, -List.map_drop, List.getElem?_cons_zero, List.getElem?_cons_succ, Go.IntWalk.iteOmega, Go.IntWalk.toNatUp, hlt, gi, wi, md, ud, i1, i2, Act.val, Act.cells, hk, List.length_map]
      refine IWp.trim [0, 1, 5, 6, 7, 8, 9] (IWp.skip ?_)
      simp [go_sem, -getElem?_pos, -List.map_take, -List.map_drop, List.getElem?_cons_zero, List.getElem?_cons_succ, Go.IntWalk.iteOmega, Go.IntWalk.toNatUp, hlt, gi, wi, md, ud, i1, i2, Act.val, Act.cells, hk, List.length_map]
      refine IWp.seq ?_
      refine IWp.seq ?_
      refine IWp.run [0, 1, 5, 6, 7, 8, 9, 53] ?_
      simp [go_sem, -getElem?_pos, -List.map_take, -List.map_drop, List.getElem?_cons_zero, List.getElem?_cons_succ, Go.IntWalk.iteOmega, Go.IntWalk.toNatUp, hlt, gi, wi, md, ud, i1, i2, Act.val, Act.cells, hk, List.length_map]
      refine IWp.block ?_
      refine IWp.seq ?_
      refine IWp.seq ?_
      refine IWp.run [0, 1, 5, 6, 7, 8, 9, 53, 67] ?_
      simp [go_sem, -getElem?_pos, -List.map_take, -List.map_drop, List.getElem?_cons_zero, List.getElem?_cons_succ, Go.IntWalk.iteOmega, Go.IntWalk.toNatUp, hlt, gi, wi, md, ud, i1, i2, Act.val, Act.cells, hk, List.length_map]
      refine IWp.cond ?_
      simp [go_sem, -getElem?_pos, -List.map_take, -List.map_drop, List.getElem?_cons_zero, List.getElem?_cons_succ, Go.IntWalk.iteOmega, Go.IntWalk.toNatUp, hlt, gi, wi, md, ud, i1, i2, Act.val, Act.cells, hk, List.length_map]
      refine IWp.run [0, 1, 5, 6, 7, 8, 9, 53, 67] ?_
      simp [go_sem, -getElem?_pos, -List.map_take, -List.map_drop, List.getElem?_cons_zero, List.getElem?_cons_succ, Go.IntWalk.iteOmega, Go.IntWalk.toNatUp, hlt, gi, wi, md, ud, i1, i2, Act.val, Act.cells, hk, List.length_map]
      refine IWp.cond ?_
      simp [go_sem, -getElem?_pos, -List.map_take, -List.map_drop, List.getElem?_cons_zero, List.getElem?_cons_succ, Go.IntWalk.iteOmega, Go.IntWalk.toNatUp, hlt, gi, wi, md, ud, i1, i2, Act.val, Act.cells, hk, List.length_map]
      refine IWp.seq ?_
      refine IWp.run [0, 1, 5, 6, 7, 8, 9] ?_
      simp [go_sem, -getElem?_pos, -List.map_take, -List.map_drop, List.getElem?_cons_zero, List.getElem?_cons_succ, Go.IntWalk.iteOmega, Go.IntWalk.toNatUp, hlt, gi, wi, md, ud, i1, i2, Act.val, Act.cells, hk, List.length_map]
      refine ICalls.mono (setW K wb t n D id0 at0 hb ht (by unfold maxLen; omega) wx wv) ?_
      rintro v K2 ⟨hv, hK2⟩
      subst hv; subst hK2
      try simp [go_sem, -getElem?_pos, -List.map_take, -List.map_drop, List.getElem?_cons_zero, List.getElem?_cons_succ, Go.IntWalk.iteOmega, Go.IntWalk.toNatUp, hlt, gi, wi, md, ud, i1, i2, Act.val, Act.cells, hk, List.length_map]
      refine IWp.run [0, 1, 5, 6, 7, 8] ?_
      simp [go_sem, -getElem?_pos, -List.map_take, -List.map_drop, List.getElem?_cons_zero, List.getElem?_cons_succ, Go.IntWalk.iteOmega, Go.IntWalk.toNatUp, hlt, gi, wi, md, ud, i1, i2, Act.val, Act.cells, hk, List.length_map]
      refine ICalls.then (hS _) ?_
      try simp [go_sem, -getElem?_pos, -List.map_take, -List.map_drop, List.getElem?_cons_zero, List.getElem?_cons_succ, Go.IntWalk.iteOmega, Go.IntWalk.toNatUp, hlt, gi, wi, md, ud, i1, i2, Act.val, Act.cells, hk, List.length_map]
      refine IWp.seq ?_
      refine IWp.run [0, 1, 5, 6, 7, 8, 14, 15] ?_
      simp [go_sem, -getElem?_pos, -List.map_take, -List.map_drop, List.getElem?_cons_zero, List.getElem?_cons_succ, Go.IntWalk.iteOmega, Go.IntWalk.toNatUp, hlt, gi, wi, md, ud, i1, i2, Act.val, Act.cells, hk, List.length_map]
      refine ICalls.then (hA _ hb rfl) ?_
      try simp [go_sem, -getElem?_pos, -List.map_take, -List.map_drop, List.getElem?_cons_zero, List.getElem?_cons_succ, Go.IntWalk.iteOmega, Go.IntWalk.toNatUp, hlt, gi, wi, md, ud, i1, i2, Act.val, Act.cells, hk, List.length_map]
      refine IWp.seq ?_
      refine IWp.run [0, 1, 5, 6, 7, 14, 15, 16, 17] ?_
      simp [go_sem, -getElem?_pos, -List.map_take, -List.map_drop, List.getElem?_cons_zero, List.getElem?_cons_succ, Go.IntWalk.iteOmega, Go.IntWalk.toNatUp, hlt, gi, wi, md, ud, i1, i2, Act.val, Act.cells, hk, List.length_map]
      refine ICalls.then (refAtC _ M id0 (by omega)) ?_
      try simp [go_sem, -getElem?_pos, -List.map_take, -List.map_drop, List.getElem?_cons_zero, List.getElem?_cons_succ, Go.IntWalk.iteOmega, Go.IntWalk.toNatUp, hlt, gi, wi, md, ud, i1, i2, Act.val, Act.cells, hk, List.length_map]
      refine IWp.seq ?_
      refine IWp.run [0, 1, 5, 6, 7, 118] ?_
      simp [go_sem, -getElem?_pos, -List.map_take, -List.map_drop, List.getElem?_cons_zero, List.getElem?_cons_succ, Go.IntWalk.iteOmega, Go.IntWalk.toNatUp, hlt, gi, wi, md, ud, i1, i2, Act.val, Act.cells, hk, List.length_map]
      refine ICalls.then (hLn _ hb rfl) ?_
      try simp [go_sem, -getElem?_pos, -List.map_take, -List.map_drop, List.getElem?_cons_zero, List.getElem?_cons_succ, Go.IntWalk.iteOmega, Go.IntWalk.toNatUp, hlt, gi, wi, md, ud, i1, i2, Act.val, Act.cells, hk, List.length_map]
      refine IWp.cond ?_
      simp [go_sem, -getElem?_pos, -List.map_take, -List.map_drop, List.getElem?_cons_zero, List.getElem?_cons_succ, Go.IntWalk.iteOmega, Go.IntWalk.toNatUp, hlt, gi, wi, md, ud, i1, i2, Act.val, Act.cells, hk, List.length_map]
      refine IWp.trim [0, 1, 5, 6, 7] (IWp.skip ?_)
      simp [go_sem, -getElem?_pos, -List.map_take, -List.map_drop, List.getElem?_cons_zero, List.getElem?_cons_succ, Go.IntWalk.iteOmega, Go.IntWalk.toNatUp, hlt, gi, wi, md, ud, i1, i2, Act.val, Act.cells, hk, List.length_map]
      refine IWp.run [0, 1, 5, 6, 7] ?_
      simp [go_sem, -getElem?_pos, -List.map_take, -List.map_drop, List.getElem?_cons_zero, List.getElem?_cons_succ, Go.IntWalk.iteOmega, Go.IntWalk.toNatUp, hlt, gi, wi, md, ud, i1, i2, Act.val, Act.cells, hk, List.length_map]
      exact ⟨l.length - (i + 1), by omega, i + 1, rfl, by omega, n + 1, by omega, _, M, by omega, hb, rfl, hl2, rfl, by omega⟩
  by_cases hk : d % 4 = 2
  · cases near with
    | true =>
      rw [if_pos rfl] at hid ht1
      rw [hid] at wx r1
      rw [ht1] at wv r2
      clear hid ht1
      have hl2 := hlike.del (id0.tmod 6)
      have hml := without_le m (id0.tmod 6)
      have hst := stopW K wb t n D (id0.tmod 6) hb ht wx
      rw [(likeAt hlike (id0.tmod 6)).2] at hst
      have hA := fun K2 hb2 ht2 => atW K2 wb t n (D.del (.int .i64 (id0.tmod 6))) (id0.tmod 6) hb2 ht2 wx
      rw [(likeAt hl2 (id0.tmod 6)).1, (likeAt hl2 (id0.tmod 6)).2] at hA
      have hLn := fun K2 hb2 ht2 => lenW K2 wb t n (D.del (.int .i64 (id0.tmod 6))) hb2 ht2
      rw [hl2.size] at hLn
      refine IWp.seq ?_
      refine IWp.seq ?_
      refine IWp.run [0, 1, 5, 6, 7, 30] ?_
      simp [go_sem, -getElem?_pos, -List.map_take, -List.map_drop, List.getElem?_cons_zero, List.getElem?_cons_succ, Go.IntWalk.iteOmega, Go.IntWalk.toNatUp, hlt, gi, wi, md, ud, i1, i2, Act.val, Act.cells, hk, List.length_map]
      refine IWp.cond ?_
      simp [go_sem, -getElem?_pos, -List.map_take, -List.map_drop, List.getElem?_cons_zero, List.getElem?_cons_succ, Go.IntWalk.iteOmega, Go.IntWalk.toNatUp, hlt, gi, wi, md, ud, i1, i2, Act.val, Act.cells, hk, List.length_map]
      refine IWp.trim [0, 1, 5, 6, 7] (IWp.skip ?_)
      simp [go_sem, -getElem?_pos, -List.map_take, -List.map_drop, List.getElem?_cons_zero, List.getElem?_cons_succ, Go.IntWalk.iteOmega, Go.IntWalk.toNatUp, hlt, gi, wi, md, ud, i1, i2, Act.val, Act.cells, hk, List.length_map]
      refine IWp.seq ?_
      refine IWp.block ?_
      refine IWp.seq ?_
      refine IWp.read [0, 1, 5, 6, 7, 8, 9] follows (by kernel_rfl) ?_
      simp [go_sem, -getElem?_pos, -List.map_take, -List.map_drop, List.getElem?_cons_zero, List.getElem?_cons_succ, Go.IntWalk.iteOmega, Go.IntWalk.toNatUp, hlt, gi, wi, md, ud, i1, i2, Act.val, Act.cells, hk, List.length_map]
      refine IWp.seq ?_
      refine IWp.seq ?_
      refine IWp.run [0, 1, 5, 6, 7, 8, 9, 43] ?_
      simp [go_sem, -getElem?_pos, -List.map_take, -List.map_drop, List.getElem?_cons_zero, List.getElem?_cons_succ, Go.IntWalk.iteOmega, Go.IntWalk.toNatUp, hlt, gi, wi, md, ud, i1, i2, Act.val, Act.cells, hk, List.length_map]
      refine IWp.cond ?_
      simp [go_sem, -getElem?_pos, -List.map_take, -List.map_drop, List.getElem?_cons_zero, List.getElem?_cons_succ, Go.IntWalk.iteOmega, Go.IntWalk.toNatUp, hlt, gi, wi, md, ud, i1, i2, Act.val, Act.cells, hk, List.length_map]
      refine IWp.run [0, 1, 5, 6, 7, 8, 9] ?_
      simp [go_sem, -getElem?_pos, -List.map_take, -List.map_drop, List.getElem?_cons_zero, List.getElem?_cons_succ, Go.IntWalk.iteOmega, Go.IntWalk.toNatUp, hlt, gi, wi, md, ud, i1, i2, Act.val, Act.cells, hk, List.length_map]
      refine IWp.seq ?_
      refine IWp.seq ?_
      refine IWp.run [0, 1, 5, 6, 7, 8, 9, 53] ?_
      simp [go_sem, -getElem?_pos, -List.map_take, -List.map_drop, List.getElem?_cons_zero, List.getElem?_cons_succ, Go.IntWalk.iteOmega, Go.IntWalk.toNatUp, hlt, gi, wi, md, ud, i1, i2, Act.val, Act.cells, hk, List.length_map]
      refine IWp.block ?_
      refine IWp.seq ?_
      refine IWp.seq ?_
      refine IWp.run [0, 1, 5, 6, 7, 8, 9, 53, 67] ?_
      simp [go_sem, -getElem?_pos, -List.map_take, -List.map_drop, List.getElem?_cons_zero, List.getElem?_cons_succ, Go.IntWalk.iteOmega, Go.IntWalk.toNatUp, hlt, gi, wi, md, ud, i1, i2, Act.val, Act.cells, hk, List.length_map]
      refine IWp.cond ?_
      simp [go_sem, -getElem?_pos, -List.map_take, -List.map_drop, List.getElem?_cons_zero, List.getElem?_cons_succ, Go.IntWalk.iteOmega, Go.IntWalk.toNatUp, hlt, gi, wi, md, ud, i1, i2, Act.val, Act.cells, hk, List.length_map]
      refine IWp.run [0, 1, 5, 6, 7, 8, 9, 53, 67] ?_
      simp [go_sem, -getElem?_pos, -List.map_take, -List.map_drop, List.getElem?_cons_zero, List.getElem?_cons_succ, Go.IntWalk.iteOmega, Go.IntWalk.toNatUp, hlt, gi, wi, md, ud, i1, i2, Act.val, Act.cells, hk, List.length_map]
      refine IWp.cond ?_
      simp [go_sem, -getElem?_pos, -List.map_take, -List.map_drop, List.getElem?_cons_zero, List.getElem?_cons_succ, Go.IntWalk.iteOmega, Go.IntWalk.toNatUp, hlt, gi, wi, md, ud, i1, i2, Act.val, Act.cells, hk, List.length_map]
      refine IWp.seq ?_
      refine IWp.run [0, 1, 5, 6, 7, 8, 9, 78] ?_
      simp [go_sem, -getElem?_pos, -List.map_take, -List.map_drop, List.getElem?_cons_zero, List.getElem?_cons_succ, Go.IntWalk.iteOmega, Go.IntWalk.toNatUp, hlt, gi, wi, md, ud, i1, i2, Act.val, Act.cells, hk, List.length_map]
      refine IWp.cond ?_
      simp [go_sem, -getElem?_pos, -List.map_take, -List.map_drop, List.getElem?_cons_zero, List.getElem?_cons_succ, Go.IntWalk.iteOmega, Go.IntWalk.toNatUp, hlt, gi, wi, md, ud, i1, i2, Act.val, Act.cells, hk, List.length_map]
      refine IWp.seq ?_
      refine IWp.run [0, 1, 5, 7, 8, 10, 11] ?_
      simp [go_sem, -getElem?_pos, -List.map_take, -List.map_drop, List.getElem?_cons_zero, List.getElem?_cons_succ, Go.IntWalk.iteOmega, Go.IntWalk.toNatUp, hlt, gi, wi, md, ud, i1, i2, Act.val, Act.cells, hk, List.length_map]
      refine ICalls.then (refStopC _ m (id0.tmod 6) (by omega)) ?_
      try simp [go_sem, -getElem?_pos, -List.map_take, -List.map_drop, List.getElem?_cons_zero, List.getElem?_cons_succ, Go.IntWalk.iteOmega, Go.IntWalk.toNatUp, hlt, gi, wi, md, ud, i1, i2, Act.val, Act.cells, hk, List.length_map]
      refine IWp.seq ?_
      refine IWp.run [0, 1, 5, 6, 7, 8, 11] ?_
      simp [go_sem, -getElem?_pos, -List.map_take, -List.map_drop, List.getElem?_cons_zero, List.getElem?_cons_succ, Go.IntWalk.iteOmega, Go.IntWalk.toNatUp, hlt, gi, wi, md, ud, i1, i2, Act.val, Act.cells, hk, List.length_map]
      refine IWp.seq ?_
      refine IWp.run [0, 1, 5, 6, 7, 8, 91] ?_
      simp [go_sem, -getElem?_pos, -List.map_take, -List.map_drop, List.getElem?_cons_zero, List.getElem?_cons_succ, Go.IntWalk.iteOmega, Go.IntWalk.toNatUp, hlt, gi, wi, md, ud, i1, i2, Act.val, Act.cells, hk, List.length_map]
      refine ICalls.mono (hst) ?_
      rintro v K2 ⟨hv, hK2⟩
      subst hv; subst hK2
      try simp [go_sem, -getElem?_pos, -List.map_take, -List.map_drop, List.getElem?_cons_zero, List.getElem?_cons_succ, Go.IntWalk.iteOmega, Go.IntWalk.toNatUp, hlt, gi, wi, md, ud, i1, i2, Act.val, Act.cells, hk, List.length_map]
      refine IWp.cond ?_
      simp [go_sem, -getElem?_pos, -List.map_take, -List.map_drop, List.getElem?_cons_zero, List.getElem?_cons_succ, Go.IntWalk.iteOmega, Go.IntWalk.toNatUp, hlt, gi, wi, md, ud, i1, i2, Act.val, Act.cells, hk, List.length_map]
      refine IWp.trim [0, 1, 5, 6, 7, 8] (IWp.skip ?_)
      simp [go_sem, -getElem?_pos, -List.map_take, -List.map_drop, List.getElem?_cons_zero, List.getElem?_cons_succ, Go.IntWalk.iteOmega, Go.IntWalk.toNatUp, hlt, gi, wi, md, ud, i1, i2, Act.val, Act.cells, hk, List.length_map]
      refine IWp.seq ?_
      refine IWp.run [0, 1, 5, 6, 7, 8, 14, 15] ?_
      simp [go_sem, -getElem?_pos, -List.map_take, -List.map_drop, List.getElem?_cons_zero, List.getElem?_cons_succ, Go.IntWalk.iteOmega, Go.IntWalk.toNatUp, hlt, gi, wi, md, ud, i1, i2, Act.val, Act.cells, hk, List.length_map]
      refine ICalls.then (hA _ hb rfl) ?_
      try simp [go_sem, -getElem?_pos, -List.map_take, -List.map_drop, List.getElem?_cons_zero, List.getElem?_cons_succ, Go.IntWalk.iteOmega, Go.IntWalk.toNatUp, hlt, gi, wi, md, ud, i1, i2, Act.val, Act.cells, hk, List.length_map]
      refine IWp.seq ?_
      refine IWp.run [0, 1, 5, 6, 7, 14, 15, 16, 17] ?_
      simp [go_sem, -getElem?_pos, -List.map_take, -List.map_drop, List.getElem?_cons_zero, List.getElem?_cons_succ, Go.IntWalk.iteOmega, Go.IntWalk.toNatUp, hlt, gi, wi, md, ud, i1, i2, Act.val, Act.cells, hk, List.length_map]
      refine ICalls.then (refAtC _ (without m (id0.tmod 6)) (id0.tmod 6) (by omega)) ?_
      try simp [go_sem, -getElem?_pos, -List.map_take, -List.map_drop, List.getElem?_cons_zero, List.getElem?_cons_succ, Go.IntWalk.iteOmega, Go.IntWalk.toNatUp, hlt, gi, wi, md, ud, i1, i2, Act.val, Act.cells, hk, List.length_map]
      refine IWp.seq ?_
      refine IWp.run [0, 1, 5, 6, 7, 118] ?_
      simp [go_sem, -getElem?_pos, -List.map_take, -List.map_drop, List.getElem?_cons_zero, List.getElem?_cons_succ, Go.IntWalk.iteOmega, Go.IntWalk.toNatUp, hlt, gi, wi, md, ud, i1, i2, Act.val, Act.cells, hk, List.length_map]
      refine ICalls.then (hLn _ hb rfl) ?_
      try simp [go_sem, -getElem?_pos, -List.map_take, -List.map_drop, List.getElem?_cons_zero, List.getElem?_cons_succ, Go.IntWalk.iteOmega, Go.IntWalk.toNatUp, hlt, gi, wi, md, ud, i1, i2, Act.val, Act.cells, hk, List.length_map]
      refine IWp.cond ?_
      simp [go_sem, -getElem?_pos, -List.map_take, -List.map_drop, List.getElem?_cons_zero, List.getElem?_cons_succ, Go.IntWalk.iteOmega, Go.IntWalk.toNatUp, hlt, gi, wi, md, ud, i1, i2, Act.val, Act.cells, hk, List.length_map]
      refine IWp.trim [0, 1, 5, 6, 7] (IWp.skip ?_)
      simp [go_sem, -getElem?_pos, -List.map_take, -List.map_drop, List.getElem?_cons_zero, List.getElem?_cons_succ, Go.IntWalk.iteOmega, Go.IntWalk.toNatUp, hlt, gi, wi, md, ud, i1, i2, Act.val, Act.cells, hk, List.length_map]
      refine IWp.run [0, 1, 5, 6, 7] ?_
      simp [go_sem, -getElem?_pos, -List.map_take, -List.map_drop, List.getElem?_cons_zero, List.getElem?_cons_succ, Go.IntWalk.iteOmega, Go.IntWalk.toNatUp, hlt, gi, wi, md, ud, i1, i2, Act.val, Act.cells, hk, List.length_map]
      exact ⟨l.length - (i + 1), by omega, i + 1, rfl, by omega, n, by omega, _, (without m (id0.tmod 6)), by omega, hb, rfl, hl2, rfl, by omega⟩
    | false =>
      rw [if_neg (by simp)] at hid ht1
      rw [hid] at wx r1
      rw [ht1] at wv r2
      clear hid ht1
      have hl2 := hlike.del id0
      have hml := without_le m id0
      have hst := stopW K wb t n D id0 hb ht wx
      rw [(likeAt hlike id0).2] at hst
      have hA := fun K2 hb2 ht2 => atW K2 wb t n (D.del (.int .i64 id0)) id0 hb2 ht2 wx
      rw [(likeAt hl2 id0).1, (likeAt hl2 id0).2] at hA
      have hLn := fun K2 hb2 ht2 => lenW K2 wb t n (D.del (.int .i64 id0)) hb2 ht2
      rw [hl2.size] at hLn
      refine IWp.seq ?_
      refine IWp.seq ?_
      refine IWp.run [0, 1, 5, 6, 7, 30] ?_
      simp [go_sem, -getElem?_pos, -List.map_take, -List.map_drop, List.getElem?_cons_zero, List.getElem?_cons_succ, Go.IntWalk.iteOmega, Go.IntWalk.toNatUp, hlt, gi, wi, md, ud, i1, i2, Act.val, Act.cells, hk, List.length_map]
      refine IWp.cond ?_
      simp [go_sem, -getElem?_pos, -List.map_take, -List.map_drop, List.getElem?_cons_zero, List.getElem?_cons_succ, Go.IntWalk.iteOmega, Go.IntWalk.toNatUp, hlt, gi, wi, md, ud, i1, i2, Act.val, Act.cells, hk, List.length_map]
      refine IWp.trim [0, 1, 5, 6, 7] (IWp.skip ?_)
      simp [go_sem, -getElem?_pos, -List.map_take, -List.map_drop, List.getElem?_cons_zero, List.getElem?_cons_succ, Go.IntWalk.iteOmega, Go.IntWalk.toNatUp, hlt, gi, wi, md, ud, i1, i2, Act.val, Act.cells, hk, List.length_map]
      refine IWp.seq ?_
      refine IWp.block ?_
      refine IWp.seq ?_
      refine IWp.read [0, 1, 5, 6, 7, 8, 9] follows (by kernel_rfl) ?_
      simp [go_sem, -getElem?_pos, -List.map_take, -List.map_drop, List.getElem?_cons_zero, List.getElem?_cons_succ, Go.IntWalk.iteOmega, Go.IntWalk.toNatUp, hlt, gi, wi, md, ud, i1, i2, Act.val, Act.cells, hk, List.length_map]
      refine IWp.seq ?_
      refine IWp.seq ?_
      refine IWp.run [0, 1, 5, 6, 7, 8, 9, 43] ?_
      simp [go_sem, -getElem?_pos, -List.map_take, -List.map_drop, List.getElem?_cons_zero, List.getElem?_cons_succ, Go.IntWalk.iteOmega, Go.IntWalk.toNatUp, hlt, gi, wi, md, ud, i1, i2, Act.val, Act.cells, hk, List.length_map]
      refine IWp.cond ?_
      simp [go_sem, -getElem?_pos, -List.map_take, -List.map_drop, List.getElem?_cons_zero, List.getElem?_cons_succ, Go.IntWalk.iteOmega, Go.IntWalk.toNatUp, hlt, gi, wi, md, ud, i1, i2, Act.val, Act.cells, hk, List.length_map]
      refine IWp.trim [0, 1, 5, 6, 7, 8, 9] (IWp.skip ?_)
      simp [go_sem, -getElem?_pos, -List.map_take, -List.map_drop, List.getElem?_cons_zero, List.getElem?_cons_succ, Go.IntWalk.iteOmega, Go.IntWalk.toNatUp, hlt, gi, wi, md, ud, i1, i2, Act.val, Act.cells, hk, List.length_map]
      refine IWp.seq ?_
      refine IWp.seq ?_
      refine IWp.run [0, 1, 5, 6, 7, 8, 9, 53] ?_
      simp [go_sem, -getElem?_pos, -List.map_take, -List.map_drop, List.getElem?_cons_zero, List.getElem?_cons_succ, Go.IntWalk.iteOmega, Go.IntWalk.toNatUp, hlt, gi, wi, md, ud, i1, i2, Act.val, Act.cells, hk, List.length_map]
      refine IWp.block ?_
      refine IWp.seq ?_
      refine IWp.seq ?_
      refine IWp.run [0, 1, 5, 6, 7, 8, 9, 53, 67] ?_
      simp [go_sem, -getElem?_pos, -List.map_take, -List.map_drop, List.getElem?_cons_zero, List.getElem?_cons_succ, Go.IntWalk.iteOmega, Go.IntWalk.toNatUp, hlt, gi, wi, md, ud, i1, i2, Act.val, Act.cells, hk, List.length_map]
      refine IWp.cond ?_
      simp [go_sem, -getElem?_pos, -List.map_take, -List.map_drop, List.getElem?_cons_zero, List.getElem?_cons_succ, Go.IntWalk.iteOmega, Go.IntWalk.toNatUp, hlt, gi, wi, md, ud, i1, i2, Act.val, Act.cells, hk, List.length_map]
      refine IWp.run [0, 1, 5, 6, 7, 8, 9, 53, 67] ?_
      simp [go_sem, -getElem?_pos, -List.map_take, -List.map_drop, List.getElem?_cons_zero, List.getElem?_cons_succ, Go.IntWalk.iteOmega, Go.IntWalk.toNatUp, hlt, gi, wi, md, ud, i1, i2, Act.val, Act.cells, hk, List.length_map]
      refine IWp.cond ?_
      simp [go_sem, -getElem?_pos, -List.map_take, -List.map_drop, List.getElem?_cons_zero, List.getElem?_cons_succ, Go.IntWalk.iteOmega, Go.IntWalk.toNatUp, hlt, gi, wi, md, ud, i1, i2, Act.val, Act.cells, hk, List.length_map]
      refine IWp.seq ?_
      refine IWp.run [0, 1, 5, 6, 7, 8, 9, 78] ?_
      simp [go_sem, -getElem?_pos, -List.map_take, -List.map_drop, List.getElem?_cons_zero, List.getElem?_cons_succ, Go.IntWalk.iteOmega, Go.IntWalk.toNatUp, hlt, gi, wi, md, ud, i1, i2, Act.val, Act.cells, hk, List.length_map]
      refine IWp.cond ?_
      simp [go_sem, -getElem?_pos, -List.map_take, -List.map_drop, List.getElem?_cons_zero, List.getElem?_cons_succ, Go.IntWalk.iteOmega, Go.IntWalk.toNatUp, hlt, gi, wi, md, ud, i1, i2, Act.val, Act.cells, hk, List.length_map]
      refine IWp.seq ?_
      refine IWp.run [0, 1, 5, 7, 8, 10, 11] ?_
      simp [go_sem, -getElem?_pos, -List.map_take, -List.map_drop, List.getElem?_cons_zero, List.getElem?_cons_succ, Go.IntWalk.iteOmega, Go.IntWalk.toNatUp, hlt, gi, wi, md, ud, i1, i2, Act.val, Act.cells, hk, List.length_map]
      refine ICalls.then (refStopC _ m id0 (by omega)) ?_
      try simp [go_sem, -getElem?_pos, -List.map_take, -List.map_drop, List.getElem?_cons_zero, List.getElem?_cons_succ, Go.IntWalk.iteOmega, Go.IntWalk.toNatUp, hlt, gi, wi, md, ud, i1, i2, Act.val, Act.cells, hk, List.length_map]
      refine IWp.seq ?_
      refine IWp.run [0, 1, 5, 6, 7, 8, 11] ?_
      simp [go_sem, -getElem?_pos, -List.map_take, -List.map_drop, List.getElem?_cons_zero, List.getElem?_cons_succ, Go.IntWalk.iteOmega, Go.IntWalk.toNatUp, hlt, gi, wi, md, ud, i1, i2, Act.val, Act.cells, hk, List.length_map]
      refine IWp.seq ?_
      refine IWp.run [0, 1, 5, 6, 7, 8, 91] ?_
      simp [go_sem, -getElem?_pos, -List.map_take, -List.map_drop, List.getElem?_cons_zero, List.getElem?_cons_succ, Go.IntWalk.iteOmega, Go.IntWalk.toNatUp, hlt, gi, wi, md, ud, i1, i2, Act.val, Act.cells, hk, List.length_map]
      refine ICalls.mono (hst) ?_
      rintro v K2 ⟨hv, hK2⟩
      subst hv; subst hK2
      try simp [go_sem, -getElem?_pos, -List.map_take, -List.map_drop, List.getElem?_cons_zero, List.getElem?_cons_succ, Go.IntWalk.iteOmega, Go.IntWalk.toNatUp, hlt, gi, wi, md, ud, i1, i2, Act.val, Act.cells, hk, List.length_map]
      refine IWp.cond ?_
      simp [go_sem, -getElem?_pos, -List.map_take, -List.map_drop, List.getElem?_cons_zero, List.getElem?_cons_succ, Go.IntWalk.iteOmega, Go.IntWalk.toNatUp, hlt, gi, wi, md, ud, i1, i2, Act.val, Act.cells, hk, List.length_map]
      refine IWp.trim [0, 1, 5, 6, 7, 8] (IWp.skip ?_)
      simp [go_sem, -getElem?_pos, -List.map_take, -List.map_drop, List.getElem?_cons_zero, List.getElem?_cons_succ, Go.IntWalk.iteOmega, Go.IntWalk.toNatUp, hlt, gi, wi, md, ud, i1, i2, Act.val, Act.cells, hk, List.length_map]
      refine IWp.seq ?_
      refine IWp.run [0, 1, 5, 6, 7, 8, 14, 15] ?_
      simp [go_sem, -getElem?_pos, -List.map_take, -List.map_drop, List.getElem?_cons_zero, List.getElem?_cons_succ, Go.IntWalk.iteOmega, Go.IntWalk.toNatUp, hlt, gi, wi, md, ud, i1, i2, Act.val, Act.cells, hk, List.length_map]
      refine ICalls.then (hA _ hb rfl) ?_
      try simp [go_sem, -getElem?_pos, -List.map_take, -List.map_drop, List.getElem?_cons_zero, List.getElem?_cons_succ, Go.IntWalk.iteOmega, Go.IntWalk.toNatUp, hlt, gi, wi, md, ud, i1, i2, Act.val, Act.cells, hk, List.length_map]
      refine IWp.seq ?_
      refine IWp.run [0, 1, 5, 6, 7, 14, 15, 16, 17] ?_
      simp [go_sem, -getElem?_pos, -List.map_take, -List.map_drop, List.getElem?_cons_zero, List.getElem?_cons_succ, Go.IntWalk.iteOmega, Go.IntWalk.toNatUp, hlt, gi, wi, md, ud, i1, i2, Act.val, Act.cells, hk, List.length_map]
      refine ICalls.then (refAtC _ (without m id0) id0 (by omega)) ?_
      try simp [go_sem, -getElem?_pos, -List.map_take, -List.map_drop, List.getElem?_cons_zero, List.getElem?_cons_succ, Go.IntWalk.iteOmega, Go.IntWalk.toNatUp, hlt, gi, wi, md, ud, i1, i2, Act.val, Act.cells, hk, List.length_map]
      refine IWp.seq ?_
      refine IWp.run [0, 1, 5, 6, 7, 118] ?_
      simp [go_sem, -getElem?_pos, -List.map_take, -List.map_drop, List.getElem?_cons_zero, List.getElem?_cons_succ, Go.IntWalk.iteOmega, Go.IntWalk.toNatUp, hlt, gi, wi, md, ud, i1, i2, Act.val, Act.cells, hk, List.length_map]
      refine ICalls.then (hLn _ hb rfl) ?_
      try simp [go_sem, -getElem?_pos, -List.map_take, -List.map_drop, List.getElem?_cons_zero, List.getElem?_cons_succ, Go.IntWalk.iteOmega, Go.IntWalk.toNatUp, hlt, gi, wi, md, ud, i1, i2, Act.val, Act.cells, hk, List.length_map]
      refine IWp.cond ?_
      simp [go_sem, -getElem?_pos, -List.map_take, -List.map_drop, List.getElem?_cons_zero, List.getElem?_cons_succ, Go.IntWalk.iteOmega, Go.IntWalk.toNatUp, hlt, gi, wi, md, ud, i1, i2, Act.val, Act.cells, hk, List.length_map]
      refine IWp.trim [0, 1, 5, 6, 7] (IWp.skip ?_)
      simp [go_sem, -getElem?_pos, -List.map_take, -List.map_drop, List.getElem?_cons_zero, List.getElem?_cons_succ, Go.IntWalk.iteOmega, Go.IntWalk.toNatUp, hlt, gi, wi, md, ud, i1, i2, Act.val, Act.cells, hk, List.length_map]
      refine IWp.run [0, 1, 5, 6, 7] ?_
      simp [go_sem, -getElem?_pos, -List.map_take, -List.map_drop, List.getElem?_cons_zero, List.getElem?_cons_succ, Go.IntWalk.iteOmega, Go.IntWalk.toNatUp, hlt, gi, wi, md, ud, i1, i2, Act.val, Act.cells, hk, List.length_map]
      exact ⟨l.length - (i + 1), by omega, i + 1, rfl, by omega, n, by omega, _, (without m id0), by omega, hb, rfl, hl2, rfl, by omega⟩
  have hk : d % 4 = 3 := by omega
  cases near with
  | true =>
    rw [if_pos rfl] at hid ht1
    rw [hid] at wx r1
    rw [ht1] at wv r2
    clear hid ht1
    refine IWp.seq ?_
    refine IWp.seq ?_
    refine IWp.run [0, 1, 5, 6, 7, 30] ?_
    simp [go_sem, -getElem?_pos, -List.map_take, -List.map_drop, List.getElem?_cons_zero, List.getElem?_cons_succ, Go.IntWalk.iteOmega, Go.IntWalk.toNatUp, hlt, gi, wi, md, ud, i1, i2, Act.val, Act.cells, hk, List.length_map]
    refine IWp.cond ?_
    simp [go_sem, -getElem?_pos, -List.map_take, -List.map_drop, List.getElem?_cons_zero, List.getElem?_cons_succ, Go.IntWalk.iteOmega, Go.IntWalk.toNatUp, hlt, gi, wi, md, ud, i1, i2, Act.val, Act.cells, hk, List.length_map]
    refine IWp.trim [0, 1, 5, 6, 7] (IWp.skip ?_)
    simp [go_sem, -getElem?_pos, -List.map_take, -List.map_drop, List.getElem?_cons_zero, List.getElem?_cons_succ, Go.IntWalk.iteOmega, Go.IntWalk.toNatUp, hlt, gi, wi, md, ud, i1, i2, Act.val, Act.cells, hk, List.length_map]
    refine IWp.seq ?_
    refine IWp.block ?_
    refine IWp.seq ?_
    refine IWp.read [0, 1, 5, 6, 7, 8, 9] follows (by kernel_rfl) ?_
    simp [go_sem, -getElem?_pos, -List.map_take, -List.map_drop, List.getElem?_cons_zero, List.getElem?_cons_succ, Go.IntWalk.iteOmega, Go.IntWalk.toNatUp, hlt, gi, wi, md, ud, i1, i2, Act.val, Act.cells, hk, List.length_map]
    refine IWp.seq ?_
    refine IWp.seq ?_
    refine IWp.run [0, 1, 5, 6, 7, 8, 9, 43] ?_
    simp [go_sem, -getElem?_pos, -List.map_take, -List.map_drop, List.getElem?_cons_zero, List.getElem?_cons_succ, Go.IntWalk.iteOmega, Go.IntWalk.toNatUp, hlt, gi, wi, md, ud, i1, i2, Act.val, Act.cells, hk, List.length_map]
    refine IWp.cond ?_
    simp [go_sem, -getElem?_pos, -List.map_take, -List.map_drop, List.getElem?_cons_zero, List.getElem?_cons_succ, Go.IntWalk.iteOmega, Go.IntWalk.toNatUp, hlt, gi, wi, md, ud, i1, i2, Act.val, Act.cells, hk, List.length_map]
    refine IWp.run [0, 1, 5, 6, 7, 8, 9] ?_
    simp [go_sem, -getElem?_pos, -List.map_take, -List.map_drop, List.getElem?_cons_zero, List.getElem?_cons_succ, Go.IntWalk.iteOmega, Go.IntWalk.toNatUp, hlt, gi, wi, md, ud, i1, i2, Act.val, Act.cells, hk, List.length_map]
    refine IWp.seq ?_
    refine IWp.seq ?_
    refine IWp.run [0, 1, 5, 6, 7, 8, 9, 53] ?_
    simp [go_sem, -getElem?_pos, -List.map_take, -List.map_drop, List.getElem?_cons_zero, List.getElem?_cons_succ, Go.IntWalk.iteOmega, Go.IntWalk.toNatUp, hlt, gi, wi, md, ud, i1, i2, Act.val, Act.cells, hk, List.length_map]
    refine IWp.block ?_
    refine IWp.seq ?_
    refine IWp.seq ?_
    refine IWp.run [0, 1, 5, 6, 7, 8, 9, 53, 67] ?_
    simp [go_sem, -getElem?_pos, -List.map_take, -List.map_drop, List.getElem?_cons_zero, List.getElem?_cons_succ, Go.IntWalk.iteOmega, Go.IntWalk.toNatUp, hlt, gi, wi, md, ud, i1, i2, Act.val, Act.cells, hk, List.length_map]
    refine IWp.cond ?_
    simp [go_sem, -getElem?_pos, -List.map_take, -List.map_drop, List.getElem?_cons_zero, List.getElem?_cons_succ, Go.IntWalk.iteOmega, Go.IntWalk.toNatUp, hlt, gi, wi, md, ud, i1, i2, Act.val, Act.cells, hk, List.length_map]
    refine IWp.run [0, 1, 5, 6, 7, 8, 9, 53, 67] ?_
    simp [go_sem, -getElem?_pos, -List.map_take, -List.map_drop, List.getElem?_cons_zero, List.getElem?_cons_succ, Go.IntWalk.iteOmega, Go.IntWalk.toNatUp, hlt, gi, wi, md, ud, i1, i2, Act.val, Act.cells, hk, List.length_map]
    refine IWp.cond ?_
    simp [go_sem, -getElem?_pos, -List.map_take, -List.map_drop, List.getElem?_cons_zero, List.getElem?_cons_succ, Go.IntWalk.iteOmega, Go.IntWalk.toNatUp, hlt, gi, wi, md, ud, i1, i2, Act.val, Act.cells, hk, List.length_map]
    refine IWp.seq ?_
    refine IWp.run [0, 1, 5, 6, 7, 8, 9, 78] ?_
    simp [go_sem, -getElem?_pos, -List.map_take, -List.map_drop, List.getElem?_cons_zero, List.getElem?_cons_succ, Go.IntWalk.iteOmega, Go.IntWalk.toNatUp, hlt, gi, wi, md, ud, i1, i2, Act.val, Act.cells, hk, List.length_map]
    refine IWp.cond ?_
    simp [go_sem, -getElem?_pos, -List.map_take, -List.map_drop, List.getElem?_cons_zero, List.getElem?_cons_succ, Go.IntWalk.iteOmega, Go.IntWalk.toNatUp, hlt, gi, wi, md, ud, i1, i2, Act.val, Act.cells, hk, List.length_map]
    refine IWp.seq ?_
    refine IWp.run [0, 1, 5, 7, 8, 9, 12, 13] ?_
    simp [go_sem, -getElem?_pos, -List.map_take, -List.map_drop, List.getElem?_cons_zero, List.getElem?_cons_succ, Go.IntWalk.iteOmega, Go.IntWalk.toNatUp, hlt, gi, wi, md, ud, i1, i2, Act.val, Act.cells, hk, List.length_map]
    refine ICalls.mono (refDueC _ D m (at0.tmod 20) hlike (by omega)) ?_
    rintro v K2 ⟨⟨ks, hv, hdue⟩, hK2⟩
    subst hv; rw [hK2]
    try simp [go_sem, -getElem?_pos, -List.map_take, -List.map_drop, List.getElem?_cons_zero, List.getElem?_cons_succ, Go.IntWalk.iteOmega, Go.IntWalk.toNatUp, hlt, gi, wi, md, ud, i1, i2, Act.val, Act.cells, hk, List.length_map]
    refine IWp.seq ?_
    refine IWp.run [0, 1, 5, 6, 7, 8, 9, 13] ?_
    simp [go_sem, -getElem?_pos, -List.map_take, -List.map_drop, List.getElem?_cons_zero, List.getElem?_cons_succ, Go.IntWalk.iteOmega, Go.IntWalk.toNatUp, hlt, gi, wi, md, ud, i1, i2, Act.val, Act.cells, hk, List.length_map]
    refine IWp.seq ?_
    refine IWp.run [0, 1, 5, 6, 7, 8, 66] ?_
    simp [go_sem, -getElem?_pos, -List.map_take, -List.map_drop, List.getElem?_cons_zero, List.getElem?_cons_succ, Go.IntWalk.iteOmega, Go.IntWalk.toNatUp, hlt, gi, wi, md, ud, i1, i2, Act.val, Act.cells, hk, List.length_map]
    refine ICalls.mono (dueW K wb t n D (at0.tmod 20) hb ht (by omega)) ?_
    rintro v K3 ⟨ks2, hv, hdue2, hkl, hK3⟩
    have ek := hdue2.uniq hdue; subst ek; subst hv; subst hK3; have hl2 := hlike.delL ks2; have hml := withoutL_le m ks2
    try simp [go_sem, -getElem?_pos, -List.map_take, -List.map_drop, List.getElem?_cons_zero, List.getElem?_cons_succ, Go.IntWalk.iteOmega, Go.IntWalk.toNatUp, hlt, gi, wi, md, ud, i1, i2, Act.val, Act.cells, hk, List.length_map]
    refine ICalls.then (sameIC _ 0 0 ks2 (by omega)) ?_
    try simp [go_sem, -getElem?_pos, -List.map_take, -List.map_drop, List.getElem?_cons_zero, List.getElem?_cons_succ, Go.IntWalk.iteOmega, Go.IntWalk.toNatUp, hlt, gi, wi, md, ud, i1, i2, Act.val, Act.cells, hk, List.length_map]
    refine IWp.cond ?_
    simp [go_sem, -getElem?_pos, -List.map_take, -List.map_drop, List.getElem?_cons_zero, List.getElem?_cons_succ, Go.IntWalk.iteOmega, Go.IntWalk.toNatUp, hlt, gi, wi, md, ud, i1, i2, Act.val, Act.cells, hk, List.length_map]
    refine IWp.trim [0, 1, 5, 6, 7, 8] (IWp.skip ?_)
    simp [go_sem, -getElem?_pos, -List.map_take, -List.map_drop, List.getElem?_cons_zero, List.getElem?_cons_succ, Go.IntWalk.iteOmega, Go.IntWalk.toNatUp, hlt, gi, wi, md, ud, i1, i2, Act.val, Act.cells, hk, List.length_map]
    refine IWp.seq ?_
    refine IWp.run [0, 1, 5, 6, 7, 8, 14, 15] ?_
    simp [go_sem, -getElem?_pos, -List.map_take, -List.map_drop, List.getElem?_cons_zero, List.getElem?_cons_succ, Go.IntWalk.iteOmega, Go.IntWalk.toNatUp, hlt, gi, wi, md, ud, i1, i2, Act.val, Act.cells, hk, List.length_map]
    refine ICalls.then ((by have := atW (K.setTab (some (wTab t n (delL D ks2)))) wb t n (delL D ks2) (id0.tmod 6) hb rfl wx; rw [(likeAt hl2 (id0.tmod 6)).1, (likeAt hl2 (id0.tmod 6)).2] at this; exact this)) ?_
    try simp [go_sem, -getElem?_pos, -List.map_take, -List.map_drop, List.getElem?_cons_zero, List.getElem?_cons_succ, Go.IntWalk.iteOmega, Go.IntWalk.toNatUp, hlt, gi, wi, md, ud, i1, i2, Act.val, Act.cells, hk, List.length_map]
    refine IWp.seq ?_
    refine IWp.run [0, 1, 5, 6, 7, 14, 15, 16, 17] ?_
    simp [go_sem, -getElem?_pos, -List.map_take, -List.map_drop, List.getElem?_cons_zero, List.getElem?_cons_succ, Go.IntWalk.iteOmega, Go.IntWalk.toNatUp, hlt, gi, wi, md, ud, i1, i2, Act.val, Act.cells, hk, List.length_map]
    refine ICalls.then (refAtC _ (withoutL m ks2) (id0.tmod 6) (by omega)) ?_
    try simp [go_sem, -getElem?_pos, -List.map_take, -List.map_drop, List.getElem?_cons_zero, List.getElem?_cons_succ, Go.IntWalk.iteOmega, Go.IntWalk.toNatUp, hlt, gi, wi, md, ud, i1, i2, Act.val, Act.cells, hk, List.length_map]
    refine IWp.seq ?_
    refine IWp.run [0, 1, 5, 6, 7, 118] ?_
    simp [go_sem, -getElem?_pos, -List.map_take, -List.map_drop, List.getElem?_cons_zero, List.getElem?_cons_succ, Go.IntWalk.iteOmega, Go.IntWalk.toNatUp, hlt, gi, wi, md, ud, i1, i2, Act.val, Act.cells, hk, List.length_map]
    refine ICalls.then ((by have := lenW (K.setTab (some (wTab t n (delL D ks2)))) wb t n (delL D ks2) hb rfl; rw [hl2.size] at this; exact this)) ?_
    try simp [go_sem, -getElem?_pos, -List.map_take, -List.map_drop, List.getElem?_cons_zero, List.getElem?_cons_succ, Go.IntWalk.iteOmega, Go.IntWalk.toNatUp, hlt, gi, wi, md, ud, i1, i2, Act.val, Act.cells, hk, List.length_map]
    refine IWp.cond ?_
    simp [go_sem, -getElem?_pos, -List.map_take, -List.map_drop, List.getElem?_cons_zero, List.getElem?_cons_succ, Go.IntWalk.iteOmega, Go.IntWalk.toNatUp, hlt, gi, wi, md, ud, i1, i2, Act.val, Act.cells, hk, List.length_map]
    refine IWp.trim [0, 1, 5, 6, 7] (IWp.skip ?_)
    simp [go_sem, -getElem?_pos, -List.map_take, -List.map_drop, List.getElem?_cons_zero, List.getElem?_cons_succ, Go.IntWalk.iteOmega, Go.IntWalk.toNatUp, hlt, gi, wi, md, ud, i1, i2, Act.val, Act.cells, hk, List.length_map]
    refine IWp.run [0, 1, 5, 6, 7] ?_
    simp [go_sem, -getElem?_pos, -List.map_take, -List.map_drop, List.getElem?_cons_zero, List.getElem?_cons_succ, Go.IntWalk.iteOmega, Go.IntWalk.toNatUp, hlt, gi, wi, md, ud, i1, i2, Act.val, Act.cells, hk, List.length_map]
    exact ⟨l.length - (i + 1), by omega, i + 1, rfl, by omega, n, by omega, _, (withoutL m ks2), by omega, hb, rfl, hl2, rfl, by omega⟩
  | false =>
    rw [if_neg (by simp)] at hid ht1
    rw [hid] at wx r1
    rw [ht1] at wv r2
    clear hid ht1
    refine IWp.seq ?_
    refine IWp.seq ?_
    refine IWp.run [0, 1, 5, 6, 7, 30] ?_
    simp [go_sem, -getElem?_pos, -List.map_take, -List.map_drop, List.getElem?_cons_zero, List.getElem?_cons_succ, Go.IntWalk.iteOmega, Go.IntWalk.toNatUp, hlt, gi, wi, md, ud, i1, i2, Act.val, Act.cells, hk, List.length_map]
    refine IWp.cond ?_
    simp [go_sem, -getElem?_pos, -List.map_take, -List.map_drop, List.getElem?_cons_zero, List.getElem?_cons_succ, Go.IntWalk.iteOmega, Go.IntWalk.toNatUp, hlt, gi, wi, md, ud, i1, i2, Act.val, Act.cells, hk, List.length_map]
    refine IWp.trim [0, 1, 5, 6, 7] (IWp.skip ?_)
    simp [go_sem, -getElem?_pos, -List.map_take, -List.map_drop, List.getElem?_cons_zero, List.getElem?_cons_succ, Go.IntWalk.iteOmega, Go.IntWalk.toNatUp, hlt, gi, wi, md, ud, i1, i2, Act.val, Act.cells, hk, List.length_map]
    refine IWp.seq ?_
    refine IWp.block ?_
    refine IWp.seq ?_
    refine IWp.read [0, 1, 5, 6, 7, 8, 9] follows (by kernel_rfl) ?_
    simp [go_sem, -getElem?_pos, -List.map_take, -List.map_drop, List.getElem?_cons_zero, List.getElem?_cons_succ, Go.IntWalk.iteOmega, Go.IntWalk.toNatUp, hlt, gi, wi, md, ud, i1, i2, Act.val, Act.cells, hk, List.length_map]
    refine IWp.seq ?_
    refine IWp.seq ?_
    refine IWp.run [0, 1, 5, 6, 7, 8, 9, 43] ?_
    simp [go_sem, -getElem?_pos, -List.map_take, -List.map_drop, List.getElem?_cons_zero, List.getElem?_cons_succ, Go.IntWalk.iteOmega, Go.IntWalk.toNatUp, hlt, gi, wi, md, ud, i1, i2, Act.val, Act.cells, hk, List.length_map]
    refine IWp.cond ?_
    simp [go_sem, -getElem?_pos, -List.map_take, -List.map_drop, List.getElem?_cons_zero, List.getElem?_cons_succ, Go.IntWalk.iteOmega, Go.IntWalk.toNatUp, hlt, gi, wi, md, ud, i1, i2, Act.val, Act.cells, hk, List.length_map]
    refine IWp.trim [0, 1, 5, 6, 7, 8, 9] (IWp.skip ?_)
    simp [go_sem, -getElem?_pos, -List.map_take, -List.map_drop, List.getElem?_cons_zero, List.getElem?_cons_succ, Go.IntWalk.iteOmega, Go.IntWalk.toNatUp, hlt, gi, wi, md, ud, i1, i2, Act.val, Act.cells, hk, List.length_map]
    refine IWp.seq ?_
    refine IWp.seq ?_
    refine IWp.run [0, 1, 5, 6, 7, 8, 9, 53] ?_
    simp [go_sem, -getElem?_pos, -List.map_take, -List.map_drop, List.getElem?_cons_zero, List.getElem?_cons_succ, Go.IntWalk.iteOmega, Go.IntWalk.toNatUp, hlt, gi, wi, md, ud, i1, i2, Act.val, Act.cells, hk, List.length_map]
    refine IWp.block ?_
    refine IWp.seq ?_
    refine IWp.seq ?_
    refine IWp.run [0, 1, 5, 6, 7, 8, 9, 53, 67] ?_
    simp [go_sem, -getElem?_pos, -List.map_take, -List.map_drop, List.getElem?_cons_zero, List.getElem?_cons_succ, Go.IntWalk.iteOmega, Go.IntWalk.toNatUp, hlt, gi, wi, md, ud, i1, i2, Act.val, Act.cells, hk, List.length_map]
    refine IWp.cond ?_
    simp [go_sem, -getElem?_pos, -List.map_take, -List.map_drop, List.getElem?_cons_zero, List.getElem?_cons_succ, Go.IntWalk.iteOmega, Go.IntWalk.toNatUp, hlt, gi, wi, md, ud, i1, i2, Act.val, Act.cells, hk, List.length_map]
    refine IWp.run [0, 1, 5, 6, 7, 8, 9, 53, 67] ?_
    simp [go_sem, -getElem?_pos, -List.map_take, -List.map_drop, List.getElem?_cons_zero, List.getElem?_cons_succ, Go.IntWalk.iteOmega, Go.IntWalk.toNatUp, hlt, gi, wi, md, ud, i1, i2, Act.val, Act.cells, hk, List.length_map]
    refine IWp.cond ?_
    simp [go_sem, -getElem?_pos, -List.map_take, -List.map_drop, List.getElem?_cons_zero, List.getElem?_cons_succ, Go.IntWalk.iteOmega, Go.IntWalk.toNatUp, hlt, gi, wi, md, ud, i1, i2, Act.val, Act.cells, hk, List.length_map]
    refine IWp.seq ?_
    refine IWp.run [0, 1, 5, 6, 7, 8, 9, 78] ?_
    simp [go_sem, -getElem?_pos, -List.map_take, -List.map_drop, List.getElem?_cons_zero, List.getElem?_cons_succ, Go.IntWalk.iteOmega, Go.IntWalk.toNatUp, hlt, gi, wi, md, ud, i1, i2, Act.val, Act.cells, hk, List.length_map]
    refine IWp.cond ?_
    simp [go_sem, -getElem?_pos, -List.map_take, -List.map_drop, List.getElem?_cons_zero, List.getElem?_cons_succ, Go.IntWalk.iteOmega, Go.IntWalk.toNatUp, hlt, gi, wi, md, ud, i1, i2, Act.val, Act.cells, hk, List.length_map]
    refine IWp.seq ?_
    refine IWp.run [0, 1, 5, 7, 8, 9, 12, 13] ?_
    simp [go_sem, -getElem?_pos, -List.map_take, -List.map_drop, List.getElem?_cons_zero, List.getElem?_cons_succ, Go.IntWalk.iteOmega, Go.IntWalk.toNatUp, hlt, gi, wi, md, ud, i1, i2, Act.val, Act.cells, hk, List.length_map]
    refine ICalls.mono (refDueC _ D m at0 hlike (by omega)) ?_
    rintro v K2 ⟨⟨ks, hv, hdue⟩, hK2⟩
    subst hv; rw [hK2]
    try simp [go_sem, -getElem?_pos, -List.map_take, -List.map_drop, List.getElem?_cons_zero, List.getElem?_cons_succ, Go.IntWalk.iteOmega, Go.IntWalk.toNatUp, hlt, gi, wi, md, ud, i1, i2, Act.val, Act.cells, hk, List.length_map]
    refine IWp.seq ?_
    refine IWp.run [0, 1, 5, 6, 7, 8, 9, 13] ?_
    simp [go_sem, -getElem?_pos, -List.map_take, -List.map_drop, List.getElem?_cons_zero, List.getElem?_cons_succ, Go.IntWalk.iteOmega, Go.IntWalk.toNatUp, hlt, gi, wi, md, ud, i1, i2, Act.val, Act.cells, hk, List.length_map]
    refine IWp.seq ?_
    refine IWp.run [0, 1, 5, 6, 7, 8, 66] ?_
    simp [go_sem, -getElem?_pos, -List.map_take, -List.map_drop, List.getElem?_cons_zero, List.getElem?_cons_succ, Go.IntWalk.iteOmega, Go.IntWalk.toNatUp, hlt, gi, wi, md, ud, i1, i2, Act.val, Act.cells, hk, List.length_map]
    refine ICalls.mono (dueW K wb t n D at0 hb ht (by omega)) ?_
    rintro v K3 ⟨ks2, hv, hdue2, hkl, hK3⟩
    have ek := hdue2.uniq hdue; subst ek; subst hv; subst hK3; have hl2 := hlike.delL ks2; have hml := withoutL_le m ks2
    try simp [go_sem, -getElem?_pos, -List.map_take, -List.map_drop, List.getElem?_cons_zero, List.getElem?_cons_succ, Go.IntWalk.iteOmega, Go.IntWalk.toNatUp, hlt, gi, wi, md, ud, i1, i2, Act.val, Act.cells, hk, List.length_map]
    refine ICalls.then (sameIC _ 0 0 ks2 (by omega)) ?_
    try simp [go_sem, -getElem?_pos, -List.map_take, -List.map_drop, List.getElem?_cons_zero, List.getElem?_cons_succ, Go.IntWalk.iteOmega, Go.IntWalk.toNatUp, hlt, gi, wi, md, ud, i1, i2, Act.val, Act.cells, hk, List.length_map]
    refine IWp.cond ?_
    simp [go_sem, -getElem?_pos, -List.map_take, -List.map_drop, List.getElem?_cons_zero, List.getElem?_cons_succ, Go.IntWalk.iteOmega, Go.IntWalk.toNatUp, hlt, gi, wi, md, ud, i1, i2, Act.val, Act.cells, hk, List.length_map]
    refine IWp.trim [0, 1, 5, 6, 7, 8] (IWp.skip ?_)
    simp [go_sem, -getElem?_pos, -List.map_take, -List.map_drop, List.getElem?_cons_zero, List.getElem?_cons_succ, Go.IntWalk.iteOmega, Go.IntWalk.toNatUp, hlt, gi, wi, md, ud, i1, i2, Act.val, Act.cells, hk, List.length_map]
    refine IWp.seq ?_
    refine IWp.run [0, 1, 5, 6, 7, 8, 14, 15] ?_
    simp [go_sem, -getElem?_pos, -List.map_take, -List.map_drop, List.getElem?_cons_zero, List.getElem?_cons_succ, Go.IntWalk.iteOmega, Go.IntWalk.toNatUp, hlt, gi, wi, md, ud, i1, i2, Act.val, Act.cells, hk, List.length_map]
    refine ICalls.then ((by have := atW (K.setTab (some (wTab t n (delL D ks2)))) wb t n (delL D ks2) id0 hb rfl wx; rw [(likeAt hl2 id0).1, (likeAt hl2 id0).2] at this; exact this)) ?_
    try simp [go_sem, -getElem?_pos, -List.map_take, -List.map_drop, List.getElem?_cons_zero, List.getElem?_cons_succ, Go.IntWalk.iteOmega, Go.IntWalk.toNatUp, hlt, gi, wi, md, ud, i1, i2, Act.val, Act.cells, hk, List.length_map]
    refine IWp.seq ?_
    refine IWp.run [0, 1, 5, 6, 7, 14, 15, 16, 17] ?_
    simp [go_sem, -getElem?_pos, -List.map_take, -List.map_drop, List.getElem?_cons_zero, List.getElem?_cons_succ, Go.IntWalk.iteOmega, Go.IntWalk.toNatUp, hlt, gi, wi, md, ud, i1, i2, Act.val, Act.cells, hk, List.length_map]
    refine ICalls.then (refAtC _ (withoutL m ks2) id0 (by omega)) ?_
    try simp [go_sem, -getElem?_pos, -List.map_take, -List.map_drop, List.getElem?_cons_zero, List.getElem?_cons_succ, Go.IntWalk.iteOmega, Go.IntWalk.toNatUp, hlt, gi, wi, md, ud, i1, i2, Act.val, Act.cells, hk, List.length_map]
    refine IWp.seq ?_
    refine IWp.run [0, 1, 5, 6, 7, 118] ?_
    simp [go_sem, -getElem?_pos, -List.map_take, -List.map_drop, List.getElem?_cons_zero, List.getElem?_cons_succ, Go.IntWalk.iteOmega, Go.IntWalk.toNatUp, hlt, gi, wi, md, ud, i1, i2, Act.val, Act.cells, hk, List.length_map]
    refine ICalls.then ((by have := lenW (K.setTab (some (wTab t n (delL D ks2)))) wb t n (delL D ks2) hb rfl; rw [hl2.size] at this; exact this)) ?_
    try simp [go_sem, -getElem?_pos, -List.map_take, -List.map_drop, List.getElem?_cons_zero, List.getElem?_cons_succ, Go.IntWalk.iteOmega, Go.IntWalk.toNatUp, hlt, gi, wi, md, ud, i1, i2, Act.val, Act.cells, hk, List.length_map]
    refine IWp.cond ?_
    simp [go_sem, -getElem?_pos, -List.map_take, -List.map_drop, List.getElem?_cons_zero, List.getElem?_cons_succ, Go.IntWalk.iteOmega, Go.IntWalk.toNatUp, hlt, gi, wi, md, ud, i1, i2, Act.val, Act.cells, hk, List.length_map]
    refine IWp.trim [0, 1, 5, 6, 7] (IWp.skip ?_)
    simp [go_sem, -getElem?_pos, -List.map_take, -List.map_drop, List.getElem?_cons_zero, List.getElem?_cons_succ, Go.IntWalk.iteOmega, Go.IntWalk.toNatUp, hlt, gi, wi, md, ud, i1, i2, Act.val, Act.cells, hk, List.length_map]
    refine IWp.run [0, 1, 5, 6, 7] ?_
    simp [go_sem, -getElem?_pos, -List.map_take, -List.map_drop, List.getElem?_cons_zero, List.getElem?_cons_succ, Go.IntWalk.iteOmega, Go.IntWalk.toNatUp, hlt, gi, wi, md, ud, i1, i2, Act.val, Act.cells, hk, List.length_map]
    exact ⟨l.length - (i + 1), by omega, i + 1, rfl, by omega, n, by omega, _, (withoutL m ks2), by omega, hb, rfl, hl2, rfl, by omega⟩

end Go.Proofs.Ytdimnoeldnfikaa.I
