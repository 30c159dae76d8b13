/- Tick by tick: what is shown and heard, and when a burst begins anew: the law's body. No condition. -/
import Derived.Test.YtdimnoeldnfikaaLPanelS
namespace Go.Proofs.Ytdimnoeldnfikaa.I
open Go Go.RowKit
set_option linter.unusedVariables false
set_option linter.unusedSimpArgs false

structure Tick where
  behind : Int
  l : List One
  p : Int
  o : Int
  deriving DecidableEq
def Tick.cells (x : Tick) : List Value := [.int .u8 x.behind, frow 4 0 (x.l.map One.val), .int .u8 x.p, .int .u8 x.o]
def Tick.val (x : Tick) : Value := .agg ⟨x.cells⟩
theorem Tick.val_cells (x : Tick) : x.val.cells = ⟨x.cells⟩ := rfl
def Tick.wf (x : Tick) : Prop := (0 ≤ x.behind ∧ x.behind < 256) ∧ ((∀ y ∈ x.l, y.wf) ∧ x.l.length ≤ maxLen) ∧ (0 ≤ x.p ∧ x.p < 256) ∧ (0 ≤ x.o ∧ x.o < 256)
theorem Tick.cl (x : Tick) : ClL x.cells := by
  simp [Tick.cells, ClL_cons, ClL_nil, ClL_append, Cl_int, Cl_bool, Cl_string, ↓cl_ints, Cl_frow_map, One.cl, One.val_cells]
theorem Tick.cl_row (sz : Nat) (m : Int) (L : List Tick) : Cl (frow sz m (L.map Tick.val)) = True := by
  rw [Cl_frow_map]; simp [Tick.val_cells, Tick.cl]
theorem Tick.cl_val (x : Tick) : Cl x.val = True := by
  unfold Tick.val; rw [Cl_agg]; simp [Tick.cl]
def Tick.ty : Ty := .recd [.int .u8, .row One.ty 4, .int .u8, .int .u8]
theorem Tick.ofLay {d : Dt} {cs : List Value} (h : Lay Tick.ty d cs) : ∃ x : Tick, cs = x.cells ∧ x.wf := by
  cases h with
  | recd h =>
    obtain _ | ⟨h0, h⟩ := h
    obtain _ | ⟨h1, h⟩ := h
    obtain _ | ⟨h2, h⟩ := h
    obtain _ | ⟨h3, h⟩ := h
    cases h
    obtain ⟨a0, rfl, w0⟩ := lay_int h0
    obtain ⟨xs1, vs1, rfl, s1, z1⟩ := lay_row h1
    obtain ⟨a1, rfl, w1⟩ := One.ofLayS s1
    obtain ⟨a2, rfl, w2⟩ := lay_int h2
    obtain ⟨a3, rfl, w3⟩ := lay_int h3
    exact ⟨⟨a0, a1, a2, a3⟩, by simp [Tick.cells], ⟨wf_u8 w0, ⟨w1, by simpa using z1⟩, wf_u8 w2, wf_u8 w3⟩⟩
theorem Tick.ofLayS : ∀ {xs : List Dt} {vs : List Value}, LayS Tick.ty xs vs → ∃ L : List Tick, vs = L.map Tick.val ∧ ∀ x ∈ L, x.wf
  | _, _, .nil _ => ⟨[], rfl, fun _ h => (by cases h)⟩
  | _, _, .one hr _ _ => by cases hr
  | _, _, .recs hr h hs => by
    obtain ⟨x, rfl, hx⟩ := Tick.ofLay h
    obtain ⟨L, rfl, hw⟩ := Tick.ofLayS hs
    exact ⟨x :: L, rfl, fun y hy => by
      rcases List.mem_cons.1 hy with rfl | hy
      · exact hx
      · exact hw y hy⟩
theorem Tick.ofV {d : Dt} {v : Value} (h : LayV Tick.ty d v) : ∃ x : Tick, v = x.val ∧ x.wf := by
  obtain ⟨cs, rfl, h2⟩ := layV_rec h
  obtain ⟨x, rfl, hx⟩ := Tick.ofLay h2
  exact ⟨x, rfl, hx⟩
theorem Tick.ofRow {d : Dt} {v : Value} {k : Nat} (h : LayV (.row Tick.ty k) d v) : ∃ L : List Tick, v = frow k 0 (L.map Tick.val) ∧ (∀ x ∈ L, x.wf) ∧ L.length ≤ maxLen := by
  obtain ⟨xs, vs, rfl, hs, hl⟩ := layV_row h
  obtain ⟨L, rfl, hw⟩ := Tick.ofLayS hs
  exact ⟨L, rfl, hw, by simpa using hl⟩

set_option maxRecDepth 100000 in
set_option maxHeartbeats 4000000 in
theorem panelShows_law (H : Heap) (l : List Tick) (start : Int) (hw : ∀ x ∈ l, x.wf) (w1 : 0 ≤ start ∧ start < 65536) : IBody Try.prog 12 [frow 4 0 (l.map Tick.val), .int .u16 start] H fun v _ => v = .bool true := by
  by_cases hl : 40 < l.length
  · skip
    refine IBody.of Try.func12 rfl (by rw [Try.ntmps12]; simp) ?_
    rw [Try.ntmps12]
    refine IWp.seq ?_
    refine IWp.run [0, 1] ?_
    simp [go_sem, -getElem?_pos, -List.map_take, -List.map_drop, List.getElem?_cons_zero, List.getElem?_cons_succ, Go.IntWalk.iteOmega, Go.IntWalk.toNatUp, hl]
    refine IWp.seq ?_
    refine IWp.seq ?_
    refine IWp.run [0, 1, 20] ?_
    simp [go_sem, -getElem?_pos, -List.map_take, -List.map_drop, List.getElem?_cons_zero, List.getElem?_cons_succ, Go.IntWalk.iteOmega, Go.IntWalk.toNatUp, hl]
    refine ICalls.then (darkC _) ?_
    try simp [go_sem, -getElem?_pos, -List.map_take, -List.map_drop, List.getElem?_cons_zero, List.getElem?_cons_succ, Go.IntWalk.iteOmega, Go.IntWalk.toNatUp, hl]
    refine IWp.cond ?_
    simp [go_sem, -getElem?_pos, -List.map_take, -List.map_drop, List.getElem?_cons_zero, List.getElem?_cons_succ, Go.IntWalk.iteOmega, Go.IntWalk.toNatUp, hl]
    refine IWp.seq ?_
    refine IWp.run [4] ?_
    simp [go_sem, -getElem?_pos, -List.map_take, -List.map_drop, List.getElem?_cons_zero, List.getElem?_cons_succ, Go.IntWalk.iteOmega, Go.IntWalk.toNatUp, hl]
    refine ICalls.then (darkC _) ?_
    try simp [go_sem, -getElem?_pos, -List.map_take, -List.map_drop, List.getElem?_cons_zero, List.getElem?_cons_succ, Go.IntWalk.iteOmega, Go.IntWalk.toNatUp, hl]
    refine IWp.ret ?_
    simp [go_sem, -getElem?_pos, -List.map_take, -List.map_drop, List.getElem?_cons_zero, List.getElem?_cons_succ, Go.IntWalk.iteOmega, Go.IntWalk.toNatUp, hl, Try.results12]
    try rfl
  have i1 := IntWalk.i64_in start (by omega)
  have i2 := IntWalk.i64_in (start + 10) (by omega)
  refine IBody.of Try.func12 rfl (by rw [Try.ntmps12]; simp) ?_
  rw [Try.ntmps12]
  refine IWp.seq ?_
  refine IWp.run [0, 1] ?_
  simp [go_sem, -getElem?_pos, -List.map_take, -List.map_drop, List.getElem?_cons_zero, List.getElem?_cons_succ, Go.IntWalk.iteOmega, Go.IntWalk.toNatUp, hl, i1, i2, get_alloc, next_alloc]
  refine IWp.seq ?_
  refine IWp.seq ?_
  refine IWp.run [0, 1, 20] ?_
  simp [go_sem, -getElem?_pos, -List.map_take, -List.map_drop, List.getElem?_cons_zero, List.getElem?_cons_succ, Go.IntWalk.iteOmega, Go.IntWalk.toNatUp, hl, i1, i2, get_alloc, next_alloc]
  refine ICalls.then (darkC _) ?_
  try simp [go_sem, -getElem?_pos, -List.map_take, -List.map_drop, List.getElem?_cons_zero, List.getElem?_cons_succ, Go.IntWalk.iteOmega, Go.IntWalk.toNatUp, hl, i1, i2, get_alloc, next_alloc]
  refine IWp.cond ?_
  simp [go_sem, -getElem?_pos, -List.map_take, -List.map_drop, List.getElem?_cons_zero, List.getElem?_cons_succ, Go.IntWalk.iteOmega, Go.IntWalk.toNatUp, hl, i1, i2, get_alloc, next_alloc]
  refine IWp.trim [0, 1] (IWp.skip ?_)
  simp [go_sem, -getElem?_pos, -List.map_take, -List.map_drop, List.getElem?_cons_zero, List.getElem?_cons_succ, Go.IntWalk.iteOmega, Go.IntWalk.toNatUp, hl, i1, i2, get_alloc, next_alloc]
  refine IWp.seq ?_
  refine IWp.run [0, 1, 5, 6] ?_
  simp [go_sem, -getElem?_pos, -List.map_take, -List.map_drop, List.getElem?_cons_zero, List.getElem?_cons_succ, Go.IntWalk.iteOmega, Go.IntWalk.toNatUp, hl, i1, i2, get_alloc, next_alloc]
  refine ICalls.mono (newC _) ?_
  rintro v K1 ⟨hv, hK1⟩
  subst hv; subst hK1
  try simp [go_sem, -getElem?_pos, -List.map_take, -List.map_drop, List.getElem?_cons_zero, List.getElem?_cons_succ, Go.IntWalk.iteOmega, Go.IntWalk.toNatUp, hl, i1, i2, get_alloc, next_alloc]
  refine IWp.seq ?_
  refine IWp.run [0, 5, 6, 7] ?_
  simp [go_sem, -getElem?_pos, -List.map_take, -List.map_drop, List.getElem?_cons_zero, List.getElem?_cons_succ, Go.IntWalk.iteOmega, Go.IntWalk.toNatUp, hl, i1, i2, get_alloc, next_alloc]
  refine IWp.seq ?_
  refine IWp.seq ?_
  refine IWp.run [0, 5, 6, 7, 8] ?_
  simp [go_sem, -getElem?_pos, -List.map_take, -List.map_drop, List.getElem?_cons_zero, List.getElem?_cons_succ, Go.IntWalk.iteOmega, Go.IntWalk.toNatUp, hl, i1, i2, get_alloc, next_alloc]
  refine IWp.block ?_
  -- LOOP live [0, 5, 6, 7, 8]
  refine IWp.loop (fun q e K => ∃ (i : Nat) (s g now : Int) (pb qb : Nat), q = l.length - i ∧ i ≤ l.length ∧ K.get pb = some ⟨[.int .u8 s, .int .i64 g], true⟩ ∧ K.get qb = some ⟨[.int .u8 s, .int .i64 g], true⟩ ∧ pb ≠ qb ∧ (0 ≤ g ∧ g ≤ 70000) ∧ (10 ≤ now ∧ now ≤ 65545 + 3 * (i : Int)) ∧ e = [(0, frow 4 0 (l.map Tick.val)), (5, ptrTo pb 0), (6, ptrTo qb 0), (7, .int .i64 now), (8, .int .i64 (i : Int))]) l.length ⟨0, 0, 0, start + 10, H.next, H.next + 1, rfl, Nat.zero_le _, by simp [get_alloc, next_alloc], by simp [get_alloc, next_alloc], by omega, by omega, by omega, by simp [go_sem]⟩ ?_
  rintro q e K ⟨i, s, g, now, pb, qb, rfl, hi, hp, hq, hne, hg, hnow, rfl⟩
  by_cases hlt : i < l.length
  case neg =>
    refine IWp.seq ?_
    refine IWp.seq ?_
    refine IWp.run [0, 5, 6, 7, 8, 30] ?_
    simp [go_sem, -getElem?_pos, -List.map_take, -List.map_drop, List.getElem?_cons_zero, List.getElem?_cons_succ, Go.IntWalk.iteOmega, Go.IntWalk.toNatUp, hlt]
    refine IWp.cond ?_
    simp [go_sem, -getElem?_pos, -List.map_take, -List.map_drop, List.getElem?_cons_zero, List.getElem?_cons_succ, Go.IntWalk.iteOmega, Go.IntWalk.toNatUp, hlt]
    refine IWp.trim [] (IWp.exit ?_)
    simp [go_sem, -getElem?_pos, -List.map_take, -List.map_drop, List.getElem?_cons_zero, List.getElem?_cons_succ, Go.IntWalk.iteOmega, Go.IntWalk.toNatUp, hlt]
    refine IWp.seq ?_
    refine IWp.run [4] ?_
    simp [go_sem, -getElem?_pos, -List.map_take, -List.map_drop, List.getElem?_cons_zero, List.getElem?_cons_succ, Go.IntWalk.iteOmega, Go.IntWalk.toNatUp, hlt]
    refine IWp.ret ?_
    simp [go_sem, -getElem?_pos, -List.map_take, -List.map_drop, List.getElem?_cons_zero, List.getElem?_cons_succ, Go.IntWalk.iteOmega, Go.IntWalk.toNatUp, hlt, Try.results12]
    try rfl
  have gi : (l.map Tick.val)[i]? = some (l[i]).val := by simp [hlt]
  have hx := hw l[i] (List.getElem_mem hlt)
  generalize l[i] = x at *
  obtain ⟨be, L, p, o⟩ := x
  obtain ⟨hbe, hL, hp5, ho7⟩ := hx
  simp only at hbe hL hp5 ho7
  by_cases h20 : 20 < L.length
  · skip
    refine IWp.seq ?_
    refine IWp.seq ?_
    refine IWp.run [0, 5, 6, 7, 8, 30] ?_
    simp [go_sem, -getElem?_pos, -List.map_take, -List.map_drop, List.getElem?_cons_zero, List.getElem?_cons_succ, Go.IntWalk.iteOmega, Go.IntWalk.toNatUp, hlt, gi, h20, Tick.val, Tick.cells]
    refine IWp.cond ?_
    simp [go_sem, -getElem?_pos, -List.map_take, -List.map_drop, List.getElem?_cons_zero, List.getElem?_cons_succ, Go.IntWalk.iteOmega, Go.IntWalk.toNatUp, hlt, gi, h20, Tick.val, Tick.cells]
    refine IWp.trim [0, 5, 6, 7, 8] (IWp.skip ?_)
    simp [go_sem, -getElem?_pos, -List.map_take, -List.map_drop, List.getElem?_cons_zero, List.getElem?_cons_succ, Go.IntWalk.iteOmega, Go.IntWalk.toNatUp, hlt, gi, h20, Tick.val, Tick.cells]
    refine IWp.seq ?_
    refine IWp.block ?_
    refine IWp.seq ?_
    refine IWp.seq ?_
    refine IWp.run [0, 5, 6, 7, 8, 39] ?_
    simp [go_sem, -getElem?_pos, -List.map_take, -List.map_drop, List.getElem?_cons_zero, List.getElem?_cons_succ, Go.IntWalk.iteOmega, Go.IntWalk.toNatUp, hlt, gi, h20, Tick.val, Tick.cells]
    refine IWp.cond ?_
    simp [go_sem, -getElem?_pos, -List.map_take, -List.map_drop, List.getElem?_cons_zero, List.getElem?_cons_succ, Go.IntWalk.iteOmega, Go.IntWalk.toNatUp, hlt, gi, h20, Tick.val, Tick.cells]
    refine IWp.seq ?_
    refine IWp.run [4] ?_
    simp [go_sem, -getElem?_pos, -List.map_take, -List.map_drop, List.getElem?_cons_zero, List.getElem?_cons_succ, Go.IntWalk.iteOmega, Go.IntWalk.toNatUp, hlt, gi, h20, Tick.val, Tick.cells]
    refine IWp.ret ?_
    simp [go_sem, -getElem?_pos, -List.map_take, -List.map_drop, List.getElem?_cons_zero, List.getElem?_cons_succ, Go.IntWalk.iteOmega, Go.IntWalk.toNatUp, hlt, gi, h20, Tick.val, Tick.cells, Try.results12]
    try rfl
  have c1 := fun K => ofC K L false (by omega) hL.1
  have hA := ofL_len false L
  have hn := ofL_nodup false L
  generalize ofL false L = A at *
  have t1 : be.tmod 3 = be % 3 := Int.tmod_eq_emod_of_nonneg hbe.1
  have t2 : p.tmod 5 = p % 5 := Int.tmod_eq_emod_of_nonneg hp5.1
  have t3 : o.tmod 7 = o % 7 := Int.tmod_eq_emod_of_nonneg ho7.1
  have u1 := IntWalk.u8_in (be % 3) (by omega)
  have u2 := IntWalk.u8_in (p % 5) (by omega)
  have u3 := IntWalk.u8_in (o % 7) (by omega)
  have v1 := IntWalk.i64_in (be % 3) (by omega)
  have v2 := IntWalk.i64_in (p % 5) (by omega)
  have v3 := IntWalk.i64_in (o % 7) (by omega)
  have v4 := IntWalk.i64_in (1 + be % 3) (by omega)
  have v5 := IntWalk.i64_in (now + (1 + be % 3)) (by omega)
  have v9 := IntWalk.i64_in ((i : Int) + 1) (by omega)
  obtain ⟨now', hnow'⟩ : ∃ now', now' = now + (1 + be % 3) := ⟨_, rfl⟩
  rw [← hnow'] at v5
  have v6 := IntWalk.i64_in (now' - 3) (by omega)
  have v7 := IntWalk.i64_in (now' - 3 + p % 5) (by omega)
  have v8 := IntWalk.i64_in (now' - 5) (by omega)
  have v10 := IntWalk.i64_in (now' - 5 + o % 7) (by omega)
  obtain ⟨h, hh⟩ : ∃ h : Hush, h = ⟨now' - 3 + p % 5, now' - 5 + o % 7, 0⟩ := ⟨_, rfl⟩
  have hpn := Heap.lt_of_get hp
  have hqn := Heap.lt_of_get hq
  have c2 := fun K => refShowC K s g now' A h (by omega) hn (by omega) (by omega)
  have c3 := fun K hk => showC K pb s g now' A h (by omega) hn hk
  have c4 := fun K => sameC K (outS s g now' A h) (by have := lampsS_len A; simp only [outS]; omega)
  rw [hh] at c2 c3 c4
  have hbn : 0 ≤ beganS s g now' A ⟨now' - 3 + p % 5, now' - 5 + o % 7, 0⟩ ∧ beganS s g now' A ⟨now' - 3 + p % 5, now' - 5 + o % 7, 0⟩ ≤ 70000 := by unfold beganS; split <;> omega
  simp only [panV, outS, Outp.val, Outp.cells, Hush.val, Hush.cells] at c2 c3 c4
  generalize soundS (audioS now' A ⟨now' - 3 + p % 5, now' - 5 + o % 7, 0⟩) (sinceS now' (beganS s g now' A ⟨now' - 3 + p % 5, now' - 5 + o % 7, 0⟩)) = so at *
  generalize beganS s g now' A ⟨now' - 3 + p % 5, now' - 5 + o % 7, 0⟩ = bn at *
  generalize audioS now' A ⟨now' - 3 + p % 5, now' - 5 + o % 7, 0⟩ = au at *
  refine IWp.seq ?_
  refine IWp.seq ?_
  refine IWp.run [0, 5, 6, 7, 8, 30] ?_
  simp [go_sem, -getElem?_pos, -List.map_take, -List.map_drop, List.getElem?_cons_zero, List.getElem?_cons_succ, Go.IntWalk.iteOmega, Go.IntWalk.toNatUp, hlt, gi, h20, Tick.val, Tick.cells, t1, u1, v1, v4, v5, ← hnow']
  refine IWp.cond ?_
  simp [go_sem, -getElem?_pos, -List.map_take, -List.map_drop, List.getElem?_cons_zero, List.getElem?_cons_succ, Go.IntWalk.iteOmega, Go.IntWalk.toNatUp, hlt, gi, h20, Tick.val, Tick.cells, t1, u1, v1, v4, v5, ← hnow']
  refine IWp.trim [0, 5, 6, 7, 8] (IWp.skip ?_)
  simp [go_sem, -getElem?_pos, -List.map_take, -List.map_drop, List.getElem?_cons_zero, List.getElem?_cons_succ, Go.IntWalk.iteOmega, Go.IntWalk.toNatUp, hlt, gi, h20, Tick.val, Tick.cells, t1, u1, v1, v4, v5, ← hnow']
  refine IWp.seq ?_
  refine IWp.block ?_
  refine IWp.seq ?_
  refine IWp.seq ?_
  refine IWp.run [0, 5, 6, 7, 8, 39] ?_
  simp [go_sem, -getElem?_pos, -List.map_take, -List.map_drop, List.getElem?_cons_zero, List.getElem?_cons_succ, Go.IntWalk.iteOmega, Go.IntWalk.toNatUp, hlt, gi, h20, Tick.val, Tick.cells, t1, u1, v1, v4, v5, ← hnow']
  refine IWp.cond ?_
  simp [go_sem, -getElem?_pos, -List.map_take, -List.map_drop, List.getElem?_cons_zero, List.getElem?_cons_succ, Go.IntWalk.iteOmega, Go.IntWalk.toNatUp, hlt, gi, h20, Tick.val, Tick.cells, t1, u1, v1, v4, v5, ← hnow']
  refine IWp.trim [0, 5, 6, 7, 8] (IWp.skip ?_)
  simp [go_sem, -getElem?_pos, -List.map_take, -List.map_drop, List.getElem?_cons_zero, List.getElem?_cons_succ, Go.IntWalk.iteOmega, Go.IntWalk.toNatUp, hlt, gi, h20, Tick.val, Tick.cells, t1, u1, v1, v4, v5, ← hnow']
  refine IWp.seq ?_
  refine IWp.run [0, 5, 6, 7, 8] ?_
  simp [go_sem, -getElem?_pos, -List.map_take, -List.map_drop, List.getElem?_cons_zero, List.getElem?_cons_succ, Go.IntWalk.iteOmega, Go.IntWalk.toNatUp, hlt, gi, h20, Tick.val, Tick.cells, t1, u1, v1, v4, v5, ← hnow']
  refine IWp.seq ?_
  refine IWp.run [0, 5, 6, 7, 8, 9, 10] ?_
  simp [go_sem, -getElem?_pos, -List.map_take, -List.map_drop, List.getElem?_cons_zero, List.getElem?_cons_succ, Go.IntWalk.iteOmega, Go.IntWalk.toNatUp, hlt, gi, h20, Tick.val, Tick.cells, t1, u1, v1, v4, v5, ← hnow']
  refine ICalls.then (c1 _) ?_
  try simp [go_sem, -getElem?_pos, -List.map_take, -List.map_drop, List.getElem?_cons_zero, List.getElem?_cons_succ, Go.IntWalk.iteOmega, Go.IntWalk.toNatUp, hlt, gi, h20, Tick.val, Tick.cells, t1, u1, v1, v4, v5, ← hnow']
  -- CUT live [0, 5, 6, 7, 8, 9, 10, 11]
  refine IWp.cut (fun e' K' => e' = [(0, frow 4 0 (l.map Tick.val)), (5, ptrTo pb 0), (6, ptrTo qb 0), (7, .int .i64 now'), (8, .int .i64 (i : Int)), (9, frow 7 0 (A.map Light.val)), (10, frow 7 0 (A.map Light.val)), (11, ptrTo K.next 0)] ∧ K' = K.alloc [.int .i64 (now' - 3 + p % 5), .int .i64 (now' - 5 + o % 7), .int .u8 0]) ?_ ?_
  · skip
    refine IWp.draw [0, 5, 6, 7, 8, 9, 10, 11] [] (.val 0 (.val 1 (.val 2 (.val 3 (.val 4 (.val 5 (.val 10 (.val 11 (.val 12 (.val 13 (.val 14 (.val 15 (.val 6 (.val 7 (.val 8 (.val 9 (.val 16 (.val 17 (.val 18 (.val 19 (.val 20 (.eff 21 (.eff 22 .done .done) .done)))))))))))))))))))))) follows (by kernel_rfl) ?_
    simp [go_sem, -getElem?_pos, -List.map_take, -List.map_drop, List.getElem?_cons_zero, List.getElem?_cons_succ, Go.IntWalk.iteOmega, Go.IntWalk.toNatUp, hlt, gi, Tick.val, Tick.cells, t2, t3, u2, u3, v2, v3, v6, v7, v8, v10]
    try exact ⟨rfl, rfl⟩
  rintro e' K' ⟨rfl, rfl⟩
  have n1 : ¬ qb = K.next := by omega
  have n2 : ¬ qb = K.next + 1 := by omega
  have n3 : ¬ qb = K.next + 1 + 1 := by omega
  have n4 : ¬ pb = K.next := by omega
  have n5 : ¬ pb = K.next + 1 := by omega
  have n6 : ¬ pb = K.next + 1 + 1 := by omega
  have n7 : ¬ pb = qb := hne
  have n8 : ¬ K.next = K.next + 1 + 1 := by omega
  have n9 : ¬ K.next = qb := by omega
  have n10 : ¬ K.next + 1 + 1 = qb := by omega
  have n11 : ¬ K.next + 1 = qb := by omega
  refine IWp.seq ?_
  refine IWp.run [0, 5, 6, 7, 8, 9, 11, 12, 13] ?_
  simp [go_sem, -getElem?_pos, -List.map_take, -List.map_drop, List.getElem?_cons_zero, List.getElem?_cons_succ, Go.IntWalk.iteOmega, Go.IntWalk.toNatUp, hq, get_alloc, next_alloc, get_set, n1, n2, n3, n8, n9, n10, n11]
  refine ICalls.then (c2 _) ?_
  try simp [go_sem, -getElem?_pos, -List.map_take, -List.map_drop, List.getElem?_cons_zero, List.getElem?_cons_succ, Go.IntWalk.iteOmega, Go.IntWalk.toNatUp, hq, get_alloc, next_alloc, get_set, n1, n2, n3, n8, n9, n10, n11]
  refine IWp.seq ?_
  refine IWp.run [0, 5, 6, 7, 8, 9, 11, 13] ?_
  simp [go_sem, -getElem?_pos, -List.map_take, -List.map_drop, List.getElem?_cons_zero, List.getElem?_cons_succ, Go.IntWalk.iteOmega, Go.IntWalk.toNatUp, hq, get_alloc, next_alloc, get_set, n1, n2, n3, n8, n9, n10, n11]
  -- CUT live [0, 5, 6, 7, 8, 100]
  obtain ⟨K5, hK5⟩ : ∃ K5, K5 = (((K.alloc [.int .i64 (now' - 3 + p % 5), .int .i64 (now' - 5 + o % 7), .int .u8 0]).alloc [.int .u8 au, .int .i64 bn]).alloc [.int .i64 now', frow 5 0 ((lampsS A).map Lamp.val), .int .u8 au, .bool so, .bool (decide (now' < now' - 3 + p % 5)), .bool (decide (now' < now' - 5 + o % 7))]).set qb [.int .u8 au, .int .i64 bn] := ⟨_, rfl⟩
  have gp : K5.get pb = some ⟨[.int .u8 s, .int .i64 g], true⟩ := by rw [hK5]; simp [get_alloc, next_alloc, get_set, n4, n5, n6, n7, hp]
  have gq : K5.get qb = some ⟨[.int .u8 au, .int .i64 bn], true⟩ := by rw [hK5]; simp [get_alloc, next_alloc, get_set, n1, n2, n3, hq]
  have g11 : K5.get K.next = some ⟨[.int .i64 (now' - 3 + p % 5), .int .i64 (now' - 5 + o % 7), .int .u8 0], true⟩ := by rw [hK5]; simp [get_alloc, next_alloc, get_set, n8, n9]
  have g13 : K5.get (K.next + 1 + 1) = some ⟨[.int .i64 now', frow 5 0 ((lampsS A).map Lamp.val), .int .u8 au, .bool so, .bool (decide (now' < now' - 3 + p % 5)), .bool (decide (now' < now' - 5 + o % 7))], true⟩ := by rw [hK5]; simp [get_alloc, next_alloc, get_set, n10]
  have hn5 : K5.next = K.next + 1 + 1 + 1 := by rw [hK5]; rfl
  rw [← hK5]
  clear hK5
  refine IWp.cut (fun e' K' => K'.get pb = some ⟨[.int .u8 au, .int .i64 bn], true⟩ ∧ K'.get qb = some ⟨[.int .u8 au, .int .i64 bn], true⟩ ∧ e' = [(0, frow 4 0 (l.map Tick.val)), (5, ptrTo pb 0), (6, ptrTo qb 0), (7, .int .i64 now'), (8, .int .i64 (i : Int)), (100, .bool false)]) ?_ ?_
  · skip
    refine IWp.draw [0, 5, 6, 7, 8, 100] [K.next, (K.next + 1 + 1)] (.ld 3 [4, 6, 7] (.val 0 (.val 1 (.val 2 (.val 5 (.eff 4 (.eff 6 (.val 7 .done) .done) .done)))))) follows (by kernel_rfl) ?_
    simp [go_sem, -getElem?_pos, -List.map_take, -List.map_drop, List.getElem?_cons_zero, List.getElem?_cons_succ, Go.IntWalk.iteOmega, Go.IntWalk.toNatUp, g11, g13]
    refine ICalls.mono (c3 _ gp) ?_
    rintro v K6 ⟨hv, h2, h3, h4⟩
    subst hv; have g14 := (h4 (K.next + 1 + 1) (by omega) (by omega)).trans g13; have g15 := (h4 K.next (by omega) (by omega)).trans g11
    try simp [go_sem, -getElem?_pos, -List.map_take, -List.map_drop, List.getElem?_cons_zero, List.getElem?_cons_succ, Go.IntWalk.iteOmega, Go.IntWalk.toNatUp, g11, g13, g14, g15]
    refine ICalls.then (c4 _) ?_
    try simp [go_sem, -getElem?_pos, -List.map_take, -List.map_drop, List.getElem?_cons_zero, List.getElem?_cons_succ, Go.IntWalk.iteOmega, Go.IntWalk.toNatUp, g11, g13, g14, g15]
    try exact ⟨h2, (h4 qb (by omega) (by omega)).trans gq⟩
    trace_state
  rintro e' K' ⟨hp', hq', rfl⟩
  refine IWp.cond ?_
  simp [go_sem, -getElem?_pos, -List.map_take, -List.map_drop, List.getElem?_cons_zero, List.getElem?_cons_succ, Go.IntWalk.iteOmega, Go.IntWalk.toNatUp, v9]
  refine IWp.trim [0, 5, 6, 7, 8] (IWp.skip ?_)
  simp [go_sem, -getElem?_pos, -List.map_take, -List.map_drop, List.getElem?_cons_zero, List.getElem?_cons_succ, Go.IntWalk.iteOmega, Go.IntWalk.toNatUp, v9]
  refine IWp.run [0, 5, 6, 7, 8] ?_
  simp [go_sem, -getElem?_pos, -List.map_take, -List.map_drop, List.getElem?_cons_zero, List.getElem?_cons_succ, Go.IntWalk.iteOmega, Go.IntWalk.toNatUp, v9]
  exact ⟨l.length - (i + 1), by omega, i + 1, by omega, by omega, au, bn, now', pb, hp', qb, hq', hne, by omega, by omega, rfl, rfl, rfl, by omega⟩

end Go.Proofs.Ytdimnoeldnfikaa.I
