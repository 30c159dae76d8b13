/- Judges: what must hold of outputs; the parts of it. No condition. -/
import Derived.Test.YtoecebibhcadoaaGConf
namespace Go.Proofs.Ytoecebibhcadoaa.I
open Go Go.RowKit
set_option linter.unusedVariables false
set_option linter.unusedSimpArgs false

structure Lamp where
  cond : Int
  prio : Int
  stage : Int
  cause : Bool
  acked : Bool
  deriving DecidableEq
def Lamp.cells (x : Lamp) : List Value := [.int .i64 x.cond, .int .u8 x.prio, .int .i64 x.stage, .bool x.cause, .bool x.acked]
def Lamp.val (x : Lamp) : Value := .agg ⟨x.cells⟩
theorem Lamp.val_cells (x : Lamp) : x.val.cells = ⟨x.cells⟩ := rfl
def Lamp.wf (x : Lamp) : Prop := (-9223372036854775808 ≤ x.cond ∧ x.cond < 9223372036854775808) ∧ (0 ≤ x.prio ∧ x.prio < 256) ∧ (-9223372036854775808 ≤ x.stage ∧ x.stage < 9223372036854775808)
theorem Lamp.cl (x : Lamp) : ClL x.cells := by
  simp [Lamp.cells, ClL_cons, ClL_nil, ClL_append, Cl_int, Cl_bool, Cl_string, ↓cl_ints, Cl_frow_map]
theorem Lamp.cl_row (sz : Nat) (m : Int) (L : List Lamp) : Cl (frow sz m (L.map Lamp.val)) = True := by
  rw [Cl_frow_map]; simp [Lamp.val_cells, Lamp.cl]
theorem Lamp.cl_val (x : Lamp) : Cl x.val = True := by
  unfold Lamp.val; rw [Cl_agg]; simp [Lamp.cl]
structure Outp where
  tick : Int
  lamps : List Lamp
  audio : Int
  sound : Bool
  paused : Bool
  off : Bool
  deriving DecidableEq
def Outp.cells (x : Outp) : List Value := [.int .i64 x.tick, frow 5 0 (x.lamps.map Lamp.val), .int .u8 x.audio, .bool x.sound, .bool x.paused, .bool x.off]
def Outp.val (x : Outp) : Value := .agg ⟨x.cells⟩
theorem Outp.val_cells (x : Outp) : x.val.cells = ⟨x.cells⟩ := rfl
def Outp.wf (x : Outp) : Prop := (-9223372036854775808 ≤ x.tick ∧ x.tick < 9223372036854775808) ∧ ((∀ y ∈ x.lamps, y.wf) ∧ x.lamps.length ≤ maxLen) ∧ (0 ≤ x.audio ∧ x.audio < 256)
theorem Outp.cl (x : Outp) : ClL x.cells := by
  simp [Outp.cells, ClL_cons, ClL_nil, ClL_append, Cl_int, Cl_bool, Cl_string, ↓cl_ints, Cl_frow_map, Lamp.cl, Lamp.val_cells]
theorem Outp.cl_row (sz : Nat) (m : Int) (L : List Outp) : Cl (frow sz m (L.map Outp.val)) = True := by
  rw [Cl_frow_map]; simp [Outp.val_cells, Outp.cl]
theorem Outp.cl_val (x : Outp) : Cl x.val = True := by
  unfold Outp.val; rw [Cl_agg]; simp [Outp.cl]
structure Cmd where
  kind : Int
  n : Int
  t : Int
  deriving DecidableEq
def Cmd.cells (x : Cmd) : List Value := [.int .u8 x.kind, .int .i64 x.n, .int .i64 x.t]
def Cmd.val (x : Cmd) : Value := .agg ⟨x.cells⟩
theorem Cmd.val_cells (x : Cmd) : x.val.cells = ⟨x.cells⟩ := rfl
def Cmd.wf (x : Cmd) : Prop := (0 ≤ x.kind ∧ x.kind < 256) ∧ (-9223372036854775808 ≤ x.n ∧ x.n < 9223372036854775808) ∧ (-9223372036854775808 ≤ x.t ∧ x.t < 9223372036854775808)
theorem Cmd.cl (x : Cmd) : ClL x.cells := by
  simp [Cmd.cells, ClL_cons, ClL_nil, ClL_append, Cl_int, Cl_bool, Cl_string, ↓cl_ints, Cl_frow_map]
theorem Cmd.cl_row (sz : Nat) (m : Int) (L : List Cmd) : Cl (frow sz m (L.map Cmd.val)) = True := by
  rw [Cl_frow_map]; simp [Cmd.val_cells, Cmd.cl]
theorem Cmd.cl_val (x : Cmd) : Cl x.val = True := by
  unfold Cmd.val; rw [Cl_agg]; simp [Cmd.cl]

theorem Frz.ptrL {H : Heap} {S : Nat → Bool} {b o : Nat} {cs : List Value} {x : Value} (hg : H.get b = some ⟨cs, true⟩) (hS : S b = true) (h : FrzL H S cs x.cells.toList) : Frz H S (.pointer (some ⟨b, o, none⟩)) (fptr o x) := by
  refine .ptr hg hS ?_
  have := FrzE.cons (sz := cs.length) (cs := []) rfl h .nil
  rwa [List.append_nil] at this
theorem Frz.clo {H : Heap} {S : Nat → Bool} {f : FuncId} {m m' : List Value} (h : FrzL H S m m') : Frz H S (.func (.func f) ⟨[]⟩ ⟨m⟩) (.func (.func f) ⟨[]⟩ ⟨m'⟩) := .func .nil h

def idxS {α : Type} (p : α → Bool) (T : List α) : Int := match T.findIdx? p with | some i => (i : Int) | none => -1
theorem idxS_some {α : Type} {p : α → Bool} {T : List α} {i : Nat} (hi : i < T.length) (hp : p T[i] = true) (hno : ∀ x ∈ T.take i, p x = false) : T.findIdx? p = some i := by
  rw [List.findIdx?_eq_some_iff_getElem]
  refine ⟨hi, hp, fun j hj => ?_⟩
  have := hno T[j] (List.mem_take_iff_getElem.2 ⟨j, by omega, rfl⟩)
  rw [this]; simp

theorem indexLamp (H : Heap) (T : List Lamp) (g : FuncId) (cap : List Value) (hcc : ClL cap) (p : Lamp → Bool) (hT : T.length ≤ 1000000) (hc : ∀ l ∈ T, ∀ K, ICalls Try.prog g (l.val :: cap) K fun v H' => v = .bool (p l) ∧ H' = K) :
    ICalls Try.prog 16 [frow 5 0 (T.map Lamp.val), .func (.func g) ⟨[]⟩ ⟨cap⟩] H fun v H' => v = .int .i64 (idxS p T) ∧ H' = H := by
  refine ICalls.ans (by simp [go_sem]) fun H => IBody.calls (by kernel_rfl) ?_
  refine IBody.of Try.func16 rfl (by rw [Try.ntmps16]; simp) ?_
  rw [Try.ntmps16]
  refine IWp.seq ?_
  refine IWp.run [0, 1] ?_
  simp [go_sem, -getElem?_pos, -List.map_take, -List.map_drop, List.getElem?_cons_zero, List.getElem?_cons_succ, Go.IntWalk.iteOmega, Go.IntWalk.toNatUp]
  refine IWp.seq ?_
  refine IWp.seq ?_
  refine IWp.run [0, 1, 7, 8] ?_
  simp [go_sem, -getElem?_pos, -List.map_take, -List.map_drop, List.getElem?_cons_zero, List.getElem?_cons_succ, Go.IntWalk.iteOmega, Go.IntWalk.toNatUp]
  refine IWp.block ?_
  -- LOOP live [0, 1, 7, 8]
  refine IWp.loop (fun q e K => ∃ i : Nat, q = T.length - i ∧ i ≤ T.length ∧ K = H ∧ e = [(0, frow 5 0 (T.map Lamp.val)), (1, .func (.func g) ⟨[]⟩ ⟨cap⟩), (7, .int .i64 T.length), (8, .int .i64 (i : Int))] ∧ ∀ x ∈ T.take i, p x = false) T.length ⟨0, rfl, Nat.zero_le _, rfl, by simp [go_sem], by simp⟩ ?_
  rintro q e K ⟨i, rfl, hi, rfl, rfl, hno⟩
  have wi := IntWalk.i64_in ((i : Int) + 1) (by omega)
  by_cases hlt : i < T.length
  · have gi : (T.map Lamp.val)[i]? = some (T[i]).val := by simp [hlt]
    have hm : T[i] ∈ T := List.getElem_mem hlt
    have c1 := hc _ hm
    have hst : ∀ x ∈ T.take (i + 1), x ∈ T.take i ∨ x = T[i] := fun x hx => by rw [List.take_succ_eq_append_getElem hlt, List.mem_append, List.mem_singleton] at hx; exact hx
    have hsome := fun hp => idxS_some (p := p) hlt hp hno
    generalize T[i] = x at *
    simp only [Lamp.val, Lamp.cells] at gi c1
    cases hp : p x with
    | true =>
      rw [hp] at c1
      rw [show idxS p T = i by unfold idxS; rw [hsome hp]]
      refine IWp.seq ?_
      refine IWp.run [0, 1, 7, 8, 9] ?_
      simp [go_sem, -getElem?_pos, -List.map_take, -List.map_drop, List.getElem?_cons_zero, List.getElem?_cons_succ, Go.IntWalk.iteOmega, Go.IntWalk.toNatUp, hlt, gi]
      refine IWp.seq ?_
      refine IWp.cond ?_
      simp [go_sem, -getElem?_pos, -List.map_take, -List.map_drop, List.getElem?_cons_zero, List.getElem?_cons_succ, Go.IntWalk.iteOmega, Go.IntWalk.toNatUp, hlt, gi]
      refine IWp.trim [0, 1, 7, 8] (IWp.skip ?_)
      simp [go_sem, -getElem?_pos, -List.map_take, -List.map_drop, List.getElem?_cons_zero, List.getElem?_cons_succ, Go.IntWalk.iteOmega, Go.IntWalk.toNatUp, hlt, gi]
      refine IWp.seq ?_
      refine IWp.block ?_
      refine IWp.seq ?_
      refine IWp.run [0, 1, 5, 7, 8] ?_
      simp [go_sem, -getElem?_pos, -List.map_take, -List.map_drop, List.getElem?_cons_zero, List.getElem?_cons_succ, Go.IntWalk.iteOmega, Go.IntWalk.toNatUp, hlt, gi]
      refine IWp.seq ?_
      refine IWp.run [0, 1, 5, 7, 8, 16] ?_
      simp [go_sem, -getElem?_pos, -List.map_take, -List.map_drop, List.getElem?_cons_zero, List.getElem?_cons_succ, Go.IntWalk.iteOmega, Go.IntWalk.toNatUp, hlt, gi]
      refine ICalls.then (c1 _) ?_
      try simp [go_sem, -getElem?_pos, -List.map_take, -List.map_drop, List.getElem?_cons_zero, List.getElem?_cons_succ, Go.IntWalk.iteOmega, Go.IntWalk.toNatUp, hlt, gi]
      refine IWp.cond ?_
      simp [go_sem, -getElem?_pos, -List.map_take, -List.map_drop, List.getElem?_cons_zero, List.getElem?_cons_succ, Go.IntWalk.iteOmega, Go.IntWalk.toNatUp, hlt, gi]
      refine IWp.seq ?_
      refine IWp.run [4] ?_
      simp [go_sem, -getElem?_pos, -List.map_take, -List.map_drop, List.getElem?_cons_zero, List.getElem?_cons_succ, Go.IntWalk.iteOmega, Go.IntWalk.toNatUp, hlt, gi]
      refine IWp.ret ?_
      simp [go_sem, -getElem?_pos, -List.map_take, -List.map_drop, List.getElem?_cons_zero, List.getElem?_cons_succ, Go.IntWalk.iteOmega, Go.IntWalk.toNatUp, hlt, gi, Try.results16]
      try exact .same _
    | false =>
      rw [hp] at c1
      refine IWp.seq ?_
      refine IWp.run [0, 1, 7, 8, 9] ?_
      simp [go_sem, -getElem?_pos, -List.map_take, -List.map_drop, List.getElem?_cons_zero, List.getElem?_cons_succ, Go.IntWalk.iteOmega, Go.IntWalk.toNatUp, hlt, gi, wi]
      refine IWp.seq ?_
      refine IWp.cond ?_
      simp [go_sem, -getElem?_pos, -List.map_take, -List.map_drop, List.getElem?_cons_zero, List.getElem?_cons_succ, Go.IntWalk.iteOmega, Go.IntWalk.toNatUp, hlt, gi, wi]
      refine IWp.trim [0, 1, 7, 8] (IWp.skip ?_)
      simp [go_sem, -getElem?_pos, -List.map_take, -List.map_drop, List.getElem?_cons_zero, List.getElem?_cons_succ, Go.IntWalk.iteOmega, Go.IntWalk.toNatUp, hlt, gi, wi]
      refine IWp.seq ?_
      refine IWp.block ?_
      refine IWp.seq ?_
      refine IWp.run [0, 1, 5, 7, 8] ?_
      simp [go_sem, -getElem?_pos, -List.map_take, -List.map_drop, List.getElem?_cons_zero, List.getElem?_cons_succ, Go.IntWalk.iteOmega, Go.IntWalk.toNatUp, hlt, gi, wi]
      refine IWp.seq ?_
      refine IWp.run [0, 1, 5, 7, 8, 16] ?_
      simp [go_sem, -getElem?_pos, -List.map_take, -List.map_drop, List.getElem?_cons_zero, List.getElem?_cons_succ, Go.IntWalk.iteOmega, Go.IntWalk.toNatUp, hlt, gi, wi]
      refine ICalls.then (c1 _) ?_
      try simp [go_sem, -getElem?_pos, -List.map_take, -List.map_drop, List.getElem?_cons_zero, List.getElem?_cons_succ, Go.IntWalk.iteOmega, Go.IntWalk.toNatUp, hlt, gi, wi]
      refine IWp.cond ?_
      simp [go_sem, -getElem?_pos, -List.map_take, -List.map_drop, List.getElem?_cons_zero, List.getElem?_cons_succ, Go.IntWalk.iteOmega, Go.IntWalk.toNatUp, hlt, gi, wi]
      refine IWp.trim [0, 1, 7, 8] (IWp.skip ?_)
      simp [go_sem, -getElem?_pos, -List.map_take, -List.map_drop, List.getElem?_cons_zero, List.getElem?_cons_succ, Go.IntWalk.iteOmega, Go.IntWalk.toNatUp, hlt, gi, wi]
      refine IWp.run [0, 1, 7, 8] ?_
      simp [go_sem, -getElem?_pos, -List.map_take, -List.map_drop, List.getElem?_cons_zero, List.getElem?_cons_succ, Go.IntWalk.iteOmega, Go.IntWalk.toNatUp, hlt, gi, wi]
      exact ⟨T.length - (i + 1), by omega, i + 1, rfl, by omega, by omega, fun y hy => (hst y hy).elim (hno y) (fun e => by rw [e, hp])⟩
  · rw [List.take_of_length_le (by omega)] at hno
    rw [show idxS p T = -1 by unfold idxS; rw [List.findIdx?_eq_none_iff.2 hno]]
    refine IWp.seq ?_
    refine IWp.run [0, 1, 7, 8, 9] ?_
    simp [go_sem, -getElem?_pos, -List.map_take, -List.map_drop, List.getElem?_cons_zero, List.getElem?_cons_succ, Go.IntWalk.iteOmega, Go.IntWalk.toNatUp, hlt]
    refine IWp.seq ?_
    refine IWp.cond ?_
    simp [go_sem, -getElem?_pos, -List.map_take, -List.map_drop, List.getElem?_cons_zero, List.getElem?_cons_succ, Go.IntWalk.iteOmega, Go.IntWalk.toNatUp, hlt]
    refine IWp.trim [] (IWp.exit ?_)
    simp [go_sem, -getElem?_pos, -List.map_take, -List.map_drop, List.getElem?_cons_zero, List.getElem?_cons_succ, Go.IntWalk.iteOmega, Go.IntWalk.toNatUp, hlt]
    refine IWp.seq ?_
    refine IWp.run [4] ?_
    simp [go_sem, -getElem?_pos, -List.map_take, -List.map_drop, List.getElem?_cons_zero, List.getElem?_cons_succ, Go.IntWalk.iteOmega, Go.IntWalk.toNatUp, hlt]
    refine IWp.ret ?_
    simp [go_sem, -getElem?_pos, -List.map_take, -List.map_drop, List.getElem?_cons_zero, List.getElem?_cons_succ, Go.IntWalk.iteOmega, Go.IntWalk.toNatUp, hlt, Try.results16]
    try exact .same _
theorem containsLamp (H : Heap) (T : List Lamp) (g : FuncId) (cap : List Value) (hcc : ClL cap) (p : Lamp → Bool) (hT : T.length ≤ 1000000) (hc : ∀ l ∈ T, ∀ K, ICalls Try.prog g (l.val :: cap) K fun v H' => v = .bool (p l) ∧ H' = K) :
    ICalls Try.prog 11 [frow 5 0 (T.map Lamp.val), .func (.func g) ⟨[]⟩ ⟨cap⟩] H fun v H' => v = .bool (T.any p) ∧ H' = H := by
  refine ICalls.ans (by simp [go_sem]) fun H => IBody.calls (by kernel_rfl) ?_
  have hq : decide (0 ≤ idxS p T) = T.any p := by
    unfold idxS
    cases h : T.findIdx? p with
    | none => rw [List.any_eq_false.2 fun x hx => by rw [List.findIdx?_eq_none_iff.1 h x hx]; simp]; rfl
    | some i =>
      obtain ⟨h1, h2, _⟩ := List.findIdx?_eq_some_iff_getElem.1 h
      rw [List.any_eq_true.2 ⟨_, List.getElem_mem h1, h2⟩]; simp
  refine IBody.of Try.func11 rfl (by rw [Try.ntmps11]; simp) ?_
  rw [Try.ntmps11]
  refine IWp.seq ?_
  refine IWp.run [0, 1] ?_
  simp [go_sem, -getElem?_pos, -List.map_take, -List.map_drop, List.getElem?_cons_zero, List.getElem?_cons_succ, Go.IntWalk.iteOmega, Go.IntWalk.toNatUp, hq]
  refine IWp.seq ?_
  refine IWp.run [4] ?_
  simp [go_sem, -getElem?_pos, -List.map_take, -List.map_drop, List.getElem?_cons_zero, List.getElem?_cons_succ, Go.IntWalk.iteOmega, Go.IntWalk.toNatUp, hq]
  refine ICalls.then (indexLamp _ T g cap hcc p hT hc) ?_
  try simp [go_sem, -getElem?_pos, -List.map_take, -List.map_drop, List.getElem?_cons_zero, List.getElem?_cons_succ, Go.IntWalk.iteOmega, Go.IntWalk.toNatUp, hq]
  refine IWp.ret ?_
  simp [go_sem, -getElem?_pos, -List.map_take, -List.map_drop, List.getElem?_cons_zero, List.getElem?_cons_succ, Go.IntWalk.iteOmega, Go.IntWalk.toNatUp, hq, Try.results11]
  try exact .same _

theorem indexCmd (H : Heap) (T : List Cmd) (g : FuncId) (cap : List Value) (hcc : ClL cap) (p : Cmd → Bool) (hT : T.length ≤ 1000000) (hc : ∀ l ∈ T, ∀ K, ICalls Try.prog g (l.val :: cap) K fun v H' => v = .bool (p l) ∧ H' = K) :
    ICalls Try.prog 20 [frow 3 0 (T.map Cmd.val), .func (.func g) ⟨[]⟩ ⟨cap⟩] H fun v H' => v = .int .i64 (idxS p T) ∧ H' = H := by
  refine ICalls.ans (by simp [go_sem]) fun H => IBody.calls (by kernel_rfl) ?_
  refine IBody.of Try.func20 rfl (by rw [Try.ntmps20]; simp) ?_
  rw [Try.ntmps20]
  refine IWp.seq ?_
  refine IWp.run [0, 1] ?_
  simp [go_sem, -getElem?_pos, -List.map_take, -List.map_drop, List.getElem?_cons_zero, List.getElem?_cons_succ, Go.IntWalk.iteOmega, Go.IntWalk.toNatUp]
  refine IWp.seq ?_
  refine IWp.seq ?_
  refine IWp.run [0, 1, 7, 8] ?_
  simp [go_sem, -getElem?_pos, -List.map_take, -List.map_drop, List.getElem?_cons_zero, List.getElem?_cons_succ, Go.IntWalk.iteOmega, Go.IntWalk.toNatUp]
  refine IWp.block ?_
  -- LOOP live [0, 1, 7, 8]
  refine IWp.loop (fun q e K => ∃ i : Nat, q = T.length - i ∧ i ≤ T.length ∧ K = H ∧ e = [(0, frow 3 0 (T.map Cmd.val)), (1, .func (.func g) ⟨[]⟩ ⟨cap⟩), (7, .int .i64 T.length), (8, .int .i64 (i : Int))] ∧ ∀ x ∈ T.take i, p x = false) T.length ⟨0, rfl, Nat.zero_le _, rfl, by simp [go_sem], by simp⟩ ?_
  rintro q e K ⟨i, rfl, hi, rfl, rfl, hno⟩
  have wi := IntWalk.i64_in ((i : Int) + 1) (by omega)
  by_cases hlt : i < T.length
  · have gi : (T.map Cmd.val)[i]? = some (T[i]).val := by simp [hlt]
    have hm : T[i] ∈ T := List.getElem_mem hlt
    have c1 := hc _ hm
    have hst : ∀ x ∈ T.take (i + 1), x ∈ T.take i ∨ x = T[i] := fun x hx => by rw [List.take_succ_eq_append_getElem hlt, List.mem_append, List.mem_singleton] at hx; exact hx
    have hsome := fun hp => idxS_some (p := p) hlt hp hno
    generalize T[i] = x at *
    simp only [Cmd.val, Cmd.cells] at gi c1
    cases hp : p x with
    | true =>
      rw [hp] at c1
      rw [show idxS p T = i by unfold idxS; rw [hsome hp]]
      refine IWp.seq ?_
      refine IWp.run [0, 1, 7, 8, 9] ?_
      simp [go_sem, -getElem?_pos, -List.map_take, -List.map_drop, List.getElem?_cons_zero, List.getElem?_cons_succ, Go.IntWalk.iteOmega, Go.IntWalk.toNatUp, hlt, gi]
      refine IWp.seq ?_
      refine IWp.cond ?_
      simp [go_sem, -getElem?_pos, -List.map_take, -List.map_drop, List.getElem?_cons_zero, List.getElem?_cons_succ, Go.IntWalk.iteOmega, Go.IntWalk.toNatUp, hlt, gi]
      refine IWp.trim [0, 1, 7, 8] (IWp.skip ?_)
      simp [go_sem, -getElem?_pos, -List.map_take, -List.map_drop, List.getElem?_cons_zero, List.getElem?_cons_succ, Go.IntWalk.iteOmega, Go.IntWalk.toNatUp, hlt, gi]
      refine IWp.seq ?_
      refine IWp.block ?_
      refine IWp.seq ?_
      refine IWp.run [0, 1, 5, 7, 8] ?_
      simp [go_sem, -getElem?_pos, -List.map_take, -List.map_drop, List.getElem?_cons_zero, List.getElem?_cons_succ, Go.IntWalk.iteOmega, Go.IntWalk.toNatUp, hlt, gi]
      refine IWp.seq ?_
      refine IWp.run [0, 1, 5, 7, 8, 16] ?_
      simp [go_sem, -getElem?_pos, -List.map_take, -List.map_drop, List.getElem?_cons_zero, List.getElem?_cons_succ, Go.IntWalk.iteOmega, Go.IntWalk.toNatUp, hlt, gi]
      refine ICalls.then (c1 _) ?_
      try simp [go_sem, -getElem?_pos, -List.map_take, -List.map_drop, List.getElem?_cons_zero, List.getElem?_cons_succ, Go.IntWalk.iteOmega, Go.IntWalk.toNatUp, hlt, gi]
      refine IWp.cond ?_
      simp [go_sem, -getElem?_pos, -List.map_take, -List.map_drop, List.getElem?_cons_zero, List.getElem?_cons_succ, Go.IntWalk.iteOmega, Go.IntWalk.toNatUp, hlt, gi]
      refine IWp.seq ?_
      refine IWp.run [4] ?_
      simp [go_sem, -getElem?_pos, -List.map_take, -List.map_drop, List.getElem?_cons_zero, List.getElem?_cons_succ, Go.IntWalk.iteOmega, Go.IntWalk.toNatUp, hlt, gi]
      refine IWp.ret ?_
      simp [go_sem, -getElem?_pos, -List.map_take, -List.map_drop, List.getElem?_cons_zero, List.getElem?_cons_succ, Go.IntWalk.iteOmega, Go.IntWalk.toNatUp, hlt, gi, Try.results20]
      try exact .same _
    | false =>
      rw [hp] at c1
      refine IWp.seq ?_
      refine IWp.run [0, 1, 7, 8, 9] ?_
      simp [go_sem, -getElem?_pos, -List.map_take, -List.map_drop, List.getElem?_cons_zero, List.getElem?_cons_succ, Go.IntWalk.iteOmega, Go.IntWalk.toNatUp, hlt, gi, wi]
      refine IWp.seq ?_
      refine IWp.cond ?_
      simp [go_sem, -getElem?_pos, -List.map_take, -List.map_drop, List.getElem?_cons_zero, List.getElem?_cons_succ, Go.IntWalk.iteOmega, Go.IntWalk.toNatUp, hlt, gi, wi]
      refine IWp.trim [0, 1, 7, 8] (IWp.skip ?_)
      simp [go_sem, -getElem?_pos, -List.map_take, -List.map_drop, List.getElem?_cons_zero, List.getElem?_cons_succ, Go.IntWalk.iteOmega, Go.IntWalk.toNatUp, hlt, gi, wi]
      refine IWp.seq ?_
      refine IWp.block ?_
      refine IWp.seq ?_
      refine IWp.run [0, 1, 5, 7, 8] ?_
      simp [go_sem, -getElem?_pos, -List.map_take, -List.map_drop, List.getElem?_cons_zero, List.getElem?_cons_succ, Go.IntWalk.iteOmega, Go.IntWalk.toNatUp, hlt, gi, wi]
      refine IWp.seq ?_
      refine IWp.run [0, 1, 5, 7, 8, 16] ?_
      simp [go_sem, -getElem?_pos, -List.map_take, -List.map_drop, List.getElem?_cons_zero, List.getElem?_cons_succ, Go.IntWalk.iteOmega, Go.IntWalk.toNatUp, hlt, gi, wi]
      refine ICalls.then (c1 _) ?_
      try simp [go_sem, -getElem?_pos, -List.map_take, -List.map_drop, List.getElem?_cons_zero, List.getElem?_cons_succ, Go.IntWalk.iteOmega, Go.IntWalk.toNatUp, hlt, gi, wi]
      refine IWp.cond ?_
      simp [go_sem, -getElem?_pos, -List.map_take, -List.map_drop, List.getElem?_cons_zero, List.getElem?_cons_succ, Go.IntWalk.iteOmega, Go.IntWalk.toNatUp, hlt, gi, wi]
      refine IWp.trim [0, 1, 7, 8] (IWp.skip ?_)
      simp [go_sem, -getElem?_pos, -List.map_take, -List.map_drop, List.getElem?_cons_zero, List.getElem?_cons_succ, Go.IntWalk.iteOmega, Go.IntWalk.toNatUp, hlt, gi, wi]
      refine IWp.run [0, 1, 7, 8] ?_
      simp [go_sem, -getElem?_pos, -List.map_take, -List.map_drop, List.getElem?_cons_zero, List.getElem?_cons_succ, Go.IntWalk.iteOmega, Go.IntWalk.toNatUp, hlt, gi, wi]
      exact ⟨T.length - (i + 1), by omega, i + 1, rfl, by omega, by omega, fun y hy => (hst y hy).elim (hno y) (fun e => by rw [e, hp])⟩
  · rw [List.take_of_length_le (by omega)] at hno
    rw [show idxS p T = -1 by unfold idxS; rw [List.findIdx?_eq_none_iff.2 hno]]
    refine IWp.seq ?_
    refine IWp.run [0, 1, 7, 8, 9] ?_
    simp [go_sem, -getElem?_pos, -List.map_take, -List.map_drop, List.getElem?_cons_zero, List.getElem?_cons_succ, Go.IntWalk.iteOmega, Go.IntWalk.toNatUp, hlt]
    refine IWp.seq ?_
    refine IWp.cond ?_
    simp [go_sem, -getElem?_pos, -List.map_take, -List.map_drop, List.getElem?_cons_zero, List.getElem?_cons_succ, Go.IntWalk.iteOmega, Go.IntWalk.toNatUp, hlt]
    refine IWp.trim [] (IWp.exit ?_)
    simp [go_sem, -getElem?_pos, -List.map_take, -List.map_drop, List.getElem?_cons_zero, List.getElem?_cons_succ, Go.IntWalk.iteOmega, Go.IntWalk.toNatUp, hlt]
    refine IWp.seq ?_
    refine IWp.run [4] ?_
    simp [go_sem, -getElem?_pos, -List.map_take, -List.map_drop, List.getElem?_cons_zero, List.getElem?_cons_succ, Go.IntWalk.iteOmega, Go.IntWalk.toNatUp, hlt]
    refine IWp.ret ?_
    simp [go_sem, -getElem?_pos, -List.map_take, -List.map_drop, List.getElem?_cons_zero, List.getElem?_cons_succ, Go.IntWalk.iteOmega, Go.IntWalk.toNatUp, hlt, Try.results20]
    try exact .same _
theorem containsCmd (H : Heap) (T : List Cmd) (g : FuncId) (cap : List Value) (hcc : ClL cap) (p : Cmd → Bool) (hT : T.length ≤ 1000000) (hc : ∀ l ∈ T, ∀ K, ICalls Try.prog g (l.val :: cap) K fun v H' => v = .bool (p l) ∧ H' = K) :
    ICalls Try.prog 18 [frow 3 0 (T.map Cmd.val), .func (.func g) ⟨[]⟩ ⟨cap⟩] H fun v H' => v = .bool (T.any p) ∧ H' = H := by
  refine ICalls.ans (by simp [go_sem]) fun H => IBody.calls (by kernel_rfl) ?_
  have hq : decide (0 ≤ idxS p T) = T.any p := by
    unfold idxS
    cases h : T.findIdx? p with
    | none => rw [List.any_eq_false.2 fun x hx => by rw [List.findIdx?_eq_none_iff.1 h x hx]; simp]; rfl
    | some i =>
      obtain ⟨h1, h2, _⟩ := List.findIdx?_eq_some_iff_getElem.1 h
      rw [List.any_eq_true.2 ⟨_, List.getElem_mem h1, h2⟩]; simp
  refine IBody.of Try.func18 rfl (by rw [Try.ntmps18]; simp) ?_
  rw [Try.ntmps18]
  refine IWp.seq ?_
  refine IWp.run [0, 1] ?_
  simp [go_sem, -getElem?_pos, -List.map_take, -List.map_drop, List.getElem?_cons_zero, List.getElem?_cons_succ, Go.IntWalk.iteOmega, Go.IntWalk.toNatUp, hq]
  refine IWp.seq ?_
  refine IWp.run [4] ?_
  simp [go_sem, -getElem?_pos, -List.map_take, -List.map_drop, List.getElem?_cons_zero, List.getElem?_cons_succ, Go.IntWalk.iteOmega, Go.IntWalk.toNatUp, hq]
  refine ICalls.then (indexCmd _ T g cap hcc p hT hc) ?_
  try simp [go_sem, -getElem?_pos, -List.map_take, -List.map_drop, List.getElem?_cons_zero, List.getElem?_cons_succ, Go.IntWalk.iteOmega, Go.IntWalk.toNatUp, hq]
  refine IWp.ret ?_
  simp [go_sem, -getElem?_pos, -List.map_take, -List.map_drop, List.getElem?_cons_zero, List.getElem?_cons_succ, Go.IntWalk.iteOmega, Go.IntWalk.toNatUp, hq, Try.results18]
  try exact .same _

/-! ### finding, resetting -/
def lampZ : Lamp := ⟨0, 0, 0, false, false⟩
def isCond (c : Int) (x : Lamp) : Bool := decide (x.cond = c)
def findS (T : List Lamp) (c : Int) : Option Lamp := match T.findIdx? (isCond c) with | some i => T[i]? | none => none
theorem findF (H : Heap) (x : Lamp) (c : Int) : ICalls Try.prog 17 [x.val, fptr 0 (.int .i64 c)] H fun v H' => v = .bool (isCond c x) ∧ H' = H := by
  refine ICalls.ans (by simp [go_sem]) fun H => IBody.calls (by kernel_rfl) ?_
  unfold isCond
  refine IBody.of Try.func17 rfl (by rw [Try.ntmps17]; simp) ?_
  rw [Try.ntmps17]
  refine IWp.seq ?_
  refine IWp.run [1, 2] ?_
  simp [go_sem, -getElem?_pos, -List.map_take, -List.map_drop, List.getElem?_cons_zero, List.getElem?_cons_succ, Go.IntWalk.iteOmega, Go.IntWalk.toNatUp, Lamp.val, Lamp.cells]
  refine IWp.seq ?_
  refine IWp.run [3] ?_
  simp [go_sem, -getElem?_pos, -List.map_take, -List.map_drop, List.getElem?_cons_zero, List.getElem?_cons_succ, Go.IntWalk.iteOmega, Go.IntWalk.toNatUp, Lamp.val, Lamp.cells]
  refine IWp.ret ?_
  simp [go_sem, -getElem?_pos, -List.map_take, -List.map_drop, List.getElem?_cons_zero, List.getElem?_cons_succ, Go.IntWalk.iteOmega, Go.IntWalk.toNatUp, Lamp.val, Lamp.cells, Try.results17]
  try exact .same _
theorem find (H : Heap) (o : Outp) (c : Int) (hl : o.lamps.length ≤ 1000000) : ICalls Try.prog 13 [o.val, .int .i64 c] H fun v H' => v = .tuple ⟨[((findS o.lamps c).getD lampZ).val, .bool (findS o.lamps c).isSome]⟩ ∧ H' = H := by
  refine ICalls.ans (by simp [go_sem]; exact Lamp.cl_val _ ▸ trivial) fun H => IBody.calls (by kernel_rfl) ?_
  refine IBody.of Try.func13 rfl (by rw [Try.ntmps13]; simp) ?_
  rw [Try.ntmps13]
  refine IWp.seq ?_
  refine IWp.run [2, 3, 4] ?_
  simp [go_sem, -getElem?_pos, -List.map_take, -List.map_drop, List.getElem?_cons_zero, List.getElem?_cons_succ, Go.IntWalk.iteOmega, Go.IntWalk.toNatUp, Outp.val, Outp.cells]
  refine IWp.seq ?_
  refine IWp.run [2, 4, 6] ?_
  simp [go_sem, -getElem?_pos, -List.map_take, -List.map_drop, List.getElem?_cons_zero, List.getElem?_cons_succ, Go.IntWalk.iteOmega, Go.IntWalk.toNatUp, Outp.val, Outp.cells]
  refine ICalls.freeze1 (H.next + 1) (.cons (.same _) (.cons (.clo (.cons (.ptrL (cs := [.int .i64 c]) (by simp [get_alloc, next_alloc]) (by simp) (FrzL.same _)) .nil)) .nil)) (ICalls.then (indexLamp _ o.lamps _ [fptr 0 (.int .i64 c)] (by simp [go_sem]) (isCond c) hl fun x hx K => findF K x c) ?_)
  have hb := fun i (h : o.lamps.findIdx? (isCond c) = some i) => (List.findIdx?_eq_some_iff_getElem.1 h).1
  simp [go_sem]
  cases hq : o.lamps.findIdx? (isCond c) with
  | none =>
    rw [show findS o.lamps c = none by unfold findS; rw [hq], show idxS (isCond c) o.lamps = -1 by unfold idxS; rw [hq]]
    refine IWp.seq ?_
    refine IWp.seq ?_
    refine IWp.run [2, 4, 6, 12] ?_
    simp [go_sem, -getElem?_pos, -List.map_take, -List.map_drop, List.getElem?_cons_zero, List.getElem?_cons_succ, Go.IntWalk.iteOmega, Go.IntWalk.toNatUp, get_kill, get_alloc, next_alloc, show ∀ n : Nat, ¬ n = n + 1 + 1 by omega, show ∀ n : Nat, ¬ n + 1 + 1 = n + 1 by omega]
    refine IWp.cond ?_
    simp [go_sem, -getElem?_pos, -List.map_take, -List.map_drop, List.getElem?_cons_zero, List.getElem?_cons_succ, Go.IntWalk.iteOmega, Go.IntWalk.toNatUp, get_kill, get_alloc, next_alloc, show ∀ n : Nat, ¬ n = n + 1 + 1 by omega, show ∀ n : Nat, ¬ n + 1 + 1 = n + 1 by omega]
    refine IWp.seq ?_
    refine IWp.run [4, 5] ?_
    simp [go_sem, -getElem?_pos, -List.map_take, -List.map_drop, List.getElem?_cons_zero, List.getElem?_cons_succ, Go.IntWalk.iteOmega, Go.IntWalk.toNatUp, get_kill, get_alloc, next_alloc, show ∀ n : Nat, ¬ n = n + 1 + 1 by omega, show ∀ n : Nat, ¬ n + 1 + 1 = n + 1 by omega]
    refine IWp.ret ?_
    simp [go_sem, -getElem?_pos, -List.map_take, -List.map_drop, List.getElem?_cons_zero, List.getElem?_cons_succ, Go.IntWalk.iteOmega, Go.IntWalk.toNatUp, get_kill, get_alloc, next_alloc, show ∀ n : Nat, ¬ n = n + 1 + 1 by omega, show ∀ n : Nat, ¬ n + 1 + 1 = n + 1 by omega, Try.results13]
    try exact .same _
  | some i =>
    have hi := hb i hq
    have g : (o.lamps.map Lamp.val)[i]? = some (o.lamps[i]).val := by simp [hi]
    rw [show findS o.lamps c = some o.lamps[i] by unfold findS; rw [hq]; exact List.getElem?_eq_getElem hi, show idxS (isCond c) o.lamps = i by unfold idxS; rw [hq]]
    generalize o.lamps[i] = x at *
    refine IWp.seq ?_
    refine IWp.seq ?_
    refine IWp.run [2, 4, 6, 12] ?_
    simp [go_sem, -getElem?_pos, -List.map_take, -List.map_drop, List.getElem?_cons_zero, List.getElem?_cons_succ, Go.IntWalk.iteOmega, Go.IntWalk.toNatUp, get_kill, get_alloc, next_alloc, g, hi, Lamp.val, Lamp.cells, show ¬ ((i : Int) < 0) by omega, show ∀ n : Nat, ¬ n = n + 1 + 1 by omega, show ∀ n : Nat, ¬ n + 1 + 1 = n + 1 by omega]
    refine IWp.cond ?_
    simp [go_sem, -getElem?_pos, -List.map_take, -List.map_drop, List.getElem?_cons_zero, List.getElem?_cons_succ, Go.IntWalk.iteOmega, Go.IntWalk.toNatUp, get_kill, get_alloc, next_alloc, g, hi, Lamp.val, Lamp.cells, show ¬ ((i : Int) < 0) by omega, show ∀ n : Nat, ¬ n = n + 1 + 1 by omega, show ∀ n : Nat, ¬ n + 1 + 1 = n + 1 by omega]
    refine IWp.trim [2, 4, 6] (IWp.skip ?_)
    simp [go_sem, -getElem?_pos, -List.map_take, -List.map_drop, List.getElem?_cons_zero, List.getElem?_cons_succ, Go.IntWalk.iteOmega, Go.IntWalk.toNatUp, get_kill, get_alloc, next_alloc, g, hi, Lamp.val, Lamp.cells, show ¬ ((i : Int) < 0) by omega, show ∀ n : Nat, ¬ n = n + 1 + 1 by omega, show ∀ n : Nat, ¬ n + 1 + 1 = n + 1 by omega]
    refine IWp.seq ?_
    refine IWp.run [4, 5] ?_
    simp [go_sem, -getElem?_pos, -List.map_take, -List.map_drop, List.getElem?_cons_zero, List.getElem?_cons_succ, Go.IntWalk.iteOmega, Go.IntWalk.toNatUp, get_kill, get_alloc, next_alloc, g, hi, Lamp.val, Lamp.cells, show ¬ ((i : Int) < 0) by omega, show ∀ n : Nat, ¬ n = n + 1 + 1 by omega, show ∀ n : Nat, ¬ n + 1 + 1 = n + 1 by omega]
    refine IWp.ret ?_
    simp [go_sem, -getElem?_pos, -List.map_take, -List.map_drop, List.getElem?_cons_zero, List.getElem?_cons_succ, Go.IntWalk.iteOmega, Go.IntWalk.toNatUp, get_kill, get_alloc, next_alloc, g, hi, Lamp.val, Lamp.cells, show ¬ ((i : Int) < 0) by omega, show ∀ n : Nat, ¬ n = n + 1 + 1 by omega, show ∀ n : Nat, ¬ n + 1 + 1 = n + 1 by omega, Try.results13]
    try exact .same _

def resetB (c : Int) (x : Cmd) : Bool := decide (x.kind = 7) || (decide (x.kind = 6) && decide (x.n = c))
theorem resetF (H : Heap) (x : Cmd) (c : Int) : ICalls Try.prog 19 [x.val, fptr 0 (.int .i64 c)] H fun v H' => v = .bool (resetB c x) ∧ H' = H := by
  refine ICalls.ans (by simp [go_sem]) fun H => IBody.calls (by kernel_rfl) ?_
  unfold resetB
  by_cases h7 : x.kind = 7
  · skip
    refine IBody.of Try.func19 rfl (by rw [Try.ntmps19]; simp) ?_
    rw [Try.ntmps19]
    refine IWp.seq ?_
    refine IWp.run [1, 2] ?_
    simp [go_sem, -getElem?_pos, -List.map_take, -List.map_drop, List.getElem?_cons_zero, List.getElem?_cons_succ, Go.IntWalk.iteOmega, Go.IntWalk.toNatUp, h7, Cmd.val, Cmd.cells]
    refine IWp.seq ?_
    refine IWp.run [3] ?_
    simp [go_sem, -getElem?_pos, -List.map_take, -List.map_drop, List.getElem?_cons_zero, List.getElem?_cons_succ, Go.IntWalk.iteOmega, Go.IntWalk.toNatUp, h7, Cmd.val, Cmd.cells]
    refine IWp.ret ?_
    simp [go_sem, -getElem?_pos, -List.map_take, -List.map_drop, List.getElem?_cons_zero, List.getElem?_cons_succ, Go.IntWalk.iteOmega, Go.IntWalk.toNatUp, h7, Cmd.val, Cmd.cells, Try.results19]
    try exact .same _
  by_cases h6 : x.kind = 6
  · skip
    refine IBody.of Try.func19 rfl (by rw [Try.ntmps19]; simp) ?_
    rw [Try.ntmps19]
    refine IWp.seq ?_
    refine IWp.run [1, 2] ?_
    simp [go_sem, -getElem?_pos, -List.map_take, -List.map_drop, List.getElem?_cons_zero, List.getElem?_cons_succ, Go.IntWalk.iteOmega, Go.IntWalk.toNatUp, h6, h7, Cmd.val, Cmd.cells]
    refine IWp.seq ?_
    refine IWp.run [3] ?_
    simp [go_sem, -getElem?_pos, -List.map_take, -List.map_drop, List.getElem?_cons_zero, List.getElem?_cons_succ, Go.IntWalk.iteOmega, Go.IntWalk.toNatUp, h6, h7, Cmd.val, Cmd.cells]
    refine IWp.ret ?_
    simp [go_sem, -getElem?_pos, -List.map_take, -List.map_drop, List.getElem?_cons_zero, List.getElem?_cons_succ, Go.IntWalk.iteOmega, Go.IntWalk.toNatUp, h6, h7, Cmd.val, Cmd.cells, Try.results19]
    try exact .same _
  · skip
    refine IBody.of Try.func19 rfl (by rw [Try.ntmps19]; simp) ?_
    rw [Try.ntmps19]
    refine IWp.seq ?_
    refine IWp.run [1, 2] ?_
    simp [go_sem, -getElem?_pos, -List.map_take, -List.map_drop, List.getElem?_cons_zero, List.getElem?_cons_succ, Go.IntWalk.iteOmega, Go.IntWalk.toNatUp, h6, h7, Cmd.val, Cmd.cells]
    refine IWp.seq ?_
    refine IWp.run [3] ?_
    simp [go_sem, -getElem?_pos, -List.map_take, -List.map_drop, List.getElem?_cons_zero, List.getElem?_cons_succ, Go.IntWalk.iteOmega, Go.IntWalk.toNatUp, h6, h7, Cmd.val, Cmd.cells]
    refine IWp.ret ?_
    simp [go_sem, -getElem?_pos, -List.map_take, -List.map_drop, List.getElem?_cons_zero, List.getElem?_cons_succ, Go.IntWalk.iteOmega, Go.IntWalk.toNatUp, h6, h7, Cmd.val, Cmd.cells, Try.results19]
    try exact .same _
theorem reset (H : Heap) (L : List Cmd) (c : Int) (hl : L.length ≤ 1000000) : ICalls Try.prog 15 [frow 3 0 (L.map Cmd.val), .int .i64 c] H fun v H' => v = .bool (L.any (resetB c)) ∧ H' = H := by
  refine ICalls.ans (by simp [go_sem]) fun H => IBody.calls (by kernel_rfl) ?_
  refine IBody.of Try.func15 rfl (by rw [Try.ntmps15]; simp) ?_
  rw [Try.ntmps15]
  refine IWp.seq ?_
  refine IWp.run [0, 3] ?_
  simp [go_sem, -getElem?_pos, -List.map_take, -List.map_drop, List.getElem?_cons_zero, List.getElem?_cons_succ, Go.IntWalk.iteOmega, Go.IntWalk.toNatUp]
  refine IWp.seq ?_
  refine IWp.run [4] ?_
  simp [go_sem, -getElem?_pos, -List.map_take, -List.map_drop, List.getElem?_cons_zero, List.getElem?_cons_succ, Go.IntWalk.iteOmega, Go.IntWalk.toNatUp]
  refine ICalls.freeze1 H.next (.cons (.same _) (.cons (.clo (.cons (.ptrL (cs := [.int .i64 c]) (by simp [get_alloc]) (by simp) (FrzL.same _)) .nil)) .nil)) (ICalls.then (containsCmd _ L _ [fptr 0 (.int .i64 c)] (by simp [go_sem]) (resetB c) hl fun x hx K => resetF K x c) ?_)
  simp [go_sem]
  refine IWp.ret ?_
  simp [go_sem, -getElem?_pos, -List.map_take, -List.map_drop, List.getElem?_cons_zero, List.getElem?_cons_succ, Go.IntWalk.iteOmega, Go.IntWalk.toNatUp, Try.results15]
  try exact .same _
def ruleIn (c : Config) (k : Int) : Bool := decide (0 ≤ k) && decide (k < c.rules.length)
theorem ruleC (H : Heap) (c : Config) (k : Int) : ICalls Try.prog 14 [c.val, .int .i64 k] H fun v H' => v = .bool (ruleIn c k) ∧ H' = H := by
  refine ICalls.ans (by simp [go_sem]) fun H => IBody.calls (by kernel_rfl) ?_
  unfold ruleIn
  by_cases h : 0 ≤ k
  · skip
    refine IBody.of Try.func14 rfl (by rw [Try.ntmps14]; simp) ?_
    rw [Try.ntmps14]
    refine IWp.seq ?_
    refine IWp.run [1, 2] ?_
    simp [go_sem, -getElem?_pos, -List.map_take, -List.map_drop, List.getElem?_cons_zero, List.getElem?_cons_succ, Go.IntWalk.iteOmega, Go.IntWalk.toNatUp, h, Config.val, Config.cells]
    refine IWp.seq ?_
    refine IWp.run [4] ?_
    simp [go_sem, -getElem?_pos, -List.map_take, -List.map_drop, List.getElem?_cons_zero, List.getElem?_cons_succ, Go.IntWalk.iteOmega, Go.IntWalk.toNatUp, h, Config.val, Config.cells]
    refine IWp.ret ?_
    simp [go_sem, -getElem?_pos, -List.map_take, -List.map_drop, List.getElem?_cons_zero, List.getElem?_cons_succ, Go.IntWalk.iteOmega, Go.IntWalk.toNatUp, h, Config.val, Config.cells, Try.results14]
    try exact .same _
  · skip
    refine IBody.of Try.func14 rfl (by rw [Try.ntmps14]; simp) ?_
    rw [Try.ntmps14]
    refine IWp.seq ?_
    refine IWp.run [1, 2] ?_
    simp [go_sem, -getElem?_pos, -List.map_take, -List.map_drop, List.getElem?_cons_zero, List.getElem?_cons_succ, Go.IntWalk.iteOmega, Go.IntWalk.toNatUp, h, Config.val, Config.cells]
    refine IWp.seq ?_
    refine IWp.run [4] ?_
    simp [go_sem, -getElem?_pos, -List.map_take, -List.map_drop, List.getElem?_cons_zero, List.getElem?_cons_succ, Go.IntWalk.iteOmega, Go.IntWalk.toNatUp, h, Config.val, Config.cells]
    refine IWp.ret ?_
    simp [go_sem, -getElem?_pos, -List.map_take, -List.map_drop, List.getElem?_cons_zero, List.getElem?_cons_succ, Go.IntWalk.iteOmega, Go.IntWalk.toNatUp, h, Config.val, Config.cells, Try.results14]
    try exact .same _
def latchAt (c : Config) (k : Int) : Bool := match c.rules[k.toNat]? with | some r => r.latch | none => false
def lostB (c : Config) (b : Outp) (L : List Cmd) (x : Lamp) : Bool := ruleIn c x.cond && (latchAt c x.cond && (!(findS b.lamps x.cond).isSome && (x.cause || !(L.any (resetB x.cond)))))
theorem lostF (H : Heap) (c : Config) (b : Outp) (L : List Cmd) (x : Lamp) (hb : b.lamps.length ≤ 1000000) (hl : L.length ≤ 1000000) :
    ICalls Try.prog 12 [x.val, fptr 0 b.val, fptr 0 c.val, fptr 0 (frow 3 0 (L.map Cmd.val))] H fun v H' => v = .bool (lostB c b L x) ∧ H' = H := by
  refine ICalls.ans (by simp [go_sem]) fun H => IBody.calls (by kernel_rfl) ?_
  have c1 := fun K => find K b x.cond hb
  have c2 := fun K => ruleC K c x.cond
  have c3 := fun K => reset K L x.cond hl
  unfold lostB
  generalize (findS b.lamps x.cond).getD lampZ = y at *
  generalize (findS b.lamps x.cond).isSome = st at *
  generalize hrs : L.any (resetB x.cond) = rs at *
  simp only [Outp.val, Outp.cells, Config.val, Config.cells, Lamp.val, Lamp.cells] at c1 c2 c3
  cases hr : ruleIn c x.cond with
  | false =>
    rw [hr] at c2
    refine IBody.of Try.func12 rfl (by rw [Try.ntmps12]; simp) ?_
    rw [Try.ntmps12]
    refine IWp.seq ?_
    refine IWp.run [1, 2, 3, 4] ?_
    simp [go_sem, -getElem?_pos, -List.map_take, -List.map_drop, List.getElem?_cons_zero, List.getElem?_cons_succ, Go.IntWalk.iteOmega, Go.IntWalk.toNatUp, Outp.val, Outp.cells, Config.val, Config.cells, Lamp.val, Lamp.cells]
    refine IWp.seq ?_
    refine IWp.run [2, 3, 4, 7] ?_
    simp [go_sem, -getElem?_pos, -List.map_take, -List.map_drop, List.getElem?_cons_zero, List.getElem?_cons_succ, Go.IntWalk.iteOmega, Go.IntWalk.toNatUp, Outp.val, Outp.cells, Config.val, Config.cells, Lamp.val, Lamp.cells]
    refine ICalls.then (c1 _) ?_
    try simp [go_sem, -getElem?_pos, -List.map_take, -List.map_drop, List.getElem?_cons_zero, List.getElem?_cons_succ, Go.IntWalk.iteOmega, Go.IntWalk.toNatUp, Outp.val, Outp.cells, Config.val, Config.cells, Lamp.val, Lamp.cells]
    refine IWp.seq ?_
    refine IWp.run [5] ?_
    simp [go_sem, -getElem?_pos, -List.map_take, -List.map_drop, List.getElem?_cons_zero, List.getElem?_cons_succ, Go.IntWalk.iteOmega, Go.IntWalk.toNatUp, Outp.val, Outp.cells, Config.val, Config.cells, Lamp.val, Lamp.cells]
    refine ICalls.then (c2 _) ?_
    try simp [go_sem, -getElem?_pos, -List.map_take, -List.map_drop, List.getElem?_cons_zero, List.getElem?_cons_succ, Go.IntWalk.iteOmega, Go.IntWalk.toNatUp, Outp.val, Outp.cells, Config.val, Config.cells, Lamp.val, Lamp.cells]
    refine IWp.ret ?_
    simp [go_sem, -getElem?_pos, -List.map_take, -List.map_drop, List.getElem?_cons_zero, List.getElem?_cons_succ, Go.IntWalk.iteOmega, Go.IntWalk.toNatUp, Outp.val, Outp.cells, Config.val, Config.cells, Lamp.val, Lamp.cells, Try.results12]
    try exact .same _
  | true =>
    rw [hr] at c2
    have h1 : 0 ≤ x.cond ∧ x.cond < c.rules.length := by unfold ruleIn at hr; simpa using hr
    have h1a := h1.1
    have h1b := h1.2
    have hlt : x.cond.toNat < c.rules.length := by omega
    obtain ⟨r, hr1⟩ : ∃ r, c.rules[x.cond.toNat]? = some r := ⟨_, List.getElem?_eq_getElem hlt⟩
    have g : (c.rules.map Rule.val)[x.cond.toNat]? = some r.val := by rw [List.getElem?_map, hr1]; rfl
    rw [show latchAt c x.cond = r.latch by unfold latchAt; rw [hr1]]
    simp only [Rule.val, Rule.cells] at g
    generalize r.latch = la at *
    cases la
    · skip
      refine IBody.of Try.func12 rfl (by rw [Try.ntmps12]; simp) ?_
      rw [Try.ntmps12]
      refine IWp.seq ?_
      refine IWp.run [1, 2, 3, 4] ?_
      simp [go_sem, -getElem?_pos, -List.map_take, -List.map_drop, List.getElem?_cons_zero, List.getElem?_cons_succ, Go.IntWalk.iteOmega, Go.IntWalk.toNatUp, g, h1a, h1b, hlt, Outp.val, Outp.cells, Config.val, Config.cells, Lamp.val, Lamp.cells]
      refine IWp.seq ?_
      refine IWp.run [2, 3, 4, 7] ?_
      simp [go_sem, -getElem?_pos, -List.map_take, -List.map_drop, List.getElem?_cons_zero, List.getElem?_cons_succ, Go.IntWalk.iteOmega, Go.IntWalk.toNatUp, g, h1a, h1b, hlt, Outp.val, Outp.cells, Config.val, Config.cells, Lamp.val, Lamp.cells]
      refine ICalls.then (c1 _) ?_
      try simp [go_sem, -getElem?_pos, -List.map_take, -List.map_drop, List.getElem?_cons_zero, List.getElem?_cons_succ, Go.IntWalk.iteOmega, Go.IntWalk.toNatUp, g, h1a, h1b, hlt, Outp.val, Outp.cells, Config.val, Config.cells, Lamp.val, Lamp.cells]
      refine IWp.seq ?_
      refine IWp.run [5] ?_
      simp [go_sem, -getElem?_pos, -List.map_take, -List.map_drop, List.getElem?_cons_zero, List.getElem?_cons_succ, Go.IntWalk.iteOmega, Go.IntWalk.toNatUp, g, h1a, h1b, hlt, Outp.val, Outp.cells, Config.val, Config.cells, Lamp.val, Lamp.cells]
      refine ICalls.then (c2 _) ?_
      try simp [go_sem, -getElem?_pos, -List.map_take, -List.map_drop, List.getElem?_cons_zero, List.getElem?_cons_succ, Go.IntWalk.iteOmega, Go.IntWalk.toNatUp, g, h1a, h1b, hlt, Outp.val, Outp.cells, Config.val, Config.cells, Lamp.val, Lamp.cells]
      refine IWp.ret ?_
      simp [go_sem, -getElem?_pos, -List.map_take, -List.map_drop, List.getElem?_cons_zero, List.getElem?_cons_succ, Go.IntWalk.iteOmega, Go.IntWalk.toNatUp, g, h1a, h1b, hlt, Outp.val, Outp.cells, Config.val, Config.cells, Lamp.val, Lamp.cells, Try.results12]
      try exact .same _
    cases st
    case true =>
      refine IBody.of Try.func12 rfl (by rw [Try.ntmps12]; simp) ?_
      rw [Try.ntmps12]
      refine IWp.seq ?_
      refine IWp.run [1, 2, 3, 4] ?_
      simp [go_sem, -getElem?_pos, -List.map_take, -List.map_drop, List.getElem?_cons_zero, List.getElem?_cons_succ, Go.IntWalk.iteOmega, Go.IntWalk.toNatUp, g, h1a, h1b, hlt, Outp.val, Outp.cells, Config.val, Config.cells, Lamp.val, Lamp.cells]
      refine IWp.seq ?_
      refine IWp.run [2, 3, 4, 7] ?_
      simp [go_sem, -getElem?_pos, -List.map_take, -List.map_drop, List.getElem?_cons_zero, List.getElem?_cons_succ, Go.IntWalk.iteOmega, Go.IntWalk.toNatUp, g, h1a, h1b, hlt, Outp.val, Outp.cells, Config.val, Config.cells, Lamp.val, Lamp.cells]
      refine ICalls.then (c1 _) ?_
      try simp [go_sem, -getElem?_pos, -List.map_take, -List.map_drop, List.getElem?_cons_zero, List.getElem?_cons_succ, Go.IntWalk.iteOmega, Go.IntWalk.toNatUp, g, h1a, h1b, hlt, Outp.val, Outp.cells, Config.val, Config.cells, Lamp.val, Lamp.cells]
      refine IWp.seq ?_
      refine IWp.run [5] ?_
      simp [go_sem, -getElem?_pos, -List.map_take, -List.map_drop, List.getElem?_cons_zero, List.getElem?_cons_succ, Go.IntWalk.iteOmega, Go.IntWalk.toNatUp, g, h1a, h1b, hlt, Outp.val, Outp.cells, Config.val, Config.cells, Lamp.val, Lamp.cells]
      refine ICalls.then (c2 _) ?_
      try simp [go_sem, -getElem?_pos, -List.map_take, -List.map_drop, List.getElem?_cons_zero, List.getElem?_cons_succ, Go.IntWalk.iteOmega, Go.IntWalk.toNatUp, g, h1a, h1b, hlt, Outp.val, Outp.cells, Config.val, Config.cells, Lamp.val, Lamp.cells]
      refine IWp.ret ?_
      simp [go_sem, -getElem?_pos, -List.map_take, -List.map_drop, List.getElem?_cons_zero, List.getElem?_cons_succ, Go.IntWalk.iteOmega, Go.IntWalk.toNatUp, g, h1a, h1b, hlt, Outp.val, Outp.cells, Config.val, Config.cells, Lamp.val, Lamp.cells, Try.results12]
      try exact .same _
    by_cases hc : x.cause = true
    · rw [hc]
      refine IBody.of Try.func12 rfl (by rw [Try.ntmps12]; simp) ?_
      rw [Try.ntmps12]
      refine IWp.seq ?_
      refine IWp.run [1, 2, 3, 4] ?_
      simp [go_sem, -getElem?_pos, -List.map_take, -List.map_drop, List.getElem?_cons_zero, List.getElem?_cons_succ, Go.IntWalk.iteOmega, Go.IntWalk.toNatUp, g, h1a, h1b, hlt, hc, Outp.val, Outp.cells, Config.val, Config.cells, Lamp.val, Lamp.cells]
      refine IWp.seq ?_
      refine IWp.run [2, 3, 4, 7] ?_
      simp [go_sem, -getElem?_pos, -List.map_take, -List.map_drop, List.getElem?_cons_zero, List.getElem?_cons_succ, Go.IntWalk.iteOmega, Go.IntWalk.toNatUp, g, h1a, h1b, hlt, hc, Outp.val, Outp.cells, Config.val, Config.cells, Lamp.val, Lamp.cells]
      refine ICalls.then (c1 _) ?_
      try simp [go_sem, -getElem?_pos, -List.map_take, -List.map_drop, List.getElem?_cons_zero, List.getElem?_cons_succ, Go.IntWalk.iteOmega, Go.IntWalk.toNatUp, g, h1a, h1b, hlt, hc, Outp.val, Outp.cells, Config.val, Config.cells, Lamp.val, Lamp.cells]
      refine IWp.seq ?_
      refine IWp.run [5] ?_
      simp [go_sem, -getElem?_pos, -List.map_take, -List.map_drop, List.getElem?_cons_zero, List.getElem?_cons_succ, Go.IntWalk.iteOmega, Go.IntWalk.toNatUp, g, h1a, h1b, hlt, hc, Outp.val, Outp.cells, Config.val, Config.cells, Lamp.val, Lamp.cells]
      refine ICalls.then (c2 _) ?_
      try simp [go_sem, -getElem?_pos, -List.map_take, -List.map_drop, List.getElem?_cons_zero, List.getElem?_cons_succ, Go.IntWalk.iteOmega, Go.IntWalk.toNatUp, g, h1a, h1b, hlt, hc, Outp.val, Outp.cells, Config.val, Config.cells, Lamp.val, Lamp.cells]
      refine IWp.ret ?_
      simp [go_sem, -getElem?_pos, -List.map_take, -List.map_drop, List.getElem?_cons_zero, List.getElem?_cons_succ, Go.IntWalk.iteOmega, Go.IntWalk.toNatUp, g, h1a, h1b, hlt, hc, Outp.val, Outp.cells, Config.val, Config.cells, Lamp.val, Lamp.cells, Try.results12]
      try exact .same _
    · have hc2 : x.cause = false := by simpa using hc
      rw [hc2]
      refine IBody.of Try.func12 rfl (by rw [Try.ntmps12]; simp) ?_
      rw [Try.ntmps12]
      refine IWp.seq ?_
      refine IWp.run [1, 2, 3, 4] ?_
      simp [go_sem, -getElem?_pos, -List.map_take, -List.map_drop, List.getElem?_cons_zero, List.getElem?_cons_succ, Go.IntWalk.iteOmega, Go.IntWalk.toNatUp, g, h1a, h1b, hlt, hc2, Outp.val, Outp.cells, Config.val, Config.cells, Lamp.val, Lamp.cells]
      refine IWp.seq ?_
      refine IWp.run [2, 3, 4, 7] ?_
      simp [go_sem, -getElem?_pos, -List.map_take, -List.map_drop, List.getElem?_cons_zero, List.getElem?_cons_succ, Go.IntWalk.iteOmega, Go.IntWalk.toNatUp, g, h1a, h1b, hlt, hc2, Outp.val, Outp.cells, Config.val, Config.cells, Lamp.val, Lamp.cells]
      refine ICalls.then (c1 _) ?_
      try simp [go_sem, -getElem?_pos, -List.map_take, -List.map_drop, List.getElem?_cons_zero, List.getElem?_cons_succ, Go.IntWalk.iteOmega, Go.IntWalk.toNatUp, g, h1a, h1b, hlt, hc2, Outp.val, Outp.cells, Config.val, Config.cells, Lamp.val, Lamp.cells]
      refine IWp.seq ?_
      refine IWp.run [5] ?_
      simp [go_sem, -getElem?_pos, -List.map_take, -List.map_drop, List.getElem?_cons_zero, List.getElem?_cons_succ, Go.IntWalk.iteOmega, Go.IntWalk.toNatUp, g, h1a, h1b, hlt, hc2, Outp.val, Outp.cells, Config.val, Config.cells, Lamp.val, Lamp.cells]
      refine ICalls.then (c2 _) ?_
      try simp [go_sem, -getElem?_pos, -List.map_take, -List.map_drop, List.getElem?_cons_zero, List.getElem?_cons_succ, Go.IntWalk.iteOmega, Go.IntWalk.toNatUp, g, h1a, h1b, hlt, hc2, Outp.val, Outp.cells, Config.val, Config.cells, Lamp.val, Lamp.cells]
      refine ICalls.then (c3 _) ?_
      try simp [go_sem, -getElem?_pos, -List.map_take, -List.map_drop, List.getElem?_cons_zero, List.getElem?_cons_succ, Go.IntWalk.iteOmega, Go.IntWalk.toNatUp, g, h1a, h1b, hlt, hc2, Outp.val, Outp.cells, Config.val, Config.cells, Lamp.val, Lamp.cells]
      refine IWp.ret ?_
      simp [go_sem, -getElem?_pos, -List.map_take, -List.map_drop, List.getElem?_cons_zero, List.getElem?_cons_succ, Go.IntWalk.iteOmega, Go.IntWalk.toNatUp, g, h1a, h1b, hlt, hc2, Outp.val, Outp.cells, Config.val, Config.cells, Lamp.val, Lamp.cells, Try.results12]
      try exact .same _

end Go.Proofs.Ytoecebibhcadoaa.I
