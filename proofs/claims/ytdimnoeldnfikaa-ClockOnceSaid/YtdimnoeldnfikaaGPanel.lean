/- Panels: hushes, lives, times; how high the highest light is, and the loudest. No condition. -/
import Derived.Test.YtdimnoeldnfikaaGBurst
namespace Go.Proofs.Ytdimnoeldnfikaa.I
open Go Go.RowKit
set_option linter.unusedVariables false
set_option linter.unusedSimpArgs false

structure Life where
  on : Bool
  lit : Bool
  acked : Bool
  since : Int
  stage : Int
  deriving DecidableEq
def Life.cells (x : Life) : List Value := [.bool x.on, .bool x.lit, .bool x.acked, .int .i64 x.since, .int .i64 x.stage]
def Life.val (x : Life) : Value := .agg ⟨x.cells⟩
theorem Life.val_cells (x : Life) : x.val.cells = ⟨x.cells⟩ := rfl
def Life.wf (x : Life) : Prop := (-9223372036854775808 ≤ x.since ∧ x.since < 9223372036854775808) ∧ (-9223372036854775808 ≤ x.stage ∧ x.stage < 9223372036854775808)
theorem Life.cl (x : Life) : ClL x.cells := by
  simp [Life.cells, ClL_cons, ClL_nil, ClL_append, Cl_int, Cl_bool, Cl_string, ↓cl_ints, Cl_frow_map]
theorem Life.cl_row (sz : Nat) (m : Int) (L : List Life) : Cl (frow sz m (L.map Life.val)) = True := by
  rw [Cl_frow_map]; simp [Life.val_cells, Life.cl]
theorem Life.cl_val (x : Life) : Cl x.val = True := by
  unfold Life.val; rw [Cl_agg]; simp [Life.cl]
structure Light where
  cond : Int
  prio : Int
  life : Life
  deriving DecidableEq
def Light.cells (x : Light) : List Value := [.int .i64 x.cond, .int .u8 x.prio] ++ x.life.cells
def Light.val (x : Light) : Value := .agg ⟨x.cells⟩
theorem Light.val_cells (x : Light) : x.val.cells = ⟨x.cells⟩ := rfl
def Light.wf (x : Light) : Prop := (-9223372036854775808 ≤ x.cond ∧ x.cond < 9223372036854775808) ∧ (0 ≤ x.prio ∧ x.prio < 256) ∧ x.life.wf
theorem Light.cl (x : Light) : ClL x.cells := by
  simp [Light.cells, ClL_cons, ClL_nil, ClL_append, Cl_int, Cl_bool, Cl_string, ↓cl_ints, Cl_frow_map, Life.cl]
theorem Light.cl_row (sz : Nat) (m : Int) (L : List Light) : Cl (frow sz m (L.map Light.val)) = True := by
  rw [Cl_frow_map]; simp [Light.val_cells, Light.cl]
theorem Light.cl_val (x : Light) : Cl x.val = True := by
  unfold Light.val; rw [Cl_agg]; simp [Light.cl]
structure Hush where
  till : Int
  off : Int
  mark : Int
  deriving DecidableEq
def Hush.cells (x : Hush) : List Value := [.int .i64 x.till, .int .i64 x.off, .int .u8 x.mark]
def Hush.val (x : Hush) : Value := .agg ⟨x.cells⟩
theorem Hush.val_cells (x : Hush) : x.val.cells = ⟨x.cells⟩ := rfl
def Hush.wf (x : Hush) : Prop := (-9223372036854775808 ≤ x.till ∧ x.till < 9223372036854775808) ∧ (-9223372036854775808 ≤ x.off ∧ x.off < 9223372036854775808) ∧ (0 ≤ x.mark ∧ x.mark < 256)
theorem Hush.cl (x : Hush) : ClL x.cells := by
  simp [Hush.cells, ClL_cons, ClL_nil, ClL_append, Cl_int, Cl_bool, Cl_string, ↓cl_ints, Cl_frow_map]
theorem Hush.cl_row (sz : Nat) (m : Int) (L : List Hush) : Cl (frow sz m (L.map Hush.val)) = True := by
  rw [Cl_frow_map]; simp [Hush.val_cells, Hush.cl]
theorem Hush.cl_val (x : Hush) : Cl x.val = True := by
  unfold Hush.val; rw [Cl_agg]; simp [Hush.cl]
structure Lamp where
  cond : Int
  prio : Int
  stage : Int
  cause : Bool
  acked : Bool
  deriving DecidableEq
def Lamp.cells (x : Lamp) : List Value := [.int .i64 x.cond, .int .u8 x.prio, .int .i64 x.stage, .bool x.cause, .bool x.acked]
def Lamp.val (x : Lamp) : Value := .agg ⟨x.cells⟩
theorem Lamp.val_cells (x : Lamp) : x.val.cells = ⟨x.cells⟩ := rfl
def Lamp.wf (x : Lamp) : Prop := (-9223372036854775808 ≤ x.cond ∧ x.cond < 9223372036854775808) ∧ (0 ≤ x.prio ∧ x.prio < 256) ∧ (-9223372036854775808 ≤ x.stage ∧ x.stage < 9223372036854775808)
theorem Lamp.cl (x : Lamp) : ClL x.cells := by
  simp [Lamp.cells, ClL_cons, ClL_nil, ClL_append, Cl_int, Cl_bool, Cl_string, ↓cl_ints, Cl_frow_map]
theorem Lamp.cl_row (sz : Nat) (m : Int) (L : List Lamp) : Cl (frow sz m (L.map Lamp.val)) = True := by
  rw [Cl_frow_map]; simp [Lamp.val_cells, Lamp.cl]
theorem Lamp.cl_val (x : Lamp) : Cl x.val = True := by
  unfold Lamp.val; rw [Cl_agg]; simp [Lamp.cl]
structure Outp where
  tick : Int
  lamps : List Lamp
  audio : Int
  sound : Bool
  paused : Bool
  off : Bool
  deriving DecidableEq
def Outp.cells (x : Outp) : List Value := [.int .i64 x.tick, frow 5 0 (x.lamps.map Lamp.val), .int .u8 x.audio, .bool x.sound, .bool x.paused, .bool x.off]
def Outp.val (x : Outp) : Value := .agg ⟨x.cells⟩
theorem Outp.val_cells (x : Outp) : x.val.cells = ⟨x.cells⟩ := rfl
def Outp.wf (x : Outp) : Prop := (-9223372036854775808 ≤ x.tick ∧ x.tick < 9223372036854775808) ∧ ((∀ y ∈ x.lamps, y.wf) ∧ x.lamps.length ≤ maxLen) ∧ (0 ≤ x.audio ∧ x.audio < 256)
theorem Outp.cl (x : Outp) : ClL x.cells := by
  simp [Outp.cells, ClL_cons, ClL_nil, ClL_append, Cl_int, Cl_bool, Cl_string, ↓cl_ints, Cl_frow_map, Lamp.cl, Lamp.val_cells]
theorem Outp.cl_row (sz : Nat) (m : Int) (L : List Outp) : Cl (frow sz m (L.map Outp.val)) = True := by
  rw [Cl_frow_map]; simp [Outp.val_cells, Outp.cl]
theorem Outp.cl_val (x : Outp) : Cl x.val = True := by
  unfold Outp.val; rw [Cl_agg]; simp [Outp.cl]

def heldS (t : Int) : Int := min (max t 0) 1099511627776
theorem heldC (H : Heap) (t : Int) : ICalls Try.prog 47 [.int .i64 t] H fun v H' => v = .int .i64 (heldS t) ∧ H' = H := by
  refine ICalls.ans (by simp [go_sem]) fun H => IBody.calls (by kernel_rfl) ?_
  have e : heldS t = if 1099511627776 < (if t < 0 then 0 else t) then 1099511627776 else (if t < 0 then 0 else t) := by unfold heldS; split <;> split <;> omega
  rw [e]
  by_cases h1 : t < 0
  · rw [if_pos h1]
    refine IBody.of Try.func47 rfl (by rw [Try.ntmps47]; simp) ?_
    rw [Try.ntmps47]
    refine IWp.seq ?_
    refine IWp.run [0] ?_
    simp [go_sem, -getElem?_pos, -List.map_take, -List.map_drop, List.getElem?_cons_zero, List.getElem?_cons_succ, Go.IntWalk.iteOmega, Go.IntWalk.toNatUp, h1]
    refine IWp.seq ?_
    refine IWp.run [2] ?_
    simp [go_sem, -getElem?_pos, -List.map_take, -List.map_drop, List.getElem?_cons_zero, List.getElem?_cons_succ, Go.IntWalk.iteOmega, Go.IntWalk.toNatUp, h1]
    refine IWp.ret ?_
    simp [go_sem, -getElem?_pos, -List.map_take, -List.map_drop, List.getElem?_cons_zero, List.getElem?_cons_succ, Go.IntWalk.iteOmega, Go.IntWalk.toNatUp, h1, Try.results47]
    try exact .same _
  · rw [if_neg h1]
    by_cases h2 : 1099511627776 < t
    · rw [if_pos h2]
      refine IBody.of Try.func47 rfl (by rw [Try.ntmps47]; simp) ?_
      rw [Try.ntmps47]
      refine IWp.seq ?_
      refine IWp.run [0] ?_
      simp [go_sem, -getElem?_pos, -List.map_take, -List.map_drop, List.getElem?_cons_zero, List.getElem?_cons_succ, Go.IntWalk.iteOmega, Go.IntWalk.toNatUp, h1, h2]
      refine IWp.seq ?_
      refine IWp.run [2] ?_
      simp [go_sem, -getElem?_pos, -List.map_take, -List.map_drop, List.getElem?_cons_zero, List.getElem?_cons_succ, Go.IntWalk.iteOmega, Go.IntWalk.toNatUp, h1, h2]
      refine IWp.ret ?_
      simp [go_sem, -getElem?_pos, -List.map_take, -List.map_drop, List.getElem?_cons_zero, List.getElem?_cons_succ, Go.IntWalk.iteOmega, Go.IntWalk.toNatUp, h1, h2, Try.results47]
      try exact .same _
    · rw [if_neg h2]
      refine IBody.of Try.func47 rfl (by rw [Try.ntmps47]; simp) ?_
      rw [Try.ntmps47]
      refine IWp.seq ?_
      refine IWp.run [0] ?_
      simp [go_sem, -getElem?_pos, -List.map_take, -List.map_drop, List.getElem?_cons_zero, List.getElem?_cons_succ, Go.IntWalk.iteOmega, Go.IntWalk.toNatUp, h1, h2]
      refine IWp.seq ?_
      refine IWp.run [2] ?_
      simp [go_sem, -getElem?_pos, -List.map_take, -List.map_drop, List.getElem?_cons_zero, List.getElem?_cons_succ, Go.IntWalk.iteOmega, Go.IntWalk.toNatUp, h1, h2]
      refine IWp.ret ?_
      simp [go_sem, -getElem?_pos, -List.map_take, -List.map_drop, List.getElem?_cons_zero, List.getElem?_cons_succ, Go.IntWalk.iteOmega, Go.IntWalk.toNatUp, h1, h2, Try.results47]
      try exact .same _
/-- How long ago: what the program answers. -/
def sinceS (now t : Int) : Int := if now ≤ t then 0 else if IntKind.i64.wrap (now - t) < 0 then 1099511627776 else heldS (IntKind.i64.wrap (now - t))
theorem sinceC (H : Heap) (now t : Int) : ICalls Try.prog 22 [.int .i64 now, .int .i64 t] H fun v H' => v = .int .i64 (sinceS now t) ∧ H' = H := by
  refine ICalls.ans (by simp [go_sem]) fun H => IBody.calls (by kernel_rfl) ?_
  unfold sinceS
  by_cases h1 : now ≤ t
  · rw [if_pos h1]
    refine IBody.of Try.func22 rfl (by rw [Try.ntmps22]; simp) ?_
    rw [Try.ntmps22]
    refine IWp.seq ?_
    refine IWp.run [0, 1] ?_
    simp [go_sem, -getElem?_pos, -List.map_take, -List.map_drop, List.getElem?_cons_zero, List.getElem?_cons_succ, Go.IntWalk.iteOmega, Go.IntWalk.toNatUp, h1]
    refine IWp.seq ?_
    refine IWp.seq ?_
    refine IWp.run [0, 1, 8] ?_
    simp [go_sem, -getElem?_pos, -List.map_take, -List.map_drop, List.getElem?_cons_zero, List.getElem?_cons_succ, Go.IntWalk.iteOmega, Go.IntWalk.toNatUp, h1]
    refine IWp.cond ?_
    simp [go_sem, -getElem?_pos, -List.map_take, -List.map_drop, List.getElem?_cons_zero, List.getElem?_cons_succ, Go.IntWalk.iteOmega, Go.IntWalk.toNatUp, h1]
    refine IWp.seq ?_
    refine IWp.run [4] ?_
    simp [go_sem, -getElem?_pos, -List.map_take, -List.map_drop, List.getElem?_cons_zero, List.getElem?_cons_succ, Go.IntWalk.iteOmega, Go.IntWalk.toNatUp, h1]
    refine IWp.ret ?_
    simp [go_sem, -getElem?_pos, -List.map_take, -List.map_drop, List.getElem?_cons_zero, List.getElem?_cons_succ, Go.IntWalk.iteOmega, Go.IntWalk.toNatUp, h1, Try.results22]
    try exact .same _
  rw [if_neg h1]
  generalize hw : IntKind.i64.wrap (now - t) = d
  by_cases h2 : d < 0
  · rw [if_pos h2]
    refine IBody.of Try.func22 rfl (by rw [Try.ntmps22]; simp) ?_
    rw [Try.ntmps22]
    refine IWp.seq ?_
    refine IWp.run [0, 1] ?_
    simp [go_sem, -getElem?_pos, -List.map_take, -List.map_drop, List.getElem?_cons_zero, List.getElem?_cons_succ, Go.IntWalk.iteOmega, Go.IntWalk.toNatUp, h1, hw, h2]
    refine IWp.seq ?_
    refine IWp.seq ?_
    refine IWp.run [0, 1, 8] ?_
    simp [go_sem, -getElem?_pos, -List.map_take, -List.map_drop, List.getElem?_cons_zero, List.getElem?_cons_succ, Go.IntWalk.iteOmega, Go.IntWalk.toNatUp, h1, hw, h2]
    refine IWp.cond ?_
    simp [go_sem, -getElem?_pos, -List.map_take, -List.map_drop, List.getElem?_cons_zero, List.getElem?_cons_succ, Go.IntWalk.iteOmega, Go.IntWalk.toNatUp, h1, hw, h2]
    refine IWp.trim [0, 1] (IWp.skip ?_)
    simp [go_sem, -getElem?_pos, -List.map_take, -List.map_drop, List.getElem?_cons_zero, List.getElem?_cons_succ, Go.IntWalk.iteOmega, Go.IntWalk.toNatUp, h1, hw, h2]
    refine IWp.seq ?_
    refine IWp.run [5] ?_
    simp [go_sem, -getElem?_pos, -List.map_take, -List.map_drop, List.getElem?_cons_zero, List.getElem?_cons_succ, Go.IntWalk.iteOmega, Go.IntWalk.toNatUp, h1, hw, h2]
    refine IWp.seq ?_
    refine IWp.seq ?_
    refine IWp.run [5, 13] ?_
    simp [go_sem, -getElem?_pos, -List.map_take, -List.map_drop, List.getElem?_cons_zero, List.getElem?_cons_succ, Go.IntWalk.iteOmega, Go.IntWalk.toNatUp, h1, hw, h2]
    refine IWp.cond ?_
    simp [go_sem, -getElem?_pos, -List.map_take, -List.map_drop, List.getElem?_cons_zero, List.getElem?_cons_succ, Go.IntWalk.iteOmega, Go.IntWalk.toNatUp, h1, hw, h2]
    refine IWp.seq ?_
    refine IWp.run [4] ?_
    simp [go_sem, -getElem?_pos, -List.map_take, -List.map_drop, List.getElem?_cons_zero, List.getElem?_cons_succ, Go.IntWalk.iteOmega, Go.IntWalk.toNatUp, h1, hw, h2]
    refine IWp.ret ?_
    simp [go_sem, -getElem?_pos, -List.map_take, -List.map_drop, List.getElem?_cons_zero, List.getElem?_cons_succ, Go.IntWalk.iteOmega, Go.IntWalk.toNatUp, h1, hw, h2, Try.results22]
    try exact .same _
  · rw [if_neg h2]
    refine IBody.of Try.func22 rfl (by rw [Try.ntmps22]; simp) ?_
    rw [Try.ntmps22]
    refine IWp.seq ?_
    refine IWp.run [0, 1] ?_
    simp [go_sem, -getElem?_pos, -List.map_take, -List.map_drop, List.getElem?_cons_zero, List.getElem?_cons_succ, Go.IntWalk.iteOmega, Go.IntWalk.toNatUp, h1, hw, h2]
    refine IWp.seq ?_
    refine IWp.seq ?_
    refine IWp.run [0, 1, 8] ?_
    simp [go_sem, -getElem?_pos, -List.map_take, -List.map_drop, List.getElem?_cons_zero, List.getElem?_cons_succ, Go.IntWalk.iteOmega, Go.IntWalk.toNatUp, h1, hw, h2]
    refine IWp.cond ?_
    simp [go_sem, -getElem?_pos, -List.map_take, -List.map_drop, List.getElem?_cons_zero, List.getElem?_cons_succ, Go.IntWalk.iteOmega, Go.IntWalk.toNatUp, h1, hw, h2]
    refine IWp.trim [0, 1] (IWp.skip ?_)
    simp [go_sem, -getElem?_pos, -List.map_take, -List.map_drop, List.getElem?_cons_zero, List.getElem?_cons_succ, Go.IntWalk.iteOmega, Go.IntWalk.toNatUp, h1, hw, h2]
    refine IWp.seq ?_
    refine IWp.run [5] ?_
    simp [go_sem, -getElem?_pos, -List.map_take, -List.map_drop, List.getElem?_cons_zero, List.getElem?_cons_succ, Go.IntWalk.iteOmega, Go.IntWalk.toNatUp, h1, hw, h2]
    refine IWp.seq ?_
    refine IWp.seq ?_
    refine IWp.run [5, 13] ?_
    simp [go_sem, -getElem?_pos, -List.map_take, -List.map_drop, List.getElem?_cons_zero, List.getElem?_cons_succ, Go.IntWalk.iteOmega, Go.IntWalk.toNatUp, h1, hw, h2]
    refine IWp.cond ?_
    simp [go_sem, -getElem?_pos, -List.map_take, -List.map_drop, List.getElem?_cons_zero, List.getElem?_cons_succ, Go.IntWalk.iteOmega, Go.IntWalk.toNatUp, h1, hw, h2]
    refine IWp.trim [5] (IWp.skip ?_)
    simp [go_sem, -getElem?_pos, -List.map_take, -List.map_drop, List.getElem?_cons_zero, List.getElem?_cons_succ, Go.IntWalk.iteOmega, Go.IntWalk.toNatUp, h1, hw, h2]
    refine IWp.seq ?_
    refine IWp.run [4] ?_
    simp [go_sem, -getElem?_pos, -List.map_take, -List.map_drop, List.getElem?_cons_zero, List.getElem?_cons_succ, Go.IntWalk.iteOmega, Go.IntWalk.toNatUp, h1, hw, h2]
    refine ICalls.then (heldC _ d) ?_
    try simp [go_sem, -getElem?_pos, -List.map_take, -List.map_drop, List.getElem?_cons_zero, List.getElem?_cons_succ, Go.IntWalk.iteOmega, Go.IntWalk.toNatUp, h1, hw, h2]
    refine IWp.ret ?_
    simp [go_sem, -getElem?_pos, -List.map_take, -List.map_drop, List.getElem?_cons_zero, List.getElem?_cons_succ, Go.IntWalk.iteOmega, Go.IntWalk.toNatUp, h1, hw, h2, Try.results22]
    try exact .same _

theorem pausedC (H : Heap) (h : Hush) (now : Int) : ICalls Try.prog 56 [h.val, .int .i64 now] H fun v H' => v = .bool (decide (now < h.till)) ∧ H' = H := by
  refine ICalls.ans (by simp [go_sem]) fun H => IBody.calls (by kernel_rfl) ?_
  refine IBody.of Try.func56 rfl (by rw [Try.ntmps56]; simp) ?_
  rw [Try.ntmps56]
  refine IWp.seq ?_
  refine IWp.run [1, 2] ?_
  simp [go_sem, -getElem?_pos, -List.map_take, -List.map_drop, List.getElem?_cons_zero, List.getElem?_cons_succ, Go.IntWalk.iteOmega, Go.IntWalk.toNatUp, Hush.val, Hush.cells]
  refine IWp.seq ?_
  refine IWp.run [4] ?_
  simp [go_sem, -getElem?_pos, -List.map_take, -List.map_drop, List.getElem?_cons_zero, List.getElem?_cons_succ, Go.IntWalk.iteOmega, Go.IntWalk.toNatUp, Hush.val, Hush.cells]
  refine IWp.ret ?_
  simp [go_sem, -getElem?_pos, -List.map_take, -List.map_drop, List.getElem?_cons_zero, List.getElem?_cons_succ, Go.IntWalk.iteOmega, Go.IntWalk.toNatUp, Hush.val, Hush.cells, Try.results56]
  try exact .same _
theorem isOffC (H : Heap) (h : Hush) (now : Int) : ICalls Try.prog 57 [h.val, .int .i64 now] H fun v H' => v = .bool (decide (now < h.off)) ∧ H' = H := by
  refine ICalls.ans (by simp [go_sem]) fun H => IBody.calls (by kernel_rfl) ?_
  refine IBody.of Try.func57 rfl (by rw [Try.ntmps57]; simp) ?_
  rw [Try.ntmps57]
  refine IWp.seq ?_
  refine IWp.run [1, 2] ?_
  simp [go_sem, -getElem?_pos, -List.map_take, -List.map_drop, List.getElem?_cons_zero, List.getElem?_cons_succ, Go.IntWalk.iteOmega, Go.IntWalk.toNatUp, Hush.val, Hush.cells]
  refine IWp.seq ?_
  refine IWp.run [4] ?_
  simp [go_sem, -getElem?_pos, -List.map_take, -List.map_drop, List.getElem?_cons_zero, List.getElem?_cons_succ, Go.IntWalk.iteOmega, Go.IntWalk.toNatUp, Hush.val, Hush.cells]
  refine IWp.ret ?_
  simp [go_sem, -getElem?_pos, -List.map_take, -List.map_drop, List.getElem?_cons_zero, List.getElem?_cons_succ, Go.IntWalk.iteOmega, Go.IntWalk.toNatUp, Hush.val, Hush.cells, Try.results57]
  try exact .same _
theorem silentC (H : Heap) (h : Hush) (now : Int) : ICalls Try.prog 58 [h.val, .int .i64 now] H fun v H' => v = .bool (decide (now < h.till) || decide (now < h.off)) ∧ H' = H := by
  refine ICalls.ans (by simp [go_sem]) fun H => IBody.calls (by kernel_rfl) ?_
  have c1 := fun K => pausedC K h now
  have c2 := fun K => isOffC K h now
  simp only [Hush.val, Hush.cells] at c1 c2
  cases hp : decide (now < h.till) with
  | true =>
    rw [hp] at c1
    refine IBody.of Try.func58 rfl (by rw [Try.ntmps58]; simp) ?_
    rw [Try.ntmps58]
    refine IWp.seq ?_
    refine IWp.run [1, 2] ?_
    simp [go_sem, -getElem?_pos, -List.map_take, -List.map_drop, List.getElem?_cons_zero, List.getElem?_cons_succ, Go.IntWalk.iteOmega, Go.IntWalk.toNatUp, Hush.val, Hush.cells]
    refine IWp.seq ?_
    refine IWp.run [4] ?_
    simp [go_sem, -getElem?_pos, -List.map_take, -List.map_drop, List.getElem?_cons_zero, List.getElem?_cons_succ, Go.IntWalk.iteOmega, Go.IntWalk.toNatUp, Hush.val, Hush.cells]
    refine ICalls.then (c1 _) ?_
    try simp [go_sem, -getElem?_pos, -List.map_take, -List.map_drop, List.getElem?_cons_zero, List.getElem?_cons_succ, Go.IntWalk.iteOmega, Go.IntWalk.toNatUp, Hush.val, Hush.cells]
    refine IWp.ret ?_
    simp [go_sem, -getElem?_pos, -List.map_take, -List.map_drop, List.getElem?_cons_zero, List.getElem?_cons_succ, Go.IntWalk.iteOmega, Go.IntWalk.toNatUp, Hush.val, Hush.cells, Try.results58]
    try exact .same _
  | false =>
    rw [hp] at c1
    refine IBody.of Try.func58 rfl (by rw [Try.ntmps58]; simp) ?_
    rw [Try.ntmps58]
    refine IWp.seq ?_
    refine IWp.run [1, 2] ?_
    simp [go_sem, -getElem?_pos, -List.map_take, -List.map_drop, List.getElem?_cons_zero, List.getElem?_cons_succ, Go.IntWalk.iteOmega, Go.IntWalk.toNatUp, Hush.val, Hush.cells]
    refine IWp.seq ?_
    refine IWp.run [4] ?_
    simp [go_sem, -getElem?_pos, -List.map_take, -List.map_drop, List.getElem?_cons_zero, List.getElem?_cons_succ, Go.IntWalk.iteOmega, Go.IntWalk.toNatUp, Hush.val, Hush.cells]
    refine ICalls.then (c1 _) ?_
    try simp [go_sem, -getElem?_pos, -List.map_take, -List.map_drop, List.getElem?_cons_zero, List.getElem?_cons_succ, Go.IntWalk.iteOmega, Go.IntWalk.toNatUp, Hush.val, Hush.cells]
    refine ICalls.then (c2 _) ?_
    try simp [go_sem, -getElem?_pos, -List.map_take, -List.map_drop, List.getElem?_cons_zero, List.getElem?_cons_succ, Go.IntWalk.iteOmega, Go.IntWalk.toNatUp, Hush.val, Hush.cells]
    refine IWp.ret ?_
    simp [go_sem, -getElem?_pos, -List.map_take, -List.map_drop, List.getElem?_cons_zero, List.getElem?_cons_succ, Go.IntWalk.iteOmega, Go.IntWalk.toNatUp, Hush.val, Hush.cells, Try.results58]
    try exact .same _

def loudB (x : Life) : Bool := x.lit && !x.acked
theorem loudF (H : Heap) (x : Life) : ICalls Try.prog 54 [x.val] H fun v H' => v = .bool (loudB x) ∧ H' = H := by
  refine ICalls.ans (by simp [go_sem]) fun H => IBody.calls (by kernel_rfl) ?_
  unfold loudB
  cases h : x.lit with
  | true =>
    refine IBody.of Try.func54 rfl (by rw [Try.ntmps54]; simp) ?_
    rw [Try.ntmps54]
    refine IWp.seq ?_
    refine IWp.run [1] ?_
    simp [go_sem, -getElem?_pos, -List.map_take, -List.map_drop, List.getElem?_cons_zero, List.getElem?_cons_succ, Go.IntWalk.iteOmega, Go.IntWalk.toNatUp, h, Life.val, Life.cells]
    refine IWp.seq ?_
    refine IWp.run [2] ?_
    simp [go_sem, -getElem?_pos, -List.map_take, -List.map_drop, List.getElem?_cons_zero, List.getElem?_cons_succ, Go.IntWalk.iteOmega, Go.IntWalk.toNatUp, h, Life.val, Life.cells]
    refine IWp.ret ?_
    simp [go_sem, -getElem?_pos, -List.map_take, -List.map_drop, List.getElem?_cons_zero, List.getElem?_cons_succ, Go.IntWalk.iteOmega, Go.IntWalk.toNatUp, h, Life.val, Life.cells, Try.results54]
    try exact .same _
  | false =>
    refine IBody.of Try.func54 rfl (by rw [Try.ntmps54]; simp) ?_
    rw [Try.ntmps54]
    refine IWp.seq ?_
    refine IWp.run [1] ?_
    simp [go_sem, -getElem?_pos, -List.map_take, -List.map_drop, List.getElem?_cons_zero, List.getElem?_cons_succ, Go.IntWalk.iteOmega, Go.IntWalk.toNatUp, h, Life.val, Life.cells]
    refine IWp.seq ?_
    refine IWp.run [2] ?_
    simp [go_sem, -getElem?_pos, -List.map_take, -List.map_drop, List.getElem?_cons_zero, List.getElem?_cons_succ, Go.IntWalk.iteOmega, Go.IntWalk.toNatUp, h, Life.val, Life.cells]
    refine IWp.ret ?_
    simp [go_sem, -getElem?_pos, -List.map_take, -List.map_drop, List.getElem?_cons_zero, List.getElem?_cons_succ, Go.IntWalk.iteOmega, Go.IntWalk.toNatUp, h, Life.val, Life.cells, Try.results54]
    try exact .same _
theorem litF (H : Heap) (x : Life) : ICalls Try.prog 53 [x.val] H fun v H' => v = .bool x.lit ∧ H' = H := by
  refine ICalls.ans (by simp [go_sem]) fun H => IBody.calls (by kernel_rfl) ?_
  refine IBody.of Try.func53 rfl (by rw [Try.ntmps53]; simp) ?_
  rw [Try.ntmps53]
  refine IWp.seq ?_
  refine IWp.run [1] ?_
  simp [go_sem, -getElem?_pos, -List.map_take, -List.map_drop, List.getElem?_cons_zero, List.getElem?_cons_succ, Go.IntWalk.iteOmega, Go.IntWalk.toNatUp, Life.val, Life.cells]
  refine IWp.seq ?_
  refine IWp.run [2] ?_
  simp [go_sem, -getElem?_pos, -List.map_take, -List.map_drop, List.getElem?_cons_zero, List.getElem?_cons_succ, Go.IntWalk.iteOmega, Go.IntWalk.toNatUp, Life.val, Life.cells]
  refine IWp.ret ?_
  simp [go_sem, -getElem?_pos, -List.map_take, -List.map_drop, List.getElem?_cons_zero, List.getElem?_cons_succ, Go.IntWalk.iteOmega, Go.IntWalk.toNatUp, Life.val, Life.cells, Try.results53]
  try exact .same _

def topS (p : Life → Bool) (L : List Light) : Int := L.foldl (fun w x => if p x.life = true then max w x.prio else w) 0
theorem topS_snoc (p : Life → Bool) (L : List Light) {i : Nat} (h : i < L.length) : topS p (L.take (i + 1)) = if p L[i].life = true then max (topS p (L.take i)) L[i].prio else topS p (L.take i) := by
  unfold topS
  rw [List.take_succ_eq_append_getElem h, List.foldl_append]; rfl
theorem topC (H : Heap) (L : List Light) (g : FuncId) (p : Life → Bool) (hL : L.length ≤ 1000000) (hc : ∀ (x : Life) K, ICalls Try.prog g [x.val] K fun v H' => v = .bool (p x) ∧ H' = K) :
    ICalls Try.prog 52 [frow 7 0 (L.map Light.val), .func (.func g) ⟨[]⟩ ⟨[]⟩] H fun v H' => v = .int .u8 (topS p L) ∧ H' = H := by
  refine ICalls.ans (by simp [go_sem]) fun H => IBody.calls (by kernel_rfl) ?_
  refine IBody.of Try.func52 rfl (by rw [Try.ntmps52]; simp) ?_
  rw [Try.ntmps52]
  refine IWp.seq ?_
  refine IWp.run [0, 1] ?_
  simp [go_sem, -getElem?_pos, -List.map_take, -List.map_drop, List.getElem?_cons_zero, List.getElem?_cons_succ, Go.IntWalk.iteOmega, Go.IntWalk.toNatUp]
  refine IWp.seq ?_
  refine IWp.run [0, 1, 5] ?_
  simp [go_sem, -getElem?_pos, -List.map_take, -List.map_drop, List.getElem?_cons_zero, List.getElem?_cons_succ, Go.IntWalk.iteOmega, Go.IntWalk.toNatUp]
  refine IWp.seq ?_
  refine IWp.seq ?_
  refine IWp.run [1, 5, 8, 9, 10] ?_
  simp [go_sem, -getElem?_pos, -List.map_take, -List.map_drop, List.getElem?_cons_zero, List.getElem?_cons_succ, Go.IntWalk.iteOmega, Go.IntWalk.toNatUp]
  refine IWp.block ?_
  -- LOOP live [1, 5, 8, 9, 10]
  refine IWp.loop (fun q e K => ∃ i : Nat, q = L.length - i ∧ i ≤ L.length ∧ e = [(1, .func (.func g) ⟨[]⟩ ⟨[]⟩), (5, .int .u8 (topS p (L.take i))), (8, frow 7 0 (L.map Light.val)), (9, .int .i64 L.length), (10, .int .i64 (i : Int))]) L.length ⟨0, rfl, Nat.zero_le _, by simp [go_sem, topS]⟩ ?_
  rintro q e K ⟨i, rfl, hi, rfl⟩
  have wi := IntWalk.i64_in ((i : Int) + 1) (by omega)
  by_cases hlt : i < L.length
  · have gi : (L.map Light.val)[i]? = some (L[i]).val := by simp [hlt]
    have hs := topS_snoc p L hlt
    generalize L[i] = x at *
    have c1 := hc x.life
    simp only [Life.val, Life.cells] at c1
    cases hp : p x.life with
    | true =>
      rw [hp] at c1 hs
      refine IWp.seq ?_
      refine IWp.run [1, 5, 8, 9, 10, 11] ?_
      simp [go_sem, -getElem?_pos, -List.map_take, -List.map_drop, List.getElem?_cons_zero, List.getElem?_cons_succ, Go.IntWalk.iteOmega, Go.IntWalk.toNatUp, hlt, gi, wi, Light.val, Light.cells, Life.cells]
      refine IWp.seq ?_
      refine IWp.cond ?_
      simp [go_sem, -getElem?_pos, -List.map_take, -List.map_drop, List.getElem?_cons_zero, List.getElem?_cons_succ, Go.IntWalk.iteOmega, Go.IntWalk.toNatUp, hlt, gi, wi, Light.val, Light.cells, Life.cells]
      refine IWp.trim [1, 5, 8, 9, 10] (IWp.skip ?_)
      simp [go_sem, -getElem?_pos, -List.map_take, -List.map_drop, List.getElem?_cons_zero, List.getElem?_cons_succ, Go.IntWalk.iteOmega, Go.IntWalk.toNatUp, hlt, gi, wi, Light.val, Light.cells, Life.cells]
      refine IWp.seq ?_
      refine IWp.block ?_
      refine IWp.seq ?_
      refine IWp.run [1, 5, 7, 8, 9, 10] ?_
      simp [go_sem, -getElem?_pos, -List.map_take, -List.map_drop, List.getElem?_cons_zero, List.getElem?_cons_succ, Go.IntWalk.iteOmega, Go.IntWalk.toNatUp, hlt, gi, wi, Light.val, Light.cells, Life.cells]
      refine IWp.seq ?_
      refine IWp.run [1, 5, 7, 8, 9, 10, 17] ?_
      simp [go_sem, -getElem?_pos, -List.map_take, -List.map_drop, List.getElem?_cons_zero, List.getElem?_cons_succ, Go.IntWalk.iteOmega, Go.IntWalk.toNatUp, hlt, gi, wi, Light.val, Light.cells, Life.cells]
      refine ICalls.then (c1 _) ?_
      try simp [go_sem, -getElem?_pos, -List.map_take, -List.map_drop, List.getElem?_cons_zero, List.getElem?_cons_succ, Go.IntWalk.iteOmega, Go.IntWalk.toNatUp, hlt, gi, wi, Light.val, Light.cells, Life.cells]
      refine IWp.cond ?_
      simp [go_sem, -getElem?_pos, -List.map_take, -List.map_drop, List.getElem?_cons_zero, List.getElem?_cons_succ, Go.IntWalk.iteOmega, Go.IntWalk.toNatUp, hlt, gi, wi, Light.val, Light.cells, Life.cells]
      refine IWp.run [1, 5, 8, 9, 10] ?_
      simp [go_sem, -getElem?_pos, -List.map_take, -List.map_drop, List.getElem?_cons_zero, List.getElem?_cons_succ, Go.IntWalk.iteOmega, Go.IntWalk.toNatUp, hlt, gi, wi, Light.val, Light.cells, Life.cells]
      refine IWp.run [1, 5, 8, 9, 10] ?_
      simp [go_sem, -getElem?_pos, -List.map_take, -List.map_drop, List.getElem?_cons_zero, List.getElem?_cons_succ, Go.IntWalk.iteOmega, Go.IntWalk.toNatUp, hlt, gi, wi, Light.val, Light.cells, Life.cells]
      exact ⟨L.length - (i + 1), by omega, i + 1, rfl, by omega, by rw [hs]; simp only [if_true]; omega, by omega⟩
    | false =>
      rw [hp] at c1 hs
      refine IWp.seq ?_
      refine IWp.run [1, 5, 8, 9, 10, 11] ?_
      simp [go_sem, -getElem?_pos, -List.map_take, -List.map_drop, List.getElem?_cons_zero, List.getElem?_cons_succ, Go.IntWalk.iteOmega, Go.IntWalk.toNatUp, hlt, gi, wi, Light.val, Light.cells, Life.cells]
      refine IWp.seq ?_
      refine IWp.cond ?_
      simp [go_sem, -getElem?_pos, -List.map_take, -List.map_drop, List.getElem?_cons_zero, List.getElem?_cons_succ, Go.IntWalk.iteOmega, Go.IntWalk.toNatUp, hlt, gi, wi, Light.val, Light.cells, Life.cells]
      refine IWp.trim [1, 5, 8, 9, 10] (IWp.skip ?_)
      simp [go_sem, -getElem?_pos, -List.map_take, -List.map_drop, List.getElem?_cons_zero, List.getElem?_cons_succ, Go.IntWalk.iteOmega, Go.IntWalk.toNatUp, hlt, gi, wi, Light.val, Light.cells, Life.cells]
      refine IWp.seq ?_
      refine IWp.block ?_
      refine IWp.seq ?_
      refine IWp.run [1, 5, 7, 8, 9, 10] ?_
      simp [go_sem, -getElem?_pos, -List.map_take, -List.map_drop, List.getElem?_cons_zero, List.getElem?_cons_succ, Go.IntWalk.iteOmega, Go.IntWalk.toNatUp, hlt, gi, wi, Light.val, Light.cells, Life.cells]
      refine IWp.seq ?_
      refine IWp.run [1, 5, 7, 8, 9, 10, 17] ?_
      simp [go_sem, -getElem?_pos, -List.map_take, -List.map_drop, List.getElem?_cons_zero, List.getElem?_cons_succ, Go.IntWalk.iteOmega, Go.IntWalk.toNatUp, hlt, gi, wi, Light.val, Light.cells, Life.cells]
      refine ICalls.then (c1 _) ?_
      try simp [go_sem, -getElem?_pos, -List.map_take, -List.map_drop, List.getElem?_cons_zero, List.getElem?_cons_succ, Go.IntWalk.iteOmega, Go.IntWalk.toNatUp, hlt, gi, wi, Light.val, Light.cells, Life.cells]
      refine IWp.cond ?_
      simp [go_sem, -getElem?_pos, -List.map_take, -List.map_drop, List.getElem?_cons_zero, List.getElem?_cons_succ, Go.IntWalk.iteOmega, Go.IntWalk.toNatUp, hlt, gi, wi, Light.val, Light.cells, Life.cells]
      refine IWp.trim [1, 5, 8, 9, 10] (IWp.skip ?_)
      simp [go_sem, -getElem?_pos, -List.map_take, -List.map_drop, List.getElem?_cons_zero, List.getElem?_cons_succ, Go.IntWalk.iteOmega, Go.IntWalk.toNatUp, hlt, gi, wi, Light.val, Light.cells, Life.cells]
      refine IWp.run [1, 5, 8, 9, 10] ?_
      simp [go_sem, -getElem?_pos, -List.map_take, -List.map_drop, List.getElem?_cons_zero, List.getElem?_cons_succ, Go.IntWalk.iteOmega, Go.IntWalk.toNatUp, hlt, gi, wi, Light.val, Light.cells, Life.cells]
      exact ⟨L.length - (i + 1), by omega, i + 1, rfl, by omega, by rw [hs]; rfl, by omega⟩
  · rw [List.take_of_length_le (by omega)]
    refine IWp.seq ?_
    refine IWp.run [1, 5, 8, 9, 10, 11] ?_
    simp [go_sem, -getElem?_pos, -List.map_take, -List.map_drop, List.getElem?_cons_zero, List.getElem?_cons_succ, Go.IntWalk.iteOmega, Go.IntWalk.toNatUp, hlt]
    refine IWp.seq ?_
    refine IWp.cond ?_
    simp [go_sem, -getElem?_pos, -List.map_take, -List.map_drop, List.getElem?_cons_zero, List.getElem?_cons_succ, Go.IntWalk.iteOmega, Go.IntWalk.toNatUp, hlt]
    refine IWp.trim [5] (IWp.exit ?_)
    simp [go_sem, -getElem?_pos, -List.map_take, -List.map_drop, List.getElem?_cons_zero, List.getElem?_cons_succ, Go.IntWalk.iteOmega, Go.IntWalk.toNatUp, hlt]
    refine IWp.seq ?_
    refine IWp.run [4] ?_
    simp [go_sem, -getElem?_pos, -List.map_take, -List.map_drop, List.getElem?_cons_zero, List.getElem?_cons_succ, Go.IntWalk.iteOmega, Go.IntWalk.toNatUp, hlt]
    refine IWp.ret ?_
    simp [go_sem, -getElem?_pos, -List.map_take, -List.map_drop, List.getElem?_cons_zero, List.getElem?_cons_succ, Go.IntWalk.iteOmega, Go.IntWalk.toNatUp, hlt, Try.results52]
    try exact .same _
theorem loudestC (H : Heap) (L : List Light) (hL : L.length ≤ 1000000) : ICalls Try.prog 38 [frow 7 0 (L.map Light.val)] H fun v H' => v = .int .u8 (topS loudB L) ∧ H' = H := by
  refine ICalls.ans (by simp [go_sem]) fun H => IBody.calls (by kernel_rfl) ?_
  have ht := fun K => topC K L 54 loudB hL fun x K => loudF K x
  refine IBody.of Try.func38 rfl (by rw [Try.ntmps38]; simp) ?_
  rw [Try.ntmps38]
  refine IWp.seq ?_
  refine IWp.run [0] ?_
  simp [go_sem, -getElem?_pos, -List.map_take, -List.map_drop, List.getElem?_cons_zero, List.getElem?_cons_succ, Go.IntWalk.iteOmega, Go.IntWalk.toNatUp]
  refine IWp.seq ?_
  refine IWp.run [2] ?_
  simp [go_sem, -getElem?_pos, -List.map_take, -List.map_drop, List.getElem?_cons_zero, List.getElem?_cons_succ, Go.IntWalk.iteOmega, Go.IntWalk.toNatUp]
  refine ICalls.then (ht _) ?_
  try simp [go_sem, -getElem?_pos, -List.map_take, -List.map_drop, List.getElem?_cons_zero, List.getElem?_cons_succ, Go.IntWalk.iteOmega, Go.IntWalk.toNatUp]
  refine IWp.ret ?_
  simp [go_sem, -getElem?_pos, -List.map_take, -List.map_drop, List.getElem?_cons_zero, List.getElem?_cons_succ, Go.IntWalk.iteOmega, Go.IntWalk.toNatUp, Try.results38]
  try exact .same _
theorem highestC (H : Heap) (L : List Light) (hL : L.length ≤ 1000000) : ICalls Try.prog 36 [frow 7 0 (L.map Light.val)] H fun v H' => v = .int .u8 (topS Life.lit L) ∧ H' = H := by
  refine ICalls.ans (by simp [go_sem]) fun H => IBody.calls (by kernel_rfl) ?_
  have ht := fun K => topC K L 53 Life.lit hL fun x K => litF K x
  refine IBody.of Try.func36 rfl (by rw [Try.ntmps36]; simp) ?_
  rw [Try.ntmps36]
  refine IWp.seq ?_
  refine IWp.run [0] ?_
  simp [go_sem, -getElem?_pos, -List.map_take, -List.map_drop, List.getElem?_cons_zero, List.getElem?_cons_succ, Go.IntWalk.iteOmega, Go.IntWalk.toNatUp]
  refine IWp.seq ?_
  refine IWp.run [2] ?_
  simp [go_sem, -getElem?_pos, -List.map_take, -List.map_drop, List.getElem?_cons_zero, List.getElem?_cons_succ, Go.IntWalk.iteOmega, Go.IntWalk.toNatUp]
  refine ICalls.then (ht _) ?_
  try simp [go_sem, -getElem?_pos, -List.map_take, -List.map_drop, List.getElem?_cons_zero, List.getElem?_cons_succ, Go.IntWalk.iteOmega, Go.IntWalk.toNatUp]
  refine IWp.ret ?_
  simp [go_sem, -getElem?_pos, -List.map_take, -List.map_drop, List.getElem?_cons_zero, List.getElem?_cons_succ, Go.IntWalk.iteOmega, Go.IntWalk.toNatUp, Try.results36]
  try exact .same _

end Go.Proofs.Ytdimnoeldnfikaa.I
