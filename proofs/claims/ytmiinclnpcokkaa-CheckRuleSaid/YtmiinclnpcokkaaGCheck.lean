/- What must hold of a configuration: the parts of it. No condition. -/
import Derived.Test.YtmiinclnpcokkaaGMake
namespace Go.Proofs.Ytmiinclnpcokkaa.I
open Go Go.RowKit
set_option linter.unusedVariables false
set_option linter.unusedSimpArgs false

def inS (n a b : Int) : Bool := decide (a ≤ n) && decide (n ≤ b)
theorem inS_iff {n a b : Int} : inS n a b = true ↔ a ≤ n ∧ n ≤ b := by simp [inS]
theorem inS_not {n a b : Int} : inS n a b = false ↔ ¬ (a ≤ n ∧ n ≤ b) := by rw [← inS_iff]; simp
theorem inS_dec (n a b : Int) : inS n a b = decide (a ≤ n ∧ n ≤ b) := by simp [inS]
def numS (n : Int) : Bool := inS n (-2147483648) 2147483647
def limitsS (r : Rule) : Bool :=
  if r.kind = 1 then numS r.lim && numS r.back && decide (r.back ≤ r.lim)
  else if r.kind = 2 then numS r.lim && numS r.back && decide (r.lim ≤ r.back)
  else if r.kind = 3 ∨ r.kind = 4 then inS r.lim 1 2147483647 && inS r.back 0 r.lim
  else decide (r.lim = 0) && decide (r.back = 0)
def spanS (r : Rule) : Bool := if r.kind = 3 ∨ r.kind = 4 ∨ r.kind = 5 then inS r.span 1 10000 else decide (r.span = 0)
def stageOk (p : Int) (s : Stage) : Bool := inS s.wait 1 100000 && inS s.prio 1 3 && decide (p ≤ s.prio)
def stagesL : Int → List Stage → Bool
  | _, [] => true
  | p, s :: l => stageOk p s && stagesL s.prio l
def stagesB (r : Rule) : Bool := decide (r.stages.length ≤ 4) && stagesL r.prio r.stages
def SlotOk (R : Int) (l : List Int) : Prop := (∀ x ∈ l, 0 ≤ x ∧ x < R) ∧ l.Nodup
instance (R : Int) (l : List Int) : Decidable (SlotOk R l) := inferInstanceAs (Decidable (_ ∧ _))
def ruleZ0 : Rule := ⟨0, 0, 0, 0, 0, 0, 0, false, []⟩
/-- The n-th thing that must hold of a rule. -/
def ruleB (S : Nat) (n : Nat) (r : Rule) : Bool :=
  match n with
  | 3 => inS r.kind 1 6
  | 4 => inS r.sg 0 ((S : Int) - 1)
  | 5 => limitsS r
  | 6 => spanS r
  | 7 => inS r.delay 0 10000
  | 8 => inS r.prio 1 3
  | _ => stagesB r
def sigB (s : Sig) : Bool := numS s.lo && numS s.hi && decide (s.lo ≤ s.hi)

section small
theorem withinI (H : Heap) (n a b : Int) : ICalls Try.prog 50 [.int .i64 n, .int .i64 a, .int .i64 b] H fun v H' => v = .bool (inS n a b) ∧ H' = H := by
  refine ICalls.ans (by simp [go_sem]) fun H => IBody.calls (by kernel_rfl) ?_
  unfold inS
  by_cases h : a ≤ n
  · skip
    refine IBody.of Try.func50 rfl (by rw [Try.ntmps50]; simp) ?_
    rw [Try.ntmps50]
    refine IWp.seq ?_
    refine IWp.run [0, 1, 2] ?_
    simp [go_sem, -getElem?_pos, -List.map_take, -List.map_drop, List.getElem?_cons_zero, List.getElem?_cons_succ, Go.IntWalk.iteOmega, Go.IntWalk.toNatUp, h]
    refine IWp.seq ?_
    refine IWp.run [6] ?_
    simp [go_sem, -getElem?_pos, -List.map_take, -List.map_drop, List.getElem?_cons_zero, List.getElem?_cons_succ, Go.IntWalk.iteOmega, Go.IntWalk.toNatUp, h]
    refine IWp.ret ?_
    simp [go_sem, -getElem?_pos, -List.map_take, -List.map_drop, List.getElem?_cons_zero, List.getElem?_cons_succ, Go.IntWalk.iteOmega, Go.IntWalk.toNatUp, h, Try.results50]
    try exact .same _
  · skip
    refine IBody.of Try.func50 rfl (by rw [Try.ntmps50]; simp) ?_
    rw [Try.ntmps50]
    refine IWp.seq ?_
    refine IWp.run [0, 1, 2] ?_
    simp [go_sem, -getElem?_pos, -List.map_take, -List.map_drop, List.getElem?_cons_zero, List.getElem?_cons_succ, Go.IntWalk.iteOmega, Go.IntWalk.toNatUp, h]
    refine IWp.seq ?_
    refine IWp.run [6] ?_
    simp [go_sem, -getElem?_pos, -List.map_take, -List.map_drop, List.getElem?_cons_zero, List.getElem?_cons_succ, Go.IntWalk.iteOmega, Go.IntWalk.toNatUp, h]
    refine IWp.ret ?_
    simp [go_sem, -getElem?_pos, -List.map_take, -List.map_drop, List.getElem?_cons_zero, List.getElem?_cons_succ, Go.IntWalk.iteOmega, Go.IntWalk.toNatUp, h, Try.results50]
    try exact .same _
theorem withinL (H : Heap) (n a b : Int) : ICalls Try.prog 59 [.int .i64 n, .int .i64 a, .int .i64 b] H fun v H' => v = .bool (inS n a b) ∧ H' = H := by
  refine ICalls.ans (by simp [go_sem]) fun H => IBody.calls (by kernel_rfl) ?_
  unfold inS
  by_cases h : a ≤ n
  · skip
    refine IBody.of Try.func59 rfl (by rw [Try.ntmps59]; simp) ?_
    rw [Try.ntmps59]
    refine IWp.seq ?_
    refine IWp.run [0, 1, 2] ?_
    simp [go_sem, -getElem?_pos, -List.map_take, -List.map_drop, List.getElem?_cons_zero, List.getElem?_cons_succ, Go.IntWalk.iteOmega, Go.IntWalk.toNatUp, h]
    refine IWp.seq ?_
    refine IWp.run [6] ?_
    simp [go_sem, -getElem?_pos, -List.map_take, -List.map_drop, List.getElem?_cons_zero, List.getElem?_cons_succ, Go.IntWalk.iteOmega, Go.IntWalk.toNatUp, h]
    refine IWp.ret ?_
    simp [go_sem, -getElem?_pos, -List.map_take, -List.map_drop, List.getElem?_cons_zero, List.getElem?_cons_succ, Go.IntWalk.iteOmega, Go.IntWalk.toNatUp, h, Try.results59]
    try exact .same _
  · skip
    refine IBody.of Try.func59 rfl (by rw [Try.ntmps59]; simp) ?_
    rw [Try.ntmps59]
    refine IWp.seq ?_
    refine IWp.run [0, 1, 2] ?_
    simp [go_sem, -getElem?_pos, -List.map_take, -List.map_drop, List.getElem?_cons_zero, List.getElem?_cons_succ, Go.IntWalk.iteOmega, Go.IntWalk.toNatUp, h]
    refine IWp.seq ?_
    refine IWp.run [6] ?_
    simp [go_sem, -getElem?_pos, -List.map_take, -List.map_drop, List.getElem?_cons_zero, List.getElem?_cons_succ, Go.IntWalk.iteOmega, Go.IntWalk.toNatUp, h]
    refine IWp.ret ?_
    simp [go_sem, -getElem?_pos, -List.map_take, -List.map_drop, List.getElem?_cons_zero, List.getElem?_cons_succ, Go.IntWalk.iteOmega, Go.IntWalk.toNatUp, h, Try.results59]
    try exact .same _
theorem numberC (H : Heap) (n : Int) : ICalls Try.prog 52 [.int .i64 n] H fun v H' => v = .bool (numS n) ∧ H' = H := by
  refine ICalls.ans (by simp [go_sem]) fun H => IBody.calls (by kernel_rfl) ?_
  unfold numS
  refine IBody.of Try.func52 rfl (by rw [Try.ntmps52]; simp) ?_
  rw [Try.ntmps52]
  refine IWp.seq ?_
  refine IWp.run [0] ?_
  simp [go_sem, -getElem?_pos, -List.map_take, -List.map_drop, List.getElem?_cons_zero, List.getElem?_cons_succ, Go.IntWalk.iteOmega, Go.IntWalk.toNatUp]
  refine IWp.seq ?_
  refine IWp.run [2] ?_
  simp [go_sem, -getElem?_pos, -List.map_take, -List.map_drop, List.getElem?_cons_zero, List.getElem?_cons_succ, Go.IntWalk.iteOmega, Go.IntWalk.toNatUp]
  refine ICalls.then (withinI _ _ _ _) ?_
  try simp [go_sem, -getElem?_pos, -List.map_take, -List.map_drop, List.getElem?_cons_zero, List.getElem?_cons_succ, Go.IntWalk.iteOmega, Go.IntWalk.toNatUp]
  refine IWp.ret ?_
  simp [go_sem, -getElem?_pos, -List.map_take, -List.map_drop, List.getElem?_cons_zero, List.getElem?_cons_succ, Go.IntWalk.iteOmega, Go.IntWalk.toNatUp, Try.results52]
  try exact .same _
theorem priorityC (H : Heap) (p : Int) : ICalls Try.prog 61 [.int .u8 p] H fun v H' => v = .bool (inS p 1 3) ∧ H' = H := by
  refine ICalls.ans (by simp [go_sem]) fun H => IBody.calls (by kernel_rfl) ?_
  unfold inS
  by_cases h : 1 ≤ p
  · skip
    refine IBody.of Try.func61 rfl (by rw [Try.ntmps61]; simp) ?_
    rw [Try.ntmps61]
    refine IWp.seq ?_
    refine IWp.run [0] ?_
    simp [go_sem, -getElem?_pos, -List.map_take, -List.map_drop, List.getElem?_cons_zero, List.getElem?_cons_succ, Go.IntWalk.iteOmega, Go.IntWalk.toNatUp, h]
    refine IWp.seq ?_
    refine IWp.run [2] ?_
    simp [go_sem, -getElem?_pos, -List.map_take, -List.map_drop, List.getElem?_cons_zero, List.getElem?_cons_succ, Go.IntWalk.iteOmega, Go.IntWalk.toNatUp, h]
    refine IWp.ret ?_
    simp [go_sem, -getElem?_pos, -List.map_take, -List.map_drop, List.getElem?_cons_zero, List.getElem?_cons_succ, Go.IntWalk.iteOmega, Go.IntWalk.toNatUp, h, Try.results61]
    try exact .same _
  · skip
    refine IBody.of Try.func61 rfl (by rw [Try.ntmps61]; simp) ?_
    rw [Try.ntmps61]
    refine IWp.seq ?_
    refine IWp.run [0] ?_
    simp [go_sem, -getElem?_pos, -List.map_take, -List.map_drop, List.getElem?_cons_zero, List.getElem?_cons_succ, Go.IntWalk.iteOmega, Go.IntWalk.toNatUp, h]
    refine IWp.seq ?_
    refine IWp.run [2] ?_
    simp [go_sem, -getElem?_pos, -List.map_take, -List.map_drop, List.getElem?_cons_zero, List.getElem?_cons_succ, Go.IntWalk.iteOmega, Go.IntWalk.toNatUp, h]
    refine IWp.ret ?_
    simp [go_sem, -getElem?_pos, -List.map_take, -List.map_drop, List.getElem?_cons_zero, List.getElem?_cons_succ, Go.IntWalk.iteOmega, Go.IntWalk.toNatUp, h, Try.results61]
    try exact .same _
theorem numberR (H : Heap) (n : Int) : ICalls Try.prog 43 [.int .i64 n] H fun v H' => v = .bool (numS n) ∧ H' = H := by
  refine ICalls.ans (by simp [go_sem]) fun H => IBody.calls (by kernel_rfl) ?_
  unfold numS inS
  by_cases h : -2147483648 ≤ n
  · skip
    refine IBody.of Try.func43 rfl (by rw [Try.ntmps43]; simp) ?_
    rw [Try.ntmps43]
    refine IWp.seq ?_
    refine IWp.run [0] ?_
    simp [go_sem, -getElem?_pos, -List.map_take, -List.map_drop, List.getElem?_cons_zero, List.getElem?_cons_succ, Go.IntWalk.iteOmega, Go.IntWalk.toNatUp, h]
    refine IWp.seq ?_
    refine IWp.run [2] ?_
    simp [go_sem, -getElem?_pos, -List.map_take, -List.map_drop, List.getElem?_cons_zero, List.getElem?_cons_succ, Go.IntWalk.iteOmega, Go.IntWalk.toNatUp, h]
    refine IWp.ret ?_
    simp [go_sem, -getElem?_pos, -List.map_take, -List.map_drop, List.getElem?_cons_zero, List.getElem?_cons_succ, Go.IntWalk.iteOmega, Go.IntWalk.toNatUp, h, Try.results43]
    try exact .same _
  · skip
    refine IBody.of Try.func43 rfl (by rw [Try.ntmps43]; simp) ?_
    rw [Try.ntmps43]
    refine IWp.seq ?_
    refine IWp.run [0] ?_
    simp [go_sem, -getElem?_pos, -List.map_take, -List.map_drop, List.getElem?_cons_zero, List.getElem?_cons_succ, Go.IntWalk.iteOmega, Go.IntWalk.toNatUp, h]
    refine IWp.seq ?_
    refine IWp.run [2] ?_
    simp [go_sem, -getElem?_pos, -List.map_take, -List.map_drop, List.getElem?_cons_zero, List.getElem?_cons_succ, Go.IntWalk.iteOmega, Go.IntWalk.toNatUp, h]
    refine IWp.ret ?_
    simp [go_sem, -getElem?_pos, -List.map_take, -List.map_drop, List.getElem?_cons_zero, List.getElem?_cons_succ, Go.IntWalk.iteOmega, Go.IntWalk.toNatUp, h, Try.results43]
    try exact .same _

theorem limitsC (H : Heap) (r : Rule) : ICalls Try.prog 56 [r.val] H fun v H' => v = .bool (limitsS r) ∧ H' = H := by
  refine ICalls.ans (by simp [go_sem]) fun H => IBody.calls (by kernel_rfl) ?_
  unfold limitsS
  by_cases h1 : r.kind = 1
  · rw [if_pos h1]
    have c1 := fun K => numberC K r.lim
    have c2 := fun K => numberC K r.back
    generalize numS r.lim = x1 at *
    generalize numS r.back = x2 at *
    cases x1
    · skip
      refine IBody.of Try.func56 rfl (by rw [Try.ntmps56]; simp) ?_
      rw [Try.ntmps56]
      refine IWp.seq ?_
      refine IWp.run [1] ?_
      simp [go_sem, -getElem?_pos, -List.map_take, -List.map_drop, List.getElem?_cons_zero, List.getElem?_cons_succ, Go.IntWalk.iteOmega, Go.IntWalk.toNatUp, h1, Rule.val, Rule.cells]
      refine IWp.seq ?_
      refine IWp.seq ?_
      refine IWp.run [1, 4] ?_
      simp [go_sem, -getElem?_pos, -List.map_take, -List.map_drop, List.getElem?_cons_zero, List.getElem?_cons_succ, Go.IntWalk.iteOmega, Go.IntWalk.toNatUp, h1, Rule.val, Rule.cells]
      refine IWp.block ?_
      refine IWp.seq ?_
      refine IWp.run [1, 4, 5] ?_
      simp [go_sem, -getElem?_pos, -List.map_take, -List.map_drop, List.getElem?_cons_zero, List.getElem?_cons_succ, Go.IntWalk.iteOmega, Go.IntWalk.toNatUp, h1, Rule.val, Rule.cells]
      refine IWp.cond ?_
      simp [go_sem, -getElem?_pos, -List.map_take, -List.map_drop, List.getElem?_cons_zero, List.getElem?_cons_succ, Go.IntWalk.iteOmega, Go.IntWalk.toNatUp, h1, Rule.val, Rule.cells]
      refine IWp.seq ?_
      refine IWp.run [2] ?_
      simp [go_sem, -getElem?_pos, -List.map_take, -List.map_drop, List.getElem?_cons_zero, List.getElem?_cons_succ, Go.IntWalk.iteOmega, Go.IntWalk.toNatUp, h1, Rule.val, Rule.cells]
      refine ICalls.then (c1 _) ?_
      try simp [go_sem, -getElem?_pos, -List.map_take, -List.map_drop, List.getElem?_cons_zero, List.getElem?_cons_succ, Go.IntWalk.iteOmega, Go.IntWalk.toNatUp, h1, Rule.val, Rule.cells]
      refine IWp.ret ?_
      simp [go_sem, -getElem?_pos, -List.map_take, -List.map_drop, List.getElem?_cons_zero, List.getElem?_cons_succ, Go.IntWalk.iteOmega, Go.IntWalk.toNatUp, h1, Rule.val, Rule.cells, Try.results56]
      try exact .same _
    cases x2
    · skip
      refine IBody.of Try.func56 rfl (by rw [Try.ntmps56]; simp) ?_
      rw [Try.ntmps56]
      refine IWp.seq ?_
      refine IWp.run [1] ?_
      simp [go_sem, -getElem?_pos, -List.map_take, -List.map_drop, List.getElem?_cons_zero, List.getElem?_cons_succ, Go.IntWalk.iteOmega, Go.IntWalk.toNatUp, h1, Rule.val, Rule.cells]
      refine IWp.seq ?_
      refine IWp.seq ?_
      refine IWp.run [1, 4] ?_
      simp [go_sem, -getElem?_pos, -List.map_take, -List.map_drop, List.getElem?_cons_zero, List.getElem?_cons_succ, Go.IntWalk.iteOmega, Go.IntWalk.toNatUp, h1, Rule.val, Rule.cells]
      refine IWp.block ?_
      refine IWp.seq ?_
      refine IWp.run [1, 4, 5] ?_
      simp [go_sem, -getElem?_pos, -List.map_take, -List.map_drop, List.getElem?_cons_zero, List.getElem?_cons_succ, Go.IntWalk.iteOmega, Go.IntWalk.toNatUp, h1, Rule.val, Rule.cells]
      refine IWp.cond ?_
      simp [go_sem, -getElem?_pos, -List.map_take, -List.map_drop, List.getElem?_cons_zero, List.getElem?_cons_succ, Go.IntWalk.iteOmega, Go.IntWalk.toNatUp, h1, Rule.val, Rule.cells]
      refine IWp.seq ?_
      refine IWp.run [2] ?_
      simp [go_sem, -getElem?_pos, -List.map_take, -List.map_drop, List.getElem?_cons_zero, List.getElem?_cons_succ, Go.IntWalk.iteOmega, Go.IntWalk.toNatUp, h1, Rule.val, Rule.cells]
      refine ICalls.then (c1 _) ?_
      try simp [go_sem, -getElem?_pos, -List.map_take, -List.map_drop, List.getElem?_cons_zero, List.getElem?_cons_succ, Go.IntWalk.iteOmega, Go.IntWalk.toNatUp, h1, Rule.val, Rule.cells]
      refine ICalls.then (c2 _) ?_
      try simp [go_sem, -getElem?_pos, -List.map_take, -List.map_drop, List.getElem?_cons_zero, List.getElem?_cons_succ, Go.IntWalk.iteOmega, Go.IntWalk.toNatUp, h1, Rule.val, Rule.cells]
      refine IWp.ret ?_
      simp [go_sem, -getElem?_pos, -List.map_take, -List.map_drop, List.getElem?_cons_zero, List.getElem?_cons_succ, Go.IntWalk.iteOmega, Go.IntWalk.toNatUp, h1, Rule.val, Rule.cells, Try.results56]
      try exact .same _
    · skip
      refine IBody.of Try.func56 rfl (by rw [Try.ntmps56]; simp) ?_
      rw [Try.ntmps56]
      refine IWp.seq ?_
      refine IWp.run [1] ?_
      simp [go_sem, -getElem?_pos, -List.map_take, -List.map_drop, List.getElem?_cons_zero, List.getElem?_cons_succ, Go.IntWalk.iteOmega, Go.IntWalk.toNatUp, h1, Rule.val, Rule.cells]
      refine IWp.seq ?_
      refine IWp.seq ?_
      refine IWp.run [1, 4] ?_
      simp [go_sem, -getElem?_pos, -List.map_take, -List.map_drop, List.getElem?_cons_zero, List.getElem?_cons_succ, Go.IntWalk.iteOmega, Go.IntWalk.toNatUp, h1, Rule.val, Rule.cells]
      refine IWp.block ?_
      refine IWp.seq ?_
      refine IWp.run [1, 4, 5] ?_
      simp [go_sem, -getElem?_pos, -List.map_take, -List.map_drop, List.getElem?_cons_zero, List.getElem?_cons_succ, Go.IntWalk.iteOmega, Go.IntWalk.toNatUp, h1, Rule.val, Rule.cells]
      refine IWp.cond ?_
      simp [go_sem, -getElem?_pos, -List.map_take, -List.map_drop, List.getElem?_cons_zero, List.getElem?_cons_succ, Go.IntWalk.iteOmega, Go.IntWalk.toNatUp, h1, Rule.val, Rule.cells]
      refine IWp.seq ?_
      refine IWp.run [2] ?_
      simp [go_sem, -getElem?_pos, -List.map_take, -List.map_drop, List.getElem?_cons_zero, List.getElem?_cons_succ, Go.IntWalk.iteOmega, Go.IntWalk.toNatUp, h1, Rule.val, Rule.cells]
      refine ICalls.then (c1 _) ?_
      try simp [go_sem, -getElem?_pos, -List.map_take, -List.map_drop, List.getElem?_cons_zero, List.getElem?_cons_succ, Go.IntWalk.iteOmega, Go.IntWalk.toNatUp, h1, Rule.val, Rule.cells]
      refine ICalls.then (c2 _) ?_
      try simp [go_sem, -getElem?_pos, -List.map_take, -List.map_drop, List.getElem?_cons_zero, List.getElem?_cons_succ, Go.IntWalk.iteOmega, Go.IntWalk.toNatUp, h1, Rule.val, Rule.cells]
      refine IWp.ret ?_
      simp [go_sem, -getElem?_pos, -List.map_take, -List.map_drop, List.getElem?_cons_zero, List.getElem?_cons_succ, Go.IntWalk.iteOmega, Go.IntWalk.toNatUp, h1, Rule.val, Rule.cells, Try.results56]
      try exact .same _
  by_cases h2 : r.kind = 2
  · rw [if_neg (by omega)]; rw [if_pos h2]
    have c1 := fun K => numberC K r.lim
    have c2 := fun K => numberC K r.back
    generalize numS r.lim = x1 at *
    generalize numS r.back = x2 at *
    cases x1
    · skip
      refine IBody.of Try.func56 rfl (by rw [Try.ntmps56]; simp) ?_
      rw [Try.ntmps56]
      refine IWp.seq ?_
      refine IWp.run [1] ?_
      simp [go_sem, -getElem?_pos, -List.map_take, -List.map_drop, List.getElem?_cons_zero, List.getElem?_cons_succ, Go.IntWalk.iteOmega, Go.IntWalk.toNatUp, h2, Rule.val, Rule.cells]
      refine IWp.seq ?_
      refine IWp.seq ?_
      refine IWp.run [1, 4] ?_
      simp [go_sem, -getElem?_pos, -List.map_take, -List.map_drop, List.getElem?_cons_zero, List.getElem?_cons_succ, Go.IntWalk.iteOmega, Go.IntWalk.toNatUp, h2, Rule.val, Rule.cells]
      refine IWp.block ?_
      refine IWp.seq ?_
      refine IWp.run [1, 4, 5] ?_
      simp [go_sem, -getElem?_pos, -List.map_take, -List.map_drop, List.getElem?_cons_zero, List.getElem?_cons_succ, Go.IntWalk.iteOmega, Go.IntWalk.toNatUp, h2, Rule.val, Rule.cells]
      refine IWp.cond ?_
      simp [go_sem, -getElem?_pos, -List.map_take, -List.map_drop, List.getElem?_cons_zero, List.getElem?_cons_succ, Go.IntWalk.iteOmega, Go.IntWalk.toNatUp, h2, Rule.val, Rule.cells]
      refine IWp.seq ?_
      refine IWp.run [1, 4, 22] ?_
      simp [go_sem, -getElem?_pos, -List.map_take, -List.map_drop, List.getElem?_cons_zero, List.getElem?_cons_succ, Go.IntWalk.iteOmega, Go.IntWalk.toNatUp, h2, Rule.val, Rule.cells]
      refine IWp.cond ?_
      simp [go_sem, -getElem?_pos, -List.map_take, -List.map_drop, List.getElem?_cons_zero, List.getElem?_cons_succ, Go.IntWalk.iteOmega, Go.IntWalk.toNatUp, h2, Rule.val, Rule.cells]
      refine IWp.seq ?_
      refine IWp.run [2] ?_
      simp [go_sem, -getElem?_pos, -List.map_take, -List.map_drop, List.getElem?_cons_zero, List.getElem?_cons_succ, Go.IntWalk.iteOmega, Go.IntWalk.toNatUp, h2, Rule.val, Rule.cells]
      refine ICalls.then (c1 _) ?_
      try simp [go_sem, -getElem?_pos, -List.map_take, -List.map_drop, List.getElem?_cons_zero, List.getElem?_cons_succ, Go.IntWalk.iteOmega, Go.IntWalk.toNatUp, h2, Rule.val, Rule.cells]
      refine IWp.ret ?_
      simp [go_sem, -getElem?_pos, -List.map_take, -List.map_drop, List.getElem?_cons_zero, List.getElem?_cons_succ, Go.IntWalk.iteOmega, Go.IntWalk.toNatUp, h2, Rule.val, Rule.cells, Try.results56]
      try exact .same _
    cases x2
    · skip
      refine IBody.of Try.func56 rfl (by rw [Try.ntmps56]; simp) ?_
      rw [Try.ntmps56]
      refine IWp.seq ?_
      refine IWp.run [1] ?_
      simp [go_sem, -getElem?_pos, -List.map_take, -List.map_drop, List.getElem?_cons_zero, List.getElem?_cons_succ, Go.IntWalk.iteOmega, Go.IntWalk.toNatUp, h2, Rule.val, Rule.cells]
      refine IWp.seq ?_
      refine IWp.seq ?_
      refine IWp.run [1, 4] ?_
      simp [go_sem, -getElem?_pos, -List.map_take, -List.map_drop, List.getElem?_cons_zero, List.getElem?_cons_succ, Go.IntWalk.iteOmega, Go.IntWalk.toNatUp, h2, Rule.val, Rule.cells]
      refine IWp.block ?_
      refine IWp.seq ?_
      refine IWp.run [1, 4, 5] ?_
      simp [go_sem, -getElem?_pos, -List.map_take, -List.map_drop, List.getElem?_cons_zero, List.getElem?_cons_succ, Go.IntWalk.iteOmega, Go.IntWalk.toNatUp, h2, Rule.val, Rule.cells]
      refine IWp.cond ?_
      simp [go_sem, -getElem?_pos, -List.map_take, -List.map_drop, List.getElem?_cons_zero, List.getElem?_cons_succ, Go.IntWalk.iteOmega, Go.IntWalk.toNatUp, h2, Rule.val, Rule.cells]
      refine IWp.seq ?_
      refine IWp.run [1, 4, 22] ?_
      simp [go_sem, -getElem?_pos, -List.map_take, -List.map_drop, List.getElem?_cons_zero, List.getElem?_cons_succ, Go.IntWalk.iteOmega, Go.IntWalk.toNatUp, h2, Rule.val, Rule.cells]
      refine IWp.cond ?_
      simp [go_sem, -getElem?_pos, -List.map_take, -List.map_drop, List.getElem?_cons_zero, List.getElem?_cons_succ, Go.IntWalk.iteOmega, Go.IntWalk.toNatUp, h2, Rule.val, Rule.cells]
      refine IWp.seq ?_
      refine IWp.run [2] ?_
      simp [go_sem, -getElem?_pos, -List.map_take, -List.map_drop, List.getElem?_cons_zero, List.getElem?_cons_succ, Go.IntWalk.iteOmega, Go.IntWalk.toNatUp, h2, Rule.val, Rule.cells]
      refine ICalls.then (c1 _) ?_
      try simp [go_sem, -getElem?_pos, -List.map_take, -List.map_drop, List.getElem?_cons_zero, List.getElem?_cons_succ, Go.IntWalk.iteOmega, Go.IntWalk.toNatUp, h2, Rule.val, Rule.cells]
      refine ICalls.then (c2 _) ?_
      try simp [go_sem, -getElem?_pos, -List.map_take, -List.map_drop, List.getElem?_cons_zero, List.getElem?_cons_succ, Go.IntWalk.iteOmega, Go.IntWalk.toNatUp, h2, Rule.val, Rule.cells]
      refine IWp.ret ?_
      simp [go_sem, -getElem?_pos, -List.map_take, -List.map_drop, List.getElem?_cons_zero, List.getElem?_cons_succ, Go.IntWalk.iteOmega, Go.IntWalk.toNatUp, h2, Rule.val, Rule.cells, Try.results56]
      try exact .same _
    · skip
      refine IBody.of Try.func56 rfl (by rw [Try.ntmps56]; simp) ?_
      rw [Try.ntmps56]
      refine IWp.seq ?_
      refine IWp.run [1] ?_
      simp [go_sem, -getElem?_pos, -List.map_take, -List.map_drop, List.getElem?_cons_zero, List.getElem?_cons_succ, Go.IntWalk.iteOmega, Go.IntWalk.toNatUp, h2, Rule.val, Rule.cells]
      refine IWp.seq ?_
      refine IWp.seq ?_
      refine IWp.run [1, 4] ?_
      simp [go_sem, -getElem?_pos, -List.map_take, -List.map_drop, List.getElem?_cons_zero, List.getElem?_cons_succ, Go.IntWalk.iteOmega, Go.IntWalk.toNatUp, h2, Rule.val, Rule.cells]
      refine IWp.block ?_
      refine IWp.seq ?_
      refine IWp.run [1, 4, 5] ?_
      simp [go_sem, -getElem?_pos, -List.map_take, -List.map_drop, List.getElem?_cons_zero, List.getElem?_cons_succ, Go.IntWalk.iteOmega, Go.IntWalk.toNatUp, h2, Rule.val, Rule.cells]
      refine IWp.cond ?_
      simp [go_sem, -getElem?_pos, -List.map_take, -List.map_drop, List.getElem?_cons_zero, List.getElem?_cons_succ, Go.IntWalk.iteOmega, Go.IntWalk.toNatUp, h2, Rule.val, Rule.cells]
      refine IWp.seq ?_
      refine IWp.run [1, 4, 22] ?_
      simp [go_sem, -getElem?_pos, -List.map_take, -List.map_drop, List.getElem?_cons_zero, List.getElem?_cons_succ, Go.IntWalk.iteOmega, Go.IntWalk.toNatUp, h2, Rule.val, Rule.cells]
      refine IWp.cond ?_
      simp [go_sem, -getElem?_pos, -List.map_take, -List.map_drop, List.getElem?_cons_zero, List.getElem?_cons_succ, Go.IntWalk.iteOmega, Go.IntWalk.toNatUp, h2, Rule.val, Rule.cells]
      refine IWp.seq ?_
      refine IWp.run [2] ?_
      simp [go_sem, -getElem?_pos, -List.map_take, -List.map_drop, List.getElem?_cons_zero, List.getElem?_cons_succ, Go.IntWalk.iteOmega, Go.IntWalk.toNatUp, h2, Rule.val, Rule.cells]
      refine ICalls.then (c1 _) ?_
      try simp [go_sem, -getElem?_pos, -List.map_take, -List.map_drop, List.getElem?_cons_zero, List.getElem?_cons_succ, Go.IntWalk.iteOmega, Go.IntWalk.toNatUp, h2, Rule.val, Rule.cells]
      refine ICalls.then (c2 _) ?_
      try simp [go_sem, -getElem?_pos, -List.map_take, -List.map_drop, List.getElem?_cons_zero, List.getElem?_cons_succ, Go.IntWalk.iteOmega, Go.IntWalk.toNatUp, h2, Rule.val, Rule.cells]
      refine IWp.ret ?_
      simp [go_sem, -getElem?_pos, -List.map_take, -List.map_drop, List.getElem?_cons_zero, List.getElem?_cons_succ, Go.IntWalk.iteOmega, Go.IntWalk.toNatUp, h2, Rule.val, Rule.cells, Try.results56]
      try exact .same _
  rw [if_neg h1, if_neg h2]
  by_cases h3 : r.kind = 3
  · rw [if_pos (by omega)]
    have c1 := fun K => withinI K r.lim 1 2147483647
    have c2 := fun K => withinI K r.back 0 r.lim
    generalize inS r.lim 1 2147483647 = x1 at *
    generalize inS r.back 0 r.lim = x2 at *
    cases x1
    · skip
      refine IBody.of Try.func56 rfl (by rw [Try.ntmps56]; simp) ?_
      rw [Try.ntmps56]
      refine IWp.seq ?_
      refine IWp.run [1] ?_
      simp [go_sem, -getElem?_pos, -List.map_take, -List.map_drop, List.getElem?_cons_zero, List.getElem?_cons_succ, Go.IntWalk.iteOmega, Go.IntWalk.toNatUp, h3, Rule.val, Rule.cells]
      refine IWp.seq ?_
      refine IWp.seq ?_
      refine IWp.run [1, 4] ?_
      simp [go_sem, -getElem?_pos, -List.map_take, -List.map_drop, List.getElem?_cons_zero, List.getElem?_cons_succ, Go.IntWalk.iteOmega, Go.IntWalk.toNatUp, h3, Rule.val, Rule.cells]
      refine IWp.block ?_
      refine IWp.seq ?_
      refine IWp.run [1, 4, 5] ?_
      simp [go_sem, -getElem?_pos, -List.map_take, -List.map_drop, List.getElem?_cons_zero, List.getElem?_cons_succ, Go.IntWalk.iteOmega, Go.IntWalk.toNatUp, h3, Rule.val, Rule.cells]
      refine IWp.cond ?_
      simp [go_sem, -getElem?_pos, -List.map_take, -List.map_drop, List.getElem?_cons_zero, List.getElem?_cons_succ, Go.IntWalk.iteOmega, Go.IntWalk.toNatUp, h3, Rule.val, Rule.cells]
      refine IWp.seq ?_
      refine IWp.run [1, 4, 22] ?_
      simp [go_sem, -getElem?_pos, -List.map_take, -List.map_drop, List.getElem?_cons_zero, List.getElem?_cons_succ, Go.IntWalk.iteOmega, Go.IntWalk.toNatUp, h3, Rule.val, Rule.cells]
      refine IWp.cond ?_
      simp [go_sem, -getElem?_pos, -List.map_take, -List.map_drop, List.getElem?_cons_zero, List.getElem?_cons_succ, Go.IntWalk.iteOmega, Go.IntWalk.toNatUp, h3, Rule.val, Rule.cells]
      refine IWp.seq ?_
      refine IWp.seq ?_
      refine IWp.run [1, 4, 39] ?_
      simp [go_sem, -getElem?_pos, -List.map_take, -List.map_drop, List.getElem?_cons_zero, List.getElem?_cons_succ, Go.IntWalk.iteOmega, Go.IntWalk.toNatUp, h3, Rule.val, Rule.cells]
      refine IWp.cond ?_
      simp [go_sem, -getElem?_pos, -List.map_take, -List.map_drop, List.getElem?_cons_zero, List.getElem?_cons_succ, Go.IntWalk.iteOmega, Go.IntWalk.toNatUp, h3, Rule.val, Rule.cells]
      refine IWp.trim [1, 39] (IWp.skip ?_)
      simp [go_sem, -getElem?_pos, -List.map_take, -List.map_drop, List.getElem?_cons_zero, List.getElem?_cons_succ, Go.IntWalk.iteOmega, Go.IntWalk.toNatUp, h3, Rule.val, Rule.cells]
      refine IWp.cond ?_
      simp [go_sem, -getElem?_pos, -List.map_take, -List.map_drop, List.getElem?_cons_zero, List.getElem?_cons_succ, Go.IntWalk.iteOmega, Go.IntWalk.toNatUp, h3, Rule.val, Rule.cells]
      refine IWp.seq ?_
      refine IWp.run [2] ?_
      simp [go_sem, -getElem?_pos, -List.map_take, -List.map_drop, List.getElem?_cons_zero, List.getElem?_cons_succ, Go.IntWalk.iteOmega, Go.IntWalk.toNatUp, h3, Rule.val, Rule.cells]
      refine ICalls.then (c1 _) ?_
      try simp [go_sem, -getElem?_pos, -List.map_take, -List.map_drop, List.getElem?_cons_zero, List.getElem?_cons_succ, Go.IntWalk.iteOmega, Go.IntWalk.toNatUp, h3, Rule.val, Rule.cells]
      refine IWp.ret ?_
      simp [go_sem, -getElem?_pos, -List.map_take, -List.map_drop, List.getElem?_cons_zero, List.getElem?_cons_succ, Go.IntWalk.iteOmega, Go.IntWalk.toNatUp, h3, Rule.val, Rule.cells, Try.results56]
      try exact .same _
    cases x2
    · skip
      refine IBody.of Try.func56 rfl (by rw [Try.ntmps56]; simp) ?_
      rw [Try.ntmps56]
      refine IWp.seq ?_
      refine IWp.run [1] ?_
      simp [go_sem, -getElem?_pos, -List.map_take, -List.map_drop, List.getElem?_cons_zero, List.getElem?_cons_succ, Go.IntWalk.iteOmega, Go.IntWalk.toNatUp, h3, Rule.val, Rule.cells]
      refine IWp.seq ?_
      refine IWp.seq ?_
      refine IWp.run [1, 4] ?_
      simp [go_sem, -getElem?_pos, -List.map_take, -List.map_drop, List.getElem?_cons_zero, List.getElem?_cons_succ, Go.IntWalk.iteOmega, Go.IntWalk.toNatUp, h3, Rule.val, Rule.cells]
      refine IWp.block ?_
      refine IWp.seq ?_
      refine IWp.run [1, 4, 5] ?_
      simp [go_sem, -getElem?_pos, -List.map_take, -List.map_drop, List.getElem?_cons_zero, List.getElem?_cons_succ, Go.IntWalk.iteOmega, Go.IntWalk.toNatUp, h3, Rule.val, Rule.cells]
      refine IWp.cond ?_
      simp [go_sem, -getElem?_pos, -List.map_take, -List.map_drop, List.getElem?_cons_zero, List.getElem?_cons_succ, Go.IntWalk.iteOmega, Go.IntWalk.toNatUp, h3, Rule.val, Rule.cells]
      refine IWp.seq ?_
      refine IWp.run [1, 4, 22] ?_
      simp [go_sem, -getElem?_pos, -List.map_take, -List.map_drop, List.getElem?_cons_zero, List.getElem?_cons_succ, Go.IntWalk.iteOmega, Go.IntWalk.toNatUp, h3, Rule.val, Rule.cells]
      refine IWp.cond ?_
      simp [go_sem, -getElem?_pos, -List.map_take, -List.map_drop, List.getElem?_cons_zero, List.getElem?_cons_succ, Go.IntWalk.iteOmega, Go.IntWalk.toNatUp, h3, Rule.val, Rule.cells]
      refine IWp.seq ?_
      refine IWp.seq ?_
      refine IWp.run [1, 4, 39] ?_
      simp [go_sem, -getElem?_pos, -List.map_take, -List.map_drop, List.getElem?_cons_zero, List.getElem?_cons_succ, Go.IntWalk.iteOmega, Go.IntWalk.toNatUp, h3, Rule.val, Rule.cells]
      refine IWp.cond ?_
      simp [go_sem, -getElem?_pos, -List.map_take, -List.map_drop, List.getElem?_cons_zero, List.getElem?_cons_succ, Go.IntWalk.iteOmega, Go.IntWalk.toNatUp, h3, Rule.val, Rule.cells]
      refine IWp.trim [1, 39] (IWp.skip ?_)
      simp [go_sem, -getElem?_pos, -List.map_take, -List.map_drop, List.getElem?_cons_zero, List.getElem?_cons_succ, Go.IntWalk.iteOmega, Go.IntWalk.toNatUp, h3, Rule.val, Rule.cells]
      refine IWp.cond ?_
      simp [go_sem, -getElem?_pos, -List.map_take, -List.map_drop, List.getElem?_cons_zero, List.getElem?_cons_succ, Go.IntWalk.iteOmega, Go.IntWalk.toNatUp, h3, Rule.val, Rule.cells]
      refine IWp.seq ?_
      refine IWp.run [2] ?_
      simp [go_sem, -getElem?_pos, -List.map_take, -List.map_drop, List.getElem?_cons_zero, List.getElem?_cons_succ, Go.IntWalk.iteOmega, Go.IntWalk.toNatUp, h3, Rule.val, Rule.cells]
      refine ICalls.then (c1 _) ?_
      try simp [go_sem, -getElem?_pos, -List.map_take, -List.map_drop, List.getElem?_cons_zero, List.getElem?_cons_succ, Go.IntWalk.iteOmega, Go.IntWalk.toNatUp, h3, Rule.val, Rule.cells]
      refine ICalls.then (c2 _) ?_
      try simp [go_sem, -getElem?_pos, -List.map_take, -List.map_drop, List.getElem?_cons_zero, List.getElem?_cons_succ, Go.IntWalk.iteOmega, Go.IntWalk.toNatUp, h3, Rule.val, Rule.cells]
      refine IWp.ret ?_
      simp [go_sem, -getElem?_pos, -List.map_take, -List.map_drop, List.getElem?_cons_zero, List.getElem?_cons_succ, Go.IntWalk.iteOmega, Go.IntWalk.toNatUp, h3, Rule.val, Rule.cells, Try.results56]
      try exact .same _
    · skip
      refine IBody.of Try.func56 rfl (by rw [Try.ntmps56]; simp) ?_
      rw [Try.ntmps56]
      refine IWp.seq ?_
      refine IWp.run [1] ?_
      simp [go_sem, -getElem?_pos, -List.map_take, -List.map_drop, List.getElem?_cons_zero, List.getElem?_cons_succ, Go.IntWalk.iteOmega, Go.IntWalk.toNatUp, h3, Rule.val, Rule.cells]
      refine IWp.seq ?_
      refine IWp.seq ?_
      refine IWp.run [1, 4] ?_
      simp [go_sem, -getElem?_pos, -List.map_take, -List.map_drop, List.getElem?_cons_zero, List.getElem?_cons_succ, Go.IntWalk.iteOmega, Go.IntWalk.toNatUp, h3, Rule.val, Rule.cells]
      refine IWp.block ?_
      refine IWp.seq ?_
      refine IWp.run [1, 4, 5] ?_
      simp [go_sem, -getElem?_pos, -List.map_take, -List.map_drop, List.getElem?_cons_zero, List.getElem?_cons_succ, Go.IntWalk.iteOmega, Go.IntWalk.toNatUp, h3, Rule.val, Rule.cells]
      refine IWp.cond ?_
      simp [go_sem, -getElem?_pos, -List.map_take, -List.map_drop, List.getElem?_cons_zero, List.getElem?_cons_succ, Go.IntWalk.iteOmega, Go.IntWalk.toNatUp, h3, Rule.val, Rule.cells]
      refine IWp.seq ?_
      refine IWp.run [1, 4, 22] ?_
      simp [go_sem, -getElem?_pos, -List.map_take, -List.map_drop, List.getElem?_cons_zero, List.getElem?_cons_succ, Go.IntWalk.iteOmega, Go.IntWalk.toNatUp, h3, Rule.val, Rule.cells]
      refine IWp.cond ?_
      simp [go_sem, -getElem?_pos, -List.map_take, -List.map_drop, List.getElem?_cons_zero, List.getElem?_cons_succ, Go.IntWalk.iteOmega, Go.IntWalk.toNatUp, h3, Rule.val, Rule.cells]
      refine IWp.seq ?_
      refine IWp.seq ?_
      refine IWp.run [1, 4, 39] ?_
      simp [go_sem, -getElem?_pos, -List.map_take, -List.map_drop, List.getElem?_cons_zero, List.getElem?_cons_succ, Go.IntWalk.iteOmega, Go.IntWalk.toNatUp, h3, Rule.val, Rule.cells]
      refine IWp.cond ?_
      simp [go_sem, -getElem?_pos, -List.map_take, -List.map_drop, List.getElem?_cons_zero, List.getElem?_cons_succ, Go.IntWalk.iteOmega, Go.IntWalk.toNatUp, h3, Rule.val, Rule.cells]
      refine IWp.trim [1, 39] (IWp.skip ?_)
      simp [go_sem, -getElem?_pos, -List.map_take, -List.map_drop, List.getElem?_cons_zero, List.getElem?_cons_succ, Go.IntWalk.iteOmega, Go.IntWalk.toNatUp, h3, Rule.val, Rule.cells]
      refine IWp.cond ?_
      simp [go_sem, -getElem?_pos, -List.map_take, -List.map_drop, List.getElem?_cons_zero, List.getElem?_cons_succ, Go.IntWalk.iteOmega, Go.IntWalk.toNatUp, h3, Rule.val, Rule.cells]
      refine IWp.seq ?_
      refine IWp.run [2] ?_
      simp [go_sem, -getElem?_pos, -List.map_take, -List.map_drop, List.getElem?_cons_zero, List.getElem?_cons_succ, Go.IntWalk.iteOmega, Go.IntWalk.toNatUp, h3, Rule.val, Rule.cells]
      refine ICalls.then (c1 _) ?_
      try simp [go_sem, -getElem?_pos, -List.map_take, -List.map_drop, List.getElem?_cons_zero, List.getElem?_cons_succ, Go.IntWalk.iteOmega, Go.IntWalk.toNatUp, h3, Rule.val, Rule.cells]
      refine ICalls.then (c2 _) ?_
      try simp [go_sem, -getElem?_pos, -List.map_take, -List.map_drop, List.getElem?_cons_zero, List.getElem?_cons_succ, Go.IntWalk.iteOmega, Go.IntWalk.toNatUp, h3, Rule.val, Rule.cells]
      refine IWp.ret ?_
      simp [go_sem, -getElem?_pos, -List.map_take, -List.map_drop, List.getElem?_cons_zero, List.getElem?_cons_succ, Go.IntWalk.iteOmega, Go.IntWalk.toNatUp, h3, Rule.val, Rule.cells, Try.results56]
      try exact .same _
  by_cases h4 : r.kind = 4
  · rw [if_pos (by omega)]
    have c1 := fun K => withinI K r.lim 1 2147483647
    have c2 := fun K => withinI K r.back 0 r.lim
    generalize inS r.lim 1 2147483647 = x1 at *
    generalize inS r.back 0 r.lim = x2 at *
    cases x1
    · skip
      refine IBody.of Try.func56 rfl (by rw [Try.ntmps56]; simp) ?_
      rw [Try.ntmps56]
      refine IWp.seq ?_
      refine IWp.run [1] ?_
      simp [go_sem, -getElem?_pos, -List.map_take, -List.map_drop, List.getElem?_cons_zero, List.getElem?_cons_succ, Go.IntWalk.iteOmega, Go.IntWalk.toNatUp, h4, Rule.val, Rule.cells]
      refine IWp.seq ?_
      refine IWp.seq ?_
      refine IWp.run [1, 4] ?_
      simp [go_sem, -getElem?_pos, -List.map_take, -List.map_drop, List.getElem?_cons_zero, List.getElem?_cons_succ, Go.IntWalk.iteOmega, Go.IntWalk.toNatUp, h4, Rule.val, Rule.cells]
      refine IWp.block ?_
      refine IWp.seq ?_
      refine IWp.run [1, 4, 5] ?_
      simp [go_sem, -getElem?_pos, -List.map_take, -List.map_drop, List.getElem?_cons_zero, List.getElem?_cons_succ, Go.IntWalk.iteOmega, Go.IntWalk.toNatUp, h4, Rule.val, Rule.cells]
      refine IWp.cond ?_
      simp [go_sem, -getElem?_pos, -List.map_take, -List.map_drop, List.getElem?_cons_zero, List.getElem?_cons_succ, Go.IntWalk.iteOmega, Go.IntWalk.toNatUp, h4, Rule.val, Rule.cells]
      refine IWp.seq ?_
      refine IWp.run [1, 4, 22] ?_
      simp [go_sem, -getElem?_pos, -List.map_take, -List.map_drop, List.getElem?_cons_zero, List.getElem?_cons_succ, Go.IntWalk.iteOmega, Go.IntWalk.toNatUp, h4, Rule.val, Rule.cells]
      refine IWp.cond ?_
      simp [go_sem, -getElem?_pos, -List.map_take, -List.map_drop, List.getElem?_cons_zero, List.getElem?_cons_succ, Go.IntWalk.iteOmega, Go.IntWalk.toNatUp, h4, Rule.val, Rule.cells]
      refine IWp.seq ?_
      refine IWp.seq ?_
      refine IWp.run [1, 4, 39] ?_
      simp [go_sem, -getElem?_pos, -List.map_take, -List.map_drop, List.getElem?_cons_zero, List.getElem?_cons_succ, Go.IntWalk.iteOmega, Go.IntWalk.toNatUp, h4, Rule.val, Rule.cells]
      refine IWp.cond ?_
      simp [go_sem, -getElem?_pos, -List.map_take, -List.map_drop, List.getElem?_cons_zero, List.getElem?_cons_succ, Go.IntWalk.iteOmega, Go.IntWalk.toNatUp, h4, Rule.val, Rule.cells]
      refine IWp.run [1, 39] ?_
      simp [go_sem, -getElem?_pos, -List.map_take, -List.map_drop, List.getElem?_cons_zero, List.getElem?_cons_succ, Go.IntWalk.iteOmega, Go.IntWalk.toNatUp, h4, Rule.val, Rule.cells]
      refine IWp.cond ?_
      simp [go_sem, -getElem?_pos, -List.map_take, -List.map_drop, List.getElem?_cons_zero, List.getElem?_cons_succ, Go.IntWalk.iteOmega, Go.IntWalk.toNatUp, h4, Rule.val, Rule.cells]
      refine IWp.seq ?_
      refine IWp.run [2] ?_
      simp [go_sem, -getElem?_pos, -List.map_take, -List.map_drop, List.getElem?_cons_zero, List.getElem?_cons_succ, Go.IntWalk.iteOmega, Go.IntWalk.toNatUp, h4, Rule.val, Rule.cells]
      refine ICalls.then (c1 _) ?_
      try simp [go_sem, -getElem?_pos, -List.map_take, -List.map_drop, List.getElem?_cons_zero, List.getElem?_cons_succ, Go.IntWalk.iteOmega, Go.IntWalk.toNatUp, h4, Rule.val, Rule.cells]
      refine IWp.ret ?_
      simp [go_sem, -getElem?_pos, -List.map_take, -List.map_drop, List.getElem?_cons_zero, List.getElem?_cons_succ, Go.IntWalk.iteOmega, Go.IntWalk.toNatUp, h4, Rule.val, Rule.cells, Try.results56]
      try exact .same _
    cases x2
    · skip
      refine IBody.of Try.func56 rfl (by rw [Try.ntmps56]; simp) ?_
      rw [Try.ntmps56]
      refine IWp.seq ?_
      refine IWp.run [1] ?_
      simp [go_sem, -getElem?_pos, -List.map_take, -List.map_drop, List.getElem?_cons_zero, List.getElem?_cons_succ, Go.IntWalk.iteOmega, Go.IntWalk.toNatUp, h4, Rule.val, Rule.cells]
      refine IWp.seq ?_
      refine IWp.seq ?_
      refine IWp.run [1, 4] ?_
      simp [go_sem, -getElem?_pos, -List.map_take, -List.map_drop, List.getElem?_cons_zero, List.getElem?_cons_succ, Go.IntWalk.iteOmega, Go.IntWalk.toNatUp, h4, Rule.val, Rule.cells]
      refine IWp.block ?_
      refine IWp.seq ?_
      refine IWp.run [1, 4, 5] ?_
      simp [go_sem, -getElem?_pos, -List.map_take, -List.map_drop, List.getElem?_cons_zero, List.getElem?_cons_succ, Go.IntWalk.iteOmega, Go.IntWalk.toNatUp, h4, Rule.val, Rule.cells]
      refine IWp.cond ?_
      simp [go_sem, -getElem?_pos, -List.map_take, -List.map_drop, List.getElem?_cons_zero, List.getElem?_cons_succ, Go.IntWalk.iteOmega, Go.IntWalk.toNatUp, h4, Rule.val, Rule.cells]
      refine IWp.seq ?_
      refine IWp.run [1, 4, 22] ?_
      simp [go_sem, -getElem?_pos, -List.map_take, -List.map_drop, List.getElem?_cons_zero, List.getElem?_cons_succ, Go.IntWalk.iteOmega, Go.IntWalk.toNatUp, h4, Rule.val, Rule.cells]
      refine IWp.cond ?_
      simp [go_sem, -getElem?_pos, -List.map_take, -List.map_drop, List.getElem?_cons_zero, List.getElem?_cons_succ, Go.IntWalk.iteOmega, Go.IntWalk.toNatUp, h4, Rule.val, Rule.cells]
      refine IWp.seq ?_
      refine IWp.seq ?_
      refine IWp.run [1, 4, 39] ?_
      simp [go_sem, -getElem?_pos, -List.map_take, -List.map_drop, List.getElem?_cons_zero, List.getElem?_cons_succ, Go.IntWalk.iteOmega, Go.IntWalk.toNatUp, h4, Rule.val, Rule.cells]
      refine IWp.cond ?_
      simp [go_sem, -getElem?_pos, -List.map_take, -List.map_drop, List.getElem?_cons_zero, List.getElem?_cons_succ, Go.IntWalk.iteOmega, Go.IntWalk.toNatUp, h4, Rule.val, Rule.cells]
      refine IWp.run [1, 39] ?_
      simp [go_sem, -getElem?_pos, -List.map_take, -List.map_drop, List.getElem?_cons_zero, List.getElem?_cons_succ, Go.IntWalk.iteOmega, Go.IntWalk.toNatUp, h4, Rule.val, Rule.cells]
      refine IWp.cond ?_
      simp [go_sem, -getElem?_pos, -List.map_take, -List.map_drop, List.getElem?_cons_zero, List.getElem?_cons_succ, Go.IntWalk.iteOmega, Go.IntWalk.toNatUp, h4, Rule.val, Rule.cells]
      refine IWp.seq ?_
      refine IWp.run [2] ?_
      simp [go_sem, -getElem?_pos, -List.map_take, -List.map_drop, List.getElem?_cons_zero, List.getElem?_cons_succ, Go.IntWalk.iteOmega, Go.IntWalk.toNatUp, h4, Rule.val, Rule.cells]
      refine ICalls.then (c1 _) ?_
      try simp [go_sem, -getElem?_pos, -List.map_take, -List.map_drop, List.getElem?_cons_zero, List.getElem?_cons_succ, Go.IntWalk.iteOmega, Go.IntWalk.toNatUp, h4, Rule.val, Rule.cells]
      refine ICalls.then (c2 _) ?_
      try simp [go_sem, -getElem?_pos, -List.map_take, -List.map_drop, List.getElem?_cons_zero, List.getElem?_cons_succ, Go.IntWalk.iteOmega, Go.IntWalk.toNatUp, h4, Rule.val, Rule.cells]
      refine IWp.ret ?_
      simp [go_sem, -getElem?_pos, -List.map_take, -List.map_drop, List.getElem?_cons_zero, List.getElem?_cons_succ, Go.IntWalk.iteOmega, Go.IntWalk.toNatUp, h4, Rule.val, Rule.cells, Try.results56]
      try exact .same _
    · skip
      refine IBody.of Try.func56 rfl (by rw [Try.ntmps56]; simp) ?_
      rw [Try.ntmps56]
      refine IWp.seq ?_
      refine IWp.run [1] ?_
      simp [go_sem, -getElem?_pos, -List.map_take, -List.map_drop, List.getElem?_cons_zero, List.getElem?_cons_succ, Go.IntWalk.iteOmega, Go.IntWalk.toNatUp, h4, Rule.val, Rule.cells]
      refine IWp.seq ?_
      refine IWp.seq ?_
      refine IWp.run [1, 4] ?_
      simp [go_sem, -getElem?_pos, -List.map_take, -List.map_drop, List.getElem?_cons_zero, List.getElem?_cons_succ, Go.IntWalk.iteOmega, Go.IntWalk.toNatUp, h4, Rule.val, Rule.cells]
      refine IWp.block ?_
      refine IWp.seq ?_
      refine IWp.run [1, 4, 5] ?_
      simp [go_sem, -getElem?_pos, -List.map_take, -List.map_drop, List.getElem?_cons_zero, List.getElem?_cons_succ, Go.IntWalk.iteOmega, Go.IntWalk.toNatUp, h4, Rule.val, Rule.cells]
      refine IWp.cond ?_
      simp [go_sem, -getElem?_pos, -List.map_take, -List.map_drop, List.getElem?_cons_zero, List.getElem?_cons_succ, Go.IntWalk.iteOmega, Go.IntWalk.toNatUp, h4, Rule.val, Rule.cells]
      refine IWp.seq ?_
      refine IWp.run [1, 4, 22] ?_
      simp [go_sem, -getElem?_pos, -List.map_take, -List.map_drop, List.getElem?_cons_zero, List.getElem?_cons_succ, Go.IntWalk.iteOmega, Go.IntWalk.toNatUp, h4, Rule.val, Rule.cells]
      refine IWp.cond ?_
      simp [go_sem, -getElem?_pos, -List.map_take, -List.map_drop, List.getElem?_cons_zero, List.getElem?_cons_succ, Go.IntWalk.iteOmega, Go.IntWalk.toNatUp, h4, Rule.val, Rule.cells]
      refine IWp.seq ?_
      refine IWp.seq ?_
      refine IWp.run [1, 4, 39] ?_
      simp [go_sem, -getElem?_pos, -List.map_take, -List.map_drop, List.getElem?_cons_zero, List.getElem?_cons_succ, Go.IntWalk.iteOmega, Go.IntWalk.toNatUp, h4, Rule.val, Rule.cells]
      refine IWp.cond ?_
      simp [go_sem, -getElem?_pos, -List.map_take, -List.map_drop, List.getElem?_cons_zero, List.getElem?_cons_succ, Go.IntWalk.iteOmega, Go.IntWalk.toNatUp, h4, Rule.val, Rule.cells]
      refine IWp.run [1, 39] ?_
      simp [go_sem, -getElem?_pos, -List.map_take, -List.map_drop, List.getElem?_cons_zero, List.getElem?_cons_succ, Go.IntWalk.iteOmega, Go.IntWalk.toNatUp, h4, Rule.val, Rule.cells]
      refine IWp.cond ?_
      simp [go_sem, -getElem?_pos, -List.map_take, -List.map_drop, List.getElem?_cons_zero, List.getElem?_cons_succ, Go.IntWalk.iteOmega, Go.IntWalk.toNatUp, h4, Rule.val, Rule.cells]
      refine IWp.seq ?_
      refine IWp.run [2] ?_
      simp [go_sem, -getElem?_pos, -List.map_take, -List.map_drop, List.getElem?_cons_zero, List.getElem?_cons_succ, Go.IntWalk.iteOmega, Go.IntWalk.toNatUp, h4, Rule.val, Rule.cells]
      refine ICalls.then (c1 _) ?_
      try simp [go_sem, -getElem?_pos, -List.map_take, -List.map_drop, List.getElem?_cons_zero, List.getElem?_cons_succ, Go.IntWalk.iteOmega, Go.IntWalk.toNatUp, h4, Rule.val, Rule.cells]
      refine ICalls.then (c2 _) ?_
      try simp [go_sem, -getElem?_pos, -List.map_take, -List.map_drop, List.getElem?_cons_zero, List.getElem?_cons_succ, Go.IntWalk.iteOmega, Go.IntWalk.toNatUp, h4, Rule.val, Rule.cells]
      refine IWp.ret ?_
      simp [go_sem, -getElem?_pos, -List.map_take, -List.map_drop, List.getElem?_cons_zero, List.getElem?_cons_succ, Go.IntWalk.iteOmega, Go.IntWalk.toNatUp, h4, Rule.val, Rule.cells, Try.results56]
      try exact .same _
  rw [if_neg (by omega)]
  by_cases h : r.lim = 0
  · skip
    refine IBody.of Try.func56 rfl (by rw [Try.ntmps56]; simp) ?_
    rw [Try.ntmps56]
    refine IWp.seq ?_
    refine IWp.run [1] ?_
    simp [go_sem, -getElem?_pos, -List.map_take, -List.map_drop, List.getElem?_cons_zero, List.getElem?_cons_succ, Go.IntWalk.iteOmega, Go.IntWalk.toNatUp, h1, h2, h3, h4, h, Rule.val, Rule.cells]
    refine IWp.seq ?_
    refine IWp.seq ?_
    refine IWp.run [1, 4] ?_
    simp [go_sem, -getElem?_pos, -List.map_take, -List.map_drop, List.getElem?_cons_zero, List.getElem?_cons_succ, Go.IntWalk.iteOmega, Go.IntWalk.toNatUp, h1, h2, h3, h4, h, Rule.val, Rule.cells]
    refine IWp.block ?_
    refine IWp.seq ?_
    refine IWp.run [1, 4, 5] ?_
    simp [go_sem, -getElem?_pos, -List.map_take, -List.map_drop, List.getElem?_cons_zero, List.getElem?_cons_succ, Go.IntWalk.iteOmega, Go.IntWalk.toNatUp, h1, h2, h3, h4, h, Rule.val, Rule.cells]
    refine IWp.cond ?_
    simp [go_sem, -getElem?_pos, -List.map_take, -List.map_drop, List.getElem?_cons_zero, List.getElem?_cons_succ, Go.IntWalk.iteOmega, Go.IntWalk.toNatUp, h1, h2, h3, h4, h, Rule.val, Rule.cells]
    refine IWp.seq ?_
    refine IWp.run [1, 4, 22] ?_
    simp [go_sem, -getElem?_pos, -List.map_take, -List.map_drop, List.getElem?_cons_zero, List.getElem?_cons_succ, Go.IntWalk.iteOmega, Go.IntWalk.toNatUp, h1, h2, h3, h4, h, Rule.val, Rule.cells]
    refine IWp.cond ?_
    simp [go_sem, -getElem?_pos, -List.map_take, -List.map_drop, List.getElem?_cons_zero, List.getElem?_cons_succ, Go.IntWalk.iteOmega, Go.IntWalk.toNatUp, h1, h2, h3, h4, h, Rule.val, Rule.cells]
    refine IWp.seq ?_
    refine IWp.seq ?_
    refine IWp.run [1, 4, 39] ?_
    simp [go_sem, -getElem?_pos, -List.map_take, -List.map_drop, List.getElem?_cons_zero, List.getElem?_cons_succ, Go.IntWalk.iteOmega, Go.IntWalk.toNatUp, h1, h2, h3, h4, h, Rule.val, Rule.cells]
    refine IWp.cond ?_
    simp [go_sem, -getElem?_pos, -List.map_take, -List.map_drop, List.getElem?_cons_zero, List.getElem?_cons_succ, Go.IntWalk.iteOmega, Go.IntWalk.toNatUp, h1, h2, h3, h4, h, Rule.val, Rule.cells]
    refine IWp.run [1, 39] ?_
    simp [go_sem, -getElem?_pos, -List.map_take, -List.map_drop, List.getElem?_cons_zero, List.getElem?_cons_succ, Go.IntWalk.iteOmega, Go.IntWalk.toNatUp, h1, h2, h3, h4, h, Rule.val, Rule.cells]
    refine IWp.cond ?_
    simp [go_sem, -getElem?_pos, -List.map_take, -List.map_drop, List.getElem?_cons_zero, List.getElem?_cons_succ, Go.IntWalk.iteOmega, Go.IntWalk.toNatUp, h1, h2, h3, h4, h, Rule.val, Rule.cells]
    refine IWp.trim [1] (IWp.skip ?_)
    simp [go_sem, -getElem?_pos, -List.map_take, -List.map_drop, List.getElem?_cons_zero, List.getElem?_cons_succ, Go.IntWalk.iteOmega, Go.IntWalk.toNatUp, h1, h2, h3, h4, h, Rule.val, Rule.cells]
    refine IWp.seq ?_
    refine IWp.run [2] ?_
    simp [go_sem, -getElem?_pos, -List.map_take, -List.map_drop, List.getElem?_cons_zero, List.getElem?_cons_succ, Go.IntWalk.iteOmega, Go.IntWalk.toNatUp, h1, h2, h3, h4, h, Rule.val, Rule.cells]
    refine IWp.ret ?_
    simp [go_sem, -getElem?_pos, -List.map_take, -List.map_drop, List.getElem?_cons_zero, List.getElem?_cons_succ, Go.IntWalk.iteOmega, Go.IntWalk.toNatUp, h1, h2, h3, h4, h, Rule.val, Rule.cells, Try.results56]
    try exact .same _
  · skip
    refine IBody.of Try.func56 rfl (by rw [Try.ntmps56]; simp) ?_
    rw [Try.ntmps56]
    refine IWp.seq ?_
    refine IWp.run [1] ?_
    simp [go_sem, -getElem?_pos, -List.map_take, -List.map_drop, List.getElem?_cons_zero, List.getElem?_cons_succ, Go.IntWalk.iteOmega, Go.IntWalk.toNatUp, h1, h2, h3, h4, h, Rule.val, Rule.cells]
    refine IWp.seq ?_
    refine IWp.seq ?_
    refine IWp.run [1, 4] ?_
    simp [go_sem, -getElem?_pos, -List.map_take, -List.map_drop, List.getElem?_cons_zero, List.getElem?_cons_succ, Go.IntWalk.iteOmega, Go.IntWalk.toNatUp, h1, h2, h3, h4, h, Rule.val, Rule.cells]
    refine IWp.block ?_
    refine IWp.seq ?_
    refine IWp.run [1, 4, 5] ?_
    simp [go_sem, -getElem?_pos, -List.map_take, -List.map_drop, List.getElem?_cons_zero, List.getElem?_cons_succ, Go.IntWalk.iteOmega, Go.IntWalk.toNatUp, h1, h2, h3, h4, h, Rule.val, Rule.cells]
    refine IWp.cond ?_
    simp [go_sem, -getElem?_pos, -List.map_take, -List.map_drop, List.getElem?_cons_zero, List.getElem?_cons_succ, Go.IntWalk.iteOmega, Go.IntWalk.toNatUp, h1, h2, h3, h4, h, Rule.val, Rule.cells]
    refine IWp.seq ?_
    refine IWp.run [1, 4, 22] ?_
    simp [go_sem, -getElem?_pos, -List.map_take, -List.map_drop, List.getElem?_cons_zero, List.getElem?_cons_succ, Go.IntWalk.iteOmega, Go.IntWalk.toNatUp, h1, h2, h3, h4, h, Rule.val, Rule.cells]
    refine IWp.cond ?_
    simp [go_sem, -getElem?_pos, -List.map_take, -List.map_drop, List.getElem?_cons_zero, List.getElem?_cons_succ, Go.IntWalk.iteOmega, Go.IntWalk.toNatUp, h1, h2, h3, h4, h, Rule.val, Rule.cells]
    refine IWp.seq ?_
    refine IWp.seq ?_
    refine IWp.run [1, 4, 39] ?_
    simp [go_sem, -getElem?_pos, -List.map_take, -List.map_drop, List.getElem?_cons_zero, List.getElem?_cons_succ, Go.IntWalk.iteOmega, Go.IntWalk.toNatUp, h1, h2, h3, h4, h, Rule.val, Rule.cells]
    refine IWp.cond ?_
    simp [go_sem, -getElem?_pos, -List.map_take, -List.map_drop, List.getElem?_cons_zero, List.getElem?_cons_succ, Go.IntWalk.iteOmega, Go.IntWalk.toNatUp, h1, h2, h3, h4, h, Rule.val, Rule.cells]
    refine IWp.run [1, 39] ?_
    simp [go_sem, -getElem?_pos, -List.map_take, -List.map_drop, List.getElem?_cons_zero, List.getElem?_cons_succ, Go.IntWalk.iteOmega, Go.IntWalk.toNatUp, h1, h2, h3, h4, h, Rule.val, Rule.cells]
    refine IWp.cond ?_
    simp [go_sem, -getElem?_pos, -List.map_take, -List.map_drop, List.getElem?_cons_zero, List.getElem?_cons_succ, Go.IntWalk.iteOmega, Go.IntWalk.toNatUp, h1, h2, h3, h4, h, Rule.val, Rule.cells]
    refine IWp.trim [1] (IWp.skip ?_)
    simp [go_sem, -getElem?_pos, -List.map_take, -List.map_drop, List.getElem?_cons_zero, List.getElem?_cons_succ, Go.IntWalk.iteOmega, Go.IntWalk.toNatUp, h1, h2, h3, h4, h, Rule.val, Rule.cells]
    refine IWp.seq ?_
    refine IWp.run [2] ?_
    simp [go_sem, -getElem?_pos, -List.map_take, -List.map_drop, List.getElem?_cons_zero, List.getElem?_cons_succ, Go.IntWalk.iteOmega, Go.IntWalk.toNatUp, h1, h2, h3, h4, h, Rule.val, Rule.cells]
    refine IWp.ret ?_
    simp [go_sem, -getElem?_pos, -List.map_take, -List.map_drop, List.getElem?_cons_zero, List.getElem?_cons_succ, Go.IntWalk.iteOmega, Go.IntWalk.toNatUp, h1, h2, h3, h4, h, Rule.val, Rule.cells, Try.results56]
    try exact .same _

theorem spanC (H : Heap) (r : Rule) : ICalls Try.prog 57 [r.val] H fun v H' => v = .bool (spanS r) ∧ H' = H := by
  refine ICalls.ans (by simp [go_sem]) fun H => IBody.calls (by kernel_rfl) ?_
  unfold spanS
  have c1 := fun K => withinL K r.span 1 10000
  by_cases h3 : r.kind = 3
  · rw [if_pos (by omega)]
    refine IBody.of Try.func57 rfl (by rw [Try.ntmps57]; simp) ?_
    rw [Try.ntmps57]
    refine IWp.seq ?_
    refine IWp.run [1] ?_
    simp [go_sem, -getElem?_pos, -List.map_take, -List.map_drop, List.getElem?_cons_zero, List.getElem?_cons_succ, Go.IntWalk.iteOmega, Go.IntWalk.toNatUp, h3, Rule.val, Rule.cells]
    refine IWp.seq ?_
    refine IWp.seq ?_
    refine IWp.run [1, 4] ?_
    simp [go_sem, -getElem?_pos, -List.map_take, -List.map_drop, List.getElem?_cons_zero, List.getElem?_cons_succ, Go.IntWalk.iteOmega, Go.IntWalk.toNatUp, h3, Rule.val, Rule.cells]
    refine IWp.block ?_
    refine IWp.seq ?_
    refine IWp.seq ?_
    refine IWp.run [1, 4, 5] ?_
    simp [go_sem, -getElem?_pos, -List.map_take, -List.map_drop, List.getElem?_cons_zero, List.getElem?_cons_succ, Go.IntWalk.iteOmega, Go.IntWalk.toNatUp, h3, Rule.val, Rule.cells]
    refine IWp.cond ?_
    simp [go_sem, -getElem?_pos, -List.map_take, -List.map_drop, List.getElem?_cons_zero, List.getElem?_cons_succ, Go.IntWalk.iteOmega, Go.IntWalk.toNatUp, h3, Rule.val, Rule.cells]
    refine IWp.trim [1, 5] (IWp.skip ?_)
    simp [go_sem, -getElem?_pos, -List.map_take, -List.map_drop, List.getElem?_cons_zero, List.getElem?_cons_succ, Go.IntWalk.iteOmega, Go.IntWalk.toNatUp, h3, Rule.val, Rule.cells]
    refine IWp.cond ?_
    simp [go_sem, -getElem?_pos, -List.map_take, -List.map_drop, List.getElem?_cons_zero, List.getElem?_cons_succ, Go.IntWalk.iteOmega, Go.IntWalk.toNatUp, h3, Rule.val, Rule.cells]
    refine IWp.seq ?_
    refine IWp.run [2] ?_
    simp [go_sem, -getElem?_pos, -List.map_take, -List.map_drop, List.getElem?_cons_zero, List.getElem?_cons_succ, Go.IntWalk.iteOmega, Go.IntWalk.toNatUp, h3, Rule.val, Rule.cells]
    refine ICalls.then (c1 _) ?_
    try simp [go_sem, -getElem?_pos, -List.map_take, -List.map_drop, List.getElem?_cons_zero, List.getElem?_cons_succ, Go.IntWalk.iteOmega, Go.IntWalk.toNatUp, h3, Rule.val, Rule.cells]
    refine IWp.ret ?_
    simp [go_sem, -getElem?_pos, -List.map_take, -List.map_drop, List.getElem?_cons_zero, List.getElem?_cons_succ, Go.IntWalk.iteOmega, Go.IntWalk.toNatUp, h3, Rule.val, Rule.cells, Try.results57]
    -- PATH LEFT ['T']
    try exact .same _
  by_cases h4 : r.kind = 4
  · rw [if_pos (by omega)]
    refine IBody.of Try.func57 rfl (by rw [Try.ntmps57]; simp) ?_
    rw [Try.ntmps57]
    refine IWp.seq ?_
    refine IWp.run [1] ?_
    simp [go_sem, -getElem?_pos, -List.map_take, -List.map_drop, List.getElem?_cons_zero, List.getElem?_cons_succ, Go.IntWalk.iteOmega, Go.IntWalk.toNatUp, h4, h3, Rule.val, Rule.cells]
    refine IWp.seq ?_
    refine IWp.seq ?_
    refine IWp.run [1, 4] ?_
    simp [go_sem, -getElem?_pos, -List.map_take, -List.map_drop, List.getElem?_cons_zero, List.getElem?_cons_succ, Go.IntWalk.iteOmega, Go.IntWalk.toNatUp, h4, h3, Rule.val, Rule.cells]
    refine IWp.block ?_
    refine IWp.seq ?_
    refine IWp.seq ?_
    refine IWp.run [1, 4, 5] ?_
    simp [go_sem, -getElem?_pos, -List.map_take, -List.map_drop, List.getElem?_cons_zero, List.getElem?_cons_succ, Go.IntWalk.iteOmega, Go.IntWalk.toNatUp, h4, h3, Rule.val, Rule.cells]
    refine IWp.cond ?_
    simp [go_sem, -getElem?_pos, -List.map_take, -List.map_drop, List.getElem?_cons_zero, List.getElem?_cons_succ, Go.IntWalk.iteOmega, Go.IntWalk.toNatUp, h4, h3, Rule.val, Rule.cells]
    refine IWp.seq ?_
    refine IWp.run [1, 4, 5] ?_
    simp [go_sem, -getElem?_pos, -List.map_take, -List.map_drop, List.getElem?_cons_zero, List.getElem?_cons_succ, Go.IntWalk.iteOmega, Go.IntWalk.toNatUp, h4, h3, Rule.val, Rule.cells]
    refine IWp.cond ?_
    simp [go_sem, -getElem?_pos, -List.map_take, -List.map_drop, List.getElem?_cons_zero, List.getElem?_cons_succ, Go.IntWalk.iteOmega, Go.IntWalk.toNatUp, h4, h3, Rule.val, Rule.cells]
    refine IWp.trim [1, 5] (IWp.skip ?_)
    simp [go_sem, -getElem?_pos, -List.map_take, -List.map_drop, List.getElem?_cons_zero, List.getElem?_cons_succ, Go.IntWalk.iteOmega, Go.IntWalk.toNatUp, h4, h3, Rule.val, Rule.cells]
    refine IWp.cond ?_
    simp [go_sem, -getElem?_pos, -List.map_take, -List.map_drop, List.getElem?_cons_zero, List.getElem?_cons_succ, Go.IntWalk.iteOmega, Go.IntWalk.toNatUp, h4, h3, Rule.val, Rule.cells]
    refine IWp.seq ?_
    refine IWp.run [2] ?_
    simp [go_sem, -getElem?_pos, -List.map_take, -List.map_drop, List.getElem?_cons_zero, List.getElem?_cons_succ, Go.IntWalk.iteOmega, Go.IntWalk.toNatUp, h4, h3, Rule.val, Rule.cells]
    refine ICalls.then (c1 _) ?_
    try simp [go_sem, -getElem?_pos, -List.map_take, -List.map_drop, List.getElem?_cons_zero, List.getElem?_cons_succ, Go.IntWalk.iteOmega, Go.IntWalk.toNatUp, h4, h3, Rule.val, Rule.cells]
    refine IWp.ret ?_
    simp [go_sem, -getElem?_pos, -List.map_take, -List.map_drop, List.getElem?_cons_zero, List.getElem?_cons_succ, Go.IntWalk.iteOmega, Go.IntWalk.toNatUp, h4, h3, Rule.val, Rule.cells, Try.results57]
    try exact .same _
  by_cases h5 : r.kind = 5
  · rw [if_pos (by omega)]
    refine IBody.of Try.func57 rfl (by rw [Try.ntmps57]; simp) ?_
    rw [Try.ntmps57]
    refine IWp.seq ?_
    refine IWp.run [1] ?_
    simp [go_sem, -getElem?_pos, -List.map_take, -List.map_drop, List.getElem?_cons_zero, List.getElem?_cons_succ, Go.IntWalk.iteOmega, Go.IntWalk.toNatUp, h5, h3, h4, Rule.val, Rule.cells]
    refine IWp.seq ?_
    refine IWp.seq ?_
    refine IWp.run [1, 4] ?_
    simp [go_sem, -getElem?_pos, -List.map_take, -List.map_drop, List.getElem?_cons_zero, List.getElem?_cons_succ, Go.IntWalk.iteOmega, Go.IntWalk.toNatUp, h5, h3, h4, Rule.val, Rule.cells]
    refine IWp.block ?_
    refine IWp.seq ?_
    refine IWp.seq ?_
    refine IWp.run [1, 4, 5] ?_
    simp [go_sem, -getElem?_pos, -List.map_take, -List.map_drop, List.getElem?_cons_zero, List.getElem?_cons_succ, Go.IntWalk.iteOmega, Go.IntWalk.toNatUp, h5, h3, h4, Rule.val, Rule.cells]
    refine IWp.cond ?_
    simp [go_sem, -getElem?_pos, -List.map_take, -List.map_drop, List.getElem?_cons_zero, List.getElem?_cons_succ, Go.IntWalk.iteOmega, Go.IntWalk.toNatUp, h5, h3, h4, Rule.val, Rule.cells]
    refine IWp.seq ?_
    refine IWp.run [1, 4, 5] ?_
    simp [go_sem, -getElem?_pos, -List.map_take, -List.map_drop, List.getElem?_cons_zero, List.getElem?_cons_succ, Go.IntWalk.iteOmega, Go.IntWalk.toNatUp, h5, h3, h4, Rule.val, Rule.cells]
    refine IWp.cond ?_
    simp [go_sem, -getElem?_pos, -List.map_take, -List.map_drop, List.getElem?_cons_zero, List.getElem?_cons_succ, Go.IntWalk.iteOmega, Go.IntWalk.toNatUp, h5, h3, h4, Rule.val, Rule.cells]
    refine IWp.run [1, 5] ?_
    simp [go_sem, -getElem?_pos, -List.map_take, -List.map_drop, List.getElem?_cons_zero, List.getElem?_cons_succ, Go.IntWalk.iteOmega, Go.IntWalk.toNatUp, h5, h3, h4, Rule.val, Rule.cells]
    refine IWp.cond ?_
    simp [go_sem, -getElem?_pos, -List.map_take, -List.map_drop, List.getElem?_cons_zero, List.getElem?_cons_succ, Go.IntWalk.iteOmega, Go.IntWalk.toNatUp, h5, h3, h4, Rule.val, Rule.cells]
    refine IWp.seq ?_
    refine IWp.run [2] ?_
    simp [go_sem, -getElem?_pos, -List.map_take, -List.map_drop, List.getElem?_cons_zero, List.getElem?_cons_succ, Go.IntWalk.iteOmega, Go.IntWalk.toNatUp, h5, h3, h4, Rule.val, Rule.cells]
    refine ICalls.then (c1 _) ?_
    try simp [go_sem, -getElem?_pos, -List.map_take, -List.map_drop, List.getElem?_cons_zero, List.getElem?_cons_succ, Go.IntWalk.iteOmega, Go.IntWalk.toNatUp, h5, h3, h4, Rule.val, Rule.cells]
    refine IWp.ret ?_
    simp [go_sem, -getElem?_pos, -List.map_take, -List.map_drop, List.getElem?_cons_zero, List.getElem?_cons_succ, Go.IntWalk.iteOmega, Go.IntWalk.toNatUp, h5, h3, h4, Rule.val, Rule.cells, Try.results57]
    try exact .same _
  rw [if_neg (by omega)]
  refine IBody.of Try.func57 rfl (by rw [Try.ntmps57]; simp) ?_
  rw [Try.ntmps57]
  refine IWp.seq ?_
  refine IWp.run [1] ?_
  simp [go_sem, -getElem?_pos, -List.map_take, -List.map_drop, List.getElem?_cons_zero, List.getElem?_cons_succ, Go.IntWalk.iteOmega, Go.IntWalk.toNatUp, h3, h4, h5, Rule.val, Rule.cells]
  refine IWp.seq ?_
  refine IWp.seq ?_
  refine IWp.run [1, 4] ?_
  simp [go_sem, -getElem?_pos, -List.map_take, -List.map_drop, List.getElem?_cons_zero, List.getElem?_cons_succ, Go.IntWalk.iteOmega, Go.IntWalk.toNatUp, h3, h4, h5, Rule.val, Rule.cells]
  refine IWp.block ?_
  refine IWp.seq ?_
  refine IWp.seq ?_
  refine IWp.run [1, 4, 5] ?_
  simp [go_sem, -getElem?_pos, -List.map_take, -List.map_drop, List.getElem?_cons_zero, List.getElem?_cons_succ, Go.IntWalk.iteOmega, Go.IntWalk.toNatUp, h3, h4, h5, Rule.val, Rule.cells]
  refine IWp.cond ?_
  simp [go_sem, -getElem?_pos, -List.map_take, -List.map_drop, List.getElem?_cons_zero, List.getElem?_cons_succ, Go.IntWalk.iteOmega, Go.IntWalk.toNatUp, h3, h4, h5, Rule.val, Rule.cells]
  refine IWp.seq ?_
  refine IWp.run [1, 4, 5] ?_
  simp [go_sem, -getElem?_pos, -List.map_take, -List.map_drop, List.getElem?_cons_zero, List.getElem?_cons_succ, Go.IntWalk.iteOmega, Go.IntWalk.toNatUp, h3, h4, h5, Rule.val, Rule.cells]
  refine IWp.cond ?_
  simp [go_sem, -getElem?_pos, -List.map_take, -List.map_drop, List.getElem?_cons_zero, List.getElem?_cons_succ, Go.IntWalk.iteOmega, Go.IntWalk.toNatUp, h3, h4, h5, Rule.val, Rule.cells]
  refine IWp.run [1, 5] ?_
  simp [go_sem, -getElem?_pos, -List.map_take, -List.map_drop, List.getElem?_cons_zero, List.getElem?_cons_succ, Go.IntWalk.iteOmega, Go.IntWalk.toNatUp, h3, h4, h5, Rule.val, Rule.cells]
  refine IWp.cond ?_
  simp [go_sem, -getElem?_pos, -List.map_take, -List.map_drop, List.getElem?_cons_zero, List.getElem?_cons_succ, Go.IntWalk.iteOmega, Go.IntWalk.toNatUp, h3, h4, h5, Rule.val, Rule.cells]
  refine IWp.trim [1] (IWp.skip ?_)
  simp [go_sem, -getElem?_pos, -List.map_take, -List.map_drop, List.getElem?_cons_zero, List.getElem?_cons_succ, Go.IntWalk.iteOmega, Go.IntWalk.toNatUp, h3, h4, h5, Rule.val, Rule.cells]
  refine IWp.seq ?_
  refine IWp.run [2] ?_
  simp [go_sem, -getElem?_pos, -List.map_take, -List.map_drop, List.getElem?_cons_zero, List.getElem?_cons_succ, Go.IntWalk.iteOmega, Go.IntWalk.toNatUp, h3, h4, h5, Rule.val, Rule.cells]
  refine IWp.ret ?_
  simp [go_sem, -getElem?_pos, -List.map_take, -List.map_drop, List.getElem?_cons_zero, List.getElem?_cons_succ, Go.IntWalk.iteOmega, Go.IntWalk.toNatUp, h3, h4, h5, Rule.val, Rule.cells, Try.results57]
  try exact .same _
end small

end Go.Proofs.Ytmiinclnpcokkaa.I
