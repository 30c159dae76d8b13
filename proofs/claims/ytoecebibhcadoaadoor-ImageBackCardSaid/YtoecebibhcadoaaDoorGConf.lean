/- Configurations, and drafts of them. No condition. -/
import Derived.Test.YtoecebibhcadoaaDoorITab
import Derived.Test.YtoecebibhcadoaaDoorIRow
namespace Go.Proofs.YtoecebibhcadoaaDoor.I
open Go Go.RowKit
set_option linter.unusedVariables false
set_option linter.unusedSimpArgs false
structure Line where
  kind : Int
  sg : Int
  lim : Int
  back : Int
  delay : Int
  span : Int
  prio : Int
  latch : Bool
  stages : List Int
  deriving DecidableEq
def Line.cells (x : Line) : List Value := [.int .u8 x.kind, .int .u8 x.sg, .int .u8 x.lim, .int .u8 x.back, .int .u8 x.delay, .int .u8 x.span, .int .u8 x.prio, .bool x.latch, frow 1 0 (x.stages.map (Value.int .u8))]
def Line.val (x : Line) : Value := .agg ⟨x.cells⟩
theorem Line.val_cells (x : Line) : x.val.cells = ⟨x.cells⟩ := rfl
def Line.wf (x : Line) : Prop := (0 ≤ x.kind ∧ x.kind < 256) ∧ (0 ≤ x.sg ∧ x.sg < 256) ∧ (0 ≤ x.lim ∧ x.lim < 256) ∧ (0 ≤ x.back ∧ x.back < 256) ∧ (0 ≤ x.delay ∧ x.delay < 256) ∧ (0 ≤ x.span ∧ x.span < 256) ∧ (0 ≤ x.prio ∧ x.prio < 256) ∧ ((∀ n ∈ x.stages, 0 ≤ n ∧ n < 256) ∧ x.stages.length ≤ maxLen)
theorem Line.cl (x : Line) : ClL x.cells := by
  simp [Line.cells, ClL_cons, ClL_nil, ClL_append, Cl_int, Cl_bool, Cl_string, ↓cl_ints, Cl_frow_map]
theorem Line.cl_row (sz : Nat) (m : Int) (L : List Line) : Cl (frow sz m (L.map Line.val)) = True := by
  rw [Cl_frow_map]; simp [Line.val_cells, Line.cl]
theorem Line.cl_val (x : Line) : Cl x.val = True := by
  unfold Line.val; rw [Cl_agg]; simp [Line.cl]
structure Draft where
  rules : List Line
  slots : List Int
  bands : Int
  drain : Int
  pause : Int
  off : Int
  brk : Bool
  log : Int
  deriving DecidableEq
def Draft.cells (x : Draft) : List Value := [frow 9 0 (x.rules.map Line.val), frow 1 0 (x.slots.map (Value.int .u8)), .int .u8 x.bands, .int .u8 x.drain, .int .u8 x.pause, .int .u8 x.off, .bool x.brk, .int .u8 x.log]
def Draft.val (x : Draft) : Value := .agg ⟨x.cells⟩
theorem Draft.val_cells (x : Draft) : x.val.cells = ⟨x.cells⟩ := rfl
def Draft.wf (x : Draft) : Prop := ((∀ y ∈ x.rules, y.wf) ∧ x.rules.length ≤ maxLen) ∧ ((∀ n ∈ x.slots, 0 ≤ n ∧ n < 256) ∧ x.slots.length ≤ maxLen) ∧ (0 ≤ x.bands ∧ x.bands < 256) ∧ (0 ≤ x.drain ∧ x.drain < 256) ∧ (0 ≤ x.pause ∧ x.pause < 256) ∧ (0 ≤ x.off ∧ x.off < 256) ∧ (0 ≤ x.log ∧ x.log < 256)
theorem Draft.cl (x : Draft) : ClL x.cells := by
  simp [Draft.cells, ClL_cons, ClL_nil, ClL_append, Cl_int, Cl_bool, Cl_string, ↓cl_ints, Cl_frow_map, Line.cl, Line.val_cells]
theorem Draft.cl_row (sz : Nat) (m : Int) (L : List Draft) : Cl (frow sz m (L.map Draft.val)) = True := by
  rw [Cl_frow_map]; simp [Draft.val_cells, Draft.cl]
theorem Draft.cl_val (x : Draft) : Cl x.val = True := by
  unfold Draft.val; rw [Cl_agg]; simp [Draft.cl]
structure Sig where
  lo : Int
  hi : Int
  deriving DecidableEq
def Sig.cells (x : Sig) : List Value := [.int .i64 x.lo, .int .i64 x.hi]
def Sig.val (x : Sig) : Value := .agg ⟨x.cells⟩
theorem Sig.val_cells (x : Sig) : x.val.cells = ⟨x.cells⟩ := rfl
def Sig.wf (x : Sig) : Prop := (-9223372036854775808 ≤ x.lo ∧ x.lo < 9223372036854775808) ∧ (-9223372036854775808 ≤ x.hi ∧ x.hi < 9223372036854775808)
theorem Sig.cl (x : Sig) : ClL x.cells := by
  simp [Sig.cells, ClL_cons, ClL_nil, ClL_append, Cl_int, Cl_bool, Cl_string, ↓cl_ints, Cl_frow_map]
theorem Sig.cl_row (sz : Nat) (m : Int) (L : List Sig) : Cl (frow sz m (L.map Sig.val)) = True := by
  rw [Cl_frow_map]; simp [Sig.val_cells, Sig.cl]
theorem Sig.cl_val (x : Sig) : Cl x.val = True := by
  unfold Sig.val; rw [Cl_agg]; simp [Sig.cl]
structure Stage where
  wait : Int
  prio : Int
  deriving DecidableEq
def Stage.cells (x : Stage) : List Value := [.int .i64 x.wait, .int .u8 x.prio]
def Stage.val (x : Stage) : Value := .agg ⟨x.cells⟩
theorem Stage.val_cells (x : Stage) : x.val.cells = ⟨x.cells⟩ := rfl
def Stage.wf (x : Stage) : Prop := (-9223372036854775808 ≤ x.wait ∧ x.wait < 9223372036854775808) ∧ (0 ≤ x.prio ∧ x.prio < 256)
theorem Stage.cl (x : Stage) : ClL x.cells := by
  simp [Stage.cells, ClL_cons, ClL_nil, ClL_append, Cl_int, Cl_bool, Cl_string, ↓cl_ints, Cl_frow_map]
theorem Stage.cl_row (sz : Nat) (m : Int) (L : List Stage) : Cl (frow sz m (L.map Stage.val)) = True := by
  rw [Cl_frow_map]; simp [Stage.val_cells, Stage.cl]
theorem Stage.cl_val (x : Stage) : Cl x.val = True := by
  unfold Stage.val; rw [Cl_agg]; simp [Stage.cl]
structure Rule where
  kind : Int
  sg : Int
  lim : Int
  back : Int
  delay : Int
  span : Int
  prio : Int
  latch : Bool
  stages : List Stage
  deriving DecidableEq
def Rule.cells (x : Rule) : List Value := [.int .u8 x.kind, .int .i64 x.sg, .int .i64 x.lim, .int .i64 x.back, .int .i64 x.delay, .int .i64 x.span, .int .u8 x.prio, .bool x.latch, frow 2 0 (x.stages.map Stage.val)]
def Rule.val (x : Rule) : Value := .agg ⟨x.cells⟩
theorem Rule.val_cells (x : Rule) : x.val.cells = ⟨x.cells⟩ := rfl
def Rule.wf (x : Rule) : Prop := (0 ≤ x.kind ∧ x.kind < 256) ∧ (-9223372036854775808 ≤ x.sg ∧ x.sg < 9223372036854775808) ∧ (-9223372036854775808 ≤ x.lim ∧ x.lim < 9223372036854775808) ∧ (-9223372036854775808 ≤ x.back ∧ x.back < 9223372036854775808) ∧ (-9223372036854775808 ≤ x.delay ∧ x.delay < 9223372036854775808) ∧ (-9223372036854775808 ≤ x.span ∧ x.span < 9223372036854775808) ∧ (0 ≤ x.prio ∧ x.prio < 256) ∧ ((∀ y ∈ x.stages, y.wf) ∧ x.stages.length ≤ maxLen)
theorem Rule.cl (x : Rule) : ClL x.cells := by
  simp [Rule.cells, ClL_cons, ClL_nil, ClL_append, Cl_int, Cl_bool, Cl_string, ↓cl_ints, Cl_frow_map, Stage.cl, Stage.val_cells]
theorem Rule.cl_row (sz : Nat) (m : Int) (L : List Rule) : Cl (frow sz m (L.map Rule.val)) = True := by
  rw [Cl_frow_map]; simp [Rule.val_cells, Rule.cl]
theorem Rule.cl_val (x : Rule) : Cl x.val = True := by
  unfold Rule.val; rw [Cl_agg]; simp [Rule.cl]
structure Config where
  sigs : List Sig
  rules : List Rule
  table : List (List Int)
  b0 : Int
  b1 : Int
  b2 : Int
  drain : Int
  pause : Int
  off : Int
  brk : Bool
  log : Int
  deriving DecidableEq
def Config.cells (x : Config) : List Value := [frow 2 0 (x.sigs.map Sig.val), frow 9 0 (x.rules.map Rule.val), frow 1 0 (x.table.map (ints .i64)), .int .i64 x.b0, .int .i64 x.b1, .int .i64 x.b2, .int .i64 x.drain, .int .i64 x.pause, .int .i64 x.off, .bool x.brk, .int .i64 x.log]
def Config.val (x : Config) : Value := .agg ⟨x.cells⟩
theorem Config.val_cells (x : Config) : x.val.cells = ⟨x.cells⟩ := rfl
def Config.wf (x : Config) : Prop := ((∀ y ∈ x.sigs, y.wf) ∧ x.sigs.length ≤ maxLen) ∧ ((∀ y ∈ x.rules, y.wf) ∧ x.rules.length ≤ maxLen) ∧ ((∀ l ∈ x.table, (∀ n ∈ l, -9223372036854775808 ≤ n ∧ n < 9223372036854775808) ∧ l.length ≤ maxLen) ∧ x.table.length ≤ maxLen) ∧ (-9223372036854775808 ≤ x.b0 ∧ x.b0 < 9223372036854775808) ∧ (-9223372036854775808 ≤ x.b1 ∧ x.b1 < 9223372036854775808) ∧ (-9223372036854775808 ≤ x.b2 ∧ x.b2 < 9223372036854775808) ∧ (-9223372036854775808 ≤ x.drain ∧ x.drain < 9223372036854775808) ∧ (-9223372036854775808 ≤ x.pause ∧ x.pause < 9223372036854775808) ∧ (-9223372036854775808 ≤ x.off ∧ x.off < 9223372036854775808) ∧ (-9223372036854775808 ≤ x.log ∧ x.log < 9223372036854775808)
theorem Config.cl (x : Config) : ClL x.cells := by
  simp [Config.cells, ClL_cons, ClL_nil, ClL_append, Cl_int, Cl_bool, Cl_string, ↓cl_ints, ↓cl_intss, Cl_frow_map, Rule.cl, Rule.val_cells, Sig.cl, Sig.val_cells]
theorem Config.cl_row (sz : Nat) (m : Int) (L : List Config) : Cl (frow sz m (L.map Config.val)) = True := by
  rw [Cl_frow_map]; simp [Config.val_cells, Config.cl]
theorem Config.cl_val (x : Config) : Cl x.val = True := by
  unfold Config.val; rw [Cl_agg]; simp [Config.cl]
def lineZ : Line := ⟨0, 0, 0, 0, 0, 0, 0, false, []⟩
def stagesS : Int → List Int → List Stage
  | _, [] => []
  | p, x :: r => ⟨1 + x / 2 % 12, min (p + x % 2) 3⟩ :: stagesS (min (p + x % 2) 3) r
def ruleS (x : Line) : Rule :=
  let k := x.kind % 6 + 1
  let lim : Int := if k = 1 ∨ k = 2 then x.lim else if k = 3 ∨ k = 4 then 1 + x.lim % 60 else 0
  let back : Int := if k = 1 then x.lim - x.back % 20 else if k = 2 then x.lim + x.back % 20 else if k = 3 ∨ k = 4 then x.back % (lim + 1) else 0
  let span : Int := if k = 3 ∨ k = 4 ∨ k = 5 then 1 + x.span % 12 else 0
  ⟨k, x.sg % 3, lim, back, x.delay % 8, span, x.prio % 3 + 1, x.latch, stagesS (x.prio % 3 + 1) (x.stages.take 4)⟩
def rulesS (d : Draft) : List Rule := if d.rules = [] then [ruleS lineZ] else (d.rules.take 8).map ruleS
def fallS (R : Nat) (l : List Int) (s : Int) : List Int := if s % (R + 2) < R ∧ ¬ (s % (R + 2)) ∈ l then l ++ [s % (R + 2)] else l
def slotF (slots : List Int) (R n : Nat) : Nat → Nat → List Int → List Int
  | 0, _, l => l
  | f + 1, k, l => if k < slots.length ∧ k < 24 then slotF slots R n f (k + n) (fallS R l (slots.getD k 0)) else l
def slotS (slots : List Int) (R n i : Nat) : List Int := slotF slots R n 24 i []
def standsS (T : List (List Int)) (i : Int) : Bool := T.any fun l => decide (i ∈ l)
def entriesS (T : List (List Int)) : Nat := (T.map List.length).sum
def lastAdd (T : List (List Int)) (i : Int) : List (List Int) := if standsS T i = true then T else T.set (T.length - 1) (T.getD (T.length - 1) [] ++ [i])
def slotsN (d : Draft) : Nat := (1 + d.bands / 16 % 6).toNat
def tableS (d : Draft) : List (List Int) :=
  (List.range (rulesS d).length).foldl (fun T (i : Nat) => lastAdd T i) ((List.range (slotsN d)).map fun i => slotS d.slots (rulesS d).length (slotsN d) i)
def sigsS : List Sig := [⟨-100, 300⟩, ⟨0, 250⟩, ⟨-2147483648, 2147483647⟩]
def makeS (d : Draft) : Config :=
  let b := d.bands % 16
  ⟨sigsS, rulesS d, tableS d, 1 + b % 3, 1 + b / 2 % 3, 1 + b / 4 % 4, (entriesS (tableS d) : Int) / slotsN d + 1 + d.drain % 4 / 3 * 2, 1 + d.pause % 30, 1 + d.off % 30, d.brk, 1 + d.log % 40⟩
end Go.Proofs.YtoecebibhcadoaaDoor.I
