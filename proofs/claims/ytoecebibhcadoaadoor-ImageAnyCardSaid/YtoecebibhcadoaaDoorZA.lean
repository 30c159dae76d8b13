/- Configurations, and drafts of them. Rows of bytes: copied, compared, joined. Bytes that are read, up to the first fault: what the program does, and what the document says. Bytes that are laid. A configuration as bytes: how it is laid, how it is read. Configurations: how many numbers a table has, whether a rule stands in it; how a draft's configuration is made. Configurations: how a draft's one is made. No condition. -/
import Derived.Test.YtoecebibhcadoaaDoorITab
import Derived.Test.YtoecebibhcadoaaDoorIRow
namespace Go.Proofs.YtoecebibhcadoaaDoor.I
open Go Go.RowKit
set_option linter.unusedVariables false
set_option linter.unusedSimpArgs false
structure Line where
  kind : Int
  sg : Int
  lim : Int
  back : Int
  delay : Int
  span : Int
  prio : Int
  latch : Bool
  stages : List Int
  deriving DecidableEq
def Line.cells (x : Line) : List Value := [.int .u8 x.kind, .int .u8 x.sg, .int .u8 x.lim, .int .u8 x.back, .int .u8 x.delay, .int .u8 x.span, .int .u8 x.prio, .bool x.latch, frow 1 0 (x.stages.map (Value.int .u8))]
def Line.val (x : Line) : Value := .agg ⟨x.cells⟩
theorem Line.val_cells (x : Line) : x.val.cells = ⟨x.cells⟩ := rfl
def Line.wf (x : Line) : Prop := (0 ≤ x.kind ∧ x.kind < 256) ∧ (0 ≤ x.sg ∧ x.sg < 256) ∧ (0 ≤ x.lim ∧ x.lim < 256) ∧ (0 ≤ x.back ∧ x.back < 256) ∧ (0 ≤ x.delay ∧ x.delay < 256) ∧ (0 ≤ x.span ∧ x.span < 256) ∧ (0 ≤ x.prio ∧ x.prio < 256) ∧ ((∀ n ∈ x.stages, 0 ≤ n ∧ n < 256) ∧ x.stages.length ≤ maxLen)
theorem Line.cl (x : Line) : ClL x.cells := by
  simp [Line.cells, ClL_cons, ClL_nil, ClL_append, Cl_int, Cl_bool, Cl_string, ↓cl_ints, Cl_frow_map]
theorem Line.cl_row (sz : Nat) (m : Int) (L : List Line) : Cl (frow sz m (L.map Line.val)) = True := by
  rw [Cl_frow_map]; simp [Line.val_cells, Line.cl]
theorem Line.cl_val (x : Line) : Cl x.val = True := by
  unfold Line.val; rw [Cl_agg]; simp [Line.cl]
structure Draft where
  rules : List Line
  slots : List Int
  bands : Int
  drain : Int
  pause : Int
  off : Int
  brk : Bool
  log : Int
  deriving DecidableEq
def Draft.cells (x : Draft) : List Value := [frow 9 0 (x.rules.map Line.val), frow 1 0 (x.slots.map (Value.int .u8)), .int .u8 x.bands, .int .u8 x.drain, .int .u8 x.pause, .int .u8 x.off, .bool x.brk, .int .u8 x.log]
def Draft.val (x : Draft) : Value := .agg ⟨x.cells⟩
theorem Draft.val_cells (x : Draft) : x.val.cells = ⟨x.cells⟩ := rfl
def Draft.wf (x : Draft) : Prop := ((∀ y ∈ x.rules, y.wf) ∧ x.rules.length ≤ maxLen) ∧ ((∀ n ∈ x.slots, 0 ≤ n ∧ n < 256) ∧ x.slots.length ≤ maxLen) ∧ (0 ≤ x.bands ∧ x.bands < 256) ∧ (0 ≤ x.drain ∧ x.drain < 256) ∧ (0 ≤ x.pause ∧ x.pause < 256) ∧ (0 ≤ x.off ∧ x.off < 256) ∧ (0 ≤ x.log ∧ x.log < 256)
theorem Draft.cl (x : Draft) : ClL x.cells := by
  simp [Draft.cells, ClL_cons, ClL_nil, ClL_append, Cl_int, Cl_bool, Cl_string, ↓cl_ints, Cl_frow_map, Line.cl, Line.val_cells]
theorem Draft.cl_row (sz : Nat) (m : Int) (L : List Draft) : Cl (frow sz m (L.map Draft.val)) = True := by
  rw [Cl_frow_map]; simp [Draft.val_cells, Draft.cl]
theorem Draft.cl_val (x : Draft) : Cl x.val = True := by
  unfold Draft.val; rw [Cl_agg]; simp [Draft.cl]
structure Sig where
  lo : Int
  hi : Int
  deriving DecidableEq
def Sig.cells (x : Sig) : List Value := [.int .i64 x.lo, .int .i64 x.hi]
def Sig.val (x : Sig) : Value := .agg ⟨x.cells⟩
theorem Sig.val_cells (x : Sig) : x.val.cells = ⟨x.cells⟩ := rfl
def Sig.wf (x : Sig) : Prop := (-9223372036854775808 ≤ x.lo ∧ x.lo < 9223372036854775808) ∧ (-9223372036854775808 ≤ x.hi ∧ x.hi < 9223372036854775808)
theorem Sig.cl (x : Sig) : ClL x.cells := by
  simp [Sig.cells, ClL_cons, ClL_nil, ClL_append, Cl_int, Cl_bool, Cl_string, ↓cl_ints, Cl_frow_map]
theorem Sig.cl_row (sz : Nat) (m : Int) (L : List Sig) : Cl (frow sz m (L.map Sig.val)) = True := by
  rw [Cl_frow_map]; simp [Sig.val_cells, Sig.cl]
theorem Sig.cl_val (x : Sig) : Cl x.val = True := by
  unfold Sig.val; rw [Cl_agg]; simp [Sig.cl]
structure Stage where
  wait : Int
  prio : Int
  deriving DecidableEq
def Stage.cells (x : Stage) : List Value := [.int .i64 x.wait, .int .u8 x.prio]
def Stage.val (x : Stage) : Value := .agg ⟨x.cells⟩
theorem Stage.val_cells (x : Stage) : x.val.cells = ⟨x.cells⟩ := rfl
def Stage.wf (x : Stage) : Prop := (-9223372036854775808 ≤ x.wait ∧ x.wait < 9223372036854775808) ∧ (0 ≤ x.prio ∧ x.prio < 256)
theorem Stage.cl (x : Stage) : ClL x.cells := by
  simp [Stage.cells, ClL_cons, ClL_nil, ClL_append, Cl_int, Cl_bool, Cl_string, ↓cl_ints, Cl_frow_map]
theorem Stage.cl_row (sz : Nat) (m : Int) (L : List Stage) : Cl (frow sz m (L.map Stage.val)) = True := by
  rw [Cl_frow_map]; simp [Stage.val_cells, Stage.cl]
theorem Stage.cl_val (x : Stage) : Cl x.val = True := by
  unfold Stage.val; rw [Cl_agg]; simp [Stage.cl]
structure Rule where
  kind : Int
  sg : Int
  lim : Int
  back : Int
  delay : Int
  span : Int
  prio : Int
  latch : Bool
  stages : List Stage
  deriving DecidableEq
def Rule.cells (x : Rule) : List Value := [.int .u8 x.kind, .int .i64 x.sg, .int .i64 x.lim, .int .i64 x.back, .int .i64 x.delay, .int .i64 x.span, .int .u8 x.prio, .bool x.latch, frow 2 0 (x.stages.map Stage.val)]
def Rule.val (x : Rule) : Value := .agg ⟨x.cells⟩
theorem Rule.val_cells (x : Rule) : x.val.cells = ⟨x.cells⟩ := rfl
def Rule.wf (x : Rule) : Prop := (0 ≤ x.kind ∧ x.kind < 256) ∧ (-9223372036854775808 ≤ x.sg ∧ x.sg < 9223372036854775808) ∧ (-9223372036854775808 ≤ x.lim ∧ x.lim < 9223372036854775808) ∧ (-9223372036854775808 ≤ x.back ∧ x.back < 9223372036854775808) ∧ (-9223372036854775808 ≤ x.delay ∧ x.delay < 9223372036854775808) ∧ (-9223372036854775808 ≤ x.span ∧ x.span < 9223372036854775808) ∧ (0 ≤ x.prio ∧ x.prio < 256) ∧ ((∀ y ∈ x.stages, y.wf) ∧ x.stages.length ≤ maxLen)
theorem Rule.cl (x : Rule) : ClL x.cells := by
  simp [Rule.cells, ClL_cons, ClL_nil, ClL_append, Cl_int, Cl_bool, Cl_string, ↓cl_ints, Cl_frow_map, Stage.cl, Stage.val_cells]
theorem Rule.cl_row (sz : Nat) (m : Int) (L : List Rule) : Cl (frow sz m (L.map Rule.val)) = True := by
  rw [Cl_frow_map]; simp [Rule.val_cells, Rule.cl]
theorem Rule.cl_val (x : Rule) : Cl x.val = True := by
  unfold Rule.val; rw [Cl_agg]; simp [Rule.cl]
structure Config where
  sigs : List Sig
  rules : List Rule
  table : List (List Int)
  b0 : Int
  b1 : Int
  b2 : Int
  drain : Int
  pause : Int
  off : Int
  brk : Bool
  log : Int
  deriving DecidableEq
def Config.cells (x : Config) : List Value := [frow 2 0 (x.sigs.map Sig.val), frow 9 0 (x.rules.map Rule.val), frow 1 0 (x.table.map (ints .i64)), .int .i64 x.b0, .int .i64 x.b1, .int .i64 x.b2, .int .i64 x.drain, .int .i64 x.pause, .int .i64 x.off, .bool x.brk, .int .i64 x.log]
def Config.val (x : Config) : Value := .agg ⟨x.cells⟩
theorem Config.val_cells (x : Config) : x.val.cells = ⟨x.cells⟩ := rfl
def Config.wf (x : Config) : Prop := ((∀ y ∈ x.sigs, y.wf) ∧ x.sigs.length ≤ maxLen) ∧ ((∀ y ∈ x.rules, y.wf) ∧ x.rules.length ≤ maxLen) ∧ ((∀ l ∈ x.table, (∀ n ∈ l, -9223372036854775808 ≤ n ∧ n < 9223372036854775808) ∧ l.length ≤ maxLen) ∧ x.table.length ≤ maxLen) ∧ (-9223372036854775808 ≤ x.b0 ∧ x.b0 < 9223372036854775808) ∧ (-9223372036854775808 ≤ x.b1 ∧ x.b1 < 9223372036854775808) ∧ (-9223372036854775808 ≤ x.b2 ∧ x.b2 < 9223372036854775808) ∧ (-9223372036854775808 ≤ x.drain ∧ x.drain < 9223372036854775808) ∧ (-9223372036854775808 ≤ x.pause ∧ x.pause < 9223372036854775808) ∧ (-9223372036854775808 ≤ x.off ∧ x.off < 9223372036854775808) ∧ (-9223372036854775808 ≤ x.log ∧ x.log < 9223372036854775808)
theorem Config.cl (x : Config) : ClL x.cells := by
  simp [Config.cells, ClL_cons, ClL_nil, ClL_append, Cl_int, Cl_bool, Cl_string, ↓cl_ints, ↓cl_intss, Cl_frow_map, Rule.cl, Rule.val_cells, Sig.cl, Sig.val_cells]
theorem Config.cl_row (sz : Nat) (m : Int) (L : List Config) : Cl (frow sz m (L.map Config.val)) = True := by
  rw [Cl_frow_map]; simp [Config.val_cells, Config.cl]
theorem Config.cl_val (x : Config) : Cl x.val = True := by
  unfold Config.val; rw [Cl_agg]; simp [Config.cl]
def lineZ : Line := ⟨0, 0, 0, 0, 0, 0, 0, false, []⟩
def stagesS : Int → List Int → List Stage
  | _, [] => []
  | p, x :: r => ⟨1 + x / 2 % 12, min (p + x % 2) 3⟩ :: stagesS (min (p + x % 2) 3) r
def ruleS (x : Line) : Rule :=
  let k := x.kind % 6 + 1
  let lim : Int := if k = 1 ∨ k = 2 then x.lim else if k = 3 ∨ k = 4 then 1 + x.lim % 60 else 0
  let back : Int := if k = 1 then x.lim - x.back % 20 else if k = 2 then x.lim + x.back % 20 else if k = 3 ∨ k = 4 then x.back % (lim + 1) else 0
  let span : Int := if k = 3 ∨ k = 4 ∨ k = 5 then 1 + x.span % 12 else 0
  ⟨k, x.sg % 3, lim, back, x.delay % 8, span, x.prio % 3 + 1, x.latch, stagesS (x.prio % 3 + 1) (x.stages.take 4)⟩
def rulesS (d : Draft) : List Rule := if d.rules = [] then [ruleS lineZ] else (d.rules.take 8).map ruleS
def fallS (R : Nat) (l : List Int) (s : Int) : List Int := if s % (R + 2) < R ∧ ¬ (s % (R + 2)) ∈ l then l ++ [s % (R + 2)] else l
def slotF (slots : List Int) (R n : Nat) : Nat → Nat → List Int → List Int
  | 0, _, l => l
  | f + 1, k, l => if k < slots.length ∧ k < 24 then slotF slots R n f (k + n) (fallS R l (slots.getD k 0)) else l
def slotS (slots : List Int) (R n i : Nat) : List Int := slotF slots R n 24 i []
def standsS (T : List (List Int)) (i : Int) : Bool := T.any fun l => decide (i ∈ l)
def entriesS (T : List (List Int)) : Nat := (T.map List.length).sum
def lastAdd (T : List (List Int)) (i : Int) : List (List Int) := if standsS T i = true then T else T.set (T.length - 1) (T.getD (T.length - 1) [] ++ [i])
def slotsN (d : Draft) : Nat := (1 + d.bands / 16 % 6).toNat
def tableS (d : Draft) : List (List Int) :=
  (List.range (rulesS d).length).foldl (fun T (i : Nat) => lastAdd T i) ((List.range (slotsN d)).map fun i => slotS d.slots (rulesS d).length (slotsN d) i)
def sigsS : List Sig := [⟨-100, 300⟩, ⟨0, 250⟩, ⟨-2147483648, 2147483647⟩]
def makeS (d : Draft) : Config :=
  let b := d.bands % 16
  ⟨sigsS, rulesS d, tableS d, 1 + b % 3, 1 + b / 2 % 3, 1 + b / 4 % 4, (entriesS (tableS d) : Int) / slotsN d + 1 + d.drain % 4 / 3 * 2, 1 + d.pause % 30, 1 + d.off % 30, d.brk, 1 + d.log % 40⟩
end Go.Proofs.YtoecebibhcadoaaDoor.I
namespace Go.Proofs.YtoecebibhcadoaaDoor.I
open Go Go.RowKit
set_option linter.unusedVariables false
set_option linter.unusedSimpArgs false
theorem clone_own (H : Heap) (m : Int) (L : List Int) (hL : L.length ≤ 1000000) :
    ICalls Tryd.prog 48 [frow 1 m (L.map (Value.int .u8))] H fun v H' => Bld 1 H' H.next v (L.map (Value.int .u8)) ∧ Old H H' := by
  refine IBody.calls (by kernel_rfl) ?_
  cases L with
  | nil =>
    refine IBody.none_or ?_ ?_
    · skip
      refine IBody.of Tryd.func48 rfl (by rw [Tryd.ntmps48]; simp) ?_
      rw [Tryd.ntmps48]
      have Kp : Kept [[0],[0,4],[],[2],[]] := ⟨⟩
      iterate 5 (refine Kp.s ?_; clear Kp; intro Kp; simp [go_sem, -getElem?_pos, -List.map_take, -List.map_drop, IntWalk.iteOmega, IntWalk.toNatUp])
      exact ⟨Bld.nil _ _ _, Old.refl H⟩
    · skip
      refine IBody.of Tryd.func48 rfl (by rw [Tryd.ntmps48]; simp) ?_
      rw [Tryd.ntmps48]
      have Kp : Kept [[0],[0,4],[],[0],[2],[]] := ⟨⟩
      iterate 6 (refine Kp.s ?_; clear Kp; intro Kp; simp [go_sem, -getElem?_pos, -List.map_take, -List.map_drop, IntWalk.iteOmega, IntWalk.toNatUp])
      exact ⟨⟨fun _ h => (by cases h), .inr ⟨H.next, Nat.le_refl _, rfl, by simp [get_alloc]⟩⟩, (Old.refl H).alloc _⟩
  | cons x L =>
    have hb : Bld 1 (H.alloc []) H.next (.slice (some ⟨H.next, 0, some 1⟩) 0 1) [] := ⟨fun _ h => (by cases h), .inr ⟨H.next, Nat.le_refl _, rfl, by simp [get_alloc]⟩⟩
    obtain ⟨v, H', e, b1, b2, b3, _⟩ := app_own (P := Tryd.prog) (t := 23) (e := 5) (sz := 1) (by_ := 1) (z := .int .u8 0) (ws := (x :: L).map (Value.int .u8)) (x := frow 1 m ((x :: L).map (Value.int .u8))) (by kernel_rfl) (by kernel_rfl) (by kernel_rfl) (by kernel_rfl) (by rfl) hb (map_sz .u8 _) (by simp [irow_frow]) (by rw [map_flat]; exact map_one .u8 _) (by rw [next_alloc]; omega) (by simp at hL ⊢; omega) (by simp at hL ⊢; omega)
    simp only [List.map_cons] at e b1 ⊢
    refine IBody.of Tryd.func48 rfl (by rw [Tryd.ntmps48]; simp) ?_
    rw [Tryd.ntmps48]
    have Kp : Kept [[0],[0,4],[],[0],[2],[]] := ⟨⟩
    iterate 6 (refine Kp.s ?_; clear Kp; intro Kp; simp [go_sem, -getElem?_pos, -List.map_take, -List.map_drop, IntWalk.iteOmega, IntWalk.toNatUp, e])
    exact ⟨by simpa using b1, fun b hb => by rw [b2 b hb, Heap.get_alloc_lt _ _ _ hb], by rw [next_alloc] at b3; omega⟩
theorem clone (H : Heap) (m : Int) (L : List Int) (hL : L.length ≤ 1000000) :
    ICalls Tryd.prog 48 [frow 1 m (L.map (Value.int .u8))] H fun v H' => v = byts L ∧ H' = H :=
  ICalls.ans (by rw [cl_ints]; trivial) fun H => (clone_own H m L hL).mono fun v H' h => h.1.frz
theorem clone_blk (H : Heap) (q : Nat) (own : Bool) (L : List Int) (hL : L.length ≤ 1000000) (hg : H.get q = some ⟨L.map (Value.int .u8), own⟩) :
    ICalls Tryd.prog 48 [.slice (some ⟨q, 0, some 1⟩) L.length 1] H fun v H' => Bld 1 H' H.next v (L.map (Value.int .u8)) ∧ Old H H' := by
  have hq := Heap.lt_of_get hg
  have hb : Bld 1 (H.alloc []) H.next (.slice (some ⟨H.next, 0, some 1⟩) 0 1) [] := ⟨fun _ h => (by cases h), .inr ⟨H.next, Nat.le_refl _, rfl, by simp [get_alloc]⟩⟩
  have hr := irow_blk (sz := 1) (H := H.alloc []) (b := q) (c := 1) (ws := L.map (Value.int .u8)) (own := own) (by rw [Heap.get_alloc_lt _ _ _ hq, hg, map_flat]) (map_sz .u8 _)
  rw [List.length_map] at hr
  obtain ⟨v, H', e, b1, b2, b3, _⟩ := app_own (P := Tryd.prog) (t := 23) (e := 5) (sz := 1) (by_ := 1) (z := .int .u8 0) (ws := L.map (Value.int .u8)) (x := .slice (some ⟨q, 0, some 1⟩) L.length 1) (by kernel_rfl) (by kernel_rfl) (by kernel_rfl) (by kernel_rfl) rfl hb (map_sz .u8 _) (by rw [hr]; simp) (by rw [map_flat]; exact map_one .u8 _) (by rw [next_alloc]; omega) (by simp at hL ⊢; omega) (by simp at hL ⊢; omega)
  refine IBody.calls (by kernel_rfl) ?_
  refine IBody.of Tryd.func48 rfl (by rw [Tryd.ntmps48]; simp) ?_
  rw [Tryd.ntmps48]
  have Kp : Kept [[0],[0,4],[],[0],[2],[]] := ⟨⟩
  iterate 6 (refine Kp.s ?_; clear Kp; intro Kp; simp [go_sem, -getElem?_pos, -List.map_take, -List.map_drop, IntWalk.iteOmega, IntWalk.toNatUp, e])
  exact ⟨by simpa using b1, fun b hb => by rw [b2 b hb, Heap.get_alloc_lt _ _ _ hb], by rw [next_alloc] at b3; omega⟩
theorem join_own (H : Heap) (m k : Int) (L M : List Int) (hL : L.length ≤ 1000000) (hM : M.length ≤ 1000000) :
    ICalls Tryd.prog 19 [frow 1 m (L.map (Value.int .u8)), frow 1 k (M.map (Value.int .u8))] H fun v H' => Bld 1 H' H.next v ((L ++ M).map (Value.int .u8)) ∧ Old H H' := by
  refine IBody.calls (by kernel_rfl) ?_
  obtain ⟨v1, H1, e1, b1, s1, n1, _⟩ := app_own (P := Tryd.prog) (t := 23) (e := 5) (sz := 1) (by_ := 1) (z := .int .u8 0) (ws := L.map (Value.int .u8)) (x := frow 1 m (L.map (Value.int .u8))) (by kernel_rfl) (by kernel_rfl) (by kernel_rfl) (by kernel_rfl) rfl (Bld.nil 1 H H.next) (map_sz .u8 _) (by simp [irow_frow]) (by rw [map_flat]; exact map_one .u8 _) (Nat.le_refl _) (by simp at hL ⊢; omega) (by simp at hL ⊢; omega)
  obtain ⟨v2, H2, e2, b2, s2, n2, _⟩ := app_own (P := Tryd.prog) (t := 23) (e := 5) (sz := 1) (by_ := 1) (z := .int .u8 0) (ws := M.map (Value.int .u8)) (x := frow 1 k (M.map (Value.int .u8))) (by kernel_rfl) (by kernel_rfl) (by kernel_rfl) (by kernel_rfl) rfl b1 (map_sz .u8 _) (by simp [irow_frow]) (by rw [map_flat]; exact map_one .u8 _) n1 (by simp at hL ⊢; omega) (by simp at hL ⊢; omega)
  refine IBody.of Tryd.func19 rfl (by rw [Tryd.ntmps19]; simp) ?_
  rw [Tryd.ntmps19]
  have Kp : Kept [[0,1],[0,1,5],[1,5],[4],[]] := ⟨⟩
  iterate 5 (refine Kp.s ?_; clear Kp; intro Kp; simp [go_sem, -getElem?_pos, -List.map_take, -List.map_drop, IntWalk.iteOmega, IntWalk.toNatUp, e1, e2])
  exact ⟨by simpa using b2, fun b hb => (s2 b hb).trans (s1 b hb), by omega⟩
theorem join (H : Heap) (m k : Int) (L M : List Int) (hL : L.length ≤ 1000000) (hM : M.length ≤ 1000000) :
    ICalls Tryd.prog 19 [frow 1 m (L.map (Value.int .u8)), frow 1 k (M.map (Value.int .u8))] H fun v H' => v = byts (L ++ M) ∧ H' = H :=
  ICalls.ans (by rw [cl_ints]; trivial) fun H => (join_own H m k L M hL hM).mono fun v H' h => h.1.frz
def Bs (L : List Int) : Prop := ∀ x ∈ L, 0 ≤ x ∧ x < 256
theorem strOf_data (L : List Int) : ∀ s : ByteArray, (L.foldl (fun r n => r.push (UInt8.ofNat n.toNat)) s).data.toList = s.data.toList ++ L.map fun n => UInt8.ofNat n.toNat := by
  induction L with
  | nil => intro s; simp
  | cons n r ih => intro s; rw [List.foldl_cons, ih]; simp [ByteArray.push]
theorem map_u8_inj : ∀ {L M : List Int}, Bs L → Bs M → (L.map fun n => UInt8.ofNat n.toNat) = (M.map fun n => UInt8.ofNat n.toNat) → L = M
  | [], [], _, _, _ => rfl
  | [], _ :: _, _, _, h => by cases h
  | _ :: _, [], _, _, h => by cases h
  | a :: l, b :: m, h1, h2, h => by
    simp only [List.map_cons, List.cons.injEq] at h
    have ha := h1 a (by simp)
    have hb := h2 b (by simp)
    have h3 := congrArg UInt8.toNat h.1
    simp only [UInt8.toNat_ofNat'] at h3
    rw [show a = b by omega, map_u8_inj (fun x hx => h1 x (by simp [hx])) (fun x hx => h2 x (by simp [hx])) h.2]
theorem toList_loop (bs : ByteArray) : ∀ (k i : Nat) (r : List UInt8), bs.size - i = k → ByteArray.toList.loop bs i r = r.reverse ++ bs.data.toList.drop i
  | 0, i, r, h => by
    have hs : bs.size = bs.data.toList.length := by rw [Array.length_toList]; rfl
    rw [ByteArray.toList.loop, if_neg (by omega), List.drop_of_length_le (by omega), List.append_nil]
  | k + 1, i, r, h => by
    have hs : bs.size = bs.data.toList.length := by rw [Array.length_toList]; rfl
    have hi : i < bs.size := by omega
    have hd : i < bs.data.toList.length := by omega
    rw [ByteArray.toList.loop, if_pos hi, toList_loop bs k (i + 1) _ (by omega), List.drop_eq_getElem_cons hd, List.reverse_cons, List.append_assoc]
    have e : bs.get! i = bs.data.toList[i] := by
      show bs.data[i]! = _
      rw [getElem!_pos bs.data i (by rw [← Array.length_toList]; exact hd)]; simp
    rw [e]; rfl
theorem toList_data (bs : ByteArray) : bs.toList = bs.data.toList := by
  unfold ByteArray.toList
  rw [toList_loop bs _ 0 [] rfl]; simp
theorem strOf_list (L : List Int) : (strOf L).toList = L.map fun n => UInt8.ofNat n.toNat := by
  rw [toList_data]; simpa [strOf] using strOf_data L ByteArray.empty
theorem strOf_inj {L M : List Int} (h1 : Bs L) (h2 : Bs M) : ((strOf L).toList = (strOf M).toList) = (L = M) := by
  refine propext ⟨fun h => map_u8_inj h1 h2 ?_, fun h => by rw [h]⟩
  rwa [strOf_list, strOf_list] at h
theorem strOf_beq {L M : List Int} (h1 : Bs L) (h2 : Bs M) : ((strOf L).toList == (strOf M).toList) = decide (L = M) := by
  by_cases h : L = M
  · subst h; simp
  · have := mt (strOf_inj h1 h2).mp h
    simp [h, this]
theorem refBytes (H : Heap) (m k : Int) (L M : List Int) (hl : L.length ≤ 1000000) :
    ICalls Tryd.prog 14 [frow 1 m (L.map (Value.int .u8)), frow 1 k (M.map (Value.int .u8))] H fun v H' => v = .bool (decide (L = M)) ∧ H' = H := by
  refine IBody.calls (by kernel_rfl) ?_
  by_cases hlen : L.length = M.length
  · skip
    refine IBody.of Tryd.func14 rfl (by rw [Tryd.ntmps14]; simp) ?_
    rw [Tryd.ntmps14]
    have Kp : Kept [[0,1],[0,1,10],[],[0,1],[0,1,5]] := ⟨⟩
    iterate 5 (refine Kp.s ?_; clear Kp; intro Kp; simp [go_sem, -getElem?_pos, -List.map_take, -List.map_drop, IntWalk.iteOmega, IntWalk.toNatUp, hlen])
    refine IWp.block ?_
    refine IWp.loop (fun j e K => ∃ i : Nat, j = L.length - i ∧ i ≤ L.length ∧ e = [(0, frow 1 m (L.map (Value.int .u8))), (1, frow 1 k (M.map (Value.int .u8))), (5, .int .i64 (i : Int))] ∧ K = H ∧ L.take i = M.take i) L.length ⟨0, rfl, Nat.zero_le _, rfl, rfl, rfl⟩ ?_
    rintro j e K ⟨i, rfl, hi, rfl, rfl, hpre⟩
    by_cases hlt : i < L.length
    · have hltM : i < M.length := by omega
      have w1 := IntWalk.i64_in ((i : Int) + 1) (by omega)
      by_cases he : L[i] = M[i]
      · skip
        have Kp : Kept [[0,1,5,14],[],[0,1,5]] := ⟨⟩
        iterate 3 (refine Kp.s ?_; clear Kp; intro Kp; simp [go_sem, -getElem?_pos, -List.map_take, -List.map_drop, IntWalk.iteOmega, IntWalk.toNatUp, hlt, hltM, List.getElem?_eq_getElem hlt, List.getElem?_eq_getElem hltM, he, w1, show ¬ ((i : Int) < 0) by omega, show (i : Int) < M.length by omega])
        refine IWp.seq ?_
        refine IWp.block ?_
        refine IWp.seq ?_
        refine IWp.read [0, 1, 5, 25] follows (by kernel_rfl) ?_
        simp [go_sem, -getElem?_pos, -List.map_take, -List.map_drop, IntWalk.iteOmega, IntWalk.toNatUp, hlt, hltM, List.getElem?_eq_getElem hlt, List.getElem?_eq_getElem hltM, he, w1, show ¬ ((i : Int) < 0) by omega, show (i : Int) < M.length by omega]
        have Kp : Kept [[],[0,1,5],[0,1,5]] := ⟨⟩
        iterate 3 (refine Kp.s ?_; clear Kp; intro Kp; simp [go_sem, -getElem?_pos, -List.map_take, -List.map_drop, IntWalk.iteOmega, IntWalk.toNatUp, hlt, hltM, List.getElem?_eq_getElem hlt, List.getElem?_eq_getElem hltM, he, w1, show ¬ ((i : Int) < 0) by omega, show (i : Int) < M.length by omega])
        exact ⟨L.length - (i + 1), by omega, i + 1, rfl, by omega, rfl, by rw [List.take_succ_eq_append_getElem hlt, List.take_succ_eq_append_getElem hltM, hpre, he]⟩
      · skip
        have Kp : Kept [[0,1,5,14],[],[0,1,5]] := ⟨⟩
        iterate 3 (refine Kp.s ?_; clear Kp; intro Kp; simp [go_sem, -getElem?_pos, -List.map_take, -List.map_drop, IntWalk.iteOmega, IntWalk.toNatUp, hlt, hltM, List.getElem?_eq_getElem hlt, List.getElem?_eq_getElem hltM, he, w1, show ¬ ((i : Int) < 0) by omega, show (i : Int) < M.length by omega])
        refine IWp.seq ?_
        refine IWp.block ?_
        refine IWp.seq ?_
        refine IWp.read [0, 1, 5, 25] follows (by kernel_rfl) ?_
        simp [go_sem, -getElem?_pos, -List.map_take, -List.map_drop, IntWalk.iteOmega, IntWalk.toNatUp, hlt, hltM, List.getElem?_eq_getElem hlt, List.getElem?_eq_getElem hltM, he, w1, show ¬ ((i : Int) < 0) by omega, show (i : Int) < M.length by omega]
        have Kp : Kept [[],[4],[]] := ⟨⟩
        iterate 3 (refine Kp.s ?_; clear Kp; intro Kp; simp [go_sem, -getElem?_pos, -List.map_take, -List.map_drop, IntWalk.iteOmega, IntWalk.toNatUp, hlt, hltM, List.getElem?_eq_getElem hlt, List.getElem?_eq_getElem hltM, he, w1, show ¬ ((i : Int) < 0) by omega, show (i : Int) < M.length by omega])
        exact fun e => he (by subst e; rfl)
    · skip
      have Kp : Kept [[0,1,5,14],[],[],[4],[]] := ⟨⟩
      iterate 5 (refine Kp.s ?_; clear Kp; intro Kp; simp [go_sem, -getElem?_pos, -List.map_take, -List.map_drop, IntWalk.iteOmega, IntWalk.toNatUp, show ¬ ((i : Int) < M.length) by omega])
      rw [← List.take_of_length_le (show L.length ≤ i by omega), hpre, List.take_of_length_le (by omega)]
  · skip
    refine IBody.of Tryd.func14 rfl (by rw [Tryd.ntmps14]; simp) ?_
    rw [Tryd.ntmps14]
    have Kp : Kept [[0,1],[0,1,10],[],[4],[]] := ⟨⟩
    iterate 5 (refine Kp.s ?_; clear Kp; intro Kp; simp [go_sem, -getElem?_pos, -List.map_take, -List.map_drop, IntWalk.iteOmega, IntWalk.toNatUp, hlen, show ¬ ((L.length : Int) = M.length) by omega])
    exact fun e => hlen (by rw [e])
end Go.Proofs.YtoecebibhcadoaaDoor.I
namespace Go.Proofs.YtoecebibhcadoaaDoor.I
open Go Go.RowKit
set_option linter.unusedVariables false
set_option linter.unusedSimpArgs false
theorem set_self {H : Heap} {b : Nat} {cs : List Value} {own : Bool} (h : H.get b = some ⟨cs, own⟩) : H.set b cs = H := by
  refine Heap.ext' (fun j => ?_) rfl
  rw [get_set]
  by_cases e : j = b
  · subst e; rw [if_pos rfl, h]; rfl
  · rw [if_neg e]
structure Rd where
  L : List Int
  pos : Nat
  e : Int
def Rd.cells (s : Rd) : List Value := [byts s.L, .int .i64 s.pos, .int .i64 s.e]
def Rd.ok (s : Rd) : Prop := s.pos ≤ s.L.length ∧ s.L.length ≤ 1000000 ∧ Bs s.L
def Rd.ready (s : Rd) (n : Nat) : Rd := if s.e = 0 ∧ s.L.length < s.pos + n then { s with e := 4 } else s
def Rd.at_ (s : Rd) (i : Nat) : Int := s.L.getD (s.pos + i) 0
def Rd.byte (s : Rd) : Int × Rd := if (s.ready 1).e = 0 then (s.at_ 0, { s with pos := s.pos + 1 }) else (0, s.ready 1)
def Rd.flag (s : Rd) : Bool × Rd := if (s.ready 1).e = 0 then (if 1 < s.at_ 0 then (false, { s with e := 2 }) else (decide (s.at_ 0 = 1), { s with pos := s.pos + 1 })) else (false, s.ready 1)
def be4 (a b c d : Int) : Int := if 127 < a then ((a - 256) * 256 + b) * 65536 + c * 256 + d else (a * 256 + b) * 65536 + c * 256 + d
def Rd.int (s : Rd) : Int × Rd := if (s.ready 4).e = 0 then (be4 (s.at_ 0) (s.at_ 1) (s.at_ 2) (s.at_ 3), { s with pos := s.pos + 4 }) else (0, s.ready 4)
def Rd.left (s : Rd) : Int := if s.e = 0 then s.L.length - s.pos else 0
def Rd.fault (s : Rd) : Int × Int := if s.e = 0 then (0, 0) else (s.pos, s.e)
def Rd.ending (s : Rd) : Int × Int := if 0 < s.left then (s.pos, 2) else s.fault
theorem Rd.ready_ok {s : Rd} {n : Nat} (h : s.e = 0) (h2 : s.pos + n ≤ s.L.length) : s.ready n = s := by unfold Rd.ready; rw [if_neg (by omega)]
theorem Rd.ready_short {s : Rd} {n : Nat} (h : s.e = 0) (h2 : ¬ s.pos + n ≤ s.L.length) : s.ready n = { s with e := 4 } := by unfold Rd.ready; rw [if_pos (by omega)]
theorem Rd.ready_bad {s : Rd} {n : Nat} (h : ¬ s.e = 0) : s.ready n = s := by unfold Rd.ready; rw [if_neg (by omega)]
theorem Rd.at_get {s : Rd} {i : Nat} (h : s.pos + i < s.L.length) : s.L[s.pos + i]? = some (s.at_ i) := by simp [Rd.at_, h]
theorem Rd.at_byte {s : Rd} (h : s.ok) (i : Nat) : 0 ≤ s.at_ i ∧ s.at_ i < 256 := by
  by_cases hi : s.pos + i < s.L.length
  · have := h.2.2 _ (List.getElem_mem hi)
    simpa [Rd.at_, hi] using this
  · simp [Rd.at_, hi]
theorem or_low (x b : Int) (hx : 0 ≤ x ∧ x < 16777216) (hb : 0 ≤ b ∧ b < 256) : ((BitVec.ofInt 32 (x * 256) ||| BitVec.ofInt 32 b : BitVec 32).toNat : Int) = x * 256 + b := by
  obtain ⟨n, rfl⟩ : ∃ n : Nat, x = n := ⟨x.toNat, by omega⟩
  obtain ⟨m, rfl⟩ : ∃ n : Nat, b = n := ⟨b.toNat, by omega⟩
  rw [BitVec.toNat_or, BitVec.toNat_ofInt, BitVec.toNat_ofInt]
  have e1 : (((n : Int) * 256) % (2 ^ 32 : Nat)).toNat = 2 ^ 8 * n := by omega
  have e2 : ((m : Int) % (2 ^ 32 : Nat)).toNat = m := by omega
  rw [e1, e2, ← Nat.two_pow_add_eq_or_of_lt (by omega)]
  omega
def num (L : List Int) : Int := L.foldl (fun x b => x * 256 + b) 0
theorem num_snoc (L : List Int) (b : Int) : num (L ++ [b]) = num L * 256 + b := by simp [num]
theorem num_bound : ∀ (L : List Int), Bs L → 0 ≤ num L ∧ num L < 256 ^ L.length := by
  intro L hB
  have : ∀ (L : List Int) (x : Int) (k : Nat), Bs L → 0 ≤ x ∧ x < 256 ^ k → 0 ≤ L.foldl (fun x b => x * 256 + b) x ∧ L.foldl (fun x b => x * 256 + b) x < 256 ^ (k + L.length) := by
    intro L
    induction L with
    | nil => intro x k _ h; exact h
    | cons a L ih =>
      intro x k hB hx
      have ha := hB a (by simp)
      have := ih (x * 256 + a) (k + 1) (fun y hy => hB y (by simp [hy])) (by rw [Int.pow_succ]; omega)
      rw [show k + 1 + L.length = k + (a :: L).length by simp; omega] at this
      exact this
  have := this L 0 0 hB (by decide)
  simpa [num] using this
theorem be4_num (a b c d : Int) (ha : 0 ≤ a ∧ a < 256) (hb : 0 ≤ b ∧ b < 256) (hc : 0 ≤ c ∧ c < 256) (hd : 0 ≤ d ∧ d < 256) : IntKind.i64.wrap (IntKind.i32.wrap (num [a, b, c, d])) = be4 a b c d := by
  have e32 : ∀ n : Int, IntKind.i32.wrap n = if 2147483648 ≤ n % 4294967296 then n % 4294967296 - 4294967296 else n % 4294967296 := fun n => by simp [IntKind.wrap, IntKind.bits, IntKind.signed]
  have hn : num [a, b, c, d] = (((0 * 256 + a) * 256 + b) * 256 + c) * 256 + d := rfl
  generalize num [a, b, c, d] = n at hn
  rw [e32]
  have hm : n % 4294967296 = n := by omega
  rw [hm]
  unfold be4
  by_cases h : 2147483648 ≤ n
  · rw [if_pos h, IntWalk.i64_in _ (by omega), if_pos (by omega)]; omega
  · rw [if_neg h, IntWalk.i64_in _ (by omega), if_neg (by omega)]; omega
def grown (a : Int) (f : Nat → Int) : Nat → Int
  | 0 => a
  | k + 1 => grown a f k * 256 + f (k + 1)
theorem grown_bound (a : Int) (f : Nat → Int) (ha : -128 ≤ a ∧ a < 128) (hf : ∀ k, 0 ≤ f k ∧ f k < 256) : ∀ k, k ≤ 3 → -2147483648 ≤ grown a f k * 1 ∧ grown a f k < 2147483648 := by
  have h1 := hf 1
  have h2 := hf 2
  have h3 := hf 3
  intro k hk
  match k, hk with
  | 0, _ => simp only [grown, Nat.zero_add, Nat.reduceAdd]; omega
  | 1, _ => simp only [grown, Nat.zero_add, Nat.reduceAdd]; omega
  | 2, _ => simp only [grown, Nat.zero_add, Nat.reduceAdd]; omega
  | 3, _ => simp only [grown, Nat.zero_add, Nat.reduceAdd]; omega
section eqs
variable {s : Rd}
theorem Rd.byte_eq (h : s.e = 0) (h2 : s.pos + 1 ≤ s.L.length) : s.byte = (s.at_ 0, { s with pos := s.pos + 1 }) := by simp [Rd.byte, Rd.ready_ok h h2, h]
theorem Rd.byte_short (h : s.e = 0) (h2 : ¬ s.pos + 1 ≤ s.L.length) : s.byte = (0, { s with e := 4 }) := by simp [Rd.byte, Rd.ready_short h h2]
theorem Rd.byte_bad (h : ¬ s.e = 0) : s.byte = (0, s) := by simp [Rd.byte, Rd.ready_bad h, h]
theorem Rd.flag_eq (h : s.e = 0) (h2 : s.pos + 1 ≤ s.L.length) (h3 : ¬ 1 < s.at_ 0) : s.flag = (decide (s.at_ 0 = 1), { s with pos := s.pos + 1 }) := by simp [Rd.flag, Rd.ready_ok h h2, h, h3]
theorem Rd.flag_form (h : s.e = 0) (h2 : s.pos + 1 ≤ s.L.length) (h3 : 1 < s.at_ 0) : s.flag = (false, { s with e := 2 }) := by simp [Rd.flag, Rd.ready_ok h h2, h, h3]
theorem Rd.flag_short (h : s.e = 0) (h2 : ¬ s.pos + 1 ≤ s.L.length) : s.flag = (false, { s with e := 4 }) := by simp [Rd.flag, Rd.ready_short h h2]
theorem Rd.flag_bad (h : ¬ s.e = 0) : s.flag = (false, s) := by simp [Rd.flag, Rd.ready_bad h, h]
theorem Rd.int_eq (h : s.e = 0) (h2 : s.pos + 4 ≤ s.L.length) : s.int = (be4 (s.at_ 0) (s.at_ 1) (s.at_ 2) (s.at_ 3), { s with pos := s.pos + 4 }) := by simp [Rd.int, Rd.ready_ok h h2, h]
theorem Rd.int_short (h : s.e = 0) (h2 : ¬ s.pos + 4 ≤ s.L.length) : s.int = (0, { s with e := 4 }) := by simp [Rd.int, Rd.ready_short h h2]
theorem Rd.int_bad (h : ¬ s.e = 0) : s.int = (0, s) := by simp [Rd.int, Rd.ready_bad h, h]
theorem Rd.left_ok (h : s.e = 0) : s.left = s.L.length - s.pos := by simp [Rd.left, h]
theorem Rd.left_bad (h : ¬ s.e = 0) : s.left = 0 := by simp [Rd.left, h]
theorem Rd.byte_ok (h : s.ok) : s.byte.2.ok := by
  obtain ⟨h1, h2, h3⟩ := h
  by_cases he : s.e = 0
  · by_cases hn : s.pos + 1 ≤ s.L.length
    · rw [Rd.byte_eq he hn]; exact ⟨hn, h2, h3⟩
    · rw [Rd.byte_short he hn]; exact ⟨h1, h2, h3⟩
  · rw [Rd.byte_bad he]; exact ⟨h1, h2, h3⟩
theorem Rd.flag_ok (h : s.ok) : s.flag.2.ok := by
  obtain ⟨h1, h2, h3⟩ := h
  by_cases he : s.e = 0
  · by_cases hn : s.pos + 1 ≤ s.L.length
    · by_cases hf : 1 < s.at_ 0
      · rw [Rd.flag_form he hn hf]; exact ⟨h1, h2, h3⟩
      · rw [Rd.flag_eq he hn hf]; exact ⟨hn, h2, h3⟩
    · rw [Rd.flag_short he hn]; exact ⟨h1, h2, h3⟩
  · rw [Rd.flag_bad he]; exact ⟨h1, h2, h3⟩
theorem Rd.int_ok (h : s.ok) : s.int.2.ok := by
  obtain ⟨h1, h2, h3⟩ := h
  by_cases he : s.e = 0
  · by_cases hn : s.pos + 4 ≤ s.L.length
    · rw [Rd.int_eq he hn]; exact ⟨hn, h2, h3⟩
    · rw [Rd.int_short he hn]; exact ⟨h1, h2, h3⟩
  · rw [Rd.int_bad he]; exact ⟨h1, h2, h3⟩
end eqs
section prog
variable (H : Heap) (b : Nat) (s : Rd) (hs : s.ok) (hg : H.get b = some ⟨s.cells, true⟩)
include hs hg
theorem rLeft : ICalls Tryd.prog 78 [ptrTo b 0] H fun v H' => v = .int .i64 s.left ∧ H' = H := by
  refine IBody.calls (by kernel_rfl) ?_
  obtain ⟨h1, h2, h3⟩ := hs
  unfold Rd.cells at hg
  by_cases he : s.e = 0
  · have w1 := IntWalk.i64_in ((s.L.length : Int) - s.pos) (by omega)
    refine IBody.of Tryd.func78 rfl (by rw [Tryd.ntmps78]; simp) ?_
    rw [Tryd.ntmps78]
    have Kp : Kept [[0],[0,11],[],[0]] := ⟨⟩
    iterate 4 (refine Kp.s ?_; clear Kp; intro Kp; simp [go_sem, -getElem?_pos, -List.map_take, -List.map_drop, IntWalk.iteOmega, IntWalk.toNatUp, hg, he, w1, Rd.left_ok])
    refine IWp.seq ?_
    refine IWp.read [2] follows (by kernel_rfl) ?_
    simp [go_sem, -getElem?_pos, -List.map_take, -List.map_drop, IntWalk.iteOmega, IntWalk.toNatUp, hg, he, w1, Rd.left_ok]
    refine IWp.one [] ?_
    simp [go_sem, -getElem?_pos, -List.map_take, -List.map_drop, IntWalk.iteOmega, IntWalk.toNatUp, hg, he, w1, Rd.left_ok]
  · have hb : decide (s.e = 0) = false := by simpa using he
    refine IBody.of Tryd.func78 rfl (by rw [Tryd.ntmps78]; simp) ?_
    rw [Tryd.ntmps78]
    have Kp : Kept [[0],[0,11],[],[2],[]] := ⟨⟩
    iterate 5 (refine Kp.s ?_; clear Kp; intro Kp; simp [go_sem, -getElem?_pos, -List.map_take, -List.map_drop, IntWalk.iteOmega, IntWalk.toNatUp, hg, he, Rd.left_bad])
omit hs in
theorem rFault : ICalls Tryd.prog 79 [ptrTo b 0] H fun v H' => v = .tuple #[.int .i64 s.fault.1, .int .i64 s.fault.2] ∧ H' = H := by
  refine IBody.calls (by kernel_rfl) ?_
  unfold Rd.cells at hg
  by_cases he : s.e = 0
  · skip
    refine IBody.of Tryd.func79 rfl (by rw [Tryd.ntmps79]; simp) ?_
    rw [Tryd.ntmps79]
    have Kp : Kept [[0],[0,4],[],[0,7],[],[2,3],[]] := ⟨⟩
    iterate 7 (refine Kp.s ?_; clear Kp; intro Kp; simp [go_sem, -getElem?_pos, -List.map_take, -List.map_drop, IntWalk.iteOmega, IntWalk.toNatUp, hg, he, Rd.fault])
  · skip
    refine IBody.of Tryd.func79 rfl (by rw [Tryd.ntmps79]; simp) ?_
    rw [Tryd.ntmps79]
    have Kp : Kept [[0],[0,4],[],[0,7],[],[0]] := ⟨⟩
    iterate 6 (refine Kp.s ?_; clear Kp; intro Kp; simp [go_sem, -getElem?_pos, -List.map_take, -List.map_drop, IntWalk.iteOmega, IntWalk.toNatUp, hg, he, Rd.fault])
    refine IWp.seq ?_
    refine IWp.read [2, 3] follows (by kernel_rfl) ?_
    simp [go_sem, -getElem?_pos, -List.map_take, -List.map_drop, IntWalk.iteOmega, IntWalk.toNatUp, hg, he, Rd.fault]
    refine IWp.one [] ?_
    simp [go_sem, -getElem?_pos, -List.map_take, -List.map_drop, IntWalk.iteOmega, IntWalk.toNatUp, hg, he, Rd.fault]
theorem rEnd : ICalls Tryd.prog 53 [ptrTo b 0] H fun v H' => v = .tuple #[.int .i64 s.ending.1, .int .i64 s.ending.2] ∧ H' = H := by
  have c1 := rLeft H b s hs hg
  have c2 := rFault H b s hg
  refine IBody.calls (by kernel_rfl) ?_
  unfold Rd.cells at hg
  by_cases he : 0 < s.left
  · skip
    refine IBody.of Tryd.func53 rfl (by rw [Tryd.ntmps53]; simp) ?_
    rw [Tryd.ntmps53]
    have Kp : Kept [[0],[0,6]] := ⟨⟩
    iterate 2 (refine Kp.s ?_; clear Kp; intro Kp; simp [go_sem, -getElem?_pos, -List.map_take, -List.map_drop, IntWalk.iteOmega, IntWalk.toNatUp, hg, he, Rd.ending])
    refine ICalls.mono (c1) ?_
    rintro v _ ⟨rfl, rfl⟩
    try simp [go_sem, -getElem?_pos, -List.map_take, -List.map_drop, IntWalk.iteOmega, IntWalk.toNatUp, hg, he, Rd.ending]
    have Kp : Kept [[],[2,3],[]] := ⟨⟩
    iterate 3 (refine Kp.s ?_; clear Kp; intro Kp; simp [go_sem, -getElem?_pos, -List.map_take, -List.map_drop, IntWalk.iteOmega, IntWalk.toNatUp, hg, he, Rd.ending])
  · skip
    refine IBody.of Tryd.func53 rfl (by rw [Tryd.ntmps53]; simp) ?_
    rw [Tryd.ntmps53]
    have Kp : Kept [[0],[0,6]] := ⟨⟩
    iterate 2 (refine Kp.s ?_; clear Kp; intro Kp; simp [go_sem, -getElem?_pos, -List.map_take, -List.map_drop, IntWalk.iteOmega, IntWalk.toNatUp, hg, he, Rd.ending])
    refine ICalls.mono (c1) ?_
    rintro v _ ⟨rfl, rfl⟩
    try simp [go_sem, -getElem?_pos, -List.map_take, -List.map_drop, IntWalk.iteOmega, IntWalk.toNatUp, hg, he, Rd.ending]
    have Kp : Kept [[],[0],[2,3]] := ⟨⟩
    iterate 3 (refine Kp.s ?_; clear Kp; intro Kp; simp [go_sem, -getElem?_pos, -List.map_take, -List.map_drop, IntWalk.iteOmega, IntWalk.toNatUp, hg, he, Rd.ending])
    refine ICalls.mono (c2) ?_
    rintro v _ ⟨rfl, rfl⟩
    try simp [go_sem, -getElem?_pos, -List.map_take, -List.map_drop, IntWalk.iteOmega, IntWalk.toNatUp, hg, he, Rd.ending]
    refine IWp.one [] ?_
    simp [go_sem, -getElem?_pos, -List.map_take, -List.map_drop, IntWalk.iteOmega, IntWalk.toNatUp, hg, he, Rd.ending]
theorem take_ok (n : Nat) (he : s.e = 0) (hn : s.pos + n ≤ s.L.length) : ICalls Tryd.prog 85 [ptrTo b 0, .int .i64 n] H fun v H' => v = byts ((s.L.drop s.pos).take n) ∧ H' = H.set b { s with pos := s.pos + n }.cells := by
  have c1 := rLeft H b s hs hg
  rw [Rd.left_ok he] at c1
  refine IBody.calls (by kernel_rfl) ?_
  obtain ⟨h1, h2, h3⟩ := hs
  unfold Rd.cells at hg
  have w1 := IntWalk.i64_in ((s.pos : Int) + n) (by omega)
  have w2 := IntWalk.i64_in (s.pos : Int) (by omega)
  have w4 : ((s.pos : Int) + n).toNat = s.pos + n := by omega
  refine IBody.of Tryd.func85 rfl (by rw [Tryd.ntmps85]; simp) ?_
  rw [Tryd.ntmps85]
  have Kp : Kept [[0,1],[0,1,6],[],[0,1],[0,1,17]] := ⟨⟩
  iterate 5 (refine Kp.s ?_; clear Kp; intro Kp; simp [go_sem, -getElem?_pos, -List.map_take, -List.map_drop, IntWalk.iteOmega, IntWalk.toNatUp, hg, he, w1, w2, w4, hn, Rd.cells, Nat.add_sub_cancel_left, show ¬ ((s.L.length : Int) - s.pos < n) by omega, show 0 ≤ (s.pos : Int) + n by omega])
  refine ICalls.mono (c1) ?_
  rintro v _ ⟨rfl, rfl⟩
  try simp [go_sem, -getElem?_pos, -List.map_take, -List.map_drop, IntWalk.iteOmega, IntWalk.toNatUp, hg, he, w1, w2, w4, hn, Rd.cells, Nat.add_sub_cancel_left, show ¬ ((s.L.length : Int) - s.pos < n) by omega, show 0 ≤ (s.pos : Int) + n by omega]
  have Kp : Kept [[],[0,1],[0,1,25],[],[0,1],[0,1]] := ⟨⟩
  iterate 6 (refine Kp.s ?_; clear Kp; intro Kp; simp [go_sem, -getElem?_pos, -List.map_take, -List.map_drop, IntWalk.iteOmega, IntWalk.toNatUp, hg, he, w1, w2, w4, hn, Rd.cells, Nat.add_sub_cancel_left, show ¬ ((s.L.length : Int) - s.pos < n) by omega, show 0 ≤ (s.pos : Int) + n by omega])
  refine IWp.seq ?_
  refine IWp.read [4] follows (by kernel_rfl) ?_
  simp [go_sem, -getElem?_pos, -List.map_take, -List.map_drop, IntWalk.iteOmega, IntWalk.toNatUp, hg, he, w1, w2, w4, hn, Rd.cells, Nat.add_sub_cancel_left, show ¬ ((s.L.length : Int) - s.pos < n) by omega, show 0 ≤ (s.pos : Int) + n by omega]
  refine IWp.one [] ?_
  simp [go_sem, -getElem?_pos, -List.map_take, -List.map_drop, IntWalk.iteOmega, IntWalk.toNatUp, hg, he, w1, w2, w4, hn, Rd.cells, Nat.add_sub_cancel_left, show ¬ ((s.L.length : Int) - s.pos < n) by omega, show 0 ≤ (s.pos : Int) + n by omega]
theorem take_short (n : Nat) (he : s.e = 0) (hn : ¬ s.pos + n ≤ s.L.length) : ICalls Tryd.prog 85 [ptrTo b 0, .int .i64 n] H fun v H' => v = .slice none 0 0 ∧ H' = H.set b { s with e := 4 }.cells := by
  have c1 := rLeft H b s hs hg
  rw [Rd.left_ok he] at c1
  refine IBody.calls (by kernel_rfl) ?_
  obtain ⟨h1, h2, h3⟩ := hs
  unfold Rd.cells at hg
  refine IBody.of Tryd.func85 rfl (by rw [Tryd.ntmps85]; simp) ?_
  rw [Tryd.ntmps85]
  have Kp : Kept [[0,1],[0,1,6],[],[0,1],[0,1,17]] := ⟨⟩
  iterate 5 (refine Kp.s ?_; clear Kp; intro Kp; simp [go_sem, -getElem?_pos, -List.map_take, -List.map_drop, IntWalk.iteOmega, IntWalk.toNatUp, hg, he, Rd.cells, show ((s.L.length : Int) - s.pos < n) by omega])
  refine ICalls.mono (c1) ?_
  rintro v _ ⟨rfl, rfl⟩
  try simp [go_sem, -getElem?_pos, -List.map_take, -List.map_drop, IntWalk.iteOmega, IntWalk.toNatUp, hg, he, Rd.cells, show ((s.L.length : Int) - s.pos < n) by omega]
  have Kp : Kept [[],[0,1],[0,1,25],[],[4],[]] := ⟨⟩
  iterate 6 (refine Kp.s ?_; clear Kp; intro Kp; simp [go_sem, -getElem?_pos, -List.map_take, -List.map_drop, IntWalk.iteOmega, IntWalk.toNatUp, hg, he, Rd.cells, show ((s.L.length : Int) - s.pos < n) by omega])
omit hs in
theorem take_bad (n : Nat) (he : ¬ s.e = 0) : ICalls Tryd.prog 85 [ptrTo b 0, .int .i64 n] H fun v H' => v = .slice none 0 0 ∧ H' = H := by
  refine IBody.calls (by kernel_rfl) ?_
  unfold Rd.cells at hg
  have hd : decide (s.e = 0) = false := by simpa using he
  refine IBody.of Tryd.func85 rfl (by rw [Tryd.ntmps85]; simp) ?_
  rw [Tryd.ntmps85]
  have Kp : Kept [[0,1],[0,1,6],[],[0,1],[0,1,17],[],[0,1],[0,1,25],[],[4],[]] := ⟨⟩
  iterate 11 (refine Kp.s ?_; clear Kp; intro Kp; simp [go_sem, -getElem?_pos, -List.map_take, -List.map_drop, IntWalk.iteOmega, IntWalk.toNatUp, hg, he, hd, Rd.cells])
theorem rByte : ICalls Tryd.prog 76 [ptrTo b 0] H fun v H' => v = .int .u8 s.byte.1 ∧ H' = H.set b s.byte.2.cells := by
  by_cases he : s.e = 0
  · by_cases hn : s.pos + 1 ≤ s.L.length
    · rw [Rd.byte_eq he hn]
      have c1 := take_ok H b s hs hg 1 he hn
      have ha := Rd.at_get (s := s) (i := 0) (by omega)
      rw [Nat.add_zero] at ha
      rw [show (s.L.drop s.pos).take 1 = [s.at_ 0] by
        rw [List.getElem?_eq_getElem (by omega), Option.some.injEq] at ha
        rw [List.drop_eq_getElem_cons (by omega), List.take_succ_cons, List.take_zero, ha]] at c1
      refine IBody.calls (by kernel_rfl) ?_
      refine IBody.of Tryd.func76 rfl (by rw [Tryd.ntmps76]; simp) ?_
      rw [Tryd.ntmps76]
      have Kp : Kept [[0],[3]] := ⟨⟩
      iterate 2 (refine Kp.s ?_; clear Kp; intro Kp; simp [go_sem, -getElem?_pos, -List.map_take, -List.map_drop, IntWalk.iteOmega, IntWalk.toNatUp, hn])
      refine ICalls.mono (c1) ?_
      rintro v _ ⟨rfl, rfl⟩
      try simp [go_sem, -getElem?_pos, -List.map_take, -List.map_drop, IntWalk.iteOmega, IntWalk.toNatUp, hn]
      have Kp : Kept [[3,8],[],[3],[2],[]] := ⟨⟩
      iterate 5 (refine Kp.s ?_; clear Kp; intro Kp; simp [go_sem, -getElem?_pos, -List.map_take, -List.map_drop, IntWalk.iteOmega, IntWalk.toNatUp, hn])
    · rw [Rd.byte_short he hn]
      have c1 := take_short H b s hs hg 1 he hn
      refine IBody.calls (by kernel_rfl) ?_
      refine IBody.of Tryd.func76 rfl (by rw [Tryd.ntmps76]; simp) ?_
      rw [Tryd.ntmps76]
      have Kp : Kept [[0],[3]] := ⟨⟩
      iterate 2 (refine Kp.s ?_; clear Kp; intro Kp; simp [go_sem, -getElem?_pos, -List.map_take, -List.map_drop, IntWalk.iteOmega, IntWalk.toNatUp, hn])
      refine ICalls.mono (c1) ?_
      rintro v _ ⟨rfl, rfl⟩
      try simp [go_sem, -getElem?_pos, -List.map_take, -List.map_drop, IntWalk.iteOmega, IntWalk.toNatUp, hn]
      have Kp : Kept [[3,8],[],[2],[]] := ⟨⟩
      iterate 4 (refine Kp.s ?_; clear Kp; intro Kp; simp [go_sem, -getElem?_pos, -List.map_take, -List.map_drop, IntWalk.iteOmega, IntWalk.toNatUp, hn])
  · rw [Rd.byte_bad he, set_self hg]
    have c1 := take_bad H b s hg 1 he
    refine IBody.calls (by kernel_rfl) ?_
    refine IBody.of Tryd.func76 rfl (by rw [Tryd.ntmps76]; simp) ?_
    rw [Tryd.ntmps76]
    have Kp : Kept [[0],[3]] := ⟨⟩
    iterate 2 (refine Kp.s ?_; clear Kp; intro Kp; simp [go_sem, -getElem?_pos, -List.map_take, -List.map_drop, IntWalk.iteOmega, IntWalk.toNatUp, he])
    refine ICalls.mono (c1) ?_
    rintro v _ ⟨rfl, rfl⟩
    try simp [go_sem, -getElem?_pos, -List.map_take, -List.map_drop, IntWalk.iteOmega, IntWalk.toNatUp, he]
    have Kp : Kept [[3,8],[],[2],[]] := ⟨⟩
    iterate 4 (refine Kp.s ?_; clear Kp; intro Kp; simp [go_sem, -getElem?_pos, -List.map_take, -List.map_drop, IntWalk.iteOmega, IntWalk.toNatUp, he])
theorem rFlag : ICalls Tryd.prog 77 [ptrTo b 0] H fun v H' => v = .bool s.flag.1 ∧ H' = H.set b s.flag.2.cells := by
  have c1 := rByte H b s hs hg
  by_cases he : s.e = 0
  · by_cases hn : s.pos + 1 ≤ s.L.length
    · rw [Rd.byte_eq he hn] at c1
      obtain ⟨h1, h2, h3⟩ := hs
      have w1 := IntWalk.i64_in (s.pos : Int) (by omega)
      by_cases hf : 1 < s.at_ 0
      · rw [Rd.flag_form he hn hf]
        refine IBody.calls (by kernel_rfl) ?_
        refine IBody.of Tryd.func77 rfl (by rw [Tryd.ntmps77]; simp) ?_
        rw [Tryd.ntmps77]
        have Kp : Kept [[0],[0,3]] := ⟨⟩
        iterate 2 (refine Kp.s ?_; clear Kp; intro Kp; simp [go_sem, -getElem?_pos, -List.map_take, -List.map_drop, IntWalk.iteOmega, IntWalk.toNatUp, hg, hf, he, w1, set_set, Rd.cells])
        refine ICalls.mono (c1) ?_
        rintro v _ ⟨rfl, rfl⟩
        try simp [go_sem, -getElem?_pos, -List.map_take, -List.map_drop, IntWalk.iteOmega, IntWalk.toNatUp, hg, hf, he, w1, set_set, Rd.cells]
        have Kp : Kept [[0,3,7],[],[0],[],[2],[]] := ⟨⟩
        iterate 6 (refine Kp.s ?_; clear Kp; intro Kp; simp [go_sem, -getElem?_pos, -List.map_take, -List.map_drop, IntWalk.iteOmega, IntWalk.toNatUp, hg, hf, he, w1, set_set, Rd.cells])
      · rw [Rd.flag_eq he hn hf]
        refine IBody.calls (by kernel_rfl) ?_
        refine IBody.of Tryd.func77 rfl (by rw [Tryd.ntmps77]; simp) ?_
        rw [Tryd.ntmps77]
        have Kp : Kept [[0],[0,3]] := ⟨⟩
        iterate 2 (refine Kp.s ?_; clear Kp; intro Kp; simp [go_sem, -getElem?_pos, -List.map_take, -List.map_drop, IntWalk.iteOmega, IntWalk.toNatUp, hg, hf, he, Rd.cells])
        refine ICalls.mono (c1) ?_
        rintro v _ ⟨rfl, rfl⟩
        try simp [go_sem, -getElem?_pos, -List.map_take, -List.map_drop, IntWalk.iteOmega, IntWalk.toNatUp, hg, hf, he, Rd.cells]
        have Kp : Kept [[0,3,7],[],[3],[2],[]] := ⟨⟩
        iterate 5 (refine Kp.s ?_; clear Kp; intro Kp; simp [go_sem, -getElem?_pos, -List.map_take, -List.map_drop, IntWalk.iteOmega, IntWalk.toNatUp, hg, hf, he, Rd.cells])
    · rw [Rd.byte_short he hn] at c1
      rw [Rd.flag_short he hn]
      refine IBody.calls (by kernel_rfl) ?_
      refine IBody.of Tryd.func77 rfl (by rw [Tryd.ntmps77]; simp) ?_
      rw [Tryd.ntmps77]
      have Kp : Kept [[0],[0,3]] := ⟨⟩
      iterate 2 (refine Kp.s ?_; clear Kp; intro Kp; simp [go_sem, -getElem?_pos, -List.map_take, -List.map_drop, IntWalk.iteOmega, IntWalk.toNatUp, hg, he, Rd.cells])
      refine ICalls.mono (c1) ?_
      rintro v _ ⟨rfl, rfl⟩
      try simp [go_sem, -getElem?_pos, -List.map_take, -List.map_drop, IntWalk.iteOmega, IntWalk.toNatUp, hg, he, Rd.cells]
      have Kp : Kept [[0,3,7],[],[3],[2],[]] := ⟨⟩
      iterate 5 (refine Kp.s ?_; clear Kp; intro Kp; simp [go_sem, -getElem?_pos, -List.map_take, -List.map_drop, IntWalk.iteOmega, IntWalk.toNatUp, hg, he, Rd.cells])
  · rw [Rd.byte_bad he] at c1
    rw [Rd.flag_bad he]
    refine IBody.calls (by kernel_rfl) ?_
    refine IBody.of Tryd.func77 rfl (by rw [Tryd.ntmps77]; simp) ?_
    rw [Tryd.ntmps77]
    have Kp : Kept [[0],[0,3]] := ⟨⟩
    iterate 2 (refine Kp.s ?_; clear Kp; intro Kp; simp [go_sem, -getElem?_pos, -List.map_take, -List.map_drop, IntWalk.iteOmega, IntWalk.toNatUp, hg, he, Rd.cells])
    refine ICalls.mono (c1) ?_
    rintro v _ ⟨rfl, rfl⟩
    try simp [go_sem, -getElem?_pos, -List.map_take, -List.map_drop, IntWalk.iteOmega, IntWalk.toNatUp, hg, he, Rd.cells]
    have Kp : Kept [[0,3,7],[],[3],[2],[]] := ⟨⟩
    iterate 5 (refine Kp.s ?_; clear Kp; intro Kp; simp [go_sem, -getElem?_pos, -List.map_take, -List.map_drop, IntWalk.iteOmega, IntWalk.toNatUp, hg, he, Rd.cells])
theorem rInt : ICalls Tryd.prog 68 [ptrTo b 0] H fun v H' => v = .int .i64 s.int.1 ∧ H' = H.set b s.int.2.cells := by
  by_cases he : s.e = 0
  · by_cases hn : s.pos + 4 ≤ s.L.length
    · rw [Rd.int_eq he hn]
      have c1 := take_ok H b s hs hg 4 he hn
      have a0 := Rd.at_byte hs 0
      have a1 := Rd.at_byte hs 1
      have a2 := Rd.at_byte hs 2
      have a3 := Rd.at_byte hs 3
      have hl : (s.L.drop s.pos).take 4 = [s.at_ 0, s.at_ 1, s.at_ 2, s.at_ 3] := by
        apply List.ext_getElem?
        intro i
        by_cases hi : i < 4
        · rw [List.getElem?_take_of_lt hi, List.getElem?_drop, Rd.at_get (by omega)]
          match i, hi with
          | 0, _ => rfl
          | 1, _ => rfl
          | 2, _ => rfl
          | 3, _ => rfl
        · rw [List.getElem?_eq_none (by simp; omega), List.getElem?_eq_none (by simp; omega)]
      rw [hl] at c1
      have hB : Bs [s.at_ 0, s.at_ 1, s.at_ 2, s.at_ 3] := fun x hx => by simp at hx; rcases hx with rfl | rfl | rfl | rfl <;> assumption
      have hnum := be4_num _ _ _ _ a0 a1 a2 a3
      generalize hM : [s.at_ 0, s.at_ 1, s.at_ 2, s.at_ 3] = M at c1 hB hnum
      have hlen : M.length = 4 := by rw [← hM]; rfl
      rw [← hnum]
      refine IBody.calls (by kernel_rfl) ?_
      refine IBody.of Tryd.func68 rfl (by rw [Tryd.ntmps68]; simp) ?_
      rw [Tryd.ntmps68]
      have Kp : Kept [[0],[0,3],[3,7,8,9]] := ⟨⟩
      iterate 3 (refine Kp.s ?_; clear Kp; intro Kp; simp [go_sem, -getElem?_pos, -List.map_take, -List.map_drop, IntWalk.iteOmega, IntWalk.toNatUp, hlen])
      refine ICalls.mono (c1) ?_
      rintro v _ ⟨rfl, rfl⟩
      try simp [go_sem, -getElem?_pos, -List.map_take, -List.map_drop, IntWalk.iteOmega, IntWalk.toNatUp, hlen]
      refine IWp.block ?_
      refine IWp.loop (fun j e K => ∃ i : Nat, j = 4 - i ∧ i ≤ 4 ∧ e = [(3, .int .u32 (num (M.take i))), (7, byts M), (8, .int .i64 4), (9, .int .i64 (i : Int))] ∧ K = H.set b { s with pos := s.pos + 4 }.cells) 4 ⟨0, rfl, by omega, by simp [num], rfl⟩ ?_
      rintro j e K ⟨i, rfl, hi, rfl, rfl⟩
      by_cases hlt : i < 4
      · have hli : i < M.length := by omega
        have hb := num_bound (M.take i) (fun x hx => hB x (List.mem_of_mem_take hx))
        rw [show (M.take i).length = i by simp; omega] at hb
        have hp : (256 : Int) ^ i ≤ 256 ^ 3 := by
          match i, hlt with
          | 0, _ => decide
          | 1, _ => decide
          | 2, _ => decide
          | 3, _ => decide
        have hb2 : 0 ≤ num (M.take i) ∧ num (M.take i) < 16777216 := ⟨hb.1, Int.lt_of_lt_of_le hb.2 hp⟩
        have hx := hB _ (List.getElem_mem hli)
        have o1 := or_low _ _ hb2 hx
        have hs1 : num (M.take (i + 1)) = num (M.take i) * 256 + M[i] := by rw [List.take_succ_eq_append_getElem hli, num_snoc]
        generalize num (M.take i) = y at hb2 o1 hs1
        have w1 := IntWalk.u32_in (y * 256) (by omega)
        have w2 := IntWalk.u32_in (y * 256 + M[i]) (by omega)
        have w3 := IntWalk.u32_in M[i] (by omega)
        have w4 := IntWalk.i64_in ((i : Int) + 1) (by omega)
        have Kp : Kept [[3,7,8,9,10],[],[3,7,8,9],[3,5,7,8,9],[3,7,8,9],[3,7,8,9]] := ⟨⟩
        iterate 6 (refine Kp.s ?_; clear Kp; intro Kp; simp [go_sem, -getElem?_pos, -List.map_take, -List.map_drop, IntWalk.iteOmega, IntWalk.toNatUp, o1, w1, w2, w3, w4, List.getElem?_eq_getElem hli, -BitVec.toNat_or, show (i : Int) < 4 by omega, show ¬ ((i : Int) < 0) by omega])
        exact ⟨4 - (i + 1), by omega, i + 1, rfl, by omega, hs1.symm, by omega⟩
      · have hi4 : i = 4 := by omega
        subst hi4
        have ht : M.take 4 = M := List.take_of_length_le (by omega)
        have Kp : Kept [[3,7,8,9,10],[],[3],[2],[]] := ⟨⟩
        iterate 5 (refine Kp.s ?_; clear Kp; intro Kp; simp [go_sem, -getElem?_pos, -List.map_take, -List.map_drop, IntWalk.iteOmega, IntWalk.toNatUp, ht])
    · rw [Rd.int_short he hn]
      have c1 := take_short H b s hs hg 4 he hn
      refine IBody.calls (by kernel_rfl) ?_
      refine IBody.of Tryd.func68 rfl (by rw [Tryd.ntmps68]; simp) ?_
      rw [Tryd.ntmps68]
      have Kp : Kept [[0],[0,3],[3,7,8,9]] := ⟨⟩
      iterate 3 (refine Kp.s ?_; clear Kp; intro Kp; simp [go_sem, -getElem?_pos, -List.map_take, -List.map_drop, IntWalk.iteOmega, IntWalk.toNatUp, hn])
      refine ICalls.mono (c1) ?_
      rintro v _ ⟨rfl, rfl⟩
      try simp [go_sem, -getElem?_pos, -List.map_take, -List.map_drop, IntWalk.iteOmega, IntWalk.toNatUp, hn]
      refine IWp.block ?_
      refine IWp.loop (fun j e K => e = [(3, .int .u32 0), (7, .slice none 0 0), (8, .int .i64 0), (9, .int .i64 0)] ∧ K = H.set b { s with e := 4 }.cells) 0 ⟨rfl, rfl⟩ ?_
      rintro j e K ⟨rfl, rfl⟩
      have Kp : Kept [[3,7,8,9,10],[],[3],[2],[]] := ⟨⟩
      iterate 5 (refine Kp.s ?_; clear Kp; intro Kp; simp [go_sem, -getElem?_pos, -List.map_take, -List.map_drop, IntWalk.iteOmega, IntWalk.toNatUp, show IntKind.i64.wrap (IntKind.i32.wrap 0) = 0 by decide])
  · rw [Rd.int_bad he, set_self hg]
    have c1 := take_bad H b s hg 4 he
    refine IBody.calls (by kernel_rfl) ?_
    refine IBody.of Tryd.func68 rfl (by rw [Tryd.ntmps68]; simp) ?_
    rw [Tryd.ntmps68]
    have Kp : Kept [[0],[0,3],[3,7,8,9]] := ⟨⟩
    iterate 3 (refine Kp.s ?_; clear Kp; intro Kp; simp [go_sem, -getElem?_pos, -List.map_take, -List.map_drop, IntWalk.iteOmega, IntWalk.toNatUp, he])
    refine ICalls.mono (c1) ?_
    rintro v H ⟨rfl, rfl⟩
    try simp [go_sem, -getElem?_pos, -List.map_take, -List.map_drop, IntWalk.iteOmega, IntWalk.toNatUp, he]
    refine IWp.block ?_
    refine IWp.loop (fun j e K => e = [(3, .int .u32 0), (7, .slice none 0 0), (8, .int .i64 0), (9, .int .i64 0)] ∧ K = H) 0 ⟨rfl, rfl⟩ ?_
    rintro j e K ⟨rfl, rfl⟩
    have Kp : Kept [[3,7,8,9,10],[],[3],[2],[]] := ⟨⟩
    iterate 5 (refine Kp.s ?_; clear Kp; intro Kp; simp [go_sem, -getElem?_pos, -List.map_take, -List.map_drop, IntWalk.iteOmega, IntWalk.toNatUp, show IntKind.i64.wrap (IntKind.i32.wrap 0) = 0 by decide])
end prog
theorem newReader (H : Heap) (m : Int) (L : List Int) (hL : L.length ≤ 1000000) :
    ICalls Tryd.prog 51 [frow 1 m (L.map (Value.int .u8))] H fun v H' => v = ptrTo H.next 0 ∧ H' = H.alloc (Rd.cells ⟨L, 0, 0⟩) := by
  refine IBody.calls (by kernel_rfl) ?_
  refine IBody.of Tryd.func51 rfl (by rw [Tryd.ntmps51]; simp) ?_
  rw [Tryd.ntmps51]
  have Kp : Kept [[0],[2]] := ⟨⟩
  iterate 2 (refine Kp.s ?_; clear Kp; intro Kp; simp [go_sem, -getElem?_pos, -List.map_take, -List.map_drop, IntWalk.iteOmega, IntWalk.toNatUp, Rd.cells])
  refine ICalls.mono (clone _ m L hL) ?_
  rintro v H ⟨rfl, rfl⟩
  try simp [go_sem, -getElem?_pos, -List.map_take, -List.map_drop, IntWalk.iteOmega, IntWalk.toNatUp, Rd.cells]
  refine IWp.one [] ?_
  simp [go_sem, -getElem?_pos, -List.map_take, -List.map_drop, IntWalk.iteOmega, IntWalk.toNatUp, Rd.cells]
theorem bs_of {L : List Int} (h : L.all fun x => decide (0 ≤ x ∧ x < 256)) : Bs L := fun x hx => by
  rw [List.all_eq_true] at h
  simpa using h x hx
end Go.Proofs.YtoecebibhcadoaaDoor.I
namespace Go.Proofs.YtoecebibhcadoaaDoor.I
open Go Go.RowKit
set_option linter.unusedVariables false
set_option linter.unusedSimpArgs false
def WrAt (H : Heap) (b : Nat) (r : Option Nat) (L : List Int) : Prop :=
  (r = none ∧ L = [] ∧ H.get b = some ⟨[.slice none 0 0], true⟩) ∨ ∃ q, r = some q ∧ q ≠ b ∧ H.get b = some ⟨[.slice (some ⟨q, 0, some 1⟩) L.length 1], true⟩ ∧ H.get q = some ⟨L.map (Value.int .u8), true⟩
structure Step (H K : Heap) (b : Nat) (r r' : Option Nat) : Prop where
  get : ∀ j, j < H.next → j ≠ b → r ≠ some j → K.get j = H.get j
  row : r' = r ∨ ∃ q, r' = some q ∧ H.next ≤ q
  next : H.next ≤ K.next
theorem Step.refl (H : Heap) (b : Nat) (r : Option Nat) : Step H H b r r := ⟨fun _ _ _ _ => rfl, .inl rfl, Nat.le_refl _⟩
theorem Step.trans {A B C : Heap} {b : Nat} {r s t : Option Nat} (h : Step A B b r s) (k : Step B C b s t) : Step A C b r t := by
  refine ⟨fun j hj hb hr => ?_, ?_, Nat.le_trans h.next k.next⟩
  · rw [k.get j (Nat.lt_of_lt_of_le hj h.next) hb, h.get j hj hb hr]
    rcases h.row with rfl | ⟨q, rfl, hq⟩
    · exact hr
    · intro e; cases e; omega
  · rcases k.row with rfl | ⟨q, rfl, hq⟩
    · exact h.row
    · exact .inr ⟨q, rfl, Nat.le_trans h.next hq⟩
theorem Step.lit (H : Heap) (b : Nat) (r : Option Nat) (cs : List Value) : Step H ((H.alloc cs).kill H.next) b r r :=
  ⟨fun j hj _ _ => by rw [get_kill, if_neg (by omega), Heap.get_alloc_lt _ _ _ hj], .inl rfl, by rw [next_kill, next_alloc]; omega⟩
theorem WrAt.lt {H : Heap} {b : Nat} {r : Option Nat} {L : List Int} (h : WrAt H b r L) : b < H.next ∧ ∀ q, r = some q → q < H.next := by
  rcases h with ⟨rfl, _, hg⟩ | ⟨q, rfl, _, hg, hq⟩
  · exact ⟨Heap.lt_of_get hg, fun q h => by cases h⟩
  · exact ⟨Heap.lt_of_get hg, fun q' h => by cases h; exact Heap.lt_of_get hq⟩
theorem WrAt.same {H K : Heap} {b : Nat} {r : Option Nat} {L : List Int} (h : WrAt H b r L) (hs : ∀ j, j < H.next → K.get j = H.get j) : WrAt K b r L := by
  have hl := h.lt
  rcases h with ⟨rfl, rfl, hg⟩ | ⟨q, rfl, hne, hg, hq⟩
  · exact .inl ⟨rfl, rfl, by rw [hs b hl.1]; exact hg⟩
  · exact .inr ⟨q, rfl, hne, by rw [hs b hl.1]; exact hg, by rw [hs q (hl.2 q rfl)]; exact hq⟩
theorem WrAt.lit {H : Heap} {b : Nat} {r : Option Nat} {L : List Int} (h : WrAt H b r L) (cs : List Value) : WrAt ((H.alloc cs).kill H.next) b r L :=
  h.same fun j hj => by rw [get_kill, if_neg (by omega), Heap.get_alloc_lt _ _ _ hj]
theorem wLay (H : Heap) (b : Nat) (r : Option Nat) (L M : List Int) (m : Int) (hw : WrAt H b r L) (hl : L.length + M.length ≤ 1000000) :
    ICalls Tryd.prog 44 [ptrTo b 0, frow 1 m (M.map (Value.int .u8))] H fun v H' => v = ptrTo b 0 ∧ ∃ r', WrAt H' b r' (L ++ M) ∧ Step H H' b r r' := by
  have hlt := hw.lt
  obtain ⟨u, hg, hb, hu⟩ : ∃ u, H.get b = some ⟨[u], true⟩ ∧ Bld 1 H 0 u (L.map (Value.int .u8)) ∧ (∀ o s l c, u ≠ .slice (some ⟨b, o, s⟩) l c) := by
    rcases hw with ⟨rfl, rfl, hg⟩ | ⟨q, rfl, hne, hg, hq⟩
    · exact ⟨_, hg, Bld.nil 1 H 0, by simp⟩
    · exact ⟨_, hg, ⟨map_sz .u8 _, .inr ⟨q, Nat.zero_le _, by simp, by rw [map_flat]; exact hq⟩⟩, fun o s l c e => by cases e; exact hne rfl⟩
  obtain ⟨v, K, e, b1, b2, b3, b4, b5⟩ := app_own (P := Tryd.prog) (t := 23) (e := 5) (sz := 1) (by_ := 1) (z := .int .u8 0) (ws := M.map (Value.int .u8)) (x := frow 1 m (M.map (Value.int .u8))) (by kernel_rfl) (by kernel_rfl) (by kernel_rfl) (by kernel_rfl) rfl hb (map_sz .u8 _) (by simp [irow_frow]) (by rw [map_flat]; exact map_one .u8 _) (Nat.zero_le _) (by simp; omega) (by simp; omega)
  have hkb := b4 b hlt.1 hu
  rw [hg] at hkb
  have hstep : ∀ v r', (r' = r ∨ ∃ q, r' = some q ∧ H.next ≤ q) → Step H (K.set b [v]) b r r' := fun v r' hr => ⟨fun j hj hb hrj => by
    rw [get_set, if_neg hb]
    refine b4 j hj fun o s l c hu => ?_
    rcases hw with ⟨rfl, rfl, hg2⟩ | ⟨q, rfl, hne, hg2, hq⟩
    · rw [hg] at hg2; cases hg2; cases hu
    · rw [hg] at hg2; cases hg2; cases hu; exact hrj rfl, hr, by rw [next_set]; exact b3⟩
  refine IBody.calls (by kernel_rfl) ?_
  rcases b1 with ⟨_, ⟨rfl, hn⟩ | ⟨q, _, rfl, hq⟩⟩
  · have hL : L = [] ∧ M = [] := by simpa using hn
    obtain ⟨rfl, rfl⟩ := hL
    have hr : r = none := by
      rcases hw with ⟨rfl, _⟩ | ⟨q, rfl, hne, hg2, hq⟩
      · rfl
      · rcases b5 with ⟨h, _, _⟩ | h
        · rw [hg] at hg2; cases hg2; cases h
        · cases h
    simp only [List.map_nil] at e
    refine IBody.of Tryd.func44 rfl (by rw [Tryd.ntmps44]; simp) ?_
    rw [Tryd.ntmps44]
    have Kp : Kept [[0,1],[0,1,6],[],[0],[4],[]] := ⟨⟩
    iterate 6 (refine Kp.s ?_; clear Kp; intro Kp; simp [go_sem, -getElem?_pos, -List.map_take, -List.map_drop, IntWalk.iteOmega, IntWalk.toNatUp, hg, e, hkb])
    exact ⟨r, .inl ⟨hr, rfl, by simp [get_set, hkb]⟩, hstep _ _ (.inl rfl)⟩
  · rw [← List.map_append, map_flat] at hq
    have hrow : (some q = r ∧ q ≠ b) ∨ q = H.next := by
      rcases b5 with ⟨h, rfl, _⟩ | h
      · rcases hw with ⟨rfl, rfl, hg2⟩ | ⟨q2, rfl, hne, hg2, hq2⟩
        · rw [hg] at hg2; cases hg2; cases h
        · rw [hg] at hg2
          simp only [Option.some.injEq, Blk.mk.injEq, List.cons.injEq, and_true] at hg2
          rw [hg2] at h
          simp only [Value.slice.injEq, Option.some.injEq, Addr.mk.injEq] at h
          exact .inl ⟨by rw [h.1.1], by rw [h.1.1]; exact hne⟩
      · simp only [Value.slice.injEq, Option.some.injEq, Addr.mk.injEq] at h
        exact .inr h.1.1
    have hqb : q ≠ b := by
      rcases hrow with ⟨_, h⟩ | h
      · exact h
      · have := hlt.1; omega
    refine IBody.of Tryd.func44 rfl (by rw [Tryd.ntmps44]; simp) ?_
    rw [Tryd.ntmps44]
    have Kp : Kept [[0,1],[0,1,6],[],[0],[4],[]] := ⟨⟩
    iterate 6 (refine Kp.s ?_; clear Kp; intro Kp; simp [go_sem, -getElem?_pos, -List.map_take, -List.map_drop, IntWalk.iteOmega, IntWalk.toNatUp, hg, e, hkb])
    refine ⟨some q, .inr ⟨q, rfl, hqb, by simp [get_set, hkb], by rw [get_set, if_neg hqb, hq]⟩, hstep _ _ ?_⟩
    rcases hrow with ⟨h, _⟩ | h
    · exact .inl h
    · exact .inr ⟨_, rfl, by omega⟩
theorem wLit (H : Heap) (b : Nat) (r : Option Nat) (L M : List Int) (hw : WrAt H b r L) (hl : L.length + M.length ≤ 1000000) (cs : List Value) (hc : cs = M.map (Value.int .u8)) (n : Nat) (hn : M.length = n) :
    ICalls Tryd.prog 44 [ptrTo b 0, .slice (some ⟨H.next, 0, some 1⟩) n 1] (H.alloc cs) fun v H' => v = ptrTo b 0 ∧ ∃ r', WrAt H' b r' (L ++ M) ∧ Step H H' b r r' := by
  subst hc hn
  refine ICalls.freeze1 H.next (.cons (.same _) (.cons (frz_lit (M.map (Value.int .u8)) (Heap.get_alloc_new _ _) (map_flat _ _) (map_sz .u8 _) (by simp) (by simp)) .nil)) ((wLay _ b r L M 0 (hw.lit _) hl).mono fun v H' ⟨h1, r', h2, h3⟩ => ⟨h1, r', h2, (Step.lit H b r _).trans h3⟩)
theorem wByte (H : Heap) (b : Nat) (r : Option Nat) (L : List Int) (x : Int) (hw : WrAt H b r L) (hl : L.length ≤ 900000) :
    ICalls Tryd.prog 22 [ptrTo b 0, .int .u8 x] H fun v H' => v = ptrTo b 0 ∧ ∃ r', WrAt H' b r' (L ++ [x]) ∧ Step H H' b r r' := by
  have c1 := wLit H b r L [x] hw (by simp; omega) _ rfl 1 rfl
  refine IBody.calls (by kernel_rfl) ?_
  refine IBody.of Tryd.func22 rfl (by rw [Tryd.ntmps22]; simp) ?_
  rw [Tryd.ntmps22]
  have Kp : Kept [[0,1],[4]] := ⟨⟩
  iterate 2 (refine Kp.s ?_; clear Kp; intro Kp; simp [go_sem, -getElem?_pos, -List.map_take, -List.map_drop, IntWalk.iteOmega, IntWalk.toNatUp])
  refine ICalls.mono (c1) ?_
  rintro v H1 ⟨rfl, h1⟩
  try simp [go_sem, -getElem?_pos, -List.map_take, -List.map_drop, IntWalk.iteOmega, IntWalk.toNatUp]
  refine IWp.one [] ?_
  simp [go_sem, -getElem?_pos, -List.map_take, -List.map_drop, IntWalk.iteOmega, IntWalk.toNatUp]
  exact h1
theorem wFlag (H : Heap) (b : Nat) (r : Option Nat) (L : List Int) (x : Bool) (hw : WrAt H b r L) (hl : L.length ≤ 900000) :
    ICalls Tryd.prog 33 [ptrTo b 0, .bool x] H fun v H' => v = ptrTo b 0 ∧ ∃ r', WrAt H' b r' (L ++ [if x then 1 else 0]) ∧ Step H H' b r r' := by
  have c1 := wLit H b r L [1] hw (by simp; omega) _ rfl 1 rfl
  have c2 := wLit H b r L [0] hw (by simp; omega) _ rfl 1 rfl
  refine IBody.calls (by kernel_rfl) ?_
  cases x with
  | true =>
    refine IBody.of Tryd.func33 rfl (by rw [Tryd.ntmps33]; simp) ?_
    rw [Tryd.ntmps33]
    have Kp : Kept [[0,1],[0,5],[],[4]] := ⟨⟩
    iterate 4 (refine Kp.s ?_; clear Kp; intro Kp; simp [go_sem, -getElem?_pos, -List.map_take, -List.map_drop, IntWalk.iteOmega, IntWalk.toNatUp])
    refine ICalls.mono (c1) ?_
    rintro v H1 ⟨rfl, h1⟩
    try simp [go_sem, -getElem?_pos, -List.map_take, -List.map_drop, IntWalk.iteOmega, IntWalk.toNatUp]
    refine IWp.one [] ?_
    simp [go_sem, -getElem?_pos, -List.map_take, -List.map_drop, IntWalk.iteOmega, IntWalk.toNatUp]
    exact h1
  | false =>
    refine IBody.of Tryd.func33 rfl (by rw [Tryd.ntmps33]; simp) ?_
    rw [Tryd.ntmps33]
    have Kp : Kept [[0,1],[0,5],[],[0],[4]] := ⟨⟩
    iterate 5 (refine Kp.s ?_; clear Kp; intro Kp; simp [go_sem, -getElem?_pos, -List.map_take, -List.map_drop, IntWalk.iteOmega, IntWalk.toNatUp])
    refine ICalls.mono (c2) ?_
    rintro v H1 ⟨rfl, h1⟩
    try simp [go_sem, -getElem?_pos, -List.map_take, -List.map_drop, IntWalk.iteOmega, IntWalk.toNatUp]
    refine IWp.one [] ?_
    simp [go_sem, -getElem?_pos, -List.map_take, -List.map_drop, IntWalk.iteOmega, IntWalk.toNatUp]
    exact h1
def i4 (n : Int) : List Int := [n / 16777216 % 256, n / 65536 % 256, n / 256 % 256, n % 256]
theorem i4_bs (n : Int) : Bs (i4 n) := fun x hx => by simp [i4] at hx; omega
theorem u8_mod (n : Int) : IntKind.u8.wrap n = n % 256 := by rw [IntKind.wrap_u8]
theorem wInt (H : Heap) (b : Nat) (r : Option Nat) (L : List Int) (x : Int) (hw : WrAt H b r L) (hl : L.length ≤ 900000) :
    ICalls Tryd.prog 25 [ptrTo b 0, .int .i64 x] H fun v H' => v = ptrTo b 0 ∧ ∃ r', WrAt H' b r' (L ++ i4 x) ∧ Step H H' b r r' := by
  have c1 := wLit H b r L (i4 x) hw (by simp [i4]; omega) _ rfl 4 rfl
  simp only [i4, List.map_cons, List.map_nil] at c1
  refine IBody.calls (by kernel_rfl) ?_
  refine IBody.of Tryd.func25 rfl (by rw [Tryd.ntmps25]; simp) ?_
  rw [Tryd.ntmps25]
  have Kp : Kept [[0,1],[4]] := ⟨⟩
  iterate 2 (refine Kp.s ?_; clear Kp; intro Kp; simp [go_sem, -getElem?_pos, -List.map_take, -List.map_drop, IntWalk.iteOmega, IntWalk.toNatUp, u8_mod, Int.fdiv_eq_ediv_of_nonneg])
  refine ICalls.mono (c1) ?_
  rintro v H1 ⟨rfl, h1⟩
  try simp [go_sem, -getElem?_pos, -List.map_take, -List.map_drop, IntWalk.iteOmega, IntWalk.toNatUp, u8_mod, Int.fdiv_eq_ediv_of_nonneg]
  refine IWp.one [] ?_
  simp [go_sem, -getElem?_pos, -List.map_take, -List.map_drop, IntWalk.iteOmega, IntWalk.toNatUp, u8_mod, Int.fdiv_eq_ediv_of_nonneg]
  exact h1
def WrV (H : Heap) (b : Nat) (L : List Int) : Prop :=
  ∃ ob, (L = [] ∧ H.get b = some ⟨[.slice none 0 0], ob⟩) ∨ ∃ q oq, H.get b = some ⟨[.slice (some ⟨q, 0, some 1⟩) L.length 1], ob⟩ ∧ H.get q = some ⟨L.map (Value.int .u8), oq⟩
theorem WrAt.wrv {H : Heap} {b : Nat} {r : Option Nat} {L : List Int} (h : WrAt H b r L) : WrV H b L := by
  rcases h with ⟨_, h1, h2⟩ | ⟨q, _, _, h1, h2⟩
  · exact ⟨true, .inl ⟨h1, h2⟩⟩
  · exact ⟨true, .inr ⟨q, true, h1, h2⟩⟩
theorem WrV.ro {H : Heap} {b : Nat} {L : List Int} (h : WrV H b L) : WrV H.ro b L := by
  obtain ⟨ob, ⟨h1, h2⟩ | ⟨q, oq, h1, h2⟩⟩ := h
  · exact ⟨false, .inl ⟨h1, by simp [Heap.ro, h2]⟩⟩
  · exact ⟨false, .inr ⟨q, false, by simp [Heap.ro, h1], by simp [Heap.ro, h2]⟩⟩
theorem wBytes_own (H : Heap) (b : Nat) (L : List Int) (hw : WrV H b L) (hl : L.length ≤ 1000000) :
    ICalls Tryd.prog 35 [ptrTo b 0] H fun v H' => Bld 1 H' H.next v (L.map (Value.int .u8)) ∧ Old H H' := by
  refine IBody.calls (by kernel_rfl) ?_
  obtain ⟨ob, ⟨rfl, h2⟩ | ⟨q, oq, h1, h2⟩⟩ := hw
  · have c1 := ICalls.as (.cons (.nil 1) .nil) (clone_own H 0 [] (by simp))
    refine IBody.of Tryd.func35 rfl (by rw [Tryd.ntmps35]; simp) ?_
    rw [Tryd.ntmps35]
    have Kp : Kept [[0],[0,4],[],[0],[2]] := ⟨⟩
    iterate 5 (refine Kp.s ?_; clear Kp; intro Kp; simp [go_sem, -getElem?_pos, -List.map_take, -List.map_drop, IntWalk.iteOmega, IntWalk.toNatUp, h2])
    refine ICalls.mono (c1) ?_
    rintro v H1 h
    try simp [go_sem, -getElem?_pos, -List.map_take, -List.map_drop, IntWalk.iteOmega, IntWalk.toNatUp, h2]
    refine IWp.one [] ?_
    simp [go_sem, -getElem?_pos, -List.map_take, -List.map_drop, IntWalk.iteOmega, IntWalk.toNatUp, h2]
    exact h
  · have c1 := clone_blk H q oq L hl h2
    refine IBody.of Tryd.func35 rfl (by rw [Tryd.ntmps35]; simp) ?_
    rw [Tryd.ntmps35]
    have Kp : Kept [[0],[0,4],[],[0],[2]] := ⟨⟩
    iterate 5 (refine Kp.s ?_; clear Kp; intro Kp; simp [go_sem, -getElem?_pos, -List.map_take, -List.map_drop, IntWalk.iteOmega, IntWalk.toNatUp, h1])
    refine ICalls.mono (c1) ?_
    rintro v H1 h
    try simp [go_sem, -getElem?_pos, -List.map_take, -List.map_drop, IntWalk.iteOmega, IntWalk.toNatUp, h1]
    refine IWp.one [] ?_
    simp [go_sem, -getElem?_pos, -List.map_take, -List.map_drop, IntWalk.iteOmega, IntWalk.toNatUp, h1]
    exact h
theorem wBytes (H : Heap) (b : Nat) (L : List Int) (hw : WrV H b L) (hl : L.length ≤ 1000000) :
    ICalls Tryd.prog 35 [ptrTo b 0] H fun v H' => v = byts L ∧ H' = H :=
  ICalls.pure ((wBytes_own H.ro b L hw.ro hl).mono fun v H' h => ⟨_, h.1.frz, by simp [go_sem], rfl⟩)
theorem refFlag (H : Heap) (x : Bool) : ICalls Tryd.prog 40 [.bool x] H fun v H' => v = .int .u8 (if x then 1 else 0) ∧ H' = H := by
  refine IBody.calls (by kernel_rfl) ?_
  cases x with
  | true =>
    refine IBody.of Tryd.func40 rfl (by rw [Tryd.ntmps40]; simp) ?_
    rw [Tryd.ntmps40]
    have Kp : Kept [[0],[3],[],[2],[]] := ⟨⟩
    iterate 5 (refine Kp.s ?_; clear Kp; intro Kp; simp [go_sem, -getElem?_pos, -List.map_take, -List.map_drop, IntWalk.iteOmega, IntWalk.toNatUp])
  | false =>
    refine IBody.of Tryd.func40 rfl (by rw [Tryd.ntmps40]; simp) ?_
    rw [Tryd.ntmps40]
    have Kp : Kept [[0],[3],[],[],[2],[]] := ⟨⟩
    iterate 6 (refine Kp.s ?_; clear Kp; intro Kp; simp [go_sem, -getElem?_pos, -List.map_take, -List.map_drop, IntWalk.iteOmega, IntWalk.toNatUp])
theorem i4_ref (n : Int) (h : -9223372036854775808 ≤ n ∧ n < 9223372036854775808) : ∃ x : Int, IntKind.u32.wrap ((IntKind.u64.wrap n).tmod 4294967296) = x ∧ 0 ≤ x ∧ x < 4294967296 ∧ [x / 16777216, x / 65536 % 256, x / 256 % 256, x % 256] = i4 n := by
  have e : IntKind.u64.wrap n = n % 18446744073709551616 := by simp [IntKind.wrap, IntKind.bits, IntKind.signed]
  refine ⟨n % 4294967296, ?_, by omega, by omega, ?_⟩
  · rw [e, Int.tmod_eq_emod_of_nonneg (by omega), IntWalk.u32_in _ (by omega)]; omega
  · simp only [i4, List.cons.injEq, and_true]; omega
theorem refInt (H : Heap) (n : Int) (hn : -9223372036854775808 ≤ n ∧ n < 9223372036854775808) : ICalls Tryd.prog 39 [.int .i64 n] H fun v H' => v = byts (i4 n) ∧ H' = H := by
  obtain ⟨x, h1, h2, h3, h4⟩ := i4_ref n hn
  refine ICalls.ans (by simp [go_sem]) fun H => IBody.calls (by kernel_rfl) ?_
  have t0 : x.tdiv 16777216 = x / 16777216 := Int.tdiv_eq_ediv_of_nonneg (by omega)
  have t1 : x.tdiv 65536 = x / 65536 := Int.tdiv_eq_ediv_of_nonneg (by omega)
  have t2 : x.tdiv 256 = x / 256 := Int.tdiv_eq_ediv_of_nonneg (by omega)
  have m1 : (x / 65536).tmod 256 = x / 65536 % 256 := Int.tmod_eq_emod_of_nonneg (by omega)
  have m2 : (x / 256).tmod 256 = x / 256 % 256 := Int.tmod_eq_emod_of_nonneg (by omega)
  have m3 : x.tmod 256 = x % 256 := Int.tmod_eq_emod_of_nonneg (by omega)
  have w0 := IntWalk.u32_in (x / 16777216) (by omega)
  have w1 := IntWalk.u32_in (x / 65536) (by omega)
  have w2 := IntWalk.u32_in (x / 256) (by omega)
  have v0 := IntWalk.u8_in (x / 16777216) (by omega)
  have v1 := IntWalk.u8_in (x / 65536 % 256) (by omega)
  have v2 := IntWalk.u8_in (x / 256 % 256) (by omega)
  have v3 := IntWalk.u8_in (x % 256) (by omega)
  refine IBody.of Tryd.func39 rfl (by rw [Tryd.ntmps39]; simp) ?_
  rw [Tryd.ntmps39]
  have Kp : Kept [[0],[3],[2],[]] := ⟨⟩
  iterate 4 (refine Kp.s ?_; clear Kp; intro Kp; simp [go_sem, -getElem?_pos, -List.map_take, -List.map_drop, IntWalk.iteOmega, IntWalk.toNatUp, h1, t0, t1, t2, m1, m2, m3, w0, w1, w2, v0, v1, v2, v3])
  rw [← h4]
  exact frz_lit ([x / 16777216, x / 65536 % 256, x / 256 % 256, x % 256].map (Value.int .u8)) (by simp [go_sem]) rfl (map_sz .u8 _) rfl (by simp)
end Go.Proofs.YtoecebibhcadoaaDoor.I
namespace Go.Proofs.YtoecebibhcadoaaDoor.I
open Go Go.RowKit
set_option linter.unusedVariables false
set_option linter.unusedSimpArgs false
def flagB (b : Bool) : Int := if b = true then 1 else 0
def sigB (s : Sig) : List Int := i4 s.lo ++ i4 s.hi
def stageB (s : Stage) : List Int := i4 s.wait ++ [s.prio]
def ruleY (r : Rule) : List Int := [r.kind, r.sg % 256] ++ i4 r.lim ++ i4 r.back ++ i4 r.delay ++ i4 r.span ++ [r.prio, flagB r.latch] ++ [(r.stages.length : Int) % 256] ++ r.stages.flatMap stageB
def slotB (l : List Int) : List Int := [(l.length : Int) % 256] ++ l.map fun x => x % 256
def cfgB (c : Config) : List Int := [72, 66, 49] ++ ([(c.sigs.length : Int) % 256] ++ c.sigs.flatMap sigB) ++ ([(c.rules.length : Int) % 256] ++ c.rules.flatMap ruleY) ++ ([(c.table.length : Int) % 256] ++ c.table.flatMap slotB) ++
  [c.b0 % 256, c.b1 % 256, c.b2 % 256] ++ [c.drain % 256] ++ i4 c.pause ++ i4 c.off ++ [flagB c.brk] ++ i4 c.log
def listP {α : Type} (one : Rd → α × Rd) : Nat → Rd → List α × Rd
  | 0, s => ([], s)
  | n + 1, s => if s.e = 0 then ((one s).1 :: (listP one n (one s).2).1, (listP one n (one s).2).2) else ([], s)
def manyP {α : Type} (one : Rd → α × Rd) (s : Rd) : List α × Rd := listP one s.byte.1.toNat s.byte.2
def sigP (s : Rd) : Sig × Rd := (⟨s.int.1, s.int.2.int.1⟩, s.int.2.int.2)
def stageP (s : Rd) : Stage × Rd := (⟨s.int.1, s.int.2.byte.1⟩, s.int.2.byte.2)
def slotP (s : Rd) : List Int × Rd := manyP Rd.byte s
structure Head where
  kind : Int
  sg : Int
  lim : Int
  back : Int
  delay : Int
  span : Int
  prio : Int
  latch : Bool
def headP (s : Rd) : Head × Rd :=
  let a := s.byte; let b := a.2.byte; let c := b.2.int; let d := c.2.int; let e := d.2.int; let f := e.2.int; let g := f.2.byte; let h := g.2.flag
  (⟨a.1, b.1, c.1, d.1, e.1, f.1, g.1, h.1⟩, h.2)
def ruleP (s : Rd) : Rule × Rd :=
  let h := headP s; let l := manyP stageP h.2
  (⟨h.1.kind, h.1.sg, h.1.lim, h.1.back, h.1.delay, h.1.span, h.1.prio, h.1.latch, l.1⟩, l.2)
def cfgP (s : Rd) : Config × Rd :=
  let a := manyP sigP s; let b := manyP ruleP a.2; let c := manyP slotP b.2; let x := c.2.byte; let y := x.2.byte; let z := y.2.byte; let d := z.2.byte; let p := d.2.int; let o := p.2.int; let k := o.2.flag; let l := k.2.int
  (⟨a.1, b.1, c.1, x.1, y.1, z.1, d.1, p.1, o.1, k.1, l.1⟩, l.2)
theorem listP_step {α : Type} (one : Rd → α × Rd) (n : Nat) (s : Rd) (h : s.e = 0) : listP one (n + 1) s = ((one s).1 :: (listP one n (one s).2).1, (listP one n (one s).2).2) := by
  rw [listP, if_pos h]
theorem listP_stop {α : Type} (one : Rd → α × Rd) (n : Nat) (s : Rd) (h : ¬ s.e = 0) : listP one n s = ([], s) := by
  cases n with
  | zero => rfl
  | succ n => rw [listP, if_neg h]
theorem listP_ok {α : Type} (one : Rd → α × Rd) (h1 : ∀ s, s.ok → (one s).2.ok) : ∀ (n : Nat) (s : Rd), s.ok → (listP one n s).2.ok
  | 0, s, h => h
  | n + 1, s, h => by
    by_cases he : s.e = 0
    · rw [listP_step one n s he]; exact listP_ok one h1 n _ (h1 s h)
    · rw [listP_stop one _ s he]; exact h
theorem manyP_ok {α : Type} (one : Rd → α × Rd) (h1 : ∀ s, s.ok → (one s).2.ok) (s : Rd) (h : s.ok) : (manyP one s).2.ok := listP_ok one h1 _ _ (Rd.byte_ok h)
theorem sigP_ok (s : Rd) (h : s.ok) : (sigP s).2.ok := Rd.int_ok (Rd.int_ok h)
theorem stageP_ok (s : Rd) (h : s.ok) : (stageP s).2.ok := Rd.byte_ok (Rd.int_ok h)
theorem slotP_ok (s : Rd) (h : s.ok) : (slotP s).2.ok := manyP_ok _ (fun _ h => Rd.byte_ok h) s h
theorem headP_ok (s : Rd) (h : s.ok) : (headP s).2.ok := Rd.flag_ok (Rd.byte_ok (Rd.int_ok (Rd.int_ok (Rd.int_ok (Rd.int_ok (Rd.byte_ok (Rd.byte_ok h)))))))
theorem ruleP_ok (s : Rd) (h : s.ok) : (ruleP s).2.ok := manyP_ok _ stageP_ok _ (headP_ok s h)
theorem cfgP_ok (s : Rd) (h : s.ok) : (cfgP s).2.ok :=
  Rd.int_ok (Rd.flag_ok (Rd.int_ok (Rd.int_ok (Rd.byte_ok (Rd.byte_ok (Rd.byte_ok (Rd.byte_ok (manyP_ok _ slotP_ok _ (manyP_ok _ ruleP_ok _ (manyP_ok _ sigP_ok s h))))))))))
structure Shift (k : Nat) (s t : Rd) : Prop where
  l : s.L = t.L.drop k
  pos : t.pos = s.pos + k
  e : t.e = s.e
  k : k ≤ t.L.length
theorem Shift.ready {k : Nat} {s t : Rd} (h : Shift k s t) (n : Nat) : Shift k (s.ready n) (t.ready n) := by
  unfold Rd.ready
  have hl : s.L.length = t.L.length - k := by rw [h.l]; simp
  have := h.pos; have := h.k; have := h.e
  by_cases c : s.e = 0 ∧ s.L.length < s.pos + n
  · rw [if_pos c, if_pos (by omega)]; exact ⟨h.l, h.pos, rfl, h.k⟩
  · rw [if_neg c, if_neg (by omega)]; exact h
theorem Shift.at_ {k : Nat} {s t : Rd} (h : Shift k s t) (i : Nat) : t.at_ i = s.at_ i := by
  unfold Rd.at_
  rw [h.l, h.pos, List.getD_eq_getElem?_getD, List.getD_eq_getElem?_getD, List.getElem?_drop]
  rw [show k + (s.pos + i) = s.pos + k + i by omega]
theorem Shift.move {k : Nat} {s t : Rd} (h : Shift k s t) (n : Nat) : Shift k { s with pos := s.pos + n } { t with pos := t.pos + n } := ⟨h.l, by have := h.pos; show t.pos + n = s.pos + n + k; omega, h.e, h.k⟩
theorem Shift.byte {k : Nat} {s t : Rd} (h : Shift k s t) : t.byte.1 = s.byte.1 ∧ Shift k s.byte.2 t.byte.2 := by
  have hr := h.ready 1
  unfold Rd.byte
  rw [hr.e]
  by_cases c : (s.ready 1).e = 0
  · rw [if_pos c, if_pos c]; exact ⟨h.at_ 0, h.move 1⟩
  · rw [if_neg c, if_neg c]; exact ⟨rfl, hr⟩
theorem Shift.int {k : Nat} {s t : Rd} (h : Shift k s t) : t.int.1 = s.int.1 ∧ Shift k s.int.2 t.int.2 := by
  have hr := h.ready 4
  unfold Rd.int
  rw [hr.e]
  by_cases c : (s.ready 4).e = 0
  · rw [if_pos c, if_pos c]; exact ⟨by simp only [h.at_], h.move 4⟩
  · rw [if_neg c, if_neg c]; exact ⟨rfl, hr⟩
theorem Shift.flag {k : Nat} {s t : Rd} (h : Shift k s t) : t.flag.1 = s.flag.1 ∧ Shift k s.flag.2 t.flag.2 := by
  have hr := h.ready 1
  unfold Rd.flag
  rw [hr.e, h.at_ 0]
  by_cases c : (s.ready 1).e = 0
  · rw [if_pos c, if_pos c]
    by_cases c2 : 1 < s.at_ 0
    · rw [if_pos c2, if_pos c2]; exact ⟨rfl, ⟨h.l, h.pos, rfl, h.k⟩⟩
    · rw [if_neg c2, if_neg c2]; exact ⟨rfl, h.move 1⟩
  · rw [if_neg c, if_neg c]; exact ⟨rfl, hr⟩
def Shifts {α : Type} (one : Rd → α × Rd) : Prop := ∀ k s t, Shift k s t → (one t).1 = (one s).1 ∧ Shift k (one s).2 (one t).2
theorem listP_shift {α : Type} {one : Rd → α × Rd} (ho : Shifts one) : ∀ n, Shifts (listP one n)
  | 0, k, s, t, h => ⟨rfl, h⟩
  | n + 1, k, s, t, h => by
    by_cases c : s.e = 0
    · have c' : t.e = 0 := by rw [h.e]; exact c
      obtain ⟨h1, h2⟩ := ho k s t h
      obtain ⟨h3, h4⟩ := listP_shift ho n k _ _ h2
      rw [listP_step one n s c, listP_step one n t c']
      exact ⟨by rw [h1, h3], h4⟩
    · have c' : ¬ t.e = 0 := by rw [h.e]; exact c
      rw [listP_stop one _ s c, listP_stop one _ t c']
      exact ⟨rfl, h⟩
theorem byte_shift : Shifts Rd.byte := fun k s t h => h.byte
theorem manyP_shift {α : Type} {one : Rd → α × Rd} (ho : Shifts one) : Shifts (manyP one) := fun k s t h => by
  obtain ⟨h1, h2⟩ := h.byte
  unfold manyP
  rw [h1]
  exact listP_shift ho _ k _ _ h2
theorem sigP_shift : Shifts sigP := fun k s t h => by
  obtain ⟨h1, h2⟩ := h.int
  obtain ⟨h3, h4⟩ := h2.int
  exact ⟨by unfold sigP; rw [h1, h3], h4⟩
theorem stageP_shift : Shifts stageP := fun k s t h => by
  obtain ⟨h1, h2⟩ := h.int
  obtain ⟨h3, h4⟩ := h2.byte
  exact ⟨by unfold stageP; rw [h1, h3], h4⟩
theorem slotP_shift : Shifts slotP := manyP_shift byte_shift
theorem headP_shift : Shifts headP := fun k s t h => by
  obtain ⟨a1, a2⟩ := h.byte
  obtain ⟨b1, b2⟩ := a2.byte
  obtain ⟨c1, c2⟩ := b2.int
  obtain ⟨d1, d2⟩ := c2.int
  obtain ⟨e1, e2⟩ := d2.int
  obtain ⟨f1, f2⟩ := e2.int
  obtain ⟨g1, g2⟩ := f2.byte
  obtain ⟨h1, h2⟩ := g2.flag
  exact ⟨by unfold headP; simp only [a1, b1, c1, d1, e1, f1, g1, h1], h2⟩
theorem ruleP_shift : Shifts ruleP := fun k s t h => by
  obtain ⟨h1, h2⟩ := headP_shift k s t h
  obtain ⟨h3, h4⟩ := manyP_shift stageP_shift k _ _ h2
  exact ⟨by unfold ruleP; simp only [h1, h3], h4⟩
theorem cfgP_shift : Shifts cfgP := fun k s t h => by
  obtain ⟨a1, a2⟩ := manyP_shift sigP_shift k s t h
  obtain ⟨b1, b2⟩ := manyP_shift ruleP_shift k _ _ a2
  obtain ⟨c1, c2⟩ := manyP_shift slotP_shift k _ _ b2
  obtain ⟨x1, x2⟩ := c2.byte
  obtain ⟨y1, y2⟩ := x2.byte
  obtain ⟨z1, z2⟩ := y2.byte
  obtain ⟨d1, d2⟩ := z2.byte
  obtain ⟨p1, p2⟩ := d2.int
  obtain ⟨o1, o2⟩ := p2.int
  obtain ⟨k1, k2⟩ := o2.flag
  obtain ⟨l1, l2⟩ := k2.int
  exact ⟨by unfold cfgP; simp only [a1, b1, c1, x1, y1, z1, d1, p1, o1, k1, l1], l2⟩
theorem Shift.ending {k : Nat} {s t : Rd} (h : Shift k s t) (hs : s.ok) : (t.ending.2 = s.ending.2) ∧ (¬ s.ending.2 = 0 → t.ending.1 = s.ending.1 + k) := by
  have hl : s.L.length = t.L.length - k := by rw [h.l]; simp
  have := h.pos; have := h.k; have := h.e; have := hs.1
  have hleft : t.left = s.left := by
    unfold Rd.left
    rw [h.e, h.pos]
    split
    · omega
    · rfl
  unfold Rd.ending Rd.fault
  rw [hleft, h.e, h.pos]
  constructor
  · split
    · rfl
    · split <;> rfl
  · split
    · intro _; simp
    · split
      · intro h; exact absurd rfl h
      · intro _; simp
end Go.Proofs.YtoecebibhcadoaaDoor.I
namespace Go.Proofs.YtoecebibhcadoaaDoor.I
open Go Go.RowKit
set_option linter.unusedVariables false
set_option linter.unusedSimpArgs false
theorem entriesS_snoc (T : List (List Int)) (i : Nat) (h : i < T.length) : entriesS (T.take (i + 1)) = entriesS (T.take i) + T[i].length := by
  unfold entriesS; rw [List.take_succ_eq_append_getElem h, List.map_append, List.sum_append]; rfl
theorem refEntries (H : Heap) (c : Config) (hl0 : c.table.length ≤ 1000000) (hl : ∀ n ≤ c.table.length, (entriesS (c.table.take n) : Int) < 9223372036854775808) :
    ICalls Tryd.prog 20 [c.val] H fun v H' => v = .int .i64 (entriesS c.table) ∧ H' = H := by
  refine ICalls.ans (by simp [go_sem]) fun H => IBody.calls (by kernel_rfl) ?_
  refine IBody.of Tryd.func20 rfl (by rw [Tryd.ntmps20]; simp) ?_
  rw [Tryd.ntmps20]
  have Kp : Kept [[1],[1,3],[1,3,4]] := ⟨⟩
  iterate 3 (refine Kp.s ?_; clear Kp; intro Kp; simp [go_sem, -getElem?_pos, -List.map_take, -List.map_drop, IntWalk.iteOmega, IntWalk.toNatUp, Config.val, Config.cells])
  refine IWp.block ?_
  have hg := Heap.get_alloc_new H c.cells
  simp only [Config.cells] at hg
  generalize H.next = b at *
  generalize H.alloc _ = H1 at *
  refine IWp.loop (fun j e K => ∃ i : Nat, j = c.table.length - i ∧ i ≤ c.table.length ∧ K = H1 ∧ e = [(1, ptrTo b 0), (3, .int .i64 (entriesS (c.table.take i))), (4, .int .i64 (i : Int))]) c.table.length ⟨0, rfl, Nat.zero_le _, rfl, by simp [go_sem, entriesS]⟩ ?_
  rintro j e K ⟨i, rfl, hi, rfl, rfl⟩
  by_cases hlt : i < c.table.length
  · have g : (c.table.map (ints .i64))[i]? = some (ints .i64 c.table[i]) := by simp [hlt]
    have hs := entriesS_snoc c.table i hlt
    have hb := hl (i + 1) (by omega)
    have w1 := IntWalk.i64_in ((i : Int) + 1) (by omega)
    have w2 := IntWalk.i64_in ((entriesS (c.table.take i) : Int) + c.table[i].length) (by omega)
    generalize c.table[i] = x at *
    have Kp : Kept [[1,3,4,9],[],[1,3,4],[1,3,4],[1,3,4]] := ⟨⟩
    iterate 5 (refine Kp.s ?_; clear Kp; intro Kp; simp [go_sem, -getElem?_pos, -List.map_take, -List.map_drop, IntWalk.iteOmega, IntWalk.toNatUp, hg, g, hlt, w1, w2])
    exact ⟨c.table.length - (i + 1), by omega, i + 1, rfl, by omega, by rw [hs]; simp, by omega⟩
  · have ht : c.table.take i = c.table := List.take_of_length_le (by omega)
    rw [ht]
    have Kp : Kept [[1,3,4,9],[],[3],[2],[]] := ⟨⟩
    iterate 5 (refine Kp.s ?_; clear Kp; intro Kp; simp [go_sem, -getElem?_pos, -List.map_take, -List.map_drop, IntWalk.iteOmega, IntWalk.toNatUp, hg, hlt])
theorem refStands (H : Heap) (c : Config) (n : Int) (hl : c.table.length ≤ 1000000) (hll : ∀ x ∈ c.table, x.length ≤ 1000000) :
    ICalls Tryd.prog 21 [c.val, .int .i64 n] H fun v H' => v = .bool (standsS c.table n) ∧ H' = H := by
  refine ICalls.ans (by simp [go_sem]) fun H => IBody.calls (by kernel_rfl) ?_
  refine IBody.of Tryd.func21 rfl (by rw [Tryd.ntmps21]; simp) ?_
  rw [Tryd.ntmps21]
  have Kp : Kept [[1,2],[1,2,5]] := ⟨⟩
  iterate 2 (refine Kp.s ?_; clear Kp; intro Kp; simp [go_sem, -getElem?_pos, -List.map_take, -List.map_drop, IntWalk.iteOmega, IntWalk.toNatUp, Config.val, Config.cells])
  refine IWp.block ?_
  have hg := Heap.get_alloc_new H c.cells
  simp only [Config.cells] at hg
  generalize H.next = b at *
  generalize H.alloc _ = H1 at *
  refine IWp.loop (fun j e K => ∃ i : Nat, j = c.table.length - i ∧ i ≤ c.table.length ∧ K = H1 ∧ e = [(1, .int .i64 n), (2, ptrTo b 0), (5, .int .i64 (i : Int))] ∧ standsS (c.table.take i) n = false) c.table.length ⟨0, rfl, Nat.zero_le _, rfl, by simp [go_sem], by simp [standsS]⟩ ?_
  rintro j e K ⟨i, rfl, hi, rfl, rfl, hpre⟩
  by_cases hlt : i < c.table.length
  · have g : (c.table.map (ints .i64))[i]? = some (ints .i64 c.table[i]) := by simp [hlt]
    have hm := List.getElem_mem hlt
    have hx := hll _ hm
    have hstep : standsS (c.table.take (i + 1)) n = (standsS (c.table.take i) n || decide (n ∈ c.table[i])) := by
      unfold standsS; rw [List.take_succ_eq_append_getElem hlt, List.any_append]; simp
    have hyes : n ∈ c.table[i] → standsS c.table n = true := fun h => by
      unfold standsS; rw [List.any_eq_true]; exact ⟨_, hm, by simpa using h⟩
    generalize c.table[i] = x at *
    have w1 := IntWalk.i64_in ((i : Int) + 1) (by omega)
    have Kp : Kept [[1,2,5,11],[],[1,2,5],[1,2,5,6]] := ⟨⟩
    iterate 4 (refine Kp.s ?_; clear Kp; intro Kp; simp [go_sem, -getElem?_pos, -List.map_take, -List.map_drop, IntWalk.iteOmega, IntWalk.toNatUp, hg, g, hlt])
    refine IWp.block ?_
    refine IWp.loop (fun j e K2 => ∃ k : Nat, j = x.length - k ∧ k ≤ x.length ∧ K2 = K ∧ e = [(1, .int .i64 n), (2, ptrTo b 0), (5, .int .i64 (i : Int)), (6, .int .i64 (k : Int))] ∧ ¬ n ∈ x.take k) x.length ⟨0, rfl, Nat.zero_le _, rfl, by simp [go_sem], by simp⟩ ?_
    rintro j e K ⟨k, rfl, hk, rfl, rfl, hpk⟩
    by_cases hlk : k < x.length
    · have gk : x[k]? = some x[k] := List.getElem?_eq_getElem hlk
      have hmk := List.getElem_mem hlk
      have hsk : n ∈ x.take (k + 1) ↔ n ∈ x.take k ∨ n = x[k] := by rw [List.take_succ_eq_append_getElem hlk, List.mem_append, List.mem_singleton]
      generalize x[k] = y at *
      have w2 := IntWalk.i64_in ((k : Int) + 1) (by omega)
      by_cases he : y = n
      · subst he
        rw [hyes hmk]
        have Kp : Kept [[1,2,5,6,21],[],[1,2,5,6],[1,2,5,6,33],[],[4],[]] := ⟨⟩
        iterate 7 (refine Kp.s ?_; clear Kp; intro Kp; simp [go_sem, -getElem?_pos, -List.map_take, -List.map_drop, IntWalk.iteOmega, IntWalk.toNatUp, hg, g, gk, hlt, hlk])
      · skip
        have Kp : Kept [[1,2,5,6,21],[],[1,2,5,6],[1,2,5,6,33],[],[1,2,5,6],[1,2,5,6]] := ⟨⟩
        iterate 7 (refine Kp.s ?_; clear Kp; intro Kp; simp [go_sem, -getElem?_pos, -List.map_take, -List.map_drop, IntWalk.iteOmega, IntWalk.toNatUp, hg, g, gk, hlt, hlk, he, w2])
        exact ⟨x.length - (k + 1), by omega, k + 1, rfl, by omega, by omega, by rw [hsk]; simp [hpk]; exact fun e => he e.symm⟩
    · rw [List.take_of_length_le (by omega)] at hpk
      have Kp : Kept [[1,2,5,6,21],[],[1,2,5],[1,2,5]] := ⟨⟩
      iterate 4 (refine Kp.s ?_; clear Kp; intro Kp; simp [go_sem, -getElem?_pos, -List.map_take, -List.map_drop, IntWalk.iteOmega, IntWalk.toNatUp, hg, g, hlt, hlk, w1])
      exact ⟨c.table.length - (i + 1), by omega, i + 1, rfl, by omega, by omega, by rw [hstep, hpre]; simp [hpk]⟩
  · rw [List.take_of_length_le (by omega)] at hpre
    rw [hpre]
    have Kp : Kept [[1,2,5,11],[],[],[4],[]] := ⟨⟩
    iterate 5 (refine Kp.s ?_; clear Kp; intro Kp; simp [go_sem, -getElem?_pos, -List.map_take, -List.map_drop, IntWalk.iteOmega, IntWalk.toNatUp, hg, hlt])
end Go.Proofs.YtoecebibhcadoaaDoor.I
namespace Go.Proofs.YtoecebibhcadoaaDoor.I
open Go Go.RowKit
set_option linter.unusedVariables false
set_option linter.unusedSimpArgs false
def blkOf : Value → Nat → Bool
  | .slice (some a) _ _ => fun j => j == a.block
  | _ => fun _ => false
theorem Bld.frzV {sz : Nat} {H : Heap} {n : Nat} {v : Value} {us : List Value} (h : Bld sz H n v us) : Frz H (blkOf v) v (frow sz 0 us) := by
  rcases h with ⟨h0, ⟨rfl, rfl⟩ | ⟨b, _, rfl, h3⟩⟩
  · exact .nil sz
  · exact frz_lit us h3 rfl h0 rfl (by simp [blkOf])
theorem FrzH.one {H : Heap} {S : Nat → Bool} {b : Nat} {cs cs' : List Value} (hS : S b = false) (hg : H.get b = some ⟨cs, true⟩) (hf : FrzL H S cs cs') :
    ∃ K, FrzH H S K ∧ K.get b = some ⟨cs', true⟩ ∧ (∀ j, j ≠ b → S j = false → K.get j = H.get j) ∧ K.next = H.next := by
  have ho : (H.only fun j => !S j).get b = some ⟨cs, true⟩ := by
    show (if (!S b) = true then H.get b else none) = _
    rw [hS]; exact hg
  refine ⟨(H.only fun j => !S j).set b cs', ⟨rfl, fun j k hk => ?_, .inl rfl⟩, by rw [get_set, if_pos rfl, ho]; rfl, fun j hj hSj => ?_, rfl⟩
  · rw [get_set] at hk
    by_cases hj : j = b
    · subst hj
      rw [if_pos rfl, ho] at hk
      cases hk
      exact ⟨hS, _, hg, rfl, hf⟩
    · rw [if_neg hj] at hk
      change (if (!S j) = true then H.get j else none) = some k at hk
      split at hk
      · rename_i h
        exact ⟨by simpa using h, k, hk, rfl, FrzL.same _⟩
      · cases hk
  · rw [get_set, if_neg hj]
    show (if (!S j) = true then H.get j else none) = _
    rw [hSj]; rfl
def confZ : List Value := [.slice none 0 0, .slice none 0 0, .slice none 0 0, .int .i64 0, .int .i64 0, .int .i64 0, .int .i64 0, .int .i64 0, .int .i64 0, .bool false, .int .i64 0]
def confR (rv : Value) : List Value := [frow 2 0 (sigsS.map Sig.val), rv, .slice none 0 0, .int .i64 0, .int .i64 0, .int .i64 0, .int .i64 0, .int .i64 0, .int .i64 0, .bool false, .int .i64 0]
def confT (RS : List Rule) (tv : Value) : List Value := [frow 2 0 (sigsS.map Sig.val), frow 9 0 (RS.map Rule.val), tv, .int .i64 0, .int .i64 0, .int .i64 0, .int .i64 0, .int .i64 0, .int .i64 0, .bool false, .int .i64 0]
def TabAt (K : Heap) (n : Nat) (tv lv : Value) (T : List (List Int)) (l : List Int) : Prop :=
  ∃ tb, n ≤ tb ∧ tv = .slice (some ⟨tb, 0, some 1⟩) (T.length + 1) 1 ∧ K.get tb = some ⟨T.map (ints .i64) ++ [lv], true⟩ ∧ Bld 1 K n lv (l.map (Value.int .i64)) ∧ blkOf lv tb = false
theorem rows_flatI (T : List (List Int)) : ((T.map (ints .i64)).flatMap fun u => u.cells.toList) = T.map (ints .i64) := by
  induction T with
  | nil => rfl
  | cons a T ih => rw [List.map_cons, List.flatMap_cons, ih]; rfl
theorem frzE_tab {K : Heap} {S : Nat → Bool} {lv : Value} {l : List Int} (h : Frz K S lv (ints .i64 l)) : ∀ T : List (List Int), FrzE K S 1 (T.map (ints .i64) ++ [lv]) ((T ++ [l]).map (ints .i64))
  | [] => FrzE.cons (l := [lv]) (cs := []) rfl (.cons h .nil) .nil
  | t :: T => FrzE.cons (l := [ints .i64 t]) rfl (.cons (.same _) .nil) (frzE_tab h T)
theorem TabAt.frz {K : Heap} {n : Nat} {tv lv : Value} {T : List (List Int)} {l : List Int} (h : TabAt K n tv lv T l) : Frz K (fun _ => true) tv (frow 1 0 ((T ++ [l]).map (ints .i64))) := by
  obtain ⟨tb, _, rfl, h3, h4, _⟩ := h
  have := Frz.row (H := K) (S := fun _ => true) (b := tb) (o := 0) (sz := 1) (c := 1) (us := (T ++ [l]).map (ints .i64)) h3 rfl (by rw [List.drop_zero]; exact frzE_tab h4.frz T)
  rw [List.length_map, List.length_append] at this; exact this
theorem lastAdd_app (A : List (List Int)) (l : List Int) (i : Int) : lastAdd (A ++ [l]) i = A ++ [if standsS (A ++ [l]) i = true then l else l ++ [i]] := by
  unfold lastAdd
  split
  · rfl
  · have e1 : (A ++ [l]).length - 1 = A.length := by simp
    rw [e1]
    have e2 : (A ++ [l]).getD A.length [] = l := by simp [List.getD_eq_getElem?_getD]
    rw [e2, List.set_append_right _ _ (Nat.le_refl _)]
    simp
theorem slotF_len (slots : List Int) (R n : Nat) : ∀ (f k : Nat) (l : List Int), (slotF slots R n f k l).length ≤ l.length + f
  | 0, _, l => Nat.le_refl _
  | f + 1, k, l => by
    rw [slotF]
    split
    · have := slotF_len slots R n f (k + n) (fallS R l (slots.getD k 0))
      have h2 : (fallS R l (slots.getD k 0)).length ≤ l.length + 1 := by unfold fallS; split <;> simp
      omega
    · omega
theorem splice_one' (cs : List Value) (a : Nat) (v : Value) (h : a < cs.length) : splice cs a [v] = cs.set a v := by
  unfold splice
  rw [List.set_eq_take_append_cons_drop, if_pos h]; simp
theorem Bld.frzW {sz : Nat} {H : Heap} {n : Nat} {v : Value} {us : List Value} (h : Bld sz H n v us) {S : Nat → Bool} (hS : ∀ b, n ≤ b → S b = true) : Frz H S v (frow sz 0 us) := by
  rcases h.2 with ⟨rfl, rfl⟩ | ⟨b, h1, rfl, h3⟩
  · exact .nil sz
  · exact frz_lit us h3 rfl h.1 rfl (hS b h1)
theorem entriesS_le (k : Nat) : ∀ T : List (List Int), (∀ x ∈ T, x.length ≤ k) → entriesS T ≤ k * T.length
  | [], _ => by simp [entriesS]
  | t :: T, h => by
    have h1 := entriesS_le k T fun x hx => h x (by simp [hx])
    have h2 := h t (by simp)
    unfold entriesS at *
    rw [List.map_cons, List.sum_cons, List.length_cons, Nat.mul_succ]; omega
def lineAt (d : Draft) (i : Nat) : Line := d.rules.getD i lineZ
theorem rulesS_len (d : Draft) : (rulesS d).length = if d.rules = [] then 1 else min 8 d.rules.length := by
  unfold rulesS
  split
  · rfl
  · simp
theorem rulesS_at (d : Draft) (i : Nat) (h : i < (rulesS d).length) : (rulesS d)[i]? = some (ruleS (lineAt d i)) := by
  rw [rulesS_len] at h
  unfold rulesS lineAt
  split
  · rename_i e
    rw [if_pos e] at h
    have : i = 0 := by omega
    subst this
    simp [e]
  · rename_i e
    rw [if_neg e] at h
    have hi : i < d.rules.length := by omega
    have h8 : i < 8 := by omega
    simp [List.getElem?_take, h8, hi]
def prioA (p : Int) (l : List Int) : Int := l.foldl (fun p x => min (p + x % 2) 3) p
theorem stagesS_snoc (p : Int) (l : List Int) (x : Int) : stagesS p (l ++ [x]) = stagesS p l ++ [⟨1 + x / 2 % 12, min (prioA p l + x % 2) 3⟩] := by
  induction l generalizing p with
  | nil => rfl
  | cons y l ih => rw [List.cons_append]; simp only [stagesS, ih, prioA, List.foldl_cons, List.cons_append]
theorem prioA_snoc (p : Int) (l : List Int) (x : Int) : prioA p (l ++ [x]) = min (prioA p l + x % 2) 3 := by simp [prioA, List.foldl_append]
theorem stagesS_len (p : Int) (l : List Int) : (stagesS p l).length = l.length := by
  induction l generalizing p with
  | nil => rfl
  | cons y l ih => simp [stagesS, ih]
theorem prioA_in (p : Int) (h : 1 ≤ p ∧ p ≤ 3) (l : List Int) : 1 ≤ prioA p l ∧ prioA p l ≤ 3 := by
  induction l generalizing p with
  | nil => exact h
  | cons y l ih => exact ih (min (p + y % 2) 3) (by omega)
theorem ruleS_0 (x : Line) (h : x.kind % 6 = 0) : (ruleS x).lim = x.lim ∧ (ruleS x).back = x.lim - x.back % 20 ∧ (ruleS x).span = 0 := by simp [ruleS, h]
theorem ruleS_1 (x : Line) (h : x.kind % 6 = 1) : (ruleS x).lim = x.lim ∧ (ruleS x).back = x.lim + x.back % 20 ∧ (ruleS x).span = 0 := by simp [ruleS, h]
theorem ruleS_2 (x : Line) (h : x.kind % 6 = 2) : (ruleS x).lim = 1 + x.lim % 60 ∧ (ruleS x).back = x.back % (1 + x.lim % 60 + 1) ∧ (ruleS x).span = 1 + x.span % 12 := by simp [ruleS, h]
theorem ruleS_3 (x : Line) (h : x.kind % 6 = 3) : (ruleS x).lim = 1 + x.lim % 60 ∧ (ruleS x).back = x.back % (1 + x.lim % 60 + 1) ∧ (ruleS x).span = 1 + x.span % 12 := by simp [ruleS, h]
theorem ruleS_4 (x : Line) (h : x.kind % 6 = 4) : (ruleS x).lim = 0 ∧ (ruleS x).back = 0 ∧ (ruleS x).span = 1 + x.span % 12 := by simp [ruleS, h]
theorem ruleS_5 (x : Line) (h : x.kind % 6 = 5) : (ruleS x).lim = 0 ∧ (ruleS x).back = 0 ∧ (ruleS x).span = 0 := by simp [ruleS, h]
set_option maxRecDepth 8000 in
set_option maxHeartbeats 4000000 in
theorem make (H : Heap) (d : Draft) (hw : d.wf) :
    ICalls Tryd.prog 11 [d.val] H fun v H' => v = (makeS d).val ∧ H' = H := by
  refine ICalls.ans (by rw [Config.cl_val]; trivial) fun H => IBody.calls (by kernel_rfl) ?_
  have w1 := IntWalk.i64_in (-100) (by omega)
  have hRl := rulesS_len d
  refine IBody.of Tryd.func11 rfl (by rw [Tryd.ntmps11]; simp) ?_
  rw [Tryd.ntmps11]
  have Kp : Kept [[1,2],[1,2,3]] := ⟨⟩
  iterate 2 (refine Kp.s ?_; clear Kp; intro Kp; simp [go_sem, -getElem?_pos, -List.map_take, -List.map_drop, IntWalk.iteOmega, IntWalk.toNatUp, Draft.val, Draft.cells])
  obtain ⟨H4, hH4⟩ : ∃ H4, H4 = (((H.alloc d.cells).alloc confZ).alloc (sigsS.flatMap Sig.cells)).alloc (.slice (some ⟨H.next + 1 + 1, 0, some 2⟩) 3 1 :: (confR (.slice none 0 0)).tail) := ⟨_, rfl⟩
  have hn4 : H4.next = H.next + 4 := by rw [hH4]; rfl
  have g1 : H4.get H.next = some ⟨d.cells, true⟩ := by rw [hH4]; simp [get_alloc, next_alloc, show ∀ n : Nat, ¬ n = n + 1 + 1 + 1 by omega, show ∀ n : Nat, ¬ n = n + 1 + 1 by omega]
  have g2 : H4.get (H.next + 1) = some ⟨confZ, true⟩ := by rw [hH4]; simp [get_alloc, next_alloc]
  have gs : H4.get (H.next + 1 + 1) = some ⟨sigsS.flatMap Sig.cells, true⟩ := by rw [hH4]; simp [get_alloc, next_alloc]
  have g3 : H4.get (H.next + 1 + 1 + 1) = some ⟨.slice (some ⟨H.next + 1 + 1, 0, some 2⟩) 3 1 :: (confR (.slice none 0 0)).tail, true⟩ := by rw [hH4]; simp [get_alloc, next_alloc]
  simp only [sigsS, Sig.cells, List.flatMap_cons, List.flatMap_nil, List.cons_append, List.nil_append, confZ, confR, List.tail_cons, Draft.cells] at hH4
  rw [← hH4]
  clear hH4
  generalize hb1 : H.next = b1 at *
  generalize hb2 : b1 + 1 = b2 at *
  generalize hbs : b2 + 1 = bs at *
  generalize hb3 : bs + 1 = b3 at *
  obtain ⟨K0, hf0, k3, ko, kn⟩ := FrzH.one (S := fun j => j == bs) (b := b3) (cs' := confR (.slice none 0 0)) (by simp; omega) g3 (by
    refine .cons ?_ (FrzL.same _)
    exact frz_lit (sigsS.map Sig.val) gs rfl (by simp [sigsS, Sig.val, Sig.cells, Value.cells]) (by simp [sigsS]) (by simp))
  refine IWp.freezeH K0 _ (.cons (.same _) (.cons (.same _) (.cons (.same _) .nil))) hf0 ?_
  have k1 : K0.get b1 = some ⟨d.cells, true⟩ := by rw [ko b1 (by omega) (by simp; omega)]; exact g1
  have k2 : K0.get b2 = some ⟨confZ, true⟩ := by rw [ko b2 (by omega) (by simp; omega)]; exact g2
  have hb3n : b3 < K0.next := Heap.lt_of_get k3
  clear hf0 ko g1 g2 g3 gs hn4 kn
  obtain ⟨M, hM⟩ : ∃ M, M = (rulesS d).length := ⟨_, rfl⟩
  rw [← hM] at hRl
  have hM8 : M ≤ 8 := by split at hRl <;> omega
  refine IWp.cut (fun e K => ∃ rv, K.get b1 = some ⟨d.cells, true⟩ ∧ K.get b2 = some ⟨confZ, true⟩ ∧ K.get b3 = some ⟨confR rv, true⟩ ∧ Bld 9 K K0.next rv ((rulesS d).map Rule.val) ∧ K0.next ≤ K.next ∧ e = [(1, ptrTo b1 0), (2, ptrTo b2 0), (3, ptrTo b3 0)]) ?_ ?_
  · skip
    refine IWp.one [1, 2, 3, 4] ?_
    simp [go_sem, -getElem?_pos, -List.map_take, -List.map_drop, IntWalk.iteOmega, IntWalk.toNatUp]
    refine IWp.block ?_
    refine IWp.loop (fun j e K => ∃ (i : Nat) (rv : Value), j = M - i ∧ i ≤ M ∧ K.get b1 = some ⟨d.cells, true⟩ ∧ K.get b2 = some ⟨confZ, true⟩ ∧ K.get b3 = some ⟨confR rv, true⟩ ∧ Bld 9 K K0.next rv (((rulesS d).take i).map Rule.val) ∧ K0.next ≤ K.next ∧ e = [(1, ptrTo b1 0), (2, ptrTo b2 0), (3, ptrTo b3 0), (4, .int .i64 (i : Int))]) M ⟨0, .slice none 0 0, rfl, Nat.zero_le _, k1, k2, k3, Bld.nil _ _ _, Nat.le_refl _, by simp [go_sem]⟩ ?_
    clear k1 k2 k3
    rintro j e K ⟨i, rv, rfl, hi, k1, k2, k3, hv, hn, rfl⟩
    have k1' := k1
    simp only [Draft.cells] at k1'
    have w4 := IntWalk.i64_in ((i : Int) + 1) (by split at hRl <;> omega)
    refine IWp.cut (fun e' H' => i < M ∧ H' = K ∧ e' = [(1, ptrTo b1 0), (2, ptrTo b2 0), (3, ptrTo b3 0), (4, .int .i64 (i : Int))]) ?_ ?_
    · skip
      by_cases hA : i < d.rules.length
      · have hne : ¬ d.rules = [] := fun e => by rw [e] at hA; simp at hA
        rw [if_neg hne] at hRl
        by_cases h8 : i < 8
        · skip
          have Kp : Kept [[1,2,3,4,35],[],[1,2,3,4]] := ⟨⟩
          iterate 3 (refine Kp.s ?_; clear Kp; intro Kp; simp [go_sem, -getElem?_pos, -List.map_take, -List.map_drop, IntWalk.iteOmega, IntWalk.toNatUp, k1', hA, h8, show (i : Int) < 8 by omega])
          omega
        · skip
          have Kp : Kept [[1,2,3,4,35],[],[1,2,3]] := ⟨⟩
          iterate 3 (refine Kp.s ?_; clear Kp; intro Kp; simp [go_sem, -getElem?_pos, -List.map_take, -List.map_drop, IntWalk.iteOmega, IntWalk.toNatUp, k1', hA, h8, show ¬ (i : Int) < 8 by omega, show ¬ (i : Int) = 0 by omega, show ¬ i = 0 by omega])
          have hMi : M ≤ i := by first | omega | (split at hRl <;> omega)
          have ht : (rulesS d).take i = rulesS d := List.take_of_length_le (by omega)
          rw [ht] at hv
          exact ⟨rfl, k2, rv, k3, hv, hn⟩
      · by_cases h0 : i = 0
        · subst h0
          have hne : d.rules = [] := List.length_eq_zero_iff.1 (by omega)
          rw [if_pos hne] at hRl
          have Kp : Kept [[1,2,3,4,35],[],[1,2,3,4]] := ⟨⟩
          iterate 3 (refine Kp.s ?_; clear Kp; intro Kp; simp [go_sem, -getElem?_pos, -List.map_take, -List.map_drop, IntWalk.iteOmega, IntWalk.toNatUp, k1', hA, hne])
          omega
        · skip
          have Kp : Kept [[1,2,3,4,35],[],[1,2,3]] := ⟨⟩
          iterate 3 (refine Kp.s ?_; clear Kp; intro Kp; simp [go_sem, -getElem?_pos, -List.map_take, -List.map_drop, IntWalk.iteOmega, IntWalk.toNatUp, k1', hA, h0])
          have hMi : M ≤ i := by first | omega | (split at hRl <;> omega)
          have ht : (rulesS d).take i = rulesS d := List.take_of_length_le (by omega)
          rw [ht] at hv
          exact ⟨rfl, k2, rv, k3, hv, hn⟩
    rintro e' H' ⟨hlt, rfl, rfl⟩
    have hx : ∃ x : Line, lineAt d i = x ∧ x.wf := ⟨_, rfl, by
      unfold lineAt
      rw [List.getD_eq_getElem?_getD]
      by_cases h : i < d.rules.length
      · rw [List.getElem?_eq_getElem h]; exact hw.1.1 _ (List.getElem_mem h)
      · rw [List.getElem?_eq_none (by omega)]; simp [lineZ, Line.wf]⟩
    obtain ⟨x, hxe, hxw⟩ := hx
    have hxs := rulesS_at d i (by omega)
    rw [hxe] at hxs
    refine IWp.one [1, 2, 3, 4, 5] ?_
    simp [go_sem, -getElem?_pos, -List.map_take, -List.map_drop, IntWalk.iteOmega, IntWalk.toNatUp]
    generalize hb5 : H'.next = b5 at *
    refine IWp.cut (fun e' H2 => ∃ st, Frz H2 (fun _ => false) st (byts x.stages) ∧ H2 = H'.alloc [.int .u8 x.kind, .int .u8 x.sg, .int .u8 x.lim, .int .u8 x.back, .int .u8 x.delay, .int .u8 x.span, .int .u8 x.prio, .bool x.latch, st] ∧ e' = [(1, ptrTo b1 0), (2, ptrTo b2 0), (3, ptrTo b3 0), (4, .int .i64 (i : Int)), (5, ptrTo b5 0)]) ?_ ?_
    · skip
      have hb1n := Heap.lt_of_get k1
      have hb15 : b1 ≠ b5 := by omega
      by_cases hA : i < d.rules.length
      · have g : (d.rules.map Line.val)[i]? = some x.val := by
          rw [List.getElem?_map, List.getElem?_eq_getElem hA]
          have : d.rules[i] = x := by rw [← hxe]; unfold lineAt; simp [List.getD_eq_getElem?_getD, hA]
          rw [this]; rfl
        have Kp : Kept [[1,2,3,4,5,42],[],[1,2,3,4,5]] := ⟨⟩
        iterate 3 (refine Kp.s ?_; clear Kp; intro Kp; simp [go_sem, -getElem?_pos, -List.map_take, -List.map_drop, IntWalk.iteOmega, IntWalk.toNatUp, k1', hA, g, Line.val, Line.cells, get_alloc, hb15, hb5])
        exact ⟨_, .same _, rfl⟩
      · have hxz : x = lineZ := by rw [← hxe]; unfold lineAt; rw [List.getD_eq_getElem?_getD, List.getElem?_eq_none (by omega)]; rfl
        subst hxz
        have Kp : Kept [[1,2,3,4,5,42],[],[1,2,3,4,5]] := ⟨⟩
        iterate 3 (refine Kp.s ?_; clear Kp; intro Kp; simp [go_sem, -getElem?_pos, -List.map_take, -List.map_drop, IntWalk.iteOmega, IntWalk.toNatUp, k1', hA, get_alloc, hb15, hb5])
        exact ⟨_, .nil 1, rfl⟩
    rintro e' H2 ⟨st, hst, hH2, rfl⟩
    have g5 : H2.get b5 = some ⟨[.int .u8 x.kind, .int .u8 x.sg, .int .u8 x.lim, .int .u8 x.back, .int .u8 x.delay, .int .u8 x.span, .int .u8 x.prio, .bool x.latch, st], true⟩ := by rw [hH2, ← hb5]; exact Heap.get_alloc_new _ _
    have go : ∀ j, j < b5 → H2.get j = H'.get j := fun j hj => by rw [hH2]; exact Heap.get_alloc_lt _ _ _ (by omega)
    have hn2 : H2.next = b5 + 1 := by rw [hH2, next_alloc, hb5]
    clear hH2
    obtain ⟨K5, hf5, h5, ho5, hn5⟩ := FrzH.one (S := fun _ => false) (b := b5) (cs' := x.cells) rfl g5 (by
      unfold Line.cells
      exact .cons (.same _) (.cons (.same _) (.cons (.same _) (.cons (.same _) (.cons (.same _) (.cons (.same _) (.cons (.same _) (.cons (.same _) (.cons hst .nil)))))))))
    have hb3K := Heap.lt_of_get k3
    have q1 : K5.get b1 = some ⟨d.cells, true⟩ := by rw [ho5 b1 (by omega) rfl, go b1 (by omega)]; exact k1
    have q2 : K5.get b2 = some ⟨confZ, true⟩ := by rw [ho5 b2 (by omega) rfl, go b2 (by omega)]; exact k2
    have q3 : K5.get b3 = some ⟨confR rv, true⟩ := by rw [ho5 b3 (by omega) rfl, go b3 (by omega)]; exact k3
    have qv : Bld 9 K5 K0.next rv (((rulesS d).take i).map Rule.val) := hv.same fun j k hj hk => by rw [ho5 j (by have := Heap.lt_of_get hk; omega) rfl, go j (by have := Heap.lt_of_get hk; omega)]; exact hk
    refine IWp.freezeH K5 _ (.cons (.same _) (.cons (.same _) (.cons (.same _) (.cons (.same _) (.cons (.same _) .nil))))) hf5 ?_
    clear hf5 ho5 go g5 hst hv k1 k2 k3 k1' hxe
    rw [hn2] at hn5
    have hnK : K0.next ≤ b5 := by omega
    clear hn hn2 hb5 hb3K H2 st
    obtain ⟨kind, sg, lim, back, delay, span, prio, latch, stages⟩ := x
    obtain ⟨x1, x2, x3, x4, x5, x6, x7, x8, x9⟩ := hxw
    simp only at x1 x2 x3 x4 x5 x6 x7 x8 x9
    simp only [Line.cells] at h5
    refine IWp.one [1, 2, 3, 4, 5, 6] ?_
    simp (disch := omega) [go_sem, -getElem?_pos, -List.map_take, -List.map_drop, IntWalk.iteOmega, IntWalk.toNatUp, IntWalk.i64_in, IntWalk.u8_in, IntWalk.i64_quo, IntWalk.u8_quo, IntWalk.rem_in, h5]
    obtain ⟨R, hR0⟩ : ∃ R, R = ruleS ⟨kind, sg, lim, back, delay, span, prio, latch, stages⟩ := ⟨_, rfl⟩
    refine IWp.cut (fun e' H2 => H2 = K5.alloc [.int .u8 (kind % 6 + 1), .int .i64 (sg % 3), .int .i64 R.lim, .int .i64 R.back, .int .i64 (delay % 8), .int .i64 R.span, .int .u8 (prio % 3 + 1), .bool latch, .slice none 0 0] ∧ e' = [(1, ptrTo b1 0), (2, ptrTo b2 0), (3, ptrTo b3 0), (4, .int .i64 (i : Int)), (5, ptrTo b5 0), (6, ptrTo K5.next 0)]) ?_ ?_
    · skip
      have hk6 : kind % 6 = 0 ∨ kind % 6 = 1 ∨ kind % 6 = 2 ∨ kind % 6 = 3 ∨ kind % 6 = 4 ∨ kind % 6 = 5 := by omega
      subst hR0
      rcases hk6 with hk | hk | hk | hk | hk | hk
      · have hR := ruleS_0 ⟨kind, sg, lim, back, delay, span, prio, latch, stages⟩ hk
        obtain ⟨r1, r2, r3⟩ := hR
        try simp only at r1 r2 r3
        rw [r1, r2, r3]
        clear r1 r2 r3
        have Kp : Kept [[1,2,3,4,5,6,68],[1,2,3,4,5,6,68,69],[],[1,2,3,4,5,6],[1,2,3,4,5,6]] := ⟨⟩
        iterate 5 (refine Kp.s ?_; clear Kp; intro Kp; simp (disch := omega) [go_sem, -getElem?_pos, -List.map_take, -List.map_drop, IntWalk.iteOmega, IntWalk.toNatUp, IntWalk.i64_in, IntWalk.u8_in, IntWalk.i64_quo, IntWalk.u8_quo, IntWalk.rem_in, hk, h5])
      · have hR := ruleS_1 ⟨kind, sg, lim, back, delay, span, prio, latch, stages⟩ hk
        obtain ⟨r1, r2, r3⟩ := hR
        try simp only at r1 r2 r3
        rw [r1, r2, r3]
        clear r1 r2 r3
        have Kp : Kept [[1,2,3,4,5,6,68],[1,2,3,4,5,6,68,69],[],[1,2,3,4,5,6,68,83],[],[1,2,3,4,5,6],[1,2,3,4,5,6]] := ⟨⟩
        iterate 7 (refine Kp.s ?_; clear Kp; intro Kp; simp (disch := omega) [go_sem, -getElem?_pos, -List.map_take, -List.map_drop, IntWalk.iteOmega, IntWalk.toNatUp, IntWalk.i64_in, IntWalk.u8_in, IntWalk.i64_quo, IntWalk.u8_quo, IntWalk.rem_in, hk, h5])
      · have hR := ruleS_2 ⟨kind, sg, lim, back, delay, span, prio, latch, stages⟩ hk
        obtain ⟨r1, r2, r3⟩ := hR
        try simp only at r1 r2 r3
        rw [r1, r2, r3]
        clear r1 r2 r3
        have Kp : Kept [[1,2,3,4,5,6,68],[1,2,3,4,5,6,68,69],[],[1,2,3,4,5,6,68,83],[],[1,2,3,4,5,6,68,97],[],[1,2,3,4,5,6,68,97],[],[1,2,3,4,5,6],[1,2,3,4,5,6],[1,2,3,4,5,6]] := ⟨⟩
        iterate 12 (refine Kp.s ?_; clear Kp; intro Kp; simp (disch := omega) [go_sem, -getElem?_pos, -List.map_take, -List.map_drop, IntWalk.iteOmega, IntWalk.toNatUp, IntWalk.i64_in, IntWalk.u8_in, IntWalk.i64_quo, IntWalk.u8_quo, IntWalk.rem_in, hk, h5])
      · have hR := ruleS_3 ⟨kind, sg, lim, back, delay, span, prio, latch, stages⟩ hk
        obtain ⟨r1, r2, r3⟩ := hR
        try simp only at r1 r2 r3
        rw [r1, r2, r3]
        clear r1 r2 r3
        have Kp : Kept [[1,2,3,4,5,6,68],[1,2,3,4,5,6,68,69],[],[1,2,3,4,5,6,68,83],[],[1,2,3,4,5,6,68,97],[],[1,2,3,4,5,6,68,97],[],[1,2,3,4,5,6],[1,2,3,4,5,6],[1,2,3,4,5,6]] := ⟨⟩
        iterate 12 (refine Kp.s ?_; clear Kp; intro Kp; simp (disch := omega) [go_sem, -getElem?_pos, -List.map_take, -List.map_drop, IntWalk.iteOmega, IntWalk.toNatUp, IntWalk.i64_in, IntWalk.u8_in, IntWalk.i64_quo, IntWalk.u8_quo, IntWalk.rem_in, hk, h5])
      · have hR := ruleS_4 ⟨kind, sg, lim, back, delay, span, prio, latch, stages⟩ hk
        obtain ⟨r1, r2, r3⟩ := hR
        try simp only at r1 r2 r3
        rw [r1, r2, r3]
        clear r1 r2 r3
        have Kp : Kept [[1,2,3,4,5,6,68],[1,2,3,4,5,6,68,69],[],[1,2,3,4,5,6,68,83],[],[1,2,3,4,5,6,68,97],[],[1,2,3,4,5,6,68,97],[],[1,2,3,4,5,6,120],[],[1,2,3,4,5,6]] := ⟨⟩
        iterate 12 (refine Kp.s ?_; clear Kp; intro Kp; simp (disch := omega) [go_sem, -getElem?_pos, -List.map_take, -List.map_drop, IntWalk.iteOmega, IntWalk.toNatUp, IntWalk.i64_in, IntWalk.u8_in, IntWalk.i64_quo, IntWalk.u8_quo, IntWalk.rem_in, hk, h5])
      · have hR := ruleS_5 ⟨kind, sg, lim, back, delay, span, prio, latch, stages⟩ hk
        obtain ⟨r1, r2, r3⟩ := hR
        try simp only at r1 r2 r3
        rw [r1, r2, r3]
        clear r1 r2 r3
        have Kp : Kept [[1,2,3,4,5,6,68],[1,2,3,4,5,6,68,69],[],[1,2,3,4,5,6,68,83],[],[1,2,3,4,5,6,68,97],[],[1,2,3,4,5,6,68,97],[],[1,2,3,4,5,6,120],[],[1,2,3,4,5,6]] := ⟨⟩
        iterate 12 (refine Kp.s ?_; clear Kp; intro Kp; simp (disch := omega) [go_sem, -getElem?_pos, -List.map_take, -List.map_drop, IntWalk.iteOmega, IntWalk.toNatUp, IntWalk.i64_in, IntWalk.u8_in, IntWalk.i64_quo, IntWalk.u8_quo, IntWalk.rem_in, hk, h5])
    rintro e' H2 ⟨hH2, rfl⟩
    generalize hb6 : K5.next = b6 at *
    have h6 : H2.get b6 = some ⟨[.int .u8 (kind % 6 + 1), .int .i64 (sg % 3), .int .i64 R.lim, .int .i64 R.back, .int .i64 (delay % 8), .int .i64 R.span, .int .u8 (prio % 3 + 1), .bool latch, .slice none 0 0], true⟩ := by rw [hH2, ← hb6]; exact Heap.get_alloc_new _ _
    have go2 : ∀ j, j < b6 → H2.get j = K5.get j := fun j hj => by rw [hH2]; exact Heap.get_alloc_lt _ _ _ (by omega)
    have hn6 : H2.next = b6 + 1 := by rw [hH2, next_alloc, hb6]
    have p1 : H2.get b1 = some ⟨d.cells, true⟩ := by rw [go2 b1 (by omega)]; exact q1
    have p2 : H2.get b2 = some ⟨confZ, true⟩ := by rw [go2 b2 (by omega)]; exact q2
    have p3 : H2.get b3 = some ⟨confR rv, true⟩ := by rw [go2 b3 (by omega)]; exact q3
    have p5 := (go2 b5 (by omega)).trans h5
    have pv : Bld 9 H2 K0.next rv (((rulesS d).take i).map Rule.val) := qv.same fun j k hj hk => by rw [go2 j (by have := Heap.lt_of_get hk; omega)]; exact hk
    have hrv : ∀ c o s l k, rv = .slice (some ⟨c, o, s⟩) l k → c < b6 := fun c o s l k e => by
      rcases qv.2 with ⟨e2, _⟩ | ⟨c', _, e2, h⟩
      · rw [e2] at e; cases e
      · rw [e2] at e; cases e
        have := Heap.lt_of_get h; omega
    clear hH2 go2 q1 q2 q3 h5 qv
    refine IWp.one [1, 2, 3, 4, 5, 6, 7] ?_
    simp (disch := omega) [go_sem, -getElem?_pos, -List.map_take, -List.map_drop, IntWalk.iteOmega, IntWalk.toNatUp, IntWalk.i64_in, IntWalk.u8_in, IntWalk.i64_quo, IntWalk.u8_quo, IntWalk.rem_in, h6]
    refine IWp.cut (fun e' K => ∃ sv, (∀ j, j < b6 → K.get j = H2.get j) ∧ K.get b6 = some ⟨[.int .u8 (kind % 6 + 1), .int .i64 (sg % 3), .int .i64 R.lim, .int .i64 R.back, .int .i64 (delay % 8), .int .i64 R.span, .int .u8 (prio % 3 + 1), .bool latch, sv], true⟩ ∧ Bld 2 K (b6 + 1) sv ((stagesS (prio % 3 + 1) (stages.take 4)).map Stage.val) ∧ b6 + 1 ≤ K.next ∧ e' = [(1, ptrTo b1 0), (2, ptrTo b2 0), (3, ptrTo b3 0), (4, .int .i64 (i : Int)), (6, ptrTo b6 0)]) ?_ ?_
    · skip
      refine IWp.one [1, 2, 3, 4, 5, 6, 7, 8] ?_
      simp [go_sem, -getElem?_pos, -List.map_take, -List.map_drop, IntWalk.iteOmega, IntWalk.toNatUp]
      refine IWp.block ?_
      refine IWp.loop (fun j e K => ∃ (k : Nat) (sv : Value), j = 4 - k ∧ k ≤ 4 ∧ k ≤ stages.length ∧ (∀ j, j < b6 → K.get j = H2.get j) ∧ K.get b6 = some ⟨[.int .u8 (kind % 6 + 1), .int .i64 (sg % 3), .int .i64 R.lim, .int .i64 R.back, .int .i64 (delay % 8), .int .i64 R.span, .int .u8 (prio % 3 + 1), .bool latch, sv], true⟩ ∧ Bld 2 K (b6 + 1) sv ((stagesS (prio % 3 + 1) (stages.take k)).map Stage.val) ∧ b6 + 1 ≤ K.next ∧ e = [(1, ptrTo b1 0), (2, ptrTo b2 0), (3, ptrTo b3 0), (4, .int .i64 (i : Int)), (5, ptrTo b5 0), (6, ptrTo b6 0), (7, .int .u8 (prioA (prio % 3 + 1) (stages.take k))), (8, .int .i64 (k : Int))]) 4 ⟨0, .slice none 0 0, rfl, Nat.zero_le _, Nat.zero_le _, fun _ _ => rfl, h6, Bld.nil _ _ _, by omega, by simp [go_sem, prioA]⟩ ?_
      rintro j e K ⟨k, sv, rfl, hk4, hkl, ho, h6', hsv, hnK6, rfl⟩
      have h5' := (ho b5 (by omega)).trans p5
      have hpa := prioA_in (prio % 3 + 1) (by omega) (stages.take k)
      by_cases hlt : k < stages.length ∧ k < 4
      · obtain ⟨hl1, hl2⟩ := hlt
        have gk : stages[k]? = some stages[k] := List.getElem?_eq_getElem hl1
        have hsb := x8 _ (List.getElem_mem hl1)
        have hst := stagesS_snoc (prio % 3 + 1) (stages.take k) stages[k]
        have hsp := prioA_snoc (prio % 3 + 1) (stages.take k) stages[k]
        rw [← List.take_succ_eq_append_getElem hl1] at hst hsp
        generalize stages[k] = y at *
        generalize hpA : prioA (prio % 3 + 1) (stages.take k) = pa at *
        obtain ⟨sv', K3, e3, b3', s3, n3, f3, t3⟩ := app_one (P := Tryd.prog) (t := 47) (e := 57) (sz := 2) (by_ := 16) (z := .agg ⟨[.int .i64 0, .int .u8 0]⟩) (by kernel_rfl) (by kernel_rfl) (by kernel_rfl) (by kernel_rfl) rfl (Stage.val ⟨1 + y / 2 % 12, min (pa + y % 2) 3⟩) [.int .i64 (1 + y / 2 % 12), .int .u8 (min (pa + y % 2) 3)] hsv rfl rfl (by simp [one0]) hnK6 (by simp [stagesS_len]; omega) (by simp [stagesS_len]; omega)
        have hb6' : K3.get b6 = K.get b6 := s3 b6 (by omega)
        have hend : ∀ H', H' = K3.set b6 [.int .u8 (kind % 6 + 1), .int .i64 (sg % 3), .int .i64 R.lim, .int .i64 R.back, .int .i64 (delay % 8), .int .i64 R.span, .int .u8 (prio % 3 + 1), .bool latch, sv'] → (∀ j, j < b6 → H'.get j = H2.get j) ∧ H'.get b6 = some ⟨[.int .u8 (kind % 6 + 1), .int .i64 (sg % 3), .int .i64 R.lim, .int .i64 R.back, .int .i64 (delay % 8), .int .i64 R.span, .int .u8 (prio % 3 + 1), .bool latch, sv'], true⟩ ∧ Bld 2 H' (b6 + 1) sv' ((stagesS (prio % 3 + 1) (stages.take (k + 1))).map Stage.val) ∧ b6 + 1 ≤ H'.next := by
          rintro H' rfl
          refine ⟨fun j hj => by rw [get_set, if_neg (by omega), s3 j (by omega), ho j hj], by rw [get_set, if_pos rfl, hb6', h6']; rfl, ?_, by rw [next_set]; omega⟩
          rw [hst, List.map_append]
          exact b3'.same fun j k hj hk => by rw [get_set, if_neg (by omega)]; exact hk
        subst t3
        have h53 := s3 b5 (by omega)
        rw [h5'] at h53
        rw [h6'] at hb6'
        by_cases hgt : 3 < pa + y % 2
        · rw [show min (pa + y % 2) 3 = 3 by omega] at e3 hsp
          have Kp : Kept [[1,2,3,4,5,6,7,8,138],[],[1,2,3,4,5,6,7,8],[1,2,3,4,5,6,7,8],[1,2,3,4,5,6,7,8,150],[],[1,2,3,4,5,6,7,8]] := ⟨⟩
          iterate 7 (refine Kp.s ?_; clear Kp; intro Kp; simp (disch := omega) [go_sem, -getElem?_pos, -List.map_take, -List.map_drop, IntWalk.iteOmega, IntWalk.toNatUp, IntWalk.i64_in, IntWalk.u8_in, IntWalk.i64_quo, IntWalk.u8_quo, IntWalk.rem_in, h5', h6', hb6', gk, hl1, hl2, e3, h53, get_alloc, show ¬ b5 = b6 by omega, show ¬ b6 = K.next by omega, show ¬ b5 = K.next by omega])
          refine IWp.draw [1, 2, 3, 4, 5, 6, 7, 8] [b5] (.val 0 (.val 2 (.ld 3 [5, 6, 7, 8, 9, 10, 12, 13, 14, 15, 16] (.val 4 (.val 5 (.ld 6 [7, 8, 9, 10, 12, 13, 14, 15, 16] (.val 7 (.val 8 (.val 9 (.val 10 (.val 11 (.val 12 (.eff 1 (.eff 13 (.eff 14 (.val 15 (.eff 16 .done .done)) .done) .done) (.eff 13 (.ld 1 [14, 15, 16] (.eff 14 (.val 15 (.eff 16 .done .done)) .done)) .done)))))))))))))) follows (by kernel_rfl) ?_
          simp (disch := omega) [go_sem, -getElem?_pos, -List.map_take, -List.map_drop, IntWalk.iteOmega, IntWalk.toNatUp, IntWalk.i64_in, IntWalk.u8_in, IntWalk.i64_quo, IntWalk.u8_quo, IntWalk.rem_in, h5', h6', hb6', gk, hl1, hl2, e3, h53, get_alloc, show ¬ b5 = b6 by omega, show ¬ b6 = K.next by omega, show ¬ b5 = K.next by omega]
          refine IWp.one [1, 2, 3, 4, 5, 6, 7, 8] ?_
          simp (disch := omega) [go_sem, -getElem?_pos, -List.map_take, -List.map_drop, IntWalk.iteOmega, IntWalk.toNatUp, IntWalk.i64_in, IntWalk.u8_in, IntWalk.i64_quo, IntWalk.u8_quo, IntWalk.rem_in, h5', h6', hb6', gk, hl1, hl2, e3, h53, get_alloc, show ¬ b5 = b6 by omega, show ¬ b6 = K.next by omega, show ¬ b5 = K.next by omega]
          obtain ⟨_, _, q3, q4⟩ := hend _ rfl
          simp only [List.length_map] at q3
          exact ⟨4 - (k + 1), by omega, k + 1, rfl, by omega, by omega, fun j hj => by rw [if_neg (by omega), s3 j (by omega), ho j hj], q3, by omega, by rw [hsp], by omega⟩
        · rw [show min (pa + y % 2) 3 = pa + y % 2 by omega] at e3 hsp
          have Kp : Kept [[1,2,3,4,5,6,7,8,138],[],[1,2,3,4,5,6,7,8],[1,2,3,4,5,6,7,8],[1,2,3,4,5,6,7,8,150],[],[1,2,3,4,5,6,7,8]] := ⟨⟩
          iterate 7 (refine Kp.s ?_; clear Kp; intro Kp; simp (disch := omega) [go_sem, -getElem?_pos, -List.map_take, -List.map_drop, IntWalk.iteOmega, IntWalk.toNatUp, IntWalk.i64_in, IntWalk.u8_in, IntWalk.i64_quo, IntWalk.u8_quo, IntWalk.rem_in, h5', h6', hb6', gk, hl1, hl2, e3, h53, get_alloc, show ¬ b5 = b6 by omega, show ¬ b6 = K.next by omega, show ¬ b5 = K.next by omega])
          refine IWp.draw [1, 2, 3, 4, 5, 6, 7, 8] [b5] (.val 0 (.val 2 (.ld 3 [5, 6, 7, 8, 9, 10, 12, 13, 14, 15, 16] (.val 4 (.val 5 (.ld 6 [7, 8, 9, 10, 12, 13, 14, 15, 16] (.val 7 (.val 8 (.val 9 (.val 10 (.val 11 (.val 12 (.eff 1 (.eff 13 (.eff 14 (.val 15 (.eff 16 .done .done)) .done) .done) (.eff 13 (.ld 1 [14, 15, 16] (.eff 14 (.val 15 (.eff 16 .done .done)) .done)) .done)))))))))))))) follows (by kernel_rfl) ?_
          simp (disch := omega) [go_sem, -getElem?_pos, -List.map_take, -List.map_drop, IntWalk.iteOmega, IntWalk.toNatUp, IntWalk.i64_in, IntWalk.u8_in, IntWalk.i64_quo, IntWalk.u8_quo, IntWalk.rem_in, h5', h6', hb6', gk, hl1, hl2, e3, h53, get_alloc, show ¬ b5 = b6 by omega, show ¬ b6 = K.next by omega, show ¬ b5 = K.next by omega]
          refine IWp.one [1, 2, 3, 4, 5, 6, 7, 8] ?_
          simp (disch := omega) [go_sem, -getElem?_pos, -List.map_take, -List.map_drop, IntWalk.iteOmega, IntWalk.toNatUp, IntWalk.i64_in, IntWalk.u8_in, IntWalk.i64_quo, IntWalk.u8_quo, IntWalk.rem_in, h5', h6', hb6', gk, hl1, hl2, e3, h53, get_alloc, show ¬ b5 = b6 by omega, show ¬ b6 = K.next by omega, show ¬ b5 = K.next by omega]
          obtain ⟨_, _, q3, q4⟩ := hend _ rfl
          simp only [List.length_map] at q3
          exact ⟨4 - (k + 1), by omega, k + 1, rfl, by omega, by omega, fun j hj => by rw [if_neg (by omega), s3 j (by omega), ho j hj], q3, by omega, by rw [hsp], by omega⟩
      · have htk : stages.take k = stages.take 4 := by
          by_cases h4 : k < 4
          · rw [List.take_of_length_le (by omega), List.take_of_length_le (by omega)]
          · rw [show k = 4 by omega]
        rw [htk] at hsv
        by_cases hl1 : k < stages.length
        · have hl2 : ¬ k < 4 := fun h => hlt ⟨hl1, h⟩
          have Kp : Kept [[1,2,3,4,5,6,7,8,138],[],[1,2,3,4,6]] := ⟨⟩
          iterate 3 (refine Kp.s ?_; clear Kp; intro Kp; simp (disch := omega) [go_sem, -getElem?_pos, -List.map_take, -List.map_drop, IntWalk.iteOmega, IntWalk.toNatUp, IntWalk.i64_in, IntWalk.u8_in, IntWalk.i64_quo, IntWalk.u8_quo, IntWalk.rem_in, h5', hl1, hl2])
          exact ⟨ho, sv, h6', hsv, hnK6⟩
        · skip
          have Kp : Kept [[1,2,3,4,5,6,7,8,138],[],[1,2,3,4,6]] := ⟨⟩
          iterate 3 (refine Kp.s ?_; clear Kp; intro Kp; simp (disch := omega) [go_sem, -getElem?_pos, -List.map_take, -List.map_drop, IntWalk.iteOmega, IntWalk.toNatUp, IntWalk.i64_in, IntWalk.u8_in, IntWalk.i64_quo, IntWalk.u8_quo, IntWalk.rem_in, h5', hl1])
          exact ⟨ho, sv, h6', hsv, hnK6⟩
    rintro e' K ⟨sv, ho, h6', hsv, hnK6, rfl⟩
    have r1 := (ho b1 (by omega)).trans p1
    have r2 := (ho b2 (by omega)).trans p2
    have r3 := (ho b3 (by omega)).trans p3
    have rv9 : Bld 9 K K0.next rv (((rulesS d).take i).map Rule.val) := ⟨pv.1, by
      rcases pv.2 with ⟨e1, e2⟩ | ⟨c, c1, e1, c3⟩
      · exact .inl ⟨e1, e2⟩
      · exact .inr ⟨c, c1, e1, by rw [ho c (hrv c _ _ _ _ e1)]; exact c3⟩⟩
    have hvsv : ∀ j, j < b6 + 1 → blkOf sv j = false := fun j hj => by
      rcases hsv.2 with ⟨e1, _⟩ | ⟨c, c1, e1, _⟩
      · rw [e1]; rfl
      · rw [e1]; simp [blkOf]; omega
    obtain ⟨K7, hf7, h7, ho7, hn7⟩ := FrzH.one (S := blkOf sv) (b := b6) (cs' := [.int .u8 (kind % 6 + 1), .int .i64 (sg % 3), .int .i64 R.lim, .int .i64 R.back, .int .i64 (delay % 8), .int .i64 R.span, .int .u8 (prio % 3 + 1), .bool latch, frow 2 0 ((stagesS (prio % 3 + 1) (stages.take 4)).map Stage.val)]) (hvsv b6 (by omega)) h6' (.cons (.same _) (.cons (.same _) (.cons (.same _) (.cons (.same _) (.cons (.same _) (.cons (.same _) (.cons (.same _) (.cons (.same _) (.cons hsv.frzV .nil)))))))))
    refine IWp.freezeH K7 _ (.cons (.same _) (.cons (.same _) (.cons (.same _) (.cons (.same _) (.cons (.same _) .nil))))) hf7 ?_
    have s1 := (ho7 b1 (by omega) (hvsv b1 (by omega))).trans r1
    have s2 := (ho7 b2 (by omega) (hvsv b2 (by omega))).trans r2
    have s3 := (ho7 b3 (by omega) (hvsv b3 (by omega))).trans r3
    have sv9 : Bld 9 K7 K0.next rv (((rulesS d).take i).map Rule.val) := ⟨rv9.1, by
      rcases rv9.2 with ⟨e1, e2⟩ | ⟨c, c1, e1, c3⟩
      · exact .inl ⟨e1, e2⟩
      · have := hrv c _ _ _ _ e1
        exact .inr ⟨c, c1, e1, by rw [ho7 c (by omega) (hvsv c (by omega))]; exact c3⟩⟩
    have hval : Rule.val R = .agg ⟨[.int .u8 (kind % 6 + 1), .int .i64 (sg % 3), .int .i64 R.lim, .int .i64 R.back, .int .i64 (delay % 8), .int .i64 R.span, .int .u8 (prio % 3 + 1), .bool latch, frow 2 0 ((stagesS (prio % 3 + 1) (stages.take 4)).map Stage.val)]⟩ := by rw [hR0]; rfl
    have hnK7 : b6 + 1 ≤ K7.next := by omega
    clear hf7 ho7 hvsv rv9 r1 r2 r3 pv p1 p2 p3 p5 h6 h6' hsv ho hn7 hnK6
    obtain ⟨rv', K8, e8, b8, o8, n8, f8, t8⟩ := app_one (P := Tryd.prog) (t := 29) (e := 49) (sz := 9) (by_ := 80) (z := .agg ⟨[.int .u8 0, .int .i64 0, .int .i64 0, .int .i64 0, .int .i64 0, .int .i64 0, .int .u8 0, .bool false, .slice none 0 0]⟩) (by kernel_rfl) (by kernel_rfl) (by kernel_rfl) (by kernel_rfl) rfl (Rule.val R) [.int .u8 (kind % 6 + 1), .int .i64 (sg % 3), .int .i64 R.lim, .int .i64 R.back, .int .i64 (delay % 8), .int .i64 R.span, .int .u8 (prio % 3 + 1), .bool latch, frow 2 0 ((stagesS (prio % 3 + 1) (stages.take 4)).map Stage.val)] sv9 (by rw [hval]; rfl) rfl (by simp [one0_frow]; simp [one0]) (by omega) (by simp; omega) (by simp; omega)
    have o1 := (o8 b1 (by omega)).trans s1
    have o2 := (o8 b2 (by omega)).trans s2
    have o3 := (o8 b3 (by omega)).trans s3
    subst t8
    have Kp : Kept [[1,2,3,4],[1,2,3,4]] := ⟨⟩
    iterate 2 (refine Kp.s ?_; clear Kp; intro Kp; simp (disch := omega) [go_sem, -getElem?_pos, -List.map_take, -List.map_drop, IntWalk.iteOmega, IntWalk.toNatUp, IntWalk.i64_in, IntWalk.u8_in, IntWalk.i64_quo, IntWalk.u8_quo, IntWalk.rem_in, h7, s3, e8, o3, confR])
    have hnext : ((rulesS d).take (i + 1)).map Rule.val = ((rulesS d).take i).map Rule.val ++ [Rule.val R] := by
      have hlt2 : i < (rulesS d).length := by omega
      rw [List.take_succ_eq_append_getElem hlt2, List.map_append]
      rw [List.getElem?_eq_getElem hlt2] at hxs
      rw [Option.some.injEq] at hxs
      rw [hxs, ← hR0]; rfl
    have hlen : (((rulesS d).take i).map Rule.val).length = i := by simp; omega
    rw [hlen] at b8
    exact ⟨M - (i + 1), by omega, i + 1, rfl, by omega, o1, o2, by rw [hnext]; exact b8.same fun j k hj hk => by rw [get_set, if_neg (by omega)]; exact hk, by omega, by omega⟩
  clear k1 k2 k3
  rintro e K ⟨rv, k1, k2, k3, hv, hnK, rfl⟩
  obtain ⟨K9, hf9, g3, ho9, hn9⟩ := FrzH.one (S := blkOf rv) (b := b3) (cs' := confR (frow 9 0 ((rulesS d).map Rule.val))) (by
    rcases hv.2 with ⟨e1, _⟩ | ⟨c, c1, e1, _⟩
    · rw [e1]; rfl
    · rw [e1]; simp [blkOf]; omega) k3 (.cons (.same _) (.cons hv.frzV (FrzL.same _)))
  have hS : ∀ j, j < K0.next → blkOf rv j = false := fun j hj => by
    rcases hv.2 with ⟨e1, _⟩ | ⟨c, c1, e1, _⟩
    · rw [e1]; rfl
    · rw [e1]; simp [blkOf]; omega
  refine IWp.freezeH K9 _ (.cons (.same _) (.cons (.same _) (.cons (.same _) .nil))) hf9 ?_
  have g1 : K9.get b1 = some ⟨d.cells, true⟩ := (ho9 b1 (by omega) (hS _ (by omega))).trans k1
  have g2 : K9.get b2 = some ⟨confZ, true⟩ := (ho9 b2 (by omega) (hS _ (by omega))).trans k2
  have hnK9 : K0.next ≤ K9.next := by omega
  clear hf9 ho9 hS hv k1 k2 k3 hnK hn9
  have g1' := g1
  simp only [Draft.cells] at g1'
  obtain ⟨d1, ⟨d2, d2l⟩, d3, d4, d5, d6, d7⟩ := hw
  obtain ⟨n, hn⟩ : ∃ n, n = slotsN d := ⟨_, rfl⟩
  have hn16 : 1 + d.bands / 16 % 6 = (n : Int) := by rw [hn]; unfold slotsN; omega
  have hnr : 1 ≤ n ∧ n ≤ 6 := by omega
  refine IWp.one [1, 2, 3, 9] ?_
  simp (disch := omega) [go_sem, -getElem?_pos, -List.map_take, -List.map_drop, IntWalk.iteOmega, IntWalk.toNatUp, IntWalk.i64_in, IntWalk.u8_in, IntWalk.i64_quo, IntWalk.u8_quo, IntWalk.rem_in, g1', hn16]
  have hR8 : (rulesS d).length ≤ 8 := by omega
  have hRl2 : (((rulesS d).length : Nat) : Int) + 2 ≤ 10 := by omega
  have hfr : ∀ (l : List Int) (s : Int), fallS (rulesS d).length l s = if s % ((rulesS d).length + 2) < (rulesS d).length ∧ ¬ (s % ((rulesS d).length + 2)) ∈ l then l ++ [s % ((rulesS d).length + 2)] else l := fun _ _ => rfl
  generalize hRv : rulesS d = RS at *
  generalize hRn : RS.length = R at *
  obtain ⟨Z, hZ⟩ : ∃ Z : Nat → List Int, Z = fun i => slotS d.slots R n i := ⟨_, rfl⟩
  obtain ⟨W, hW⟩ : ∃ W : Nat → List (List Int), W = fun i => (List.range i).map Z := ⟨_, rfl⟩
  have hW0 : W 0 = [] := by rw [hW]; rfl
  have hW1 : ∀ i, W (i + 1) = W i ++ [Z i] := fun i => by rw [hW]; simp [List.range_succ]
  have hWl : ∀ i, (W i).length = i := fun i => by rw [hW]; simp
  refine IWp.cut (fun e K => ∃ tv lv, K.get b1 = some ⟨d.cells, true⟩ ∧ K.get b2 = some ⟨confZ, true⟩ ∧ K.get b3 = some ⟨confT RS tv, true⟩ ∧ TabAt K K9.next tv lv (W (n - 1)) (Z (n - 1)) ∧ K9.next ≤ K.next ∧ e = [(1, ptrTo b1 0), (2, ptrTo b2 0), (3, ptrTo b3 0), (9, .int .i64 (n : Int))]) ?_ ?_
  · skip
    refine IWp.one [1, 2, 3, 9, 10] ?_
    simp [go_sem, -getElem?_pos, -List.map_take, -List.map_drop, IntWalk.iteOmega, IntWalk.toNatUp]
    refine IWp.block ?_
    refine IWp.loop (fun j e K => ∃ (i : Nat) (tv : Value), j = n - i ∧ i ≤ n ∧ K.get b1 = some ⟨d.cells, true⟩ ∧ K.get b2 = some ⟨confZ, true⟩ ∧ K.get b3 = some ⟨confT RS tv, true⟩ ∧ K9.next ≤ K.next ∧ ((i < n ∧ Bld 1 K K9.next tv ((W i).map (ints .i64))) ∨ (i = n ∧ ∃ lv, TabAt K K9.next tv lv (W (n - 1)) (Z (n - 1)))) ∧ e = [(1, ptrTo b1 0), (2, ptrTo b2 0), (3, ptrTo b3 0), (9, .int .i64 (n : Int)), (10, .int .i64 (i : Int))]) n ⟨0, .slice none 0 0, rfl, Nat.zero_le _, g1, g2, g3, Nat.le_refl _, .inl ⟨by omega, by rw [hW0]; exact Bld.nil _ _ _⟩, by simp [go_sem]⟩ ?_
    clear g1 g2 g3 g1'
    rintro j e K ⟨i, tv, rfl, hi, g1, g2, g3, hnK, htab, rfl⟩
    have w4 := IntWalk.i64_in ((i : Int) + 1) (by omega)
    by_cases hlt : i < n
    case neg =>
      obtain ⟨hin, lv, ht⟩ : i = n ∧ ∃ lv, TabAt K K9.next tv lv (W (n - 1)) (Z (n - 1)) := htab.elim (fun h => absurd h.1 hlt) id
      subst hin
      have Kp : Kept [[1,2,3,9,10,181],[],[1,2,3,9]] := ⟨⟩
      iterate 3 (refine Kp.s ?_; clear Kp; intro Kp; simp (disch := omega) [go_sem, -getElem?_pos, -List.map_take, -List.map_drop, IntWalk.iteOmega, IntWalk.toNatUp, IntWalk.i64_in, IntWalk.u8_in, IntWalk.i64_quo, IntWalk.u8_quo, IntWalk.rem_in])
      exact ⟨g1, g2, tv, g3, ⟨lv, ht⟩, hnK⟩
    have ht : Bld 1 K K9.next tv ((W i).map (ints .i64)) := htab.elim (fun h => h.2) (fun h => absurd h.1 (by omega))
    clear htab
    have Kp : Kept [[1,2,3,9,10,181],[],[1,2,3,9,10]] := ⟨⟩
    iterate 3 (refine Kp.s ?_; clear Kp; intro Kp; simp (disch := omega) [go_sem, -getElem?_pos, -List.map_take, -List.map_drop, IntWalk.iteOmega, IntWalk.toNatUp, IntWalk.i64_in, IntWalk.u8_in, IntWalk.i64_quo, IntWalk.u8_quo, IntWalk.rem_in, hlt])
    refine IWp.cut (fun e' K => ∃ tv, K.get b1 = some ⟨d.cells, true⟩ ∧ K.get b2 = some ⟨confZ, true⟩ ∧ K.get b3 = some ⟨confT RS tv, true⟩ ∧ K9.next ≤ K.next ∧ ((i + 1 < n ∧ Bld 1 K K9.next tv ((W (i + 1)).map (ints .i64))) ∨ (i + 1 = n ∧ ∃ lv, TabAt K K9.next tv lv (W (n - 1)) (Z (n - 1)))) ∧ e' = [(1, ptrTo b1 0), (2, ptrTo b2 0), (3, ptrTo b3 0), (9, .int .i64 (n : Int)), (10, .int .i64 (i : Int))]) ?_ ?_
    case refine_2 =>
      rintro e' K' ⟨tv', g1', g2', g3', hnK', ht', rfl⟩
      refine IWp.one [1, 2, 3, 9, 10] ?_
      simp [go_sem, -getElem?_pos, -List.map_take, -List.map_drop, IntWalk.iteOmega, IntWalk.toNatUp, w4]
      exact ⟨n - (i + 1), by omega, i + 1, rfl, by omega, g1', g2', tv', g3', hnK', ht', by omega⟩
    refine IWp.one [1, 2, 3, 9, 10, 11] ?_
    simp [go_sem, -getElem?_pos, -List.map_take, -List.map_drop, IntWalk.iteOmega, IntWalk.toNatUp]
    refine IWp.cut (fun e' K' => ∃ lv, (∀ j, j < K.next → K'.get j = K.get j) ∧ Bld 1 K' K.next lv ((Z i).map (Value.int .i64)) ∧ K.next ≤ K'.next ∧ e' = [(1, ptrTo b1 0), (2, ptrTo b2 0), (3, ptrTo b3 0), (9, .int .i64 (n : Int)), (10, .int .i64 (i : Int)), (11, lv)]) ?_ ?_
    case refine_2 =>
      rintro e' K' ⟨lv, ho, hlv, hnK', rfl⟩
      have hb3K := Heap.lt_of_get g3
      have q1 := (ho b1 (by omega)).trans g1
      have q2 := (ho b2 (by omega)).trans g2
      have q3 := (ho b3 (by omega)).trans g3
      have ht2 : Bld 1 K' K9.next tv ((W i).map (ints .i64)) := ht.same fun j k hj hk => by rw [ho j (Heap.lt_of_get hk)]; exact hk
      by_cases hin : i + 1 < n
      · have hS : ∀ j, j < K.next → blkOf lv j = false := fun j hj => by
          rcases hlv.2 with ⟨e1, _⟩ | ⟨c, c1, e1, _⟩
          · rw [e1]; rfl
          · rw [e1]; simp [blkOf]; omega
        refine IWp.freezeE (blkOf lv) (.cons (.same _) (.cons (.same _) (.cons (.same _) (.cons (.same _) (.cons (.same _) (.cons hlv.frzV .nil)))))) ?_
        obtain ⟨K4, hK4⟩ : ∃ K4, K4 = K'.only fun j => !blkOf lv j := ⟨_, rfl⟩
        have ho4 : ∀ j, j < K.next → K4.get j = K'.get j := fun j hj => by
          rw [hK4]; show (if (!blkOf lv j) = true then K'.get j else none) = _
          rw [hS j hj]; rfl
        have hn4 : K4.next = K'.next := by rw [hK4]; rfl
        rw [← hK4]
        have ht4 : Bld 1 K4 K9.next tv ((W i).map (ints .i64)) := ht.same fun j k hj hk => by rw [ho4 j (Heap.lt_of_get hk), ho j (Heap.lt_of_get hk)]; exact hk
        have s1 := (ho4 b1 (by omega)).trans q1
        have s2 := (ho4 b2 (by omega)).trans q2
        have s3 := (ho4 b3 (by omega)).trans q3
        clear hK4 ho4
        obtain ⟨tv', K3, e3, b3', o3, n3, f3, t3⟩ := app_one (P := Tryd.prog) (t := 30) (e := 58) (sz := 1) (by_ := 24) (z := .slice none 0 0) (by kernel_rfl) (by kernel_rfl) (by kernel_rfl) (by kernel_rfl) rfl (ints .i64 (Z i)) [ints .i64 (Z i)] ht4 rfl rfl (by simp [one0, ints, frow]) (by omega) (by rw [List.length_map, hWl]; omega) (by rw [List.length_map, hWl]; omega)
        have u1 := (o3 b1 (by omega)).trans s1
        have u2 := (o3 b2 (by omega)).trans s2
        have u3 := (o3 b3 (by omega)).trans s3
        rw [List.length_map, hWl] at t3
        subst t3
        simp only [confT] at s3 u3
        refine IWp.one [1, 2, 3, 9, 10] ?_
        simp (disch := omega) [go_sem, -getElem?_pos, -List.map_take, -List.map_drop, IntWalk.iteOmega, IntWalk.toNatUp, IntWalk.i64_in, IntWalk.u8_in, IntWalk.i64_quo, IntWalk.u8_quo, IntWalk.rem_in, s3, u3, e3, get_alloc, show ¬ b3 = K4.next by omega]
        exact ⟨u1, u2, _, rfl, by omega, .inl ⟨hin, by rw [hW1, List.map_append]; exact b3'.same fun j k hj hk => by rw [get_set, if_neg (by omega)]; exact hk⟩⟩
      · have hie : i + 1 = n := by omega
        have hlc : lv.cells.toList = [lv] ∧ one0 lv = true := by
          rcases hlv.2 with ⟨e1, _⟩ | ⟨c, c1, e1, _⟩
          · rw [e1]; exact ⟨rfl, rfl⟩
          · rw [e1]; exact ⟨rfl, rfl⟩
        obtain ⟨tv', K3, e3, b3', o3, n3, f3, t3⟩ := app_one (P := Tryd.prog) (t := 30) (e := 58) (sz := 1) (by_ := 24) (z := .slice none 0 0) (by kernel_rfl) (by kernel_rfl) (by kernel_rfl) (by kernel_rfl) rfl lv [lv] ht2 hlc.1 rfl (by simp [hlc.2]) (by omega) (by rw [List.length_map, hWl]; omega) (by rw [List.length_map, hWl]; omega)
        have u1 := (o3 b1 (by omega)).trans q1
        have u2 := (o3 b2 (by omega)).trans q2
        have u3 := (o3 b3 (by omega)).trans q3
        rw [List.length_map, hWl] at t3
        subst t3
        have hlv3 : ∀ (H' : Heap), (∀ j, j ≠ b3 → H'.get j = K3.get j) → TabAt H' K9.next (.slice (some ⟨K'.next + 1, 0, some 1⟩) (i + 1) 1) lv (W (n - 1)) (Z (n - 1)) := fun H' hH' => by
          have hi1 : n - 1 = i := by omega
          rw [hi1]
          rcases b3'.2 with ⟨e1, _⟩ | ⟨c, c1, e1, c3⟩
          · cases e1
          · simp only [Value.slice.injEq, Option.some.injEq, Addr.mk.injEq, true_and, and_true] at e1
            obtain ⟨rfl, _⟩ := e1
            refine ⟨K'.next + 1, by omega, by rw [hWl], by rw [hH' _ (by omega), c3]; congr 2; rw [List.flatMap_append, List.flatMap_cons, List.flatMap_nil, hlc.1, List.append_nil]; congr 1; exact rows_flatI (W i), ⟨hlv.1, ?_⟩, ?_⟩
            · rcases hlv.2 with ⟨e1, e2⟩ | ⟨c, c1, e1, c3⟩
              · exact .inl ⟨e1, e2⟩
              · refine .inr ⟨c, by omega, e1, ?_⟩
                have hc := Heap.lt_of_get c3
                rw [hH' c (by omega), f3 c hc (fun o s l k e => ?_)]
                · exact c3
                · rcases ht.2 with ⟨e2, _⟩ | ⟨c2, _, e2, c4⟩
                  · rw [e2] at e; cases e
                  · rw [e2] at e; cases e
                    have := Heap.lt_of_get c4; omega
            · rcases hlv.2 with ⟨e1, e2⟩ | ⟨c, c1, e1, c3⟩
              · rw [e1]; rfl
              · have hc := Heap.lt_of_get c3
                rw [e1]; simp [blkOf]; omega
        simp only [confT] at q3 u3
        have hlvc : lv = .slice none 0 0 ∨ ∃ c m, lv = .slice (some ⟨c, 0, some 1⟩) m 1 := hlv.2.elim (fun h => .inl h.1) fun ⟨c, _, h, _⟩ => .inr ⟨c, _, h⟩
        rcases hlvc with rfl | ⟨c, m, rfl⟩
        · skip
          refine IWp.one [1, 2, 3, 9, 10] ?_
          simp (disch := omega) [go_sem, -getElem?_pos, -List.map_take, -List.map_drop, IntWalk.iteOmega, IntWalk.toNatUp, IntWalk.i64_in, IntWalk.u8_in, IntWalk.i64_quo, IntWalk.u8_quo, IntWalk.rem_in, q3, u3, e3, get_alloc, show ¬ b3 = K'.next by omega]
          exact ⟨u1, u2, _, rfl, by omega, .inr ⟨hie, _, hlv3 _ fun j hj => by rw [get_set, if_neg hj]⟩⟩
        · skip
          refine IWp.one [1, 2, 3, 9, 10] ?_
          simp (disch := omega) [go_sem, -getElem?_pos, -List.map_take, -List.map_drop, IntWalk.iteOmega, IntWalk.toNatUp, IntWalk.i64_in, IntWalk.u8_in, IntWalk.i64_quo, IntWalk.u8_quo, IntWalk.rem_in, q3, u3, e3, get_alloc, show ¬ b3 = K'.next by omega]
          exact ⟨u1, u2, _, rfl, by omega, .inr ⟨hie, _, hlv3 _ fun j hj => by rw [get_set, if_neg hj]⟩⟩
    refine IWp.one [1, 2, 3, 9, 10, 11, 12] ?_
    simp [go_sem, -getElem?_pos, -List.map_take, -List.map_drop, IntWalk.iteOmega, IntWalk.toNatUp]
    refine IWp.block ?_
    refine IWp.loop (fun j e K' => ∃ (f k : Nat) (lv : Value) (l : List Int), j = f ∧ 24 ≤ f + k ∧ l.length + f ≤ 24 ∧ f ≤ 24 ∧ k ≤ 30 ∧ (∀ x ∈ l, 0 ≤ x ∧ x < R) ∧ slotF d.slots R n f k l = Z i ∧ (∀ j, j < K.next → K'.get j = K.get j) ∧ Bld 1 K' K.next lv (l.map (Value.int .i64)) ∧ K.next ≤ K'.next ∧ e = [(1, ptrTo b1 0), (2, ptrTo b2 0), (3, ptrTo b3 0), (9, .int .i64 (n : Int)), (10, .int .i64 (i : Int)), (11, lv), (12, .int .i64 (k : Int))]) 24 ⟨24, i, .slice none 0 0, [], rfl, by omega, by simp, by omega, by omega, fun x h => (by cases h), by rw [hZ]; rfl, fun _ _ => rfl, Bld.nil _ _ _, Nat.le_refl _, by simp [go_sem]⟩ ?_
    rintro j e K' ⟨f, k, lv, l, rfl, hfk, hlf, hf24, hk30, hlR, hsl, ho, hlv, hnK', rfl⟩
    have hb3K := Heap.lt_of_get g3
    have q1 := (ho b1 (by omega)).trans g1
    have q3 := (ho b3 (by omega)).trans g3
    simp only [Draft.cells] at q1
    simp only [confT] at q3
    have hw12 := IntWalk.i64_in ((k : Int) + n) (by omega)
    by_cases hlt2 : k < d.slots.length ∧ k < 24
    case neg =>
      have hZe : l = Z i := by
        rw [← hsl]
        cases j with
        | zero => rfl
        | succ f => rw [slotF, if_neg hlt2]
      subst hZe
      by_cases h1 : k < d.slots.length
      · have h2 : ¬ k < 24 := fun h => hlt2 ⟨h1, h⟩
        have Kp : Kept [[1,2,3,9,10,11,12,193],[],[1,2,3,9,10,11]] := ⟨⟩
        iterate 3 (refine Kp.s ?_; clear Kp; intro Kp; simp (disch := omega) [go_sem, -getElem?_pos, -List.map_take, -List.map_drop, IntWalk.iteOmega, IntWalk.toNatUp, IntWalk.i64_in, IntWalk.u8_in, IntWalk.i64_quo, IntWalk.u8_quo, IntWalk.rem_in, q1, h1, h2])
        exact ⟨ho, hlv, hnK'⟩
      · skip
        have Kp : Kept [[1,2,3,9,10,11,12,193],[],[1,2,3,9,10,11]] := ⟨⟩
        iterate 3 (refine Kp.s ?_; clear Kp; intro Kp; simp (disch := omega) [go_sem, -getElem?_pos, -List.map_take, -List.map_drop, IntWalk.iteOmega, IntWalk.toNatUp, IntWalk.i64_in, IntWalk.u8_in, IntWalk.i64_quo, IntWalk.u8_quo, IntWalk.rem_in, q1, h1])
        exact ⟨ho, hlv, hnK'⟩
    obtain ⟨h1, h2⟩ := hlt2
    obtain ⟨f, rfl⟩ : ∃ f, j = f + 1 := ⟨j - 1, by omega⟩
    rw [slotF, if_pos ⟨h1, h2⟩] at hsl
    have gk : d.slots[k]? = some (d.slots.getD k 0) := by rw [List.getElem?_eq_getElem h1, List.getD_eq_getElem?_getD, List.getElem?_eq_getElem h1]; rfl
    have hsb : 0 ≤ d.slots.getD k 0 ∧ d.slots.getD k 0 < 256 := by
      rw [List.getD_eq_getElem?_getD, List.getElem?_eq_getElem h1]; exact d2 _ (List.getElem_mem h1)
    have hfl := hfr l (d.slots.getD k 0)
    generalize d.slots.getD k 0 = s0 at *
    have hm1 := Int.emod_nonneg s0 (show (R : Int) + 2 ≠ 0 by omega)
    have hm2 := Int.emod_lt_of_pos s0 (show 0 < (R : Int) + 2 by omega)
    have ht0 : s0.tmod ((R : Int) + 2) = s0 % ((R : Int) + 2) := Int.tmod_eq_emod_of_nonneg (by omega)
    generalize s0 % ((R : Int) + 2) = x at *
    have wx := IntWalk.i64_in x (by omega)
    have wR := IntWalk.i64_in ((R : Int) + 2) (by omega)
    have ws := IntWalk.i64_in s0 (by omega)
    have Kp : Kept [[1,2,3,9,10,11,12,193],[],[1,2,3,9,10,11,12]] := ⟨⟩
    iterate 3 (refine Kp.s ?_; clear Kp; intro Kp; simp [go_sem, -getElem?_pos, -List.map_take, -List.map_drop, IntWalk.iteOmega, IntWalk.toNatUp, q1, q3, h1, h2, gk, ht0, wx, wR, ws, hRn, show ¬ (R : Int) + 2 = 0 by omega, show (k : Int) < 24 by omega])
    refine IWp.cut (fun e' K2 => ∃ lv', (∀ j, j < K.next → K2.get j = K.get j) ∧ Bld 1 K2 K.next lv' ((fallS R l s0).map (Value.int .i64)) ∧ K.next ≤ K2.next ∧ e' = [(1, ptrTo b1 0), (2, ptrTo b2 0), (3, ptrTo b3 0), (9, .int .i64 (n : Int)), (10, .int .i64 (i : Int)), (11, lv'), (12, .int .i64 (k : Int))]) ?_ ?_
    case refine_2 =>
      rintro e' K2 ⟨lv', ho2, hlv2, hn2, rfl⟩
      refine IWp.one [1, 2, 3, 9, 10, 11, 12] ?_
      simp [go_sem, -getElem?_pos, -List.map_take, -List.map_drop, IntWalk.iteOmega, IntWalk.toNatUp, hw12]
      have hfin : ∀ x ∈ fallS R l s0, 0 ≤ x ∧ x < R := fun y hy => by
        rw [hfl] at hy
        split at hy
        · rename_i hc
          rcases List.mem_append.1 hy with hy | hy
          · exact hlR y hy
          · simp at hy; subst hy; exact ⟨hm1, hc.1⟩
        · exact hlR y hy
      have hfln : (fallS R l s0).length ≤ l.length + 1 := by rw [hfl]; split <;> simp
      exact ⟨f, by omega, k + n, by omega, lv', fallS R l s0, by omega, by omega, by omega, hfin, hsl, ho2, hlv2, hn2, rfl, by omega⟩
    refine IWp.block ?_
    refine IWp.seq ?_
    refine IWp.read [1, 2, 3, 9, 10, 11, 12, 13] follows (by kernel_rfl) ?_
    simp [go_sem, -getElem?_pos, -List.map_take, -List.map_drop, IntWalk.iteOmega, IntWalk.toNatUp, q1, q3, h1, h2, gk, ht0, wx, wR, ws, hRn, show ¬ (R : Int) + 2 = 0 by omega, show (k : Int) < 24 by omega]
    refine IWp.one [1, 2, 3, 9, 10, 11, 12, 13, 14] ?_
    simp [go_sem, -getElem?_pos, -List.map_take, -List.map_drop, IntWalk.iteOmega, IntWalk.toNatUp, q1, q3, h1, h2, gk, ht0, wx, wR, ws, hRn, show ¬ (R : Int) + 2 = 0 by omega, show (k : Int) < 24 by omega]
    refine IWp.cut (fun e' K2 => K2 = K' ∧ e' = [(1, ptrTo b1 0), (2, ptrTo b2 0), (3, ptrTo b3 0), (9, .int .i64 (n : Int)), (10, .int .i64 (i : Int)), (11, lv), (12, .int .i64 (k : Int)), (13, .int .i64 x), (14, .bool (decide ((R : Int) ≤ x) || decide (x ∈ l)))]) ?_ ?_
    case refine_2 =>
      rintro e' K2 ⟨rfl, rfl⟩
      by_cases hc : x < R ∧ ¬ x ∈ l
      · rw [if_pos hc] at hfl
        have hd1 : decide ((R : Int) ≤ x) = false := by simp; omega
        have hd2 : decide (x ∈ l) = false := by simp [hc.2]
        obtain ⟨lv', K3, e3, b3', s3, n3, f3, t3⟩ := app_one (P := Tryd.prog) (t := 58) (e := 3) (sz := 1) (by_ := 8) (z := .int .i64 0) (by kernel_rfl) (by kernel_rfl) (by kernel_rfl) (by kernel_rfl) rfl (.int .i64 x) [.int .i64 x] hlv rfl rfl (by simp [one0]) hnK' (by rw [List.length_map]; omega) (by rw [List.length_map]; omega)
        have Kp : Kept [[1,2,3,9,10,11,12,13,229],[],[1,2,3,9,10,11,12]] := ⟨⟩
        iterate 3 (refine Kp.s ?_; clear Kp; intro Kp; simp [go_sem, -getElem?_pos, -List.map_take, -List.map_drop, IntWalk.iteOmega, IntWalk.toNatUp, hd1, hd2, e3])
        exact ⟨fun j hj => (s3 j hj).trans (ho j hj), by rw [hfl, List.map_append]; exact b3', by omega⟩
      · rw [if_neg hc] at hfl
        have hd : (decide ((R : Int) ≤ x) || decide (x ∈ l)) = true := by
          by_cases h : (R : Int) ≤ x
          · simp [h]
          · have : x ∈ l := Classical.byContradiction fun h2 => hc ⟨by omega, h2⟩
            simp [this]
        rw [hd]
        have Kp : Kept [[1,2,3,9,10,11,12,13,229],[],[1,2,3,9,10,11,12]] := ⟨⟩
        iterate 3 (refine Kp.s ?_; clear Kp; intro Kp; simp [go_sem, -getElem?_pos, -List.map_take, -List.map_drop, IntWalk.iteOmega, IntWalk.toNatUp])
        exact ⟨ho, by rw [hfl]; exact hlv, hnK'⟩
    refine IWp.one [1, 2, 3, 9, 10, 11, 12, 13, 14, 15] ?_
    simp [go_sem, -getElem?_pos, -List.map_take, -List.map_drop, IntWalk.iteOmega, IntWalk.toNatUp]
    refine IWp.block ?_
    have hlv0 := hlv
    refine IWp.loop (fun q e K2 => ∃ (y : Nat), q = l.length - y ∧ y ≤ l.length ∧ K2 = K' ∧ e = [(1, ptrTo b1 0), (2, ptrTo b2 0), (3, ptrTo b3 0), (9, .int .i64 (n : Int)), (10, .int .i64 (i : Int)), (11, lv), (12, .int .i64 (k : Int)), (13, .int .i64 x), (14, .bool (decide ((R : Int) ≤ x) || decide (x ∈ l.take y))), (15, .int .i64 (y : Int))]) l.length ⟨0, rfl, Nat.zero_le _, rfl, by simp [go_sem]⟩ ?_
    rintro q e K2 ⟨y, rfl, hy, rfl, rfl⟩
    have wy := IntWalk.i64_in ((y : Int) + 1) (by omega)
    by_cases hyl : y < l.length
    · rcases hlv0.2 with ⟨_, e2⟩ | ⟨c, c1, rfl, c3⟩
      · have := congrArg List.length e2
        simp at this; subst this; simp at hyl
      rw [map_flat] at c3
      rw [List.length_map]
      have gy : l[y]? = some l[y] := List.getElem?_eq_getElem hyl
      have hst : decide (x ∈ l.take (y + 1)) = (decide (x ∈ l.take y) || decide (l[y] = x)) := by
        rw [List.take_succ_eq_append_getElem hyl]
        simp only [List.mem_append, List.mem_singleton, Bool.decide_or]
        congr 1
        exact decide_eq_decide.2 eq_comm
      generalize l[y] = z at *
      by_cases hz : (decide ((R : Int) ≤ x) || decide (x ∈ l.take y)) = true
      · have hz2 : (decide ((R : Int) ≤ x) || decide (x ∈ l.take (y + 1))) = true := by rw [hst, ← Bool.or_assoc, hz]; rfl
        rw [hz]
        have Kp : Kept [[1,2,3,9,10,11,12,13,14,15,216],[],[1,2,3,9,10,11,12,13,14,15],[1,2,3,9,10,11,12,13,14,15],[1,2,3,9,10,11,12,13,14,15]] := ⟨⟩
        iterate 5 (refine Kp.s ?_; clear Kp; intro Kp; simp [go_sem, -getElem?_pos, -List.map_take, -List.map_drop, IntWalk.iteOmega, IntWalk.toNatUp, c3, gy, hyl, wy])
        exact ⟨l.length - (y + 1), by omega, y + 1, rfl, by omega, by simpa using hz2, by omega⟩
      · have hz0 : (decide ((R : Int) ≤ x) || decide (x ∈ l.take y)) = false := by simpa using hz
        have hz2 : (decide ((R : Int) ≤ x) || decide (x ∈ l.take (y + 1))) = decide (z = x) := by rw [hst, ← Bool.or_assoc, hz0]; rfl
        rw [hz0]
        have Kp : Kept [[1,2,3,9,10,11,12,13,14,15,216],[],[1,2,3,9,10,11,12,13,14,15],[1,2,3,9,10,11,12,13,14,15],[1,2,3,9,10,11,12,13,14,15]] := ⟨⟩
        iterate 5 (refine Kp.s ?_; clear Kp; intro Kp; simp [go_sem, -getElem?_pos, -List.map_take, -List.map_drop, IntWalk.iteOmega, IntWalk.toNatUp, c3, gy, hyl, wy])
        exact ⟨l.length - (y + 1), by omega, y + 1, rfl, by omega, hz2.symm, by omega⟩
    · have hty : l.take y = l := List.take_of_length_le (by omega)
      rw [hty]
      rcases hlv0.2 with ⟨rfl, e2⟩ | ⟨c, c1, rfl, c3⟩
      · have hl0 : l = [] := by simpa using e2
        subst hl0
        have Kp : Kept [[1,2,3,9,10,11,12,13,14,15,216],[],[1,2,3,9,10,11,12,13,14]] := ⟨⟩
        iterate 3 (refine Kp.s ?_; clear Kp; intro Kp; simp [go_sem, -getElem?_pos, -List.map_take, -List.map_drop, IntWalk.iteOmega, IntWalk.toNatUp, hyl])
      · rw [List.length_map]
        have Kp : Kept [[1,2,3,9,10,11,12,13,14,15,216],[],[1,2,3,9,10,11,12,13,14]] := ⟨⟩
        iterate 3 (refine Kp.s ?_; clear Kp; intro Kp; simp [go_sem, -getElem?_pos, -List.map_take, -List.map_drop, IntWalk.iteOmega, IntWalk.toNatUp, hyl])
  clear g1 g2 g3 g1'
  rintro e K ⟨tv, lv, k1, k2, k3, ht, hnK, rfl⟩
  have hZl : ∀ i, (Z i).length ≤ 24 := fun i => by rw [hZ]; have := slotF_len d.slots R n 24 i []; simpa [slotS] using this
  have hWm : ∀ i, ∀ x ∈ W i, x.length ≤ 24 := fun i x hx => by
    rw [hW] at hx
    obtain ⟨j, _, rfl⟩ := List.mem_map.1 hx
    exact hZl j
  have hWn : W n = W (n - 1) ++ [Z (n - 1)] := by have := hW1 (n - 1); rwa [show n - 1 + 1 = n by omega] at this
  obtain ⟨F, hF⟩ : ∃ F : Nat → List (List Int), F = fun i => (List.range i).foldl (fun T (i : Nat) => lastAdd T i) (W n) := ⟨_, rfl⟩
  have hF0 : F 0 = W (n - 1) ++ [Z (n - 1)] := by rw [hF, ← hWn]; rfl
  have hF1 : ∀ i, F (i + 1) = lastAdd (F i) i := fun i => by rw [hF]; simp [List.range_succ, List.foldl_append]
  have hTS : F R = tableS d := by rw [hF]; unfold tableS; rw [hRv, hRn, ← hn, hW, hZ]
  refine IWp.cut (fun e K => ∃ lv l, K.get b1 = some ⟨d.cells, true⟩ ∧ K.get b2 = some ⟨confZ, true⟩ ∧ K.get b3 = some ⟨confT RS tv, true⟩ ∧ TabAt K K9.next tv lv (W (n - 1)) l ∧ tableS d = W (n - 1) ++ [l] ∧ l.length ≤ 40 ∧ K9.next ≤ K.next ∧ e = [(1, ptrTo b1 0), (2, ptrTo b2 0), (3, ptrTo b3 0), (9, .int .i64 (n : Int))]) ?_ ?_
  · skip
    refine IWp.one [1, 2, 3, 9, 16] ?_
    simp [go_sem, -getElem?_pos, -List.map_take, -List.map_drop, IntWalk.iteOmega, IntWalk.toNatUp]
    refine IWp.block ?_
    refine IWp.loop (fun j e K => ∃ (i : Nat) (lv : Value) (l : List Int), j = R - i ∧ i ≤ R ∧ K.get b1 = some ⟨d.cells, true⟩ ∧ K.get b2 = some ⟨confZ, true⟩ ∧ K.get b3 = some ⟨confT RS tv, true⟩ ∧ TabAt K K9.next tv lv (W (n - 1)) l ∧ F i = W (n - 1) ++ [l] ∧ l.length ≤ 24 + i ∧ K9.next ≤ K.next ∧ e = [(1, ptrTo b1 0), (2, ptrTo b2 0), (3, ptrTo b3 0), (9, .int .i64 (n : Int)), (16, .int .i64 (i : Int))]) R ⟨0, lv, Z (n - 1), rfl, Nat.zero_le _, k1, k2, k3, ht, hF0, by have := hZl (n - 1); omega, hnK, by simp [go_sem]⟩ ?_
    clear k1 k2 k3 ht hnK
    rintro j e K ⟨i, lv, l, rfl, hi, k1, k2, k3, ht, hFi, hl, hnK, rfl⟩
    have k3' := k3
    simp only [confT] at k3'
    have w4 := IntWalk.i64_in ((i : Int) + 1) (by omega)
    by_cases hlt : i < R
    · have hst := hF1 i
      rw [hFi, lastAdd_app] at hst
      have hstd : ICalls Tryd.prog 21 [.agg ⟨confT RS tv⟩, .int .i64 (i : Int)] K fun v H' => v = .bool (standsS (W (n - 1) ++ [l]) i) ∧ H' = K := by
        refine ICalls.view (us := [Config.val ⟨sigsS, RS, W (n - 1) ++ [l], 0, 0, 0, 0, 0, 0, false, 0⟩, .int .i64 (i : Int)]) (.cons (.agg (.cons (.same _) (.cons (.same _) (.cons ht.frz (FrzL.same _))))) (.cons (.same _) .nil)) (by rw [ClL_cons, Config.cl_val, ClL_cons, Cl_int, ClL_nil]; exact ⟨trivial, trivial, trivial⟩) ((refStands Heap.empty ⟨sigsS, RS, W (n - 1) ++ [l], 0, 0, 0, 0, 0, 0, false, 0⟩ i (by simp [hWl]; omega) (fun x hx => ?_)).mono ?_)
        · rcases List.mem_append.1 hx with hx | hx
          · have := hWm _ x hx; omega
          · simp at hx; subst hx; omega
        · rintro v _ ⟨rfl, rfl⟩
          exact ⟨rfl, rfl⟩
      simp only [confT] at hstd
      by_cases hs : standsS (W (n - 1) ++ [l]) i = true
      · rw [if_pos hs] at hst
        rw [hs] at hstd
        have Kp : Kept [[1,2,3,9,16,244],[],[1,2,3,9,16],[1,2,3,9,16,250]] := ⟨⟩
        iterate 4 (refine Kp.s ?_; clear Kp; intro Kp; simp (disch := omega) [go_sem, -getElem?_pos, -List.map_take, -List.map_drop, IntWalk.iteOmega, IntWalk.toNatUp, IntWalk.i64_in, IntWalk.u8_in, IntWalk.i64_quo, IntWalk.u8_quo, IntWalk.rem_in, k3', hlt, w4, hRn])
        refine ICalls.then (hstd) ?_
        try simp (disch := omega) [go_sem, -getElem?_pos, -List.map_take, -List.map_drop, IntWalk.iteOmega, IntWalk.toNatUp, IntWalk.i64_in, IntWalk.u8_in, IntWalk.i64_quo, IntWalk.u8_quo, IntWalk.rem_in, k3', hlt, w4, hRn]
        have Kp : Kept [[],[1,2,3,9,16],[1,2,3,9,16]] := ⟨⟩
        iterate 3 (refine Kp.s ?_; clear Kp; intro Kp; simp (disch := omega) [go_sem, -getElem?_pos, -List.map_take, -List.map_drop, IntWalk.iteOmega, IntWalk.toNatUp, IntWalk.i64_in, IntWalk.u8_in, IntWalk.i64_quo, IntWalk.u8_quo, IntWalk.rem_in, k3', hlt, w4, hRn])
        exact ⟨R - (i + 1), by omega, i + 1, rfl, by omega, k1, k2, rfl, lv, l, ht, hst, by omega, hnK, by omega⟩
      · rw [if_neg hs] at hst
        have hs2 : standsS (W (n - 1) ++ [l]) i = false := by simpa using hs
        rw [hs2] at hstd
        obtain ⟨tb, t1, htv, t3, t4, t5⟩ := ht
        rw [hWl, show n - 1 + 1 = n by omega] at htv
        rw [htv] at k3' hstd
        have hb3K := Heap.lt_of_get k3
        have htbK := Heap.lt_of_get t3
        obtain ⟨lv', K3, e3, b3', o3, n3, f3, t3'⟩ := app_one (P := Tryd.prog) (t := 58) (e := 3) (sz := 1) (by_ := 8) (z := .int .i64 0) (by kernel_rfl) (by kernel_rfl) (by kernel_rfl) (by kernel_rfl) rfl (.int .i64 (i : Int)) [.int .i64 (i : Int)] t4 rfl rfl (by simp [one0]) hnK (by rw [List.length_map]; omega) (by rw [List.length_map]; omega)
        have u1 := (o3 b1 (by omega)).trans k1
        have u2 := (o3 b2 (by omega)).trans k2
        have u3 := (o3 b3 (by omega)).trans k3'
        have ub : K3.get tb = some ⟨(W (n - 1)).map (ints .i64) ++ [lv], true⟩ := by
          rw [f3 tb htbK fun o s l c e => by rw [e] at t5; simp [blkOf] at t5]; exact t3
        have gl : ((W (n - 1)).map (ints .i64) ++ [lv])[n - 1]? = some lv := by rw [List.getElem?_append_right (by simp [hWl]), List.length_map, hWl]; simp
        have hcl : ((W (n - 1)).map (ints .i64) ++ [lv]).length = n := by simp [hWl]; omega
        have hspl : splice ((W (n - 1)).map (ints .i64) ++ [lv]) (n - 1) [lv'] = (W (n - 1)).map (ints .i64) ++ [lv'] := by
          rw [splice_one' _ _ _ (by omega), List.set_append_right _ _ (by simp [hWl])]
          simp [hWl]
        rw [List.length_map] at t3'
        subst t3'
        have hlv' : ∀ H', H'.get tb = some ⟨(W (n - 1)).map (ints .i64) ++ [Value.slice (some ⟨K.next + 1, 0, some 1⟩) (l.length + 1) 1], true⟩ → (∀ j, j ≠ tb → H'.get j = K3.get j) → TabAt H' K9.next tv (Value.slice (some ⟨K.next + 1, 0, some 1⟩) (l.length + 1) 1) (W (n - 1)) (l ++ [(i : Int)]) := fun H' hg1 hg2 => by
          rcases b3'.2 with ⟨e1, _⟩ | ⟨c, c1, e1, c3⟩
          · cases e1
          · have e2 := e1
            simp only [Value.slice.injEq, Option.some.injEq, Addr.mk.injEq, true_and, and_true] at e2
            obtain ⟨e2, _⟩ := e2
            refine ⟨tb, t1, by rw [htv, hWl, show n - 1 + 1 = n by omega], hg1, ?_, by simp [blkOf]; omega⟩
            rw [List.map_append]
            exact ⟨b3'.1, .inr ⟨c, c1, e1, by rw [hg2 c (by omega)]; exact c3⟩⟩
        have wn := IntWalk.i64_in ((n : Int) - 1) (by omega)
        have wn2 : ((n : Int) - 1).toNat = n - 1 := by omega
        have hbne : ¬ b3 = tb := by omega
        have hlvc : lv = .slice none 0 0 ∨ ∃ c m, lv = .slice (some ⟨c, 0, some 1⟩) m 1 := t4.2.elim (fun h => .inl h.1) fun ⟨c, _, h, _⟩ => .inr ⟨c, _, h⟩
        generalize hCS : (W (n - 1)).map (ints .i64) ++ [lv] = CS at *
        generalize hCS2 : (W (n - 1)).map (ints .i64) ++ [Value.slice (some ⟨K.next + 1, 0, some 1⟩) (l.length + 1) 1] = CS2 at *
        have Kp : Kept [[1,2,3,9,16,244],[],[1,2,3,9,16],[1,2,3,9,16,250]] := ⟨⟩
        iterate 4 (refine Kp.s ?_; clear Kp; intro Kp; simp [go_sem, -getElem?_pos, -List.map_take, -List.map_drop, IntWalk.iteOmega, IntWalk.toNatUp, k3', hlt, w4, hRn, wn, wn2, t3, ub, gl, hcl, hspl, e3, u3, get_alloc, hbne, show ¬ b3 = K.next by omega, show ¬ tb = K.next by omega, show n - 1 < n by omega])
        refine ICalls.then (hstd) ?_
        try simp [go_sem, -getElem?_pos, -List.map_take, -List.map_drop, IntWalk.iteOmega, IntWalk.toNatUp, k3', hlt, w4, hRn, wn, wn2, t3, ub, gl, hcl, hspl, e3, u3, get_alloc, hbne, show ¬ b3 = K.next by omega, show ¬ tb = K.next by omega, show n - 1 < n by omega]
        refine IWp.one [] ?_
        simp [go_sem, -getElem?_pos, -List.map_take, -List.map_drop, IntWalk.iteOmega, IntWalk.toNatUp, k3', hlt, w4, hRn, wn, wn2, t3, ub, gl, hcl, hspl, e3, u3, get_alloc, hbne, show ¬ b3 = K.next by omega, show ¬ tb = K.next by omega, show n - 1 < n by omega]
        refine IWp.draw [1, 2, 3, 9, 16] [b3] (.val 0 (.val 2 (.val 3 (.val 4 (.val 6 (.val 7 (.val 10 (.val 1 (.val 5 (.val 8 (.eff 9 (.eff 11 (.eff 12 (.val 13 (.eff 14 .done .done)) .done) .done) (.eff 11 (.ld 9 [12, 13, 14] (.eff 12 (.val 13 (.eff 14 .done .done)) .done)) .done)))))))))))) follows (by kernel_rfl) ?_
        simp [go_sem, -getElem?_pos, -List.map_take, -List.map_drop, IntWalk.iteOmega, IntWalk.toNatUp, k3', hlt, w4, hRn, wn, wn2, t3, ub, gl, hcl, hspl, e3, u3, get_alloc, hbne, show ¬ b3 = K.next by omega, show ¬ tb = K.next by omega, show n - 1 < n by omega]
        refine IWp.one [1, 2, 3, 9, 16] ?_
        simp [go_sem, -getElem?_pos, -List.map_take, -List.map_drop, IntWalk.iteOmega, IntWalk.toNatUp, k3', hlt, w4, hRn, wn, wn2, t3, ub, gl, hcl, hspl, e3, u3, get_alloc, hbne, show ¬ b3 = K.next by omega, show ¬ tb = K.next by omega, show n - 1 < n by omega]
        exact ⟨R - (i + 1), by omega, i + 1, rfl, by omega, u1, u2, by rw [htv]; rfl, _, l ++ [(i : Int)], hlv' _ (by rw [get_set, if_pos rfl, ub]; rfl) (fun j hj => by rw [get_set, if_neg hj]), hst, by simp; omega, by omega, by omega⟩
    · have hiR : i = R := by omega
      subst hiR
      have Kp : Kept [[1,2,3,9,16,244],[],[1,2,3,9]] := ⟨⟩
      iterate 3 (refine Kp.s ?_; clear Kp; intro Kp; simp (disch := omega) [go_sem, -getElem?_pos, -List.map_take, -List.map_drop, IntWalk.iteOmega, IntWalk.toNatUp, IntWalk.i64_in, IntWalk.u8_in, IntWalk.i64_quo, IntWalk.u8_quo, IntWalk.rem_in, k3', hRn])
      exact ⟨k1, k2, rfl, lv, l, ht, by rw [← hTS, hFi], by omega, hnK⟩
  clear k1 k2 k3 ht hnK hF0 hF1 hTS hF F
  rintro e K ⟨lv, l, k1, k2, k3, ht, hTd, hl, hnK, rfl⟩
  obtain ⟨K5, hf5, h5, ho5, hn5⟩ := FrzH.one (S := fun j => decide (K9.next ≤ j)) (b := b3) (cs' := confT RS (frow 1 0 ((tableS d).map (ints .i64)))) (by simp; omega) k3 (.cons (.same _) (.cons (.same _) (.cons (by
    rw [hTd]
    obtain ⟨tb, t1, htv, t3, t4, t5⟩ := ht
    have := Frz.row (H := K) (S := fun j => decide (K9.next ≤ j)) (b := tb) (o := 0) (sz := 1) (c := 1) (us := (W (n - 1) ++ [l]).map (ints .i64)) t3 (by simpa using t1) (by rw [List.drop_zero]; exact frzE_tab (Bld.frzW t4 fun b hb => by simpa using hb) _)
    rw [List.length_map, List.length_append] at this
    rw [htv]; exact this) (FrzL.same _))))
  refine IWp.freezeH K5 _ (.cons (.same _) (.cons (.same _) (.cons (.same _) (.cons (.same _) .nil)))) hf5 ?_
  have s1 := (ho5 b1 (by omega) (by simp; omega)).trans k1
  have s2 := (ho5 b2 (by omega) (by simp; omega)).trans k2
  clear hf5 ho5 ht k1 k2 k3
  have hTl : (tableS d).length = n := by rw [hTd]; simp [hWl]; omega
  have hTm : ∀ x ∈ tableS d, x.length ≤ 40 := fun x hx => by
    rw [hTd] at hx
    rcases List.mem_append.1 hx with hx | hx
    · have := hWm _ x hx; omega
    · simp at hx; subst hx; exact hl
  have hEn : ∀ m ≤ (tableS d).length, (entriesS ((tableS d).take m) : Int) < 9223372036854775808 := fun m hm => by
    have := entriesS_le 40 ((tableS d).take m) fun x hx => hTm x (List.mem_of_mem_take hx)
    rw [List.length_take] at this
    omega
  have hEb := entriesS_le 40 (tableS d) hTm
  rw [hTl] at hEb
  have hmk : makeS d = ⟨sigsS, RS, tableS d, 1 + d.bands % 16 % 3, 1 + d.bands % 16 / 2 % 3, 1 + d.bands % 16 / 4 % 4, (entriesS (tableS d) : Int) / n + 1 + d.drain % 4 / 3 * 2, 1 + d.pause % 30, 1 + d.off % 30, d.brk, 1 + d.log % 40⟩ := by
    unfold makeS; rw [hRv, ← hn]
  have hent := fun K => refEntries K ⟨sigsS, RS, tableS d, 1 + d.bands % 16 % 3, 1 + d.bands % 16 / 2 % 3, 1 + d.bands % 16 / 4 % 4, 0, 0, 0, false, 0⟩ (show (tableS d).length ≤ 1000000 by omega) hEn
  clear hEn hTm hTd
  generalize hTT : tableS d = T at *
  simp only [Draft.cells] at s1
  simp only [confT] at h5
  rw [hmk]
  have hqn : (entriesS T : Int) / n ≤ entriesS T := Int.ediv_le_self _ (by omega)
  have hqp : 0 ≤ (entriesS T : Int) / n := Int.ediv_nonneg (by omega) (by omega)
  have Kp : Kept [[1,2,3,9,17],[1,2,3,9]] := ⟨⟩
  iterate 2 (refine Kp.s ?_; clear Kp; intro Kp; simp (disch := omega) [go_sem, -getElem?_pos, -List.map_take, -List.map_drop, IntWalk.iteOmega, IntWalk.toNatUp, IntWalk.i64_in, IntWalk.u8_in, IntWalk.i64_quo, IntWalk.u8_quo, IntWalk.rem_in, s1, s2, h5, confZ, Config.val, Config.cells, show ¬ b1 = b3 by omega, show ¬ b2 = b3 by omega, show ¬ (n : Int) = 0 by omega, show ¬ n = 0 by omega])
  refine IWp.seq ?_
  refine IWp.draw [1, 2, 3] [b1] (.ld 0 [1, 3, 4, 11, 12, 13] (.val 2 (.val 5 (.val 6 (.val 7 (.val 8 (.val 9 (.val 10 (.eff 1 (.val 3 (.val 4 (.val 11 (.val 12 (.eff 13 .done .done))))) .done))))))))) follows (by kernel_rfl) ?_
  simp (disch := omega) [go_sem, -getElem?_pos, -List.map_take, -List.map_drop, IntWalk.iteOmega, IntWalk.toNatUp, IntWalk.i64_in, IntWalk.u8_in, IntWalk.i64_quo, IntWalk.u8_quo, IntWalk.rem_in, s1, s2, h5, confZ, Config.val, Config.cells, show ¬ b1 = b3 by omega, show ¬ b2 = b3 by omega, show ¬ (n : Int) = 0 by omega, show ¬ n = 0 by omega]
  refine ICalls.then (hent _) ?_
  try simp (disch := omega) [go_sem, -getElem?_pos, -List.map_take, -List.map_drop, IntWalk.iteOmega, IntWalk.toNatUp, IntWalk.i64_in, IntWalk.u8_in, IntWalk.i64_quo, IntWalk.u8_quo, IntWalk.rem_in, s1, s2, h5, confZ, Config.val, Config.cells, show ¬ b1 = b3 by omega, show ¬ b2 = b3 by omega, show ¬ (n : Int) = 0 by omega, show ¬ n = 0 by omega]
  refine IWp.seq ?_
  refine IWp.draw [2, 3] [b1] (.val 0 (.ld 1 [2, 3, 4, 17, 18, 19, 20, 21, 22, 23, 24] (.val 2 (.val 3 (.val 4 (.val 5 (.val 10 (.val 12 (.val 17 (.val 6 (.val 7 (.val 8 (.val 9 (.val 11 (.val 13 (.val 14 (.val 15 (.val 16 (.eff 18 (.val 19 (.eff 20 (.val 21 (.eff 22 (.val 23 (.eff 24 .done .done)) .done)) .done)) .done))))))))))))))))))) follows (by kernel_rfl) ?_
  simp (disch := omega) [go_sem, -getElem?_pos, -List.map_take, -List.map_drop, IntWalk.iteOmega, IntWalk.toNatUp, IntWalk.i64_in, IntWalk.u8_in, IntWalk.i64_quo, IntWalk.u8_quo, IntWalk.rem_in, s1, s2, h5, confZ, Config.val, Config.cells, show ¬ b1 = b3 by omega, show ¬ b2 = b3 by omega, show ¬ (n : Int) = 0 by omega, show ¬ n = 0 by omega]
  have Kp : Kept [[2],[]] := ⟨⟩
  iterate 2 (refine Kp.s ?_; clear Kp; intro Kp; simp (disch := omega) [go_sem, -getElem?_pos, -List.map_take, -List.map_drop, IntWalk.iteOmega, IntWalk.toNatUp, IntWalk.i64_in, IntWalk.u8_in, IntWalk.i64_quo, IntWalk.u8_quo, IntWalk.rem_in, s1, s2, h5, confZ, Config.val, Config.cells, show ¬ b1 = b3 by omega, show ¬ b2 = b3 by omega, show ¬ (n : Int) = 0 by omega, show ¬ n = 0 by omega])
end Go.Proofs.YtoecebibhcadoaaDoor.I
