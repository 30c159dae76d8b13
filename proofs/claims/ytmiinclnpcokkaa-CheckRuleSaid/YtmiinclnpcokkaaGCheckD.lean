/- What must hold of a configuration: the first that does not; the list of all of it. No condition. -/
import Derived.Test.YtmiinclnpcokkaaGCheckC
namespace Go.Proofs.Ytmiinclnpcokkaa.I
open Go Go.RowKit
set_option linter.unusedVariables false
set_option linter.unusedSimpArgs false

section firsts
variable (pl : Nat → Nat) (h : Nat → Nat → Bool) (N : Nat)
def badAt (n : Nat) : Option Nat := (List.range (pl n)).find? fun i => !h n i
def firstAt : Int × Int := match (List.range N).find? (fun n => (badAt pl h n).isSome) with
  | none => (0, 0)
  | some n => ((n : Int) + 1, (((badAt pl h n).getD 0 : Nat) : Int))
variable {pl h N}
theorem badAt_none {n : Nat} (ha : ∀ i, i < pl n → h n i = true) : badAt pl h n = none := by
  unfold badAt
  rw [List.find?_range_eq_none]
  intro i hi; simp [ha i hi]
theorem badAt_some {n i : Nat} (hi : i < pl n) (hb : h n i = false) (ha : ∀ j, j < i → h n j = true) : badAt pl h n = some i := by
  unfold badAt
  rw [List.find?_range_eq_some]
  exact ⟨by simp [hb], List.mem_range.2 hi, fun j hj => by simp [ha j hj]⟩
theorem firstAt_none (ha : ∀ n, n < N → ∀ i, i < pl n → h n i = true) : firstAt pl h N = (0, 0) := by
  unfold firstAt
  rw [List.find?_range_eq_none.2 fun n hn => by rw [badAt_none (ha n hn)]; rfl]
theorem firstAt_some {n i : Nat} (hn : n < N) (hi : i < pl n) (hb : h n i = false) (h1 : ∀ m, m < n → ∀ j, j < pl m → h m j = true) (h2 : ∀ j, j < i → h n j = true) : firstAt pl h N = ((n : Int) + 1, (i : Int)) := by
  have e : (List.range N).find? (fun n => (badAt pl h n).isSome) = some n := by
    rw [List.find?_range_eq_some]
    exact ⟨by rw [badAt_some hi hb h2]; rfl, List.mem_range.2 hn, fun j hj => by rw [badAt_none (h1 j hj)]; rfl⟩
  unfold firstAt
  rw [e]
  simp only [badAt_some hi hb h2, Option.getD_some]
end firsts

def bandAt (c : Config) (i : Nat) : Int := if i = 0 then c.b0 else if i = 1 then c.b1 else c.b2
def placesS (c : Config) : Nat → Nat
  | 0 => 1
  | 1 => c.sigs.length
  | 2 => 1
  | 10 => 1
  | 11 => c.table.length
  | 13 => 3
  | 14 => 1
  | 15 => 1
  | 16 => 1
  | _ => c.rules.length
def holdsS (c : Config) (n i : Nat) : Bool :=
  match n with
  | 0 => inS c.sigs.length 1 8
  | 1 => match c.sigs[i]? with | some s => sigB s | none => true
  | 2 => inS c.rules.length 1 32
  | 10 => inS c.table.length 1 64
  | 11 => match c.table[i]? with | some l => decide (SlotOk c.rules.length l) | none => true
  | 12 => standsS c.table i
  | 13 => inS (bandAt c i) 1 32
  | 14 => inS c.drain 1 64 && decide ((entriesS c.table : Int) < c.drain * c.table.length)
  | 15 => inS c.pause 1 100000 && inS c.off 1 100000
  | 16 => inS c.log 1 256
  | n => match c.rules[i]? with | some r => ruleB c.sigs.length n r | none => true
def firstS (c : Config) : Int × Int := firstAt (placesS c) (holdsS c) 17

/-- Configurations whose rows are short. -/
structure Sized (c : Config) : Prop where
  sigs : c.sigs.length ≤ 1000
  rules : c.rules.length ≤ 1000
  table : c.table.length ≤ 1000
  rows : ∀ x ∈ c.table, x.length ≤ 1000000
  stages : ∀ r ∈ c.rules, r.stages.length ≤ 1000000
theorem entriesS_le' (k : Nat) : ∀ T : List (List Int), (∀ x ∈ T, x.length ≤ k) → entriesS T ≤ k * T.length
  | [], _ => Nat.zero_le _
  | x :: T, h => by
    have h1 := h x (by simp)
    have h2 := entriesS_le' k T fun y hy => h y (by simp [hy])
    show x.length + entriesS T ≤ k * (T.length + 1)
    rw [Nat.mul_add]; omega
theorem Sized.ent {c : Config} (hS : Sized c) (n : Nat) (hn : n ≤ c.table.length) : (entriesS (c.table.take n) : Int) < 9223372036854775808 := by
  have h1 := entriesS_le' 1000000 (c.table.take n) fun x hx => hS.rows x (List.mem_of_mem_take hx)
  have h2 := hS.table
  have h3 : 1000000 * (c.table.take n).length ≤ 1000000 * 1000 := Nat.mul_le_mul_left _ (by simp; omega)
  omega

theorem Frz.ptrL {H : Heap} {S : Nat → Bool} {b o : Nat} {cs : List Value} {x : Value} (hg : H.get b = some ⟨cs, true⟩) (hS : S b = true) (h : FrzL H S cs x.cells.toList) : Frz H S (.pointer (some ⟨b, o, none⟩)) (fptr o x) := by
  refine .ptr hg hS ?_
  have := FrzE.cons (sz := cs.length) (cs := []) rfl h .nil
  rwa [List.append_nil] at this
theorem Frz.clo {H : Heap} {S : Nat → Bool} {f : FuncId} {m m' : List Value} (h : FrzL H S m m') : Frz H S (.func (.func f) ⟨[]⟩ ⟨m⟩) (.func (.func f) ⟨[]⟩ ⟨m'⟩) := .func .nil h

section closures
theorem oneF (H : Heap) (i : Int) (b : Bool) : ICalls Try.prog 67 [.int .i64 i, fptr 0 (.bool b)] H fun v H' => v = .bool b ∧ H' = H := by
  refine ICalls.ans (by simp [go_sem]) fun H => IBody.calls (by kernel_rfl) ?_
  refine IBody.of Try.func67 rfl (by rw [Try.ntmps67]; simp) ?_
  rw [Try.ntmps67]
  refine IWp.seq ?_
  refine IWp.run [1] ?_
  simp [go_sem, -getElem?_pos, -List.map_take, -List.map_drop, List.getElem?_cons_zero, List.getElem?_cons_succ, Go.IntWalk.iteOmega, Go.IntWalk.toNatUp]
  refine IWp.seq ?_
  refine IWp.run [3] ?_
  simp [go_sem, -getElem?_pos, -List.map_take, -List.map_drop, List.getElem?_cons_zero, List.getElem?_cons_succ, Go.IntWalk.iteOmega, Go.IntWalk.toNatUp]
  refine IWp.ret ?_
  simp [go_sem, -getElem?_pos, -List.map_take, -List.map_drop, List.getElem?_cons_zero, List.getElem?_cons_succ, Go.IntWalk.iteOmega, Go.IntWalk.toNatUp, Try.results67]
  try exact .same _
def oneV (b : Bool) : Value := .agg ⟨[.int .i64 1, .func (.func 67) ⟨[]⟩ ⟨[fptr 0 (.bool b)]⟩]⟩
theorem oneC (H : Heap) (b : Bool) : ICalls Try.prog 49 [.bool b] H fun v H' => v = oneV b ∧ H' = H := by
  refine ICalls.ans (by unfold oneV; simp [go_sem]) fun H => IBody.calls (by kernel_rfl) ?_
  refine IBody.of Try.func49 rfl (by rw [Try.ntmps49]; simp) ?_
  rw [Try.ntmps49]
  refine IWp.seq ?_
  refine IWp.run [1, 2] ?_
  simp [go_sem, -getElem?_pos, -List.map_take, -List.map_drop, List.getElem?_cons_zero, List.getElem?_cons_succ, Go.IntWalk.iteOmega, Go.IntWalk.toNatUp]
  refine IWp.seq ?_
  refine IWp.run [2] ?_
  simp [go_sem, -getElem?_pos, -List.map_take, -List.map_drop, List.getElem?_cons_zero, List.getElem?_cons_succ, Go.IntWalk.iteOmega, Go.IntWalk.toNatUp]
  refine IWp.ret ?_
  simp [go_sem, -getElem?_pos, -List.map_take, -List.map_drop, List.getElem?_cons_zero, List.getElem?_cons_succ, Go.IntWalk.iteOmega, Go.IntWalk.toNatUp, Try.results49]
  exact .agg (.cons (.same _) (.cons (.clo (.cons (.ptrL (cs := [.bool b]) (by simp [get_alloc, next_alloc]) rfl (FrzL.same _)) .nil)) .nil))

theorem eachF (H : Heap) (c : Config) (i : Nat) (r : Rule) (g : FuncId) (cap : List Value) (b : Bool) (hr : c.rules[i]? = some r) (hc : ∀ K, ICalls Try.prog g (r.val :: cap) K fun v H' => v = .bool b ∧ H' = K) :
    ICalls Try.prog 68 [.int .i64 i, fptr 0 (.func (.func g) ⟨[]⟩ ⟨cap⟩), fptr 0 c.val] H fun v H' => v = .bool b ∧ H' = H := by
  refine ICalls.ans (by simp [go_sem]) fun H => IBody.calls (by kernel_rfl) ?_
  have hlt : i < c.rules.length := (List.getElem?_eq_some_iff.1 hr).1
  have g : (c.rules.map Rule.val)[i]? = some r.val := by rw [List.getElem?_map, hr]; rfl
  simp only [Rule.val, Rule.cells] at hc g
  refine IBody.of Try.func68 rfl (by rw [Try.ntmps68]; simp) ?_
  rw [Try.ntmps68]
  refine IWp.seq ?_
  refine IWp.run [0, 1, 2] ?_
  simp [go_sem, -getElem?_pos, -List.map_take, -List.map_drop, List.getElem?_cons_zero, List.getElem?_cons_succ, Go.IntWalk.iteOmega, Go.IntWalk.toNatUp, Config.val, Config.cells, g, hlt]
  refine IWp.seq ?_
  refine IWp.draw [4] [] (.ld 0 [6, 7] (.val 1 (.ld 2 [4, 5, 6, 7] (.val 3 (.val 4 (.ld 5 [6, 7] (.eff 6 (.val 7 .done) .done))))))) follows (by kernel_rfl) ?_
  simp [go_sem, -getElem?_pos, -List.map_take, -List.map_drop, List.getElem?_cons_zero, List.getElem?_cons_succ, Go.IntWalk.iteOmega, Go.IntWalk.toNatUp, Config.val, Config.cells, g, hlt]
  refine ICalls.then (hc _) ?_
  try simp [go_sem, -getElem?_pos, -List.map_take, -List.map_drop, List.getElem?_cons_zero, List.getElem?_cons_succ, Go.IntWalk.iteOmega, Go.IntWalk.toNatUp, Config.val, Config.cells, g, hlt]
  refine IWp.ret ?_
  simp [go_sem, -getElem?_pos, -List.map_take, -List.map_drop, List.getElem?_cons_zero, List.getElem?_cons_succ, Go.IntWalk.iteOmega, Go.IntWalk.toNatUp, Config.val, Config.cells, g, hlt, Try.results68]
  try exact .same _
def eachV (c : Config) (g : FuncId) (cap : List Value) : Value := .agg ⟨[.int .i64 c.rules.length, .func (.func 68) ⟨[]⟩ ⟨[fptr 0 (.func (.func g) ⟨[]⟩ ⟨cap⟩), fptr 0 c.val]⟩]⟩
theorem eachC (H : Heap) (c : Config) (g : FuncId) (cap : List Value) (hc : ClL cap) : ICalls Try.prog 53 [c.val, .func (.func g) ⟨[]⟩ ⟨cap⟩] H fun v H' => v = eachV c g cap ∧ H' = H := by
  have hcl := Config.cl_val c
  refine ICalls.ans (by unfold eachV; simp [go_sem, hc]; exact Config.cl c) fun H => IBody.calls (by kernel_rfl) ?_
  refine IBody.of Try.func53 rfl (by rw [Try.ntmps53]; simp) ?_
  rw [Try.ntmps53]
  refine IWp.seq ?_
  refine IWp.run [2, 3, 4] ?_
  simp [go_sem, -getElem?_pos, -List.map_take, -List.map_drop, List.getElem?_cons_zero, List.getElem?_cons_succ, Go.IntWalk.iteOmega, Go.IntWalk.toNatUp, Config.val, Config.cells]
  refine IWp.seq ?_
  refine IWp.run [4] ?_
  simp [go_sem, -getElem?_pos, -List.map_take, -List.map_drop, List.getElem?_cons_zero, List.getElem?_cons_succ, Go.IntWalk.iteOmega, Go.IntWalk.toNatUp, Config.val, Config.cells]
  refine IWp.ret ?_
  simp [go_sem, -getElem?_pos, -List.map_take, -List.map_drop, List.getElem?_cons_zero, List.getElem?_cons_succ, Go.IntWalk.iteOmega, Go.IntWalk.toNatUp, Config.val, Config.cells, Try.results53]
  exact .agg (.cons (.same _) (.cons (.clo (.cons (.ptrL (cs := [.func (.func g) ⟨[]⟩ ⟨cap⟩]) (by simp [get_alloc, next_alloc]) rfl (FrzL.same _)) (.cons (.ptrL (cs := c.cells) (by simp [get_alloc, next_alloc, Config.cells]; omega) rfl (FrzL.same _)) .nil))) .nil))

theorem rules2F (H : Heap) (c : Config) (i : Nat) (x : Sig) (hi : c.sigs[i]? = some x) : ICalls Try.prog 51 [.int .i64 i, fptr 0 c.val] H fun v H' => v = .bool (sigB x) ∧ H' = H := by
  refine ICalls.ans (by simp [go_sem]) fun H => IBody.calls (by kernel_rfl) ?_
  have hlt : i < c.sigs.length := (List.getElem?_eq_some_iff.1 hi).1
  have g : (c.sigs.map Sig.val)[i]? = some x.val := by rw [List.getElem?_map, hi]; rfl
  unfold sigB
  have c1 := fun K => numberC K x.lo
  have c2 := fun K => numberC K x.hi
  generalize numS x.lo = x1 at *
  generalize numS x.hi = x2 at *
  cases x1
  · skip
    refine IBody.of Try.func51 rfl (by rw [Try.ntmps51]; simp) ?_
    rw [Try.ntmps51]
    refine IWp.seq ?_
    refine IWp.run [0, 1] ?_
    simp [go_sem, -getElem?_pos, -List.map_take, -List.map_drop, List.getElem?_cons_zero, List.getElem?_cons_succ, Go.IntWalk.iteOmega, Go.IntWalk.toNatUp, Config.val, Config.cells, Sig.val, Sig.cells, g, hlt]
    refine IWp.seq ?_
    refine IWp.run [4] ?_
    simp [go_sem, -getElem?_pos, -List.map_take, -List.map_drop, List.getElem?_cons_zero, List.getElem?_cons_succ, Go.IntWalk.iteOmega, Go.IntWalk.toNatUp, Config.val, Config.cells, Sig.val, Sig.cells, g, hlt]
    refine IWp.seq ?_
    refine IWp.run [3] ?_
    simp [go_sem, -getElem?_pos, -List.map_take, -List.map_drop, List.getElem?_cons_zero, List.getElem?_cons_succ, Go.IntWalk.iteOmega, Go.IntWalk.toNatUp, Config.val, Config.cells, Sig.val, Sig.cells, g, hlt]
    refine ICalls.then (c1 _) ?_
    try simp [go_sem, -getElem?_pos, -List.map_take, -List.map_drop, List.getElem?_cons_zero, List.getElem?_cons_succ, Go.IntWalk.iteOmega, Go.IntWalk.toNatUp, Config.val, Config.cells, Sig.val, Sig.cells, g, hlt]
    refine IWp.ret ?_
    simp [go_sem, -getElem?_pos, -List.map_take, -List.map_drop, List.getElem?_cons_zero, List.getElem?_cons_succ, Go.IntWalk.iteOmega, Go.IntWalk.toNatUp, Config.val, Config.cells, Sig.val, Sig.cells, g, hlt, Try.results51]
    try exact .same _
  cases x2
  · skip
    refine IBody.of Try.func51 rfl (by rw [Try.ntmps51]; simp) ?_
    rw [Try.ntmps51]
    refine IWp.seq ?_
    refine IWp.run [0, 1] ?_
    simp [go_sem, -getElem?_pos, -List.map_take, -List.map_drop, List.getElem?_cons_zero, List.getElem?_cons_succ, Go.IntWalk.iteOmega, Go.IntWalk.toNatUp, Config.val, Config.cells, Sig.val, Sig.cells, g, hlt]
    refine IWp.seq ?_
    refine IWp.run [4] ?_
    simp [go_sem, -getElem?_pos, -List.map_take, -List.map_drop, List.getElem?_cons_zero, List.getElem?_cons_succ, Go.IntWalk.iteOmega, Go.IntWalk.toNatUp, Config.val, Config.cells, Sig.val, Sig.cells, g, hlt]
    refine IWp.seq ?_
    refine IWp.run [3] ?_
    simp [go_sem, -getElem?_pos, -List.map_take, -List.map_drop, List.getElem?_cons_zero, List.getElem?_cons_succ, Go.IntWalk.iteOmega, Go.IntWalk.toNatUp, Config.val, Config.cells, Sig.val, Sig.cells, g, hlt]
    refine ICalls.then (c1 _) ?_
    try simp [go_sem, -getElem?_pos, -List.map_take, -List.map_drop, List.getElem?_cons_zero, List.getElem?_cons_succ, Go.IntWalk.iteOmega, Go.IntWalk.toNatUp, Config.val, Config.cells, Sig.val, Sig.cells, g, hlt]
    refine ICalls.then (c2 _) ?_
    try simp [go_sem, -getElem?_pos, -List.map_take, -List.map_drop, List.getElem?_cons_zero, List.getElem?_cons_succ, Go.IntWalk.iteOmega, Go.IntWalk.toNatUp, Config.val, Config.cells, Sig.val, Sig.cells, g, hlt]
    refine IWp.ret ?_
    simp [go_sem, -getElem?_pos, -List.map_take, -List.map_drop, List.getElem?_cons_zero, List.getElem?_cons_succ, Go.IntWalk.iteOmega, Go.IntWalk.toNatUp, Config.val, Config.cells, Sig.val, Sig.cells, g, hlt, Try.results51]
    try exact .same _
  · skip
    refine IBody.of Try.func51 rfl (by rw [Try.ntmps51]; simp) ?_
    rw [Try.ntmps51]
    refine IWp.seq ?_
    refine IWp.run [0, 1] ?_
    simp [go_sem, -getElem?_pos, -List.map_take, -List.map_drop, List.getElem?_cons_zero, List.getElem?_cons_succ, Go.IntWalk.iteOmega, Go.IntWalk.toNatUp, Config.val, Config.cells, Sig.val, Sig.cells, g, hlt]
    refine IWp.seq ?_
    refine IWp.run [4] ?_
    simp [go_sem, -getElem?_pos, -List.map_take, -List.map_drop, List.getElem?_cons_zero, List.getElem?_cons_succ, Go.IntWalk.iteOmega, Go.IntWalk.toNatUp, Config.val, Config.cells, Sig.val, Sig.cells, g, hlt]
    refine IWp.seq ?_
    refine IWp.run [3] ?_
    simp [go_sem, -getElem?_pos, -List.map_take, -List.map_drop, List.getElem?_cons_zero, List.getElem?_cons_succ, Go.IntWalk.iteOmega, Go.IntWalk.toNatUp, Config.val, Config.cells, Sig.val, Sig.cells, g, hlt]
    refine ICalls.then (c1 _) ?_
    try simp [go_sem, -getElem?_pos, -List.map_take, -List.map_drop, List.getElem?_cons_zero, List.getElem?_cons_succ, Go.IntWalk.iteOmega, Go.IntWalk.toNatUp, Config.val, Config.cells, Sig.val, Sig.cells, g, hlt]
    refine ICalls.then (c2 _) ?_
    try simp [go_sem, -getElem?_pos, -List.map_take, -List.map_drop, List.getElem?_cons_zero, List.getElem?_cons_succ, Go.IntWalk.iteOmega, Go.IntWalk.toNatUp, Config.val, Config.cells, Sig.val, Sig.cells, g, hlt]
    refine IWp.ret ?_
    simp [go_sem, -getElem?_pos, -List.map_take, -List.map_drop, List.getElem?_cons_zero, List.getElem?_cons_succ, Go.IntWalk.iteOmega, Go.IntWalk.toNatUp, Config.val, Config.cells, Sig.val, Sig.cells, g, hlt, Try.results51]
    try exact .same _
theorem rules3F (H : Heap) (r : Rule) : ICalls Try.prog 54 [r.val] H fun v H' => v = .bool (inS r.kind 1 6) ∧ H' = H := by
  refine ICalls.ans (by simp [go_sem]) fun H => IBody.calls (by kernel_rfl) ?_
  unfold inS
  by_cases h : 1 ≤ r.kind
  · skip
    refine IBody.of Try.func54 rfl (by rw [Try.ntmps54]; simp) ?_
    rw [Try.ntmps54]
    refine IWp.seq ?_
    refine IWp.run [1] ?_
    simp [go_sem, -getElem?_pos, -List.map_take, -List.map_drop, List.getElem?_cons_zero, List.getElem?_cons_succ, Go.IntWalk.iteOmega, Go.IntWalk.toNatUp, h, Rule.val, Rule.cells]
    refine IWp.seq ?_
    refine IWp.run [2] ?_
    simp [go_sem, -getElem?_pos, -List.map_take, -List.map_drop, List.getElem?_cons_zero, List.getElem?_cons_succ, Go.IntWalk.iteOmega, Go.IntWalk.toNatUp, h, Rule.val, Rule.cells]
    refine IWp.ret ?_
    simp [go_sem, -getElem?_pos, -List.map_take, -List.map_drop, List.getElem?_cons_zero, List.getElem?_cons_succ, Go.IntWalk.iteOmega, Go.IntWalk.toNatUp, h, Rule.val, Rule.cells, Try.results54]
    try exact .same _
  · skip
    refine IBody.of Try.func54 rfl (by rw [Try.ntmps54]; simp) ?_
    rw [Try.ntmps54]
    refine IWp.seq ?_
    refine IWp.run [1] ?_
    simp [go_sem, -getElem?_pos, -List.map_take, -List.map_drop, List.getElem?_cons_zero, List.getElem?_cons_succ, Go.IntWalk.iteOmega, Go.IntWalk.toNatUp, h, Rule.val, Rule.cells]
    refine IWp.seq ?_
    refine IWp.run [2] ?_
    simp [go_sem, -getElem?_pos, -List.map_take, -List.map_drop, List.getElem?_cons_zero, List.getElem?_cons_succ, Go.IntWalk.iteOmega, Go.IntWalk.toNatUp, h, Rule.val, Rule.cells]
    refine IWp.ret ?_
    simp [go_sem, -getElem?_pos, -List.map_take, -List.map_drop, List.getElem?_cons_zero, List.getElem?_cons_succ, Go.IntWalk.iteOmega, Go.IntWalk.toNatUp, h, Rule.val, Rule.cells, Try.results54]
    try exact .same _
theorem rules4F (H : Heap) (c : Config) (r : Rule) (hs : c.sigs.length ≤ 1000) : ICalls Try.prog 55 [r.val, fptr 0 c.val] H fun v H' => v = .bool (inS r.sg 0 ((c.sigs.length : Int) - 1)) ∧ H' = H := by
  refine ICalls.ans (by simp [go_sem]) fun H => IBody.calls (by kernel_rfl) ?_
  have w1 := IntWalk.i64_in ((c.sigs.length : Int) - 1) (by omega)
  refine IBody.of Try.func55 rfl (by rw [Try.ntmps55]; simp) ?_
  rw [Try.ntmps55]
  refine IWp.seq ?_
  refine IWp.run [1, 2] ?_
  simp [go_sem, -getElem?_pos, -List.map_take, -List.map_drop, List.getElem?_cons_zero, List.getElem?_cons_succ, Go.IntWalk.iteOmega, Go.IntWalk.toNatUp, Config.val, Config.cells, Rule.val, Rule.cells, w1]
  refine IWp.seq ?_
  refine IWp.run [3] ?_
  simp [go_sem, -getElem?_pos, -List.map_take, -List.map_drop, List.getElem?_cons_zero, List.getElem?_cons_succ, Go.IntWalk.iteOmega, Go.IntWalk.toNatUp, Config.val, Config.cells, Rule.val, Rule.cells, w1]
  refine ICalls.then (withinI _ _ _ _) ?_
  try simp [go_sem, -getElem?_pos, -List.map_take, -List.map_drop, List.getElem?_cons_zero, List.getElem?_cons_succ, Go.IntWalk.iteOmega, Go.IntWalk.toNatUp, Config.val, Config.cells, Rule.val, Rule.cells, w1]
  refine IWp.ret ?_
  simp [go_sem, -getElem?_pos, -List.map_take, -List.map_drop, List.getElem?_cons_zero, List.getElem?_cons_succ, Go.IntWalk.iteOmega, Go.IntWalk.toNatUp, Config.val, Config.cells, Rule.val, Rule.cells, w1, Try.results55]
  try exact .same _
theorem rules5F (H : Heap) (r : Rule) : ICalls Try.prog 58 [r.val] H fun v H' => v = .bool (inS r.delay 0 10000) ∧ H' = H := by
  refine ICalls.ans (by simp [go_sem]) fun H => IBody.calls (by kernel_rfl) ?_
  refine IBody.of Try.func58 rfl (by rw [Try.ntmps58]; simp) ?_
  rw [Try.ntmps58]
  refine IWp.seq ?_
  refine IWp.run [1] ?_
  simp [go_sem, -getElem?_pos, -List.map_take, -List.map_drop, List.getElem?_cons_zero, List.getElem?_cons_succ, Go.IntWalk.iteOmega, Go.IntWalk.toNatUp, Rule.val, Rule.cells]
  refine IWp.seq ?_
  refine IWp.run [2] ?_
  simp [go_sem, -getElem?_pos, -List.map_take, -List.map_drop, List.getElem?_cons_zero, List.getElem?_cons_succ, Go.IntWalk.iteOmega, Go.IntWalk.toNatUp, Rule.val, Rule.cells]
  refine ICalls.then (withinL _ _ _ _) ?_
  try simp [go_sem, -getElem?_pos, -List.map_take, -List.map_drop, List.getElem?_cons_zero, List.getElem?_cons_succ, Go.IntWalk.iteOmega, Go.IntWalk.toNatUp, Rule.val, Rule.cells]
  refine IWp.ret ?_
  simp [go_sem, -getElem?_pos, -List.map_take, -List.map_drop, List.getElem?_cons_zero, List.getElem?_cons_succ, Go.IntWalk.iteOmega, Go.IntWalk.toNatUp, Rule.val, Rule.cells, Try.results58]
  try exact .same _
theorem rules6F (H : Heap) (r : Rule) : ICalls Try.prog 60 [r.val] H fun v H' => v = .bool (inS r.prio 1 3) ∧ H' = H := by
  refine ICalls.ans (by simp [go_sem]) fun H => IBody.calls (by kernel_rfl) ?_
  refine IBody.of Try.func60 rfl (by rw [Try.ntmps60]; simp) ?_
  rw [Try.ntmps60]
  refine IWp.seq ?_
  refine IWp.run [1] ?_
  simp [go_sem, -getElem?_pos, -List.map_take, -List.map_drop, List.getElem?_cons_zero, List.getElem?_cons_succ, Go.IntWalk.iteOmega, Go.IntWalk.toNatUp, Rule.val, Rule.cells]
  refine IWp.seq ?_
  refine IWp.run [2] ?_
  simp [go_sem, -getElem?_pos, -List.map_take, -List.map_drop, List.getElem?_cons_zero, List.getElem?_cons_succ, Go.IntWalk.iteOmega, Go.IntWalk.toNatUp, Rule.val, Rule.cells]
  refine ICalls.then (priorityC _ _) ?_
  try simp [go_sem, -getElem?_pos, -List.map_take, -List.map_drop, List.getElem?_cons_zero, List.getElem?_cons_succ, Go.IntWalk.iteOmega, Go.IntWalk.toNatUp, Rule.val, Rule.cells]
  refine IWp.ret ?_
  simp [go_sem, -getElem?_pos, -List.map_take, -List.map_drop, List.getElem?_cons_zero, List.getElem?_cons_succ, Go.IntWalk.iteOmega, Go.IntWalk.toNatUp, Rule.val, Rule.cells, Try.results60]
  try exact .same _
theorem rules7F (H : Heap) (c : Config) (hS : Sized c) (i : Nat) (l : List Int) (hi : c.table[i]? = some l) : ICalls Try.prog 63 [.int .i64 i, fptr 0 c.val] H fun v H' => v = .bool (decide (SlotOk c.rules.length l)) ∧ H' = H := by
  refine ICalls.ans (by simp [go_sem]) fun H => IBody.calls (by kernel_rfl) ?_
  have hlt : i < c.table.length := (List.getElem?_eq_some_iff.1 hi).1
  have g : (c.table.map (ints .i64))[i]? = some (ints .i64 l) := by rw [List.getElem?_map, hi]; rfl
  have c1 := fun K => slotC K c l (by have := hS.rules; omega) (hS.rows l (List.mem_of_getElem? hi))
  simp only [Config.val, Config.cells] at c1
  refine IBody.of Try.func63 rfl (by rw [Try.ntmps63]; simp) ?_
  rw [Try.ntmps63]
  refine IWp.seq ?_
  refine IWp.run [0, 1] ?_
  simp [go_sem, -getElem?_pos, -List.map_take, -List.map_drop, List.getElem?_cons_zero, List.getElem?_cons_succ, Go.IntWalk.iteOmega, Go.IntWalk.toNatUp, Config.val, Config.cells, g, hlt]
  refine IWp.seq ?_
  refine IWp.draw [3] [] (.ld 0 [6, 7] (.val 1 (.ld 2 [4, 5, 6, 7] (.val 3 (.val 4 (.ld 5 [6, 7] (.eff 6 (.val 7 .done) .done))))))) follows (by kernel_rfl) ?_
  simp [go_sem, -getElem?_pos, -List.map_take, -List.map_drop, List.getElem?_cons_zero, List.getElem?_cons_succ, Go.IntWalk.iteOmega, Go.IntWalk.toNatUp, Config.val, Config.cells, g, hlt]
  refine ICalls.then (c1 _) ?_
  try simp [go_sem, -getElem?_pos, -List.map_take, -List.map_drop, List.getElem?_cons_zero, List.getElem?_cons_succ, Go.IntWalk.iteOmega, Go.IntWalk.toNatUp, Config.val, Config.cells, g, hlt]
  refine IWp.ret ?_
  simp [go_sem, -getElem?_pos, -List.map_take, -List.map_drop, List.getElem?_cons_zero, List.getElem?_cons_succ, Go.IntWalk.iteOmega, Go.IntWalk.toNatUp, Config.val, Config.cells, g, hlt, Try.results63]
  try exact .same _
theorem rules8F (H : Heap) (c : Config) (i : Nat) (hi : i < 3) : ICalls Try.prog 65 [.int .i64 i, fptr 0 c.val] H fun v H' => v = .bool (inS (bandAt c i) 1 32) ∧ H' = H := by
  refine ICalls.ans (by simp [go_sem]) fun H => IBody.calls (by kernel_rfl) ?_
  have h3 : i = 0 ∨ i = 1 ∨ i = 2 := by omega
  rcases h3 with rfl | rfl | rfl
  · skip
    refine IBody.of Try.func65 rfl (by rw [Try.ntmps65]; simp) ?_
    rw [Try.ntmps65]
    refine IWp.seq ?_
    refine IWp.run [0, 1] ?_
    simp [go_sem, -getElem?_pos, -List.map_take, -List.map_drop, List.getElem?_cons_zero, List.getElem?_cons_succ, Go.IntWalk.iteOmega, Go.IntWalk.toNatUp, Config.val, Config.cells, bandAt]
    refine IWp.seq ?_
    refine IWp.run [3] ?_
    simp [go_sem, -getElem?_pos, -List.map_take, -List.map_drop, List.getElem?_cons_zero, List.getElem?_cons_succ, Go.IntWalk.iteOmega, Go.IntWalk.toNatUp, Config.val, Config.cells, bandAt]
    refine ICalls.then (withinI _ _ _ _) ?_
    try simp [go_sem, -getElem?_pos, -List.map_take, -List.map_drop, List.getElem?_cons_zero, List.getElem?_cons_succ, Go.IntWalk.iteOmega, Go.IntWalk.toNatUp, Config.val, Config.cells, bandAt]
    refine IWp.ret ?_
    simp [go_sem, -getElem?_pos, -List.map_take, -List.map_drop, List.getElem?_cons_zero, List.getElem?_cons_succ, Go.IntWalk.iteOmega, Go.IntWalk.toNatUp, Config.val, Config.cells, bandAt, Try.results65]
    try exact .same _
  · skip
    refine IBody.of Try.func65 rfl (by rw [Try.ntmps65]; simp) ?_
    rw [Try.ntmps65]
    refine IWp.seq ?_
    refine IWp.run [0, 1] ?_
    simp [go_sem, -getElem?_pos, -List.map_take, -List.map_drop, List.getElem?_cons_zero, List.getElem?_cons_succ, Go.IntWalk.iteOmega, Go.IntWalk.toNatUp, Config.val, Config.cells, bandAt]
    refine IWp.seq ?_
    refine IWp.run [3] ?_
    simp [go_sem, -getElem?_pos, -List.map_take, -List.map_drop, List.getElem?_cons_zero, List.getElem?_cons_succ, Go.IntWalk.iteOmega, Go.IntWalk.toNatUp, Config.val, Config.cells, bandAt]
    refine ICalls.then (withinI _ _ _ _) ?_
    try simp [go_sem, -getElem?_pos, -List.map_take, -List.map_drop, List.getElem?_cons_zero, List.getElem?_cons_succ, Go.IntWalk.iteOmega, Go.IntWalk.toNatUp, Config.val, Config.cells, bandAt]
    refine IWp.ret ?_
    simp [go_sem, -getElem?_pos, -List.map_take, -List.map_drop, List.getElem?_cons_zero, List.getElem?_cons_succ, Go.IntWalk.iteOmega, Go.IntWalk.toNatUp, Config.val, Config.cells, bandAt, Try.results65]
    try exact .same _
  · skip
    refine IBody.of Try.func65 rfl (by rw [Try.ntmps65]; simp) ?_
    rw [Try.ntmps65]
    refine IWp.seq ?_
    refine IWp.run [0, 1] ?_
    simp [go_sem, -getElem?_pos, -List.map_take, -List.map_drop, List.getElem?_cons_zero, List.getElem?_cons_succ, Go.IntWalk.iteOmega, Go.IntWalk.toNatUp, Config.val, Config.cells, bandAt]
    refine IWp.seq ?_
    refine IWp.run [3] ?_
    simp [go_sem, -getElem?_pos, -List.map_take, -List.map_drop, List.getElem?_cons_zero, List.getElem?_cons_succ, Go.IntWalk.iteOmega, Go.IntWalk.toNatUp, Config.val, Config.cells, bandAt]
    refine ICalls.then (withinI _ _ _ _) ?_
    try simp [go_sem, -getElem?_pos, -List.map_take, -List.map_drop, List.getElem?_cons_zero, List.getElem?_cons_succ, Go.IntWalk.iteOmega, Go.IntWalk.toNatUp, Config.val, Config.cells, bandAt]
    refine IWp.ret ?_
    simp [go_sem, -getElem?_pos, -List.map_take, -List.map_drop, List.getElem?_cons_zero, List.getElem?_cons_succ, Go.IntWalk.iteOmega, Go.IntWalk.toNatUp, Config.val, Config.cells, bandAt, Try.results65]
    try exact .same _
end closures

end Go.Proofs.Ytmiinclnpcokkaa.I
