/- All that must hold of a configuration, in order; the first that does not. No condition. -/
import Derived.Test.YtmiinclnpcokkaaGCheckD
namespace Go.Proofs.Ytmiinclnpcokkaa.I
open Go Go.RowKit
set_option linter.unusedVariables false
set_option linter.unusedSimpArgs false

theorem rules11F (H : Heap) (i : Int) (L : List Int) (hl : L.length ≤ 1000000) : ICalls Try.prog 48 [ints .i64 L, fptr 0 (.int .i64 i)] H fun v H' => v = .bool (decide (i ∈ L)) ∧ H' = H := by
  refine ICalls.ans (by simp [go_sem]) fun H => IBody.calls (by kernel_rfl) ?_
  refine IBody.of Try.func48 rfl (by rw [Try.ntmps48]; simp) ?_
  rw [Try.ntmps48]
  refine IWp.seq ?_
  refine IWp.run [0, 1] ?_
  simp [go_sem, -getElem?_pos, -List.map_take, -List.map_drop, List.getElem?_cons_zero, List.getElem?_cons_succ, Go.IntWalk.iteOmega, Go.IntWalk.toNatUp]
  refine IWp.seq ?_
  refine IWp.run [3] ?_
  simp [go_sem, -getElem?_pos, -List.map_take, -List.map_drop, List.getElem?_cons_zero, List.getElem?_cons_succ, Go.IntWalk.iteOmega, Go.IntWalk.toNatUp]
  refine ICalls.then (containsI _ 0 L i hl) ?_
  try simp [go_sem, -getElem?_pos, -List.map_take, -List.map_drop, List.getElem?_cons_zero, List.getElem?_cons_succ, Go.IntWalk.iteOmega, Go.IntWalk.toNatUp]
  refine IWp.ret ?_
  simp [go_sem, -getElem?_pos, -List.map_take, -List.map_drop, List.getElem?_cons_zero, List.getElem?_cons_succ, Go.IntWalk.iteOmega, Go.IntWalk.toNatUp, Try.results48]
  try exact .same _

theorem indexF (H : Heap) (T : List (List Int)) (g : FuncId) (cap : List Value) (hcc : ClL cap) (p : List Int → Bool) (hT : T.length ≤ 1000000) (hc : ∀ l ∈ T, ∀ K, ICalls Try.prog g (ints .i64 l :: cap) K fun v H' => v = .bool (p l) ∧ H' = K) :
    ICalls Try.prog 66 [frow 1 0 (T.map (ints .i64)), .func (.func g) ⟨[]⟩ ⟨cap⟩] H fun v H' => (∃ n : Int, v = .int .i64 n ∧ decide (0 ≤ n) = T.any p) ∧ H' = H := by
  refine ICalls.pure ?_
  refine IBody.calls (by kernel_rfl) ?_
  refine IBody.of Try.func66 rfl (by rw [Try.ntmps66]; simp) ?_
  rw [Try.ntmps66]
  refine IWp.seq ?_
  refine IWp.run [0, 1] ?_
  simp [go_sem, -getElem?_pos, -List.map_take, -List.map_drop, List.getElem?_cons_zero, List.getElem?_cons_succ, Go.IntWalk.iteOmega, Go.IntWalk.toNatUp]
  refine IWp.seq ?_
  refine IWp.seq ?_
  refine IWp.run [0, 1, 7, 8] ?_
  simp [go_sem, -getElem?_pos, -List.map_take, -List.map_drop, List.getElem?_cons_zero, List.getElem?_cons_succ, Go.IntWalk.iteOmega, Go.IntWalk.toNatUp]
  refine IWp.block ?_
  -- LOOP live [0, 1, 7, 8]
  refine IWp.loop (fun q e K => ∃ i : Nat, q = T.length - i ∧ i ≤ T.length ∧ K = H.ro ∧ e = [(0, frow 1 0 (T.map (ints .i64))), (1, .func (.func g) ⟨[]⟩ ⟨cap⟩), (7, .int .i64 T.length), (8, .int .i64 (i : Int))] ∧ ∀ x ∈ T.take i, p x = false) T.length ⟨0, rfl, Nat.zero_le _, rfl, by simp [go_sem], by simp⟩ ?_
  rintro q e K ⟨i, rfl, hi, rfl, rfl, hno⟩
  have wi := IntWalk.i64_in ((i : Int) + 1) (by omega)
  by_cases hlt : i < T.length
  · have gi : (T.map (ints .i64))[i]? = some (ints .i64 T[i]) := by simp [hlt]
    have hm : T[i] ∈ T := List.getElem_mem hlt
    have c1 := hc _ hm
    have hst : ∀ x ∈ T.take (i + 1), x ∈ T.take i ∨ x = T[i] := fun x hx => by rw [List.take_succ_eq_append_getElem hlt, List.mem_append, List.mem_singleton] at hx; exact hx
    generalize T[i] = x at *
    cases hp : p x with
    | true =>
      rw [hp] at c1
      refine IWp.seq ?_
      refine IWp.run [0, 1, 7, 8, 9] ?_
      simp [go_sem, -getElem?_pos, -List.map_take, -List.map_drop, List.getElem?_cons_zero, List.getElem?_cons_succ, Go.IntWalk.iteOmega, Go.IntWalk.toNatUp, hlt, gi]
      refine IWp.seq ?_
      refine IWp.cond ?_
      simp [go_sem, -getElem?_pos, -List.map_take, -List.map_drop, List.getElem?_cons_zero, List.getElem?_cons_succ, Go.IntWalk.iteOmega, Go.IntWalk.toNatUp, hlt, gi]
      refine IWp.trim [0, 1, 7, 8] (IWp.skip ?_)
      simp [go_sem, -getElem?_pos, -List.map_take, -List.map_drop, List.getElem?_cons_zero, List.getElem?_cons_succ, Go.IntWalk.iteOmega, Go.IntWalk.toNatUp, hlt, gi]
      refine IWp.seq ?_
      refine IWp.block ?_
      refine IWp.seq ?_
      refine IWp.run [0, 1, 5, 7, 8] ?_
      simp [go_sem, -getElem?_pos, -List.map_take, -List.map_drop, List.getElem?_cons_zero, List.getElem?_cons_succ, Go.IntWalk.iteOmega, Go.IntWalk.toNatUp, hlt, gi]
      refine IWp.seq ?_
      refine IWp.run [0, 1, 5, 7, 8, 16] ?_
      simp [go_sem, -getElem?_pos, -List.map_take, -List.map_drop, List.getElem?_cons_zero, List.getElem?_cons_succ, Go.IntWalk.iteOmega, Go.IntWalk.toNatUp, hlt, gi]
      refine ICalls.then (c1 _) ?_
      try simp [go_sem, -getElem?_pos, -List.map_take, -List.map_drop, List.getElem?_cons_zero, List.getElem?_cons_succ, Go.IntWalk.iteOmega, Go.IntWalk.toNatUp, hlt, gi]
      refine IWp.cond ?_
      simp [go_sem, -getElem?_pos, -List.map_take, -List.map_drop, List.getElem?_cons_zero, List.getElem?_cons_succ, Go.IntWalk.iteOmega, Go.IntWalk.toNatUp, hlt, gi]
      refine IWp.seq ?_
      refine IWp.run [4] ?_
      simp [go_sem, -getElem?_pos, -List.map_take, -List.map_drop, List.getElem?_cons_zero, List.getElem?_cons_succ, Go.IntWalk.iteOmega, Go.IntWalk.toNatUp, hlt, gi]
      refine IWp.ret ?_
      simp [go_sem, -getElem?_pos, -List.map_take, -List.map_drop, List.getElem?_cons_zero, List.getElem?_cons_succ, Go.IntWalk.iteOmega, Go.IntWalk.toNatUp, hlt, gi, Try.results66]
      rw [show T.any p = true from List.any_eq_true.2 ⟨x, hm, hp⟩]
      exact ⟨_, .same _, by simp [go_sem], i, rfl, by simp⟩
    | false =>
      rw [hp] at c1
      refine IWp.seq ?_
      refine IWp.run [0, 1, 7, 8, 9] ?_
      simp [go_sem, -getElem?_pos, -List.map_take, -List.map_drop, List.getElem?_cons_zero, List.getElem?_cons_succ, Go.IntWalk.iteOmega, Go.IntWalk.toNatUp, hlt, gi, wi]
      refine IWp.seq ?_
      refine IWp.cond ?_
      simp [go_sem, -getElem?_pos, -List.map_take, -List.map_drop, List.getElem?_cons_zero, List.getElem?_cons_succ, Go.IntWalk.iteOmega, Go.IntWalk.toNatUp, hlt, gi, wi]
      refine IWp.trim [0, 1, 7, 8] (IWp.skip ?_)
      simp [go_sem, -getElem?_pos, -List.map_take, -List.map_drop, List.getElem?_cons_zero, List.getElem?_cons_succ, Go.IntWalk.iteOmega, Go.IntWalk.toNatUp, hlt, gi, wi]
      refine IWp.seq ?_
      refine IWp.block ?_
      refine IWp.seq ?_
      refine IWp.run [0, 1, 5, 7, 8] ?_
      simp [go_sem, -getElem?_pos, -List.map_take, -List.map_drop, List.getElem?_cons_zero, List.getElem?_cons_succ, Go.IntWalk.iteOmega, Go.IntWalk.toNatUp, hlt, gi, wi]
      refine IWp.seq ?_
      refine IWp.run [0, 1, 5, 7, 8, 16] ?_
      simp [go_sem, -getElem?_pos, -List.map_take, -List.map_drop, List.getElem?_cons_zero, List.getElem?_cons_succ, Go.IntWalk.iteOmega, Go.IntWalk.toNatUp, hlt, gi, wi]
      refine ICalls.then (c1 _) ?_
      try simp [go_sem, -getElem?_pos, -List.map_take, -List.map_drop, List.getElem?_cons_zero, List.getElem?_cons_succ, Go.IntWalk.iteOmega, Go.IntWalk.toNatUp, hlt, gi, wi]
      refine IWp.cond ?_
      simp [go_sem, -getElem?_pos, -List.map_take, -List.map_drop, List.getElem?_cons_zero, List.getElem?_cons_succ, Go.IntWalk.iteOmega, Go.IntWalk.toNatUp, hlt, gi, wi]
      refine IWp.trim [0, 1, 7, 8] (IWp.skip ?_)
      simp [go_sem, -getElem?_pos, -List.map_take, -List.map_drop, List.getElem?_cons_zero, List.getElem?_cons_succ, Go.IntWalk.iteOmega, Go.IntWalk.toNatUp, hlt, gi, wi]
      refine IWp.run [0, 1, 7, 8] ?_
      simp [go_sem, -getElem?_pos, -List.map_take, -List.map_drop, List.getElem?_cons_zero, List.getElem?_cons_succ, Go.IntWalk.iteOmega, Go.IntWalk.toNatUp, hlt, gi, wi]
      exact ⟨T.length - (i + 1), by omega, i + 1, rfl, by omega, by omega, fun y hy => (hst y hy).elim (hno y) (fun e => by rw [e, hp])⟩
  · rw [List.take_of_length_le (by omega)] at hno
    refine IWp.seq ?_
    refine IWp.run [0, 1, 7, 8, 9] ?_
    simp [go_sem, -getElem?_pos, -List.map_take, -List.map_drop, List.getElem?_cons_zero, List.getElem?_cons_succ, Go.IntWalk.iteOmega, Go.IntWalk.toNatUp, hlt]
    refine IWp.seq ?_
    refine IWp.cond ?_
    simp [go_sem, -getElem?_pos, -List.map_take, -List.map_drop, List.getElem?_cons_zero, List.getElem?_cons_succ, Go.IntWalk.iteOmega, Go.IntWalk.toNatUp, hlt]
    refine IWp.trim [] (IWp.exit ?_)
    simp [go_sem, -getElem?_pos, -List.map_take, -List.map_drop, List.getElem?_cons_zero, List.getElem?_cons_succ, Go.IntWalk.iteOmega, Go.IntWalk.toNatUp, hlt]
    refine IWp.seq ?_
    refine IWp.run [4] ?_
    simp [go_sem, -getElem?_pos, -List.map_take, -List.map_drop, List.getElem?_cons_zero, List.getElem?_cons_succ, Go.IntWalk.iteOmega, Go.IntWalk.toNatUp, hlt]
    refine IWp.ret ?_
    simp [go_sem, -getElem?_pos, -List.map_take, -List.map_drop, List.getElem?_cons_zero, List.getElem?_cons_succ, Go.IntWalk.iteOmega, Go.IntWalk.toNatUp, hlt, Try.results66]
    rw [show T.any p = false from List.any_eq_false.2 fun x hx => by rw [hno x hx]; simp]
    exact ⟨_, .same _, by simp [go_sem], -1, rfl, by simp⟩

theorem containsF (H : Heap) (T : List (List Int)) (g : FuncId) (cap : List Value) (hcc : ClL cap) (p : List Int → Bool) (hT : T.length ≤ 1000000) (hc : ∀ l ∈ T, ∀ K, ICalls Try.prog g (ints .i64 l :: cap) K fun v H' => v = .bool (p l) ∧ H' = K) :
    ICalls Try.prog 47 [frow 1 0 (T.map (ints .i64)), .func (.func g) ⟨[]⟩ ⟨cap⟩] H fun v H' => v = .bool (T.any p) ∧ H' = H := by
  refine ICalls.ans (by simp [go_sem]) fun H => IBody.calls (by kernel_rfl) ?_
  generalize hq : T.any p = q
  refine IBody.of Try.func47 rfl (by rw [Try.ntmps47]; simp) ?_
  rw [Try.ntmps47]
  refine IWp.seq ?_
  refine IWp.run [0, 1] ?_
  simp [go_sem, -getElem?_pos, -List.map_take, -List.map_drop, List.getElem?_cons_zero, List.getElem?_cons_succ, Go.IntWalk.iteOmega, Go.IntWalk.toNatUp]
  refine IWp.seq ?_
  refine IWp.run [4] ?_
  simp [go_sem, -getElem?_pos, -List.map_take, -List.map_drop, List.getElem?_cons_zero, List.getElem?_cons_succ, Go.IntWalk.iteOmega, Go.IntWalk.toNatUp]
  refine ICalls.mono (indexF _ T g cap hcc p hT hc) ?_
  rintro v H2 ⟨⟨n, hv, hn⟩, hh⟩
  subst hv
  try simp [go_sem, -getElem?_pos, -List.map_take, -List.map_drop, List.getElem?_cons_zero, List.getElem?_cons_succ, Go.IntWalk.iteOmega, Go.IntWalk.toNatUp]
  refine IWp.ret ?_
  simp [go_sem, -getElem?_pos, -List.map_take, -List.map_drop, List.getElem?_cons_zero, List.getElem?_cons_succ, Go.IntWalk.iteOmega, Go.IntWalk.toNatUp, Try.results47]
  rw [hq] at hn
  subst hn
  try exact .same _

theorem rules1F (H : Heap) (c : Config) (i : Int) (hS : Sized c) : ICalls Try.prog 46 [.int .i64 i, fptr 0 c.val] H fun v H' => v = .bool (standsS c.table i) ∧ H' = H := by
  refine ICalls.ans (by simp [go_sem]) fun H => IBody.calls (by kernel_rfl) ?_
  refine IBody.of Try.func46 rfl (by rw [Try.ntmps46]; simp) ?_
  rw [Try.ntmps46]
  refine IWp.seq ?_
  refine IWp.run [1, 2] ?_
  simp [go_sem, -getElem?_pos, -List.map_take, -List.map_drop, List.getElem?_cons_zero, List.getElem?_cons_succ, Go.IntWalk.iteOmega, Go.IntWalk.toNatUp, Config.val, Config.cells]
  refine IWp.seq ?_
  refine IWp.run [3] ?_
  simp [go_sem, -getElem?_pos, -List.map_take, -List.map_drop, List.getElem?_cons_zero, List.getElem?_cons_succ, Go.IntWalk.iteOmega, Go.IntWalk.toNatUp, Config.val, Config.cells]
  refine ICalls.freeze1 H.next (.cons (.same _) (.cons (.clo (.cons (.ptrL (cs := [.int .i64 i]) (by simp [get_alloc]) (by simp) (FrzL.same _)) .nil)) .nil)) (ICalls.then (containsF _ c.table _ [fptr 0 (.int .i64 i)] (by simp [go_sem]) (fun l => decide (i ∈ l)) (by have := hS.table; omega) fun l hl K => rules11F K i l (hS.rows l hl)) ?_)
  simp [go_sem]
  refine IWp.ret ?_
  simp [go_sem, -getElem?_pos, -List.map_take, -List.map_drop, List.getElem?_cons_zero, List.getElem?_cons_succ, Go.IntWalk.iteOmega, Go.IntWalk.toNatUp, Try.results46]
  try exact .same _

def pairV (n : Int) (g : FuncId) (c : Config) : Value := .agg ⟨[.int .i64 n, .func (.func g) ⟨[]⟩ ⟨[fptr 0 c.val]⟩]⟩
def chkV (c : Config) : List Value :=
  [oneV (inS c.sigs.length 1 8), pairV c.sigs.length 51 c, oneV (inS c.rules.length 1 32),
   eachV c 54 [], eachV c 55 [fptr 0 c.val], eachV c 56 [], eachV c 57 [],
   eachV c 58 [], eachV c 60 [], eachV c 62 [],
   oneV (inS c.table.length 1 64), pairV c.table.length 63 c, pairV c.rules.length 46 c, pairV 3 65 c,
   oneV (inS c.drain 1 64 && decide ((entriesS c.table : Int) < c.drain * c.table.length)), oneV (inS c.pause 1 100000 && inS c.off 1 100000), oneV (inS c.log 1 256)]

theorem mul_in {a b : Int} (h1 : 1 ≤ a ∧ a ≤ 64) (h2 : 0 ≤ b ∧ b ≤ 1000) : 0 ≤ a * b ∧ a * b ≤ 64000 := by
  refine ⟨Int.mul_nonneg (by omega) h2.1, ?_⟩
  have := Int.mul_le_mul h1.2 h2.2 h2.1 (by omega)
  omega

theorem ival_mkF (P : Program) (fn : FuncId) (a b : Array Operand) (e : Env) (H : Heap) : ival P (.makeFunc (.func fn) a b) e H = (evals e a.toList).bind fun u => (evals e b.toList).bind fun v => some (.func (.func fn) u.toArray v.toArray) := nr rfl

set_option maxRecDepth 20000 in
set_option maxHeartbeats 4000000 in
theorem rulesC (H : Heap) (c : Config) (hS : Sized c) : ICalls Try.prog 42 [c.val] H fun v H' => v = frow 2 0 (chkV c) ∧ H' = H := by
  refine ICalls.ans (by simp [go_sem, chkV, oneV, pairV, eachV]; exact Config.cl c) fun H => IBody.calls (by kernel_rfl) ?_
  refine IBody.of Try.func42 rfl (by rw [Try.ntmps42]; simp) ?_
  rw [Try.ntmps42]
  refine IWp.seq ?_
  refine IWp.run [1] ?_
  simp [go_sem, -getElem?_pos, -List.map_take, -List.map_drop, List.getElem?_cons_zero, List.getElem?_cons_succ, Go.IntWalk.iteOmega, Go.IntWalk.toNatUp, Config.val, Config.cells]
  refine IWp.seq ?_
  refine IWp.freezeE (fun j => j == H.next) (e' := [(1, fptr 0 c.val)]) (.cons (.ptrL (cs := c.cells) (by simp [get_alloc, Config.cells]) (by simp) (FrzL.same _)) .nil) ?_
  generalize (H.alloc _).only _ = H1
  have hcl := Config.cl c
  have w1 := fun K => withinI K c.drain 1 64
  have w2 := fun K => withinL K c.pause 1 100000
  have w3 := fun K => withinL K c.off 1 100000
  have w4 := fun K => entriesC K c (by have := hS.table; omega) hS.ent
  have w5 := fun K g => eachC K c g [] .nil
  have w6 := fun K g => eachC K c g [fptr 0 c.val] (by simp [go_sem]; exact hcl)
  have hmul : inS c.drain 1 64 = true → IntKind.i64.wrap (c.drain * c.table.length) = c.drain * c.table.length := fun h => by
    have h1 := inS_iff.1 h
    have h2 := hS.table
    have h3 := mul_in h1 (show 0 ≤ (c.table.length : Int) ∧ (c.table.length : Int) ≤ 1000 by omega)
    exact IntWalk.i64_in _ (by omega)
  unfold chkV pairV
  unfold eachV at w5 w6 ⊢
  unfold oneV
  simp only [Config.val, Config.cells] at w4 w5 w6 ⊢
  generalize inS c.drain 1 64 = x1 at *
  generalize inS c.pause 1 100000 = x2 at *
  have o1 := oneC
  unfold oneV at o1
  have key : ∀ (us cs : List Value), us.length = 17 → (∀ u ∈ us, u.cells.toList.length = 2) → (us.flatMap fun u => u.cells.toList) = cs → Frz (H1.alloc cs) (fun _ => true) (.slice (some ⟨H1.next, 0, some 2⟩) 17 1) (frow 2 0 us) := fun us cs hl hz hc => frz_lit us (Heap.get_alloc_new _ _) hc hz hl rfl
  cases x1
  · cases x2
    · simp only [Bool.false_and, Bool.true_and]
      refine IWp.run [1, 3] ?_
      simp [go_sem, -getElem?_pos, -List.map_take, -List.map_drop, List.getElem?_cons_zero, List.getElem?_cons_succ, Go.IntWalk.iteOmega, Go.IntWalk.toNatUp, Config.val, Config.cells, ival_mkF]
      refine IWp.seq ?_
      refine IWp.draw [2] [] (.val 0 (.ld 1 [2, 3, 4, 13, 14, 16, 19, 21, 23, 25, 27, 29, 33, 34, 49, 50, 51, 52, 53, 54, 55, 56, 57, 58, 59, 60, 61, 64, 65, 66, 67, 68, 69, 70, 73, 74, 75, 76] (.val 2 (.val 5 (.val 8 (.val 10 (.val 18 (.val 30 (.val 35 (.val 38 (.val 40 (.val 43 (.val 45 (.val 46 (.val 47 (.val 62 (.val 71 (.val 6 (.val 7 (.val 9 (.val 11 (.val 12 (.val 15 (.val 17 (.val 20 (.val 22 (.val 24 (.val 26 (.val 28 (.val 31 (.val 32 (.val 36 (.val 37 (.val 39 (.val 41 (.val 42 (.val 44 (.val 48 (.val 63 (.val 72 (.eff 3 (.eff 4 (.eff 13 (.eff 14 (.eff 16 (.eff 19 (.eff 21 (.eff 23 (.eff 25 (.eff 27 (.eff 29 (.eff 33 (.eff 34 (.eff 49 (.val 50 (.ld 57 [58, 59, 60, 61, 64, 65, 66, 67, 68, 69, 70, 73, 74, 75, 76] (.val 51 (.val 53 (.val 52 (.val 54 (.val 55 (.val 56 (.eff 58 (.val 59 (.val 60 (.eff 61 (.eff 64 (.val 65 (.val 66 (.ld 67 [68, 69, 70, 73, 74, 75, 76] (.eff 68 (.val 69 (.eff 70 (.eff 73 (.eff 74 (.eff 75 (.val 76 .done) .done) .done) .done) .done)) .done)))) .done) .done))) .done))))))))) .done) .done) .done) .done) .done) .done) .done) .done) .done) .done) .done) .done) .done) .done))))))))))))))))))))))))))))))))))))))))) follows (by kernel_rfl) ?_
      simp [go_sem, -getElem?_pos, -List.map_take, -List.map_drop, List.getElem?_cons_zero, List.getElem?_cons_succ, Go.IntWalk.iteOmega, Go.IntWalk.toNatUp, Config.val, Config.cells, ival_mkF]
      refine ICalls.then (withinI _ _ _ _) ?_
      try simp [go_sem, -getElem?_pos, -List.map_take, -List.map_drop, List.getElem?_cons_zero, List.getElem?_cons_succ, Go.IntWalk.iteOmega, Go.IntWalk.toNatUp, Config.val, Config.cells, ival_mkF]
      refine ICalls.then (o1 _ _) ?_
      try simp [go_sem, -getElem?_pos, -List.map_take, -List.map_drop, List.getElem?_cons_zero, List.getElem?_cons_succ, Go.IntWalk.iteOmega, Go.IntWalk.toNatUp, Config.val, Config.cells, ival_mkF]
      refine ICalls.then (withinI _ _ _ _) ?_
      try simp [go_sem, -getElem?_pos, -List.map_take, -List.map_drop, List.getElem?_cons_zero, List.getElem?_cons_succ, Go.IntWalk.iteOmega, Go.IntWalk.toNatUp, Config.val, Config.cells, ival_mkF]
      refine ICalls.then (o1 _ _) ?_
      try simp [go_sem, -getElem?_pos, -List.map_take, -List.map_drop, List.getElem?_cons_zero, List.getElem?_cons_succ, Go.IntWalk.iteOmega, Go.IntWalk.toNatUp, Config.val, Config.cells, ival_mkF]
      refine ICalls.then (w5 _ _) ?_
      try simp [go_sem, -getElem?_pos, -List.map_take, -List.map_drop, List.getElem?_cons_zero, List.getElem?_cons_succ, Go.IntWalk.iteOmega, Go.IntWalk.toNatUp, Config.val, Config.cells, ival_mkF]
      refine ICalls.then (w6 _ _) ?_
      try simp [go_sem, -getElem?_pos, -List.map_take, -List.map_drop, List.getElem?_cons_zero, List.getElem?_cons_succ, Go.IntWalk.iteOmega, Go.IntWalk.toNatUp, Config.val, Config.cells, ival_mkF]
      refine ICalls.then (w5 _ _) ?_
      try simp [go_sem, -getElem?_pos, -List.map_take, -List.map_drop, List.getElem?_cons_zero, List.getElem?_cons_succ, Go.IntWalk.iteOmega, Go.IntWalk.toNatUp, Config.val, Config.cells, ival_mkF]
      refine ICalls.then (w5 _ _) ?_
      try simp [go_sem, -getElem?_pos, -List.map_take, -List.map_drop, List.getElem?_cons_zero, List.getElem?_cons_succ, Go.IntWalk.iteOmega, Go.IntWalk.toNatUp, Config.val, Config.cells, ival_mkF]
      refine ICalls.then (w5 _ _) ?_
      try simp [go_sem, -getElem?_pos, -List.map_take, -List.map_drop, List.getElem?_cons_zero, List.getElem?_cons_succ, Go.IntWalk.iteOmega, Go.IntWalk.toNatUp, Config.val, Config.cells, ival_mkF]
      refine ICalls.then (w5 _ _) ?_
      try simp [go_sem, -getElem?_pos, -List.map_take, -List.map_drop, List.getElem?_cons_zero, List.getElem?_cons_succ, Go.IntWalk.iteOmega, Go.IntWalk.toNatUp, Config.val, Config.cells, ival_mkF]
      refine ICalls.then (w5 _ _) ?_
      try simp [go_sem, -getElem?_pos, -List.map_take, -List.map_drop, List.getElem?_cons_zero, List.getElem?_cons_succ, Go.IntWalk.iteOmega, Go.IntWalk.toNatUp, Config.val, Config.cells, ival_mkF]
      refine ICalls.then (withinI _ _ _ _) ?_
      try simp [go_sem, -getElem?_pos, -List.map_take, -List.map_drop, List.getElem?_cons_zero, List.getElem?_cons_succ, Go.IntWalk.iteOmega, Go.IntWalk.toNatUp, Config.val, Config.cells, ival_mkF]
      refine ICalls.then (o1 _ _) ?_
      try simp [go_sem, -getElem?_pos, -List.map_take, -List.map_drop, List.getElem?_cons_zero, List.getElem?_cons_succ, Go.IntWalk.iteOmega, Go.IntWalk.toNatUp, Config.val, Config.cells, ival_mkF]
      refine ICalls.then (w1 _) ?_
      try simp [go_sem, -getElem?_pos, -List.map_take, -List.map_drop, List.getElem?_cons_zero, List.getElem?_cons_succ, Go.IntWalk.iteOmega, Go.IntWalk.toNatUp, Config.val, Config.cells, ival_mkF]
      refine ICalls.then (o1 _ _) ?_
      try simp [go_sem, -getElem?_pos, -List.map_take, -List.map_drop, List.getElem?_cons_zero, List.getElem?_cons_succ, Go.IntWalk.iteOmega, Go.IntWalk.toNatUp, Config.val, Config.cells, ival_mkF]
      refine ICalls.then (w2 _) ?_
      try simp [go_sem, -getElem?_pos, -List.map_take, -List.map_drop, List.getElem?_cons_zero, List.getElem?_cons_succ, Go.IntWalk.iteOmega, Go.IntWalk.toNatUp, Config.val, Config.cells, ival_mkF]
      refine ICalls.then (o1 _ _) ?_
      try simp [go_sem, -getElem?_pos, -List.map_take, -List.map_drop, List.getElem?_cons_zero, List.getElem?_cons_succ, Go.IntWalk.iteOmega, Go.IntWalk.toNatUp, Config.val, Config.cells, ival_mkF]
      refine ICalls.then (withinI _ _ _ _) ?_
      try simp [go_sem, -getElem?_pos, -List.map_take, -List.map_drop, List.getElem?_cons_zero, List.getElem?_cons_succ, Go.IntWalk.iteOmega, Go.IntWalk.toNatUp, Config.val, Config.cells, ival_mkF]
      refine ICalls.then (o1 _ _) ?_
      try simp [go_sem, -getElem?_pos, -List.map_take, -List.map_drop, List.getElem?_cons_zero, List.getElem?_cons_succ, Go.IntWalk.iteOmega, Go.IntWalk.toNatUp, Config.val, Config.cells, ival_mkF]
      refine IWp.ret ?_
      simp [go_sem, -getElem?_pos, -List.map_take, -List.map_drop, List.getElem?_cons_zero, List.getElem?_cons_succ, Go.IntWalk.iteOmega, Go.IntWalk.toNatUp, Config.val, Config.cells, ival_mkF, Try.results42]
      refine key _ _ rfl ?_ rfl
      intro u hu
      simp only [List.mem_cons, List.not_mem_nil, or_false] at hu
      iterate 16 (rcases hu with rfl | hu; · rfl)
      subst hu; rfl
    · simp only [Bool.false_and, Bool.true_and]
      refine IWp.run [1, 3] ?_
      simp [go_sem, -getElem?_pos, -List.map_take, -List.map_drop, List.getElem?_cons_zero, List.getElem?_cons_succ, Go.IntWalk.iteOmega, Go.IntWalk.toNatUp, Config.val, Config.cells, ival_mkF]
      refine IWp.seq ?_
      refine IWp.draw [2] [] (.val 0 (.ld 1 [2, 3, 4, 13, 14, 16, 19, 21, 23, 25, 27, 29, 33, 34, 49, 50, 51, 52, 53, 54, 55, 56, 57, 58, 59, 60, 61, 64, 65, 66, 67, 68, 69, 70, 73, 74, 75, 76] (.val 2 (.val 5 (.val 8 (.val 10 (.val 18 (.val 30 (.val 35 (.val 38 (.val 40 (.val 43 (.val 45 (.val 46 (.val 47 (.val 62 (.val 71 (.val 6 (.val 7 (.val 9 (.val 11 (.val 12 (.val 15 (.val 17 (.val 20 (.val 22 (.val 24 (.val 26 (.val 28 (.val 31 (.val 32 (.val 36 (.val 37 (.val 39 (.val 41 (.val 42 (.val 44 (.val 48 (.val 63 (.val 72 (.eff 3 (.eff 4 (.eff 13 (.eff 14 (.eff 16 (.eff 19 (.eff 21 (.eff 23 (.eff 25 (.eff 27 (.eff 29 (.eff 33 (.eff 34 (.eff 49 (.val 50 (.ld 57 [58, 59, 60, 61, 64, 65, 66, 67, 68, 69, 70, 73, 74, 75, 76] (.val 51 (.val 53 (.val 52 (.val 54 (.val 55 (.val 56 (.eff 58 (.val 59 (.val 60 (.eff 61 (.eff 64 (.val 65 (.val 66 (.ld 67 [68, 69, 70, 73, 74, 75, 76] (.eff 68 (.val 69 (.eff 70 (.eff 73 (.eff 74 (.eff 75 (.val 76 .done) .done) .done) .done) .done)) .done)))) .done) .done))) .done))))))))) .done) .done) .done) .done) .done) .done) .done) .done) .done) .done) .done) .done) .done) .done))))))))))))))))))))))))))))))))))))))))) follows (by kernel_rfl) ?_
      simp [go_sem, -getElem?_pos, -List.map_take, -List.map_drop, List.getElem?_cons_zero, List.getElem?_cons_succ, Go.IntWalk.iteOmega, Go.IntWalk.toNatUp, Config.val, Config.cells, ival_mkF]
      refine ICalls.then (withinI _ _ _ _) ?_
      try simp [go_sem, -getElem?_pos, -List.map_take, -List.map_drop, List.getElem?_cons_zero, List.getElem?_cons_succ, Go.IntWalk.iteOmega, Go.IntWalk.toNatUp, Config.val, Config.cells, ival_mkF]
      refine ICalls.then (o1 _ _) ?_
      try simp [go_sem, -getElem?_pos, -List.map_take, -List.map_drop, List.getElem?_cons_zero, List.getElem?_cons_succ, Go.IntWalk.iteOmega, Go.IntWalk.toNatUp, Config.val, Config.cells, ival_mkF]
      refine ICalls.then (withinI _ _ _ _) ?_
      try simp [go_sem, -getElem?_pos, -List.map_take, -List.map_drop, List.getElem?_cons_zero, List.getElem?_cons_succ, Go.IntWalk.iteOmega, Go.IntWalk.toNatUp, Config.val, Config.cells, ival_mkF]
      refine ICalls.then (o1 _ _) ?_
      try simp [go_sem, -getElem?_pos, -List.map_take, -List.map_drop, List.getElem?_cons_zero, List.getElem?_cons_succ, Go.IntWalk.iteOmega, Go.IntWalk.toNatUp, Config.val, Config.cells, ival_mkF]
      refine ICalls.then (w5 _ _) ?_
      try simp [go_sem, -getElem?_pos, -List.map_take, -List.map_drop, List.getElem?_cons_zero, List.getElem?_cons_succ, Go.IntWalk.iteOmega, Go.IntWalk.toNatUp, Config.val, Config.cells, ival_mkF]
      refine ICalls.then (w6 _ _) ?_
      try simp [go_sem, -getElem?_pos, -List.map_take, -List.map_drop, List.getElem?_cons_zero, List.getElem?_cons_succ, Go.IntWalk.iteOmega, Go.IntWalk.toNatUp, Config.val, Config.cells, ival_mkF]
      refine ICalls.then (w5 _ _) ?_
      try simp [go_sem, -getElem?_pos, -List.map_take, -List.map_drop, List.getElem?_cons_zero, List.getElem?_cons_succ, Go.IntWalk.iteOmega, Go.IntWalk.toNatUp, Config.val, Config.cells, ival_mkF]
      refine ICalls.then (w5 _ _) ?_
      try simp [go_sem, -getElem?_pos, -List.map_take, -List.map_drop, List.getElem?_cons_zero, List.getElem?_cons_succ, Go.IntWalk.iteOmega, Go.IntWalk.toNatUp, Config.val, Config.cells, ival_mkF]
      refine ICalls.then (w5 _ _) ?_
      try simp [go_sem, -getElem?_pos, -List.map_take, -List.map_drop, List.getElem?_cons_zero, List.getElem?_cons_succ, Go.IntWalk.iteOmega, Go.IntWalk.toNatUp, Config.val, Config.cells, ival_mkF]
      refine ICalls.then (w5 _ _) ?_
      try simp [go_sem, -getElem?_pos, -List.map_take, -List.map_drop, List.getElem?_cons_zero, List.getElem?_cons_succ, Go.IntWalk.iteOmega, Go.IntWalk.toNatUp, Config.val, Config.cells, ival_mkF]
      refine ICalls.then (w5 _ _) ?_
      try simp [go_sem, -getElem?_pos, -List.map_take, -List.map_drop, List.getElem?_cons_zero, List.getElem?_cons_succ, Go.IntWalk.iteOmega, Go.IntWalk.toNatUp, Config.val, Config.cells, ival_mkF]
      refine ICalls.then (withinI _ _ _ _) ?_
      try simp [go_sem, -getElem?_pos, -List.map_take, -List.map_drop, List.getElem?_cons_zero, List.getElem?_cons_succ, Go.IntWalk.iteOmega, Go.IntWalk.toNatUp, Config.val, Config.cells, ival_mkF]
      refine ICalls.then (o1 _ _) ?_
      try simp [go_sem, -getElem?_pos, -List.map_take, -List.map_drop, List.getElem?_cons_zero, List.getElem?_cons_succ, Go.IntWalk.iteOmega, Go.IntWalk.toNatUp, Config.val, Config.cells, ival_mkF]
      refine ICalls.then (w1 _) ?_
      try simp [go_sem, -getElem?_pos, -List.map_take, -List.map_drop, List.getElem?_cons_zero, List.getElem?_cons_succ, Go.IntWalk.iteOmega, Go.IntWalk.toNatUp, Config.val, Config.cells, ival_mkF]
      refine ICalls.then (o1 _ _) ?_
      try simp [go_sem, -getElem?_pos, -List.map_take, -List.map_drop, List.getElem?_cons_zero, List.getElem?_cons_succ, Go.IntWalk.iteOmega, Go.IntWalk.toNatUp, Config.val, Config.cells, ival_mkF]
      refine ICalls.then (w2 _) ?_
      try simp [go_sem, -getElem?_pos, -List.map_take, -List.map_drop, List.getElem?_cons_zero, List.getElem?_cons_succ, Go.IntWalk.iteOmega, Go.IntWalk.toNatUp, Config.val, Config.cells, ival_mkF]
      refine ICalls.then (w3 _) ?_
      try simp [go_sem, -getElem?_pos, -List.map_take, -List.map_drop, List.getElem?_cons_zero, List.getElem?_cons_succ, Go.IntWalk.iteOmega, Go.IntWalk.toNatUp, Config.val, Config.cells, ival_mkF]
      refine ICalls.then (o1 _ _) ?_
      try simp [go_sem, -getElem?_pos, -List.map_take, -List.map_drop, List.getElem?_cons_zero, List.getElem?_cons_succ, Go.IntWalk.iteOmega, Go.IntWalk.toNatUp, Config.val, Config.cells, ival_mkF]
      refine ICalls.then (withinI _ _ _ _) ?_
      try simp [go_sem, -getElem?_pos, -List.map_take, -List.map_drop, List.getElem?_cons_zero, List.getElem?_cons_succ, Go.IntWalk.iteOmega, Go.IntWalk.toNatUp, Config.val, Config.cells, ival_mkF]
      refine ICalls.then (o1 _ _) ?_
      try simp [go_sem, -getElem?_pos, -List.map_take, -List.map_drop, List.getElem?_cons_zero, List.getElem?_cons_succ, Go.IntWalk.iteOmega, Go.IntWalk.toNatUp, Config.val, Config.cells, ival_mkF]
      refine IWp.ret ?_
      simp [go_sem, -getElem?_pos, -List.map_take, -List.map_drop, List.getElem?_cons_zero, List.getElem?_cons_succ, Go.IntWalk.iteOmega, Go.IntWalk.toNatUp, Config.val, Config.cells, ival_mkF, Try.results42]
      refine key _ _ rfl ?_ rfl
      intro u hu
      simp only [List.mem_cons, List.not_mem_nil, or_false] at hu
      iterate 16 (rcases hu with rfl | hu; · rfl)
      subst hu; rfl
  · cases x2
    · simp only [Bool.false_and, Bool.true_and]
      refine IWp.run [1, 3] ?_
      simp [go_sem, -getElem?_pos, -List.map_take, -List.map_drop, List.getElem?_cons_zero, List.getElem?_cons_succ, Go.IntWalk.iteOmega, Go.IntWalk.toNatUp, Config.val, Config.cells, ival_mkF, hmul rfl]
      refine IWp.seq ?_
      refine IWp.draw [2] [] (.val 0 (.ld 1 [2, 3, 4, 13, 14, 16, 19, 21, 23, 25, 27, 29, 33, 34, 49, 50, 51, 52, 53, 54, 55, 56, 57, 58, 59, 60, 61, 64, 65, 66, 67, 68, 69, 70, 73, 74, 75, 76] (.val 2 (.val 5 (.val 8 (.val 10 (.val 18 (.val 30 (.val 35 (.val 38 (.val 40 (.val 43 (.val 45 (.val 46 (.val 47 (.val 62 (.val 71 (.val 6 (.val 7 (.val 9 (.val 11 (.val 12 (.val 15 (.val 17 (.val 20 (.val 22 (.val 24 (.val 26 (.val 28 (.val 31 (.val 32 (.val 36 (.val 37 (.val 39 (.val 41 (.val 42 (.val 44 (.val 48 (.val 63 (.val 72 (.eff 3 (.eff 4 (.eff 13 (.eff 14 (.eff 16 (.eff 19 (.eff 21 (.eff 23 (.eff 25 (.eff 27 (.eff 29 (.eff 33 (.eff 34 (.eff 49 (.val 50 (.ld 57 [58, 59, 60, 61, 64, 65, 66, 67, 68, 69, 70, 73, 74, 75, 76] (.val 51 (.val 53 (.val 52 (.val 54 (.val 55 (.val 56 (.eff 58 (.val 59 (.val 60 (.eff 61 (.eff 64 (.val 65 (.val 66 (.ld 67 [68, 69, 70, 73, 74, 75, 76] (.eff 68 (.val 69 (.eff 70 (.eff 73 (.eff 74 (.eff 75 (.val 76 .done) .done) .done) .done) .done)) .done)))) .done) .done))) .done))))))))) .done) .done) .done) .done) .done) .done) .done) .done) .done) .done) .done) .done) .done) .done))))))))))))))))))))))))))))))))))))))))) follows (by kernel_rfl) ?_
      simp [go_sem, -getElem?_pos, -List.map_take, -List.map_drop, List.getElem?_cons_zero, List.getElem?_cons_succ, Go.IntWalk.iteOmega, Go.IntWalk.toNatUp, Config.val, Config.cells, ival_mkF, hmul rfl]
      refine ICalls.then (withinI _ _ _ _) ?_
      try simp [go_sem, -getElem?_pos, -List.map_take, -List.map_drop, List.getElem?_cons_zero, List.getElem?_cons_succ, Go.IntWalk.iteOmega, Go.IntWalk.toNatUp, Config.val, Config.cells, ival_mkF, hmul rfl]
      refine ICalls.then (o1 _ _) ?_
      try simp [go_sem, -getElem?_pos, -List.map_take, -List.map_drop, List.getElem?_cons_zero, List.getElem?_cons_succ, Go.IntWalk.iteOmega, Go.IntWalk.toNatUp, Config.val, Config.cells, ival_mkF, hmul rfl]
      refine ICalls.then (withinI _ _ _ _) ?_
      try simp [go_sem, -getElem?_pos, -List.map_take, -List.map_drop, List.getElem?_cons_zero, List.getElem?_cons_succ, Go.IntWalk.iteOmega, Go.IntWalk.toNatUp, Config.val, Config.cells, ival_mkF, hmul rfl]
      refine ICalls.then (o1 _ _) ?_
      try simp [go_sem, -getElem?_pos, -List.map_take, -List.map_drop, List.getElem?_cons_zero, List.getElem?_cons_succ, Go.IntWalk.iteOmega, Go.IntWalk.toNatUp, Config.val, Config.cells, ival_mkF, hmul rfl]
      refine ICalls.then (w5 _ _) ?_
      try simp [go_sem, -getElem?_pos, -List.map_take, -List.map_drop, List.getElem?_cons_zero, List.getElem?_cons_succ, Go.IntWalk.iteOmega, Go.IntWalk.toNatUp, Config.val, Config.cells, ival_mkF, hmul rfl]
      refine ICalls.then (w6 _ _) ?_
      try simp [go_sem, -getElem?_pos, -List.map_take, -List.map_drop, List.getElem?_cons_zero, List.getElem?_cons_succ, Go.IntWalk.iteOmega, Go.IntWalk.toNatUp, Config.val, Config.cells, ival_mkF, hmul rfl]
      refine ICalls.then (w5 _ _) ?_
      try simp [go_sem, -getElem?_pos, -List.map_take, -List.map_drop, List.getElem?_cons_zero, List.getElem?_cons_succ, Go.IntWalk.iteOmega, Go.IntWalk.toNatUp, Config.val, Config.cells, ival_mkF, hmul rfl]
      refine ICalls.then (w5 _ _) ?_
      try simp [go_sem, -getElem?_pos, -List.map_take, -List.map_drop, List.getElem?_cons_zero, List.getElem?_cons_succ, Go.IntWalk.iteOmega, Go.IntWalk.toNatUp, Config.val, Config.cells, ival_mkF, hmul rfl]
      refine ICalls.then (w5 _ _) ?_
      try simp [go_sem, -getElem?_pos, -List.map_take, -List.map_drop, List.getElem?_cons_zero, List.getElem?_cons_succ, Go.IntWalk.iteOmega, Go.IntWalk.toNatUp, Config.val, Config.cells, ival_mkF, hmul rfl]
      refine ICalls.then (w5 _ _) ?_
      try simp [go_sem, -getElem?_pos, -List.map_take, -List.map_drop, List.getElem?_cons_zero, List.getElem?_cons_succ, Go.IntWalk.iteOmega, Go.IntWalk.toNatUp, Config.val, Config.cells, ival_mkF, hmul rfl]
      refine ICalls.then (w5 _ _) ?_
      try simp [go_sem, -getElem?_pos, -List.map_take, -List.map_drop, List.getElem?_cons_zero, List.getElem?_cons_succ, Go.IntWalk.iteOmega, Go.IntWalk.toNatUp, Config.val, Config.cells, ival_mkF, hmul rfl]
      refine ICalls.then (withinI _ _ _ _) ?_
      try simp [go_sem, -getElem?_pos, -List.map_take, -List.map_drop, List.getElem?_cons_zero, List.getElem?_cons_succ, Go.IntWalk.iteOmega, Go.IntWalk.toNatUp, Config.val, Config.cells, ival_mkF, hmul rfl]
      refine ICalls.then (o1 _ _) ?_
      try simp [go_sem, -getElem?_pos, -List.map_take, -List.map_drop, List.getElem?_cons_zero, List.getElem?_cons_succ, Go.IntWalk.iteOmega, Go.IntWalk.toNatUp, Config.val, Config.cells, ival_mkF, hmul rfl]
      refine ICalls.then (w1 _) ?_
      try simp [go_sem, -getElem?_pos, -List.map_take, -List.map_drop, List.getElem?_cons_zero, List.getElem?_cons_succ, Go.IntWalk.iteOmega, Go.IntWalk.toNatUp, Config.val, Config.cells, ival_mkF, hmul rfl]
      refine ICalls.then (w4 _) ?_
      try simp [go_sem, -getElem?_pos, -List.map_take, -List.map_drop, List.getElem?_cons_zero, List.getElem?_cons_succ, Go.IntWalk.iteOmega, Go.IntWalk.toNatUp, Config.val, Config.cells, ival_mkF, hmul rfl]
      refine ICalls.then (o1 _ _) ?_
      try simp [go_sem, -getElem?_pos, -List.map_take, -List.map_drop, List.getElem?_cons_zero, List.getElem?_cons_succ, Go.IntWalk.iteOmega, Go.IntWalk.toNatUp, Config.val, Config.cells, ival_mkF, hmul rfl]
      refine ICalls.then (w2 _) ?_
      try simp [go_sem, -getElem?_pos, -List.map_take, -List.map_drop, List.getElem?_cons_zero, List.getElem?_cons_succ, Go.IntWalk.iteOmega, Go.IntWalk.toNatUp, Config.val, Config.cells, ival_mkF, hmul rfl]
      refine ICalls.then (o1 _ _) ?_
      try simp [go_sem, -getElem?_pos, -List.map_take, -List.map_drop, List.getElem?_cons_zero, List.getElem?_cons_succ, Go.IntWalk.iteOmega, Go.IntWalk.toNatUp, Config.val, Config.cells, ival_mkF, hmul rfl]
      refine ICalls.then (withinI _ _ _ _) ?_
      try simp [go_sem, -getElem?_pos, -List.map_take, -List.map_drop, List.getElem?_cons_zero, List.getElem?_cons_succ, Go.IntWalk.iteOmega, Go.IntWalk.toNatUp, Config.val, Config.cells, ival_mkF, hmul rfl]
      refine ICalls.then (o1 _ _) ?_
      try simp [go_sem, -getElem?_pos, -List.map_take, -List.map_drop, List.getElem?_cons_zero, List.getElem?_cons_succ, Go.IntWalk.iteOmega, Go.IntWalk.toNatUp, Config.val, Config.cells, ival_mkF, hmul rfl]
      refine IWp.ret ?_
      simp [go_sem, -getElem?_pos, -List.map_take, -List.map_drop, List.getElem?_cons_zero, List.getElem?_cons_succ, Go.IntWalk.iteOmega, Go.IntWalk.toNatUp, Config.val, Config.cells, ival_mkF, hmul rfl, Try.results42]
      refine key _ _ rfl ?_ rfl
      intro u hu
      simp only [List.mem_cons, List.not_mem_nil, or_false] at hu
      iterate 16 (rcases hu with rfl | hu; · rfl)
      subst hu; rfl
    · simp only [Bool.false_and, Bool.true_and]
      refine IWp.run [1, 3] ?_
      simp [go_sem, -getElem?_pos, -List.map_take, -List.map_drop, List.getElem?_cons_zero, List.getElem?_cons_succ, Go.IntWalk.iteOmega, Go.IntWalk.toNatUp, Config.val, Config.cells, ival_mkF, hmul rfl]
      refine IWp.seq ?_
      refine IWp.draw [2] [] (.val 0 (.ld 1 [2, 3, 4, 13, 14, 16, 19, 21, 23, 25, 27, 29, 33, 34, 49, 50, 51, 52, 53, 54, 55, 56, 57, 58, 59, 60, 61, 64, 65, 66, 67, 68, 69, 70, 73, 74, 75, 76] (.val 2 (.val 5 (.val 8 (.val 10 (.val 18 (.val 30 (.val 35 (.val 38 (.val 40 (.val 43 (.val 45 (.val 46 (.val 47 (.val 62 (.val 71 (.val 6 (.val 7 (.val 9 (.val 11 (.val 12 (.val 15 (.val 17 (.val 20 (.val 22 (.val 24 (.val 26 (.val 28 (.val 31 (.val 32 (.val 36 (.val 37 (.val 39 (.val 41 (.val 42 (.val 44 (.val 48 (.val 63 (.val 72 (.eff 3 (.eff 4 (.eff 13 (.eff 14 (.eff 16 (.eff 19 (.eff 21 (.eff 23 (.eff 25 (.eff 27 (.eff 29 (.eff 33 (.eff 34 (.eff 49 (.val 50 (.ld 57 [58, 59, 60, 61, 64, 65, 66, 67, 68, 69, 70, 73, 74, 75, 76] (.val 51 (.val 53 (.val 52 (.val 54 (.val 55 (.val 56 (.eff 58 (.val 59 (.val 60 (.eff 61 (.eff 64 (.val 65 (.val 66 (.ld 67 [68, 69, 70, 73, 74, 75, 76] (.eff 68 (.val 69 (.eff 70 (.eff 73 (.eff 74 (.eff 75 (.val 76 .done) .done) .done) .done) .done)) .done)))) .done) .done))) .done))))))))) .done) .done) .done) .done) .done) .done) .done) .done) .done) .done) .done) .done) .done) .done))))))))))))))))))))))))))))))))))))))))) follows (by kernel_rfl) ?_
      simp [go_sem, -getElem?_pos, -List.map_take, -List.map_drop, List.getElem?_cons_zero, List.getElem?_cons_succ, Go.IntWalk.iteOmega, Go.IntWalk.toNatUp, Config.val, Config.cells, ival_mkF, hmul rfl]
      refine ICalls.then (withinI _ _ _ _) ?_
      try simp [go_sem, -getElem?_pos, -List.map_take, -List.map_drop, List.getElem?_cons_zero, List.getElem?_cons_succ, Go.IntWalk.iteOmega, Go.IntWalk.toNatUp, Config.val, Config.cells, ival_mkF, hmul rfl]
      refine ICalls.then (o1 _ _) ?_
      try simp [go_sem, -getElem?_pos, -List.map_take, -List.map_drop, List.getElem?_cons_zero, List.getElem?_cons_succ, Go.IntWalk.iteOmega, Go.IntWalk.toNatUp, Config.val, Config.cells, ival_mkF, hmul rfl]
      refine ICalls.then (withinI _ _ _ _) ?_
      try simp [go_sem, -getElem?_pos, -List.map_take, -List.map_drop, List.getElem?_cons_zero, List.getElem?_cons_succ, Go.IntWalk.iteOmega, Go.IntWalk.toNatUp, Config.val, Config.cells, ival_mkF, hmul rfl]
      refine ICalls.then (o1 _ _) ?_
      try simp [go_sem, -getElem?_pos, -List.map_take, -List.map_drop, List.getElem?_cons_zero, List.getElem?_cons_succ, Go.IntWalk.iteOmega, Go.IntWalk.toNatUp, Config.val, Config.cells, ival_mkF, hmul rfl]
      refine ICalls.then (w5 _ _) ?_
      try simp [go_sem, -getElem?_pos, -List.map_take, -List.map_drop, List.getElem?_cons_zero, List.getElem?_cons_succ, Go.IntWalk.iteOmega, Go.IntWalk.toNatUp, Config.val, Config.cells, ival_mkF, hmul rfl]
      refine ICalls.then (w6 _ _) ?_
      try simp [go_sem, -getElem?_pos, -List.map_take, -List.map_drop, List.getElem?_cons_zero, List.getElem?_cons_succ, Go.IntWalk.iteOmega, Go.IntWalk.toNatUp, Config.val, Config.cells, ival_mkF, hmul rfl]
      refine ICalls.then (w5 _ _) ?_
      try simp [go_sem, -getElem?_pos, -List.map_take, -List.map_drop, List.getElem?_cons_zero, List.getElem?_cons_succ, Go.IntWalk.iteOmega, Go.IntWalk.toNatUp, Config.val, Config.cells, ival_mkF, hmul rfl]
      refine ICalls.then (w5 _ _) ?_
      try simp [go_sem, -getElem?_pos, -List.map_take, -List.map_drop, List.getElem?_cons_zero, List.getElem?_cons_succ, Go.IntWalk.iteOmega, Go.IntWalk.toNatUp, Config.val, Config.cells, ival_mkF, hmul rfl]
      refine ICalls.then (w5 _ _) ?_
      try simp [go_sem, -getElem?_pos, -List.map_take, -List.map_drop, List.getElem?_cons_zero, List.getElem?_cons_succ, Go.IntWalk.iteOmega, Go.IntWalk.toNatUp, Config.val, Config.cells, ival_mkF, hmul rfl]
      refine ICalls.then (w5 _ _) ?_
      try simp [go_sem, -getElem?_pos, -List.map_take, -List.map_drop, List.getElem?_cons_zero, List.getElem?_cons_succ, Go.IntWalk.iteOmega, Go.IntWalk.toNatUp, Config.val, Config.cells, ival_mkF, hmul rfl]
      refine ICalls.then (w5 _ _) ?_
      try simp [go_sem, -getElem?_pos, -List.map_take, -List.map_drop, List.getElem?_cons_zero, List.getElem?_cons_succ, Go.IntWalk.iteOmega, Go.IntWalk.toNatUp, Config.val, Config.cells, ival_mkF, hmul rfl]
      refine ICalls.then (withinI _ _ _ _) ?_
      try simp [go_sem, -getElem?_pos, -List.map_take, -List.map_drop, List.getElem?_cons_zero, List.getElem?_cons_succ, Go.IntWalk.iteOmega, Go.IntWalk.toNatUp, Config.val, Config.cells, ival_mkF, hmul rfl]
      refine ICalls.then (o1 _ _) ?_
      try simp [go_sem, -getElem?_pos, -List.map_take, -List.map_drop, List.getElem?_cons_zero, List.getElem?_cons_succ, Go.IntWalk.iteOmega, Go.IntWalk.toNatUp, Config.val, Config.cells, ival_mkF, hmul rfl]
      refine ICalls.then (w1 _) ?_
      try simp [go_sem, -getElem?_pos, -List.map_take, -List.map_drop, List.getElem?_cons_zero, List.getElem?_cons_succ, Go.IntWalk.iteOmega, Go.IntWalk.toNatUp, Config.val, Config.cells, ival_mkF, hmul rfl]
      refine ICalls.then (w4 _) ?_
      try simp [go_sem, -getElem?_pos, -List.map_take, -List.map_drop, List.getElem?_cons_zero, List.getElem?_cons_succ, Go.IntWalk.iteOmega, Go.IntWalk.toNatUp, Config.val, Config.cells, ival_mkF, hmul rfl]
      refine ICalls.then (o1 _ _) ?_
      try simp [go_sem, -getElem?_pos, -List.map_take, -List.map_drop, List.getElem?_cons_zero, List.getElem?_cons_succ, Go.IntWalk.iteOmega, Go.IntWalk.toNatUp, Config.val, Config.cells, ival_mkF, hmul rfl]
      refine ICalls.then (w2 _) ?_
      try simp [go_sem, -getElem?_pos, -List.map_take, -List.map_drop, List.getElem?_cons_zero, List.getElem?_cons_succ, Go.IntWalk.iteOmega, Go.IntWalk.toNatUp, Config.val, Config.cells, ival_mkF, hmul rfl]
      refine ICalls.then (w3 _) ?_
      try simp [go_sem, -getElem?_pos, -List.map_take, -List.map_drop, List.getElem?_cons_zero, List.getElem?_cons_succ, Go.IntWalk.iteOmega, Go.IntWalk.toNatUp, Config.val, Config.cells, ival_mkF, hmul rfl]
      refine ICalls.then (o1 _ _) ?_
      try simp [go_sem, -getElem?_pos, -List.map_take, -List.map_drop, List.getElem?_cons_zero, List.getElem?_cons_succ, Go.IntWalk.iteOmega, Go.IntWalk.toNatUp, Config.val, Config.cells, ival_mkF, hmul rfl]
      refine ICalls.then (withinI _ _ _ _) ?_
      try simp [go_sem, -getElem?_pos, -List.map_take, -List.map_drop, List.getElem?_cons_zero, List.getElem?_cons_succ, Go.IntWalk.iteOmega, Go.IntWalk.toNatUp, Config.val, Config.cells, ival_mkF, hmul rfl]
      refine ICalls.then (o1 _ _) ?_
      try simp [go_sem, -getElem?_pos, -List.map_take, -List.map_drop, List.getElem?_cons_zero, List.getElem?_cons_succ, Go.IntWalk.iteOmega, Go.IntWalk.toNatUp, Config.val, Config.cells, ival_mkF, hmul rfl]
      refine IWp.ret ?_
      simp [go_sem, -getElem?_pos, -List.map_take, -List.map_drop, List.getElem?_cons_zero, List.getElem?_cons_succ, Go.IntWalk.iteOmega, Go.IntWalk.toNatUp, Config.val, Config.cells, ival_mkF, hmul rfl, Try.results42]
      refine key _ _ rfl ?_ rfl
      intro u hu
      simp only [List.mem_cons, List.not_mem_nil, or_false] at hu
      iterate 16 (rcases hu with rfl | hu; · rfl)
      subst hu; rfl

theorem holdsS_rule (c : Config) {n i : Nat} (hn : 3 ≤ n ∧ n ≤ 9) {r : Rule} (hr : c.rules[i]? = some r) : holdsS c n i = ruleB c.sigs.length n r ∧ placesS c n = c.rules.length := by
  obtain ⟨h1, h2⟩ := hn
  have : n = 3 ∨ n = 4 ∨ n = 5 ∨ n = 6 ∨ n = 7 ∨ n = 8 ∨ n = 9 := by omega
  rcases this with rfl | rfl | rfl | rfl | rfl | rfl | rfl <;> simp [holdsS, placesS, hr]

/-- The n-th of them: how many places it has, and what its function answers. -/
theorem chk_get (c : Config) (hS : Sized c) (n : Nat) (hn : n < 17) : ∃ g cap, (chkV c)[n]? = some (.agg ⟨[.int .i64 (placesS c n), .func (.func g) ⟨[]⟩ ⟨cap⟩]⟩) ∧
    ∀ i : Nat, i < placesS c n → ∀ K, ICalls Try.prog g (.int .i64 (i : Int) :: cap) K fun v H' => v = .bool (holdsS c n i) ∧ H' = K := by
  have hr : ∀ i : Nat, i < c.rules.length → ∃ r, c.rules[i]? = some r ∧ r ∈ c.rules := fun i hi => ⟨c.rules[i], List.getElem?_eq_getElem hi, List.getElem_mem hi⟩
  have hone : ∀ (b : Bool) (i : Nat) K, ICalls Try.prog 67 [.int .i64 (i : Int), fptr 0 (.bool b)] K fun v H' => v = .bool b ∧ H' = K := fun b i K => oneF K i b
  have hall : n = 0 ∨ n = 1 ∨ n = 2 ∨ n = 3 ∨ n = 4 ∨ n = 5 ∨ n = 6 ∨ n = 7 ∨ n = 8 ∨ n = 9 ∨ n = 10 ∨ n = 11 ∨ n = 12 ∨ n = 13 ∨ n = 14 ∨ n = 15 ∨ n = 16 := by omega
  rcases hall with rfl | rfl | rfl | rfl | rfl | rfl | rfl | rfl | rfl | rfl | rfl | rfl | rfl | rfl | rfl | rfl | rfl
  · exact ⟨_, _, rfl, fun i _ K => hone _ i K⟩
  · refine ⟨_, _, rfl, fun i hi K => ?_⟩
    have hi : i < c.sigs.length := hi
    have := rules2F K c i c.sigs[i] (List.getElem?_eq_getElem hi)
    rw [show holdsS c 1 i = sigB c.sigs[i] by simp [holdsS, List.getElem?_eq_getElem hi]]
    exact this
  · exact ⟨_, _, rfl, fun i _ K => hone _ i K⟩
  · refine ⟨_, _, rfl, fun i hi K => ?_⟩
    obtain ⟨r, h1, h2⟩ := hr i hi
    rw [(holdsS_rule c (n := 3) (by omega) h1).1]
    exact eachF K c i r _ _ _ h1 fun K => rules3F K r
  · refine ⟨_, _, rfl, fun i hi K => ?_⟩
    obtain ⟨r, h1, h2⟩ := hr i hi
    rw [(holdsS_rule c (n := 4) (by omega) h1).1]
    exact eachF K c i r _ _ _ h1 fun K => rules4F K c r hS.sigs
  · refine ⟨_, _, rfl, fun i hi K => ?_⟩
    obtain ⟨r, h1, h2⟩ := hr i hi
    rw [(holdsS_rule c (n := 5) (by omega) h1).1]
    exact eachF K c i r _ _ _ h1 fun K => limitsC K r
  · refine ⟨_, _, rfl, fun i hi K => ?_⟩
    obtain ⟨r, h1, h2⟩ := hr i hi
    rw [(holdsS_rule c (n := 6) (by omega) h1).1]
    exact eachF K c i r _ _ _ h1 fun K => spanC K r
  · refine ⟨_, _, rfl, fun i hi K => ?_⟩
    obtain ⟨r, h1, h2⟩ := hr i hi
    rw [(holdsS_rule c (n := 7) (by omega) h1).1]
    exact eachF K c i r _ _ _ h1 fun K => rules5F K r
  · refine ⟨_, _, rfl, fun i hi K => ?_⟩
    obtain ⟨r, h1, h2⟩ := hr i hi
    rw [(holdsS_rule c (n := 8) (by omega) h1).1]
    exact eachF K c i r _ _ _ h1 fun K => rules6F K r
  · refine ⟨_, _, rfl, fun i hi K => ?_⟩
    obtain ⟨r, h1, h2⟩ := hr i hi
    rw [(holdsS_rule c (n := 9) (by omega) h1).1]
    exact eachF K c i r _ _ _ h1 fun K => stagesC K r (hS.stages r h2)
  · exact ⟨_, _, rfl, fun i _ K => hone _ i K⟩
  · refine ⟨_, _, rfl, fun i hi K => ?_⟩
    have hi : i < c.table.length := hi
    have := rules7F K c hS i c.table[i] (List.getElem?_eq_getElem hi)
    rw [show holdsS c 11 i = decide (SlotOk c.rules.length c.table[i]) by simp [holdsS, List.getElem?_eq_getElem hi]]
    exact this
  · exact ⟨_, _, rfl, fun i hi K => rules1F K c i hS⟩
  · exact ⟨_, _, rfl, fun i hi K => rules8F K c i hi⟩
  · exact ⟨_, _, rfl, fun i _ K => hone _ i K⟩
  · exact ⟨_, _, rfl, fun i _ K => hone _ i K⟩
  · exact ⟨_, _, rfl, fun i _ K => hone _ i K⟩

theorem placesS_le (c : Config) (hS : Sized c) {n : Nat} (hn : n < 17) : placesS c n ≤ 1000 := by
  have h1 := hS.sigs
  have h2 := hS.rules
  have h3 := hS.table
  have hall : n = 0 ∨ n = 1 ∨ n = 2 ∨ n = 3 ∨ n = 4 ∨ n = 5 ∨ n = 6 ∨ n = 7 ∨ n = 8 ∨ n = 9 ∨ n = 10 ∨ n = 11 ∨ n = 12 ∨ n = 13 ∨ n = 14 ∨ n = 15 ∨ n = 16 := by omega
  rcases hall with rfl | rfl | rfl | rfl | rfl | rfl | rfl | rfl | rfl | rfl | rfl | rfl | rfl | rfl | rfl | rfl | rfl <;> simp only [placesS] <;> omega

theorem firstC (H : Heap) (c : Config) (hS : Sized c) : ICalls Try.prog 39 [c.val] H fun v H' => v = .tuple ⟨[.int .i64 (firstS c).1, .int .i64 (firstS c).2]⟩ ∧ H' = H := by
  refine ICalls.ans (by simp [go_sem]) fun H => IBody.calls (by kernel_rfl) ?_
  have hru := fun K => rulesC K c hS
  have hch := chk_get c hS
  have hpl := @placesS_le c hS
  have hfn : (∀ n, n < 17 → ∀ i, i < placesS c n → holdsS c n i = true) → firstS c = (0, 0) := fun h => firstAt_none h
  have hfs : ∀ {n i : Nat}, n < 17 → i < placesS c n → holdsS c n i = false → (∀ m, m < n → ∀ j, j < placesS c m → holdsS c m j = true) → (∀ j, j < i → holdsS c n j = true) → firstS c = ((n : Int) + 1, (i : Int)) := fun a b d e f => firstAt_some a b d e f
  have hlen : (chkV c).length = 17 := rfl
  generalize chkV c = L at *
  generalize placesS c = pl at *
  generalize holdsS c = ho at *
  generalize firstS c = F at *
  simp only [Config.val, Config.cells] at hru
  refine IBody.of Try.func39 rfl (by rw [Try.ntmps39]; simp) ?_
  rw [Try.ntmps39]
  refine IWp.seq ?_
  refine IWp.run [1] ?_
  simp [go_sem, -getElem?_pos, -List.map_take, -List.map_drop, List.getElem?_cons_zero, List.getElem?_cons_succ, Go.IntWalk.iteOmega, Go.IntWalk.toNatUp, Config.val, Config.cells, hlen]
  refine IWp.seq ?_
  refine IWp.seq ?_
  refine IWp.run [8, 9, 10] ?_
  simp [go_sem, -getElem?_pos, -List.map_take, -List.map_drop, List.getElem?_cons_zero, List.getElem?_cons_succ, Go.IntWalk.iteOmega, Go.IntWalk.toNatUp, Config.val, Config.cells, hlen]
  refine ICalls.then (hru _) ?_
  try simp [go_sem, -getElem?_pos, -List.map_take, -List.map_drop, List.getElem?_cons_zero, List.getElem?_cons_succ, Go.IntWalk.iteOmega, Go.IntWalk.toNatUp, Config.val, Config.cells, hlen]
  refine IWp.block ?_
  -- LOOP live [8, 9, 10]
  refine IWp.loop (fun q e K => ∃ k : Nat, q = 17 - k ∧ k ≤ 17 ∧ e = [(8, frow 2 0 L), (9, .int .i64 17), (10, .int .i64 (k : Int))] ∧ ∀ n, n < k → ∀ i, i < pl n → ho n i = true) 17 ⟨0, rfl, by omega, by simp [go_sem], fun n hn => absurd hn (by omega)⟩ ?_
  rintro q e K ⟨k, rfl, hk, rfl, hall⟩
  by_cases hk17 : k = 17
  · subst hk17
    rw [hfn hall]
    refine IWp.seq ?_
    refine IWp.run [8, 9, 10, 11] ?_
    simp [go_sem, -getElem?_pos, -List.map_take, -List.map_drop, List.getElem?_cons_zero, List.getElem?_cons_succ, Go.IntWalk.iteOmega, Go.IntWalk.toNatUp]
    refine IWp.seq ?_
    refine IWp.cond ?_
    simp [go_sem, -getElem?_pos, -List.map_take, -List.map_drop, List.getElem?_cons_zero, List.getElem?_cons_succ, Go.IntWalk.iteOmega, Go.IntWalk.toNatUp]
    refine IWp.trim [] (IWp.exit ?_)
    simp [go_sem, -getElem?_pos, -List.map_take, -List.map_drop, List.getElem?_cons_zero, List.getElem?_cons_succ, Go.IntWalk.iteOmega, Go.IntWalk.toNatUp]
    refine IWp.seq ?_
    refine IWp.run [2, 3] ?_
    simp [go_sem, -getElem?_pos, -List.map_take, -List.map_drop, List.getElem?_cons_zero, List.getElem?_cons_succ, Go.IntWalk.iteOmega, Go.IntWalk.toNatUp]
    refine IWp.ret ?_
    simp [go_sem, -getElem?_pos, -List.map_take, -List.map_drop, List.getElem?_cons_zero, List.getElem?_cons_succ, Go.IntWalk.iteOmega, Go.IntWalk.toNatUp, Try.results39]
    try exact .same _
  have hlt : k < 17 := by omega
  obtain ⟨g, cap, hget, hcl⟩ := hch k hlt
  have hp := hpl hlt
  have wk := IntWalk.i64_in ((k : Int) + 1) (by omega)
  have hltI : (k : Int) < 17 := by omega
  refine IWp.seq ?_
  refine IWp.run [8, 9, 10, 11] ?_
  simp [go_sem, -getElem?_pos, -List.map_take, -List.map_drop, List.getElem?_cons_zero, List.getElem?_cons_succ, Go.IntWalk.iteOmega, Go.IntWalk.toNatUp, hltI, hlen, hget, hlt]
  refine IWp.seq ?_
  refine IWp.cond ?_
  simp [go_sem, -getElem?_pos, -List.map_take, -List.map_drop, List.getElem?_cons_zero, List.getElem?_cons_succ, Go.IntWalk.iteOmega, Go.IntWalk.toNatUp, hltI, hlen, hget, hlt]
  refine IWp.trim [8, 9, 10] (IWp.skip ?_)
  simp [go_sem, -getElem?_pos, -List.map_take, -List.map_drop, List.getElem?_cons_zero, List.getElem?_cons_succ, Go.IntWalk.iteOmega, Go.IntWalk.toNatUp, hltI, hlen, hget, hlt]
  refine IWp.seq ?_
  refine IWp.block ?_
  refine IWp.seq ?_
  refine IWp.run [4, 5, 8, 9, 10] ?_
  simp [go_sem, -getElem?_pos, -List.map_take, -List.map_drop, List.getElem?_cons_zero, List.getElem?_cons_succ, Go.IntWalk.iteOmega, Go.IntWalk.toNatUp, hltI, hlen, hget, hlt]
  refine IWp.seq ?_
  refine IWp.run [4, 5, 8, 9, 10, 16, 17] ?_
  simp [go_sem, -getElem?_pos, -List.map_take, -List.map_drop, List.getElem?_cons_zero, List.getElem?_cons_succ, Go.IntWalk.iteOmega, Go.IntWalk.toNatUp, hltI, hlen, hget, hlt]
  refine IWp.block ?_
  -- LOOP live [4, 5, 8, 9, 10, 16, 17]
  have hgb := Heap.get_alloc_new K [.int .i64 (pl k : Int), .func (.func g) ⟨[]⟩ ⟨cap⟩]
  generalize K.next = b at *
  generalize K.alloc _ = K2 at *
  refine IWp.loop (fun q e K' => ∃ i : Nat, q = pl k - i ∧ i ≤ pl k ∧ K' = K2 ∧ e = [(4, .int .i64 (k : Int)), (5, ptrTo b 0), (8, frow 2 0 L), (9, .int .i64 17), (10, .int .i64 (k : Int)), (16, .int .i64 (pl k)), (17, .int .i64 (i : Int))] ∧ ∀ j, j < i → ho k j = true) (pl k) ⟨0, rfl, Nat.zero_le _, rfl, by simp [go_sem], fun n hn => absurd hn (by omega)⟩ ?_
  rintro q e K' ⟨i, rfl, hi, rfl, rfl, hpre⟩
  have wi := IntWalk.i64_in ((i : Int) + 1) (by omega)
  by_cases hil : i < pl k
  · have c1 := hcl i hil
    cases hb : ho k i with
    | true =>
      rw [hb] at c1
      refine IWp.seq ?_
      refine IWp.run [4, 5, 8, 9, 10, 16, 17, 18] ?_
      simp [go_sem, -getElem?_pos, -List.map_take, -List.map_drop, List.getElem?_cons_zero, List.getElem?_cons_succ, Go.IntWalk.iteOmega, Go.IntWalk.toNatUp, hgb, hil, wi]
      refine IWp.seq ?_
      refine IWp.cond ?_
      simp [go_sem, -getElem?_pos, -List.map_take, -List.map_drop, List.getElem?_cons_zero, List.getElem?_cons_succ, Go.IntWalk.iteOmega, Go.IntWalk.toNatUp, hgb, hil, wi]
      refine IWp.trim [4, 5, 8, 9, 10, 16, 17] (IWp.skip ?_)
      simp [go_sem, -getElem?_pos, -List.map_take, -List.map_drop, List.getElem?_cons_zero, List.getElem?_cons_succ, Go.IntWalk.iteOmega, Go.IntWalk.toNatUp, hgb, hil, wi]
      refine IWp.seq ?_
      refine IWp.block ?_
      refine IWp.seq ?_
      refine IWp.run [4, 5, 6, 8, 9, 10, 16, 17] ?_
      simp [go_sem, -getElem?_pos, -List.map_take, -List.map_drop, List.getElem?_cons_zero, List.getElem?_cons_succ, Go.IntWalk.iteOmega, Go.IntWalk.toNatUp, hgb, hil, wi]
      refine IWp.seq ?_
      refine IWp.run [4, 5, 6, 8, 9, 10, 16, 17, 24] ?_
      simp [go_sem, -getElem?_pos, -List.map_take, -List.map_drop, List.getElem?_cons_zero, List.getElem?_cons_succ, Go.IntWalk.iteOmega, Go.IntWalk.toNatUp, hgb, hil, wi]
      refine ICalls.then (c1 _) ?_
      try simp [go_sem, -getElem?_pos, -List.map_take, -List.map_drop, List.getElem?_cons_zero, List.getElem?_cons_succ, Go.IntWalk.iteOmega, Go.IntWalk.toNatUp, hgb, hil, wi]
      refine IWp.cond ?_
      simp [go_sem, -getElem?_pos, -List.map_take, -List.map_drop, List.getElem?_cons_zero, List.getElem?_cons_succ, Go.IntWalk.iteOmega, Go.IntWalk.toNatUp, hgb, hil, wi]
      refine IWp.trim [4, 5, 8, 9, 10, 16, 17] (IWp.skip ?_)
      simp [go_sem, -getElem?_pos, -List.map_take, -List.map_drop, List.getElem?_cons_zero, List.getElem?_cons_succ, Go.IntWalk.iteOmega, Go.IntWalk.toNatUp, hgb, hil, wi]
      refine IWp.run [4, 5, 8, 9, 10, 16, 17] ?_
      simp [go_sem, -getElem?_pos, -List.map_take, -List.map_drop, List.getElem?_cons_zero, List.getElem?_cons_succ, Go.IntWalk.iteOmega, Go.IntWalk.toNatUp, hgb, hil, wi]
      refine ⟨pl k - (i + 1), by omega, i + 1, rfl, by omega, by omega, fun j hj => ?_⟩
      by_cases e : j = i
      · rw [e]; exact hb
      · exact hpre j (by omega)
    | false =>
      rw [hb] at c1
      rw [hfs hlt hil hb hall hpre]
      refine IWp.seq ?_
      refine IWp.run [4, 5, 8, 9, 10, 16, 17, 18] ?_
      simp [go_sem, -getElem?_pos, -List.map_take, -List.map_drop, List.getElem?_cons_zero, List.getElem?_cons_succ, Go.IntWalk.iteOmega, Go.IntWalk.toNatUp, hgb, hil, wk]
      refine IWp.seq ?_
      refine IWp.cond ?_
      simp [go_sem, -getElem?_pos, -List.map_take, -List.map_drop, List.getElem?_cons_zero, List.getElem?_cons_succ, Go.IntWalk.iteOmega, Go.IntWalk.toNatUp, hgb, hil, wk]
      refine IWp.trim [4, 5, 8, 9, 10, 16, 17] (IWp.skip ?_)
      simp [go_sem, -getElem?_pos, -List.map_take, -List.map_drop, List.getElem?_cons_zero, List.getElem?_cons_succ, Go.IntWalk.iteOmega, Go.IntWalk.toNatUp, hgb, hil, wk]
      refine IWp.seq ?_
      refine IWp.block ?_
      refine IWp.seq ?_
      refine IWp.run [4, 5, 6, 8, 9, 10, 16, 17] ?_
      simp [go_sem, -getElem?_pos, -List.map_take, -List.map_drop, List.getElem?_cons_zero, List.getElem?_cons_succ, Go.IntWalk.iteOmega, Go.IntWalk.toNatUp, hgb, hil, wk]
      refine IWp.seq ?_
      refine IWp.run [4, 5, 6, 8, 9, 10, 16, 17, 24] ?_
      simp [go_sem, -getElem?_pos, -List.map_take, -List.map_drop, List.getElem?_cons_zero, List.getElem?_cons_succ, Go.IntWalk.iteOmega, Go.IntWalk.toNatUp, hgb, hil, wk]
      refine ICalls.then (c1 _) ?_
      try simp [go_sem, -getElem?_pos, -List.map_take, -List.map_drop, List.getElem?_cons_zero, List.getElem?_cons_succ, Go.IntWalk.iteOmega, Go.IntWalk.toNatUp, hgb, hil, wk]
      refine IWp.cond ?_
      simp [go_sem, -getElem?_pos, -List.map_take, -List.map_drop, List.getElem?_cons_zero, List.getElem?_cons_succ, Go.IntWalk.iteOmega, Go.IntWalk.toNatUp, hgb, hil, wk]
      refine IWp.seq ?_
      refine IWp.run [2, 3] ?_
      simp [go_sem, -getElem?_pos, -List.map_take, -List.map_drop, List.getElem?_cons_zero, List.getElem?_cons_succ, Go.IntWalk.iteOmega, Go.IntWalk.toNatUp, hgb, hil, wk]
      refine IWp.ret ?_
      simp [go_sem, -getElem?_pos, -List.map_take, -List.map_drop, List.getElem?_cons_zero, List.getElem?_cons_succ, Go.IntWalk.iteOmega, Go.IntWalk.toNatUp, hgb, hil, wk, Try.results39]
      try exact .same _
  · skip
    refine IWp.seq ?_
    refine IWp.run [4, 5, 8, 9, 10, 16, 17, 18] ?_
    simp [go_sem, -getElem?_pos, -List.map_take, -List.map_drop, List.getElem?_cons_zero, List.getElem?_cons_succ, Go.IntWalk.iteOmega, Go.IntWalk.toNatUp, hil, wk]
    refine IWp.seq ?_
    refine IWp.cond ?_
    simp [go_sem, -getElem?_pos, -List.map_take, -List.map_drop, List.getElem?_cons_zero, List.getElem?_cons_succ, Go.IntWalk.iteOmega, Go.IntWalk.toNatUp, hil, wk]
    refine IWp.trim [8, 9, 10] (IWp.exit ?_)
    simp [go_sem, -getElem?_pos, -List.map_take, -List.map_drop, List.getElem?_cons_zero, List.getElem?_cons_succ, Go.IntWalk.iteOmega, Go.IntWalk.toNatUp, hil, wk]
    refine IWp.run [8, 9, 10] ?_
    simp [go_sem, -getElem?_pos, -List.map_take, -List.map_drop, List.getElem?_cons_zero, List.getElem?_cons_succ, Go.IntWalk.iteOmega, Go.IntWalk.toNatUp, hil, wk]
    refine ⟨17 - (k + 1), by omega, k + 1, rfl, by omega, by omega, fun n hn j hj => ?_⟩
    by_cases e : n = k
    · subst e; exact hpre j (by omega)
    · exact hall n (by omega) j hj

theorem rightC (H : Heap) (c : Config) (hS : Sized c) : ICalls Try.prog 30 [c.val] H fun v H' => v = .bool (decide ((firstS c).1 = 0)) ∧ H' = H := by
  refine ICalls.ans (by simp [go_sem]) fun H => IBody.calls (by kernel_rfl) ?_
  have hfi := fun K => firstC K c hS
  simp only [Config.val, Config.cells] at hfi
  refine IBody.of Try.func30 rfl (by rw [Try.ntmps30]; simp) ?_
  rw [Try.ntmps30]
  refine IWp.seq ?_
  refine IWp.run [1] ?_
  simp [go_sem, -getElem?_pos, -List.map_take, -List.map_drop, List.getElem?_cons_zero, List.getElem?_cons_succ, Go.IntWalk.iteOmega, Go.IntWalk.toNatUp, Config.val, Config.cells]
  refine IWp.seq ?_
  refine IWp.run [3] ?_
  simp [go_sem, -getElem?_pos, -List.map_take, -List.map_drop, List.getElem?_cons_zero, List.getElem?_cons_succ, Go.IntWalk.iteOmega, Go.IntWalk.toNatUp, Config.val, Config.cells]
  refine ICalls.then (hfi _) ?_
  try simp [go_sem, -getElem?_pos, -List.map_take, -List.map_drop, List.getElem?_cons_zero, List.getElem?_cons_succ, Go.IntWalk.iteOmega, Go.IntWalk.toNatUp, Config.val, Config.cells]
  refine IWp.seq ?_
  refine IWp.run [2] ?_
  simp [go_sem, -getElem?_pos, -List.map_take, -List.map_drop, List.getElem?_cons_zero, List.getElem?_cons_succ, Go.IntWalk.iteOmega, Go.IntWalk.toNatUp, Config.val, Config.cells]
  refine IWp.ret ?_
  simp [go_sem, -getElem?_pos, -List.map_take, -List.map_drop, List.getElem?_cons_zero, List.getElem?_cons_succ, Go.IntWalk.iteOmega, Go.IntWalk.toNatUp, Config.val, Config.cells, Try.results30]
  try exact .same _

end Go.Proofs.Ytmiinclnpcokkaa.I
