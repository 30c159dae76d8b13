/- The document's answer: the first rule that is broken. No condition. -/
import Derived.Test.YtmiinclnpcokkaaGCheckE
namespace Go.Proofs.Ytmiinclnpcokkaa.I
open Go Go.RowKit
set_option linter.unusedVariables false
set_option linter.unusedSimpArgs false

/-- All ahead of the k-th hold. -/
def AllTo (c : Config) (k : Nat) : Prop := ∀ m, m < k → ∀ j, j < placesS c m → holdsS c m j = true
/-- All places ahead of the i-th of the k-th hold. -/
def PreTo (c : Config) (k i : Nat) : Prop := ∀ j, j < i → holdsS c k j = true
section to
variable {c : Config} {k i : Nat}
theorem AllTo.zero : AllTo c 0 := fun m hm => absurd hm (by omega)
theorem PreTo.zero : PreTo c k 0 := fun m hm => absurd hm (by omega)
theorem PreTo.next (h : PreTo c k i) (hb : holdsS c k i = true) : PreTo c k (i + 1) := fun j hj => by
  by_cases e : j = i
  · rw [e]; exact hb
  · exact h j (by omega)
theorem AllTo.next (h : AllTo c k) (hp : PreTo c k (placesS c k)) : AllTo c (k + 1) := fun m hm j hj => by
  by_cases e : m = k
  · subst e; exact hp j hj
  · exact h m (by omega) j hj
theorem AllTo.one (h : AllTo c k) (h1 : placesS c k = 1) (hb : holdsS c k 0 = true) : AllTo c (k + 1) := h.next (by rw [h1]; exact PreTo.zero.next hb)
theorem AllTo.bad (h : AllTo c k) (hk : k < 17) (hi : i < placesS c k) (hp : PreTo c k i) (hb : holdsS c k i = false) : firstS c = ((k : Int) + 1, (i : Int)) := firstAt_some hk hi hb h hp
theorem AllTo.all (h : AllTo c 17) : firstS c = (0, 0) := firstAt_none h
end to

theorem brokenR (H : Heap) (c : Config) (r : Rule) (n : Nat) (hn : 3 ≤ n ∧ n ≤ 9) (hl : r.stages.length ≤ 1000000) (hs : c.sigs.length ≤ 1000000) :
    ICalls Try.prog 44 [c.val, r.val, .int .i64 ((n : Int) + 1)] H fun v H' => v = .bool (!(ruleB c.sigs.length n r)) ∧ H' = H := by
  obtain ⟨h1, h2⟩ := hn
  have : n = 3 ∨ n = 4 ∨ n = 5 ∨ n = 6 ∨ n = 7 ∨ n = 8 ∨ n = 9 := by omega
  rcases this with rfl | rfl | rfl | rfl | rfl | rfl | rfl
  · exact broken3 H c r hl hs
  · exact broken4 H c r hl hs
  · exact broken5 H c r hl hs
  · exact broken6 H c r hl hs
  · exact broken7 H c r hl hs
  · exact broken8 H c r hl hs
  · exact broken9 H c r hl hs

set_option maxHeartbeats 1000000 in
theorem firstR (H : Heap) (c : Config) (hS : Sized c) : ICalls Try.prog 40 [c.val] H fun v H' => v = .tuple ⟨[.int .i64 (firstS c).1, .int .i64 (firstS c).2]⟩ ∧ H' = H := by
  refine ICalls.ans (by simp [go_sem]) fun H => IBody.calls (by kernel_rfl) ?_
  have hg := Heap.get_alloc_new H c.cells
  have z1 := hS.sigs
  have z2 := hS.rules
  have z3 := hS.table
  have a0 : AllTo c 0 := .zero
  obtain ⟨F, hF⟩ : ∃ F, F = firstS c := ⟨_, rfl⟩
  rw [← hF]
  simp only [Config.cells] at hg
  -- 1
  by_cases t1 : (c.sigs.length : Int) < 1
  · have e := a0.bad (by omega) (show 0 < 1 by omega) .zero (inS_not.2 (by omega))
    rw [← hF] at e
    subst e
    refine IBody.of Try.func40 rfl (by rw [Try.ntmps40]; simp) ?_
    rw [Try.ntmps40]
    refine IWp.seq ?_
    refine IWp.run [1] ?_
    simp [go_sem, -getElem?_pos, -List.map_take, -List.map_drop, List.getElem?_cons_zero, List.getElem?_cons_succ, Go.IntWalk.iteOmega, Go.IntWalk.toNatUp, Config.val, Config.cells, t1, show c.sigs.length < 1 by omega]
    refine IWp.seq ?_
    refine IWp.seq ?_
    refine IWp.run [1, 20] ?_
    simp [go_sem, -getElem?_pos, -List.map_take, -List.map_drop, List.getElem?_cons_zero, List.getElem?_cons_succ, Go.IntWalk.iteOmega, Go.IntWalk.toNatUp, Config.val, Config.cells, t1, show c.sigs.length < 1 by omega]
    refine IWp.cond ?_
    simp [go_sem, -getElem?_pos, -List.map_take, -List.map_drop, List.getElem?_cons_zero, List.getElem?_cons_succ, Go.IntWalk.iteOmega, Go.IntWalk.toNatUp, Config.val, Config.cells, t1, show c.sigs.length < 1 by omega]
    refine IWp.seq ?_
    refine IWp.run [2, 3] ?_
    simp [go_sem, -getElem?_pos, -List.map_take, -List.map_drop, List.getElem?_cons_zero, List.getElem?_cons_succ, Go.IntWalk.iteOmega, Go.IntWalk.toNatUp, Config.val, Config.cells, t1, show c.sigs.length < 1 by omega]
    refine IWp.ret ?_
    simp [go_sem, -getElem?_pos, -List.map_take, -List.map_drop, List.getElem?_cons_zero, List.getElem?_cons_succ, Go.IntWalk.iteOmega, Go.IntWalk.toNatUp, Config.val, Config.cells, t1, show c.sigs.length < 1 by omega, Try.results40]
    try exact .same _
  by_cases t2 : 8 < (c.sigs.length : Int)
  · have e := a0.bad (by omega) (show 0 < 1 by omega) .zero (inS_not.2 (by omega))
    rw [← hF] at e
    subst e
    refine IBody.of Try.func40 rfl (by rw [Try.ntmps40]; simp) ?_
    rw [Try.ntmps40]
    refine IWp.seq ?_
    refine IWp.run [1] ?_
    simp [go_sem, -getElem?_pos, -List.map_take, -List.map_drop, List.getElem?_cons_zero, List.getElem?_cons_succ, Go.IntWalk.iteOmega, Go.IntWalk.toNatUp, Config.val, Config.cells, t1, t2, show ¬ c.sigs.length < 1 by omega, show 8 < c.sigs.length by omega]
    refine IWp.seq ?_
    refine IWp.seq ?_
    refine IWp.run [1, 20] ?_
    simp [go_sem, -getElem?_pos, -List.map_take, -List.map_drop, List.getElem?_cons_zero, List.getElem?_cons_succ, Go.IntWalk.iteOmega, Go.IntWalk.toNatUp, Config.val, Config.cells, t1, t2, show ¬ c.sigs.length < 1 by omega, show 8 < c.sigs.length by omega]
    refine IWp.cond ?_
    simp [go_sem, -getElem?_pos, -List.map_take, -List.map_drop, List.getElem?_cons_zero, List.getElem?_cons_succ, Go.IntWalk.iteOmega, Go.IntWalk.toNatUp, Config.val, Config.cells, t1, t2, show ¬ c.sigs.length < 1 by omega, show 8 < c.sigs.length by omega]
    refine IWp.seq ?_
    refine IWp.run [2, 3] ?_
    simp [go_sem, -getElem?_pos, -List.map_take, -List.map_drop, List.getElem?_cons_zero, List.getElem?_cons_succ, Go.IntWalk.iteOmega, Go.IntWalk.toNatUp, Config.val, Config.cells, t1, t2, show ¬ c.sigs.length < 1 by omega, show 8 < c.sigs.length by omega]
    refine IWp.ret ?_
    simp [go_sem, -getElem?_pos, -List.map_take, -List.map_drop, List.getElem?_cons_zero, List.getElem?_cons_succ, Go.IntWalk.iteOmega, Go.IntWalk.toNatUp, Config.val, Config.cells, t1, t2, show ¬ c.sigs.length < 1 by omega, show 8 < c.sigs.length by omega, Try.results40]
    try exact .same _
  have a1 := a0.one rfl (inS_iff.2 (by omega))
  refine IBody.of Try.func40 rfl (by rw [Try.ntmps40]; simp) ?_
  rw [Try.ntmps40]
  refine IWp.seq ?_
  refine IWp.run [1] ?_
  simp [go_sem, -getElem?_pos, -List.map_take, -List.map_drop, List.getElem?_cons_zero, List.getElem?_cons_succ, Go.IntWalk.iteOmega, Go.IntWalk.toNatUp, Config.val, Config.cells, t1, t2, show ¬ c.sigs.length < 1 by omega, show ¬ 8 < c.sigs.length by omega]
  refine IWp.seq ?_
  refine IWp.seq ?_
  refine IWp.run [1, 20] ?_
  simp [go_sem, -getElem?_pos, -List.map_take, -List.map_drop, List.getElem?_cons_zero, List.getElem?_cons_succ, Go.IntWalk.iteOmega, Go.IntWalk.toNatUp, Config.val, Config.cells, t1, t2, show ¬ c.sigs.length < 1 by omega, show ¬ 8 < c.sigs.length by omega]
  refine IWp.cond ?_
  simp [go_sem, -getElem?_pos, -List.map_take, -List.map_drop, List.getElem?_cons_zero, List.getElem?_cons_succ, Go.IntWalk.iteOmega, Go.IntWalk.toNatUp, Config.val, Config.cells, t1, t2, show ¬ c.sigs.length < 1 by omega, show ¬ 8 < c.sigs.length by omega]
  refine IWp.trim [1] (IWp.skip ?_)
  simp [go_sem, -getElem?_pos, -List.map_take, -List.map_drop, List.getElem?_cons_zero, List.getElem?_cons_succ, Go.IntWalk.iteOmega, Go.IntWalk.toNatUp, Config.val, Config.cells, t1, t2, show ¬ c.sigs.length < 1 by omega, show ¬ 8 < c.sigs.length by omega]
  -- CUT live [1]
  obtain ⟨CC, hCC⟩ : ∃ CC : List Value, CC = [frow 2 0 (c.sigs.map Sig.val), frow 9 0 (c.rules.map Rule.val), frow 1 0 (c.table.map (ints .i64)), .int .i64 c.b0, .int .i64 c.b1, .int .i64 c.b2, .int .i64 c.drain, .int .i64 c.pause, .int .i64 c.off, .bool c.brk, .int .i64 c.log] := ⟨_, rfl⟩
  generalize H.next = b at *
  generalize H.alloc _ = H1 at *
  rw [← hCC] at hg
  -- 2
  refine IWp.cut (fun e K => e = [(1, ptrTo b 0)] ∧ K.get b = some ⟨CC, true⟩ ∧ AllTo c 2) ?_ ?_
  · skip
    refine IWp.seq ?_
    refine IWp.run [1, 4] ?_
    simp [go_sem, -getElem?_pos, -List.map_take, -List.map_drop, List.getElem?_cons_zero, List.getElem?_cons_succ, Go.IntWalk.iteOmega, Go.IntWalk.toNatUp]
    refine IWp.block ?_
    -- LOOP live [1, 4]
    refine IWp.loop (fun q e K => ∃ i : Nat, q = c.sigs.length - i ∧ i ≤ c.sigs.length ∧ K.get b = some ⟨CC, true⟩ ∧ e = [(1, ptrTo b 0), (4, .int .i64 (i : Int))] ∧ PreTo c 1 i) c.sigs.length ⟨0, rfl, Nat.zero_le _, hg, by simp [go_sem], .zero⟩ ?_
    rintro q e K ⟨i, rfl, hi, hK, rfl, hp⟩
    have hK' := hK
    rw [hCC] at hK'
    have wi := IntWalk.i64_in ((i : Int) + 1) (by omega)
    have hbn : ¬ b = K.next := by have := Heap.lt_of_get hK; omega
    by_cases hlt : i < c.sigs.length
    case neg =>
      have hie : i = c.sigs.length := by omega
      subst hie
      have a2 := a1.next hp
      refine IWp.seq ?_
      refine IWp.seq ?_
      refine IWp.run [1, 4, 25] ?_
      simp [go_sem, -getElem?_pos, -List.map_take, -List.map_drop, List.getElem?_cons_zero, List.getElem?_cons_succ, Go.IntWalk.iteOmega, Go.IntWalk.toNatUp, hK']
      refine IWp.cond ?_
      simp [go_sem, -getElem?_pos, -List.map_take, -List.map_drop, List.getElem?_cons_zero, List.getElem?_cons_succ, Go.IntWalk.iteOmega, Go.IntWalk.toNatUp, hK']
      refine IWp.trim [1] (IWp.exit ?_)
      simp [go_sem, -getElem?_pos, -List.map_take, -List.map_drop, List.getElem?_cons_zero, List.getElem?_cons_succ, Go.IntWalk.iteOmega, Go.IntWalk.toNatUp, hK']
      exact ⟨hCC.symm, a2⟩
    have g : (c.sigs.map Sig.val)[i]? = some (c.sigs[i]).val := by simp [hlt]
    have hh : holdsS c 1 i = sigB c.sigs[i] := by simp [holdsS, List.getElem?_eq_getElem hlt]
    generalize c.sigs[i] = x at *
    have c1 := fun K => numberR K x.lo
    have c2 := fun K => numberR K x.hi
    unfold sigB at hh
    generalize numS x.lo = x1 at *
    generalize numS x.hi = x2 at *
    have bad : holdsS c 1 i = false → F = (2, (i : Int)) := fun hb => by rw [hF, a1.bad (by omega) hlt hp hb]; rfl
    cases x1
    · rw [bad (by rw [hh]; rfl)]
      refine IWp.seq ?_
      refine IWp.seq ?_
      refine IWp.run [1, 4, 25] ?_
      simp [go_sem, -getElem?_pos, -List.map_take, -List.map_drop, List.getElem?_cons_zero, List.getElem?_cons_succ, Go.IntWalk.iteOmega, Go.IntWalk.toNatUp, hK', hlt, g, Sig.val, Sig.cells, get_alloc, hbn]
      refine IWp.cond ?_
      simp [go_sem, -getElem?_pos, -List.map_take, -List.map_drop, List.getElem?_cons_zero, List.getElem?_cons_succ, Go.IntWalk.iteOmega, Go.IntWalk.toNatUp, hK', hlt, g, Sig.val, Sig.cells, get_alloc, hbn]
      refine IWp.trim [1, 4] (IWp.skip ?_)
      simp [go_sem, -getElem?_pos, -List.map_take, -List.map_drop, List.getElem?_cons_zero, List.getElem?_cons_succ, Go.IntWalk.iteOmega, Go.IntWalk.toNatUp, hK', hlt, g, Sig.val, Sig.cells, get_alloc, hbn]
      refine IWp.seq ?_
      refine IWp.block ?_
      refine IWp.seq ?_
      refine IWp.run [1, 4, 5] ?_
      simp [go_sem, -getElem?_pos, -List.map_take, -List.map_drop, List.getElem?_cons_zero, List.getElem?_cons_succ, Go.IntWalk.iteOmega, Go.IntWalk.toNatUp, hK', hlt, g, Sig.val, Sig.cells, get_alloc, hbn]
      refine IWp.seq ?_
      refine IWp.run [1, 4, 49] ?_
      simp [go_sem, -getElem?_pos, -List.map_take, -List.map_drop, List.getElem?_cons_zero, List.getElem?_cons_succ, Go.IntWalk.iteOmega, Go.IntWalk.toNatUp, hK', hlt, g, Sig.val, Sig.cells, get_alloc, hbn]
      refine ICalls.then (c1 _) ?_
      try simp [go_sem, -getElem?_pos, -List.map_take, -List.map_drop, List.getElem?_cons_zero, List.getElem?_cons_succ, Go.IntWalk.iteOmega, Go.IntWalk.toNatUp, hK', hlt, g, Sig.val, Sig.cells, get_alloc, hbn]
      refine IWp.cond ?_
      simp [go_sem, -getElem?_pos, -List.map_take, -List.map_drop, List.getElem?_cons_zero, List.getElem?_cons_succ, Go.IntWalk.iteOmega, Go.IntWalk.toNatUp, hK', hlt, g, Sig.val, Sig.cells, get_alloc, hbn]
      refine IWp.seq ?_
      refine IWp.run [2, 3] ?_
      simp [go_sem, -getElem?_pos, -List.map_take, -List.map_drop, List.getElem?_cons_zero, List.getElem?_cons_succ, Go.IntWalk.iteOmega, Go.IntWalk.toNatUp, hK', hlt, g, Sig.val, Sig.cells, get_alloc, hbn]
      refine IWp.ret ?_
      simp [go_sem, -getElem?_pos, -List.map_take, -List.map_drop, List.getElem?_cons_zero, List.getElem?_cons_succ, Go.IntWalk.iteOmega, Go.IntWalk.toNatUp, hK', hlt, g, Sig.val, Sig.cells, get_alloc, hbn, Try.results40]
      try exact .same _
    cases x2
    · rw [bad (by rw [hh]; rfl)]
      refine IWp.seq ?_
      refine IWp.seq ?_
      refine IWp.run [1, 4, 25] ?_
      simp [go_sem, -getElem?_pos, -List.map_take, -List.map_drop, List.getElem?_cons_zero, List.getElem?_cons_succ, Go.IntWalk.iteOmega, Go.IntWalk.toNatUp, hK', hlt, g, Sig.val, Sig.cells, get_alloc, hbn]
      refine IWp.cond ?_
      simp [go_sem, -getElem?_pos, -List.map_take, -List.map_drop, List.getElem?_cons_zero, List.getElem?_cons_succ, Go.IntWalk.iteOmega, Go.IntWalk.toNatUp, hK', hlt, g, Sig.val, Sig.cells, get_alloc, hbn]
      refine IWp.trim [1, 4] (IWp.skip ?_)
      simp [go_sem, -getElem?_pos, -List.map_take, -List.map_drop, List.getElem?_cons_zero, List.getElem?_cons_succ, Go.IntWalk.iteOmega, Go.IntWalk.toNatUp, hK', hlt, g, Sig.val, Sig.cells, get_alloc, hbn]
      refine IWp.seq ?_
      refine IWp.block ?_
      refine IWp.seq ?_
      refine IWp.run [1, 4, 5] ?_
      simp [go_sem, -getElem?_pos, -List.map_take, -List.map_drop, List.getElem?_cons_zero, List.getElem?_cons_succ, Go.IntWalk.iteOmega, Go.IntWalk.toNatUp, hK', hlt, g, Sig.val, Sig.cells, get_alloc, hbn]
      refine IWp.seq ?_
      refine IWp.run [1, 4, 49] ?_
      simp [go_sem, -getElem?_pos, -List.map_take, -List.map_drop, List.getElem?_cons_zero, List.getElem?_cons_succ, Go.IntWalk.iteOmega, Go.IntWalk.toNatUp, hK', hlt, g, Sig.val, Sig.cells, get_alloc, hbn]
      refine ICalls.then (c1 _) ?_
      try simp [go_sem, -getElem?_pos, -List.map_take, -List.map_drop, List.getElem?_cons_zero, List.getElem?_cons_succ, Go.IntWalk.iteOmega, Go.IntWalk.toNatUp, hK', hlt, g, Sig.val, Sig.cells, get_alloc, hbn]
      refine ICalls.then (c2 _) ?_
      try simp [go_sem, -getElem?_pos, -List.map_take, -List.map_drop, List.getElem?_cons_zero, List.getElem?_cons_succ, Go.IntWalk.iteOmega, Go.IntWalk.toNatUp, hK', hlt, g, Sig.val, Sig.cells, get_alloc, hbn]
      refine IWp.cond ?_
      simp [go_sem, -getElem?_pos, -List.map_take, -List.map_drop, List.getElem?_cons_zero, List.getElem?_cons_succ, Go.IntWalk.iteOmega, Go.IntWalk.toNatUp, hK', hlt, g, Sig.val, Sig.cells, get_alloc, hbn]
      refine IWp.seq ?_
      refine IWp.run [2, 3] ?_
      simp [go_sem, -getElem?_pos, -List.map_take, -List.map_drop, List.getElem?_cons_zero, List.getElem?_cons_succ, Go.IntWalk.iteOmega, Go.IntWalk.toNatUp, hK', hlt, g, Sig.val, Sig.cells, get_alloc, hbn]
      refine IWp.ret ?_
      simp [go_sem, -getElem?_pos, -List.map_take, -List.map_drop, List.getElem?_cons_zero, List.getElem?_cons_succ, Go.IntWalk.iteOmega, Go.IntWalk.toNatUp, hK', hlt, g, Sig.val, Sig.cells, get_alloc, hbn, Try.results40]
      try exact .same _
    by_cases t3 : x.hi < x.lo
    · rw [bad (by rw [hh]; simp; omega)]
      refine IWp.seq ?_
      refine IWp.seq ?_
      refine IWp.run [1, 4, 25] ?_
      simp [go_sem, -getElem?_pos, -List.map_take, -List.map_drop, List.getElem?_cons_zero, List.getElem?_cons_succ, Go.IntWalk.iteOmega, Go.IntWalk.toNatUp, hK', hlt, g, t3, Sig.val, Sig.cells, get_alloc, hbn]
      refine IWp.cond ?_
      simp [go_sem, -getElem?_pos, -List.map_take, -List.map_drop, List.getElem?_cons_zero, List.getElem?_cons_succ, Go.IntWalk.iteOmega, Go.IntWalk.toNatUp, hK', hlt, g, t3, Sig.val, Sig.cells, get_alloc, hbn]
      refine IWp.trim [1, 4] (IWp.skip ?_)
      simp [go_sem, -getElem?_pos, -List.map_take, -List.map_drop, List.getElem?_cons_zero, List.getElem?_cons_succ, Go.IntWalk.iteOmega, Go.IntWalk.toNatUp, hK', hlt, g, t3, Sig.val, Sig.cells, get_alloc, hbn]
      refine IWp.seq ?_
      refine IWp.block ?_
      refine IWp.seq ?_
      refine IWp.run [1, 4, 5] ?_
      simp [go_sem, -getElem?_pos, -List.map_take, -List.map_drop, List.getElem?_cons_zero, List.getElem?_cons_succ, Go.IntWalk.iteOmega, Go.IntWalk.toNatUp, hK', hlt, g, t3, Sig.val, Sig.cells, get_alloc, hbn]
      refine IWp.seq ?_
      refine IWp.run [1, 4, 49] ?_
      simp [go_sem, -getElem?_pos, -List.map_take, -List.map_drop, List.getElem?_cons_zero, List.getElem?_cons_succ, Go.IntWalk.iteOmega, Go.IntWalk.toNatUp, hK', hlt, g, t3, Sig.val, Sig.cells, get_alloc, hbn]
      refine ICalls.then (c1 _) ?_
      try simp [go_sem, -getElem?_pos, -List.map_take, -List.map_drop, List.getElem?_cons_zero, List.getElem?_cons_succ, Go.IntWalk.iteOmega, Go.IntWalk.toNatUp, hK', hlt, g, t3, Sig.val, Sig.cells, get_alloc, hbn]
      refine ICalls.then (c2 _) ?_
      try simp [go_sem, -getElem?_pos, -List.map_take, -List.map_drop, List.getElem?_cons_zero, List.getElem?_cons_succ, Go.IntWalk.iteOmega, Go.IntWalk.toNatUp, hK', hlt, g, t3, Sig.val, Sig.cells, get_alloc, hbn]
      refine IWp.cond ?_
      simp [go_sem, -getElem?_pos, -List.map_take, -List.map_drop, List.getElem?_cons_zero, List.getElem?_cons_succ, Go.IntWalk.iteOmega, Go.IntWalk.toNatUp, hK', hlt, g, t3, Sig.val, Sig.cells, get_alloc, hbn]
      refine IWp.seq ?_
      refine IWp.run [2, 3] ?_
      simp [go_sem, -getElem?_pos, -List.map_take, -List.map_drop, List.getElem?_cons_zero, List.getElem?_cons_succ, Go.IntWalk.iteOmega, Go.IntWalk.toNatUp, hK', hlt, g, t3, Sig.val, Sig.cells, get_alloc, hbn]
      refine IWp.ret ?_
      simp [go_sem, -getElem?_pos, -List.map_take, -List.map_drop, List.getElem?_cons_zero, List.getElem?_cons_succ, Go.IntWalk.iteOmega, Go.IntWalk.toNatUp, hK', hlt, g, t3, Sig.val, Sig.cells, get_alloc, hbn, Try.results40]
      try exact .same _
    · have hp2 := hp.next (by rw [hh]; simp; omega)
      refine IWp.seq ?_
      refine IWp.seq ?_
      refine IWp.run [1, 4, 25] ?_
      simp [go_sem, -getElem?_pos, -List.map_take, -List.map_drop, List.getElem?_cons_zero, List.getElem?_cons_succ, Go.IntWalk.iteOmega, Go.IntWalk.toNatUp, hK', hlt, g, t3, wi, Sig.val, Sig.cells, get_alloc, hbn]
      refine IWp.cond ?_
      simp [go_sem, -getElem?_pos, -List.map_take, -List.map_drop, List.getElem?_cons_zero, List.getElem?_cons_succ, Go.IntWalk.iteOmega, Go.IntWalk.toNatUp, hK', hlt, g, t3, wi, Sig.val, Sig.cells, get_alloc, hbn]
      refine IWp.trim [1, 4] (IWp.skip ?_)
      simp [go_sem, -getElem?_pos, -List.map_take, -List.map_drop, List.getElem?_cons_zero, List.getElem?_cons_succ, Go.IntWalk.iteOmega, Go.IntWalk.toNatUp, hK', hlt, g, t3, wi, Sig.val, Sig.cells, get_alloc, hbn]
      refine IWp.seq ?_
      refine IWp.block ?_
      refine IWp.seq ?_
      refine IWp.run [1, 4, 5] ?_
      simp [go_sem, -getElem?_pos, -List.map_take, -List.map_drop, List.getElem?_cons_zero, List.getElem?_cons_succ, Go.IntWalk.iteOmega, Go.IntWalk.toNatUp, hK', hlt, g, t3, wi, Sig.val, Sig.cells, get_alloc, hbn]
      refine IWp.seq ?_
      refine IWp.run [1, 4, 49] ?_
      simp [go_sem, -getElem?_pos, -List.map_take, -List.map_drop, List.getElem?_cons_zero, List.getElem?_cons_succ, Go.IntWalk.iteOmega, Go.IntWalk.toNatUp, hK', hlt, g, t3, wi, Sig.val, Sig.cells, get_alloc, hbn]
      refine ICalls.then (c1 _) ?_
      try simp [go_sem, -getElem?_pos, -List.map_take, -List.map_drop, List.getElem?_cons_zero, List.getElem?_cons_succ, Go.IntWalk.iteOmega, Go.IntWalk.toNatUp, hK', hlt, g, t3, wi, Sig.val, Sig.cells, get_alloc, hbn]
      refine ICalls.then (c2 _) ?_
      try simp [go_sem, -getElem?_pos, -List.map_take, -List.map_drop, List.getElem?_cons_zero, List.getElem?_cons_succ, Go.IntWalk.iteOmega, Go.IntWalk.toNatUp, hK', hlt, g, t3, wi, Sig.val, Sig.cells, get_alloc, hbn]
      refine IWp.cond ?_
      simp [go_sem, -getElem?_pos, -List.map_take, -List.map_drop, List.getElem?_cons_zero, List.getElem?_cons_succ, Go.IntWalk.iteOmega, Go.IntWalk.toNatUp, hK', hlt, g, t3, wi, Sig.val, Sig.cells, get_alloc, hbn]
      refine IWp.trim [1, 4] (IWp.skip ?_)
      simp [go_sem, -getElem?_pos, -List.map_take, -List.map_drop, List.getElem?_cons_zero, List.getElem?_cons_succ, Go.IntWalk.iteOmega, Go.IntWalk.toNatUp, hK', hlt, g, t3, wi, Sig.val, Sig.cells, get_alloc, hbn]
      refine IWp.run [1, 4] ?_
      simp [go_sem, -getElem?_pos, -List.map_take, -List.map_drop, List.getElem?_cons_zero, List.getElem?_cons_succ, Go.IntWalk.iteOmega, Go.IntWalk.toNatUp, hK', hlt, g, t3, wi, Sig.val, Sig.cells, get_alloc, hbn]
      exact ⟨c.sigs.length - (i + 1), by omega, i + 1, rfl, by omega, hCC.symm, by omega, hp2⟩
  rintro e K ⟨rfl, hK, a2⟩
  clear hg
  generalize H1 = Hx at *
  have hK' := hK
  rw [hCC] at hK'
  -- 3
  by_cases t3 : (c.rules.length : Int) < 1
  · have e := a2.bad (by omega) (show 0 < 1 by omega) .zero (inS_not.2 (by omega))
    rw [← hF] at e
    subst e
    refine IWp.seq ?_
    refine IWp.seq ?_
    refine IWp.run [1, 60] ?_
    simp [go_sem, -getElem?_pos, -List.map_take, -List.map_drop, List.getElem?_cons_zero, List.getElem?_cons_succ, Go.IntWalk.iteOmega, Go.IntWalk.toNatUp, hK', t3, show c.rules.length < 1 by omega]
    refine IWp.cond ?_
    simp [go_sem, -getElem?_pos, -List.map_take, -List.map_drop, List.getElem?_cons_zero, List.getElem?_cons_succ, Go.IntWalk.iteOmega, Go.IntWalk.toNatUp, hK', t3, show c.rules.length < 1 by omega]
    refine IWp.seq ?_
    refine IWp.run [2, 3] ?_
    simp [go_sem, -getElem?_pos, -List.map_take, -List.map_drop, List.getElem?_cons_zero, List.getElem?_cons_succ, Go.IntWalk.iteOmega, Go.IntWalk.toNatUp, hK', t3, show c.rules.length < 1 by omega]
    refine IWp.ret ?_
    simp [go_sem, -getElem?_pos, -List.map_take, -List.map_drop, List.getElem?_cons_zero, List.getElem?_cons_succ, Go.IntWalk.iteOmega, Go.IntWalk.toNatUp, hK', t3, show c.rules.length < 1 by omega, Try.results40]
    try exact .same _
  by_cases t4 : 32 < (c.rules.length : Int)
  · have e := a2.bad (by omega) (show 0 < 1 by omega) .zero (inS_not.2 (by omega))
    rw [← hF] at e
    subst e
    refine IWp.seq ?_
    refine IWp.seq ?_
    refine IWp.run [1, 60] ?_
    simp [go_sem, -getElem?_pos, -List.map_take, -List.map_drop, List.getElem?_cons_zero, List.getElem?_cons_succ, Go.IntWalk.iteOmega, Go.IntWalk.toNatUp, hK', t3, t4, show ¬ c.rules.length < 1 by omega, show 32 < c.rules.length by omega]
    refine IWp.cond ?_
    simp [go_sem, -getElem?_pos, -List.map_take, -List.map_drop, List.getElem?_cons_zero, List.getElem?_cons_succ, Go.IntWalk.iteOmega, Go.IntWalk.toNatUp, hK', t3, t4, show ¬ c.rules.length < 1 by omega, show 32 < c.rules.length by omega]
    refine IWp.seq ?_
    refine IWp.run [2, 3] ?_
    simp [go_sem, -getElem?_pos, -List.map_take, -List.map_drop, List.getElem?_cons_zero, List.getElem?_cons_succ, Go.IntWalk.iteOmega, Go.IntWalk.toNatUp, hK', t3, t4, show ¬ c.rules.length < 1 by omega, show 32 < c.rules.length by omega]
    refine IWp.ret ?_
    simp [go_sem, -getElem?_pos, -List.map_take, -List.map_drop, List.getElem?_cons_zero, List.getElem?_cons_succ, Go.IntWalk.iteOmega, Go.IntWalk.toNatUp, hK', t3, t4, show ¬ c.rules.length < 1 by omega, show 32 < c.rules.length by omega, Try.results40]
    try exact .same _
  have a3 := a2.one rfl (inS_iff.2 (by omega))
  refine IWp.seq ?_
  refine IWp.seq ?_
  refine IWp.run [1, 60] ?_
  simp [go_sem, -getElem?_pos, -List.map_take, -List.map_drop, List.getElem?_cons_zero, List.getElem?_cons_succ, Go.IntWalk.iteOmega, Go.IntWalk.toNatUp, hK', t3, t4, show ¬ c.rules.length < 1 by omega, show ¬ 32 < c.rules.length by omega]
  refine IWp.cond ?_
  simp [go_sem, -getElem?_pos, -List.map_take, -List.map_drop, List.getElem?_cons_zero, List.getElem?_cons_succ, Go.IntWalk.iteOmega, Go.IntWalk.toNatUp, hK', t3, t4, show ¬ c.rules.length < 1 by omega, show ¬ 32 < c.rules.length by omega]
  refine IWp.trim [1] (IWp.skip ?_)
  simp [go_sem, -getElem?_pos, -List.map_take, -List.map_drop, List.getElem?_cons_zero, List.getElem?_cons_succ, Go.IntWalk.iteOmega, Go.IntWalk.toNatUp, hK', t3, t4, show ¬ c.rules.length < 1 by omega, show ¬ 32 < c.rules.length by omega]
  -- CUT live [1]
  -- 4 to 10
  refine IWp.cut (fun e K => e = [(1, ptrTo b 0)] ∧ K.get b = some ⟨CC, true⟩ ∧ AllTo c 10) ?_ ?_
  · skip
    refine IWp.seq ?_
    refine IWp.run [1, 6] ?_
    simp [go_sem, -getElem?_pos, -List.map_take, -List.map_drop, List.getElem?_cons_zero, List.getElem?_cons_succ, Go.IntWalk.iteOmega, Go.IntWalk.toNatUp]
    refine IWp.block ?_
    -- LOOP live [1, 6]
    refine IWp.loop (fun q e K => ∃ k : Nat, q = 10 - k ∧ 3 ≤ k ∧ k ≤ 10 ∧ K.get b = some ⟨CC, true⟩ ∧ e = [(1, ptrTo b 0), (6, .int .i64 ((k : Int) + 1))] ∧ AllTo c k) 7 ⟨3, rfl, by omega, by omega, hK, by simp [go_sem], a3⟩ ?_
    clear hK hK'
    rintro q e K ⟨k, rfl, hk3, hk, hK, rfl, ak⟩
    have hK' := hK
    rw [hCC] at hK'
    by_cases hk10 : k = 10
    · subst hk10
      refine IWp.seq ?_
      refine IWp.seq ?_
      refine IWp.run [1, 6, 62] ?_
      simp [go_sem, -getElem?_pos, -List.map_take, -List.map_drop, List.getElem?_cons_zero, List.getElem?_cons_succ, Go.IntWalk.iteOmega, Go.IntWalk.toNatUp, hK]
      refine IWp.cond ?_
      simp [go_sem, -getElem?_pos, -List.map_take, -List.map_drop, List.getElem?_cons_zero, List.getElem?_cons_succ, Go.IntWalk.iteOmega, Go.IntWalk.toNatUp, hK]
      refine IWp.trim [1] (IWp.exit ?_)
      simp [go_sem, -getElem?_pos, -List.map_take, -List.map_drop, List.getElem?_cons_zero, List.getElem?_cons_succ, Go.IntWalk.iteOmega, Go.IntWalk.toNatUp, hK]
      exact ak
    have hk9 : k ≤ 9 := by omega
    have wk := IntWalk.i64_in ((k : Int) + 1 + 1) (by omega)
    have hplk : placesS c k = c.rules.length := by
      have : k = 3 ∨ k = 4 ∨ k = 5 ∨ k = 6 ∨ k = 7 ∨ k = 8 ∨ k = 9 := by omega
      rcases this with rfl | rfl | rfl | rfl | rfl | rfl | rfl <;> rfl
    refine IWp.seq ?_
    refine IWp.seq ?_
    refine IWp.run [1, 6, 62] ?_
    simp [go_sem, -getElem?_pos, -List.map_take, -List.map_drop, List.getElem?_cons_zero, List.getElem?_cons_succ, Go.IntWalk.iteOmega, Go.IntWalk.toNatUp, show (k : Int) + 1 ≤ 10 by omega]
    refine IWp.cond ?_
    simp [go_sem, -getElem?_pos, -List.map_take, -List.map_drop, List.getElem?_cons_zero, List.getElem?_cons_succ, Go.IntWalk.iteOmega, Go.IntWalk.toNatUp, show (k : Int) + 1 ≤ 10 by omega]
    refine IWp.trim [1, 6] (IWp.skip ?_)
    simp [go_sem, -getElem?_pos, -List.map_take, -List.map_drop, List.getElem?_cons_zero, List.getElem?_cons_succ, Go.IntWalk.iteOmega, Go.IntWalk.toNatUp, show (k : Int) + 1 ≤ 10 by omega]
    refine IWp.seq ?_
    refine IWp.block ?_
    refine IWp.seq ?_
    refine IWp.run [1, 6, 7] ?_
    simp [go_sem, -getElem?_pos, -List.map_take, -List.map_drop, List.getElem?_cons_zero, List.getElem?_cons_succ, Go.IntWalk.iteOmega, Go.IntWalk.toNatUp, show (k : Int) + 1 ≤ 10 by omega]
    refine IWp.block ?_
    -- LOOP live [1, 6, 7]
    refine IWp.loop (fun q e K2 => ∃ i : Nat, q = c.rules.length - i ∧ i ≤ c.rules.length ∧ K2.get b = some ⟨CC, true⟩ ∧ e = [(1, ptrTo b 0), (6, .int .i64 ((k : Int) + 1)), (7, .int .i64 (i : Int))] ∧ PreTo c k i) c.rules.length ⟨0, rfl, Nat.zero_le _, hK, by simp [go_sem], .zero⟩ ?_
    clear hK hK'
    rintro q e K2 ⟨i, rfl, hi, hK, rfl, hp⟩
    have hK' := hK
    rw [hCC] at hK'
    have wi := IntWalk.i64_in ((i : Int) + 1) (by omega)
    by_cases hlt : i < c.rules.length
    case neg =>
      have hie : i = c.rules.length := by omega
      subst hie
      have ak2 := ak.next (by rw [hplk]; exact hp)
      refine IWp.seq ?_
      refine IWp.seq ?_
      refine IWp.run [1, 6, 7, 69] ?_
      simp [go_sem, -getElem?_pos, -List.map_take, -List.map_drop, List.getElem?_cons_zero, List.getElem?_cons_succ, Go.IntWalk.iteOmega, Go.IntWalk.toNatUp, hK', wk]
      refine IWp.cond ?_
      simp [go_sem, -getElem?_pos, -List.map_take, -List.map_drop, List.getElem?_cons_zero, List.getElem?_cons_succ, Go.IntWalk.iteOmega, Go.IntWalk.toNatUp, hK', wk]
      refine IWp.trim [1, 6] (IWp.exit ?_)
      simp [go_sem, -getElem?_pos, -List.map_take, -List.map_drop, List.getElem?_cons_zero, List.getElem?_cons_succ, Go.IntWalk.iteOmega, Go.IntWalk.toNatUp, hK', wk]
      refine IWp.run [1, 6] ?_
      simp [go_sem, -getElem?_pos, -List.map_take, -List.map_drop, List.getElem?_cons_zero, List.getElem?_cons_succ, Go.IntWalk.iteOmega, Go.IntWalk.toNatUp, hK', wk]
      exact ⟨10 - (k + 1), by omega, k + 1, rfl, by omega, by omega, hCC.symm, by omega, ak2⟩
    have g : (c.rules.map Rule.val)[i]? = some (c.rules[i]).val := by simp [hlt]
    have hh := (holdsS_rule c (n := k) ⟨hk3, hk9⟩ (List.getElem?_eq_getElem hlt)).1
    have c1 := fun K => brokenR K c c.rules[i] k ⟨hk3, hk9⟩ (hS.stages _ (List.getElem_mem hlt)) (by omega)
    generalize c.rules[i] = x at *
    rw [← hh] at c1
    simp only [Config.val, Config.cells] at c1
    simp only [Rule.val, Rule.cells] at c1 g
    cases hb : holdsS c k i with
    | false =>
      rw [hb] at c1
      rw [show F = ((k : Int) + 1, (i : Int)) by rw [hF, ak.bad (by omega) (by rw [hplk]; exact hlt) hp hb]]
      refine IWp.seq ?_
      refine IWp.seq ?_
      refine IWp.run [1, 6, 7, 69] ?_
      simp [go_sem, -getElem?_pos, -List.map_take, -List.map_drop, List.getElem?_cons_zero, List.getElem?_cons_succ, Go.IntWalk.iteOmega, Go.IntWalk.toNatUp, hK', hlt, g]
      refine IWp.cond ?_
      simp [go_sem, -getElem?_pos, -List.map_take, -List.map_drop, List.getElem?_cons_zero, List.getElem?_cons_succ, Go.IntWalk.iteOmega, Go.IntWalk.toNatUp, hK', hlt, g]
      refine IWp.trim [1, 6, 7] (IWp.skip ?_)
      simp [go_sem, -getElem?_pos, -List.map_take, -List.map_drop, List.getElem?_cons_zero, List.getElem?_cons_succ, Go.IntWalk.iteOmega, Go.IntWalk.toNatUp, hK', hlt, g]
      refine IWp.seq ?_
      refine IWp.block ?_
      refine IWp.seq ?_
      refine IWp.draw [1, 6, 7, 79] [b] (.ld 0 [7] (.val 1 (.ld 2 [4, 5, 7] (.val 3 (.val 4 (.ld 5 [7] (.val 6 (.eff 7 .done .done)))))))) follows (by kernel_rfl) ?_
      simp [go_sem, -getElem?_pos, -List.map_take, -List.map_drop, List.getElem?_cons_zero, List.getElem?_cons_succ, Go.IntWalk.iteOmega, Go.IntWalk.toNatUp, hK', hlt, g]
      refine ICalls.then (c1 _) ?_
      try simp [go_sem, -getElem?_pos, -List.map_take, -List.map_drop, List.getElem?_cons_zero, List.getElem?_cons_succ, Go.IntWalk.iteOmega, Go.IntWalk.toNatUp, hK', hlt, g]
      refine IWp.cond ?_
      simp [go_sem, -getElem?_pos, -List.map_take, -List.map_drop, List.getElem?_cons_zero, List.getElem?_cons_succ, Go.IntWalk.iteOmega, Go.IntWalk.toNatUp, hK', hlt, g]
      refine IWp.seq ?_
      refine IWp.run [2, 3] ?_
      simp [go_sem, -getElem?_pos, -List.map_take, -List.map_drop, List.getElem?_cons_zero, List.getElem?_cons_succ, Go.IntWalk.iteOmega, Go.IntWalk.toNatUp, hK', hlt, g]
      refine IWp.ret ?_
      simp [go_sem, -getElem?_pos, -List.map_take, -List.map_drop, List.getElem?_cons_zero, List.getElem?_cons_succ, Go.IntWalk.iteOmega, Go.IntWalk.toNatUp, hK', hlt, g, Try.results40]
      try exact .same _
    | true =>
      rw [hb] at c1
      have hp2 := hp.next hb
      refine IWp.seq ?_
      refine IWp.seq ?_
      refine IWp.run [1, 6, 7, 69] ?_
      simp [go_sem, -getElem?_pos, -List.map_take, -List.map_drop, List.getElem?_cons_zero, List.getElem?_cons_succ, Go.IntWalk.iteOmega, Go.IntWalk.toNatUp, hK', hlt, g, wi]
      refine IWp.cond ?_
      simp [go_sem, -getElem?_pos, -List.map_take, -List.map_drop, List.getElem?_cons_zero, List.getElem?_cons_succ, Go.IntWalk.iteOmega, Go.IntWalk.toNatUp, hK', hlt, g, wi]
      refine IWp.trim [1, 6, 7] (IWp.skip ?_)
      simp [go_sem, -getElem?_pos, -List.map_take, -List.map_drop, List.getElem?_cons_zero, List.getElem?_cons_succ, Go.IntWalk.iteOmega, Go.IntWalk.toNatUp, hK', hlt, g, wi]
      refine IWp.seq ?_
      refine IWp.block ?_
      refine IWp.seq ?_
      refine IWp.draw [1, 6, 7, 79] [b] (.ld 0 [7] (.val 1 (.ld 2 [4, 5, 7] (.val 3 (.val 4 (.ld 5 [7] (.val 6 (.eff 7 .done .done)))))))) follows (by kernel_rfl) ?_
      simp [go_sem, -getElem?_pos, -List.map_take, -List.map_drop, List.getElem?_cons_zero, List.getElem?_cons_succ, Go.IntWalk.iteOmega, Go.IntWalk.toNatUp, hK', hlt, g, wi]
      refine ICalls.then (c1 _) ?_
      try simp [go_sem, -getElem?_pos, -List.map_take, -List.map_drop, List.getElem?_cons_zero, List.getElem?_cons_succ, Go.IntWalk.iteOmega, Go.IntWalk.toNatUp, hK', hlt, g, wi]
      refine IWp.cond ?_
      simp [go_sem, -getElem?_pos, -List.map_take, -List.map_drop, List.getElem?_cons_zero, List.getElem?_cons_succ, Go.IntWalk.iteOmega, Go.IntWalk.toNatUp, hK', hlt, g, wi]
      refine IWp.trim [1, 6, 7] (IWp.skip ?_)
      simp [go_sem, -getElem?_pos, -List.map_take, -List.map_drop, List.getElem?_cons_zero, List.getElem?_cons_succ, Go.IntWalk.iteOmega, Go.IntWalk.toNatUp, hK', hlt, g, wi]
      refine IWp.run [1, 6, 7] ?_
      simp [go_sem, -getElem?_pos, -List.map_take, -List.map_drop, List.getElem?_cons_zero, List.getElem?_cons_succ, Go.IntWalk.iteOmega, Go.IntWalk.toNatUp, hK', hlt, g, wi]
      exact ⟨c.rules.length - (i + 1), by omega, i + 1, rfl, by omega, hCC.symm, by omega, hp2⟩
  clear hK hK'
  rintro e K ⟨rfl, hK, a10⟩
  have hK' := hK
  rw [hCC] at hK'
  -- 11
  by_cases t5 : (c.table.length : Int) < 1
  · have e := a10.bad (by omega) (show 0 < 1 by omega) .zero (inS_not.2 (by omega))
    rw [← hF] at e
    subst e
    refine IWp.seq ?_
    refine IWp.seq ?_
    refine IWp.run [1, 91] ?_
    simp [go_sem, -getElem?_pos, -List.map_take, -List.map_drop, List.getElem?_cons_zero, List.getElem?_cons_succ, Go.IntWalk.iteOmega, Go.IntWalk.toNatUp, hK', t5, show c.table.length < 1 by omega]
    refine IWp.cond ?_
    simp [go_sem, -getElem?_pos, -List.map_take, -List.map_drop, List.getElem?_cons_zero, List.getElem?_cons_succ, Go.IntWalk.iteOmega, Go.IntWalk.toNatUp, hK', t5, show c.table.length < 1 by omega]
    refine IWp.seq ?_
    refine IWp.run [2, 3] ?_
    simp [go_sem, -getElem?_pos, -List.map_take, -List.map_drop, List.getElem?_cons_zero, List.getElem?_cons_succ, Go.IntWalk.iteOmega, Go.IntWalk.toNatUp, hK', t5, show c.table.length < 1 by omega]
    refine IWp.ret ?_
    simp [go_sem, -getElem?_pos, -List.map_take, -List.map_drop, List.getElem?_cons_zero, List.getElem?_cons_succ, Go.IntWalk.iteOmega, Go.IntWalk.toNatUp, hK', t5, show c.table.length < 1 by omega, Try.results40]
    try exact .same _
  by_cases t6 : 64 < (c.table.length : Int)
  · have e := a10.bad (by omega) (show 0 < 1 by omega) .zero (inS_not.2 (by omega))
    rw [← hF] at e
    subst e
    refine IWp.seq ?_
    refine IWp.seq ?_
    refine IWp.run [1, 91] ?_
    simp [go_sem, -getElem?_pos, -List.map_take, -List.map_drop, List.getElem?_cons_zero, List.getElem?_cons_succ, Go.IntWalk.iteOmega, Go.IntWalk.toNatUp, hK', t5, t6, show ¬ c.table.length < 1 by omega, show 64 < c.table.length by omega]
    refine IWp.cond ?_
    simp [go_sem, -getElem?_pos, -List.map_take, -List.map_drop, List.getElem?_cons_zero, List.getElem?_cons_succ, Go.IntWalk.iteOmega, Go.IntWalk.toNatUp, hK', t5, t6, show ¬ c.table.length < 1 by omega, show 64 < c.table.length by omega]
    refine IWp.seq ?_
    refine IWp.run [2, 3] ?_
    simp [go_sem, -getElem?_pos, -List.map_take, -List.map_drop, List.getElem?_cons_zero, List.getElem?_cons_succ, Go.IntWalk.iteOmega, Go.IntWalk.toNatUp, hK', t5, t6, show ¬ c.table.length < 1 by omega, show 64 < c.table.length by omega]
    refine IWp.ret ?_
    simp [go_sem, -getElem?_pos, -List.map_take, -List.map_drop, List.getElem?_cons_zero, List.getElem?_cons_succ, Go.IntWalk.iteOmega, Go.IntWalk.toNatUp, hK', t5, t6, show ¬ c.table.length < 1 by omega, show 64 < c.table.length by omega, Try.results40]
    try exact .same _
  have a11 := a10.one rfl (inS_iff.2 (by omega))
  refine IWp.seq ?_
  refine IWp.seq ?_
  refine IWp.run [1, 91] ?_
  simp [go_sem, -getElem?_pos, -List.map_take, -List.map_drop, List.getElem?_cons_zero, List.getElem?_cons_succ, Go.IntWalk.iteOmega, Go.IntWalk.toNatUp, hK', t5, t6, show ¬ c.table.length < 1 by omega, show ¬ 64 < c.table.length by omega]
  refine IWp.cond ?_
  simp [go_sem, -getElem?_pos, -List.map_take, -List.map_drop, List.getElem?_cons_zero, List.getElem?_cons_succ, Go.IntWalk.iteOmega, Go.IntWalk.toNatUp, hK', t5, t6, show ¬ c.table.length < 1 by omega, show ¬ 64 < c.table.length by omega]
  refine IWp.trim [1] (IWp.skip ?_)
  simp [go_sem, -getElem?_pos, -List.map_take, -List.map_drop, List.getElem?_cons_zero, List.getElem?_cons_succ, Go.IntWalk.iteOmega, Go.IntWalk.toNatUp, hK', t5, t6, show ¬ c.table.length < 1 by omega, show ¬ 64 < c.table.length by omega]
  -- CUT live [1]
  -- 12
  refine IWp.cut (fun e K => e = [(1, ptrTo b 0)] ∧ K.get b = some ⟨CC, true⟩ ∧ AllTo c 12) ?_ ?_
  · skip
    refine IWp.seq ?_
    refine IWp.run [1, 8] ?_
    simp [go_sem, -getElem?_pos, -List.map_take, -List.map_drop, List.getElem?_cons_zero, List.getElem?_cons_succ, Go.IntWalk.iteOmega, Go.IntWalk.toNatUp]
    refine IWp.block ?_
    -- LOOP live [1, 8]
    refine IWp.loop (fun q e K => ∃ i : Nat, q = c.table.length - i ∧ i ≤ c.table.length ∧ K.get b = some ⟨CC, true⟩ ∧ e = [(1, ptrTo b 0), (8, .int .i64 (i : Int))] ∧ PreTo c 11 i) c.table.length ⟨0, rfl, Nat.zero_le _, hK, by simp [go_sem], .zero⟩ ?_
    clear hK hK'
    rintro q e K ⟨i, rfl, hi, hK, rfl, hp⟩
    have hK' := hK
    rw [hCC] at hK'
    have wi := IntWalk.i64_in ((i : Int) + 1) (by omega)
    by_cases hlt : i < c.table.length
    case neg =>
      have hie : i = c.table.length := by omega
      subst hie
      have a12 := a11.next hp
      refine IWp.seq ?_
      refine IWp.seq ?_
      refine IWp.run [1, 8, 96] ?_
      simp [go_sem, -getElem?_pos, -List.map_take, -List.map_drop, List.getElem?_cons_zero, List.getElem?_cons_succ, Go.IntWalk.iteOmega, Go.IntWalk.toNatUp, hK']
      refine IWp.cond ?_
      simp [go_sem, -getElem?_pos, -List.map_take, -List.map_drop, List.getElem?_cons_zero, List.getElem?_cons_succ, Go.IntWalk.iteOmega, Go.IntWalk.toNatUp, hK']
      refine IWp.trim [1] (IWp.exit ?_)
      simp [go_sem, -getElem?_pos, -List.map_take, -List.map_drop, List.getElem?_cons_zero, List.getElem?_cons_succ, Go.IntWalk.iteOmega, Go.IntWalk.toNatUp, hK']
      exact ⟨hCC.symm, a12⟩
    have g : (c.table.map (ints .i64))[i]? = some (ints .i64 c.table[i]) := by simp [hlt]
    have hh : holdsS c 11 i = decide (SlotOk c.rules.length c.table[i]) := by simp [holdsS, List.getElem?_eq_getElem hlt]
    have c1 := fun K => slotR K c c.table[i] (by omega) (hS.rows _ (List.getElem_mem hlt))
    generalize c.table[i] = x at *
    rw [← hh] at c1
    simp only [Config.val, Config.cells] at c1
    cases hb : holdsS c 11 i with
    | false =>
      rw [hb] at c1
      rw [show F = (12, (i : Int)) by rw [hF, a11.bad (by omega) hlt hp hb]; rfl]
      refine IWp.seq ?_
      refine IWp.seq ?_
      refine IWp.run [1, 8, 96] ?_
      simp [go_sem, -getElem?_pos, -List.map_take, -List.map_drop, List.getElem?_cons_zero, List.getElem?_cons_succ, Go.IntWalk.iteOmega, Go.IntWalk.toNatUp, hK', hlt, g]
      refine IWp.cond ?_
      simp [go_sem, -getElem?_pos, -List.map_take, -List.map_drop, List.getElem?_cons_zero, List.getElem?_cons_succ, Go.IntWalk.iteOmega, Go.IntWalk.toNatUp, hK', hlt, g]
      refine IWp.trim [1, 8] (IWp.skip ?_)
      simp [go_sem, -getElem?_pos, -List.map_take, -List.map_drop, List.getElem?_cons_zero, List.getElem?_cons_succ, Go.IntWalk.iteOmega, Go.IntWalk.toNatUp, hK', hlt, g]
      refine IWp.seq ?_
      refine IWp.block ?_
      refine IWp.seq ?_
      refine IWp.draw [1, 8, 105] [b] (.ld 0 [6] (.val 1 (.ld 2 [4, 5, 6] (.val 3 (.val 4 (.ld 5 [6] (.eff 6 .done .done))))))) follows (by kernel_rfl) ?_
      simp [go_sem, -getElem?_pos, -List.map_take, -List.map_drop, List.getElem?_cons_zero, List.getElem?_cons_succ, Go.IntWalk.iteOmega, Go.IntWalk.toNatUp, hK', hlt, g]
      refine ICalls.then (c1 _) ?_
      try simp [go_sem, -getElem?_pos, -List.map_take, -List.map_drop, List.getElem?_cons_zero, List.getElem?_cons_succ, Go.IntWalk.iteOmega, Go.IntWalk.toNatUp, hK', hlt, g]
      refine IWp.cond ?_
      simp [go_sem, -getElem?_pos, -List.map_take, -List.map_drop, List.getElem?_cons_zero, List.getElem?_cons_succ, Go.IntWalk.iteOmega, Go.IntWalk.toNatUp, hK', hlt, g]
      refine IWp.seq ?_
      refine IWp.run [2, 3] ?_
      simp [go_sem, -getElem?_pos, -List.map_take, -List.map_drop, List.getElem?_cons_zero, List.getElem?_cons_succ, Go.IntWalk.iteOmega, Go.IntWalk.toNatUp, hK', hlt, g]
      refine IWp.ret ?_
      simp [go_sem, -getElem?_pos, -List.map_take, -List.map_drop, List.getElem?_cons_zero, List.getElem?_cons_succ, Go.IntWalk.iteOmega, Go.IntWalk.toNatUp, hK', hlt, g, Try.results40]
      try exact .same _
    | true =>
      rw [hb] at c1
      have hp2 := hp.next hb
      refine IWp.seq ?_
      refine IWp.seq ?_
      refine IWp.run [1, 8, 96] ?_
      simp [go_sem, -getElem?_pos, -List.map_take, -List.map_drop, List.getElem?_cons_zero, List.getElem?_cons_succ, Go.IntWalk.iteOmega, Go.IntWalk.toNatUp, hK', hlt, g, wi]
      refine IWp.cond ?_
      simp [go_sem, -getElem?_pos, -List.map_take, -List.map_drop, List.getElem?_cons_zero, List.getElem?_cons_succ, Go.IntWalk.iteOmega, Go.IntWalk.toNatUp, hK', hlt, g, wi]
      refine IWp.trim [1, 8] (IWp.skip ?_)
      simp [go_sem, -getElem?_pos, -List.map_take, -List.map_drop, List.getElem?_cons_zero, List.getElem?_cons_succ, Go.IntWalk.iteOmega, Go.IntWalk.toNatUp, hK', hlt, g, wi]
      refine IWp.seq ?_
      refine IWp.block ?_
      refine IWp.seq ?_
      refine IWp.draw [1, 8, 105] [b] (.ld 0 [6] (.val 1 (.ld 2 [4, 5, 6] (.val 3 (.val 4 (.ld 5 [6] (.eff 6 .done .done))))))) follows (by kernel_rfl) ?_
      simp [go_sem, -getElem?_pos, -List.map_take, -List.map_drop, List.getElem?_cons_zero, List.getElem?_cons_succ, Go.IntWalk.iteOmega, Go.IntWalk.toNatUp, hK', hlt, g, wi]
      refine ICalls.then (c1 _) ?_
      try simp [go_sem, -getElem?_pos, -List.map_take, -List.map_drop, List.getElem?_cons_zero, List.getElem?_cons_succ, Go.IntWalk.iteOmega, Go.IntWalk.toNatUp, hK', hlt, g, wi]
      refine IWp.cond ?_
      simp [go_sem, -getElem?_pos, -List.map_take, -List.map_drop, List.getElem?_cons_zero, List.getElem?_cons_succ, Go.IntWalk.iteOmega, Go.IntWalk.toNatUp, hK', hlt, g, wi]
      refine IWp.trim [1, 8] (IWp.skip ?_)
      simp [go_sem, -getElem?_pos, -List.map_take, -List.map_drop, List.getElem?_cons_zero, List.getElem?_cons_succ, Go.IntWalk.iteOmega, Go.IntWalk.toNatUp, hK', hlt, g, wi]
      refine IWp.run [1, 8] ?_
      simp [go_sem, -getElem?_pos, -List.map_take, -List.map_drop, List.getElem?_cons_zero, List.getElem?_cons_succ, Go.IntWalk.iteOmega, Go.IntWalk.toNatUp, hK', hlt, g, wi]
      exact ⟨c.table.length - (i + 1), by omega, i + 1, rfl, by omega, hCC.symm, by omega, hp2⟩
  clear hK hK'
  rintro e K ⟨rfl, hK, a12⟩
  have hK' := hK
  rw [hCC] at hK'
  -- CUT live [1]
  -- 13
  refine IWp.cut (fun e K => e = [(1, ptrTo b 0)] ∧ K.get b = some ⟨CC, true⟩ ∧ AllTo c 13) ?_ ?_
  · skip
    refine IWp.seq ?_
    refine IWp.run [1, 9] ?_
    simp [go_sem, -getElem?_pos, -List.map_take, -List.map_drop, List.getElem?_cons_zero, List.getElem?_cons_succ, Go.IntWalk.iteOmega, Go.IntWalk.toNatUp]
    refine IWp.block ?_
    -- LOOP live [1, 9]
    refine IWp.loop (fun q e K => ∃ i : Nat, q = c.rules.length - i ∧ i ≤ c.rules.length ∧ K.get b = some ⟨CC, true⟩ ∧ e = [(1, ptrTo b 0), (9, .int .i64 (i : Int))] ∧ PreTo c 12 i) c.rules.length ⟨0, rfl, Nat.zero_le _, hK, by simp [go_sem], .zero⟩ ?_
    clear hK hK'
    rintro q e K ⟨i, rfl, hi, hK, rfl, hp⟩
    have hK' := hK
    rw [hCC] at hK'
    have wi := IntWalk.i64_in ((i : Int) + 1) (by omega)
    by_cases hlt : i < c.rules.length
    case neg =>
      have hie : i = c.rules.length := by omega
      subst hie
      have a13 := a12.next hp
      refine IWp.seq ?_
      refine IWp.seq ?_
      refine IWp.run [1, 9, 111] ?_
      simp [go_sem, -getElem?_pos, -List.map_take, -List.map_drop, List.getElem?_cons_zero, List.getElem?_cons_succ, Go.IntWalk.iteOmega, Go.IntWalk.toNatUp, hK']
      refine IWp.cond ?_
      simp [go_sem, -getElem?_pos, -List.map_take, -List.map_drop, List.getElem?_cons_zero, List.getElem?_cons_succ, Go.IntWalk.iteOmega, Go.IntWalk.toNatUp, hK']
      refine IWp.trim [1] (IWp.exit ?_)
      simp [go_sem, -getElem?_pos, -List.map_take, -List.map_drop, List.getElem?_cons_zero, List.getElem?_cons_succ, Go.IntWalk.iteOmega, Go.IntWalk.toNatUp, hK']
      exact ⟨hCC.symm, a13⟩
    have hh : holdsS c 12 i = standsS c.table i := rfl
    have c1 := fun K => refStands K c i (by omega) hS.rows
    rw [← hh] at c1
    simp only [Config.val, Config.cells] at c1
    cases hb : holdsS c 12 i with
    | false =>
      rw [hb] at c1
      rw [show F = (13, (i : Int)) by rw [hF, a12.bad (by omega) hlt hp hb]; rfl]
      refine IWp.seq ?_
      refine IWp.seq ?_
      refine IWp.run [1, 9, 111] ?_
      simp [go_sem, -getElem?_pos, -List.map_take, -List.map_drop, List.getElem?_cons_zero, List.getElem?_cons_succ, Go.IntWalk.iteOmega, Go.IntWalk.toNatUp, hK', hlt]
      refine IWp.cond ?_
      simp [go_sem, -getElem?_pos, -List.map_take, -List.map_drop, List.getElem?_cons_zero, List.getElem?_cons_succ, Go.IntWalk.iteOmega, Go.IntWalk.toNatUp, hK', hlt]
      refine IWp.trim [1, 9] (IWp.skip ?_)
      simp [go_sem, -getElem?_pos, -List.map_take, -List.map_drop, List.getElem?_cons_zero, List.getElem?_cons_succ, Go.IntWalk.iteOmega, Go.IntWalk.toNatUp, hK', hlt]
      refine IWp.seq ?_
      refine IWp.block ?_
      refine IWp.seq ?_
      refine IWp.run [1, 9, 117] ?_
      simp [go_sem, -getElem?_pos, -List.map_take, -List.map_drop, List.getElem?_cons_zero, List.getElem?_cons_succ, Go.IntWalk.iteOmega, Go.IntWalk.toNatUp, hK', hlt]
      refine ICalls.then (c1 _) ?_
      try simp [go_sem, -getElem?_pos, -List.map_take, -List.map_drop, List.getElem?_cons_zero, List.getElem?_cons_succ, Go.IntWalk.iteOmega, Go.IntWalk.toNatUp, hK', hlt]
      refine IWp.cond ?_
      simp [go_sem, -getElem?_pos, -List.map_take, -List.map_drop, List.getElem?_cons_zero, List.getElem?_cons_succ, Go.IntWalk.iteOmega, Go.IntWalk.toNatUp, hK', hlt]
      refine IWp.seq ?_
      refine IWp.run [2, 3] ?_
      simp [go_sem, -getElem?_pos, -List.map_take, -List.map_drop, List.getElem?_cons_zero, List.getElem?_cons_succ, Go.IntWalk.iteOmega, Go.IntWalk.toNatUp, hK', hlt]
      refine IWp.ret ?_
      simp [go_sem, -getElem?_pos, -List.map_take, -List.map_drop, List.getElem?_cons_zero, List.getElem?_cons_succ, Go.IntWalk.iteOmega, Go.IntWalk.toNatUp, hK', hlt, Try.results40]
      try exact .same _
    | true =>
      rw [hb] at c1
      have hp2 := hp.next hb
      refine IWp.seq ?_
      refine IWp.seq ?_
      refine IWp.run [1, 9, 111] ?_
      simp [go_sem, -getElem?_pos, -List.map_take, -List.map_drop, List.getElem?_cons_zero, List.getElem?_cons_succ, Go.IntWalk.iteOmega, Go.IntWalk.toNatUp, hK', hlt, wi]
      refine IWp.cond ?_
      simp [go_sem, -getElem?_pos, -List.map_take, -List.map_drop, List.getElem?_cons_zero, List.getElem?_cons_succ, Go.IntWalk.iteOmega, Go.IntWalk.toNatUp, hK', hlt, wi]
      refine IWp.trim [1, 9] (IWp.skip ?_)
      simp [go_sem, -getElem?_pos, -List.map_take, -List.map_drop, List.getElem?_cons_zero, List.getElem?_cons_succ, Go.IntWalk.iteOmega, Go.IntWalk.toNatUp, hK', hlt, wi]
      refine IWp.seq ?_
      refine IWp.block ?_
      refine IWp.seq ?_
      refine IWp.run [1, 9, 117] ?_
      simp [go_sem, -getElem?_pos, -List.map_take, -List.map_drop, List.getElem?_cons_zero, List.getElem?_cons_succ, Go.IntWalk.iteOmega, Go.IntWalk.toNatUp, hK', hlt, wi]
      refine ICalls.then (c1 _) ?_
      try simp [go_sem, -getElem?_pos, -List.map_take, -List.map_drop, List.getElem?_cons_zero, List.getElem?_cons_succ, Go.IntWalk.iteOmega, Go.IntWalk.toNatUp, hK', hlt, wi]
      refine IWp.cond ?_
      simp [go_sem, -getElem?_pos, -List.map_take, -List.map_drop, List.getElem?_cons_zero, List.getElem?_cons_succ, Go.IntWalk.iteOmega, Go.IntWalk.toNatUp, hK', hlt, wi]
      refine IWp.trim [1, 9] (IWp.skip ?_)
      simp [go_sem, -getElem?_pos, -List.map_take, -List.map_drop, List.getElem?_cons_zero, List.getElem?_cons_succ, Go.IntWalk.iteOmega, Go.IntWalk.toNatUp, hK', hlt, wi]
      refine IWp.run [1, 9] ?_
      simp [go_sem, -getElem?_pos, -List.map_take, -List.map_drop, List.getElem?_cons_zero, List.getElem?_cons_succ, Go.IntWalk.iteOmega, Go.IntWalk.toNatUp, hK', hlt, wi]
      exact ⟨c.rules.length - (i + 1), by omega, i + 1, rfl, by omega, hCC.symm, by omega, hp2⟩
  clear hK hK'
  rintro e K ⟨rfl, hK, a13⟩
  have hK' := hK
  rw [hCC] at hK'
  -- CUT live [1]
  -- 14
  refine IWp.cut (fun e K => e = [(1, ptrTo b 0)] ∧ K.get b = some ⟨CC, true⟩ ∧ AllTo c 14) ?_ ?_
  · skip
    refine IWp.seq ?_
    refine IWp.run [1, 10] ?_
    simp [go_sem, -getElem?_pos, -List.map_take, -List.map_drop, List.getElem?_cons_zero, List.getElem?_cons_succ, Go.IntWalk.iteOmega, Go.IntWalk.toNatUp]
    refine IWp.block ?_
    -- LOOP live [1, 10]
    refine IWp.loop (fun q e K => ∃ i : Nat, q = 3 - i ∧ i ≤ 3 ∧ K.get b = some ⟨CC, true⟩ ∧ e = [(1, ptrTo b 0), (10, .int .i64 (i : Int))] ∧ PreTo c 13 i) 3 ⟨0, rfl, Nat.zero_le _, hK, by simp [go_sem], .zero⟩ ?_
    clear hK hK'
    rintro q e K ⟨i, rfl, hi, hK, rfl, hp⟩
    have hK' := hK
    rw [hCC] at hK'
    have hi4 : i = 0 ∨ i = 1 ∨ i = 2 ∨ i = 3 := by omega
    rcases hi4 with rfl | hi4
    · have hh : holdsS c 13 0 = inS c.b0 1 32 := rfl
      by_cases t7 : c.b0 < 1
      · rw [show F = (14, 0) by rw [hF, a13.bad (by omega) (show 0 < 3 by omega) hp (by rw [hh]; exact inS_not.2 (by omega))]; rfl]
        refine IWp.seq ?_
        refine IWp.seq ?_
        refine IWp.run [1, 10, 120] ?_
        simp [go_sem, -getElem?_pos, -List.map_take, -List.map_drop, List.getElem?_cons_zero, List.getElem?_cons_succ, Go.IntWalk.iteOmega, Go.IntWalk.toNatUp, hK', t7]
        refine IWp.cond ?_
        simp [go_sem, -getElem?_pos, -List.map_take, -List.map_drop, List.getElem?_cons_zero, List.getElem?_cons_succ, Go.IntWalk.iteOmega, Go.IntWalk.toNatUp, hK', t7]
        refine IWp.trim [1, 10] (IWp.skip ?_)
        simp [go_sem, -getElem?_pos, -List.map_take, -List.map_drop, List.getElem?_cons_zero, List.getElem?_cons_succ, Go.IntWalk.iteOmega, Go.IntWalk.toNatUp, hK', t7]
        refine IWp.seq ?_
        refine IWp.block ?_
        refine IWp.seq ?_
        refine IWp.run [1, 10, 134] ?_
        simp [go_sem, -getElem?_pos, -List.map_take, -List.map_drop, List.getElem?_cons_zero, List.getElem?_cons_succ, Go.IntWalk.iteOmega, Go.IntWalk.toNatUp, hK', t7]
        refine IWp.cond ?_
        simp [go_sem, -getElem?_pos, -List.map_take, -List.map_drop, List.getElem?_cons_zero, List.getElem?_cons_succ, Go.IntWalk.iteOmega, Go.IntWalk.toNatUp, hK', t7]
        refine IWp.seq ?_
        refine IWp.run [2, 3] ?_
        simp [go_sem, -getElem?_pos, -List.map_take, -List.map_drop, List.getElem?_cons_zero, List.getElem?_cons_succ, Go.IntWalk.iteOmega, Go.IntWalk.toNatUp, hK', t7]
        refine IWp.ret ?_
        simp [go_sem, -getElem?_pos, -List.map_take, -List.map_drop, List.getElem?_cons_zero, List.getElem?_cons_succ, Go.IntWalk.iteOmega, Go.IntWalk.toNatUp, hK', t7, Try.results40]
        try exact .same _
      by_cases t8 : 32 < c.b0
      · rw [show F = (14, 0) by rw [hF, a13.bad (by omega) (show 0 < 3 by omega) hp (by rw [hh]; exact inS_not.2 (by omega))]; rfl]
        refine IWp.seq ?_
        refine IWp.seq ?_
        refine IWp.run [1, 10, 120] ?_
        simp [go_sem, -getElem?_pos, -List.map_take, -List.map_drop, List.getElem?_cons_zero, List.getElem?_cons_succ, Go.IntWalk.iteOmega, Go.IntWalk.toNatUp, hK', t7, t8]
        refine IWp.cond ?_
        simp [go_sem, -getElem?_pos, -List.map_take, -List.map_drop, List.getElem?_cons_zero, List.getElem?_cons_succ, Go.IntWalk.iteOmega, Go.IntWalk.toNatUp, hK', t7, t8]
        refine IWp.trim [1, 10] (IWp.skip ?_)
        simp [go_sem, -getElem?_pos, -List.map_take, -List.map_drop, List.getElem?_cons_zero, List.getElem?_cons_succ, Go.IntWalk.iteOmega, Go.IntWalk.toNatUp, hK', t7, t8]
        refine IWp.seq ?_
        refine IWp.block ?_
        refine IWp.seq ?_
        refine IWp.run [1, 10, 134] ?_
        simp [go_sem, -getElem?_pos, -List.map_take, -List.map_drop, List.getElem?_cons_zero, List.getElem?_cons_succ, Go.IntWalk.iteOmega, Go.IntWalk.toNatUp, hK', t7, t8]
        refine IWp.cond ?_
        simp [go_sem, -getElem?_pos, -List.map_take, -List.map_drop, List.getElem?_cons_zero, List.getElem?_cons_succ, Go.IntWalk.iteOmega, Go.IntWalk.toNatUp, hK', t7, t8]
        refine IWp.seq ?_
        refine IWp.run [2, 3] ?_
        simp [go_sem, -getElem?_pos, -List.map_take, -List.map_drop, List.getElem?_cons_zero, List.getElem?_cons_succ, Go.IntWalk.iteOmega, Go.IntWalk.toNatUp, hK', t7, t8]
        refine IWp.ret ?_
        simp [go_sem, -getElem?_pos, -List.map_take, -List.map_drop, List.getElem?_cons_zero, List.getElem?_cons_succ, Go.IntWalk.iteOmega, Go.IntWalk.toNatUp, hK', t7, t8, Try.results40]
        try exact .same _
      · have hp2 := hp.next (by rw [hh]; exact inS_iff.2 (by omega))
        refine IWp.seq ?_
        refine IWp.seq ?_
        refine IWp.run [1, 10, 120] ?_
        simp [go_sem, -getElem?_pos, -List.map_take, -List.map_drop, List.getElem?_cons_zero, List.getElem?_cons_succ, Go.IntWalk.iteOmega, Go.IntWalk.toNatUp, hK', t7, t8, IntWalk.i64_in (0 + 1) (by omega), IntWalk.i64_in 1 (by omega)]
        refine IWp.cond ?_
        simp [go_sem, -getElem?_pos, -List.map_take, -List.map_drop, List.getElem?_cons_zero, List.getElem?_cons_succ, Go.IntWalk.iteOmega, Go.IntWalk.toNatUp, hK', t7, t8, IntWalk.i64_in (0 + 1) (by omega), IntWalk.i64_in 1 (by omega)]
        refine IWp.trim [1, 10] (IWp.skip ?_)
        simp [go_sem, -getElem?_pos, -List.map_take, -List.map_drop, List.getElem?_cons_zero, List.getElem?_cons_succ, Go.IntWalk.iteOmega, Go.IntWalk.toNatUp, hK', t7, t8, IntWalk.i64_in (0 + 1) (by omega), IntWalk.i64_in 1 (by omega)]
        refine IWp.seq ?_
        refine IWp.block ?_
        refine IWp.seq ?_
        refine IWp.run [1, 10, 134] ?_
        simp [go_sem, -getElem?_pos, -List.map_take, -List.map_drop, List.getElem?_cons_zero, List.getElem?_cons_succ, Go.IntWalk.iteOmega, Go.IntWalk.toNatUp, hK', t7, t8, IntWalk.i64_in (0 + 1) (by omega), IntWalk.i64_in 1 (by omega)]
        refine IWp.cond ?_
        simp [go_sem, -getElem?_pos, -List.map_take, -List.map_drop, List.getElem?_cons_zero, List.getElem?_cons_succ, Go.IntWalk.iteOmega, Go.IntWalk.toNatUp, hK', t7, t8, IntWalk.i64_in (0 + 1) (by omega), IntWalk.i64_in 1 (by omega)]
        refine IWp.trim [1, 10] (IWp.skip ?_)
        simp [go_sem, -getElem?_pos, -List.map_take, -List.map_drop, List.getElem?_cons_zero, List.getElem?_cons_succ, Go.IntWalk.iteOmega, Go.IntWalk.toNatUp, hK', t7, t8, IntWalk.i64_in (0 + 1) (by omega), IntWalk.i64_in 1 (by omega)]
        refine IWp.run [1, 10] ?_
        simp [go_sem, -getElem?_pos, -List.map_take, -List.map_drop, List.getElem?_cons_zero, List.getElem?_cons_succ, Go.IntWalk.iteOmega, Go.IntWalk.toNatUp, hK', t7, t8, IntWalk.i64_in (0 + 1) (by omega), IntWalk.i64_in 1 (by omega)]
        exact ⟨3 - (0 + 1), by omega, 0 + 1, rfl, by omega, hCC.symm, by omega, hp2⟩
    rcases hi4 with rfl | hi4
    · have hh : holdsS c 13 1 = inS c.b1 1 32 := rfl
      by_cases t7 : c.b1 < 1
      · rw [show F = (14, 1) by rw [hF, a13.bad (by omega) (show 1 < 3 by omega) hp (by rw [hh]; exact inS_not.2 (by omega))]; rfl]
        refine IWp.seq ?_
        refine IWp.seq ?_
        refine IWp.run [1, 10, 120] ?_
        simp [go_sem, -getElem?_pos, -List.map_take, -List.map_drop, List.getElem?_cons_zero, List.getElem?_cons_succ, Go.IntWalk.iteOmega, Go.IntWalk.toNatUp, hK', t7]
        refine IWp.cond ?_
        simp [go_sem, -getElem?_pos, -List.map_take, -List.map_drop, List.getElem?_cons_zero, List.getElem?_cons_succ, Go.IntWalk.iteOmega, Go.IntWalk.toNatUp, hK', t7]
        refine IWp.trim [1, 10] (IWp.skip ?_)
        simp [go_sem, -getElem?_pos, -List.map_take, -List.map_drop, List.getElem?_cons_zero, List.getElem?_cons_succ, Go.IntWalk.iteOmega, Go.IntWalk.toNatUp, hK', t7]
        refine IWp.seq ?_
        refine IWp.block ?_
        refine IWp.seq ?_
        refine IWp.run [1, 10, 134] ?_
        simp [go_sem, -getElem?_pos, -List.map_take, -List.map_drop, List.getElem?_cons_zero, List.getElem?_cons_succ, Go.IntWalk.iteOmega, Go.IntWalk.toNatUp, hK', t7]
        refine IWp.cond ?_
        simp [go_sem, -getElem?_pos, -List.map_take, -List.map_drop, List.getElem?_cons_zero, List.getElem?_cons_succ, Go.IntWalk.iteOmega, Go.IntWalk.toNatUp, hK', t7]
        refine IWp.seq ?_
        refine IWp.run [2, 3] ?_
        simp [go_sem, -getElem?_pos, -List.map_take, -List.map_drop, List.getElem?_cons_zero, List.getElem?_cons_succ, Go.IntWalk.iteOmega, Go.IntWalk.toNatUp, hK', t7]
        refine IWp.ret ?_
        simp [go_sem, -getElem?_pos, -List.map_take, -List.map_drop, List.getElem?_cons_zero, List.getElem?_cons_succ, Go.IntWalk.iteOmega, Go.IntWalk.toNatUp, hK', t7, Try.results40]
        try exact .same _
      by_cases t8 : 32 < c.b1
      · rw [show F = (14, 1) by rw [hF, a13.bad (by omega) (show 1 < 3 by omega) hp (by rw [hh]; exact inS_not.2 (by omega))]; rfl]
        refine IWp.seq ?_
        refine IWp.seq ?_
        refine IWp.run [1, 10, 120] ?_
        simp [go_sem, -getElem?_pos, -List.map_take, -List.map_drop, List.getElem?_cons_zero, List.getElem?_cons_succ, Go.IntWalk.iteOmega, Go.IntWalk.toNatUp, hK', t7, t8]
        refine IWp.cond ?_
        simp [go_sem, -getElem?_pos, -List.map_take, -List.map_drop, List.getElem?_cons_zero, List.getElem?_cons_succ, Go.IntWalk.iteOmega, Go.IntWalk.toNatUp, hK', t7, t8]
        refine IWp.trim [1, 10] (IWp.skip ?_)
        simp [go_sem, -getElem?_pos, -List.map_take, -List.map_drop, List.getElem?_cons_zero, List.getElem?_cons_succ, Go.IntWalk.iteOmega, Go.IntWalk.toNatUp, hK', t7, t8]
        refine IWp.seq ?_
        refine IWp.block ?_
        refine IWp.seq ?_
        refine IWp.run [1, 10, 134] ?_
        simp [go_sem, -getElem?_pos, -List.map_take, -List.map_drop, List.getElem?_cons_zero, List.getElem?_cons_succ, Go.IntWalk.iteOmega, Go.IntWalk.toNatUp, hK', t7, t8]
        refine IWp.cond ?_
        simp [go_sem, -getElem?_pos, -List.map_take, -List.map_drop, List.getElem?_cons_zero, List.getElem?_cons_succ, Go.IntWalk.iteOmega, Go.IntWalk.toNatUp, hK', t7, t8]
        refine IWp.seq ?_
        refine IWp.run [2, 3] ?_
        simp [go_sem, -getElem?_pos, -List.map_take, -List.map_drop, List.getElem?_cons_zero, List.getElem?_cons_succ, Go.IntWalk.iteOmega, Go.IntWalk.toNatUp, hK', t7, t8]
        refine IWp.ret ?_
        simp [go_sem, -getElem?_pos, -List.map_take, -List.map_drop, List.getElem?_cons_zero, List.getElem?_cons_succ, Go.IntWalk.iteOmega, Go.IntWalk.toNatUp, hK', t7, t8, Try.results40]
        try exact .same _
      · have hp2 := hp.next (by rw [hh]; exact inS_iff.2 (by omega))
        refine IWp.seq ?_
        refine IWp.seq ?_
        refine IWp.run [1, 10, 120] ?_
        simp [go_sem, -getElem?_pos, -List.map_take, -List.map_drop, List.getElem?_cons_zero, List.getElem?_cons_succ, Go.IntWalk.iteOmega, Go.IntWalk.toNatUp, hK', t7, t8, IntWalk.i64_in (1 + 1) (by omega), IntWalk.i64_in 2 (by omega)]
        refine IWp.cond ?_
        simp [go_sem, -getElem?_pos, -List.map_take, -List.map_drop, List.getElem?_cons_zero, List.getElem?_cons_succ, Go.IntWalk.iteOmega, Go.IntWalk.toNatUp, hK', t7, t8, IntWalk.i64_in (1 + 1) (by omega), IntWalk.i64_in 2 (by omega)]
        refine IWp.trim [1, 10] (IWp.skip ?_)
        simp [go_sem, -getElem?_pos, -List.map_take, -List.map_drop, List.getElem?_cons_zero, List.getElem?_cons_succ, Go.IntWalk.iteOmega, Go.IntWalk.toNatUp, hK', t7, t8, IntWalk.i64_in (1 + 1) (by omega), IntWalk.i64_in 2 (by omega)]
        refine IWp.seq ?_
        refine IWp.block ?_
        refine IWp.seq ?_
        refine IWp.run [1, 10, 134] ?_
        simp [go_sem, -getElem?_pos, -List.map_take, -List.map_drop, List.getElem?_cons_zero, List.getElem?_cons_succ, Go.IntWalk.iteOmega, Go.IntWalk.toNatUp, hK', t7, t8, IntWalk.i64_in (1 + 1) (by omega), IntWalk.i64_in 2 (by omega)]
        refine IWp.cond ?_
        simp [go_sem, -getElem?_pos, -List.map_take, -List.map_drop, List.getElem?_cons_zero, List.getElem?_cons_succ, Go.IntWalk.iteOmega, Go.IntWalk.toNatUp, hK', t7, t8, IntWalk.i64_in (1 + 1) (by omega), IntWalk.i64_in 2 (by omega)]
        refine IWp.trim [1, 10] (IWp.skip ?_)
        simp [go_sem, -getElem?_pos, -List.map_take, -List.map_drop, List.getElem?_cons_zero, List.getElem?_cons_succ, Go.IntWalk.iteOmega, Go.IntWalk.toNatUp, hK', t7, t8, IntWalk.i64_in (1 + 1) (by omega), IntWalk.i64_in 2 (by omega)]
        refine IWp.run [1, 10] ?_
        simp [go_sem, -getElem?_pos, -List.map_take, -List.map_drop, List.getElem?_cons_zero, List.getElem?_cons_succ, Go.IntWalk.iteOmega, Go.IntWalk.toNatUp, hK', t7, t8, IntWalk.i64_in (1 + 1) (by omega), IntWalk.i64_in 2 (by omega)]
        exact ⟨3 - (1 + 1), by omega, 1 + 1, rfl, by omega, hCC.symm, by omega, hp2⟩
    rcases hi4 with rfl | hi4
    · have hh : holdsS c 13 2 = inS c.b2 1 32 := rfl
      by_cases t7 : c.b2 < 1
      · rw [show F = (14, 2) by rw [hF, a13.bad (by omega) (show 2 < 3 by omega) hp (by rw [hh]; exact inS_not.2 (by omega))]; rfl]
        refine IWp.seq ?_
        refine IWp.seq ?_
        refine IWp.run [1, 10, 120] ?_
        simp [go_sem, -getElem?_pos, -List.map_take, -List.map_drop, List.getElem?_cons_zero, List.getElem?_cons_succ, Go.IntWalk.iteOmega, Go.IntWalk.toNatUp, hK', t7]
        refine IWp.cond ?_
        simp [go_sem, -getElem?_pos, -List.map_take, -List.map_drop, List.getElem?_cons_zero, List.getElem?_cons_succ, Go.IntWalk.iteOmega, Go.IntWalk.toNatUp, hK', t7]
        refine IWp.trim [1, 10] (IWp.skip ?_)
        simp [go_sem, -getElem?_pos, -List.map_take, -List.map_drop, List.getElem?_cons_zero, List.getElem?_cons_succ, Go.IntWalk.iteOmega, Go.IntWalk.toNatUp, hK', t7]
        refine IWp.seq ?_
        refine IWp.block ?_
        refine IWp.seq ?_
        refine IWp.run [1, 10, 134] ?_
        simp [go_sem, -getElem?_pos, -List.map_take, -List.map_drop, List.getElem?_cons_zero, List.getElem?_cons_succ, Go.IntWalk.iteOmega, Go.IntWalk.toNatUp, hK', t7]
        refine IWp.cond ?_
        simp [go_sem, -getElem?_pos, -List.map_take, -List.map_drop, List.getElem?_cons_zero, List.getElem?_cons_succ, Go.IntWalk.iteOmega, Go.IntWalk.toNatUp, hK', t7]
        refine IWp.seq ?_
        refine IWp.run [2, 3] ?_
        simp [go_sem, -getElem?_pos, -List.map_take, -List.map_drop, List.getElem?_cons_zero, List.getElem?_cons_succ, Go.IntWalk.iteOmega, Go.IntWalk.toNatUp, hK', t7]
        refine IWp.ret ?_
        simp [go_sem, -getElem?_pos, -List.map_take, -List.map_drop, List.getElem?_cons_zero, List.getElem?_cons_succ, Go.IntWalk.iteOmega, Go.IntWalk.toNatUp, hK', t7, Try.results40]
        try exact .same _
      by_cases t8 : 32 < c.b2
      · rw [show F = (14, 2) by rw [hF, a13.bad (by omega) (show 2 < 3 by omega) hp (by rw [hh]; exact inS_not.2 (by omega))]; rfl]
        refine IWp.seq ?_
        refine IWp.seq ?_
        refine IWp.run [1, 10, 120] ?_
        simp [go_sem, -getElem?_pos, -List.map_take, -List.map_drop, List.getElem?_cons_zero, List.getElem?_cons_succ, Go.IntWalk.iteOmega, Go.IntWalk.toNatUp, hK', t7, t8]
        refine IWp.cond ?_
        simp [go_sem, -getElem?_pos, -List.map_take, -List.map_drop, List.getElem?_cons_zero, List.getElem?_cons_succ, Go.IntWalk.iteOmega, Go.IntWalk.toNatUp, hK', t7, t8]
        refine IWp.trim [1, 10] (IWp.skip ?_)
        simp [go_sem, -getElem?_pos, -List.map_take, -List.map_drop, List.getElem?_cons_zero, List.getElem?_cons_succ, Go.IntWalk.iteOmega, Go.IntWalk.toNatUp, hK', t7, t8]
        refine IWp.seq ?_
        refine IWp.block ?_
        refine IWp.seq ?_
        refine IWp.run [1, 10, 134] ?_
        simp [go_sem, -getElem?_pos, -List.map_take, -List.map_drop, List.getElem?_cons_zero, List.getElem?_cons_succ, Go.IntWalk.iteOmega, Go.IntWalk.toNatUp, hK', t7, t8]
        refine IWp.cond ?_
        simp [go_sem, -getElem?_pos, -List.map_take, -List.map_drop, List.getElem?_cons_zero, List.getElem?_cons_succ, Go.IntWalk.iteOmega, Go.IntWalk.toNatUp, hK', t7, t8]
        refine IWp.seq ?_
        refine IWp.run [2, 3] ?_
        simp [go_sem, -getElem?_pos, -List.map_take, -List.map_drop, List.getElem?_cons_zero, List.getElem?_cons_succ, Go.IntWalk.iteOmega, Go.IntWalk.toNatUp, hK', t7, t8]
        refine IWp.ret ?_
        simp [go_sem, -getElem?_pos, -List.map_take, -List.map_drop, List.getElem?_cons_zero, List.getElem?_cons_succ, Go.IntWalk.iteOmega, Go.IntWalk.toNatUp, hK', t7, t8, Try.results40]
        try exact .same _
      · have hp2 := hp.next (by rw [hh]; exact inS_iff.2 (by omega))
        refine IWp.seq ?_
        refine IWp.seq ?_
        refine IWp.run [1, 10, 120] ?_
        simp [go_sem, -getElem?_pos, -List.map_take, -List.map_drop, List.getElem?_cons_zero, List.getElem?_cons_succ, Go.IntWalk.iteOmega, Go.IntWalk.toNatUp, hK', t7, t8, IntWalk.i64_in (2 + 1) (by omega), IntWalk.i64_in 3 (by omega)]
        refine IWp.cond ?_
        simp [go_sem, -getElem?_pos, -List.map_take, -List.map_drop, List.getElem?_cons_zero, List.getElem?_cons_succ, Go.IntWalk.iteOmega, Go.IntWalk.toNatUp, hK', t7, t8, IntWalk.i64_in (2 + 1) (by omega), IntWalk.i64_in 3 (by omega)]
        refine IWp.trim [1, 10] (IWp.skip ?_)
        simp [go_sem, -getElem?_pos, -List.map_take, -List.map_drop, List.getElem?_cons_zero, List.getElem?_cons_succ, Go.IntWalk.iteOmega, Go.IntWalk.toNatUp, hK', t7, t8, IntWalk.i64_in (2 + 1) (by omega), IntWalk.i64_in 3 (by omega)]
        refine IWp.seq ?_
        refine IWp.block ?_
        refine IWp.seq ?_
        refine IWp.run [1, 10, 134] ?_
        simp [go_sem, -getElem?_pos, -List.map_take, -List.map_drop, List.getElem?_cons_zero, List.getElem?_cons_succ, Go.IntWalk.iteOmega, Go.IntWalk.toNatUp, hK', t7, t8, IntWalk.i64_in (2 + 1) (by omega), IntWalk.i64_in 3 (by omega)]
        refine IWp.cond ?_
        simp [go_sem, -getElem?_pos, -List.map_take, -List.map_drop, List.getElem?_cons_zero, List.getElem?_cons_succ, Go.IntWalk.iteOmega, Go.IntWalk.toNatUp, hK', t7, t8, IntWalk.i64_in (2 + 1) (by omega), IntWalk.i64_in 3 (by omega)]
        refine IWp.trim [1, 10] (IWp.skip ?_)
        simp [go_sem, -getElem?_pos, -List.map_take, -List.map_drop, List.getElem?_cons_zero, List.getElem?_cons_succ, Go.IntWalk.iteOmega, Go.IntWalk.toNatUp, hK', t7, t8, IntWalk.i64_in (2 + 1) (by omega), IntWalk.i64_in 3 (by omega)]
        refine IWp.run [1, 10] ?_
        simp [go_sem, -getElem?_pos, -List.map_take, -List.map_drop, List.getElem?_cons_zero, List.getElem?_cons_succ, Go.IntWalk.iteOmega, Go.IntWalk.toNatUp, hK', t7, t8, IntWalk.i64_in (2 + 1) (by omega), IntWalk.i64_in 3 (by omega)]
        exact ⟨2 + 1, rfl, by omega, hCC.symm, by omega, hp2⟩
    subst hi4
    have a14 := a13.next hp
    refine IWp.seq ?_
    refine IWp.seq ?_
    refine IWp.run [1, 10, 120] ?_
    simp [go_sem, -getElem?_pos, -List.map_take, -List.map_drop, List.getElem?_cons_zero, List.getElem?_cons_succ, Go.IntWalk.iteOmega, Go.IntWalk.toNatUp, hK']
    refine IWp.cond ?_
    simp [go_sem, -getElem?_pos, -List.map_take, -List.map_drop, List.getElem?_cons_zero, List.getElem?_cons_succ, Go.IntWalk.iteOmega, Go.IntWalk.toNatUp, hK']
    refine IWp.trim [1] (IWp.exit ?_)
    simp [go_sem, -getElem?_pos, -List.map_take, -List.map_drop, List.getElem?_cons_zero, List.getElem?_cons_succ, Go.IntWalk.iteOmega, Go.IntWalk.toNatUp, hK']
    exact ⟨hCC.symm, a14⟩
  clear hK hK'
  rintro e K ⟨rfl, hK, a14⟩
  have hK' := hK
  rw [hCC] at hK'
  -- 15
  have bad14 : holdsS c 14 0 = false → F = (15, 0) := fun hb => by rw [hF, a14.bad (by omega) (show 0 < 1 by omega) .zero hb]; rfl
  have hh14 : holdsS c 14 0 = (inS c.drain 1 64 && decide ((entriesS c.table : Int) < c.drain * c.table.length)) := rfl
  by_cases t9 : c.drain < 1
  · rw [bad14 (by rw [hh14, inS_not.2 (by omega)]; rfl)]
    refine IWp.seq ?_
    refine IWp.seq ?_
    refine IWp.draw [1, 154] [b] (.val 0 (.ld 1 [2, 3, 4, 5, 6, 7, 8, 9, 10, 11, 12, 13, 14, 15, 16, 17, 18] (.val 2 (.val 3 (.val 4 (.ld 5 [6, 7, 8, 9, 10, 11, 12, 13, 14, 15, 16, 17, 18] (.val 6 (.val 7 (.val 8 (.ld 15 [16, 17, 18] (.val 9 (.val 11 (.val 10 (.val 12 (.val 13 (.val 14 (.eff 16 (.val 17 (.val 18 .done)) .done))))))))))))))))) follows (by kernel_rfl) ?_
    simp [go_sem, -getElem?_pos, -List.map_take, -List.map_drop, List.getElem?_cons_zero, List.getElem?_cons_succ, Go.IntWalk.iteOmega, Go.IntWalk.toNatUp, hK', t9]
    refine IWp.cond ?_
    simp [go_sem, -getElem?_pos, -List.map_take, -List.map_drop, List.getElem?_cons_zero, List.getElem?_cons_succ, Go.IntWalk.iteOmega, Go.IntWalk.toNatUp, hK', t9]
    refine IWp.seq ?_
    refine IWp.run [2, 3] ?_
    simp [go_sem, -getElem?_pos, -List.map_take, -List.map_drop, List.getElem?_cons_zero, List.getElem?_cons_succ, Go.IntWalk.iteOmega, Go.IntWalk.toNatUp, hK', t9]
    refine IWp.ret ?_
    simp [go_sem, -getElem?_pos, -List.map_take, -List.map_drop, List.getElem?_cons_zero, List.getElem?_cons_succ, Go.IntWalk.iteOmega, Go.IntWalk.toNatUp, hK', t9, Try.results40]
    try exact .same _
  by_cases t10 : 64 < c.drain
  · rw [bad14 (by rw [hh14, inS_not.2 (by omega)]; rfl)]
    refine IWp.seq ?_
    refine IWp.seq ?_
    refine IWp.draw [1, 154] [b] (.val 0 (.ld 1 [2, 3, 4, 5, 6, 7, 8, 9, 10, 11, 12, 13, 14, 15, 16, 17, 18] (.val 2 (.val 3 (.val 4 (.ld 5 [6, 7, 8, 9, 10, 11, 12, 13, 14, 15, 16, 17, 18] (.val 6 (.val 7 (.val 8 (.ld 15 [16, 17, 18] (.val 9 (.val 11 (.val 10 (.val 12 (.val 13 (.val 14 (.eff 16 (.val 17 (.val 18 .done)) .done))))))))))))))))) follows (by kernel_rfl) ?_
    simp [go_sem, -getElem?_pos, -List.map_take, -List.map_drop, List.getElem?_cons_zero, List.getElem?_cons_succ, Go.IntWalk.iteOmega, Go.IntWalk.toNatUp, hK', t9, t10]
    refine IWp.cond ?_
    simp [go_sem, -getElem?_pos, -List.map_take, -List.map_drop, List.getElem?_cons_zero, List.getElem?_cons_succ, Go.IntWalk.iteOmega, Go.IntWalk.toNatUp, hK', t9, t10]
    refine IWp.seq ?_
    refine IWp.run [2, 3] ?_
    simp [go_sem, -getElem?_pos, -List.map_take, -List.map_drop, List.getElem?_cons_zero, List.getElem?_cons_succ, Go.IntWalk.iteOmega, Go.IntWalk.toNatUp, hK', t9, t10]
    refine IWp.ret ?_
    simp [go_sem, -getElem?_pos, -List.map_take, -List.map_drop, List.getElem?_cons_zero, List.getElem?_cons_succ, Go.IntWalk.iteOmega, Go.IntWalk.toNatUp, hK', t9, t10, Try.results40]
    try exact .same _
  have hm := mul_in (show 1 ≤ c.drain ∧ c.drain ≤ 64 by omega) (show 0 ≤ (c.table.length : Int) ∧ (c.table.length : Int) ≤ 1000 by omega)
  have wm := IntWalk.i64_in (c.drain * (c.table.length : Int)) (by omega)
  have c1 := fun K => refEntries K c (by omega) hS.ent
  simp only [Config.val, Config.cells] at c1
  rw [inS_iff.2 (by omega), Bool.true_and] at hh14
  by_cases t11 : c.drain * (c.table.length : Int) ≤ (entriesS c.table : Int)
  · rw [bad14 (by rw [hh14]; simp; omega)]
    refine IWp.seq ?_
    refine IWp.seq ?_
    refine IWp.draw [1, 154] [b] (.val 0 (.ld 1 [2, 3, 4, 5, 6, 7, 8, 9, 10, 11, 12, 13, 14, 15, 16, 17, 18] (.val 2 (.val 3 (.val 4 (.ld 5 [6, 7, 8, 9, 10, 11, 12, 13, 14, 15, 16, 17, 18] (.val 6 (.val 7 (.val 8 (.ld 15 [16, 17, 18] (.val 9 (.val 11 (.val 10 (.val 12 (.val 13 (.val 14 (.eff 16 (.val 17 (.val 18 .done)) .done))))))))))))))))) follows (by kernel_rfl) ?_
    simp [go_sem, -getElem?_pos, -List.map_take, -List.map_drop, List.getElem?_cons_zero, List.getElem?_cons_succ, Go.IntWalk.iteOmega, Go.IntWalk.toNatUp, hK', t9, t10, wm, t11]
    refine ICalls.then (c1 _) ?_
    try simp [go_sem, -getElem?_pos, -List.map_take, -List.map_drop, List.getElem?_cons_zero, List.getElem?_cons_succ, Go.IntWalk.iteOmega, Go.IntWalk.toNatUp, hK', t9, t10, wm, t11]
    refine IWp.cond ?_
    simp [go_sem, -getElem?_pos, -List.map_take, -List.map_drop, List.getElem?_cons_zero, List.getElem?_cons_succ, Go.IntWalk.iteOmega, Go.IntWalk.toNatUp, hK', t9, t10, wm, t11]
    refine IWp.seq ?_
    refine IWp.run [2, 3] ?_
    simp [go_sem, -getElem?_pos, -List.map_take, -List.map_drop, List.getElem?_cons_zero, List.getElem?_cons_succ, Go.IntWalk.iteOmega, Go.IntWalk.toNatUp, hK', t9, t10, wm, t11]
    refine IWp.ret ?_
    simp [go_sem, -getElem?_pos, -List.map_take, -List.map_drop, List.getElem?_cons_zero, List.getElem?_cons_succ, Go.IntWalk.iteOmega, Go.IntWalk.toNatUp, hK', t9, t10, wm, t11, Try.results40]
    try exact .same _
  have a15 := a14.one rfl (by rw [hh14]; simp; omega)
  refine IWp.seq ?_
  refine IWp.seq ?_
  refine IWp.draw [1, 154] [b] (.val 0 (.ld 1 [2, 3, 4, 5, 6, 7, 8, 9, 10, 11, 12, 13, 14, 15, 16, 17, 18] (.val 2 (.val 3 (.val 4 (.ld 5 [6, 7, 8, 9, 10, 11, 12, 13, 14, 15, 16, 17, 18] (.val 6 (.val 7 (.val 8 (.ld 15 [16, 17, 18] (.val 9 (.val 11 (.val 10 (.val 12 (.val 13 (.val 14 (.eff 16 (.val 17 (.val 18 .done)) .done))))))))))))))))) follows (by kernel_rfl) ?_
  simp [go_sem, -getElem?_pos, -List.map_take, -List.map_drop, List.getElem?_cons_zero, List.getElem?_cons_succ, Go.IntWalk.iteOmega, Go.IntWalk.toNatUp, hK', t9, t10, wm, t11]
  refine ICalls.then (c1 _) ?_
  try simp [go_sem, -getElem?_pos, -List.map_take, -List.map_drop, List.getElem?_cons_zero, List.getElem?_cons_succ, Go.IntWalk.iteOmega, Go.IntWalk.toNatUp, hK', t9, t10, wm, t11]
  refine IWp.cond ?_
  simp [go_sem, -getElem?_pos, -List.map_take, -List.map_drop, List.getElem?_cons_zero, List.getElem?_cons_succ, Go.IntWalk.iteOmega, Go.IntWalk.toNatUp, hK', t9, t10, wm, t11]
  refine IWp.trim [1] (IWp.skip ?_)
  simp [go_sem, -getElem?_pos, -List.map_take, -List.map_drop, List.getElem?_cons_zero, List.getElem?_cons_succ, Go.IntWalk.iteOmega, Go.IntWalk.toNatUp, hK', t9, t10, wm, t11]
  refine IWp.seq ?_
  refine IWp.seq ?_
  -- 16
  have bad15 : holdsS c 15 0 = false → F = (16, 0) := fun hb => by rw [hF, a15.bad (by omega) (show 0 < 1 by omega) .zero hb]; rfl
  have hh15 : holdsS c 15 0 = (inS c.pause 1 100000 && inS c.off 1 100000) := rfl
  by_cases t12 : c.pause < 1
  · rw [bad15 (by rw [hh15, inS_not.2 (show ¬ (1 ≤ c.pause ∧ c.pause ≤ 100000) by omega)]; rfl)]
    refine IWp.run [1, 172] ?_
    simp [go_sem, -getElem?_pos, -List.map_take, -List.map_drop, List.getElem?_cons_zero, List.getElem?_cons_succ, Go.IntWalk.iteOmega, Go.IntWalk.toNatUp, hK', t12]
    refine IWp.cond ?_
    simp [go_sem, -getElem?_pos, -List.map_take, -List.map_drop, List.getElem?_cons_zero, List.getElem?_cons_succ, Go.IntWalk.iteOmega, Go.IntWalk.toNatUp, hK', t12]
    refine IWp.seq ?_
    refine IWp.run [2, 3] ?_
    simp [go_sem, -getElem?_pos, -List.map_take, -List.map_drop, List.getElem?_cons_zero, List.getElem?_cons_succ, Go.IntWalk.iteOmega, Go.IntWalk.toNatUp, hK', t12]
    refine IWp.ret ?_
    simp [go_sem, -getElem?_pos, -List.map_take, -List.map_drop, List.getElem?_cons_zero, List.getElem?_cons_succ, Go.IntWalk.iteOmega, Go.IntWalk.toNatUp, hK', t12, Try.results40]
    try exact .same _
  by_cases t13 : 100000 < c.pause
  · rw [bad15 (by rw [hh15, inS_not.2 (show ¬ (1 ≤ c.pause ∧ c.pause ≤ 100000) by omega)]; rfl)]
    refine IWp.run [1, 172] ?_
    simp [go_sem, -getElem?_pos, -List.map_take, -List.map_drop, List.getElem?_cons_zero, List.getElem?_cons_succ, Go.IntWalk.iteOmega, Go.IntWalk.toNatUp, hK', t12, t13]
    refine IWp.cond ?_
    simp [go_sem, -getElem?_pos, -List.map_take, -List.map_drop, List.getElem?_cons_zero, List.getElem?_cons_succ, Go.IntWalk.iteOmega, Go.IntWalk.toNatUp, hK', t12, t13]
    refine IWp.seq ?_
    refine IWp.run [2, 3] ?_
    simp [go_sem, -getElem?_pos, -List.map_take, -List.map_drop, List.getElem?_cons_zero, List.getElem?_cons_succ, Go.IntWalk.iteOmega, Go.IntWalk.toNatUp, hK', t12, t13]
    refine IWp.ret ?_
    simp [go_sem, -getElem?_pos, -List.map_take, -List.map_drop, List.getElem?_cons_zero, List.getElem?_cons_succ, Go.IntWalk.iteOmega, Go.IntWalk.toNatUp, hK', t12, t13, Try.results40]
    try exact .same _
  rw [inS_iff.2 (show 1 ≤ c.pause ∧ c.pause ≤ 100000 by omega), Bool.true_and] at hh15
  by_cases t14 : c.off < 1
  · rw [bad15 (by rw [hh15, inS_not.2 (by omega)])]
    refine IWp.run [1, 172] ?_
    simp [go_sem, -getElem?_pos, -List.map_take, -List.map_drop, List.getElem?_cons_zero, List.getElem?_cons_succ, Go.IntWalk.iteOmega, Go.IntWalk.toNatUp, hK', t12, t13, t14]
    refine IWp.cond ?_
    simp [go_sem, -getElem?_pos, -List.map_take, -List.map_drop, List.getElem?_cons_zero, List.getElem?_cons_succ, Go.IntWalk.iteOmega, Go.IntWalk.toNatUp, hK', t12, t13, t14]
    refine IWp.seq ?_
    refine IWp.run [2, 3] ?_
    simp [go_sem, -getElem?_pos, -List.map_take, -List.map_drop, List.getElem?_cons_zero, List.getElem?_cons_succ, Go.IntWalk.iteOmega, Go.IntWalk.toNatUp, hK', t12, t13, t14]
    refine IWp.ret ?_
    simp [go_sem, -getElem?_pos, -List.map_take, -List.map_drop, List.getElem?_cons_zero, List.getElem?_cons_succ, Go.IntWalk.iteOmega, Go.IntWalk.toNatUp, hK', t12, t13, t14, Try.results40]
    try exact .same _
  by_cases t15 : 100000 < c.off
  · rw [bad15 (by rw [hh15, inS_not.2 (by omega)])]
    refine IWp.run [1, 172] ?_
    simp [go_sem, -getElem?_pos, -List.map_take, -List.map_drop, List.getElem?_cons_zero, List.getElem?_cons_succ, Go.IntWalk.iteOmega, Go.IntWalk.toNatUp, hK', t12, t13, t14, t15]
    refine IWp.cond ?_
    simp [go_sem, -getElem?_pos, -List.map_take, -List.map_drop, List.getElem?_cons_zero, List.getElem?_cons_succ, Go.IntWalk.iteOmega, Go.IntWalk.toNatUp, hK', t12, t13, t14, t15]
    refine IWp.seq ?_
    refine IWp.run [2, 3] ?_
    simp [go_sem, -getElem?_pos, -List.map_take, -List.map_drop, List.getElem?_cons_zero, List.getElem?_cons_succ, Go.IntWalk.iteOmega, Go.IntWalk.toNatUp, hK', t12, t13, t14, t15]
    refine IWp.ret ?_
    simp [go_sem, -getElem?_pos, -List.map_take, -List.map_drop, List.getElem?_cons_zero, List.getElem?_cons_succ, Go.IntWalk.iteOmega, Go.IntWalk.toNatUp, hK', t12, t13, t14, t15, Try.results40]
    try exact .same _
  have a16 := a15.one rfl (by rw [hh15, inS_iff.2 (by omega)])
  refine IWp.run [1, 172] ?_
  simp [go_sem, -getElem?_pos, -List.map_take, -List.map_drop, List.getElem?_cons_zero, List.getElem?_cons_succ, Go.IntWalk.iteOmega, Go.IntWalk.toNatUp, hK', t12, t13, t14, t15]
  refine IWp.cond ?_
  simp [go_sem, -getElem?_pos, -List.map_take, -List.map_drop, List.getElem?_cons_zero, List.getElem?_cons_succ, Go.IntWalk.iteOmega, Go.IntWalk.toNatUp, hK', t12, t13, t14, t15]
  refine IWp.trim [1] (IWp.skip ?_)
  simp [go_sem, -getElem?_pos, -List.map_take, -List.map_drop, List.getElem?_cons_zero, List.getElem?_cons_succ, Go.IntWalk.iteOmega, Go.IntWalk.toNatUp, hK', t12, t13, t14, t15]
  refine IWp.seq ?_
  refine IWp.seq ?_
  -- 17
  have bad16 : holdsS c 16 0 = false → F = (17, 0) := fun hb => by rw [hF, a16.bad (by omega) (show 0 < 1 by omega) .zero hb]; rfl
  have hh16 : holdsS c 16 0 = inS c.log 1 256 := rfl
  by_cases t16 : c.log < 1
  · rw [bad16 (by rw [hh16, inS_not.2 (by omega)])]
    refine IWp.run [180] ?_
    simp [go_sem, -getElem?_pos, -List.map_take, -List.map_drop, List.getElem?_cons_zero, List.getElem?_cons_succ, Go.IntWalk.iteOmega, Go.IntWalk.toNatUp, hK', t16]
    refine IWp.cond ?_
    simp [go_sem, -getElem?_pos, -List.map_take, -List.map_drop, List.getElem?_cons_zero, List.getElem?_cons_succ, Go.IntWalk.iteOmega, Go.IntWalk.toNatUp, hK', t16]
    refine IWp.seq ?_
    refine IWp.run [2, 3] ?_
    simp [go_sem, -getElem?_pos, -List.map_take, -List.map_drop, List.getElem?_cons_zero, List.getElem?_cons_succ, Go.IntWalk.iteOmega, Go.IntWalk.toNatUp, hK', t16]
    refine IWp.ret ?_
    simp [go_sem, -getElem?_pos, -List.map_take, -List.map_drop, List.getElem?_cons_zero, List.getElem?_cons_succ, Go.IntWalk.iteOmega, Go.IntWalk.toNatUp, hK', t16, Try.results40]
    try exact .same _
  by_cases t17 : 256 < c.log
  · rw [bad16 (by rw [hh16, inS_not.2 (by omega)])]
    refine IWp.run [180] ?_
    simp [go_sem, -getElem?_pos, -List.map_take, -List.map_drop, List.getElem?_cons_zero, List.getElem?_cons_succ, Go.IntWalk.iteOmega, Go.IntWalk.toNatUp, hK', t16, t17]
    refine IWp.cond ?_
    simp [go_sem, -getElem?_pos, -List.map_take, -List.map_drop, List.getElem?_cons_zero, List.getElem?_cons_succ, Go.IntWalk.iteOmega, Go.IntWalk.toNatUp, hK', t16, t17]
    refine IWp.seq ?_
    refine IWp.run [2, 3] ?_
    simp [go_sem, -getElem?_pos, -List.map_take, -List.map_drop, List.getElem?_cons_zero, List.getElem?_cons_succ, Go.IntWalk.iteOmega, Go.IntWalk.toNatUp, hK', t16, t17]
    refine IWp.ret ?_
    simp [go_sem, -getElem?_pos, -List.map_take, -List.map_drop, List.getElem?_cons_zero, List.getElem?_cons_succ, Go.IntWalk.iteOmega, Go.IntWalk.toNatUp, hK', t16, t17, Try.results40]
    try exact .same _
  have a17 := a16.one rfl (by rw [hh16, inS_iff.2 (by omega)])
  rw [show F = (0, 0) by rw [hF, a17.all]]
  refine IWp.run [180] ?_
  simp [go_sem, -getElem?_pos, -List.map_take, -List.map_drop, List.getElem?_cons_zero, List.getElem?_cons_succ, Go.IntWalk.iteOmega, Go.IntWalk.toNatUp, hK', t16, t17]
  refine IWp.cond ?_
  simp [go_sem, -getElem?_pos, -List.map_take, -List.map_drop, List.getElem?_cons_zero, List.getElem?_cons_succ, Go.IntWalk.iteOmega, Go.IntWalk.toNatUp, hK', t16, t17]
  refine IWp.trim [] (IWp.skip ?_)
  simp [go_sem, -getElem?_pos, -List.map_take, -List.map_drop, List.getElem?_cons_zero, List.getElem?_cons_succ, Go.IntWalk.iteOmega, Go.IntWalk.toNatUp, hK', t16, t17]
  refine IWp.seq ?_
  refine IWp.run [2, 3] ?_
  simp [go_sem, -getElem?_pos, -List.map_take, -List.map_drop, List.getElem?_cons_zero, List.getElem?_cons_succ, Go.IntWalk.iteOmega, Go.IntWalk.toNatUp, hK', t16, t17]
  refine IWp.ret ?_
  simp [go_sem, -getElem?_pos, -List.map_take, -List.map_drop, List.getElem?_cons_zero, List.getElem?_cons_succ, Go.IntWalk.iteOmega, Go.IntWalk.toNatUp, hK', t16, t17, Try.results40]
  try exact .same _

end Go.Proofs.Ytmiinclnpcokkaa.I
