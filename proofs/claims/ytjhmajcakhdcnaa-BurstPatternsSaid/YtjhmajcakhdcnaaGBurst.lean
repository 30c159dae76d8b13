/- Bursts: patterns, periods, pulses, sounds; the document's. No condition. -/
import Derived.Test.YtjhmajcakhdcnaaITab
import Derived.Test.YtjhmajcakhdcnaaIRow
import Derived.Test.YtjhmajcakhdcnaaILaw
import Derived.Laws.Externs
namespace Go.Proofs.Ytjhmajcakhdcnaa.I
open Go Go.RowKit
set_option linter.unusedVariables false
set_option linter.unusedSimpArgs false

def pat3 : ByteArray := ⟨#[49, 48, 49, 48, 49, 48, 48, 49, 48, 49, 48, 48, 48, 48, 48, 48, 49, 48, 49, 48, 49, 48, 48, 49, 48, 49, 48, 48, 48, 48, 48, 48]⟩
def pat2 : ByteArray := ⟨#[49, 48, 48, 49, 48, 48, 49, 48, 48, 48, 48, 48, 48, 48, 48, 48, 48, 48, 48, 48, 48, 48, 48, 48]⟩
def pat1 : ByteArray := ⟨#[49, 48, 48, 48, 49, 48, 48, 48, 48, 48, 48, 48, 48, 48, 48, 48, 48, 48, 48, 48, 48, 48, 48, 48, 48, 48, 48, 48, 48, 48, 48, 48, 48, 48, 48, 48, 48, 48, 48, 48]⟩
def patS (p : Int) : ByteArray := if p = 3 then pat3 else if p = 2 then pat2 else if p = 1 then pat1 else ⟨#[]⟩
def perS (p : Int) : Int := if p = 3 then 32 else if p = 2 then 24 else if p = 1 then 40 else 0
theorem patS_size (p : Int) : ((patS p).size : Int) = perS p := by
  unfold patS perS
  split
  · rfl
  split
  · rfl
  split <;> rfl
theorem perS_in (p : Int) : 0 ≤ perS p ∧ perS p ≤ 40 := by unfold perS; split <;> (try split) <;> (try split) <;> omega

theorem pattern (H : Heap) (p : Int) : ICalls Try.prog 29 [.int .u8 p] H fun v H' => v = .string (patS p) ∧ H' = H := by
  refine ICalls.ans (by simp [go_sem]) fun H => IBody.calls (by kernel_rfl) ?_
  unfold patS
  by_cases h3 : p = 3
  · rw [if_pos h3]
    subst h3
    refine IBody.of Try.func29 rfl (by rw [Try.ntmps29]; simp) ?_
    rw [Try.ntmps29]
    refine IWp.seq ?_
    refine IWp.run [0] ?_
    simp [go_sem, -getElem?_pos, -List.map_take, -List.map_drop, List.getElem?_cons_zero, List.getElem?_cons_succ, Go.IntWalk.iteOmega, Go.IntWalk.toNatUp]
    refine IWp.seq ?_
    refine IWp.seq ?_
    refine IWp.run [3] ?_
    simp [go_sem, -getElem?_pos, -List.map_take, -List.map_drop, List.getElem?_cons_zero, List.getElem?_cons_succ, Go.IntWalk.iteOmega, Go.IntWalk.toNatUp]
    refine IWp.block ?_
    refine IWp.seq ?_
    refine IWp.run [3, 4] ?_
    simp [go_sem, -getElem?_pos, -List.map_take, -List.map_drop, List.getElem?_cons_zero, List.getElem?_cons_succ, Go.IntWalk.iteOmega, Go.IntWalk.toNatUp]
    refine IWp.cond ?_
    simp [go_sem, -getElem?_pos, -List.map_take, -List.map_drop, List.getElem?_cons_zero, List.getElem?_cons_succ, Go.IntWalk.iteOmega, Go.IntWalk.toNatUp]
    refine IWp.seq ?_
    refine IWp.run [2] ?_
    simp [go_sem, -getElem?_pos, -List.map_take, -List.map_drop, List.getElem?_cons_zero, List.getElem?_cons_succ, Go.IntWalk.iteOmega, Go.IntWalk.toNatUp]
    refine IWp.ret ?_
    simp [go_sem, -getElem?_pos, -List.map_take, -List.map_drop, List.getElem?_cons_zero, List.getElem?_cons_succ, Go.IntWalk.iteOmega, Go.IntWalk.toNatUp, Try.results29]
    try exact .same _
  by_cases h2 : p = 2
  · rw [if_neg h3, if_pos h2]
    subst h2
    refine IBody.of Try.func29 rfl (by rw [Try.ntmps29]; simp) ?_
    rw [Try.ntmps29]
    refine IWp.seq ?_
    refine IWp.run [0] ?_
    simp [go_sem, -getElem?_pos, -List.map_take, -List.map_drop, List.getElem?_cons_zero, List.getElem?_cons_succ, Go.IntWalk.iteOmega, Go.IntWalk.toNatUp]
    refine IWp.seq ?_
    refine IWp.seq ?_
    refine IWp.run [3] ?_
    simp [go_sem, -getElem?_pos, -List.map_take, -List.map_drop, List.getElem?_cons_zero, List.getElem?_cons_succ, Go.IntWalk.iteOmega, Go.IntWalk.toNatUp]
    refine IWp.block ?_
    refine IWp.seq ?_
    refine IWp.run [3, 4] ?_
    simp [go_sem, -getElem?_pos, -List.map_take, -List.map_drop, List.getElem?_cons_zero, List.getElem?_cons_succ, Go.IntWalk.iteOmega, Go.IntWalk.toNatUp]
    refine IWp.cond ?_
    simp [go_sem, -getElem?_pos, -List.map_take, -List.map_drop, List.getElem?_cons_zero, List.getElem?_cons_succ, Go.IntWalk.iteOmega, Go.IntWalk.toNatUp]
    refine IWp.seq ?_
    refine IWp.run [3, 6] ?_
    simp [go_sem, -getElem?_pos, -List.map_take, -List.map_drop, List.getElem?_cons_zero, List.getElem?_cons_succ, Go.IntWalk.iteOmega, Go.IntWalk.toNatUp]
    refine IWp.cond ?_
    simp [go_sem, -getElem?_pos, -List.map_take, -List.map_drop, List.getElem?_cons_zero, List.getElem?_cons_succ, Go.IntWalk.iteOmega, Go.IntWalk.toNatUp]
    refine IWp.seq ?_
    refine IWp.run [2] ?_
    simp [go_sem, -getElem?_pos, -List.map_take, -List.map_drop, List.getElem?_cons_zero, List.getElem?_cons_succ, Go.IntWalk.iteOmega, Go.IntWalk.toNatUp]
    refine IWp.ret ?_
    simp [go_sem, -getElem?_pos, -List.map_take, -List.map_drop, List.getElem?_cons_zero, List.getElem?_cons_succ, Go.IntWalk.iteOmega, Go.IntWalk.toNatUp, Try.results29]
    try exact .same _
  by_cases h1 : p = 1
  · rw [if_neg h3, if_neg h2, if_pos h1]
    subst h1
    refine IBody.of Try.func29 rfl (by rw [Try.ntmps29]; simp) ?_
    rw [Try.ntmps29]
    refine IWp.seq ?_
    refine IWp.run [0] ?_
    simp [go_sem, -getElem?_pos, -List.map_take, -List.map_drop, List.getElem?_cons_zero, List.getElem?_cons_succ, Go.IntWalk.iteOmega, Go.IntWalk.toNatUp]
    refine IWp.seq ?_
    refine IWp.seq ?_
    refine IWp.run [3] ?_
    simp [go_sem, -getElem?_pos, -List.map_take, -List.map_drop, List.getElem?_cons_zero, List.getElem?_cons_succ, Go.IntWalk.iteOmega, Go.IntWalk.toNatUp]
    refine IWp.block ?_
    refine IWp.seq ?_
    refine IWp.run [3, 4] ?_
    simp [go_sem, -getElem?_pos, -List.map_take, -List.map_drop, List.getElem?_cons_zero, List.getElem?_cons_succ, Go.IntWalk.iteOmega, Go.IntWalk.toNatUp]
    refine IWp.cond ?_
    simp [go_sem, -getElem?_pos, -List.map_take, -List.map_drop, List.getElem?_cons_zero, List.getElem?_cons_succ, Go.IntWalk.iteOmega, Go.IntWalk.toNatUp]
    refine IWp.seq ?_
    refine IWp.run [3, 6] ?_
    simp [go_sem, -getElem?_pos, -List.map_take, -List.map_drop, List.getElem?_cons_zero, List.getElem?_cons_succ, Go.IntWalk.iteOmega, Go.IntWalk.toNatUp]
    refine IWp.cond ?_
    simp [go_sem, -getElem?_pos, -List.map_take, -List.map_drop, List.getElem?_cons_zero, List.getElem?_cons_succ, Go.IntWalk.iteOmega, Go.IntWalk.toNatUp]
    refine IWp.seq ?_
    refine IWp.run [8] ?_
    simp [go_sem, -getElem?_pos, -List.map_take, -List.map_drop, List.getElem?_cons_zero, List.getElem?_cons_succ, Go.IntWalk.iteOmega, Go.IntWalk.toNatUp]
    refine IWp.cond ?_
    simp [go_sem, -getElem?_pos, -List.map_take, -List.map_drop, List.getElem?_cons_zero, List.getElem?_cons_succ, Go.IntWalk.iteOmega, Go.IntWalk.toNatUp]
    refine IWp.seq ?_
    refine IWp.run [2] ?_
    simp [go_sem, -getElem?_pos, -List.map_take, -List.map_drop, List.getElem?_cons_zero, List.getElem?_cons_succ, Go.IntWalk.iteOmega, Go.IntWalk.toNatUp]
    refine IWp.ret ?_
    simp [go_sem, -getElem?_pos, -List.map_take, -List.map_drop, List.getElem?_cons_zero, List.getElem?_cons_succ, Go.IntWalk.iteOmega, Go.IntWalk.toNatUp, Try.results29]
    try exact .same _
  · rw [if_neg h3, if_neg h2, if_neg h1]
    refine IBody.of Try.func29 rfl (by rw [Try.ntmps29]; simp) ?_
    rw [Try.ntmps29]
    refine IWp.seq ?_
    refine IWp.run [0] ?_
    simp [go_sem, -getElem?_pos, -List.map_take, -List.map_drop, List.getElem?_cons_zero, List.getElem?_cons_succ, Go.IntWalk.iteOmega, Go.IntWalk.toNatUp, h1, h2, h3]
    refine IWp.seq ?_
    refine IWp.seq ?_
    refine IWp.run [3] ?_
    simp [go_sem, -getElem?_pos, -List.map_take, -List.map_drop, List.getElem?_cons_zero, List.getElem?_cons_succ, Go.IntWalk.iteOmega, Go.IntWalk.toNatUp, h1, h2, h3]
    refine IWp.block ?_
    refine IWp.seq ?_
    refine IWp.run [3, 4] ?_
    simp [go_sem, -getElem?_pos, -List.map_take, -List.map_drop, List.getElem?_cons_zero, List.getElem?_cons_succ, Go.IntWalk.iteOmega, Go.IntWalk.toNatUp, h1, h2, h3]
    refine IWp.cond ?_
    simp [go_sem, -getElem?_pos, -List.map_take, -List.map_drop, List.getElem?_cons_zero, List.getElem?_cons_succ, Go.IntWalk.iteOmega, Go.IntWalk.toNatUp, h1, h2, h3]
    refine IWp.seq ?_
    refine IWp.run [3, 6] ?_
    simp [go_sem, -getElem?_pos, -List.map_take, -List.map_drop, List.getElem?_cons_zero, List.getElem?_cons_succ, Go.IntWalk.iteOmega, Go.IntWalk.toNatUp, h1, h2, h3]
    refine IWp.cond ?_
    simp [go_sem, -getElem?_pos, -List.map_take, -List.map_drop, List.getElem?_cons_zero, List.getElem?_cons_succ, Go.IntWalk.iteOmega, Go.IntWalk.toNatUp, h1, h2, h3]
    refine IWp.seq ?_
    refine IWp.run [8] ?_
    simp [go_sem, -getElem?_pos, -List.map_take, -List.map_drop, List.getElem?_cons_zero, List.getElem?_cons_succ, Go.IntWalk.iteOmega, Go.IntWalk.toNatUp, h1, h2, h3]
    refine IWp.cond ?_
    simp [go_sem, -getElem?_pos, -List.map_take, -List.map_drop, List.getElem?_cons_zero, List.getElem?_cons_succ, Go.IntWalk.iteOmega, Go.IntWalk.toNatUp, h1, h2, h3]
    refine IWp.trim [] (IWp.skip ?_)
    simp [go_sem, -getElem?_pos, -List.map_take, -List.map_drop, List.getElem?_cons_zero, List.getElem?_cons_succ, Go.IntWalk.iteOmega, Go.IntWalk.toNatUp, h1, h2, h3]
    refine IWp.seq ?_
    refine IWp.run [2] ?_
    simp [go_sem, -getElem?_pos, -List.map_take, -List.map_drop, List.getElem?_cons_zero, List.getElem?_cons_succ, Go.IntWalk.iteOmega, Go.IntWalk.toNatUp, h1, h2, h3]
    refine IWp.ret ?_
    simp [go_sem, -getElem?_pos, -List.map_take, -List.map_drop, List.getElem?_cons_zero, List.getElem?_cons_succ, Go.IntWalk.iteOmega, Go.IntWalk.toNatUp, h1, h2, h3, Try.results29]
    try exact .same _
theorem period (H : Heap) (p : Int) : ICalls Try.prog 15 [.int .u8 p] H fun v H' => v = .int .i64 (perS p) ∧ H' = H := by
  refine ICalls.ans (by simp [go_sem]) fun H => IBody.calls (by kernel_rfl) ?_
  have w := IntWalk.i64_in (perS p) (by have := perS_in p; omega)
  refine IBody.of Try.func15 rfl (by rw [Try.ntmps15]; simp) ?_
  rw [Try.ntmps15]
  refine IWp.seq ?_
  refine IWp.run [0] ?_
  simp [go_sem, -getElem?_pos, -List.map_take, -List.map_drop, List.getElem?_cons_zero, List.getElem?_cons_succ, Go.IntWalk.iteOmega, Go.IntWalk.toNatUp, patS_size, w]
  refine IWp.seq ?_
  refine IWp.run [2] ?_
  simp [go_sem, -getElem?_pos, -List.map_take, -List.map_drop, List.getElem?_cons_zero, List.getElem?_cons_succ, Go.IntWalk.iteOmega, Go.IntWalk.toNatUp, patS_size, w]
  refine ICalls.then (pattern _ p) ?_
  try simp [go_sem, -getElem?_pos, -List.map_take, -List.map_drop, List.getElem?_cons_zero, List.getElem?_cons_succ, Go.IntWalk.iteOmega, Go.IntWalk.toNatUp, patS_size, w]
  refine IWp.ret ?_
  simp [go_sem, -getElem?_pos, -List.map_take, -List.map_drop, List.getElem?_cons_zero, List.getElem?_cons_succ, Go.IntWalk.iteOmega, Go.IntWalk.toNatUp, patS_size, w, Try.results15]
  try exact .same _

/-- The byte at a place of a text. -/
def byteS (s : ByteArray) (i : Nat) : Int := match s.data.toList[i]? with | some b => (b.toNat : Int) | none => 0
theorem byteS_get (s : ByteArray) (i : Nat) (h : i < s.size) : ∃ x : UInt8, s.data[i]? = some x ∧ byteS s i = (x.toNat : Int) := by
  have h2 : i < s.data.size := h
  refine ⟨s.data[i], by rw [Array.getElem?_eq_getElem h2], ?_⟩
  unfold byteS
  rw [Array.getElem?_toList, Array.getElem?_eq_getElem h2]
def soundS (p ph : Int) : Bool := decide (0 < perS p) && (decide (0 ≤ ph) && decide (byteS (patS p) (ph % perS p).toNat = 49))
theorem sound (H : Heap) (p ph : Int) : ICalls Try.prog 13 [.int .u8 p, .int .i64 ph] H fun v H' => v = .bool (soundS p ph) ∧ H' = H := by
  refine ICalls.ans (by simp [go_sem]) fun H => IBody.calls (by kernel_rfl) ?_
  have hp := perS_in p
  unfold soundS
  by_cases h1 : 0 < perS p
  case neg =>
    refine IBody.of Try.func13 rfl (by rw [Try.ntmps13]; simp) ?_
    rw [Try.ntmps13]
    refine IWp.seq ?_
    refine IWp.run [0, 1] ?_
    simp [go_sem, -getElem?_pos, -List.map_take, -List.map_drop, List.getElem?_cons_zero, List.getElem?_cons_succ, Go.IntWalk.iteOmega, Go.IntWalk.toNatUp, h1]
    refine IWp.seq ?_
    refine IWp.run [0, 1, 5] ?_
    simp [go_sem, -getElem?_pos, -List.map_take, -List.map_drop, List.getElem?_cons_zero, List.getElem?_cons_succ, Go.IntWalk.iteOmega, Go.IntWalk.toNatUp, h1]
    refine ICalls.then (period _ p) ?_
    try simp [go_sem, -getElem?_pos, -List.map_take, -List.map_drop, List.getElem?_cons_zero, List.getElem?_cons_succ, Go.IntWalk.iteOmega, Go.IntWalk.toNatUp, h1]
    refine IWp.seq ?_
    refine IWp.draw [4] [] (.val 0 (.val 1 (.val 2 (.val 3 (.val 4 (.val 5 (.val 6 (.val 7 (.val 9 (.val 10 (.val 11 (.eff 8 (.val 12 (.val 13 (.val 14 (.val 15 .done)))) .done)))))))))))) follows (by kernel_rfl) ?_
    simp [go_sem, -getElem?_pos, -List.map_take, -List.map_drop, List.getElem?_cons_zero, List.getElem?_cons_succ, Go.IntWalk.iteOmega, Go.IntWalk.toNatUp, h1]
    refine IWp.ret ?_
    simp [go_sem, -getElem?_pos, -List.map_take, -List.map_drop, List.getElem?_cons_zero, List.getElem?_cons_succ, Go.IntWalk.iteOmega, Go.IntWalk.toNatUp, h1, Try.results13]
    try exact .same _
  by_cases h2 : 0 ≤ ph
  case neg =>
    refine IBody.of Try.func13 rfl (by rw [Try.ntmps13]; simp) ?_
    rw [Try.ntmps13]
    refine IWp.seq ?_
    refine IWp.run [0, 1] ?_
    simp [go_sem, -getElem?_pos, -List.map_take, -List.map_drop, List.getElem?_cons_zero, List.getElem?_cons_succ, Go.IntWalk.iteOmega, Go.IntWalk.toNatUp, h1, h2]
    refine IWp.seq ?_
    refine IWp.run [0, 1, 5] ?_
    simp [go_sem, -getElem?_pos, -List.map_take, -List.map_drop, List.getElem?_cons_zero, List.getElem?_cons_succ, Go.IntWalk.iteOmega, Go.IntWalk.toNatUp, h1, h2]
    refine ICalls.then (period _ p) ?_
    try simp [go_sem, -getElem?_pos, -List.map_take, -List.map_drop, List.getElem?_cons_zero, List.getElem?_cons_succ, Go.IntWalk.iteOmega, Go.IntWalk.toNatUp, h1, h2]
    refine IWp.seq ?_
    refine IWp.draw [4] [] (.val 0 (.val 1 (.val 2 (.val 3 (.val 4 (.val 5 (.val 6 (.val 7 (.val 9 (.val 10 (.val 11 (.eff 8 (.val 12 (.val 13 (.val 14 (.val 15 .done)))) .done)))))))))))) follows (by kernel_rfl) ?_
    simp [go_sem, -getElem?_pos, -List.map_take, -List.map_drop, List.getElem?_cons_zero, List.getElem?_cons_succ, Go.IntWalk.iteOmega, Go.IntWalk.toNatUp, h1, h2]
    refine IWp.ret ?_
    simp [go_sem, -getElem?_pos, -List.map_take, -List.map_drop, List.getElem?_cons_zero, List.getElem?_cons_succ, Go.IntWalk.iteOmega, Go.IntWalk.toNatUp, h1, h2, Try.results13]
    try exact .same _
  have h3 := Int.emod_nonneg ph (show perS p ≠ 0 by omega)
  have h4 := Int.emod_lt_of_pos ph h1
  have h5 : ph.tmod (perS p) = ph % perS p := Int.tmod_eq_emod_of_nonneg h2
  have h6 := patS_size p
  obtain ⟨x, hx1, hx2⟩ := byteS_get (patS p) (ph % perS p).toNat (by omega)
  rw [hx2]
  have w := IntWalk.i64_in (ph % perS p) (by omega)
  generalize hq : ph % perS p = q at *
  refine IBody.of Try.func13 rfl (by rw [Try.ntmps13]; simp) ?_
  rw [Try.ntmps13]
  refine IWp.seq ?_
  refine IWp.run [0, 1] ?_
  simp [go_sem, -getElem?_pos, -List.map_take, -List.map_drop, List.getElem?_cons_zero, List.getElem?_cons_succ, Go.IntWalk.iteOmega, Go.IntWalk.toNatUp, h1, h2, h5, h3, hx1, w, show ¬ perS p = 0 by omega]
  refine IWp.seq ?_
  refine IWp.run [0, 1, 5] ?_
  simp [go_sem, -getElem?_pos, -List.map_take, -List.map_drop, List.getElem?_cons_zero, List.getElem?_cons_succ, Go.IntWalk.iteOmega, Go.IntWalk.toNatUp, h1, h2, h5, h3, hx1, w, show ¬ perS p = 0 by omega]
  refine ICalls.then (period _ p) ?_
  try simp [go_sem, -getElem?_pos, -List.map_take, -List.map_drop, List.getElem?_cons_zero, List.getElem?_cons_succ, Go.IntWalk.iteOmega, Go.IntWalk.toNatUp, h1, h2, h5, h3, hx1, w, show ¬ perS p = 0 by omega]
  refine IWp.seq ?_
  refine IWp.draw [4] [] (.val 0 (.val 1 (.val 2 (.val 3 (.val 4 (.val 5 (.val 6 (.val 7 (.val 9 (.val 10 (.val 11 (.eff 8 (.val 12 (.val 13 (.val 14 (.val 15 .done)))) .done)))))))))))) follows (by kernel_rfl) ?_
  simp [go_sem, -getElem?_pos, -List.map_take, -List.map_drop, List.getElem?_cons_zero, List.getElem?_cons_succ, Go.IntWalk.iteOmega, Go.IntWalk.toNatUp, h1, h2, h5, h3, hx1, w, show ¬ perS p = 0 by omega]
  refine ICalls.then (pattern _ p) ?_
  try simp [go_sem, -getElem?_pos, -List.map_take, -List.map_drop, List.getElem?_cons_zero, List.getElem?_cons_succ, Go.IntWalk.iteOmega, Go.IntWalk.toNatUp, h1, h2, h5, h3, hx1, w, show ¬ perS p = 0 by omega]
  refine IWp.ret ?_
  simp [go_sem, -getElem?_pos, -List.map_take, -List.map_drop, List.getElem?_cons_zero, List.getElem?_cons_succ, Go.IntWalk.iteOmega, Go.IntWalk.toNatUp, h1, h2, h5, h3, hx1, w, show ¬ perS p = 0 by omega, Try.results13]
  try exact .same _

/-- How often a byte stands in a text. -/
def countN (s : ByteArray) (c : Int) : Int := s.foldl (fun (n : Int) x => if x == c.toNat.toUInt8 then n + 1 else n) ((0 : Nat) : Int)
theorem countStr (H : Heap) (s : ByteArray) (c : Int) : ICalls Try.prog 53 [.string s, .int .u8 c] H fun v H' => v = .int .i64 (countN s c) ∧ H' = H := by
  intro B w0 ρ args' w hh hargs
  obtain ⟨l⟩ := args'
  obtain _ | ⟨h1, hargs⟩ := hargs
  obtain _ | ⟨h2, hargs⟩ := hargs
  cases hargs
  obtain rfl := h1.eq_of_plain0 rfl
  obtain rfl := h2.eq_of_plain0 rfl
  refine .inr ⟨.int .i64 (countN s c), w, ?_, ρ, .int .i64 (countN s c), _, H, rfl, ⟨rfl, rfl⟩, .plain rfl, hh, Ren.Le.refl _, Nat.le_refl _⟩
  rw [run_callFunc_extern (fn := Try.f53) (e := Extern.BytealgCount.count) Try.func53 (by kernel_rfl) (by kernel_rfl) (by kernel_rfl) (by kernel_rfl)]
  show ((Extern.BytealgCount.count #[.string s, .int .u8 c]).run _ w).andThen _ = _
  have e : Extern.BytealgCount.count #[.string s, .int .u8 c] = (do
      let b ← Extern.Bytes.bytesOf (.string s)
      let c ← Extern.Bytes.asByte (.int .u8 c)
      pure (goInt (b.foldl (fun n x => if x == c then n + 1 else n) (0 : Nat)))) := rfl
  rw [e]
  simp only [Extern.Bytes.bytesOf, Extern.Bytes.asByte, goInt, Sem.run_bind, Sem.run_pure, Result.andThen_ok, countN]

theorem count1 (H : Heap) (s : ByteArray) : ICalls Try.prog 45 [.string s, .string ⟨#[49]⟩] H fun v H' => v = .int .i64 (countN s 49) ∧ H' = H := by
  refine ICalls.ans (by simp [go_sem]) fun H => IBody.calls (by kernel_rfl) ?_
  refine IBody.of Try.func45 rfl (by rw [Try.ntmps45]; simp) ?_
  rw [Try.ntmps45]
  refine IWp.seq ?_
  refine IWp.run [0, 1] ?_
  simp [go_sem, -getElem?_pos, -List.map_take, -List.map_drop, List.getElem?_cons_zero, List.getElem?_cons_succ, Go.IntWalk.iteOmega, Go.IntWalk.toNatUp]
  refine IWp.seq ?_
  refine IWp.seq ?_
  refine IWp.run [0, 1, 9] ?_
  simp [go_sem, -getElem?_pos, -List.map_take, -List.map_drop, List.getElem?_cons_zero, List.getElem?_cons_succ, Go.IntWalk.iteOmega, Go.IntWalk.toNatUp]
  refine IWp.cond ?_
  simp [go_sem, -getElem?_pos, -List.map_take, -List.map_drop, List.getElem?_cons_zero, List.getElem?_cons_succ, Go.IntWalk.iteOmega, Go.IntWalk.toNatUp]
  refine IWp.trim [0, 1] (IWp.skip ?_)
  simp [go_sem, -getElem?_pos, -List.map_take, -List.map_drop, List.getElem?_cons_zero, List.getElem?_cons_succ, Go.IntWalk.iteOmega, Go.IntWalk.toNatUp]
  refine IWp.seq ?_
  refine IWp.seq ?_
  refine IWp.run [0, 1, 15] ?_
  simp [go_sem, -getElem?_pos, -List.map_take, -List.map_drop, List.getElem?_cons_zero, List.getElem?_cons_succ, Go.IntWalk.iteOmega, Go.IntWalk.toNatUp]
  refine IWp.cond ?_
  simp [go_sem, -getElem?_pos, -List.map_take, -List.map_drop, List.getElem?_cons_zero, List.getElem?_cons_succ, Go.IntWalk.iteOmega, Go.IntWalk.toNatUp]
  refine IWp.seq ?_
  refine IWp.run [4] ?_
  simp [go_sem, -getElem?_pos, -List.map_take, -List.map_drop, List.getElem?_cons_zero, List.getElem?_cons_succ, Go.IntWalk.iteOmega, Go.IntWalk.toNatUp]
  refine ICalls.then (countStr _ s 49) ?_
  try simp [go_sem, -getElem?_pos, -List.map_take, -List.map_drop, List.getElem?_cons_zero, List.getElem?_cons_succ, Go.IntWalk.iteOmega, Go.IntWalk.toNatUp]
  refine IWp.ret ?_
  simp [go_sem, -getElem?_pos, -List.map_take, -List.map_drop, List.getElem?_cons_zero, List.getElem?_cons_succ, Go.IntWalk.iteOmega, Go.IntWalk.toNatUp, Try.results45]
  try exact .same _

def pulN (p : Int) : Int := if p = 3 then 10 else if p = 2 then 3 else if p = 1 then 2 else 0
theorem pulN_eq (p : Int) : countN (patS p) 49 = pulN p := by
  unfold patS pulN
  split
  · rfl
  split
  · rfl
  split <;> rfl
theorem pulses (H : Heap) (p : Int) : ICalls Try.prog 30 [.int .u8 p] H fun v H' => v = .int .i64 (pulN p) ∧ H' = H := by
  refine ICalls.ans (by simp [go_sem]) fun H => IBody.calls (by kernel_rfl) ?_
  have c2 := fun K => count1 K (patS p)
  rw [pulN_eq] at c2
  refine IBody.of Try.func30 rfl (by rw [Try.ntmps30]; simp) ?_
  rw [Try.ntmps30]
  refine IWp.seq ?_
  refine IWp.run [0] ?_
  simp [go_sem, -getElem?_pos, -List.map_take, -List.map_drop, List.getElem?_cons_zero, List.getElem?_cons_succ, Go.IntWalk.iteOmega, Go.IntWalk.toNatUp]
  refine IWp.seq ?_
  refine IWp.run [2] ?_
  simp [go_sem, -getElem?_pos, -List.map_take, -List.map_drop, List.getElem?_cons_zero, List.getElem?_cons_succ, Go.IntWalk.iteOmega, Go.IntWalk.toNatUp]
  refine ICalls.then (pattern _ p) ?_
  try simp [go_sem, -getElem?_pos, -List.map_take, -List.map_drop, List.getElem?_cons_zero, List.getElem?_cons_succ, Go.IntWalk.iteOmega, Go.IntWalk.toNatUp]
  refine ICalls.then (c2 _) ?_
  try simp [go_sem, -getElem?_pos, -List.map_take, -List.map_drop, List.getElem?_cons_zero, List.getElem?_cons_succ, Go.IntWalk.iteOmega, Go.IntWalk.toNatUp]
  refine IWp.ret ?_
  simp [go_sem, -getElem?_pos, -List.map_take, -List.map_drop, List.getElem?_cons_zero, List.getElem?_cons_succ, Go.IntWalk.iteOmega, Go.IntWalk.toNatUp, Try.results30]
  try exact .same _

theorem beats (H : Heap) : ICalls Try.prog 12 [] H fun v H' => v = .bool true ∧ H' = H := by
  refine ICalls.ans (by simp [go_sem]) fun H => IBody.calls (by kernel_rfl) ?_
  have c1 := fun K => sound K 2 0
  have c2 := fun K => sound K 2 1
  have c3 := fun K => sound K 2 24
  rw [show soundS 2 0 = true by decide] at c1
  rw [show soundS 2 1 = false by decide] at c2
  rw [show soundS 2 24 = true by decide] at c3
  refine IBody.of Try.func12 rfl (by rw [Try.ntmps12]; simp) ?_
  rw [Try.ntmps12]
  refine IWp.seq ?_
  refine IWp.run [] ?_
  simp [go_sem, -getElem?_pos, -List.map_take, -List.map_drop, List.getElem?_cons_zero, List.getElem?_cons_succ, Go.IntWalk.iteOmega, Go.IntWalk.toNatUp]
  refine IWp.seq ?_
  refine IWp.run [0] ?_
  simp [go_sem, -getElem?_pos, -List.map_take, -List.map_drop, List.getElem?_cons_zero, List.getElem?_cons_succ, Go.IntWalk.iteOmega, Go.IntWalk.toNatUp]
  refine ICalls.then (c1 _) ?_
  try simp [go_sem, -getElem?_pos, -List.map_take, -List.map_drop, List.getElem?_cons_zero, List.getElem?_cons_succ, Go.IntWalk.iteOmega, Go.IntWalk.toNatUp]
  refine ICalls.then (c2 _) ?_
  try simp [go_sem, -getElem?_pos, -List.map_take, -List.map_drop, List.getElem?_cons_zero, List.getElem?_cons_succ, Go.IntWalk.iteOmega, Go.IntWalk.toNatUp]
  refine ICalls.then (c3 _) ?_
  try simp [go_sem, -getElem?_pos, -List.map_take, -List.map_drop, List.getElem?_cons_zero, List.getElem?_cons_succ, Go.IntWalk.iteOmega, Go.IntWalk.toNatUp]
  refine IWp.ret ?_
  simp [go_sem, -getElem?_pos, -List.map_take, -List.map_drop, List.getElem?_cons_zero, List.getElem?_cons_succ, Go.IntWalk.iteOmega, Go.IntWalk.toNatUp, Try.results12]
  try exact .same _

theorem burstUrgent_law (H : Heap) (ph : Int) (w : -9223372036854775808 ≤ ph ∧ ph < 9223372036854775808) :
    IBody Try.prog 11 [.int .i64 ph] H fun v _ => v = .bool true := by
  have p1 := fun K => pulses K 1
  have p2 := fun K => pulses K 2
  have p3 := fun K => pulses K 3
  rw [show pulN 1 = 2 from rfl] at p1
  rw [show pulN 2 = 3 from rfl] at p2
  rw [show pulN 3 = 10 from rfl] at p3
  have s1 := fun K => sound K 1 0
  have s2 := fun K => sound K 2 0
  have s3 := fun K => sound K 3 0
  rw [show soundS 1 0 = true by decide] at s1
  rw [show soundS 2 0 = true by decide] at s2
  rw [show soundS 3 0 = true by decide] at s3
  have s4 := fun K => sound K 0 ph
  rw [show soundS 0 ph = false from rfl] at s4
  have s5 : ∀ (q : Int) K, q < 0 → ICalls Try.prog 13 [.int .u8 3, .int .i64 q] K fun v H' => v = .bool false ∧ H' = K := fun q K hq => by
    have := sound K 3 q
    rw [show soundS 3 q = false by unfold soundS; rw [decide_eq_false (show ¬ 0 ≤ q by omega)]; simp] at this
    exact this
  by_cases h : 0 ≤ ph
  · have w1 := IntWalk.i64_in (-ph) (by omega)
    have w2 := IntWalk.i64_in (-ph - 1) (by omega)
    refine IBody.of Try.func11 rfl (by rw [Try.ntmps11]; simp) ?_
    rw [Try.ntmps11]
    refine IWp.seq ?_
    refine IWp.run [0] ?_
    simp [go_sem, -getElem?_pos, -List.map_take, -List.map_drop, List.getElem?_cons_zero, List.getElem?_cons_succ, Go.IntWalk.iteOmega, Go.IntWalk.toNatUp, h, w1, w2]
    refine IWp.seq ?_
    refine IWp.run [0, 3] ?_
    simp [go_sem, -getElem?_pos, -List.map_take, -List.map_drop, List.getElem?_cons_zero, List.getElem?_cons_succ, Go.IntWalk.iteOmega, Go.IntWalk.toNatUp, h, w1, w2]
    refine IWp.seq ?_
    refine IWp.seq ?_
    refine IWp.run [0, 3, 6] ?_
    simp [go_sem, -getElem?_pos, -List.map_take, -List.map_drop, List.getElem?_cons_zero, List.getElem?_cons_succ, Go.IntWalk.iteOmega, Go.IntWalk.toNatUp, h, w1, w2]
    refine IWp.cond ?_
    simp [go_sem, -getElem?_pos, -List.map_take, -List.map_drop, List.getElem?_cons_zero, List.getElem?_cons_succ, Go.IntWalk.iteOmega, Go.IntWalk.toNatUp, h, w1, w2]
    refine IWp.run [0, 3] ?_
    simp [go_sem, -getElem?_pos, -List.map_take, -List.map_drop, List.getElem?_cons_zero, List.getElem?_cons_succ, Go.IntWalk.iteOmega, Go.IntWalk.toNatUp, h, w1, w2]
    refine IWp.seq ?_
    refine IWp.run [2] ?_
    simp [go_sem, -getElem?_pos, -List.map_take, -List.map_drop, List.getElem?_cons_zero, List.getElem?_cons_succ, Go.IntWalk.iteOmega, Go.IntWalk.toNatUp, h, w1, w2]
    refine ICalls.then (beats _) ?_
    try simp [go_sem, -getElem?_pos, -List.map_take, -List.map_drop, List.getElem?_cons_zero, List.getElem?_cons_succ, Go.IntWalk.iteOmega, Go.IntWalk.toNatUp, h, w1, w2]
    refine ICalls.then (p1 _) ?_
    try simp [go_sem, -getElem?_pos, -List.map_take, -List.map_drop, List.getElem?_cons_zero, List.getElem?_cons_succ, Go.IntWalk.iteOmega, Go.IntWalk.toNatUp, h, w1, w2]
    refine ICalls.then (p2 _) ?_
    try simp [go_sem, -getElem?_pos, -List.map_take, -List.map_drop, List.getElem?_cons_zero, List.getElem?_cons_succ, Go.IntWalk.iteOmega, Go.IntWalk.toNatUp, h, w1, w2]
    refine ICalls.then (p2 _) ?_
    try simp [go_sem, -getElem?_pos, -List.map_take, -List.map_drop, List.getElem?_cons_zero, List.getElem?_cons_succ, Go.IntWalk.iteOmega, Go.IntWalk.toNatUp, h, w1, w2]
    refine ICalls.then (p3 _) ?_
    try simp [go_sem, -getElem?_pos, -List.map_take, -List.map_drop, List.getElem?_cons_zero, List.getElem?_cons_succ, Go.IntWalk.iteOmega, Go.IntWalk.toNatUp, h, w1, w2]
    refine ICalls.then (s1 _) ?_
    try simp [go_sem, -getElem?_pos, -List.map_take, -List.map_drop, List.getElem?_cons_zero, List.getElem?_cons_succ, Go.IntWalk.iteOmega, Go.IntWalk.toNatUp, h, w1, w2]
    refine ICalls.then (s2 _) ?_
    try simp [go_sem, -getElem?_pos, -List.map_take, -List.map_drop, List.getElem?_cons_zero, List.getElem?_cons_succ, Go.IntWalk.iteOmega, Go.IntWalk.toNatUp, h, w1, w2]
    refine ICalls.then (s3 _) ?_
    try simp [go_sem, -getElem?_pos, -List.map_take, -List.map_drop, List.getElem?_cons_zero, List.getElem?_cons_succ, Go.IntWalk.iteOmega, Go.IntWalk.toNatUp, h, w1, w2]
    refine ICalls.then (s4 _) ?_
    try simp [go_sem, -getElem?_pos, -List.map_take, -List.map_drop, List.getElem?_cons_zero, List.getElem?_cons_succ, Go.IntWalk.iteOmega, Go.IntWalk.toNatUp, h, w1, w2]
    refine ICalls.then (s5 _ _ (by omega)) ?_
    try simp [go_sem, -getElem?_pos, -List.map_take, -List.map_drop, List.getElem?_cons_zero, List.getElem?_cons_succ, Go.IntWalk.iteOmega, Go.IntWalk.toNatUp, h, w1, w2]
    refine IWp.ret ?_
    simp [go_sem, -getElem?_pos, -List.map_take, -List.map_drop, List.getElem?_cons_zero, List.getElem?_cons_succ, Go.IntWalk.iteOmega, Go.IntWalk.toNatUp, h, w1, w2, Try.results11]
  · skip
    refine IBody.of Try.func11 rfl (by rw [Try.ntmps11]; simp) ?_
    rw [Try.ntmps11]
    refine IWp.seq ?_
    refine IWp.run [0] ?_
    simp [go_sem, -getElem?_pos, -List.map_take, -List.map_drop, List.getElem?_cons_zero, List.getElem?_cons_succ, Go.IntWalk.iteOmega, Go.IntWalk.toNatUp, h]
    refine IWp.seq ?_
    refine IWp.run [0, 3] ?_
    simp [go_sem, -getElem?_pos, -List.map_take, -List.map_drop, List.getElem?_cons_zero, List.getElem?_cons_succ, Go.IntWalk.iteOmega, Go.IntWalk.toNatUp, h]
    refine IWp.seq ?_
    refine IWp.seq ?_
    refine IWp.run [0, 3, 6] ?_
    simp [go_sem, -getElem?_pos, -List.map_take, -List.map_drop, List.getElem?_cons_zero, List.getElem?_cons_succ, Go.IntWalk.iteOmega, Go.IntWalk.toNatUp, h]
    refine IWp.cond ?_
    simp [go_sem, -getElem?_pos, -List.map_take, -List.map_drop, List.getElem?_cons_zero, List.getElem?_cons_succ, Go.IntWalk.iteOmega, Go.IntWalk.toNatUp, h]
    refine IWp.trim [0, 3] (IWp.skip ?_)
    simp [go_sem, -getElem?_pos, -List.map_take, -List.map_drop, List.getElem?_cons_zero, List.getElem?_cons_succ, Go.IntWalk.iteOmega, Go.IntWalk.toNatUp, h]
    refine IWp.seq ?_
    refine IWp.run [2] ?_
    simp [go_sem, -getElem?_pos, -List.map_take, -List.map_drop, List.getElem?_cons_zero, List.getElem?_cons_succ, Go.IntWalk.iteOmega, Go.IntWalk.toNatUp, h]
    refine ICalls.then (beats _) ?_
    try simp [go_sem, -getElem?_pos, -List.map_take, -List.map_drop, List.getElem?_cons_zero, List.getElem?_cons_succ, Go.IntWalk.iteOmega, Go.IntWalk.toNatUp, h]
    refine ICalls.then (p1 _) ?_
    try simp [go_sem, -getElem?_pos, -List.map_take, -List.map_drop, List.getElem?_cons_zero, List.getElem?_cons_succ, Go.IntWalk.iteOmega, Go.IntWalk.toNatUp, h]
    refine ICalls.then (p2 _) ?_
    try simp [go_sem, -getElem?_pos, -List.map_take, -List.map_drop, List.getElem?_cons_zero, List.getElem?_cons_succ, Go.IntWalk.iteOmega, Go.IntWalk.toNatUp, h]
    refine ICalls.then (p2 _) ?_
    try simp [go_sem, -getElem?_pos, -List.map_take, -List.map_drop, List.getElem?_cons_zero, List.getElem?_cons_succ, Go.IntWalk.iteOmega, Go.IntWalk.toNatUp, h]
    refine ICalls.then (p3 _) ?_
    try simp [go_sem, -getElem?_pos, -List.map_take, -List.map_drop, List.getElem?_cons_zero, List.getElem?_cons_succ, Go.IntWalk.iteOmega, Go.IntWalk.toNatUp, h]
    refine ICalls.then (s1 _) ?_
    try simp [go_sem, -getElem?_pos, -List.map_take, -List.map_drop, List.getElem?_cons_zero, List.getElem?_cons_succ, Go.IntWalk.iteOmega, Go.IntWalk.toNatUp, h]
    refine ICalls.then (s2 _) ?_
    try simp [go_sem, -getElem?_pos, -List.map_take, -List.map_drop, List.getElem?_cons_zero, List.getElem?_cons_succ, Go.IntWalk.iteOmega, Go.IntWalk.toNatUp, h]
    refine ICalls.then (s3 _) ?_
    try simp [go_sem, -getElem?_pos, -List.map_take, -List.map_drop, List.getElem?_cons_zero, List.getElem?_cons_succ, Go.IntWalk.iteOmega, Go.IntWalk.toNatUp, h]
    refine ICalls.then (s4 _) ?_
    try simp [go_sem, -getElem?_pos, -List.map_take, -List.map_drop, List.getElem?_cons_zero, List.getElem?_cons_succ, Go.IntWalk.iteOmega, Go.IntWalk.toNatUp, h]
    refine ICalls.then (s5 _ _ (by omega)) ?_
    try simp [go_sem, -getElem?_pos, -List.map_take, -List.map_drop, List.getElem?_cons_zero, List.getElem?_cons_succ, Go.IntWalk.iteOmega, Go.IntWalk.toNatUp, h]
    refine IWp.ret ?_
    simp [go_sem, -getElem?_pos, -List.map_take, -List.map_drop, List.getElem?_cons_zero, List.getElem?_cons_succ, Go.IntWalk.iteOmega, Go.IntWalk.toNatUp, h, Try.results11]

end Go.Proofs.Ytjhmajcakhdcnaa.I
