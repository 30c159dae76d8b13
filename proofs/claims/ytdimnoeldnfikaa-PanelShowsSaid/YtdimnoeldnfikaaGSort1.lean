/- The library's sort of no lamp, and of one: nothing is done. No condition. -/
import Derived.Test.YtdimnoeldnfikaaGPanel
namespace Go.Proofs.Ytdimnoeldnfikaa.I
open Go Go.RowKit
set_option linter.unusedVariables false
set_option linter.unusedSimpArgs false

set_option maxRecDepth 100000 in
theorem bits64_0 (H : Heap) : ICalls Try.prog 78 [.int .u64 0] H fun v H' => v = .int .i64 0 ∧ H' = H := by
  refine ICalls.ans (by simp [go_sem]) fun H => IBody.calls (by kernel_rfl) ?_
  refine IBody.of Try.func78 rfl (by rw [Try.ntmps78]; simp) ?_
  rw [Try.ntmps78]
  refine IWp.seq ?_
  refine IWp.run [0, 2] ?_
  simp [go_sem, -getElem?_pos, -List.map_take, -List.map_drop, List.getElem?_cons_zero, List.getElem?_cons_succ, Go.IntWalk.iteOmega, Go.IntWalk.toNatUp, IntWalk.i64_in 0 (by omega), IntWalk.u8_in 0 (by omega)]
  refine IWp.seq ?_
  refine IWp.seq ?_
  refine IWp.run [0, 2, 4] ?_
  simp [go_sem, -getElem?_pos, -List.map_take, -List.map_drop, List.getElem?_cons_zero, List.getElem?_cons_succ, Go.IntWalk.iteOmega, Go.IntWalk.toNatUp, IntWalk.i64_in 0 (by omega), IntWalk.u8_in 0 (by omega)]
  refine IWp.cond ?_
  simp [go_sem, -getElem?_pos, -List.map_take, -List.map_drop, List.getElem?_cons_zero, List.getElem?_cons_succ, Go.IntWalk.iteOmega, Go.IntWalk.toNatUp, IntWalk.i64_in 0 (by omega), IntWalk.u8_in 0 (by omega)]
  refine IWp.trim [0, 2] (IWp.skip ?_)
  simp [go_sem, -getElem?_pos, -List.map_take, -List.map_drop, List.getElem?_cons_zero, List.getElem?_cons_succ, Go.IntWalk.iteOmega, Go.IntWalk.toNatUp, IntWalk.i64_in 0 (by omega), IntWalk.u8_in 0 (by omega)]
  refine IWp.seq ?_
  refine IWp.seq ?_
  refine IWp.run [0, 2, 8] ?_
  simp [go_sem, -getElem?_pos, -List.map_take, -List.map_drop, List.getElem?_cons_zero, List.getElem?_cons_succ, Go.IntWalk.iteOmega, Go.IntWalk.toNatUp, IntWalk.i64_in 0 (by omega), IntWalk.u8_in 0 (by omega)]
  refine IWp.cond ?_
  simp [go_sem, -getElem?_pos, -List.map_take, -List.map_drop, List.getElem?_cons_zero, List.getElem?_cons_succ, Go.IntWalk.iteOmega, Go.IntWalk.toNatUp, IntWalk.i64_in 0 (by omega), IntWalk.u8_in 0 (by omega)]
  refine IWp.trim [0, 2] (IWp.skip ?_)
  simp [go_sem, -getElem?_pos, -List.map_take, -List.map_drop, List.getElem?_cons_zero, List.getElem?_cons_succ, Go.IntWalk.iteOmega, Go.IntWalk.toNatUp, IntWalk.i64_in 0 (by omega), IntWalk.u8_in 0 (by omega)]
  refine IWp.seq ?_
  refine IWp.seq ?_
  refine IWp.run [0, 2, 14] ?_
  simp [go_sem, -getElem?_pos, -List.map_take, -List.map_drop, List.getElem?_cons_zero, List.getElem?_cons_succ, Go.IntWalk.iteOmega, Go.IntWalk.toNatUp, IntWalk.i64_in 0 (by omega), IntWalk.u8_in 0 (by omega)]
  refine IWp.cond ?_
  simp [go_sem, -getElem?_pos, -List.map_take, -List.map_drop, List.getElem?_cons_zero, List.getElem?_cons_succ, Go.IntWalk.iteOmega, Go.IntWalk.toNatUp, IntWalk.i64_in 0 (by omega), IntWalk.u8_in 0 (by omega)]
  refine IWp.trim [0, 2] (IWp.skip ?_)
  simp [go_sem, -getElem?_pos, -List.map_take, -List.map_drop, List.getElem?_cons_zero, List.getElem?_cons_succ, Go.IntWalk.iteOmega, Go.IntWalk.toNatUp, IntWalk.i64_in 0 (by omega), IntWalk.u8_in 0 (by omega)]
  refine IWp.seq ?_
  refine IWp.run [2] ?_
  simp [go_sem, -getElem?_pos, -List.map_take, -List.map_drop, List.getElem?_cons_zero, List.getElem?_cons_succ, Go.IntWalk.iteOmega, Go.IntWalk.toNatUp, IntWalk.i64_in 0 (by omega), IntWalk.u8_in 0 (by omega)]
  refine IWp.ret ?_
  simp [go_sem, -getElem?_pos, -List.map_take, -List.map_drop, List.getElem?_cons_zero, List.getElem?_cons_succ, Go.IntWalk.iteOmega, Go.IntWalk.toNatUp, IntWalk.i64_in 0 (by omega), IntWalk.u8_in 0 (by omega), Try.results78]
  try exact .same _
theorem bits_0 (H : Heap) : ICalls Try.prog 61 [.int .u64 0] H fun v H' => v = .int .i64 0 ∧ H' = H := by
  refine ICalls.ans (by simp [go_sem]) fun H => IBody.calls (by kernel_rfl) ?_
  refine IBody.of Try.func61 rfl (by rw [Try.ntmps61]; simp) ?_
  rw [Try.ntmps61]
  refine IWp.seq ?_
  refine IWp.run [0] ?_
  simp [go_sem, -getElem?_pos, -List.map_take, -List.map_drop, List.getElem?_cons_zero, List.getElem?_cons_succ, Go.IntWalk.iteOmega, Go.IntWalk.toNatUp, IntWalk.u64_in 0 (by omega)]
  refine IWp.seq ?_
  refine IWp.cond ?_
  simp [go_sem, -getElem?_pos, -List.map_take, -List.map_drop, List.getElem?_cons_zero, List.getElem?_cons_succ, Go.IntWalk.iteOmega, Go.IntWalk.toNatUp, IntWalk.u64_in 0 (by omega)]
  refine IWp.trim [0] (IWp.skip ?_)
  simp [go_sem, -getElem?_pos, -List.map_take, -List.map_drop, List.getElem?_cons_zero, List.getElem?_cons_succ, Go.IntWalk.iteOmega, Go.IntWalk.toNatUp, IntWalk.u64_in 0 (by omega)]
  refine IWp.seq ?_
  refine IWp.run [2] ?_
  simp [go_sem, -getElem?_pos, -List.map_take, -List.map_drop, List.getElem?_cons_zero, List.getElem?_cons_succ, Go.IntWalk.iteOmega, Go.IntWalk.toNatUp, IntWalk.u64_in 0 (by omega)]
  refine ICalls.then (bits64_0 _) ?_
  try simp [go_sem, -getElem?_pos, -List.map_take, -List.map_drop, List.getElem?_cons_zero, List.getElem?_cons_succ, Go.IntWalk.iteOmega, Go.IntWalk.toNatUp, IntWalk.u64_in 0 (by omega)]
  refine IWp.ret ?_
  simp [go_sem, -getElem?_pos, -List.map_take, -List.map_drop, List.getElem?_cons_zero, List.getElem?_cons_succ, Go.IntWalk.iteOmega, Go.IntWalk.toNatUp, IntWalk.u64_in 0 (by omega), Try.results61]
  try exact .same _
theorem insert_0 (H : Heap) (f : Value) : ICalls Try.prog 79 [.slice none 0 0, .int .i64 0, .int .i64 0, f] H fun v H' => v = .tuple ⟨[]⟩ ∧ H' = H := by
  refine ICalls.ans (by simp [go_sem]) fun H => IBody.calls (by kernel_rfl) ?_
  refine IBody.of Try.func79 rfl (by rw [Try.ntmps79]; simp) ?_
  rw [Try.ntmps79]
  refine IWp.seq ?_
  refine IWp.run [0, 1, 2, 3, 8] ?_
  simp [go_sem, -getElem?_pos, -List.map_take, -List.map_drop, List.getElem?_cons_zero, List.getElem?_cons_succ, Go.IntWalk.iteOmega, Go.IntWalk.toNatUp, IntWalk.i64_in 1 (by omega)]
  refine IWp.block ?_
  -- LOOP live [0, 1, 2, 3, 8]
  refine IWp.loop (fun q e K => q = 0 ∧ K = H ∧ e = [(0, .slice none 0 0), (1, .int .i64 0), (2, .int .i64 0), (3, f), (8, .int .i64 1)]) 0 ⟨rfl, rfl, by simp [go_sem]⟩ ?_
  rintro q e K ⟨rfl, rfl, rfl⟩
  refine IWp.seq ?_
  refine IWp.seq ?_
  refine IWp.run [0, 1, 2, 3, 8, 14] ?_
  simp [go_sem, -getElem?_pos, -List.map_take, -List.map_drop, List.getElem?_cons_zero, List.getElem?_cons_succ, Go.IntWalk.iteOmega, Go.IntWalk.toNatUp]
  refine IWp.cond ?_
  simp [go_sem, -getElem?_pos, -List.map_take, -List.map_drop, List.getElem?_cons_zero, List.getElem?_cons_succ, Go.IntWalk.iteOmega, Go.IntWalk.toNatUp]
  refine IWp.trim [] (IWp.exit ?_)
  simp [go_sem, -getElem?_pos, -List.map_take, -List.map_drop, List.getElem?_cons_zero, List.getElem?_cons_succ, Go.IntWalk.iteOmega, Go.IntWalk.toNatUp]
  try exact .same _
theorem pdq_0 (H : Heap) (f : Value) (k : Int) : ICalls Try.prog 64 [.slice none 0 0, .int .i64 0, .int .i64 0, .int .i64 k, f] H fun v H' => v = .tuple ⟨[]⟩ ∧ H' = H := by
  refine ICalls.ans (by simp [go_sem]) fun H => IBody.calls (by kernel_rfl) ?_
  refine IBody.of Try.func64 rfl (by rw [Try.ntmps64]; simp) ?_
  rw [Try.ntmps64]
  refine IWp.seq ?_
  refine IWp.run [0, 1, 2, 3, 4, 10] ?_
  simp [go_sem, -getElem?_pos, -List.map_take, -List.map_drop, List.getElem?_cons_zero, List.getElem?_cons_succ, Go.IntWalk.iteOmega, Go.IntWalk.toNatUp]
  refine IWp.seq ?_
  refine IWp.run [0, 1, 2, 3, 4, 10, 11] ?_
  simp [go_sem, -getElem?_pos, -List.map_take, -List.map_drop, List.getElem?_cons_zero, List.getElem?_cons_succ, Go.IntWalk.iteOmega, Go.IntWalk.toNatUp]
  refine IWp.block ?_
  -- LOOP live [0, 1, 2, 3, 4, 10, 11]
  refine IWp.loop (fun q e K => q = 0 ∧ K = H ∧ e = [(0, .slice none 0 0), (1, .int .i64 0), (2, .int .i64 0), (3, .int .i64 k), (4, f), (10, .bool true), (11, .bool true)]) 0 ⟨rfl, rfl, by simp [go_sem]⟩ ?_
  rintro q e K ⟨rfl, rfl, rfl⟩
  refine IWp.block ?_
  refine IWp.seq ?_
  refine IWp.run [0, 1, 2, 3, 4, 10, 11, 12] ?_
  simp [go_sem, -getElem?_pos, -List.map_take, -List.map_drop, List.getElem?_cons_zero, List.getElem?_cons_succ, Go.IntWalk.iteOmega, Go.IntWalk.toNatUp, IntWalk.i64_in 0 (by omega)]
  refine IWp.seq ?_
  refine IWp.seq ?_
  refine IWp.run [0, 1, 2, 3, 4, 10, 11, 12, 25] ?_
  simp [go_sem, -getElem?_pos, -List.map_take, -List.map_drop, List.getElem?_cons_zero, List.getElem?_cons_succ, Go.IntWalk.iteOmega, Go.IntWalk.toNatUp, IntWalk.i64_in 0 (by omega)]
  refine IWp.cond ?_
  simp [go_sem, -getElem?_pos, -List.map_take, -List.map_drop, List.getElem?_cons_zero, List.getElem?_cons_succ, Go.IntWalk.iteOmega, Go.IntWalk.toNatUp, IntWalk.i64_in 0 (by omega)]
  refine IWp.seq ?_
  refine IWp.run [] ?_
  simp [go_sem, -getElem?_pos, -List.map_take, -List.map_drop, List.getElem?_cons_zero, List.getElem?_cons_succ, Go.IntWalk.iteOmega, Go.IntWalk.toNatUp, IntWalk.i64_in 0 (by omega)]
  refine ICalls.then (insert_0 _ _) ?_
  try simp [go_sem, -getElem?_pos, -List.map_take, -List.map_drop, List.getElem?_cons_zero, List.getElem?_cons_succ, Go.IntWalk.iteOmega, Go.IntWalk.toNatUp, IntWalk.i64_in 0 (by omega)]
  refine IWp.ret ?_
  simp [go_sem, -getElem?_pos, -List.map_take, -List.map_drop, List.getElem?_cons_zero, List.getElem?_cons_succ, Go.IntWalk.iteOmega, Go.IntWalk.toNatUp, IntWalk.i64_in 0 (by omega), Try.results64]
  try exact .same _
theorem sort_0 (H : Heap) (f : Value) : ICalls Try.prog 49 [.slice none 0 0, f] H fun v H' => v = .tuple ⟨[]⟩ ∧ H' = H := by
  refine ICalls.ans (by simp [go_sem]) fun H => IBody.calls (by kernel_rfl) ?_
  refine IBody.of Try.func49 rfl (by rw [Try.ntmps49]; simp) ?_
  rw [Try.ntmps49]
  refine IWp.seq ?_
  refine IWp.run [0, 1, 4] ?_
  simp [go_sem, -getElem?_pos, -List.map_take, -List.map_drop, List.getElem?_cons_zero, List.getElem?_cons_succ, Go.IntWalk.iteOmega, Go.IntWalk.toNatUp, IntWalk.u64_in 0 (by omega)]
  refine IWp.run [] ?_
  simp [go_sem, -getElem?_pos, -List.map_take, -List.map_drop, List.getElem?_cons_zero, List.getElem?_cons_succ, Go.IntWalk.iteOmega, Go.IntWalk.toNatUp, IntWalk.u64_in 0 (by omega)]
  refine ICalls.then (bits_0 _) ?_
  try simp [go_sem, -getElem?_pos, -List.map_take, -List.map_drop, List.getElem?_cons_zero, List.getElem?_cons_succ, Go.IntWalk.iteOmega, Go.IntWalk.toNatUp, IntWalk.u64_in 0 (by omega)]
  refine ICalls.then (pdq_0 _ _ _) ?_
  try simp [go_sem, -getElem?_pos, -List.map_take, -List.map_drop, List.getElem?_cons_zero, List.getElem?_cons_succ, Go.IntWalk.iteOmega, Go.IntWalk.toNatUp, IntWalk.u64_in 0 (by omega)]
  try exact .same _
set_option maxRecDepth 100000 in
theorem bits64_1 (H : Heap) : ICalls Try.prog 78 [.int .u64 1] H fun v H' => v = .int .i64 1 ∧ H' = H := by
  refine ICalls.ans (by simp [go_sem]) fun H => IBody.calls (by kernel_rfl) ?_
  refine IBody.of Try.func78 rfl (by rw [Try.ntmps78]; simp) ?_
  rw [Try.ntmps78]
  refine IWp.seq ?_
  refine IWp.run [0, 2] ?_
  simp [go_sem, -getElem?_pos, -List.map_take, -List.map_drop, List.getElem?_cons_zero, List.getElem?_cons_succ, Go.IntWalk.iteOmega, Go.IntWalk.toNatUp, IntWalk.i64_in 1 (by omega), IntWalk.u8_in 1 (by omega)]
  refine IWp.seq ?_
  refine IWp.seq ?_
  refine IWp.run [0, 2, 4] ?_
  simp [go_sem, -getElem?_pos, -List.map_take, -List.map_drop, List.getElem?_cons_zero, List.getElem?_cons_succ, Go.IntWalk.iteOmega, Go.IntWalk.toNatUp, IntWalk.i64_in 1 (by omega), IntWalk.u8_in 1 (by omega)]
  refine IWp.cond ?_
  simp [go_sem, -getElem?_pos, -List.map_take, -List.map_drop, List.getElem?_cons_zero, List.getElem?_cons_succ, Go.IntWalk.iteOmega, Go.IntWalk.toNatUp, IntWalk.i64_in 1 (by omega), IntWalk.u8_in 1 (by omega)]
  refine IWp.trim [0, 2] (IWp.skip ?_)
  simp [go_sem, -getElem?_pos, -List.map_take, -List.map_drop, List.getElem?_cons_zero, List.getElem?_cons_succ, Go.IntWalk.iteOmega, Go.IntWalk.toNatUp, IntWalk.i64_in 1 (by omega), IntWalk.u8_in 1 (by omega)]
  refine IWp.seq ?_
  refine IWp.seq ?_
  refine IWp.run [0, 2, 8] ?_
  simp [go_sem, -getElem?_pos, -List.map_take, -List.map_drop, List.getElem?_cons_zero, List.getElem?_cons_succ, Go.IntWalk.iteOmega, Go.IntWalk.toNatUp, IntWalk.i64_in 1 (by omega), IntWalk.u8_in 1 (by omega)]
  refine IWp.cond ?_
  simp [go_sem, -getElem?_pos, -List.map_take, -List.map_drop, List.getElem?_cons_zero, List.getElem?_cons_succ, Go.IntWalk.iteOmega, Go.IntWalk.toNatUp, IntWalk.i64_in 1 (by omega), IntWalk.u8_in 1 (by omega)]
  refine IWp.trim [0, 2] (IWp.skip ?_)
  simp [go_sem, -getElem?_pos, -List.map_take, -List.map_drop, List.getElem?_cons_zero, List.getElem?_cons_succ, Go.IntWalk.iteOmega, Go.IntWalk.toNatUp, IntWalk.i64_in 1 (by omega), IntWalk.u8_in 1 (by omega)]
  refine IWp.seq ?_
  refine IWp.seq ?_
  refine IWp.run [0, 2, 14] ?_
  simp [go_sem, -getElem?_pos, -List.map_take, -List.map_drop, List.getElem?_cons_zero, List.getElem?_cons_succ, Go.IntWalk.iteOmega, Go.IntWalk.toNatUp, IntWalk.i64_in 1 (by omega), IntWalk.u8_in 1 (by omega)]
  refine IWp.cond ?_
  simp [go_sem, -getElem?_pos, -List.map_take, -List.map_drop, List.getElem?_cons_zero, List.getElem?_cons_succ, Go.IntWalk.iteOmega, Go.IntWalk.toNatUp, IntWalk.i64_in 1 (by omega), IntWalk.u8_in 1 (by omega)]
  refine IWp.trim [0, 2] (IWp.skip ?_)
  simp [go_sem, -getElem?_pos, -List.map_take, -List.map_drop, List.getElem?_cons_zero, List.getElem?_cons_succ, Go.IntWalk.iteOmega, Go.IntWalk.toNatUp, IntWalk.i64_in 1 (by omega), IntWalk.u8_in 1 (by omega)]
  refine IWp.seq ?_
  refine IWp.run [2] ?_
  simp [go_sem, -getElem?_pos, -List.map_take, -List.map_drop, List.getElem?_cons_zero, List.getElem?_cons_succ, Go.IntWalk.iteOmega, Go.IntWalk.toNatUp, IntWalk.i64_in 1 (by omega), IntWalk.u8_in 1 (by omega)]
  refine IWp.ret ?_
  simp [go_sem, -getElem?_pos, -List.map_take, -List.map_drop, List.getElem?_cons_zero, List.getElem?_cons_succ, Go.IntWalk.iteOmega, Go.IntWalk.toNatUp, IntWalk.i64_in 1 (by omega), IntWalk.u8_in 1 (by omega), Try.results78]
  try exact .same _
theorem bits_1 (H : Heap) : ICalls Try.prog 61 [.int .u64 1] H fun v H' => v = .int .i64 1 ∧ H' = H := by
  refine ICalls.ans (by simp [go_sem]) fun H => IBody.calls (by kernel_rfl) ?_
  refine IBody.of Try.func61 rfl (by rw [Try.ntmps61]; simp) ?_
  rw [Try.ntmps61]
  refine IWp.seq ?_
  refine IWp.run [0] ?_
  simp [go_sem, -getElem?_pos, -List.map_take, -List.map_drop, List.getElem?_cons_zero, List.getElem?_cons_succ, Go.IntWalk.iteOmega, Go.IntWalk.toNatUp, IntWalk.u64_in 1 (by omega)]
  refine IWp.seq ?_
  refine IWp.cond ?_
  simp [go_sem, -getElem?_pos, -List.map_take, -List.map_drop, List.getElem?_cons_zero, List.getElem?_cons_succ, Go.IntWalk.iteOmega, Go.IntWalk.toNatUp, IntWalk.u64_in 1 (by omega)]
  refine IWp.trim [0] (IWp.skip ?_)
  simp [go_sem, -getElem?_pos, -List.map_take, -List.map_drop, List.getElem?_cons_zero, List.getElem?_cons_succ, Go.IntWalk.iteOmega, Go.IntWalk.toNatUp, IntWalk.u64_in 1 (by omega)]
  refine IWp.seq ?_
  refine IWp.run [2] ?_
  simp [go_sem, -getElem?_pos, -List.map_take, -List.map_drop, List.getElem?_cons_zero, List.getElem?_cons_succ, Go.IntWalk.iteOmega, Go.IntWalk.toNatUp, IntWalk.u64_in 1 (by omega)]
  refine ICalls.then (bits64_1 _) ?_
  try simp [go_sem, -getElem?_pos, -List.map_take, -List.map_drop, List.getElem?_cons_zero, List.getElem?_cons_succ, Go.IntWalk.iteOmega, Go.IntWalk.toNatUp, IntWalk.u64_in 1 (by omega)]
  refine IWp.ret ?_
  simp [go_sem, -getElem?_pos, -List.map_take, -List.map_drop, List.getElem?_cons_zero, List.getElem?_cons_succ, Go.IntWalk.iteOmega, Go.IntWalk.toNatUp, IntWalk.u64_in 1 (by omega), Try.results61]
  try exact .same _
theorem insert_1 (H : Heap) (b : Nat) (f : Value) : ICalls Try.prog 79 [.slice (some ⟨b, 0, some 5⟩) 1 1, .int .i64 0, .int .i64 1, f] H fun v H' => v = .tuple ⟨[]⟩ ∧ H' = H := by
  refine ICalls.ans (by simp [go_sem]) fun H => IBody.calls (by kernel_rfl) ?_
  refine IBody.of Try.func79 rfl (by rw [Try.ntmps79]; simp) ?_
  rw [Try.ntmps79]
  refine IWp.seq ?_
  refine IWp.run [0, 1, 2, 3, 8] ?_
  simp [go_sem, -getElem?_pos, -List.map_take, -List.map_drop, List.getElem?_cons_zero, List.getElem?_cons_succ, Go.IntWalk.iteOmega, Go.IntWalk.toNatUp, IntWalk.i64_in 1 (by omega)]
  refine IWp.block ?_
  -- LOOP live [0, 1, 2, 3, 8]
  refine IWp.loop (fun q e K => q = 0 ∧ K = H ∧ e = [(0, .slice (some ⟨b, 0, some 5⟩) 1 1), (1, .int .i64 0), (2, .int .i64 1), (3, f), (8, .int .i64 1)]) 0 ⟨rfl, rfl, by simp [go_sem]⟩ ?_
  rintro q e K ⟨rfl, rfl, rfl⟩
  refine IWp.seq ?_
  refine IWp.seq ?_
  refine IWp.run [0, 1, 2, 3, 8, 14] ?_
  simp [go_sem, -getElem?_pos, -List.map_take, -List.map_drop, List.getElem?_cons_zero, List.getElem?_cons_succ, Go.IntWalk.iteOmega, Go.IntWalk.toNatUp]
  refine IWp.cond ?_
  simp [go_sem, -getElem?_pos, -List.map_take, -List.map_drop, List.getElem?_cons_zero, List.getElem?_cons_succ, Go.IntWalk.iteOmega, Go.IntWalk.toNatUp]
  refine IWp.trim [] (IWp.exit ?_)
  simp [go_sem, -getElem?_pos, -List.map_take, -List.map_drop, List.getElem?_cons_zero, List.getElem?_cons_succ, Go.IntWalk.iteOmega, Go.IntWalk.toNatUp]
  try exact .same _
theorem pdq_1 (H : Heap) (b : Nat) (f : Value) (k : Int) : ICalls Try.prog 64 [.slice (some ⟨b, 0, some 5⟩) 1 1, .int .i64 0, .int .i64 1, .int .i64 k, f] H fun v H' => v = .tuple ⟨[]⟩ ∧ H' = H := by
  refine ICalls.ans (by simp [go_sem]) fun H => IBody.calls (by kernel_rfl) ?_
  refine IBody.of Try.func64 rfl (by rw [Try.ntmps64]; simp) ?_
  rw [Try.ntmps64]
  refine IWp.seq ?_
  refine IWp.run [0, 1, 2, 3, 4, 10] ?_
  simp [go_sem, -getElem?_pos, -List.map_take, -List.map_drop, List.getElem?_cons_zero, List.getElem?_cons_succ, Go.IntWalk.iteOmega, Go.IntWalk.toNatUp]
  refine IWp.seq ?_
  refine IWp.run [0, 1, 2, 3, 4, 10, 11] ?_
  simp [go_sem, -getElem?_pos, -List.map_take, -List.map_drop, List.getElem?_cons_zero, List.getElem?_cons_succ, Go.IntWalk.iteOmega, Go.IntWalk.toNatUp]
  refine IWp.block ?_
  -- LOOP live [0, 1, 2, 3, 4, 10, 11]
  refine IWp.loop (fun q e K => q = 0 ∧ K = H ∧ e = [(0, .slice (some ⟨b, 0, some 5⟩) 1 1), (1, .int .i64 0), (2, .int .i64 1), (3, .int .i64 k), (4, f), (10, .bool true), (11, .bool true)]) 0 ⟨rfl, rfl, by simp [go_sem]⟩ ?_
  rintro q e K ⟨rfl, rfl, rfl⟩
  refine IWp.block ?_
  refine IWp.seq ?_
  refine IWp.run [0, 1, 2, 3, 4, 10, 11, 12] ?_
  simp [go_sem, -getElem?_pos, -List.map_take, -List.map_drop, List.getElem?_cons_zero, List.getElem?_cons_succ, Go.IntWalk.iteOmega, Go.IntWalk.toNatUp, IntWalk.i64_in 1 (by omega)]
  refine IWp.seq ?_
  refine IWp.seq ?_
  refine IWp.run [0, 1, 2, 3, 4, 10, 11, 12, 25] ?_
  simp [go_sem, -getElem?_pos, -List.map_take, -List.map_drop, List.getElem?_cons_zero, List.getElem?_cons_succ, Go.IntWalk.iteOmega, Go.IntWalk.toNatUp, IntWalk.i64_in 1 (by omega)]
  refine IWp.cond ?_
  simp [go_sem, -getElem?_pos, -List.map_take, -List.map_drop, List.getElem?_cons_zero, List.getElem?_cons_succ, Go.IntWalk.iteOmega, Go.IntWalk.toNatUp, IntWalk.i64_in 1 (by omega)]
  refine IWp.seq ?_
  refine IWp.run [] ?_
  simp [go_sem, -getElem?_pos, -List.map_take, -List.map_drop, List.getElem?_cons_zero, List.getElem?_cons_succ, Go.IntWalk.iteOmega, Go.IntWalk.toNatUp, IntWalk.i64_in 1 (by omega)]
  refine ICalls.then (insert_1 _ _ _) ?_
  try simp [go_sem, -getElem?_pos, -List.map_take, -List.map_drop, List.getElem?_cons_zero, List.getElem?_cons_succ, Go.IntWalk.iteOmega, Go.IntWalk.toNatUp, IntWalk.i64_in 1 (by omega)]
  refine IWp.ret ?_
  simp [go_sem, -getElem?_pos, -List.map_take, -List.map_drop, List.getElem?_cons_zero, List.getElem?_cons_succ, Go.IntWalk.iteOmega, Go.IntWalk.toNatUp, IntWalk.i64_in 1 (by omega), Try.results64]
  try exact .same _
theorem sort_1 (H : Heap) (b : Nat) (f : Value) : ICalls Try.prog 49 [.slice (some ⟨b, 0, some 5⟩) 1 1, f] H fun v H' => v = .tuple ⟨[]⟩ ∧ H' = H := by
  refine ICalls.ans (by simp [go_sem]) fun H => IBody.calls (by kernel_rfl) ?_
  refine IBody.of Try.func49 rfl (by rw [Try.ntmps49]; simp) ?_
  rw [Try.ntmps49]
  refine IWp.seq ?_
  refine IWp.run [0, 1, 4] ?_
  simp [go_sem, -getElem?_pos, -List.map_take, -List.map_drop, List.getElem?_cons_zero, List.getElem?_cons_succ, Go.IntWalk.iteOmega, Go.IntWalk.toNatUp, IntWalk.u64_in 1 (by omega)]
  refine IWp.run [] ?_
  simp [go_sem, -getElem?_pos, -List.map_take, -List.map_drop, List.getElem?_cons_zero, List.getElem?_cons_succ, Go.IntWalk.iteOmega, Go.IntWalk.toNatUp, IntWalk.u64_in 1 (by omega)]
  refine ICalls.then (bits_1 _) ?_
  try simp [go_sem, -getElem?_pos, -List.map_take, -List.map_drop, List.getElem?_cons_zero, List.getElem?_cons_succ, Go.IntWalk.iteOmega, Go.IntWalk.toNatUp, IntWalk.u64_in 1 (by omega)]
  refine ICalls.then (pdq_1 _ _ _ _) ?_
  try simp [go_sem, -getElem?_pos, -List.map_take, -List.map_drop, List.getElem?_cons_zero, List.getElem?_cons_succ, Go.IntWalk.iteOmega, Go.IntWalk.toNatUp, IntWalk.u64_in 1 (by omega)]
  try exact .same _

end Go.Proofs.Ytdimnoeldnfikaa.I
