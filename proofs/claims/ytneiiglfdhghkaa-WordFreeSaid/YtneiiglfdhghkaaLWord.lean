/- The laws of words: their bodies. No condition. -/
import Derived.Test.YtneiiglfdhghkaaGRead
import Derived.Test.YtneiiglfdhghkaaGWrite
namespace Go.Proofs.Ytneiiglfdhghkaa.I
open Go Go.RowKit
set_option linter.unusedVariables false
set_option linter.unusedSimpArgs false

theorem newReader (H : Heap) (m : Int) (L : List Int) (hL : L.length ≤ 1000000) :
    ICalls Try.prog 26 [frow 1 m (L.map (Value.int .u8))] H fun v H' => v = ptrTo H.next 0 ∧ H' = H.alloc (Rd.cells ⟨L, 0, 0⟩) := by
  refine IBody.calls (by kernel_rfl) ?_
  refine IBody.of Try.func26 rfl (by rw [Try.ntmps26]; simp) ?_
  rw [Try.ntmps26]
  refine IWp.seq ?_
  refine IWp.run [0] ?_
  simp [go_sem, -getElem?_pos, -List.map_take, -List.map_drop, List.getElem?_cons_zero, List.getElem?_cons_succ, Go.IntWalk.iteOmega, Go.IntWalk.toNatUp, Rd.cells]
  refine IWp.seq ?_
  refine IWp.run [2] ?_
  simp [go_sem, -getElem?_pos, -List.map_take, -List.map_drop, List.getElem?_cons_zero, List.getElem?_cons_succ, Go.IntWalk.iteOmega, Go.IntWalk.toNatUp, Rd.cells]
  refine ICalls.mono (clone _ m L hL) ?_
  rintro v H ⟨rfl, rfl⟩
  try simp [go_sem, -getElem?_pos, -List.map_take, -List.map_drop, List.getElem?_cons_zero, List.getElem?_cons_succ, Go.IntWalk.iteOmega, Go.IntWalk.toNatUp, Rd.cells]
  refine IWp.ret ?_
  simp [go_sem, -getElem?_pos, -List.map_take, -List.map_drop, List.getElem?_cons_zero, List.getElem?_cons_succ, Go.IntWalk.iteOmega, Go.IntWalk.toNatUp, Rd.cells, Try.results26]

theorem bs_of {L : List Int} (h : L.all fun x => decide (0 ≤ x ∧ x < 256)) : Bs L := fun x hx => by
  rw [List.all_eq_true] at h
  simpa using h x hx

theorem lays (H : Heap) : ICalls Try.prog 22 [] H fun v H' => v = .bool true ∧ H' = H := by
  refine ICalls.ans (by simp [go_sem]) fun H => IBody.calls (by kernel_rfl) ?_
  have hf : (Rd.mk [2] 0 0).flag = (false, ⟨[2], 0, 2⟩) := by simp [Rd.flag, Rd.ready, Rd.at_]
  have hu : (Rd.mk [2] 0 2).fault = (0, 2) := by simp [Rd.fault]
  have h2 : Bs [2] := bs_of (by decide)
  refine IBody.of Try.func22 rfl (by rw [Try.ntmps22]; simp) ?_
  rw [Try.ntmps22]
  refine IWp.seq ?_
  refine IWp.run [] ?_
  simp [go_sem, -getElem?_pos, -List.map_take, -List.map_drop, List.getElem?_cons_zero, List.getElem?_cons_succ, Go.IntWalk.iteOmega, Go.IntWalk.toNatUp]
  refine IWp.seq ?_
  refine IWp.run [1] ?_
  simp [go_sem, -getElem?_pos, -List.map_take, -List.map_drop, List.getElem?_cons_zero, List.getElem?_cons_succ, Go.IntWalk.iteOmega, Go.IntWalk.toNatUp]
  refine IWp.seq ?_
  refine IWp.run [1, 2] ?_
  simp [go_sem, -getElem?_pos, -List.map_take, -List.map_drop, List.getElem?_cons_zero, List.getElem?_cons_succ, Go.IntWalk.iteOmega, Go.IntWalk.toNatUp]
  refine ICalls.freeze1 (H.next + 1) (.cons (frz_lit ([2].map (Value.int .u8)) (by simp [go_sem]) rfl (map_sz .u8 _) rfl (by simp)) .nil) (ICalls.mono (newReader _ 0 [2] (by decide)) ?_)
  rintro v _ ⟨rfl, rfl⟩
  simp [go_sem]
  refine IWp.seq ?_
  refine IWp.run [1, 2, 3] ?_
  simp [go_sem, -getElem?_pos, -List.map_take, -List.map_drop, List.getElem?_cons_zero, List.getElem?_cons_succ, Go.IntWalk.iteOmega, Go.IntWalk.toNatUp]
  refine ICalls.mono (rFlag _ _ ⟨[2], 0, 0⟩ ⟨by simp, by simp, h2⟩ (by simp [go_sem, Rd.cells])) ?_
  rintro v _ ⟨rfl, rfl⟩
  simp [go_sem, hf]
  refine IWp.seq ?_
  refine IWp.run [1, 3, 4, 5] ?_
  simp [go_sem, -getElem?_pos, -List.map_take, -List.map_drop, List.getElem?_cons_zero, List.getElem?_cons_succ, Go.IntWalk.iteOmega, Go.IntWalk.toNatUp]
  refine ICalls.mono (rFault _ _ ⟨[2], 0, 2⟩ (by simp [go_sem, Rd.cells])) ?_
  rintro v _ ⟨rfl, rfl⟩
  simp [go_sem, hu]
  refine IWp.seq ?_
  refine IWp.run [0] ?_
  simp [go_sem, -getElem?_pos, -List.map_take, -List.map_drop, List.getElem?_cons_zero, List.getElem?_cons_succ, Go.IntWalk.iteOmega, Go.IntWalk.toNatUp]
  refine ICalls.mono (wByte _ H.next none [] 7 (.inl ⟨rfl, rfl, by simp [go_sem, Go.IntWalk.iteOmega]⟩) (by simp)) ?_
  rintro v K1 ⟨rfl, r1, hw1, s1⟩
  simp [go_sem]
  refine ICalls.mono (wInt _ H.next r1 _ (-2) hw1 (by simp)) ?_
  rintro v K2 ⟨rfl, r2, hw2, s2⟩
  simp [go_sem]
  refine ICalls.mono (wBytes _ H.next _ hw2.wrv (by simp [i4])) ?_
  rintro v K3 ⟨rfl, rfl⟩
  simp [go_sem]
  refine ICalls.freeze1 K3.next (.cons (.same _) (.cons (frz_lit ([7, 255, 255, 255, 254].map (Value.int .u8)) (Heap.get_alloc_new _ _) rfl (map_sz .u8 _) rfl (by simp)) .nil)) (ICalls.mono (refBytes _ 0 0 (7 :: i4 (-2)) [7, 255, 255, 255, 254] (by simp [i4])) ?_)
  rintro v _ ⟨rfl, rfl⟩
  simp [go_sem, i4]
  refine IWp.ret ?_
  simp [go_sem, -getElem?_pos, -List.map_take, -List.map_drop, List.getElem?_cons_zero, List.getElem?_cons_succ, Go.IntWalk.iteOmega, Go.IntWalk.toNatUp, Try.results22]

section nils
variable (H : Heap)
theorem nLeft : ICalls Try.prog 28 [.pointer none] H fun v H' => v = .int .i64 0 ∧ H' = H := by
  refine IBody.calls (by kernel_rfl) ?_
  refine IBody.of Try.func28 rfl (by rw [Try.ntmps28]; simp) ?_
  rw [Try.ntmps28]
  refine IWp.seq ?_
  refine IWp.run [0] ?_
  simp [go_sem, -getElem?_pos, -List.map_take, -List.map_drop, List.getElem?_cons_zero, List.getElem?_cons_succ, Go.IntWalk.iteOmega, Go.IntWalk.toNatUp]
  refine IWp.seq ?_
  refine IWp.seq ?_
  refine IWp.run [0, 11] ?_
  simp [go_sem, -getElem?_pos, -List.map_take, -List.map_drop, List.getElem?_cons_zero, List.getElem?_cons_succ, Go.IntWalk.iteOmega, Go.IntWalk.toNatUp]
  refine IWp.cond ?_
  simp [go_sem, -getElem?_pos, -List.map_take, -List.map_drop, List.getElem?_cons_zero, List.getElem?_cons_succ, Go.IntWalk.iteOmega, Go.IntWalk.toNatUp]
  refine IWp.seq ?_
  refine IWp.run [2] ?_
  simp [go_sem, -getElem?_pos, -List.map_take, -List.map_drop, List.getElem?_cons_zero, List.getElem?_cons_succ, Go.IntWalk.iteOmega, Go.IntWalk.toNatUp]
  refine IWp.ret ?_
  simp [go_sem, -getElem?_pos, -List.map_take, -List.map_drop, List.getElem?_cons_zero, List.getElem?_cons_succ, Go.IntWalk.iteOmega, Go.IntWalk.toNatUp, Try.results28]
theorem nFault : ICalls Try.prog 34 [.pointer none] H fun v H' => v = .tuple #[.int .i64 0, .int .i64 7] ∧ H' = H := by
  refine IBody.calls (by kernel_rfl) ?_
  refine IBody.of Try.func34 rfl (by rw [Try.ntmps34]; simp) ?_
  rw [Try.ntmps34]
  refine IWp.seq ?_
  refine IWp.run [0] ?_
  simp [go_sem, -getElem?_pos, -List.map_take, -List.map_drop, List.getElem?_cons_zero, List.getElem?_cons_succ, Go.IntWalk.iteOmega, Go.IntWalk.toNatUp]
  refine IWp.seq ?_
  refine IWp.block ?_
  refine IWp.seq ?_
  refine IWp.run [0, 4] ?_
  simp [go_sem, -getElem?_pos, -List.map_take, -List.map_drop, List.getElem?_cons_zero, List.getElem?_cons_succ, Go.IntWalk.iteOmega, Go.IntWalk.toNatUp]
  refine IWp.cond ?_
  simp [go_sem, -getElem?_pos, -List.map_take, -List.map_drop, List.getElem?_cons_zero, List.getElem?_cons_succ, Go.IntWalk.iteOmega, Go.IntWalk.toNatUp]
  refine IWp.seq ?_
  refine IWp.run [2, 3] ?_
  simp [go_sem, -getElem?_pos, -List.map_take, -List.map_drop, List.getElem?_cons_zero, List.getElem?_cons_succ, Go.IntWalk.iteOmega, Go.IntWalk.toNatUp]
  refine IWp.ret ?_
  simp [go_sem, -getElem?_pos, -List.map_take, -List.map_drop, List.getElem?_cons_zero, List.getElem?_cons_succ, Go.IntWalk.iteOmega, Go.IntWalk.toNatUp, Try.results34]
theorem nEnd : ICalls Try.prog 36 [.pointer none] H fun v H' => v = .tuple #[.int .i64 0, .int .i64 7] ∧ H' = H := by
  refine IBody.calls (by kernel_rfl) ?_
  refine IBody.of Try.func36 rfl (by rw [Try.ntmps36]; simp) ?_
  rw [Try.ntmps36]
  refine IWp.seq ?_
  refine IWp.run [0] ?_
  simp [go_sem, -getElem?_pos, -List.map_take, -List.map_drop, List.getElem?_cons_zero, List.getElem?_cons_succ, Go.IntWalk.iteOmega, Go.IntWalk.toNatUp]
  refine IWp.seq ?_
  refine IWp.seq ?_
  refine IWp.run [0, 6] ?_
  simp [go_sem, -getElem?_pos, -List.map_take, -List.map_drop, List.getElem?_cons_zero, List.getElem?_cons_succ, Go.IntWalk.iteOmega, Go.IntWalk.toNatUp]
  refine ICalls.mono (nLeft _) ?_
  rintro v H ⟨rfl, rfl⟩
  try simp [go_sem, -getElem?_pos, -List.map_take, -List.map_drop, List.getElem?_cons_zero, List.getElem?_cons_succ, Go.IntWalk.iteOmega, Go.IntWalk.toNatUp]
  refine IWp.cond ?_
  simp [go_sem, -getElem?_pos, -List.map_take, -List.map_drop, List.getElem?_cons_zero, List.getElem?_cons_succ, Go.IntWalk.iteOmega, Go.IntWalk.toNatUp]
  refine IWp.trim [0] (IWp.skip ?_)
  simp [go_sem, -getElem?_pos, -List.map_take, -List.map_drop, List.getElem?_cons_zero, List.getElem?_cons_succ, Go.IntWalk.iteOmega, Go.IntWalk.toNatUp]
  refine IWp.seq ?_
  refine IWp.run [2, 3] ?_
  simp [go_sem, -getElem?_pos, -List.map_take, -List.map_drop, List.getElem?_cons_zero, List.getElem?_cons_succ, Go.IntWalk.iteOmega, Go.IntWalk.toNatUp]
  refine ICalls.mono (nFault _) ?_
  rintro v H ⟨rfl, rfl⟩
  try simp [go_sem, -getElem?_pos, -List.map_take, -List.map_drop, List.getElem?_cons_zero, List.getElem?_cons_succ, Go.IntWalk.iteOmega, Go.IntWalk.toNatUp]
  refine IWp.ret ?_
  simp [go_sem, -getElem?_pos, -List.map_take, -List.map_drop, List.getElem?_cons_zero, List.getElem?_cons_succ, Go.IntWalk.iteOmega, Go.IntWalk.toNatUp, Try.results36]
theorem nTake (n : Int) : ICalls Try.prog 47 [.pointer none, .int .i64 n] H fun v H' => v = .slice none 0 0 ∧ H' = H := by
  refine IBody.calls (by kernel_rfl) ?_
  refine IBody.of Try.func47 rfl (by rw [Try.ntmps47]; simp) ?_
  rw [Try.ntmps47]
  refine IWp.seq ?_
  refine IWp.run [0, 1] ?_
  simp [go_sem, -getElem?_pos, -List.map_take, -List.map_drop, List.getElem?_cons_zero, List.getElem?_cons_succ, Go.IntWalk.iteOmega, Go.IntWalk.toNatUp]
  refine IWp.seq ?_
  refine IWp.seq ?_
  refine IWp.run [0, 1, 6] ?_
  simp [go_sem, -getElem?_pos, -List.map_take, -List.map_drop, List.getElem?_cons_zero, List.getElem?_cons_succ, Go.IntWalk.iteOmega, Go.IntWalk.toNatUp]
  refine IWp.cond ?_
  simp [go_sem, -getElem?_pos, -List.map_take, -List.map_drop, List.getElem?_cons_zero, List.getElem?_cons_succ, Go.IntWalk.iteOmega, Go.IntWalk.toNatUp]
  refine IWp.seq ?_
  refine IWp.run [4] ?_
  simp [go_sem, -getElem?_pos, -List.map_take, -List.map_drop, List.getElem?_cons_zero, List.getElem?_cons_succ, Go.IntWalk.iteOmega, Go.IntWalk.toNatUp]
  refine IWp.ret ?_
  simp [go_sem, -getElem?_pos, -List.map_take, -List.map_drop, List.getElem?_cons_zero, List.getElem?_cons_succ, Go.IntWalk.iteOmega, Go.IntWalk.toNatUp, Try.results47]
theorem nByte : ICalls Try.prog 27 [.pointer none] H fun v H' => v = .int .u8 0 ∧ H' = H := by
  refine IBody.calls (by kernel_rfl) ?_
  refine IBody.of Try.func27 rfl (by rw [Try.ntmps27]; simp) ?_
  rw [Try.ntmps27]
  refine IWp.seq ?_
  refine IWp.run [0] ?_
  simp [go_sem, -getElem?_pos, -List.map_take, -List.map_drop, List.getElem?_cons_zero, List.getElem?_cons_succ, Go.IntWalk.iteOmega, Go.IntWalk.toNatUp]
  refine IWp.seq ?_
  refine IWp.run [3] ?_
  simp [go_sem, -getElem?_pos, -List.map_take, -List.map_drop, List.getElem?_cons_zero, List.getElem?_cons_succ, Go.IntWalk.iteOmega, Go.IntWalk.toNatUp]
  refine ICalls.mono (nTake _ _) ?_
  rintro v H ⟨rfl, rfl⟩
  try simp [go_sem, -getElem?_pos, -List.map_take, -List.map_drop, List.getElem?_cons_zero, List.getElem?_cons_succ, Go.IntWalk.iteOmega, Go.IntWalk.toNatUp]
  refine IWp.seq ?_
  refine IWp.seq ?_
  refine IWp.run [3, 8] ?_
  simp [go_sem, -getElem?_pos, -List.map_take, -List.map_drop, List.getElem?_cons_zero, List.getElem?_cons_succ, Go.IntWalk.iteOmega, Go.IntWalk.toNatUp]
  refine IWp.cond ?_
  simp [go_sem, -getElem?_pos, -List.map_take, -List.map_drop, List.getElem?_cons_zero, List.getElem?_cons_succ, Go.IntWalk.iteOmega, Go.IntWalk.toNatUp]
  refine IWp.seq ?_
  refine IWp.run [2] ?_
  simp [go_sem, -getElem?_pos, -List.map_take, -List.map_drop, List.getElem?_cons_zero, List.getElem?_cons_succ, Go.IntWalk.iteOmega, Go.IntWalk.toNatUp]
  refine IWp.ret ?_
  simp [go_sem, -getElem?_pos, -List.map_take, -List.map_drop, List.getElem?_cons_zero, List.getElem?_cons_succ, Go.IntWalk.iteOmega, Go.IntWalk.toNatUp, Try.results27]
theorem nFlag : ICalls Try.prog 30 [.pointer none] H fun v H' => v = .bool false ∧ H' = H := by
  refine IBody.calls (by kernel_rfl) ?_
  refine IBody.of Try.func30 rfl (by rw [Try.ntmps30]; simp) ?_
  rw [Try.ntmps30]
  refine IWp.seq ?_
  refine IWp.run [0] ?_
  simp [go_sem, -getElem?_pos, -List.map_take, -List.map_drop, List.getElem?_cons_zero, List.getElem?_cons_succ, Go.IntWalk.iteOmega, Go.IntWalk.toNatUp]
  refine IWp.seq ?_
  refine IWp.run [0, 3] ?_
  simp [go_sem, -getElem?_pos, -List.map_take, -List.map_drop, List.getElem?_cons_zero, List.getElem?_cons_succ, Go.IntWalk.iteOmega, Go.IntWalk.toNatUp]
  refine ICalls.mono (nByte _) ?_
  rintro v H ⟨rfl, rfl⟩
  try simp [go_sem, -getElem?_pos, -List.map_take, -List.map_drop, List.getElem?_cons_zero, List.getElem?_cons_succ, Go.IntWalk.iteOmega, Go.IntWalk.toNatUp]
  refine IWp.seq ?_
  refine IWp.seq ?_
  refine IWp.run [0, 3, 7] ?_
  simp [go_sem, -getElem?_pos, -List.map_take, -List.map_drop, List.getElem?_cons_zero, List.getElem?_cons_succ, Go.IntWalk.iteOmega, Go.IntWalk.toNatUp]
  refine IWp.cond ?_
  simp [go_sem, -getElem?_pos, -List.map_take, -List.map_drop, List.getElem?_cons_zero, List.getElem?_cons_succ, Go.IntWalk.iteOmega, Go.IntWalk.toNatUp]
  refine IWp.trim [3] (IWp.skip ?_)
  simp [go_sem, -getElem?_pos, -List.map_take, -List.map_drop, List.getElem?_cons_zero, List.getElem?_cons_succ, Go.IntWalk.iteOmega, Go.IntWalk.toNatUp]
  refine IWp.seq ?_
  refine IWp.run [2] ?_
  simp [go_sem, -getElem?_pos, -List.map_take, -List.map_drop, List.getElem?_cons_zero, List.getElem?_cons_succ, Go.IntWalk.iteOmega, Go.IntWalk.toNatUp]
  refine IWp.ret ?_
  simp [go_sem, -getElem?_pos, -List.map_take, -List.map_drop, List.getElem?_cons_zero, List.getElem?_cons_succ, Go.IntWalk.iteOmega, Go.IntWalk.toNatUp, Try.results30]
theorem nInt : ICalls Try.prog 32 [.pointer none] H fun v H' => v = .int .i64 0 ∧ H' = H := by
  refine IBody.calls (by kernel_rfl) ?_
  refine IBody.of Try.func32 rfl (by rw [Try.ntmps32]; simp) ?_
  rw [Try.ntmps32]
  refine IWp.seq ?_
  refine IWp.run [0] ?_
  simp [go_sem, -getElem?_pos, -List.map_take, -List.map_drop, List.getElem?_cons_zero, List.getElem?_cons_succ, Go.IntWalk.iteOmega, Go.IntWalk.toNatUp]
  refine IWp.seq ?_
  refine IWp.run [0, 3] ?_
  simp [go_sem, -getElem?_pos, -List.map_take, -List.map_drop, List.getElem?_cons_zero, List.getElem?_cons_succ, Go.IntWalk.iteOmega, Go.IntWalk.toNatUp]
  refine IWp.seq ?_
  refine IWp.seq ?_
  refine IWp.run [3, 7, 8, 9] ?_
  simp [go_sem, -getElem?_pos, -List.map_take, -List.map_drop, List.getElem?_cons_zero, List.getElem?_cons_succ, Go.IntWalk.iteOmega, Go.IntWalk.toNatUp]
  refine ICalls.mono (nTake _ _) ?_
  rintro v H ⟨rfl, rfl⟩
  try simp [go_sem, -getElem?_pos, -List.map_take, -List.map_drop, List.getElem?_cons_zero, List.getElem?_cons_succ, Go.IntWalk.iteOmega, Go.IntWalk.toNatUp]
  refine IWp.block ?_
  -- LOOP live [3, 7, 8, 9]
  refine IWp.loop (fun j e K => e = [(3, .int .u32 0), (7, .slice none 0 0), (8, .int .i64 0), (9, .int .i64 0)] ∧ K = H) 0 ⟨rfl, rfl⟩ ?_
  rintro j e K ⟨rfl, rfl⟩
  refine IWp.seq ?_
  refine IWp.run [3, 7, 8, 9, 10] ?_
  simp [go_sem, -getElem?_pos, -List.map_take, -List.map_drop, List.getElem?_cons_zero, List.getElem?_cons_succ, Go.IntWalk.iteOmega, Go.IntWalk.toNatUp, show IntKind.i64.wrap (IntKind.i32.wrap 0) = 0 by decide]
  refine IWp.seq ?_
  refine IWp.cond ?_
  simp [go_sem, -getElem?_pos, -List.map_take, -List.map_drop, List.getElem?_cons_zero, List.getElem?_cons_succ, Go.IntWalk.iteOmega, Go.IntWalk.toNatUp, show IntKind.i64.wrap (IntKind.i32.wrap 0) = 0 by decide]
  refine IWp.trim [3] (IWp.exit ?_)
  simp [go_sem, -getElem?_pos, -List.map_take, -List.map_drop, List.getElem?_cons_zero, List.getElem?_cons_succ, Go.IntWalk.iteOmega, Go.IntWalk.toNatUp, show IntKind.i64.wrap (IntKind.i32.wrap 0) = 0 by decide]
  refine IWp.seq ?_
  refine IWp.run [2] ?_
  simp [go_sem, -getElem?_pos, -List.map_take, -List.map_drop, List.getElem?_cons_zero, List.getElem?_cons_succ, Go.IntWalk.iteOmega, Go.IntWalk.toNatUp, show IntKind.i64.wrap (IntKind.i32.wrap 0) = 0 by decide]
  refine IWp.ret ?_
  simp [go_sem, -getElem?_pos, -List.map_take, -List.map_drop, List.getElem?_cons_zero, List.getElem?_cons_succ, Go.IntWalk.iteOmega, Go.IntWalk.toNatUp, show IntKind.i64.wrap (IntKind.i32.wrap 0) = 0 by decide, Try.results32]
theorem nLay (v : Value) : ICalls Try.prog 46 [.pointer none, v] H fun v H' => v = .pointer none ∧ H' = H := by
  refine IBody.calls (by kernel_rfl) ?_
  refine IBody.of Try.func46 rfl (by rw [Try.ntmps46]; simp) ?_
  rw [Try.ntmps46]
  refine IWp.seq ?_
  refine IWp.run [0, 1] ?_
  simp [go_sem, -getElem?_pos, -List.map_take, -List.map_drop, List.getElem?_cons_zero, List.getElem?_cons_succ, Go.IntWalk.iteOmega, Go.IntWalk.toNatUp]
  refine IWp.seq ?_
  refine IWp.seq ?_
  refine IWp.run [0, 1, 6] ?_
  simp [go_sem, -getElem?_pos, -List.map_take, -List.map_drop, List.getElem?_cons_zero, List.getElem?_cons_succ, Go.IntWalk.iteOmega, Go.IntWalk.toNatUp]
  refine IWp.cond ?_
  simp [go_sem, -getElem?_pos, -List.map_take, -List.map_drop, List.getElem?_cons_zero, List.getElem?_cons_succ, Go.IntWalk.iteOmega, Go.IntWalk.toNatUp]
  refine IWp.trim [0] (IWp.skip ?_)
  simp [go_sem, -getElem?_pos, -List.map_take, -List.map_drop, List.getElem?_cons_zero, List.getElem?_cons_succ, Go.IntWalk.iteOmega, Go.IntWalk.toNatUp]
  refine IWp.seq ?_
  refine IWp.run [4] ?_
  simp [go_sem, -getElem?_pos, -List.map_take, -List.map_drop, List.getElem?_cons_zero, List.getElem?_cons_succ, Go.IntWalk.iteOmega, Go.IntWalk.toNatUp]
  refine IWp.ret ?_
  simp [go_sem, -getElem?_pos, -List.map_take, -List.map_drop, List.getElem?_cons_zero, List.getElem?_cons_succ, Go.IntWalk.iteOmega, Go.IntWalk.toNatUp, Try.results46]
theorem nwByte (x : Int) : ICalls Try.prog 24 [.pointer none, .int .u8 x] H fun v H' => v = .pointer none ∧ H' = H := by
  refine ICalls.ans (by simp [go_sem]) fun H => IBody.calls (by kernel_rfl) ?_
  refine IBody.of Try.func24 rfl (by rw [Try.ntmps24]; simp) ?_
  rw [Try.ntmps24]
  refine IWp.seq ?_
  refine IWp.run [0, 1] ?_
  simp [go_sem, -getElem?_pos, -List.map_take, -List.map_drop, List.getElem?_cons_zero, List.getElem?_cons_succ, Go.IntWalk.iteOmega, Go.IntWalk.toNatUp]
  refine IWp.seq ?_
  refine IWp.run [4] ?_
  simp [go_sem, -getElem?_pos, -List.map_take, -List.map_drop, List.getElem?_cons_zero, List.getElem?_cons_succ, Go.IntWalk.iteOmega, Go.IntWalk.toNatUp]
  refine ICalls.mono (nLay _ _) ?_
  rintro v H ⟨rfl, rfl⟩
  try simp [go_sem, -getElem?_pos, -List.map_take, -List.map_drop, List.getElem?_cons_zero, List.getElem?_cons_succ, Go.IntWalk.iteOmega, Go.IntWalk.toNatUp]
  refine IWp.ret ?_
  simp [go_sem, -getElem?_pos, -List.map_take, -List.map_drop, List.getElem?_cons_zero, List.getElem?_cons_succ, Go.IntWalk.iteOmega, Go.IntWalk.toNatUp, Try.results24]
theorem nwFlag : ICalls Try.prog 40 [.pointer none, .bool true] H fun v H' => v = .pointer none ∧ H' = H := by
  refine ICalls.ans (by simp [go_sem]) fun H => IBody.calls (by kernel_rfl) ?_
  refine IBody.of Try.func40 rfl (by rw [Try.ntmps40]; simp) ?_
  rw [Try.ntmps40]
  refine IWp.seq ?_
  refine IWp.run [0, 1] ?_
  simp [go_sem, -getElem?_pos, -List.map_take, -List.map_drop, List.getElem?_cons_zero, List.getElem?_cons_succ, Go.IntWalk.iteOmega, Go.IntWalk.toNatUp]
  refine IWp.seq ?_
  refine IWp.seq ?_
  refine IWp.run [0, 5] ?_
  simp [go_sem, -getElem?_pos, -List.map_take, -List.map_drop, List.getElem?_cons_zero, List.getElem?_cons_succ, Go.IntWalk.iteOmega, Go.IntWalk.toNatUp]
  refine IWp.cond ?_
  simp [go_sem, -getElem?_pos, -List.map_take, -List.map_drop, List.getElem?_cons_zero, List.getElem?_cons_succ, Go.IntWalk.iteOmega, Go.IntWalk.toNatUp]
  refine IWp.seq ?_
  refine IWp.run [4] ?_
  simp [go_sem, -getElem?_pos, -List.map_take, -List.map_drop, List.getElem?_cons_zero, List.getElem?_cons_succ, Go.IntWalk.iteOmega, Go.IntWalk.toNatUp]
  refine ICalls.mono (nLay _ _) ?_
  rintro v H ⟨rfl, rfl⟩
  try simp [go_sem, -getElem?_pos, -List.map_take, -List.map_drop, List.getElem?_cons_zero, List.getElem?_cons_succ, Go.IntWalk.iteOmega, Go.IntWalk.toNatUp]
  refine IWp.ret ?_
  simp [go_sem, -getElem?_pos, -List.map_take, -List.map_drop, List.getElem?_cons_zero, List.getElem?_cons_succ, Go.IntWalk.iteOmega, Go.IntWalk.toNatUp, Try.results40]
theorem nwInt (x : Int) : ICalls Try.prog 41 [.pointer none, .int .i64 x] H fun v H' => v = .pointer none ∧ H' = H := by
  refine ICalls.ans (by simp [go_sem]) fun H => IBody.calls (by kernel_rfl) ?_
  refine IBody.of Try.func41 rfl (by rw [Try.ntmps41]; simp) ?_
  rw [Try.ntmps41]
  refine IWp.seq ?_
  refine IWp.run [0, 1] ?_
  simp [go_sem, -getElem?_pos, -List.map_take, -List.map_drop, List.getElem?_cons_zero, List.getElem?_cons_succ, Go.IntWalk.iteOmega, Go.IntWalk.toNatUp]
  refine IWp.seq ?_
  refine IWp.run [4] ?_
  simp [go_sem, -getElem?_pos, -List.map_take, -List.map_drop, List.getElem?_cons_zero, List.getElem?_cons_succ, Go.IntWalk.iteOmega, Go.IntWalk.toNatUp]
  refine ICalls.mono (nLay _ _) ?_
  rintro v H ⟨rfl, rfl⟩
  try simp [go_sem, -getElem?_pos, -List.map_take, -List.map_drop, List.getElem?_cons_zero, List.getElem?_cons_succ, Go.IntWalk.iteOmega, Go.IntWalk.toNatUp]
  refine IWp.ret ?_
  simp [go_sem, -getElem?_pos, -List.map_take, -List.map_drop, List.getElem?_cons_zero, List.getElem?_cons_succ, Go.IntWalk.iteOmega, Go.IntWalk.toNatUp, Try.results41]
theorem nwBytes : ICalls Try.prog 25 [.pointer none] H fun v H' => v = .slice none 0 0 ∧ H' = H := by
  refine IBody.calls (by kernel_rfl) ?_
  refine IBody.of Try.func25 rfl (by rw [Try.ntmps25]; simp) ?_
  rw [Try.ntmps25]
  refine IWp.seq ?_
  refine IWp.run [0] ?_
  simp [go_sem, -getElem?_pos, -List.map_take, -List.map_drop, List.getElem?_cons_zero, List.getElem?_cons_succ, Go.IntWalk.iteOmega, Go.IntWalk.toNatUp]
  refine IWp.seq ?_
  refine IWp.seq ?_
  refine IWp.run [0, 4] ?_
  simp [go_sem, -getElem?_pos, -List.map_take, -List.map_drop, List.getElem?_cons_zero, List.getElem?_cons_succ, Go.IntWalk.iteOmega, Go.IntWalk.toNatUp]
  refine IWp.cond ?_
  simp [go_sem, -getElem?_pos, -List.map_take, -List.map_drop, List.getElem?_cons_zero, List.getElem?_cons_succ, Go.IntWalk.iteOmega, Go.IntWalk.toNatUp]
  refine IWp.seq ?_
  refine IWp.run [2] ?_
  simp [go_sem, -getElem?_pos, -List.map_take, -List.map_drop, List.getElem?_cons_zero, List.getElem?_cons_succ, Go.IntWalk.iteOmega, Go.IntWalk.toNatUp]
  refine IWp.ret ?_
  simp [go_sem, -getElem?_pos, -List.map_take, -List.map_drop, List.getElem?_cons_zero, List.getElem?_cons_succ, Go.IntWalk.iteOmega, Go.IntWalk.toNatUp, Try.results25]
end nils

theorem wordNil_law (H : Heap) (n : Int) : IBody Try.prog 12 [.int .i64 n] H fun v _ => v = .bool true := by
  refine IBody.of Try.func12 rfl (by rw [Try.ntmps12]; simp) ?_
  rw [Try.ntmps12]
  refine IWp.seq ?_
  refine IWp.run [0] ?_
  simp [go_sem, -getElem?_pos, -List.map_take, -List.map_drop, List.getElem?_cons_zero, List.getElem?_cons_succ, Go.IntWalk.iteOmega, Go.IntWalk.toNatUp]
  refine IWp.seq ?_
  refine IWp.run [0, 3] ?_
  simp [go_sem, -getElem?_pos, -List.map_take, -List.map_drop, List.getElem?_cons_zero, List.getElem?_cons_succ, Go.IntWalk.iteOmega, Go.IntWalk.toNatUp]
  refine IWp.seq ?_
  refine IWp.run [0, 3, 4] ?_
  simp [go_sem, -getElem?_pos, -List.map_take, -List.map_drop, List.getElem?_cons_zero, List.getElem?_cons_succ, Go.IntWalk.iteOmega, Go.IntWalk.toNatUp]
  refine IWp.seq ?_
  refine IWp.run [0, 3, 4, 5, 6] ?_
  simp [go_sem, -getElem?_pos, -List.map_take, -List.map_drop, List.getElem?_cons_zero, List.getElem?_cons_succ, Go.IntWalk.iteOmega, Go.IntWalk.toNatUp]
  refine ICalls.mono (nFault _) ?_
  rintro v H ⟨rfl, rfl⟩
  try simp [go_sem, -getElem?_pos, -List.map_take, -List.map_drop, List.getElem?_cons_zero, List.getElem?_cons_succ, Go.IntWalk.iteOmega, Go.IntWalk.toNatUp]
  refine IWp.seq ?_
  refine IWp.run [0, 3, 4, 5, 6, 8] ?_
  simp [go_sem, -getElem?_pos, -List.map_take, -List.map_drop, List.getElem?_cons_zero, List.getElem?_cons_succ, Go.IntWalk.iteOmega, Go.IntWalk.toNatUp]
  refine ICalls.mono (nEnd _) ?_
  rintro v H ⟨rfl, rfl⟩
  try simp [go_sem, -getElem?_pos, -List.map_take, -List.map_drop, List.getElem?_cons_zero, List.getElem?_cons_succ, Go.IntWalk.iteOmega, Go.IntWalk.toNatUp]
  refine IWp.seq ?_
  refine IWp.run [2] ?_
  simp [go_sem, -getElem?_pos, -List.map_take, -List.map_drop, List.getElem?_cons_zero, List.getElem?_cons_succ, Go.IntWalk.iteOmega, Go.IntWalk.toNatUp]
  refine ICalls.mono (lays _) ?_
  rintro v H ⟨rfl, rfl⟩
  try simp [go_sem, -getElem?_pos, -List.map_take, -List.map_drop, List.getElem?_cons_zero, List.getElem?_cons_succ, Go.IntWalk.iteOmega, Go.IntWalk.toNatUp]
  refine ICalls.mono (nwByte _ _) ?_
  rintro v H ⟨rfl, rfl⟩
  try simp [go_sem, -getElem?_pos, -List.map_take, -List.map_drop, List.getElem?_cons_zero, List.getElem?_cons_succ, Go.IntWalk.iteOmega, Go.IntWalk.toNatUp]
  refine ICalls.mono (nwFlag _) ?_
  rintro v H ⟨rfl, rfl⟩
  try simp [go_sem, -getElem?_pos, -List.map_take, -List.map_drop, List.getElem?_cons_zero, List.getElem?_cons_succ, Go.IntWalk.iteOmega, Go.IntWalk.toNatUp]
  refine ICalls.mono (nwInt _ _) ?_
  rintro v H ⟨rfl, rfl⟩
  try simp [go_sem, -getElem?_pos, -List.map_take, -List.map_drop, List.getElem?_cons_zero, List.getElem?_cons_succ, Go.IntWalk.iteOmega, Go.IntWalk.toNatUp]
  refine ICalls.mono (nwBytes _) ?_
  rintro v H ⟨rfl, rfl⟩
  try simp [go_sem, -getElem?_pos, -List.map_take, -List.map_drop, List.getElem?_cons_zero, List.getElem?_cons_succ, Go.IntWalk.iteOmega, Go.IntWalk.toNatUp]
  refine ICalls.mono (nByte _) ?_
  rintro v H ⟨rfl, rfl⟩
  try simp [go_sem, -getElem?_pos, -List.map_take, -List.map_drop, List.getElem?_cons_zero, List.getElem?_cons_succ, Go.IntWalk.iteOmega, Go.IntWalk.toNatUp]
  refine ICalls.mono (nFlag _) ?_
  rintro v H ⟨rfl, rfl⟩
  try simp [go_sem, -getElem?_pos, -List.map_take, -List.map_drop, List.getElem?_cons_zero, List.getElem?_cons_succ, Go.IntWalk.iteOmega, Go.IntWalk.toNatUp]
  refine ICalls.mono (nInt _) ?_
  rintro v H ⟨rfl, rfl⟩
  try simp [go_sem, -getElem?_pos, -List.map_take, -List.map_drop, List.getElem?_cons_zero, List.getElem?_cons_succ, Go.IntWalk.iteOmega, Go.IntWalk.toNatUp]
  refine ICalls.mono (nLeft _) ?_
  rintro v H ⟨rfl, rfl⟩
  try simp [go_sem, -getElem?_pos, -List.map_take, -List.map_drop, List.getElem?_cons_zero, List.getElem?_cons_succ, Go.IntWalk.iteOmega, Go.IntWalk.toNatUp]
  refine IWp.ret ?_
  simp [go_sem, -getElem?_pos, -List.map_take, -List.map_drop, List.getElem?_cons_zero, List.getElem?_cons_succ, Go.IntWalk.iteOmega, Go.IntWalk.toNatUp, Try.results12]

theorem rd_short (L : List Int) (h : L.length ≤ 3) : (Rd.mk L 0 0).int = (0, ⟨L, 0, 4⟩) := by rw [Rd.int_short rfl (by simp; omega)]

theorem wordShort_law (H : Heap) (L M : List Int) (hB : Bs L) : IBody Try.prog 10 [byts L, byts M] H fun v _ => v = .bool true := by
  by_cases hl : 3 < L.length
  · skip
    refine IBody.of Try.func10 rfl (by rw [Try.ntmps10]; simp) ?_
    rw [Try.ntmps10]
    refine IWp.seq ?_
    refine IWp.run [0, 1] ?_
    simp [go_sem, -getElem?_pos, -List.map_take, -List.map_drop, List.getElem?_cons_zero, List.getElem?_cons_succ, Go.IntWalk.iteOmega, Go.IntWalk.toNatUp, show (3 : Int) < L.length by omega]
    refine IWp.seq ?_
    refine IWp.seq ?_
    refine IWp.run [0, 1, 21] ?_
    simp [go_sem, -getElem?_pos, -List.map_take, -List.map_drop, List.getElem?_cons_zero, List.getElem?_cons_succ, Go.IntWalk.iteOmega, Go.IntWalk.toNatUp, show (3 : Int) < L.length by omega]
    refine ICalls.mono (lays _) ?_
    rintro v H ⟨rfl, rfl⟩
    try simp [go_sem, -getElem?_pos, -List.map_take, -List.map_drop, List.getElem?_cons_zero, List.getElem?_cons_succ, Go.IntWalk.iteOmega, Go.IntWalk.toNatUp, show (3 : Int) < L.length by omega]
    refine IWp.cond ?_
    simp [go_sem, -getElem?_pos, -List.map_take, -List.map_drop, List.getElem?_cons_zero, List.getElem?_cons_succ, Go.IntWalk.iteOmega, Go.IntWalk.toNatUp, show (3 : Int) < L.length by omega]
    refine IWp.seq ?_
    refine IWp.run [4] ?_
    simp [go_sem, -getElem?_pos, -List.map_take, -List.map_drop, List.getElem?_cons_zero, List.getElem?_cons_succ, Go.IntWalk.iteOmega, Go.IntWalk.toNatUp, show (3 : Int) < L.length by omega]
    refine ICalls.mono (lays _) ?_
    rintro v H ⟨rfl, rfl⟩
    try simp [go_sem, -getElem?_pos, -List.map_take, -List.map_drop, List.getElem?_cons_zero, List.getElem?_cons_succ, Go.IntWalk.iteOmega, Go.IntWalk.toNatUp, show (3 : Int) < L.length by omega]
    refine IWp.ret ?_
    simp [go_sem, -getElem?_pos, -List.map_take, -List.map_drop, List.getElem?_cons_zero, List.getElem?_cons_succ, Go.IntWalk.iteOmega, Go.IntWalk.toNatUp, show (3 : Int) < L.length by omega, Try.results10]
  · by_cases hm : 20 < M.length
    · skip
      refine IBody.of Try.func10 rfl (by rw [Try.ntmps10]; simp) ?_
      rw [Try.ntmps10]
      refine IWp.seq ?_
      refine IWp.run [0, 1] ?_
      simp [go_sem, -getElem?_pos, -List.map_take, -List.map_drop, List.getElem?_cons_zero, List.getElem?_cons_succ, Go.IntWalk.iteOmega, Go.IntWalk.toNatUp, show ¬ (3 : Int) < L.length by omega, show (20 : Int) < M.length by omega]
      refine IWp.seq ?_
      refine IWp.seq ?_
      refine IWp.run [0, 1, 21] ?_
      simp [go_sem, -getElem?_pos, -List.map_take, -List.map_drop, List.getElem?_cons_zero, List.getElem?_cons_succ, Go.IntWalk.iteOmega, Go.IntWalk.toNatUp, show ¬ (3 : Int) < L.length by omega, show (20 : Int) < M.length by omega]
      refine ICalls.mono (lays _) ?_
      rintro v H ⟨rfl, rfl⟩
      try simp [go_sem, -getElem?_pos, -List.map_take, -List.map_drop, List.getElem?_cons_zero, List.getElem?_cons_succ, Go.IntWalk.iteOmega, Go.IntWalk.toNatUp, show ¬ (3 : Int) < L.length by omega, show (20 : Int) < M.length by omega]
      refine IWp.cond ?_
      simp [go_sem, -getElem?_pos, -List.map_take, -List.map_drop, List.getElem?_cons_zero, List.getElem?_cons_succ, Go.IntWalk.iteOmega, Go.IntWalk.toNatUp, show ¬ (3 : Int) < L.length by omega, show (20 : Int) < M.length by omega]
      refine IWp.seq ?_
      refine IWp.run [4] ?_
      simp [go_sem, -getElem?_pos, -List.map_take, -List.map_drop, List.getElem?_cons_zero, List.getElem?_cons_succ, Go.IntWalk.iteOmega, Go.IntWalk.toNatUp, show ¬ (3 : Int) < L.length by omega, show (20 : Int) < M.length by omega]
      refine ICalls.mono (lays _) ?_
      rintro v H ⟨rfl, rfl⟩
      try simp [go_sem, -getElem?_pos, -List.map_take, -List.map_drop, List.getElem?_cons_zero, List.getElem?_cons_succ, Go.IntWalk.iteOmega, Go.IntWalk.toNatUp, show ¬ (3 : Int) < L.length by omega, show (20 : Int) < M.length by omega]
      refine IWp.ret ?_
      simp [go_sem, -getElem?_pos, -List.map_take, -List.map_drop, List.getElem?_cons_zero, List.getElem?_cons_succ, Go.IntWalk.iteOmega, Go.IntWalk.toNatUp, show ¬ (3 : Int) < L.length by omega, show (20 : Int) < M.length by omega, Try.results10]
    · have hs : (Rd.mk L 0 4).ok := ⟨by simp, by simp; omega, hB⟩
      have e1 := Rd.byte_bad (s := Rd.mk L 0 4) (by simp)
      have e2 := Rd.flag_bad (s := Rd.mk L 0 4) (by simp)
      have e3 := Rd.int_bad (s := Rd.mk L 0 4) (by simp)
      have e4 : (Rd.mk L 0 4).left = 0 := Rd.left_bad (by simp)
      have e5 : (Rd.mk L 0 4).ending = (0, 4) := by simp [Rd.ending, e4, Rd.fault]
      refine IBody.of Try.func10 rfl (by rw [Try.ntmps10]; simp) ?_
      rw [Try.ntmps10]
      refine IWp.seq ?_
      refine IWp.run [0, 1] ?_
      simp [go_sem, -getElem?_pos, -List.map_take, -List.map_drop, List.getElem?_cons_zero, List.getElem?_cons_succ, Go.IntWalk.iteOmega, Go.IntWalk.toNatUp, show ¬ (3 : Int) < L.length by omega, show ¬ (20 : Int) < M.length by omega, rd_short L (by omega)]
      refine IWp.seq ?_
      refine IWp.seq ?_
      refine IWp.run [0, 1, 21] ?_
      simp [go_sem, -getElem?_pos, -List.map_take, -List.map_drop, List.getElem?_cons_zero, List.getElem?_cons_succ, Go.IntWalk.iteOmega, Go.IntWalk.toNatUp, show ¬ (3 : Int) < L.length by omega, show ¬ (20 : Int) < M.length by omega, rd_short L (by omega)]
      refine ICalls.mono (lays _) ?_
      rintro v H ⟨rfl, rfl⟩
      try simp [go_sem, -getElem?_pos, -List.map_take, -List.map_drop, List.getElem?_cons_zero, List.getElem?_cons_succ, Go.IntWalk.iteOmega, Go.IntWalk.toNatUp, show ¬ (3 : Int) < L.length by omega, show ¬ (20 : Int) < M.length by omega, rd_short L (by omega)]
      refine IWp.cond ?_
      simp [go_sem, -getElem?_pos, -List.map_take, -List.map_drop, List.getElem?_cons_zero, List.getElem?_cons_succ, Go.IntWalk.iteOmega, Go.IntWalk.toNatUp, show ¬ (3 : Int) < L.length by omega, show ¬ (20 : Int) < M.length by omega, rd_short L (by omega)]
      refine IWp.trim [0, 1] (IWp.skip ?_)
      simp [go_sem, -getElem?_pos, -List.map_take, -List.map_drop, List.getElem?_cons_zero, List.getElem?_cons_succ, Go.IntWalk.iteOmega, Go.IntWalk.toNatUp, show ¬ (3 : Int) < L.length by omega, show ¬ (20 : Int) < M.length by omega, rd_short L (by omega)]
      refine IWp.seq ?_
      refine IWp.run [1, 5] ?_
      simp [go_sem, -getElem?_pos, -List.map_take, -List.map_drop, List.getElem?_cons_zero, List.getElem?_cons_succ, Go.IntWalk.iteOmega, Go.IntWalk.toNatUp, show ¬ (3 : Int) < L.length by omega, show ¬ (20 : Int) < M.length by omega, rd_short L (by omega)]
      refine ICalls.mono (newReader _ 0 L (by omega)) ?_
      rintro v _ ⟨rfl, rfl⟩
      try simp [go_sem, -getElem?_pos, -List.map_take, -List.map_drop, List.getElem?_cons_zero, List.getElem?_cons_succ, Go.IntWalk.iteOmega, Go.IntWalk.toNatUp, show ¬ (3 : Int) < L.length by omega, show ¬ (20 : Int) < M.length by omega, rd_short L (by omega)]
      refine IWp.seq ?_
      refine IWp.run [1, 5, 6] ?_
      simp [go_sem, -getElem?_pos, -List.map_take, -List.map_drop, List.getElem?_cons_zero, List.getElem?_cons_succ, Go.IntWalk.iteOmega, Go.IntWalk.toNatUp, show ¬ (3 : Int) < L.length by omega, show ¬ (20 : Int) < M.length by omega, rd_short L (by omega)]
      refine ICalls.mono (rInt _ _ ⟨L, 0, 0⟩ ⟨by simp, by simp; omega, hB⟩ (by simp [go_sem])) ?_
      rintro v _ ⟨rfl, rfl⟩
      try simp [go_sem, -getElem?_pos, -List.map_take, -List.map_drop, List.getElem?_cons_zero, List.getElem?_cons_succ, Go.IntWalk.iteOmega, Go.IntWalk.toNatUp, show ¬ (3 : Int) < L.length by omega, show ¬ (20 : Int) < M.length by omega, rd_short L (by omega)]
      refine IWp.seq ?_
      refine IWp.seq ?_
      refine IWp.run [1, 5, 6, 7] ?_
      simp [go_sem, -getElem?_pos, -List.map_take, -List.map_drop, List.getElem?_cons_zero, List.getElem?_cons_succ, Go.IntWalk.iteOmega, Go.IntWalk.toNatUp, show ¬ (3 : Int) < L.length by omega, show ¬ (20 : Int) < M.length by omega, rd_short L (by omega)]
      refine IWp.block ?_
      -- LOOP live [1, 5, 6, 7]
      refine IWp.loop (fun j e K => ∃ i : Nat, j = M.length - i ∧ i ≤ M.length ∧ e = [(1, byts M), (5, ptrTo H.next 0), (6, .int .i64 0), (7, .int .i64 (i : Int))] ∧ K = H.alloc (Rd.cells ⟨L, 0, 4⟩)) M.length ⟨0, rfl, Nat.zero_le _, rfl, rfl⟩ ?_
      rintro j e K ⟨i, rfl, hi, rfl, rfl⟩
      by_cases hlt : i < M.length
      · have w1 := IntWalk.i64_in ((i : Int) + 1) (by omega)
        refine IWp.seq ?_
        refine IWp.seq ?_
        refine IWp.run [1, 5, 6, 7, 30] ?_
        simp [go_sem, -getElem?_pos, -List.map_take, -List.map_drop, List.getElem?_cons_zero, List.getElem?_cons_succ, Go.IntWalk.iteOmega, Go.IntWalk.toNatUp, hlt, w1, e1, e2, e3, show (i : Int) < M.length by omega]
        refine IWp.cond ?_
        simp [go_sem, -getElem?_pos, -List.map_take, -List.map_drop, List.getElem?_cons_zero, List.getElem?_cons_succ, Go.IntWalk.iteOmega, Go.IntWalk.toNatUp, hlt, w1, e1, e2, e3, show (i : Int) < M.length by omega]
        refine IWp.trim [1, 5, 6, 7] (IWp.skip ?_)
        simp [go_sem, -getElem?_pos, -List.map_take, -List.map_drop, List.getElem?_cons_zero, List.getElem?_cons_succ, Go.IntWalk.iteOmega, Go.IntWalk.toNatUp, hlt, w1, e1, e2, e3, show (i : Int) < M.length by omega]
        refine IWp.seq ?_
        refine IWp.block ?_
        refine IWp.seq ?_
        refine IWp.run [1, 5, 6, 7, 44] ?_
        simp [go_sem, -getElem?_pos, -List.map_take, -List.map_drop, List.getElem?_cons_zero, List.getElem?_cons_succ, Go.IntWalk.iteOmega, Go.IntWalk.toNatUp, hlt, w1, e1, e2, e3, show (i : Int) < M.length by omega]
        refine ICalls.mono (rByte _ _ ⟨L, 0, 4⟩ hs (by simp [go_sem])) ?_
        rintro v _ ⟨rfl, rfl⟩
        try simp [go_sem, -getElem?_pos, -List.map_take, -List.map_drop, List.getElem?_cons_zero, List.getElem?_cons_succ, Go.IntWalk.iteOmega, Go.IntWalk.toNatUp, hlt, w1, e1, e2, e3, show (i : Int) < M.length by omega]
        refine ICalls.mono (rFlag _ _ ⟨L, 0, 4⟩ hs (by simp [go_sem])) ?_
        rintro v _ ⟨rfl, rfl⟩
        try simp [go_sem, -getElem?_pos, -List.map_take, -List.map_drop, List.getElem?_cons_zero, List.getElem?_cons_succ, Go.IntWalk.iteOmega, Go.IntWalk.toNatUp, hlt, w1, e1, e2, e3, show (i : Int) < M.length by omega]
        refine ICalls.mono (rInt _ _ ⟨L, 0, 4⟩ hs (by simp [go_sem])) ?_
        rintro v _ ⟨rfl, rfl⟩
        try simp [go_sem, -getElem?_pos, -List.map_take, -List.map_drop, List.getElem?_cons_zero, List.getElem?_cons_succ, Go.IntWalk.iteOmega, Go.IntWalk.toNatUp, hlt, w1, e1, e2, e3, show (i : Int) < M.length by omega]
        refine IWp.cond ?_
        simp [go_sem, -getElem?_pos, -List.map_take, -List.map_drop, List.getElem?_cons_zero, List.getElem?_cons_succ, Go.IntWalk.iteOmega, Go.IntWalk.toNatUp, hlt, w1, e1, e2, e3, show (i : Int) < M.length by omega]
        refine IWp.trim [1, 5, 6, 7] (IWp.skip ?_)
        simp [go_sem, -getElem?_pos, -List.map_take, -List.map_drop, List.getElem?_cons_zero, List.getElem?_cons_succ, Go.IntWalk.iteOmega, Go.IntWalk.toNatUp, hlt, w1, e1, e2, e3, show (i : Int) < M.length by omega]
        refine IWp.run [1, 5, 6, 7] ?_
        simp [go_sem, -getElem?_pos, -List.map_take, -List.map_drop, List.getElem?_cons_zero, List.getElem?_cons_succ, Go.IntWalk.iteOmega, Go.IntWalk.toNatUp, hlt, w1, e1, e2, e3, show (i : Int) < M.length by omega]
        exact ⟨M.length - (i + 1), by omega, i + 1, rfl, by omega, rfl⟩
      · skip
        refine IWp.seq ?_
        refine IWp.seq ?_
        refine IWp.run [1, 5, 6, 7, 30] ?_
        simp [go_sem, -getElem?_pos, -List.map_take, -List.map_drop, List.getElem?_cons_zero, List.getElem?_cons_succ, Go.IntWalk.iteOmega, Go.IntWalk.toNatUp, show ¬ ((i : Int) < M.length) by omega, e4, e5]
        refine IWp.cond ?_
        simp [go_sem, -getElem?_pos, -List.map_take, -List.map_drop, List.getElem?_cons_zero, List.getElem?_cons_succ, Go.IntWalk.iteOmega, Go.IntWalk.toNatUp, show ¬ ((i : Int) < M.length) by omega, e4, e5]
        refine IWp.trim [5, 6] (IWp.exit ?_)
        simp [go_sem, -getElem?_pos, -List.map_take, -List.map_drop, List.getElem?_cons_zero, List.getElem?_cons_succ, Go.IntWalk.iteOmega, Go.IntWalk.toNatUp, show ¬ ((i : Int) < M.length) by omega, e4, e5]
        refine IWp.seq ?_
        refine IWp.run [5, 6, 8, 9] ?_
        simp [go_sem, -getElem?_pos, -List.map_take, -List.map_drop, List.getElem?_cons_zero, List.getElem?_cons_succ, Go.IntWalk.iteOmega, Go.IntWalk.toNatUp, show ¬ ((i : Int) < M.length) by omega, e4, e5]
        refine ICalls.mono (rEnd _ _ ⟨L, 0, 4⟩ hs (by simp [go_sem])) ?_
        rintro v _ ⟨rfl, rfl⟩
        try simp [go_sem, -getElem?_pos, -List.map_take, -List.map_drop, List.getElem?_cons_zero, List.getElem?_cons_succ, Go.IntWalk.iteOmega, Go.IntWalk.toNatUp, show ¬ ((i : Int) < M.length) by omega, e4, e5]
        refine IWp.seq ?_
        refine IWp.run [4] ?_
        simp [go_sem, -getElem?_pos, -List.map_take, -List.map_drop, List.getElem?_cons_zero, List.getElem?_cons_succ, Go.IntWalk.iteOmega, Go.IntWalk.toNatUp, show ¬ ((i : Int) < M.length) by omega, e4, e5]
        refine ICalls.mono (rLeft _ _ ⟨L, 0, 4⟩ hs (by simp [go_sem])) ?_
        rintro v _ ⟨rfl, rfl⟩
        try simp [go_sem, -getElem?_pos, -List.map_take, -List.map_drop, List.getElem?_cons_zero, List.getElem?_cons_succ, Go.IntWalk.iteOmega, Go.IntWalk.toNatUp, show ¬ ((i : Int) < M.length) by omega, e4, e5]
        refine IWp.ret ?_
        simp [go_sem, -getElem?_pos, -List.map_take, -List.map_drop, List.getElem?_cons_zero, List.getElem?_cons_succ, Go.IntWalk.iteOmega, Go.IntWalk.toNatUp, show ¬ ((i : Int) < M.length) by omega, e4, e5, Try.results10]

theorem wordReads_law (H : Heap) (L M : List Int) (hB : Bs L) (hM : Bs M) : IBody Try.prog 9 [byts L, byts M] H fun v _ => v = .bool true := by
  by_cases hl : 100 < L.length
  · skip
    refine IBody.of Try.func9 rfl (by rw [Try.ntmps9]; simp) ?_
    rw [Try.ntmps9]
    refine IWp.seq ?_
    refine IWp.run [0, 1] ?_
    simp [go_sem, -getElem?_pos, -List.map_take, -List.map_drop, List.getElem?_cons_zero, List.getElem?_cons_succ, Go.IntWalk.iteOmega, Go.IntWalk.toNatUp, show (100 : Int) < L.length by omega]
    refine IWp.seq ?_
    refine IWp.seq ?_
    refine IWp.run [0, 1, 28] ?_
    simp [go_sem, -getElem?_pos, -List.map_take, -List.map_drop, List.getElem?_cons_zero, List.getElem?_cons_succ, Go.IntWalk.iteOmega, Go.IntWalk.toNatUp, show (100 : Int) < L.length by omega]
    refine ICalls.mono (lays _) ?_
    rintro v H ⟨rfl, rfl⟩
    try simp [go_sem, -getElem?_pos, -List.map_take, -List.map_drop, List.getElem?_cons_zero, List.getElem?_cons_succ, Go.IntWalk.iteOmega, Go.IntWalk.toNatUp, show (100 : Int) < L.length by omega]
    refine IWp.cond ?_
    simp [go_sem, -getElem?_pos, -List.map_take, -List.map_drop, List.getElem?_cons_zero, List.getElem?_cons_succ, Go.IntWalk.iteOmega, Go.IntWalk.toNatUp, show (100 : Int) < L.length by omega]
    refine IWp.seq ?_
    refine IWp.run [4] ?_
    simp [go_sem, -getElem?_pos, -List.map_take, -List.map_drop, List.getElem?_cons_zero, List.getElem?_cons_succ, Go.IntWalk.iteOmega, Go.IntWalk.toNatUp, show (100 : Int) < L.length by omega]
    refine ICalls.mono (lays _) ?_
    rintro v H ⟨rfl, rfl⟩
    try simp [go_sem, -getElem?_pos, -List.map_take, -List.map_drop, List.getElem?_cons_zero, List.getElem?_cons_succ, Go.IntWalk.iteOmega, Go.IntWalk.toNatUp, show (100 : Int) < L.length by omega]
    refine IWp.ret ?_
    simp [go_sem, -getElem?_pos, -List.map_take, -List.map_drop, List.getElem?_cons_zero, List.getElem?_cons_succ, Go.IntWalk.iteOmega, Go.IntWalk.toNatUp, show (100 : Int) < L.length by omega, Try.results9]
  · by_cases hm : 60 < M.length
    · skip
      refine IBody.of Try.func9 rfl (by rw [Try.ntmps9]; simp) ?_
      rw [Try.ntmps9]
      refine IWp.seq ?_
      refine IWp.run [0, 1] ?_
      simp [go_sem, -getElem?_pos, -List.map_take, -List.map_drop, List.getElem?_cons_zero, List.getElem?_cons_succ, Go.IntWalk.iteOmega, Go.IntWalk.toNatUp, show ¬ (100 : Int) < L.length by omega, show (60 : Int) < M.length by omega]
      refine IWp.seq ?_
      refine IWp.seq ?_
      refine IWp.run [0, 1, 28] ?_
      simp [go_sem, -getElem?_pos, -List.map_take, -List.map_drop, List.getElem?_cons_zero, List.getElem?_cons_succ, Go.IntWalk.iteOmega, Go.IntWalk.toNatUp, show ¬ (100 : Int) < L.length by omega, show (60 : Int) < M.length by omega]
      refine ICalls.mono (lays _) ?_
      rintro v H ⟨rfl, rfl⟩
      try simp [go_sem, -getElem?_pos, -List.map_take, -List.map_drop, List.getElem?_cons_zero, List.getElem?_cons_succ, Go.IntWalk.iteOmega, Go.IntWalk.toNatUp, show ¬ (100 : Int) < L.length by omega, show (60 : Int) < M.length by omega]
      refine IWp.cond ?_
      simp [go_sem, -getElem?_pos, -List.map_take, -List.map_drop, List.getElem?_cons_zero, List.getElem?_cons_succ, Go.IntWalk.iteOmega, Go.IntWalk.toNatUp, show ¬ (100 : Int) < L.length by omega, show (60 : Int) < M.length by omega]
      refine IWp.seq ?_
      refine IWp.run [4] ?_
      simp [go_sem, -getElem?_pos, -List.map_take, -List.map_drop, List.getElem?_cons_zero, List.getElem?_cons_succ, Go.IntWalk.iteOmega, Go.IntWalk.toNatUp, show ¬ (100 : Int) < L.length by omega, show (60 : Int) < M.length by omega]
      refine ICalls.mono (lays _) ?_
      rintro v H ⟨rfl, rfl⟩
      try simp [go_sem, -getElem?_pos, -List.map_take, -List.map_drop, List.getElem?_cons_zero, List.getElem?_cons_succ, Go.IntWalk.iteOmega, Go.IntWalk.toNatUp, show ¬ (100 : Int) < L.length by omega, show (60 : Int) < M.length by omega]
      refine IWp.ret ?_
      simp [go_sem, -getElem?_pos, -List.map_take, -List.map_drop, List.getElem?_cons_zero, List.getElem?_cons_succ, Go.IntWalk.iteOmega, Go.IntWalk.toNatUp, show ¬ (100 : Int) < L.length by omega, show (60 : Int) < M.length by omega, Try.results9]
    · skip
      refine IBody.of Try.func9 rfl (by rw [Try.ntmps9]; simp) ?_
      rw [Try.ntmps9]
      refine IWp.seq ?_
      refine IWp.run [0, 1] ?_
      simp [go_sem, -getElem?_pos, -List.map_take, -List.map_drop, List.getElem?_cons_zero, List.getElem?_cons_succ, Go.IntWalk.iteOmega, Go.IntWalk.toNatUp, show ¬ (100 : Int) < L.length by omega, show ¬ (60 : Int) < M.length by omega, Rd.cells]
      refine IWp.seq ?_
      refine IWp.seq ?_
      refine IWp.run [0, 1, 28] ?_
      simp [go_sem, -getElem?_pos, -List.map_take, -List.map_drop, List.getElem?_cons_zero, List.getElem?_cons_succ, Go.IntWalk.iteOmega, Go.IntWalk.toNatUp, show ¬ (100 : Int) < L.length by omega, show ¬ (60 : Int) < M.length by omega, Rd.cells]
      refine ICalls.mono (lays _) ?_
      rintro v H ⟨rfl, rfl⟩
      try simp [go_sem, -getElem?_pos, -List.map_take, -List.map_drop, List.getElem?_cons_zero, List.getElem?_cons_succ, Go.IntWalk.iteOmega, Go.IntWalk.toNatUp, show ¬ (100 : Int) < L.length by omega, show ¬ (60 : Int) < M.length by omega, Rd.cells]
      refine IWp.cond ?_
      simp [go_sem, -getElem?_pos, -List.map_take, -List.map_drop, List.getElem?_cons_zero, List.getElem?_cons_succ, Go.IntWalk.iteOmega, Go.IntWalk.toNatUp, show ¬ (100 : Int) < L.length by omega, show ¬ (60 : Int) < M.length by omega, Rd.cells]
      refine IWp.trim [0, 1] (IWp.skip ?_)
      simp [go_sem, -getElem?_pos, -List.map_take, -List.map_drop, List.getElem?_cons_zero, List.getElem?_cons_succ, Go.IntWalk.iteOmega, Go.IntWalk.toNatUp, show ¬ (100 : Int) < L.length by omega, show ¬ (60 : Int) < M.length by omega, Rd.cells]
      refine IWp.seq ?_
      refine IWp.run [1, 5, 6] ?_
      simp [go_sem, -getElem?_pos, -List.map_take, -List.map_drop, List.getElem?_cons_zero, List.getElem?_cons_succ, Go.IntWalk.iteOmega, Go.IntWalk.toNatUp, show ¬ (100 : Int) < L.length by omega, show ¬ (60 : Int) < M.length by omega, Rd.cells]
      refine ICalls.mono (newReader _ 0 L (by omega)) ?_
      rintro v _ ⟨rfl, rfl⟩
      try simp [go_sem, -getElem?_pos, -List.map_take, -List.map_drop, List.getElem?_cons_zero, List.getElem?_cons_succ, Go.IntWalk.iteOmega, Go.IntWalk.toNatUp, show ¬ (100 : Int) < L.length by omega, show ¬ (60 : Int) < M.length by omega, Rd.cells]
      refine IWp.seq ?_
      refine IWp.seq ?_
      refine IWp.run [1, 5, 6, 7] ?_
      simp [go_sem, -getElem?_pos, -List.map_take, -List.map_drop, List.getElem?_cons_zero, List.getElem?_cons_succ, Go.IntWalk.iteOmega, Go.IntWalk.toNatUp, show ¬ (100 : Int) < L.length by omega, show ¬ (60 : Int) < M.length by omega, Rd.cells]
      refine IWp.block ?_
      -- LOOP live [1, 5, 6, 7]
      refine IWp.loop (fun j e K => ∃ (i : Nat) (s : Rd), j = M.length - i ∧ i ≤ M.length ∧ s.ok ∧ e = [(1, byts M), (5, ptrTo H.next 0), (6, ptrTo (H.next + 1) 0), (7, .int .i64 (i : Int))] ∧ K = (H.alloc s.cells).alloc s.cells) M.length ⟨0, ⟨L, 0, 0⟩, rfl, Nat.zero_le _, ⟨by simp, by simp; omega, hB⟩, rfl, rfl⟩ ?_
      rintro j e K ⟨i, s, rfl, hi, hs, rfl, rfl⟩
      by_cases hlt : i < M.length
      · have w1 := IntWalk.i64_in ((i : Int) + 1) (by omega)
        have hx := hM _ (List.getElem_mem hlt)
        have ht : M[i].tmod 3 = 0 ∨ M[i].tmod 3 = 1 ∨ (¬ M[i].tmod 3 = 0 ∧ ¬ M[i].tmod 3 = 1) := by omega
        rcases ht with h0 | h0 | ⟨h0, h1⟩
        · skip
          refine IWp.seq ?_
          refine IWp.seq ?_
          refine IWp.run [1, 5, 6, 7, 38] ?_
          simp [go_sem, -getElem?_pos, -List.map_take, -List.map_drop, List.getElem?_cons_zero, List.getElem?_cons_succ, Go.IntWalk.iteOmega, Go.IntWalk.toNatUp, hlt, w1, List.getElem?_eq_getElem hlt, h0, show (i : Int) < M.length by omega, show ¬ ((i : Int) < 0) by omega]
          refine IWp.cond ?_
          simp [go_sem, -getElem?_pos, -List.map_take, -List.map_drop, List.getElem?_cons_zero, List.getElem?_cons_succ, Go.IntWalk.iteOmega, Go.IntWalk.toNatUp, hlt, w1, List.getElem?_eq_getElem hlt, h0, show (i : Int) < M.length by omega, show ¬ ((i : Int) < 0) by omega]
          refine IWp.trim [1, 5, 6, 7] (IWp.skip ?_)
          simp [go_sem, -getElem?_pos, -List.map_take, -List.map_drop, List.getElem?_cons_zero, List.getElem?_cons_succ, Go.IntWalk.iteOmega, Go.IntWalk.toNatUp, hlt, w1, List.getElem?_eq_getElem hlt, h0, show (i : Int) < M.length by omega, show ¬ ((i : Int) < 0) by omega]
          refine IWp.seq ?_
          refine IWp.block ?_
          refine IWp.seq ?_
          refine IWp.run [1, 5, 6, 7] ?_
          simp [go_sem, -getElem?_pos, -List.map_take, -List.map_drop, List.getElem?_cons_zero, List.getElem?_cons_succ, Go.IntWalk.iteOmega, Go.IntWalk.toNatUp, hlt, w1, List.getElem?_eq_getElem hlt, h0, show (i : Int) < M.length by omega, show ¬ ((i : Int) < 0) by omega]
          refine IWp.seq ?_
          refine IWp.seq ?_
          refine IWp.run [1, 5, 6, 7, 45] ?_
          simp [go_sem, -getElem?_pos, -List.map_take, -List.map_drop, List.getElem?_cons_zero, List.getElem?_cons_succ, Go.IntWalk.iteOmega, Go.IntWalk.toNatUp, hlt, w1, List.getElem?_eq_getElem hlt, h0, show (i : Int) < M.length by omega, show ¬ ((i : Int) < 0) by omega]
          refine IWp.block ?_
          refine IWp.seq ?_
          refine IWp.run [1, 5, 6, 7, 45, 51] ?_
          simp [go_sem, -getElem?_pos, -List.map_take, -List.map_drop, List.getElem?_cons_zero, List.getElem?_cons_succ, Go.IntWalk.iteOmega, Go.IntWalk.toNatUp, hlt, w1, List.getElem?_eq_getElem hlt, h0, show (i : Int) < M.length by omega, show ¬ ((i : Int) < 0) by omega]
          refine IWp.cond ?_
          simp [go_sem, -getElem?_pos, -List.map_take, -List.map_drop, List.getElem?_cons_zero, List.getElem?_cons_succ, Go.IntWalk.iteOmega, Go.IntWalk.toNatUp, hlt, w1, List.getElem?_eq_getElem hlt, h0, show (i : Int) < M.length by omega, show ¬ ((i : Int) < 0) by omega]
          refine IWp.run [1, 5, 6, 7, 8] ?_
          simp [go_sem, -getElem?_pos, -List.map_take, -List.map_drop, List.getElem?_cons_zero, List.getElem?_cons_succ, Go.IntWalk.iteOmega, Go.IntWalk.toNatUp, hlt, w1, List.getElem?_eq_getElem hlt, h0, show (i : Int) < M.length by omega, show ¬ ((i : Int) < 0) by omega]
          refine ICalls.mono (rByte _ _ s hs (by simp [go_sem, Go.IntWalk.iteOmega])) ?_
          rintro v _ ⟨rfl, rfl⟩
          try simp [go_sem, -getElem?_pos, -List.map_take, -List.map_drop, List.getElem?_cons_zero, List.getElem?_cons_succ, Go.IntWalk.iteOmega, Go.IntWalk.toNatUp, hlt, w1, List.getElem?_eq_getElem hlt, h0, show (i : Int) < M.length by omega, show ¬ ((i : Int) < 0) by omega]
          refine ICalls.mono (mByte _ _ s hs (by simp [go_sem, Go.IntWalk.iteOmega])) ?_
          rintro v _ ⟨rfl, rfl⟩
          try simp [go_sem, -getElem?_pos, -List.map_take, -List.map_drop, List.getElem?_cons_zero, List.getElem?_cons_succ, Go.IntWalk.iteOmega, Go.IntWalk.toNatUp, hlt, w1, List.getElem?_eq_getElem hlt, h0, show (i : Int) < M.length by omega, show ¬ ((i : Int) < 0) by omega]
          refine IWp.seq ?_
          refine IWp.run [1, 5, 6, 7, 8, 9, 10] ?_
          simp [go_sem, -getElem?_pos, -List.map_take, -List.map_drop, List.getElem?_cons_zero, List.getElem?_cons_succ, Go.IntWalk.iteOmega, Go.IntWalk.toNatUp, hlt, w1, List.getElem?_eq_getElem hlt, h0, show (i : Int) < M.length by omega, show ¬ ((i : Int) < 0) by omega]
          refine ICalls.mono (rFault _ _ s.byte.2 (by simp [go_sem, Go.IntWalk.iteOmega])) ?_
          rintro v _ ⟨rfl, rfl⟩
          try simp [go_sem, -getElem?_pos, -List.map_take, -List.map_drop, List.getElem?_cons_zero, List.getElem?_cons_succ, Go.IntWalk.iteOmega, Go.IntWalk.toNatUp, hlt, w1, List.getElem?_eq_getElem hlt, h0, show (i : Int) < M.length by omega, show ¬ ((i : Int) < 0) by omega]
          refine IWp.seq ?_
          refine IWp.run [1, 5, 6, 7, 8, 9, 10, 11, 12] ?_
          simp [go_sem, -getElem?_pos, -List.map_take, -List.map_drop, List.getElem?_cons_zero, List.getElem?_cons_succ, Go.IntWalk.iteOmega, Go.IntWalk.toNatUp, hlt, w1, List.getElem?_eq_getElem hlt, h0, show (i : Int) < M.length by omega, show ¬ ((i : Int) < 0) by omega]
          refine ICalls.mono (mFault _ _ s.byte.2 (by simp [go_sem, Go.IntWalk.iteOmega])) ?_
          rintro v _ ⟨rfl, rfl⟩
          try simp [go_sem, -getElem?_pos, -List.map_take, -List.map_drop, List.getElem?_cons_zero, List.getElem?_cons_succ, Go.IntWalk.iteOmega, Go.IntWalk.toNatUp, hlt, w1, List.getElem?_eq_getElem hlt, h0, show (i : Int) < M.length by omega, show ¬ ((i : Int) < 0) by omega]
          refine IWp.seq ?_
          refine IWp.run [1, 5, 6, 7, 8, 9, 10, 11, 12, 13, 14] ?_
          simp [go_sem, -getElem?_pos, -List.map_take, -List.map_drop, List.getElem?_cons_zero, List.getElem?_cons_succ, Go.IntWalk.iteOmega, Go.IntWalk.toNatUp, hlt, w1, List.getElem?_eq_getElem hlt, h0, show (i : Int) < M.length by omega, show ¬ ((i : Int) < 0) by omega]
          refine ICalls.mono (rEnd _ _ s.byte.2 (Rd.byte_ok hs) (by simp [go_sem, Go.IntWalk.iteOmega])) ?_
          rintro v _ ⟨rfl, rfl⟩
          try simp [go_sem, -getElem?_pos, -List.map_take, -List.map_drop, List.getElem?_cons_zero, List.getElem?_cons_succ, Go.IntWalk.iteOmega, Go.IntWalk.toNatUp, hlt, w1, List.getElem?_eq_getElem hlt, h0, show (i : Int) < M.length by omega, show ¬ ((i : Int) < 0) by omega]
          refine IWp.seq ?_
          refine IWp.run [1, 5, 6, 7, 8, 9, 10, 11, 12, 13, 14, 15, 16] ?_
          simp [go_sem, -getElem?_pos, -List.map_take, -List.map_drop, List.getElem?_cons_zero, List.getElem?_cons_succ, Go.IntWalk.iteOmega, Go.IntWalk.toNatUp, hlt, w1, List.getElem?_eq_getElem hlt, h0, show (i : Int) < M.length by omega, show ¬ ((i : Int) < 0) by omega]
          refine ICalls.mono (mEnd _ _ s.byte.2 (Rd.byte_ok hs) (by simp [go_sem, Go.IntWalk.iteOmega])) ?_
          rintro v _ ⟨rfl, rfl⟩
          try simp [go_sem, -getElem?_pos, -List.map_take, -List.map_drop, List.getElem?_cons_zero, List.getElem?_cons_succ, Go.IntWalk.iteOmega, Go.IntWalk.toNatUp, hlt, w1, List.getElem?_eq_getElem hlt, h0, show (i : Int) < M.length by omega, show ¬ ((i : Int) < 0) by omega]
          refine IWp.seq ?_
          refine IWp.run [1, 5, 6, 7, 113] ?_
          simp [go_sem, -getElem?_pos, -List.map_take, -List.map_drop, List.getElem?_cons_zero, List.getElem?_cons_succ, Go.IntWalk.iteOmega, Go.IntWalk.toNatUp, hlt, w1, List.getElem?_eq_getElem hlt, h0, show (i : Int) < M.length by omega, show ¬ ((i : Int) < 0) by omega]
          refine ICalls.mono (rLeft _ _ s.byte.2 (Rd.byte_ok hs) (by simp [go_sem, Go.IntWalk.iteOmega])) ?_
          rintro v _ ⟨rfl, rfl⟩
          try simp [go_sem, -getElem?_pos, -List.map_take, -List.map_drop, List.getElem?_cons_zero, List.getElem?_cons_succ, Go.IntWalk.iteOmega, Go.IntWalk.toNatUp, hlt, w1, List.getElem?_eq_getElem hlt, h0, show (i : Int) < M.length by omega, show ¬ ((i : Int) < 0) by omega]
          refine ICalls.mono (mLeft _ _ s.byte.2 (Rd.byte_ok hs) (by simp [go_sem, Go.IntWalk.iteOmega])) ?_
          rintro v _ ⟨rfl, rfl⟩
          try simp [go_sem, -getElem?_pos, -List.map_take, -List.map_drop, List.getElem?_cons_zero, List.getElem?_cons_succ, Go.IntWalk.iteOmega, Go.IntWalk.toNatUp, hlt, w1, List.getElem?_eq_getElem hlt, h0, show (i : Int) < M.length by omega, show ¬ ((i : Int) < 0) by omega]
          refine IWp.cond ?_
          simp [go_sem, -getElem?_pos, -List.map_take, -List.map_drop, List.getElem?_cons_zero, List.getElem?_cons_succ, Go.IntWalk.iteOmega, Go.IntWalk.toNatUp, hlt, w1, List.getElem?_eq_getElem hlt, h0, show (i : Int) < M.length by omega, show ¬ ((i : Int) < 0) by omega]
          refine IWp.trim [1, 5, 6, 7] (IWp.skip ?_)
          simp [go_sem, -getElem?_pos, -List.map_take, -List.map_drop, List.getElem?_cons_zero, List.getElem?_cons_succ, Go.IntWalk.iteOmega, Go.IntWalk.toNatUp, hlt, w1, List.getElem?_eq_getElem hlt, h0, show (i : Int) < M.length by omega, show ¬ ((i : Int) < 0) by omega]
          refine IWp.run [1, 5, 6, 7] ?_
          simp [go_sem, -getElem?_pos, -List.map_take, -List.map_drop, List.getElem?_cons_zero, List.getElem?_cons_succ, Go.IntWalk.iteOmega, Go.IntWalk.toNatUp, hlt, w1, List.getElem?_eq_getElem hlt, h0, show (i : Int) < M.length by omega, show ¬ ((i : Int) < 0) by omega]
          exact ⟨M.length - (i + 1), by omega, i + 1, rfl, by omega, s.byte.2, Rd.byte_ok hs, rfl, rfl⟩
        · skip
          refine IWp.seq ?_
          refine IWp.seq ?_
          refine IWp.run [1, 5, 6, 7, 38] ?_
          simp [go_sem, -getElem?_pos, -List.map_take, -List.map_drop, List.getElem?_cons_zero, List.getElem?_cons_succ, Go.IntWalk.iteOmega, Go.IntWalk.toNatUp, hlt, w1, List.getElem?_eq_getElem hlt, h0, show (i : Int) < M.length by omega, show ¬ ((i : Int) < 0) by omega]
          refine IWp.cond ?_
          simp [go_sem, -getElem?_pos, -List.map_take, -List.map_drop, List.getElem?_cons_zero, List.getElem?_cons_succ, Go.IntWalk.iteOmega, Go.IntWalk.toNatUp, hlt, w1, List.getElem?_eq_getElem hlt, h0, show (i : Int) < M.length by omega, show ¬ ((i : Int) < 0) by omega]
          refine IWp.trim [1, 5, 6, 7] (IWp.skip ?_)
          simp [go_sem, -getElem?_pos, -List.map_take, -List.map_drop, List.getElem?_cons_zero, List.getElem?_cons_succ, Go.IntWalk.iteOmega, Go.IntWalk.toNatUp, hlt, w1, List.getElem?_eq_getElem hlt, h0, show (i : Int) < M.length by omega, show ¬ ((i : Int) < 0) by omega]
          refine IWp.seq ?_
          refine IWp.block ?_
          refine IWp.seq ?_
          refine IWp.run [1, 5, 6, 7] ?_
          simp [go_sem, -getElem?_pos, -List.map_take, -List.map_drop, List.getElem?_cons_zero, List.getElem?_cons_succ, Go.IntWalk.iteOmega, Go.IntWalk.toNatUp, hlt, w1, List.getElem?_eq_getElem hlt, h0, show (i : Int) < M.length by omega, show ¬ ((i : Int) < 0) by omega]
          refine IWp.seq ?_
          refine IWp.seq ?_
          refine IWp.run [1, 5, 6, 7, 45] ?_
          simp [go_sem, -getElem?_pos, -List.map_take, -List.map_drop, List.getElem?_cons_zero, List.getElem?_cons_succ, Go.IntWalk.iteOmega, Go.IntWalk.toNatUp, hlt, w1, List.getElem?_eq_getElem hlt, h0, show (i : Int) < M.length by omega, show ¬ ((i : Int) < 0) by omega]
          refine IWp.block ?_
          refine IWp.seq ?_
          refine IWp.run [1, 5, 6, 7, 45, 51] ?_
          simp [go_sem, -getElem?_pos, -List.map_take, -List.map_drop, List.getElem?_cons_zero, List.getElem?_cons_succ, Go.IntWalk.iteOmega, Go.IntWalk.toNatUp, hlt, w1, List.getElem?_eq_getElem hlt, h0, show (i : Int) < M.length by omega, show ¬ ((i : Int) < 0) by omega]
          refine IWp.cond ?_
          simp [go_sem, -getElem?_pos, -List.map_take, -List.map_drop, List.getElem?_cons_zero, List.getElem?_cons_succ, Go.IntWalk.iteOmega, Go.IntWalk.toNatUp, hlt, w1, List.getElem?_eq_getElem hlt, h0, show (i : Int) < M.length by omega, show ¬ ((i : Int) < 0) by omega]
          refine IWp.seq ?_
          refine IWp.run [1, 5, 6, 7, 58] ?_
          simp [go_sem, -getElem?_pos, -List.map_take, -List.map_drop, List.getElem?_cons_zero, List.getElem?_cons_succ, Go.IntWalk.iteOmega, Go.IntWalk.toNatUp, hlt, w1, List.getElem?_eq_getElem hlt, h0, show (i : Int) < M.length by omega, show ¬ ((i : Int) < 0) by omega]
          refine IWp.cond ?_
          simp [go_sem, -getElem?_pos, -List.map_take, -List.map_drop, List.getElem?_cons_zero, List.getElem?_cons_succ, Go.IntWalk.iteOmega, Go.IntWalk.toNatUp, hlt, w1, List.getElem?_eq_getElem hlt, h0, show (i : Int) < M.length by omega, show ¬ ((i : Int) < 0) by omega]
          refine IWp.run [1, 5, 6, 7, 8] ?_
          simp [go_sem, -getElem?_pos, -List.map_take, -List.map_drop, List.getElem?_cons_zero, List.getElem?_cons_succ, Go.IntWalk.iteOmega, Go.IntWalk.toNatUp, hlt, w1, List.getElem?_eq_getElem hlt, h0, show (i : Int) < M.length by omega, show ¬ ((i : Int) < 0) by omega]
          refine ICalls.mono (rFlag _ _ s hs (by simp [go_sem, Go.IntWalk.iteOmega])) ?_
          rintro v _ ⟨rfl, rfl⟩
          try simp [go_sem, -getElem?_pos, -List.map_take, -List.map_drop, List.getElem?_cons_zero, List.getElem?_cons_succ, Go.IntWalk.iteOmega, Go.IntWalk.toNatUp, hlt, w1, List.getElem?_eq_getElem hlt, h0, show (i : Int) < M.length by omega, show ¬ ((i : Int) < 0) by omega]
          refine ICalls.mono (mFlag _ _ s hs (by simp [go_sem, Go.IntWalk.iteOmega])) ?_
          rintro v _ ⟨rfl, rfl⟩
          try simp [go_sem, -getElem?_pos, -List.map_take, -List.map_drop, List.getElem?_cons_zero, List.getElem?_cons_succ, Go.IntWalk.iteOmega, Go.IntWalk.toNatUp, hlt, w1, List.getElem?_eq_getElem hlt, h0, show (i : Int) < M.length by omega, show ¬ ((i : Int) < 0) by omega]
          refine IWp.seq ?_
          refine IWp.run [1, 5, 6, 7, 8, 9, 10] ?_
          simp [go_sem, -getElem?_pos, -List.map_take, -List.map_drop, List.getElem?_cons_zero, List.getElem?_cons_succ, Go.IntWalk.iteOmega, Go.IntWalk.toNatUp, hlt, w1, List.getElem?_eq_getElem hlt, h0, show (i : Int) < M.length by omega, show ¬ ((i : Int) < 0) by omega]
          refine ICalls.mono (rFault _ _ s.flag.2 (by simp [go_sem, Go.IntWalk.iteOmega])) ?_
          rintro v _ ⟨rfl, rfl⟩
          try simp [go_sem, -getElem?_pos, -List.map_take, -List.map_drop, List.getElem?_cons_zero, List.getElem?_cons_succ, Go.IntWalk.iteOmega, Go.IntWalk.toNatUp, hlt, w1, List.getElem?_eq_getElem hlt, h0, show (i : Int) < M.length by omega, show ¬ ((i : Int) < 0) by omega]
          refine IWp.seq ?_
          refine IWp.run [1, 5, 6, 7, 8, 9, 10, 11, 12] ?_
          simp [go_sem, -getElem?_pos, -List.map_take, -List.map_drop, List.getElem?_cons_zero, List.getElem?_cons_succ, Go.IntWalk.iteOmega, Go.IntWalk.toNatUp, hlt, w1, List.getElem?_eq_getElem hlt, h0, show (i : Int) < M.length by omega, show ¬ ((i : Int) < 0) by omega]
          refine ICalls.mono (mFault _ _ s.flag.2 (by simp [go_sem, Go.IntWalk.iteOmega])) ?_
          rintro v _ ⟨rfl, rfl⟩
          try simp [go_sem, -getElem?_pos, -List.map_take, -List.map_drop, List.getElem?_cons_zero, List.getElem?_cons_succ, Go.IntWalk.iteOmega, Go.IntWalk.toNatUp, hlt, w1, List.getElem?_eq_getElem hlt, h0, show (i : Int) < M.length by omega, show ¬ ((i : Int) < 0) by omega]
          refine IWp.seq ?_
          refine IWp.run [1, 5, 6, 7, 8, 9, 10, 11, 12, 13, 14] ?_
          simp [go_sem, -getElem?_pos, -List.map_take, -List.map_drop, List.getElem?_cons_zero, List.getElem?_cons_succ, Go.IntWalk.iteOmega, Go.IntWalk.toNatUp, hlt, w1, List.getElem?_eq_getElem hlt, h0, show (i : Int) < M.length by omega, show ¬ ((i : Int) < 0) by omega]
          refine ICalls.mono (rEnd _ _ s.flag.2 (Rd.flag_ok hs) (by simp [go_sem, Go.IntWalk.iteOmega])) ?_
          rintro v _ ⟨rfl, rfl⟩
          try simp [go_sem, -getElem?_pos, -List.map_take, -List.map_drop, List.getElem?_cons_zero, List.getElem?_cons_succ, Go.IntWalk.iteOmega, Go.IntWalk.toNatUp, hlt, w1, List.getElem?_eq_getElem hlt, h0, show (i : Int) < M.length by omega, show ¬ ((i : Int) < 0) by omega]
          refine IWp.seq ?_
          refine IWp.run [1, 5, 6, 7, 8, 9, 10, 11, 12, 13, 14, 15, 16] ?_
          simp [go_sem, -getElem?_pos, -List.map_take, -List.map_drop, List.getElem?_cons_zero, List.getElem?_cons_succ, Go.IntWalk.iteOmega, Go.IntWalk.toNatUp, hlt, w1, List.getElem?_eq_getElem hlt, h0, show (i : Int) < M.length by omega, show ¬ ((i : Int) < 0) by omega]
          refine ICalls.mono (mEnd _ _ s.flag.2 (Rd.flag_ok hs) (by simp [go_sem, Go.IntWalk.iteOmega])) ?_
          rintro v _ ⟨rfl, rfl⟩
          try simp [go_sem, -getElem?_pos, -List.map_take, -List.map_drop, List.getElem?_cons_zero, List.getElem?_cons_succ, Go.IntWalk.iteOmega, Go.IntWalk.toNatUp, hlt, w1, List.getElem?_eq_getElem hlt, h0, show (i : Int) < M.length by omega, show ¬ ((i : Int) < 0) by omega]
          refine IWp.seq ?_
          refine IWp.run [1, 5, 6, 7, 113] ?_
          simp [go_sem, -getElem?_pos, -List.map_take, -List.map_drop, List.getElem?_cons_zero, List.getElem?_cons_succ, Go.IntWalk.iteOmega, Go.IntWalk.toNatUp, hlt, w1, List.getElem?_eq_getElem hlt, h0, show (i : Int) < M.length by omega, show ¬ ((i : Int) < 0) by omega]
          refine ICalls.mono (rLeft _ _ s.flag.2 (Rd.flag_ok hs) (by simp [go_sem, Go.IntWalk.iteOmega])) ?_
          rintro v _ ⟨rfl, rfl⟩
          try simp [go_sem, -getElem?_pos, -List.map_take, -List.map_drop, List.getElem?_cons_zero, List.getElem?_cons_succ, Go.IntWalk.iteOmega, Go.IntWalk.toNatUp, hlt, w1, List.getElem?_eq_getElem hlt, h0, show (i : Int) < M.length by omega, show ¬ ((i : Int) < 0) by omega]
          refine ICalls.mono (mLeft _ _ s.flag.2 (Rd.flag_ok hs) (by simp [go_sem, Go.IntWalk.iteOmega])) ?_
          rintro v _ ⟨rfl, rfl⟩
          try simp [go_sem, -getElem?_pos, -List.map_take, -List.map_drop, List.getElem?_cons_zero, List.getElem?_cons_succ, Go.IntWalk.iteOmega, Go.IntWalk.toNatUp, hlt, w1, List.getElem?_eq_getElem hlt, h0, show (i : Int) < M.length by omega, show ¬ ((i : Int) < 0) by omega]
          refine IWp.cond ?_
          simp [go_sem, -getElem?_pos, -List.map_take, -List.map_drop, List.getElem?_cons_zero, List.getElem?_cons_succ, Go.IntWalk.iteOmega, Go.IntWalk.toNatUp, hlt, w1, List.getElem?_eq_getElem hlt, h0, show (i : Int) < M.length by omega, show ¬ ((i : Int) < 0) by omega]
          refine IWp.trim [1, 5, 6, 7] (IWp.skip ?_)
          simp [go_sem, -getElem?_pos, -List.map_take, -List.map_drop, List.getElem?_cons_zero, List.getElem?_cons_succ, Go.IntWalk.iteOmega, Go.IntWalk.toNatUp, hlt, w1, List.getElem?_eq_getElem hlt, h0, show (i : Int) < M.length by omega, show ¬ ((i : Int) < 0) by omega]
          refine IWp.run [1, 5, 6, 7] ?_
          simp [go_sem, -getElem?_pos, -List.map_take, -List.map_drop, List.getElem?_cons_zero, List.getElem?_cons_succ, Go.IntWalk.iteOmega, Go.IntWalk.toNatUp, hlt, w1, List.getElem?_eq_getElem hlt, h0, show (i : Int) < M.length by omega, show ¬ ((i : Int) < 0) by omega]
          exact ⟨M.length - (i + 1), by omega, i + 1, rfl, by omega, s.flag.2, Rd.flag_ok hs, rfl, rfl⟩
        · skip
          refine IWp.seq ?_
          refine IWp.seq ?_
          refine IWp.run [1, 5, 6, 7, 38] ?_
          simp [go_sem, -getElem?_pos, -List.map_take, -List.map_drop, List.getElem?_cons_zero, List.getElem?_cons_succ, Go.IntWalk.iteOmega, Go.IntWalk.toNatUp, hlt, w1, List.getElem?_eq_getElem hlt, h0, h1, show (i : Int) < M.length by omega, show ¬ ((i : Int) < 0) by omega]
          refine IWp.cond ?_
          simp [go_sem, -getElem?_pos, -List.map_take, -List.map_drop, List.getElem?_cons_zero, List.getElem?_cons_succ, Go.IntWalk.iteOmega, Go.IntWalk.toNatUp, hlt, w1, List.getElem?_eq_getElem hlt, h0, h1, show (i : Int) < M.length by omega, show ¬ ((i : Int) < 0) by omega]
          refine IWp.trim [1, 5, 6, 7] (IWp.skip ?_)
          simp [go_sem, -getElem?_pos, -List.map_take, -List.map_drop, List.getElem?_cons_zero, List.getElem?_cons_succ, Go.IntWalk.iteOmega, Go.IntWalk.toNatUp, hlt, w1, List.getElem?_eq_getElem hlt, h0, h1, show (i : Int) < M.length by omega, show ¬ ((i : Int) < 0) by omega]
          refine IWp.seq ?_
          refine IWp.block ?_
          refine IWp.seq ?_
          refine IWp.run [1, 5, 6, 7] ?_
          simp [go_sem, -getElem?_pos, -List.map_take, -List.map_drop, List.getElem?_cons_zero, List.getElem?_cons_succ, Go.IntWalk.iteOmega, Go.IntWalk.toNatUp, hlt, w1, List.getElem?_eq_getElem hlt, h0, h1, show (i : Int) < M.length by omega, show ¬ ((i : Int) < 0) by omega]
          refine IWp.seq ?_
          refine IWp.seq ?_
          refine IWp.run [1, 5, 6, 7, 45] ?_
          simp [go_sem, -getElem?_pos, -List.map_take, -List.map_drop, List.getElem?_cons_zero, List.getElem?_cons_succ, Go.IntWalk.iteOmega, Go.IntWalk.toNatUp, hlt, w1, List.getElem?_eq_getElem hlt, h0, h1, show (i : Int) < M.length by omega, show ¬ ((i : Int) < 0) by omega]
          refine IWp.block ?_
          refine IWp.seq ?_
          refine IWp.run [1, 5, 6, 7, 45, 51] ?_
          simp [go_sem, -getElem?_pos, -List.map_take, -List.map_drop, List.getElem?_cons_zero, List.getElem?_cons_succ, Go.IntWalk.iteOmega, Go.IntWalk.toNatUp, hlt, w1, List.getElem?_eq_getElem hlt, h0, h1, show (i : Int) < M.length by omega, show ¬ ((i : Int) < 0) by omega]
          refine IWp.cond ?_
          simp [go_sem, -getElem?_pos, -List.map_take, -List.map_drop, List.getElem?_cons_zero, List.getElem?_cons_succ, Go.IntWalk.iteOmega, Go.IntWalk.toNatUp, hlt, w1, List.getElem?_eq_getElem hlt, h0, h1, show (i : Int) < M.length by omega, show ¬ ((i : Int) < 0) by omega]
          refine IWp.seq ?_
          refine IWp.run [1, 5, 6, 7, 58] ?_
          simp [go_sem, -getElem?_pos, -List.map_take, -List.map_drop, List.getElem?_cons_zero, List.getElem?_cons_succ, Go.IntWalk.iteOmega, Go.IntWalk.toNatUp, hlt, w1, List.getElem?_eq_getElem hlt, h0, h1, show (i : Int) < M.length by omega, show ¬ ((i : Int) < 0) by omega]
          refine IWp.cond ?_
          simp [go_sem, -getElem?_pos, -List.map_take, -List.map_drop, List.getElem?_cons_zero, List.getElem?_cons_succ, Go.IntWalk.iteOmega, Go.IntWalk.toNatUp, hlt, w1, List.getElem?_eq_getElem hlt, h0, h1, show (i : Int) < M.length by omega, show ¬ ((i : Int) < 0) by omega]
          refine IWp.run [1, 5, 6, 7, 8] ?_
          simp [go_sem, -getElem?_pos, -List.map_take, -List.map_drop, List.getElem?_cons_zero, List.getElem?_cons_succ, Go.IntWalk.iteOmega, Go.IntWalk.toNatUp, hlt, w1, List.getElem?_eq_getElem hlt, h0, h1, show (i : Int) < M.length by omega, show ¬ ((i : Int) < 0) by omega]
          refine ICalls.mono (rInt _ _ s hs (by simp [go_sem, Go.IntWalk.iteOmega])) ?_
          rintro v _ ⟨rfl, rfl⟩
          try simp [go_sem, -getElem?_pos, -List.map_take, -List.map_drop, List.getElem?_cons_zero, List.getElem?_cons_succ, Go.IntWalk.iteOmega, Go.IntWalk.toNatUp, hlt, w1, List.getElem?_eq_getElem hlt, h0, h1, show (i : Int) < M.length by omega, show ¬ ((i : Int) < 0) by omega]
          refine ICalls.mono (mInt _ _ s hs (by simp [go_sem, Go.IntWalk.iteOmega])) ?_
          rintro v _ ⟨rfl, rfl⟩
          try simp [go_sem, -getElem?_pos, -List.map_take, -List.map_drop, List.getElem?_cons_zero, List.getElem?_cons_succ, Go.IntWalk.iteOmega, Go.IntWalk.toNatUp, hlt, w1, List.getElem?_eq_getElem hlt, h0, h1, show (i : Int) < M.length by omega, show ¬ ((i : Int) < 0) by omega]
          refine IWp.seq ?_
          refine IWp.run [1, 5, 6, 7, 8, 9, 10] ?_
          simp [go_sem, -getElem?_pos, -List.map_take, -List.map_drop, List.getElem?_cons_zero, List.getElem?_cons_succ, Go.IntWalk.iteOmega, Go.IntWalk.toNatUp, hlt, w1, List.getElem?_eq_getElem hlt, h0, h1, show (i : Int) < M.length by omega, show ¬ ((i : Int) < 0) by omega]
          refine ICalls.mono (rFault _ _ s.int.2 (by simp [go_sem, Go.IntWalk.iteOmega])) ?_
          rintro v _ ⟨rfl, rfl⟩
          try simp [go_sem, -getElem?_pos, -List.map_take, -List.map_drop, List.getElem?_cons_zero, List.getElem?_cons_succ, Go.IntWalk.iteOmega, Go.IntWalk.toNatUp, hlt, w1, List.getElem?_eq_getElem hlt, h0, h1, show (i : Int) < M.length by omega, show ¬ ((i : Int) < 0) by omega]
          refine IWp.seq ?_
          refine IWp.run [1, 5, 6, 7, 8, 9, 10, 11, 12] ?_
          simp [go_sem, -getElem?_pos, -List.map_take, -List.map_drop, List.getElem?_cons_zero, List.getElem?_cons_succ, Go.IntWalk.iteOmega, Go.IntWalk.toNatUp, hlt, w1, List.getElem?_eq_getElem hlt, h0, h1, show (i : Int) < M.length by omega, show ¬ ((i : Int) < 0) by omega]
          refine ICalls.mono (mFault _ _ s.int.2 (by simp [go_sem, Go.IntWalk.iteOmega])) ?_
          rintro v _ ⟨rfl, rfl⟩
          try simp [go_sem, -getElem?_pos, -List.map_take, -List.map_drop, List.getElem?_cons_zero, List.getElem?_cons_succ, Go.IntWalk.iteOmega, Go.IntWalk.toNatUp, hlt, w1, List.getElem?_eq_getElem hlt, h0, h1, show (i : Int) < M.length by omega, show ¬ ((i : Int) < 0) by omega]
          refine IWp.seq ?_
          refine IWp.run [1, 5, 6, 7, 8, 9, 10, 11, 12, 13, 14] ?_
          simp [go_sem, -getElem?_pos, -List.map_take, -List.map_drop, List.getElem?_cons_zero, List.getElem?_cons_succ, Go.IntWalk.iteOmega, Go.IntWalk.toNatUp, hlt, w1, List.getElem?_eq_getElem hlt, h0, h1, show (i : Int) < M.length by omega, show ¬ ((i : Int) < 0) by omega]
          refine ICalls.mono (rEnd _ _ s.int.2 (Rd.int_ok hs) (by simp [go_sem, Go.IntWalk.iteOmega])) ?_
          rintro v _ ⟨rfl, rfl⟩
          try simp [go_sem, -getElem?_pos, -List.map_take, -List.map_drop, List.getElem?_cons_zero, List.getElem?_cons_succ, Go.IntWalk.iteOmega, Go.IntWalk.toNatUp, hlt, w1, List.getElem?_eq_getElem hlt, h0, h1, show (i : Int) < M.length by omega, show ¬ ((i : Int) < 0) by omega]
          refine IWp.seq ?_
          refine IWp.run [1, 5, 6, 7, 8, 9, 10, 11, 12, 13, 14, 15, 16] ?_
          simp [go_sem, -getElem?_pos, -List.map_take, -List.map_drop, List.getElem?_cons_zero, List.getElem?_cons_succ, Go.IntWalk.iteOmega, Go.IntWalk.toNatUp, hlt, w1, List.getElem?_eq_getElem hlt, h0, h1, show (i : Int) < M.length by omega, show ¬ ((i : Int) < 0) by omega]
          refine ICalls.mono (mEnd _ _ s.int.2 (Rd.int_ok hs) (by simp [go_sem, Go.IntWalk.iteOmega])) ?_
          rintro v _ ⟨rfl, rfl⟩
          try simp [go_sem, -getElem?_pos, -List.map_take, -List.map_drop, List.getElem?_cons_zero, List.getElem?_cons_succ, Go.IntWalk.iteOmega, Go.IntWalk.toNatUp, hlt, w1, List.getElem?_eq_getElem hlt, h0, h1, show (i : Int) < M.length by omega, show ¬ ((i : Int) < 0) by omega]
          refine IWp.seq ?_
          refine IWp.run [1, 5, 6, 7, 113] ?_
          simp [go_sem, -getElem?_pos, -List.map_take, -List.map_drop, List.getElem?_cons_zero, List.getElem?_cons_succ, Go.IntWalk.iteOmega, Go.IntWalk.toNatUp, hlt, w1, List.getElem?_eq_getElem hlt, h0, h1, show (i : Int) < M.length by omega, show ¬ ((i : Int) < 0) by omega]
          refine ICalls.mono (rLeft _ _ s.int.2 (Rd.int_ok hs) (by simp [go_sem, Go.IntWalk.iteOmega])) ?_
          rintro v _ ⟨rfl, rfl⟩
          try simp [go_sem, -getElem?_pos, -List.map_take, -List.map_drop, List.getElem?_cons_zero, List.getElem?_cons_succ, Go.IntWalk.iteOmega, Go.IntWalk.toNatUp, hlt, w1, List.getElem?_eq_getElem hlt, h0, h1, show (i : Int) < M.length by omega, show ¬ ((i : Int) < 0) by omega]
          refine ICalls.mono (mLeft _ _ s.int.2 (Rd.int_ok hs) (by simp [go_sem, Go.IntWalk.iteOmega])) ?_
          rintro v _ ⟨rfl, rfl⟩
          try simp [go_sem, -getElem?_pos, -List.map_take, -List.map_drop, List.getElem?_cons_zero, List.getElem?_cons_succ, Go.IntWalk.iteOmega, Go.IntWalk.toNatUp, hlt, w1, List.getElem?_eq_getElem hlt, h0, h1, show (i : Int) < M.length by omega, show ¬ ((i : Int) < 0) by omega]
          refine IWp.cond ?_
          simp [go_sem, -getElem?_pos, -List.map_take, -List.map_drop, List.getElem?_cons_zero, List.getElem?_cons_succ, Go.IntWalk.iteOmega, Go.IntWalk.toNatUp, hlt, w1, List.getElem?_eq_getElem hlt, h0, h1, show (i : Int) < M.length by omega, show ¬ ((i : Int) < 0) by omega]
          refine IWp.trim [1, 5, 6, 7] (IWp.skip ?_)
          simp [go_sem, -getElem?_pos, -List.map_take, -List.map_drop, List.getElem?_cons_zero, List.getElem?_cons_succ, Go.IntWalk.iteOmega, Go.IntWalk.toNatUp, hlt, w1, List.getElem?_eq_getElem hlt, h0, h1, show (i : Int) < M.length by omega, show ¬ ((i : Int) < 0) by omega]
          refine IWp.run [1, 5, 6, 7] ?_
          simp [go_sem, -getElem?_pos, -List.map_take, -List.map_drop, List.getElem?_cons_zero, List.getElem?_cons_succ, Go.IntWalk.iteOmega, Go.IntWalk.toNatUp, hlt, w1, List.getElem?_eq_getElem hlt, h0, h1, show (i : Int) < M.length by omega, show ¬ ((i : Int) < 0) by omega]
          exact ⟨M.length - (i + 1), by omega, i + 1, rfl, by omega, s.int.2, Rd.int_ok hs, rfl, rfl⟩
      · skip
        refine IWp.seq ?_
        refine IWp.seq ?_
        refine IWp.run [1, 5, 6, 7, 38] ?_
        simp [go_sem, -getElem?_pos, -List.map_take, -List.map_drop, List.getElem?_cons_zero, List.getElem?_cons_succ, Go.IntWalk.iteOmega, Go.IntWalk.toNatUp, show ¬ ((i : Int) < M.length) by omega]
        refine IWp.cond ?_
        simp [go_sem, -getElem?_pos, -List.map_take, -List.map_drop, List.getElem?_cons_zero, List.getElem?_cons_succ, Go.IntWalk.iteOmega, Go.IntWalk.toNatUp, show ¬ ((i : Int) < M.length) by omega]
        refine IWp.trim [] (IWp.exit ?_)
        simp [go_sem, -getElem?_pos, -List.map_take, -List.map_drop, List.getElem?_cons_zero, List.getElem?_cons_succ, Go.IntWalk.iteOmega, Go.IntWalk.toNatUp, show ¬ ((i : Int) < M.length) by omega]
        refine IWp.seq ?_
        refine IWp.run [4] ?_
        simp [go_sem, -getElem?_pos, -List.map_take, -List.map_drop, List.getElem?_cons_zero, List.getElem?_cons_succ, Go.IntWalk.iteOmega, Go.IntWalk.toNatUp, show ¬ ((i : Int) < M.length) by omega]
        refine IWp.ret ?_
        simp [go_sem, -getElem?_pos, -List.map_take, -List.map_drop, List.getElem?_cons_zero, List.getElem?_cons_succ, Go.IntWalk.iteOmega, Go.IntWalk.toNatUp, show ¬ ((i : Int) < M.length) by omega, Try.results9]

end Go.Proofs.Ytneiiglfdhghkaa.I
