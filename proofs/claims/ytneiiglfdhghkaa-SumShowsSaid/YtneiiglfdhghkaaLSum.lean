/- The laws of sums: their bodies. No condition. -/
import Derived.Test.YtneiiglfdhghkaaGRefSum
namespace Go.Proofs.Ytneiiglfdhghkaa.I
open Go Go.RowKit
set_option linter.unusedVariables false
set_option linter.unusedSimpArgs false

theorem letters (H : Heap) : ICalls Try.prog 13 [] H fun v H' => v = .bool true ∧ H' = H := by
  refine ICalls.ans (by simp [go_sem]) fun H => IBody.calls (by kernel_rfl) ?_
  have c1 : crc [49, 50, 51, 52, 53, 54, 55, 56, 57] = 10673#16 := by decide +kernel
  have h2 := fun H => sumOf H 0 [49, 50, 51, 52, 53, 54, 55, 56, 57] (by decide) (by simp [Bs])
  rw [c1] at h2
  refine IBody.of Try.func13 rfl (by rw [Try.ntmps13]; simp) ?_
  rw [Try.ntmps13]
  refine IWp.seq ?_
  refine IWp.run [] ?_
  simp [go_sem, -getElem?_pos, -List.map_take, -List.map_drop, List.getElem?_cons_zero, List.getElem?_cons_succ, Go.IntWalk.iteOmega, Go.IntWalk.toNatUp]
  refine IWp.seq ?_
  refine IWp.run [2] ?_
  simp [go_sem, -getElem?_pos, -List.map_take, -List.map_drop, List.getElem?_cons_zero, List.getElem?_cons_succ, Go.IntWalk.iteOmega, Go.IntWalk.toNatUp]
  refine ICalls.freeze1 H.next (.cons (frz_lit ([7].map (Value.int .u8)) (Heap.get_alloc_new _ _) rfl (map_sz .u8 _) rfl (by simp)) .nil) (ICalls.mono (openSum _ 0 [7] (by decide) (by simp [Bs])) ?_)
  rintro v H2 ⟨rfl, rfl⟩
  simp [go_sem, opened]
  refine IWp.seq ?_
  refine IWp.run [0] ?_
  simp [go_sem, -getElem?_pos, -List.map_take, -List.map_drop, List.getElem?_cons_zero, List.getElem?_cons_succ, Go.IntWalk.iteOmega, Go.IntWalk.toNatUp]
  refine ICalls.freeze1 (H.next + 1) (.cons (frz_lit ([49, 50, 51, 52, 53, 54, 55, 56, 57].map (Value.int .u8)) (by simp [go_sem]) rfl (map_sz .u8 _) rfl (by simp)) .nil) (ICalls.mono (h2 _) ?_)
  rintro v H2 ⟨rfl, rfl⟩
  simp [go_sem]
  refine IWp.ret ?_
  simp [go_sem, -getElem?_pos, -List.map_take, -List.map_drop, List.getElem?_cons_zero, List.getElem?_cons_succ, Go.IntWalk.iteOmega, Go.IntWalk.toNatUp, Try.results13]

theorem bs_nil : Bs [] := fun _ h => (by cases h)

theorem sumOf_law (H : Heap) (L : List Int) (hB : Bs L) :
    IBody Try.prog 3 [byts L] H fun v _ => v = .bool true := by
  by_cases hl : 300 < L.length
  · skip
    refine IBody.of Try.func3 rfl (by rw [Try.ntmps3]; simp) ?_
    rw [Try.ntmps3]
    refine IWp.seq ?_
    refine IWp.run [0] ?_
    simp [go_sem, -getElem?_pos, -List.map_take, -List.map_drop, List.getElem?_cons_zero, List.getElem?_cons_succ, Go.IntWalk.iteOmega, Go.IntWalk.toNatUp, show (300 : Int) < L.length by omega]
    refine IWp.seq ?_
    refine IWp.seq ?_
    refine IWp.run [0, 5] ?_
    simp [go_sem, -getElem?_pos, -List.map_take, -List.map_drop, List.getElem?_cons_zero, List.getElem?_cons_succ, Go.IntWalk.iteOmega, Go.IntWalk.toNatUp, show (300 : Int) < L.length by omega]
    refine IWp.cond ?_
    simp [go_sem, -getElem?_pos, -List.map_take, -List.map_drop, List.getElem?_cons_zero, List.getElem?_cons_succ, Go.IntWalk.iteOmega, Go.IntWalk.toNatUp, show (300 : Int) < L.length by omega]
    refine IWp.seq ?_
    refine IWp.run [2] ?_
    simp [go_sem, -getElem?_pos, -List.map_take, -List.map_drop, List.getElem?_cons_zero, List.getElem?_cons_succ, Go.IntWalk.iteOmega, Go.IntWalk.toNatUp, show (300 : Int) < L.length by omega]
    refine ICalls.mono (letters _) ?_
    rintro v _ ⟨rfl, rfl⟩
    try simp [go_sem, -getElem?_pos, -List.map_take, -List.map_drop, List.getElem?_cons_zero, List.getElem?_cons_succ, Go.IntWalk.iteOmega, Go.IntWalk.toNatUp, show (300 : Int) < L.length by omega]
    refine IWp.ret ?_
    simp [go_sem, -getElem?_pos, -List.map_take, -List.map_drop, List.getElem?_cons_zero, List.getElem?_cons_succ, Go.IntWalk.iteOmega, Go.IntWalk.toNatUp, show (300 : Int) < L.length by omega, Try.results3]
  · skip
    refine IBody.of Try.func3 rfl (by rw [Try.ntmps3]; simp) ?_
    rw [Try.ntmps3]
    refine IWp.seq ?_
    refine IWp.run [0] ?_
    simp [go_sem, -getElem?_pos, -List.map_take, -List.map_drop, List.getElem?_cons_zero, List.getElem?_cons_succ, Go.IntWalk.iteOmega, Go.IntWalk.toNatUp, show ¬ ((300 : Int) < L.length) by omega]
    refine IWp.seq ?_
    refine IWp.seq ?_
    refine IWp.run [0, 5] ?_
    simp [go_sem, -getElem?_pos, -List.map_take, -List.map_drop, List.getElem?_cons_zero, List.getElem?_cons_succ, Go.IntWalk.iteOmega, Go.IntWalk.toNatUp, show ¬ ((300 : Int) < L.length) by omega]
    refine IWp.cond ?_
    simp [go_sem, -getElem?_pos, -List.map_take, -List.map_drop, List.getElem?_cons_zero, List.getElem?_cons_succ, Go.IntWalk.iteOmega, Go.IntWalk.toNatUp, show ¬ ((300 : Int) < L.length) by omega]
    refine IWp.trim [0] (IWp.skip ?_)
    simp [go_sem, -getElem?_pos, -List.map_take, -List.map_drop, List.getElem?_cons_zero, List.getElem?_cons_succ, Go.IntWalk.iteOmega, Go.IntWalk.toNatUp, show ¬ ((300 : Int) < L.length) by omega]
    refine IWp.seq ?_
    refine IWp.run [2] ?_
    simp [go_sem, -getElem?_pos, -List.map_take, -List.map_drop, List.getElem?_cons_zero, List.getElem?_cons_succ, Go.IntWalk.iteOmega, Go.IntWalk.toNatUp, show ¬ ((300 : Int) < L.length) by omega]
    refine ICalls.mono (letters _) ?_
    rintro v _ ⟨rfl, rfl⟩
    try simp [go_sem, -getElem?_pos, -List.map_take, -List.map_drop, List.getElem?_cons_zero, List.getElem?_cons_succ, Go.IntWalk.iteOmega, Go.IntWalk.toNatUp, show ¬ ((300 : Int) < L.length) by omega]
    refine ICalls.mono (sumOf _ 0 L (by omega) hB) ?_
    rintro v _ ⟨rfl, rfl⟩
    try simp [go_sem, -getElem?_pos, -List.map_take, -List.map_drop, List.getElem?_cons_zero, List.getElem?_cons_succ, Go.IntWalk.iteOmega, Go.IntWalk.toNatUp, show ¬ ((300 : Int) < L.length) by omega]
    refine ICalls.mono (refOf _ 0 L (by omega) hB) ?_
    rintro v _ ⟨rfl, rfl⟩
    try simp [go_sem, -getElem?_pos, -List.map_take, -List.map_drop, List.getElem?_cons_zero, List.getElem?_cons_succ, Go.IntWalk.iteOmega, Go.IntWalk.toNatUp, show ¬ ((300 : Int) < L.length) by omega]
    refine IWp.ret ?_
    simp [go_sem, -getElem?_pos, -List.map_take, -List.map_drop, List.getElem?_cons_zero, List.getElem?_cons_succ, Go.IntWalk.iteOmega, Go.IntWalk.toNatUp, show ¬ ((300 : Int) < L.length) by omega, Try.results3]

theorem closed_len (L : List Int) : (closed L).length = L.length + 2 := by simp [closed]
theorem opened_closed (L : List Int) : opened (closed L) = (L, 0) := by
  have h : (closed L).take ((closed L).length - 2) = L := by rw [closed_len]; simp [closed]
  unfold opened
  rw [if_neg (by rw [closed_len]; omega), h, if_pos rfl]

theorem sumBack_law (H : Heap) (L : List Int) (hB : Bs L) :
    IBody Try.prog 4 [byts L] H fun v _ => v = .bool true := by
  by_cases hl : 300 < L.length
  · skip
    refine IBody.of Try.func4 rfl (by rw [Try.ntmps4]; simp) ?_
    rw [Try.ntmps4]
    refine IWp.seq ?_
    refine IWp.run [0] ?_
    simp [go_sem, -getElem?_pos, -List.map_take, -List.map_drop, List.getElem?_cons_zero, List.getElem?_cons_succ, Go.IntWalk.iteOmega, Go.IntWalk.toNatUp, show (300 : Int) < L.length by omega]
    refine IWp.seq ?_
    refine IWp.seq ?_
    refine IWp.run [0, 9] ?_
    simp [go_sem, -getElem?_pos, -List.map_take, -List.map_drop, List.getElem?_cons_zero, List.getElem?_cons_succ, Go.IntWalk.iteOmega, Go.IntWalk.toNatUp, show (300 : Int) < L.length by omega]
    refine IWp.cond ?_
    simp [go_sem, -getElem?_pos, -List.map_take, -List.map_drop, List.getElem?_cons_zero, List.getElem?_cons_succ, Go.IntWalk.iteOmega, Go.IntWalk.toNatUp, show (300 : Int) < L.length by omega]
    refine IWp.seq ?_
    refine IWp.run [2] ?_
    simp [go_sem, -getElem?_pos, -List.map_take, -List.map_drop, List.getElem?_cons_zero, List.getElem?_cons_succ, Go.IntWalk.iteOmega, Go.IntWalk.toNatUp, show (300 : Int) < L.length by omega]
    refine ICalls.mono (letters _) ?_
    rintro v _ ⟨rfl, rfl⟩
    try simp [go_sem, -getElem?_pos, -List.map_take, -List.map_drop, List.getElem?_cons_zero, List.getElem?_cons_succ, Go.IntWalk.iteOmega, Go.IntWalk.toNatUp, show (300 : Int) < L.length by omega]
    refine IWp.ret ?_
    simp [go_sem, -getElem?_pos, -List.map_take, -List.map_drop, List.getElem?_cons_zero, List.getElem?_cons_succ, Go.IntWalk.iteOmega, Go.IntWalk.toNatUp, show (300 : Int) < L.length by omega, Try.results4]
  · have w1 := IntWalk.i64_in ((L.length : Int) + 2) (by omega)
    refine IBody.of Try.func4 rfl (by rw [Try.ntmps4]; simp) ?_
    rw [Try.ntmps4]
    refine IWp.seq ?_
    refine IWp.run [0] ?_
    simp [go_sem, -getElem?_pos, -List.map_take, -List.map_drop, List.getElem?_cons_zero, List.getElem?_cons_succ, Go.IntWalk.iteOmega, Go.IntWalk.toNatUp, show ¬ ((300 : Int) < L.length) by omega, opened_closed, closed_len, w1]
    refine IWp.seq ?_
    refine IWp.seq ?_
    refine IWp.run [0, 9] ?_
    simp [go_sem, -getElem?_pos, -List.map_take, -List.map_drop, List.getElem?_cons_zero, List.getElem?_cons_succ, Go.IntWalk.iteOmega, Go.IntWalk.toNatUp, show ¬ ((300 : Int) < L.length) by omega, opened_closed, closed_len, w1]
    refine IWp.cond ?_
    simp [go_sem, -getElem?_pos, -List.map_take, -List.map_drop, List.getElem?_cons_zero, List.getElem?_cons_succ, Go.IntWalk.iteOmega, Go.IntWalk.toNatUp, show ¬ ((300 : Int) < L.length) by omega, opened_closed, closed_len, w1]
    refine IWp.trim [0] (IWp.skip ?_)
    simp [go_sem, -getElem?_pos, -List.map_take, -List.map_drop, List.getElem?_cons_zero, List.getElem?_cons_succ, Go.IntWalk.iteOmega, Go.IntWalk.toNatUp, show ¬ ((300 : Int) < L.length) by omega, opened_closed, closed_len, w1]
    refine IWp.seq ?_
    refine IWp.run [0, 3] ?_
    simp [go_sem, -getElem?_pos, -List.map_take, -List.map_drop, List.getElem?_cons_zero, List.getElem?_cons_succ, Go.IntWalk.iteOmega, Go.IntWalk.toNatUp, show ¬ ((300 : Int) < L.length) by omega, opened_closed, closed_len, w1]
    refine ICalls.mono (ICalls.as (.cons (.same _) (.cons (.nil 1) .nil)) (join _ 0 0 L [] (by omega) (by simp))) ?_
    rintro v _ ⟨rfl, rfl⟩
    try simp [go_sem, -getElem?_pos, -List.map_take, -List.map_drop, List.getElem?_cons_zero, List.getElem?_cons_succ, Go.IntWalk.iteOmega, Go.IntWalk.toNatUp, show ¬ ((300 : Int) < L.length) by omega, opened_closed, closed_len, w1]
    refine IWp.seq ?_
    refine IWp.run [0, 3, 4] ?_
    simp [go_sem, -getElem?_pos, -List.map_take, -List.map_drop, List.getElem?_cons_zero, List.getElem?_cons_succ, Go.IntWalk.iteOmega, Go.IntWalk.toNatUp, show ¬ ((300 : Int) < L.length) by omega, opened_closed, closed_len, w1]
    refine ICalls.mono (close _ 0 L (by omega) hB) ?_
    rintro v _ ⟨rfl, rfl⟩
    try simp [go_sem, -getElem?_pos, -List.map_take, -List.map_drop, List.getElem?_cons_zero, List.getElem?_cons_succ, Go.IntWalk.iteOmega, Go.IntWalk.toNatUp, show ¬ ((300 : Int) < L.length) by omega, opened_closed, closed_len, w1]
    refine IWp.seq ?_
    refine IWp.run [0, 3, 4, 5, 6] ?_
    simp [go_sem, -getElem?_pos, -List.map_take, -List.map_drop, List.getElem?_cons_zero, List.getElem?_cons_succ, Go.IntWalk.iteOmega, Go.IntWalk.toNatUp, show ¬ ((300 : Int) < L.length) by omega, opened_closed, closed_len, w1]
    refine ICalls.mono (openSum _ 0 (closed L) (by rw [closed_len]; omega) (closed_bs hB)) ?_
    rintro v _ ⟨rfl, rfl⟩
    try simp [go_sem, -getElem?_pos, -List.map_take, -List.map_drop, List.getElem?_cons_zero, List.getElem?_cons_succ, Go.IntWalk.iteOmega, Go.IntWalk.toNatUp, show ¬ ((300 : Int) < L.length) by omega, opened_closed, closed_len, w1]
    refine IWp.seq ?_
    refine IWp.run [2] ?_
    simp [go_sem, -getElem?_pos, -List.map_take, -List.map_drop, List.getElem?_cons_zero, List.getElem?_cons_succ, Go.IntWalk.iteOmega, Go.IntWalk.toNatUp, show ¬ ((300 : Int) < L.length) by omega, opened_closed, closed_len, w1]
    refine ICalls.mono (letters _) ?_
    rintro v _ ⟨rfl, rfl⟩
    try simp [go_sem, -getElem?_pos, -List.map_take, -List.map_drop, List.getElem?_cons_zero, List.getElem?_cons_succ, Go.IntWalk.iteOmega, Go.IntWalk.toNatUp, show ¬ ((300 : Int) < L.length) by omega, opened_closed, closed_len, w1]
    refine ICalls.mono (refClose _ 0 L (by omega) hB) ?_
    rintro v _ ⟨rfl, rfl⟩
    try simp [go_sem, -getElem?_pos, -List.map_take, -List.map_drop, List.getElem?_cons_zero, List.getElem?_cons_succ, Go.IntWalk.iteOmega, Go.IntWalk.toNatUp, show ¬ ((300 : Int) < L.length) by omega, opened_closed, closed_len, w1]
    refine ICalls.mono (refBytes _ 0 0 (closed L) (closed L) (by rw [closed_len]; omega)) ?_
    rintro v _ ⟨rfl, rfl⟩
    try simp [go_sem, -getElem?_pos, -List.map_take, -List.map_drop, List.getElem?_cons_zero, List.getElem?_cons_succ, Go.IntWalk.iteOmega, Go.IntWalk.toNatUp, show ¬ ((300 : Int) < L.length) by omega, opened_closed, closed_len, w1]
    refine ICalls.mono (refBytes _ 0 0 L L (by omega)) ?_
    rintro v _ ⟨rfl, rfl⟩
    try simp [go_sem, -getElem?_pos, -List.map_take, -List.map_drop, List.getElem?_cons_zero, List.getElem?_cons_succ, Go.IntWalk.iteOmega, Go.IntWalk.toNatUp, show ¬ ((300 : Int) < L.length) by omega, opened_closed, closed_len, w1]
    refine ICalls.mono (refBytes _ 0 0 L L (by omega)) ?_
    rintro v _ ⟨rfl, rfl⟩
    try simp [go_sem, -getElem?_pos, -List.map_take, -List.map_drop, List.getElem?_cons_zero, List.getElem?_cons_succ, Go.IntWalk.iteOmega, Go.IntWalk.toNatUp, show ¬ ((300 : Int) < L.length) by omega, opened_closed, closed_len, w1]
    refine IWp.ret ?_
    simp [go_sem, -getElem?_pos, -List.map_take, -List.map_drop, List.getElem?_cons_zero, List.getElem?_cons_succ, Go.IntWalk.iteOmega, Go.IntWalk.toNatUp, show ¬ ((300 : Int) < L.length) by omega, opened_closed, closed_len, w1, Try.results4]

theorem sumOpens_law (H : Heap) (L : List Int) (hB : Bs L) :
    IBody Try.prog 5 [byts L] H fun v _ => v = .bool true := by
  by_cases hl : 300 < L.length
  · skip
    refine IBody.of Try.func5 rfl (by rw [Try.ntmps5]; simp) ?_
    rw [Try.ntmps5]
    refine IWp.seq ?_
    refine IWp.run [0] ?_
    simp [go_sem, -getElem?_pos, -List.map_take, -List.map_drop, List.getElem?_cons_zero, List.getElem?_cons_succ, Go.IntWalk.iteOmega, Go.IntWalk.toNatUp, show (300 : Int) < L.length by omega]
    refine IWp.seq ?_
    refine IWp.seq ?_
    refine IWp.run [0, 9] ?_
    simp [go_sem, -getElem?_pos, -List.map_take, -List.map_drop, List.getElem?_cons_zero, List.getElem?_cons_succ, Go.IntWalk.iteOmega, Go.IntWalk.toNatUp, show (300 : Int) < L.length by omega]
    refine IWp.cond ?_
    simp [go_sem, -getElem?_pos, -List.map_take, -List.map_drop, List.getElem?_cons_zero, List.getElem?_cons_succ, Go.IntWalk.iteOmega, Go.IntWalk.toNatUp, show (300 : Int) < L.length by omega]
    refine IWp.seq ?_
    refine IWp.run [2] ?_
    simp [go_sem, -getElem?_pos, -List.map_take, -List.map_drop, List.getElem?_cons_zero, List.getElem?_cons_succ, Go.IntWalk.iteOmega, Go.IntWalk.toNatUp, show (300 : Int) < L.length by omega]
    refine ICalls.mono (letters _) ?_
    rintro v _ ⟨rfl, rfl⟩
    try simp [go_sem, -getElem?_pos, -List.map_take, -List.map_drop, List.getElem?_cons_zero, List.getElem?_cons_succ, Go.IntWalk.iteOmega, Go.IntWalk.toNatUp, show (300 : Int) < L.length by omega]
    refine IWp.ret ?_
    simp [go_sem, -getElem?_pos, -List.map_take, -List.map_drop, List.getElem?_cons_zero, List.getElem?_cons_succ, Go.IntWalk.iteOmega, Go.IntWalk.toNatUp, show (300 : Int) < L.length by omega, Try.results5]
  · have ho : (opened L).1.length ≤ 1000000 := by
      unfold opened
      split
      · simp
      · split
        · simp; omega
        · simp
    refine IBody.of Try.func5 rfl (by rw [Try.ntmps5]; simp) ?_
    rw [Try.ntmps5]
    refine IWp.seq ?_
    refine IWp.run [0] ?_
    simp [go_sem, -getElem?_pos, -List.map_take, -List.map_drop, List.getElem?_cons_zero, List.getElem?_cons_succ, Go.IntWalk.iteOmega, Go.IntWalk.toNatUp, show ¬ ((300 : Int) < L.length) by omega]
    refine IWp.seq ?_
    refine IWp.seq ?_
    refine IWp.run [0, 9] ?_
    simp [go_sem, -getElem?_pos, -List.map_take, -List.map_drop, List.getElem?_cons_zero, List.getElem?_cons_succ, Go.IntWalk.iteOmega, Go.IntWalk.toNatUp, show ¬ ((300 : Int) < L.length) by omega]
    refine IWp.cond ?_
    simp [go_sem, -getElem?_pos, -List.map_take, -List.map_drop, List.getElem?_cons_zero, List.getElem?_cons_succ, Go.IntWalk.iteOmega, Go.IntWalk.toNatUp, show ¬ ((300 : Int) < L.length) by omega]
    refine IWp.trim [0] (IWp.skip ?_)
    simp [go_sem, -getElem?_pos, -List.map_take, -List.map_drop, List.getElem?_cons_zero, List.getElem?_cons_succ, Go.IntWalk.iteOmega, Go.IntWalk.toNatUp, show ¬ ((300 : Int) < L.length) by omega]
    refine IWp.seq ?_
    refine IWp.run [0, 3, 4] ?_
    simp [go_sem, -getElem?_pos, -List.map_take, -List.map_drop, List.getElem?_cons_zero, List.getElem?_cons_succ, Go.IntWalk.iteOmega, Go.IntWalk.toNatUp, show ¬ ((300 : Int) < L.length) by omega]
    refine ICalls.mono (openSum _ 0 L (by omega) hB) ?_
    rintro v _ ⟨rfl, rfl⟩
    try simp [go_sem, -getElem?_pos, -List.map_take, -List.map_drop, List.getElem?_cons_zero, List.getElem?_cons_succ, Go.IntWalk.iteOmega, Go.IntWalk.toNatUp, show ¬ ((300 : Int) < L.length) by omega]
    refine IWp.seq ?_
    refine IWp.run [3, 4, 5, 6] ?_
    simp [go_sem, -getElem?_pos, -List.map_take, -List.map_drop, List.getElem?_cons_zero, List.getElem?_cons_succ, Go.IntWalk.iteOmega, Go.IntWalk.toNatUp, show ¬ ((300 : Int) < L.length) by omega]
    refine ICalls.mono (refOpen _ 0 L (by omega) hB) ?_
    rintro v _ ⟨rfl, rfl⟩
    try simp [go_sem, -getElem?_pos, -List.map_take, -List.map_drop, List.getElem?_cons_zero, List.getElem?_cons_succ, Go.IntWalk.iteOmega, Go.IntWalk.toNatUp, show ¬ ((300 : Int) < L.length) by omega]
    refine IWp.seq ?_
    refine IWp.run [2] ?_
    simp [go_sem, -getElem?_pos, -List.map_take, -List.map_drop, List.getElem?_cons_zero, List.getElem?_cons_succ, Go.IntWalk.iteOmega, Go.IntWalk.toNatUp, show ¬ ((300 : Int) < L.length) by omega]
    refine ICalls.mono (letters _) ?_
    rintro v _ ⟨rfl, rfl⟩
    try simp [go_sem, -getElem?_pos, -List.map_take, -List.map_drop, List.getElem?_cons_zero, List.getElem?_cons_succ, Go.IntWalk.iteOmega, Go.IntWalk.toNatUp, show ¬ ((300 : Int) < L.length) by omega]
    refine ICalls.mono (refBytes _ 0 0 (opened L).1 (opened L).1 ho) ?_
    rintro v _ ⟨rfl, rfl⟩
    try simp [go_sem, -getElem?_pos, -List.map_take, -List.map_drop, List.getElem?_cons_zero, List.getElem?_cons_succ, Go.IntWalk.iteOmega, Go.IntWalk.toNatUp, show ¬ ((300 : Int) < L.length) by omega]
    refine IWp.ret ?_
    simp [go_sem, -getElem?_pos, -List.map_take, -List.map_drop, List.getElem?_cons_zero, List.getElem?_cons_succ, Go.IntWalk.iteOmega, Go.IntWalk.toNatUp, show ¬ ((300 : Int) < L.length) by omega, Try.results5]

end Go.Proofs.Ytneiiglfdhghkaa.I
