/- The document's example of a panel. No condition. -/
import Derived.Test.YtdimnoeldnfikaaGPanelO
namespace Go.Proofs.Ytdimnoeldnfikaa.I
open Go Go.RowKit
set_option linter.unusedVariables false
set_option linter.unusedSimpArgs false

theorem frzLight {H : Heap} {b : Nat} {S : Nat → Bool} (x : Light) (hb : H.get b = some ⟨x.cells, true⟩) (hS : S b = true) : Frz H S (.slice (some ⟨b, 0, some 7⟩) 1 1) (frow 7 0 ([x].map Light.val)) :=
  frz_lit ([x].map Light.val) hb (by simp [Light.val]; rfl) (fun u hu => by simp only [List.map_cons, List.map_nil, List.mem_cons, List.not_mem_nil, or_false] at hu; subst hu; rfl) rfl hS

theorem showOwn (H : Heap) (pb b : Nat) (a bg now : Int) (x : Light) (h : Hush) (hp : H.get pb = some ⟨[.int .u8 a, .int .i64 bg], true⟩) (hb : H.get b = some ⟨x.cells, true⟩) (hne : pb ≠ b) :
    ICalls Try.prog 41 [ptrTo pb 0, .int .i64 now, .slice (some ⟨b, 0, some 7⟩) 1 1, h.val] H fun v H' => v = (outS a bg now [x] h).val ∧ H'.get pb = some ⟨[.int .u8 (audioS now [x] h), .int .i64 (beganS a bg now [x] h)], true⟩ ∧ H.next ≤ H'.next ∧ ∀ j, j < H.next → j ≠ pb → j ≠ b → H'.get j = H.get j := by
  refine ICalls.freeze1 b (.cons (.same _) (.cons (.same _) (.cons (frzLight x hb (by simp)) (.cons (.same _) .nil)))) ((showC _ pb a bg now [x] h (by simp) (by simp) (by rw [get_kill, if_neg hne]; exact hp)).mono ?_)
  rintro v H' ⟨h1, h2, h3, h4⟩
  exact ⟨h1, h2, h3, fun j hj h5 h6 => by rw [h4 j hj h5, get_kill, if_neg h6]⟩

theorem highestOwn (H : Heap) (b : Nat) (x : Light) (hb : H.get b = some ⟨x.cells, true⟩) :
    ICalls Try.prog 36 [.slice (some ⟨b, 0, some 7⟩) 1 1] H fun v H' => v = .int .u8 (topS Life.lit [x]) ∧ H' = H.kill b :=
  ICalls.freeze1 b (.cons (frzLight x hb (by simp)) .nil) (highestC _ [x] (by simp))

set_option maxRecDepth 100000 in
theorem darkC (H : Heap) : ICalls Try.prog 31 [] H fun v H' => v = .bool true ∧ H' = H := by
  refine ICalls.ans (by simp [go_sem]) fun H => IBody.calls (by kernel_rfl) ?_
  have ho : (outS 0 0 5 [⟨1, 3, ⟨false, false, false, 0, 0⟩⟩] ⟨0, 0, 0⟩).val = .agg ⟨[.int .i64 5, frow 5 0 [], .int .u8 0, .bool false, .bool false, .bool false]⟩ := by
    rw [show outS 0 0 5 [⟨1, 3, ⟨false, false, false, 0, 0⟩⟩] ⟨0, 0, 0⟩ = ⟨5, [], 0, false, false, false⟩ by decide +kernel]; rfl
  have ht : topS Life.lit [⟨0, 2, ⟨false, true, false, 0, 0⟩⟩] = 2 := by decide
  refine IBody.of Try.func31 rfl (by rw [Try.ntmps31]; simp) ?_
  rw [Try.ntmps31]
  refine IWp.seq ?_
  refine IWp.run [] ?_
  simp [go_sem, -getElem?_pos, -List.map_take, -List.map_drop, List.getElem?_cons_zero, List.getElem?_cons_succ, Go.IntWalk.iteOmega, Go.IntWalk.toNatUp, get_alloc, next_alloc]
  refine IWp.seq ?_
  refine IWp.run [1] ?_
  simp [go_sem, -getElem?_pos, -List.map_take, -List.map_drop, List.getElem?_cons_zero, List.getElem?_cons_succ, Go.IntWalk.iteOmega, Go.IntWalk.toNatUp, get_alloc, next_alloc]
  refine ICalls.mono (newC _) ?_
  rintro v H1 ⟨hv, hH1⟩
  subst hv; subst hH1
  try simp [go_sem, -getElem?_pos, -List.map_take, -List.map_drop, List.getElem?_cons_zero, List.getElem?_cons_succ, Go.IntWalk.iteOmega, Go.IntWalk.toNatUp, get_alloc, next_alloc]
  refine ICalls.mono (showOwn _ H.next (H.next + 1) 0 0 5 ⟨1, 3, ⟨false, false, false, 0, 0⟩⟩ ⟨0, 0, 0⟩ (by simp [get_alloc, next_alloc]) (by simp [get_alloc, next_alloc, Light.cells, Life.cells]) (by omega)) ?_
  rintro v H2 ⟨hv, -, -, -⟩
  rw [ho] at hv; subst hv
  try simp [go_sem, -getElem?_pos, -List.map_take, -List.map_drop, List.getElem?_cons_zero, List.getElem?_cons_succ, Go.IntWalk.iteOmega, Go.IntWalk.toNatUp, get_alloc, next_alloc]
  refine IWp.seq ?_
  refine IWp.run [0] ?_
  simp [go_sem, -getElem?_pos, -List.map_take, -List.map_drop, List.getElem?_cons_zero, List.getElem?_cons_succ, Go.IntWalk.iteOmega, Go.IntWalk.toNatUp, get_alloc, next_alloc]
  refine ICalls.mono (highestOwn _ _ ⟨0, 2, ⟨false, true, false, 0, 0⟩⟩ (by simp [get_alloc, next_alloc, Light.cells, Life.cells])) ?_
  rintro v H3 ⟨hv, -⟩
  rw [ht] at hv; subst hv
  try simp [go_sem, -getElem?_pos, -List.map_take, -List.map_drop, List.getElem?_cons_zero, List.getElem?_cons_succ, Go.IntWalk.iteOmega, Go.IntWalk.toNatUp, get_alloc, next_alloc]
  refine IWp.ret ?_
  simp [go_sem, -getElem?_pos, -List.map_take, -List.map_drop, List.getElem?_cons_zero, List.getElem?_cons_succ, Go.IntWalk.iteOmega, Go.IntWalk.toNatUp, get_alloc, next_alloc, Try.results31]
  try exact .same _

end Go.Proofs.Ytdimnoeldnfikaa.I
