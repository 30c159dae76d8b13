/- Rows of bytes held against each other by Go's library. No condition. -/
import Derived.Test.YtgmpjbifbnaijaaGBytes
namespace Go.Proofs.Ytgmpjbifbnaijaa.I
open Go Go.RowKit
set_option linter.unusedVariables false
set_option linter.unusedSimpArgs false

theorem equal (H : Heap) (m k : Int) (L M : List Int) (hL : Bs L) (hM : Bs M) :
    ICalls Try.prog 34 [frow 1 m (L.map (Value.int .u8)), frow 1 k (M.map (Value.int .u8))] H fun v H' => v = .bool (decide (L = M)) ∧ H' = H := by
  refine IBody.calls (by kernel_rfl) ?_
  refine IBody.of Try.func34 rfl (by rw [Try.ntmps34]; simp) ?_
  rw [Try.ntmps34]
  refine IWp.seq ?_
  refine IWp.run [0, 1] ?_
  simp [go_sem, -getElem?_pos, -List.map_take, -List.map_drop, List.getElem?_cons_zero, List.getElem?_cons_succ, Go.IntWalk.iteOmega, Go.IntWalk.toNatUp, strOf_beq hL hM]
  refine IWp.seq ?_
  refine IWp.run [4] ?_
  simp [go_sem, -getElem?_pos, -List.map_take, -List.map_drop, List.getElem?_cons_zero, List.getElem?_cons_succ, Go.IntWalk.iteOmega, Go.IntWalk.toNatUp, strOf_beq hL hM]
  refine IWp.ret ?_
  simp [go_sem, -getElem?_pos, -List.map_take, -List.map_drop, List.getElem?_cons_zero, List.getElem?_cons_succ, Go.IntWalk.iteOmega, Go.IntWalk.toNatUp, strOf_beq hL hM, Try.results34]


end Go.Proofs.Ytgmpjbifbnaijaa.I
