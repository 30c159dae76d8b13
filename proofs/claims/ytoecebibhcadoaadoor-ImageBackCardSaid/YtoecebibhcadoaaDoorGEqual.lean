/- Rows of bytes held against each other by Go's library. No condition. -/
import Derived.Test.YtoecebibhcadoaaDoorGBytes
namespace Go.Proofs.YtoecebibhcadoaaDoor.I
open Go Go.RowKit
set_option linter.unusedVariables false
set_option linter.unusedSimpArgs false
theorem equal (H : Heap) (m k : Int) (L M : List Int) (hL : Bs L) (hM : Bs M) :
    ICalls Tryd.prog 65 [frow 1 m (L.map (Value.int .u8)), frow 1 k (M.map (Value.int .u8))] H fun v H' => v = .bool (decide (L = M)) ∧ H' = H := by
  refine IBody.calls (by kernel_rfl) ?_
  refine IBody.of Tryd.func65 rfl (by rw [Tryd.ntmps65]; simp) ?_
  rw [Tryd.ntmps65]
  have Kp : Kept [[0,1],[4],[]] := ⟨⟩
  iterate 3 (refine Kp.s ?_; clear Kp; intro Kp; simp [go_sem, -getElem?_pos, -List.map_take, -List.map_drop, IntWalk.iteOmega, IntWalk.toNatUp, strOf_beq hL hM])
end Go.Proofs.YtoecebibhcadoaaDoor.I
