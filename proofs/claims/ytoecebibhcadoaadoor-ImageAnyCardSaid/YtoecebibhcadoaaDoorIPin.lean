/- The package-level variables' cells that a world must have. No condition. -/
import Derived.Below
namespace Go.Proofs.YtoecebibhcadoaaDoor.I
open Go Go.RowKit
def pins : List (Nat × Value) := [(0, .iface 135 (.agg #[.pointer (some ⟨1, 77, none⟩)]))]
def Pin (B : Nat) (w : World) : Prop := ∀ p ∈ pins, p.1 < B ∧ w.cell? ⟨p.1, 0, none⟩ = some p.2
theorem Pin.later {B : Nat} {w0 w : World} (h : Pin B w0) (hb : Below B w0 w) (hs : B ≤ w.heap.size) : Pin w.heap.size w :=
  fun p hp => ⟨Nat.lt_of_lt_of_le (h p hp).1 hs, (hb.cell (p := ⟨p.1, 0, none⟩) (h p hp).1).trans (h p hp).2⟩
end Go.Proofs.YtoecebibhcadoaaDoor.I
