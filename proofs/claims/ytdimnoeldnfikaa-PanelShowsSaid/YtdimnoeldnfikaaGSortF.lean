/- The library's sort of lamps: whatever they are, in their order. No condition. -/
import Derived.Test.YtdimnoeldnfikaaGSortB
import Derived.Test.YtdimnoeldnfikaaGSortC
import Derived.Test.YtdimnoeldnfikaaGSortL
import Derived.Test.YtdimnoeldnfikaaGLampsB
namespace Go.Proofs.Ytdimnoeldnfikaa.I
open Go Go.RowKit Go.Sort Go.Shelf
set_option linter.unusedVariables false

theorem sortsL : SortsL := by
  intro H b c d hH hd hl
  have h := sort_calls (P := Try.prog) lampLay 5 Try.isAgg104 Try.sizeOf104 Lamp.cells (fun _ => rfl) (fun _ => rfl) (fun x v hv => by
    simp only [Lamp.cells, List.mem_cons, List.not_mem_nil, or_false] at hv
    rcases hv with rfl | rfl | rfl | rfl | rfl <;> rfl) cfL swoL 50 (enters_of Try.func50 (by kernel_rfl) rfl) cmpLaysL (lampLay.f6.enters rfl) (c := c) hH hd hl
  rw [ltOf_cfL] at h
  exact h

theorem lampsC (H : Heap) (L : List Light) (hL : L.length ≤ 100000) (hn : (L.map Light.cond).Nodup) : ICalls Try.prog 34 [frow 7 0 (L.map Light.val)] H fun v H' => v = frow 5 0 ((lampsS L).map Lamp.val) ∧ H' = H :=
  lampsC_of sortsL H L hL hn

end Go.Proofs.Ytdimnoeldnfikaa.I
