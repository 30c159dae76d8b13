/- Of images: the document's example; whether a draft is short; whether bytes are read alike. No condition. -/
import Derived.Test.YtoecebibhcadoaaDoorPImgB
import Derived.Test.YtoecebibhcadoaaDoorGImgH
import Derived.Test.YtoecebibhcadoaaDoorGImgI
import Derived.Test.YtoecebibhcadoaaDoorGImgJ
namespace Go.Proofs.YtoecebibhcadoaaDoor.I
open Go Go.RowKit
set_option linter.unusedVariables false
set_option linter.unusedSimpArgs false
def draftZ : Draft := ⟨[], [], 0, 0, 0, 0, false, 0⟩
theorem draftZ_wf : draftZ.wf := by simp [draftZ, Draft.wf]
theorem slot_small {c : Config} (h : Fit c) : ∀ x ∈ c.table, x.length ≤ 1000000 := fun x hx => by have := (h.t.2 x hx).1; omega
theorem closed_len' (L : List Int) : (closed L).length = L.length + 2 := by simp [closed]
theorem backC (H : Heap) (m : Int) {c : Config} (hf : Fit c) (hw : c.wf) : ICalls Tryd.prog 13 [frow 1 m ((closed (cfgB c)).map (Value.int .u8))] H fun v H' => v = .tuple #[c.val, .int .i64 0, .int .i64 0] ∧ H' = H := by
  have h := decodeC H m (closed (cfgB c)) (by have := cfgB_small hf; rw [closed_len']; omega) (closed_bs (cfgB_bs hw))
  rw [decP_back hf] at h
  exact h
theorem noneC (H : Heap) : ICalls Tryd.prog 9 [] H fun v H' => v = .bool true ∧ H' = H := by
  refine ICalls.ans (by simp [go_sem]) fun H => IBody.calls (by kernel_rfl) ?_
  have c1 := ICalls.as (K := fun v H' => v = .tuple #[cfgZ.val, .int .i64 0, .int .i64 4] ∧ H' = H) (.cons (.nil 1) .nil) (by have h := decodeC H 0 [] (by simp) (fun x hx => by cases hx); rw [decP_nil] at h; exact h)
  have mk : ∀ K : Heap, ICalls Tryd.prog 11 [.agg ⟨[.slice none 0 0, .slice none 0 0, .int .u8 0, .int .u8 0, .int .u8 0, .int .u8 0, .bool false, .int .u8 0]⟩] K fun v H' => v = (makeS draftZ).val ∧ H' = K := fun K =>
    ICalls.as (.cons (.agg (.cons (.nil 9) (.cons (.nil 1) (FrzL.same _)))) .nil) (make K draftZ draftZ_wf)
  obtain ⟨c, hc⟩ : ∃ c, c = makeS draftZ := ⟨_, rfl⟩
  have hw : c.wf := by rw [hc]; exact make_wf draftZ_wf
  have hf : Fit c := by rw [hc]; exact make_fit draftZ_wf
  rw [← hc] at mk
  refine IBody.of Tryd.func9 rfl (by rw [Tryd.ntmps9]; simp) ?_
  rw [Tryd.ntmps9]
  have Kp : Kept [[],[2,3]] := ⟨⟩
  iterate 2 (refine Kp.s ?_; clear Kp; intro Kp; simp [go_sem, -getElem?_pos, -List.map_take, -List.map_drop, IntWalk.iteOmega, IntWalk.toNatUp, Config.val, Config.cells, cfgZ])
  refine ICalls.then (c1) ?_
  try simp [go_sem, -getElem?_pos, -List.map_take, -List.map_drop, IntWalk.iteOmega, IntWalk.toNatUp, Config.val, Config.cells, cfgZ]
  refine IWp.one [2, 3, 4] ?_
  simp [go_sem, -getElem?_pos, -List.map_take, -List.map_drop, IntWalk.iteOmega, IntWalk.toNatUp, Config.val, Config.cells, cfgZ]
  refine ICalls.then (mk _) ?_
  try simp [go_sem, -getElem?_pos, -List.map_take, -List.map_drop, IntWalk.iteOmega, IntWalk.toNatUp, Config.val, Config.cells, cfgZ]
  refine IWp.one [2, 3, 4, 5, 7] ?_
  simp [go_sem, -getElem?_pos, -List.map_take, -List.map_drop, IntWalk.iteOmega, IntWalk.toNatUp, Config.val, Config.cells, cfgZ]
  refine ICalls.then (encodeC _ c hw (cfgB_small hf)) ?_
  try simp [go_sem, -getElem?_pos, -List.map_take, -List.map_drop, IntWalk.iteOmega, IntWalk.toNatUp, Config.val, Config.cells, cfgZ]
  refine ICalls.then (backC _ 0 hf hw) ?_
  try simp [go_sem, -getElem?_pos, -List.map_take, -List.map_drop, IntWalk.iteOmega, IntWalk.toNatUp, Config.val, Config.cells, cfgZ]
  refine IWp.one [0] ?_
  simp [go_sem, -getElem?_pos, -List.map_take, -List.map_drop, IntWalk.iteOmega, IntWalk.toNatUp, Config.val, Config.cells, cfgZ]
  refine ICalls.then (sameCfg _ c hw (slot_small hf)) ?_
  try simp [go_sem, -getElem?_pos, -List.map_take, -List.map_drop, IntWalk.iteOmega, IntWalk.toNatUp, Config.val, Config.cells, cfgZ]
  refine IWp.one [] ?_
  simp [go_sem, -getElem?_pos, -List.map_take, -List.map_drop, IntWalk.iteOmega, IntWalk.toNatUp, Config.val, Config.cells, cfgZ]
end Go.Proofs.YtoecebibhcadoaaDoor.I
