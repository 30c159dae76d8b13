/- Of images: what is asked. No condition. -/
import Derived.Test.YtoecebibhcadoaaDoorLImg
import Derived.Test.YtoecebibhcadoaaDoorGShortI
import Derived.Test.YtoecebibhcadoaaDoorLDraft
namespace Go.Proofs.YtoecebibhcadoaaDoor.I
open Go Go.RowKit
set_option linter.unusedVariables false
set_option linter.unusedSimpArgs false
theorem shortD' (H : Heap) (d : Draft) : ICalls Tryd.prog 10 [d.val] H fun v H' => v = .bool (decide (shortD d)) ∧ H' = H := shortI H d
theorem imageBack_law (H : Heap) (d : Draft) (hd : d.wf) : IBody Tryd.prog 3 [d.val] H fun v _ => v = .bool true := by
  by_cases hs : shortD d
  · obtain ⟨c, hc⟩ : ∃ c, c = makeS d := ⟨_, rfl⟩
    have hw : c.wf := by rw [hc]; exact make_wf hd
    have hf : Fit c := by rw [hc]; exact make_fit hd
    have mk := fun K => make K d hd
    rw [← hc] at mk
    have dcs := decide_eq_true hs
    refine IBody.of Tryd.func3 rfl (by rw [Tryd.ntmps3]; simp) ?_
    rw [Tryd.ntmps3]
    have Kp : Kept [[1],[1,14]] := ⟨⟩
    iterate 2 (refine Kp.s ?_; clear Kp; intro Kp; simp [go_sem, -getElem?_pos, -List.map_take, -List.map_drop, IntWalk.iteOmega, IntWalk.toNatUp, Draft.val, Draft.cells, dcs, Config.val, Config.cells])
    refine ICalls.then (noneC _) ?_
    try simp [go_sem, -getElem?_pos, -List.map_take, -List.map_drop, IntWalk.iteOmega, IntWalk.toNatUp, Draft.val, Draft.cells, dcs, Config.val, Config.cells]
    refine ICalls.then (shortD' _ d) ?_
    try simp [go_sem, -getElem?_pos, -List.map_take, -List.map_drop, IntWalk.iteOmega, IntWalk.toNatUp, Draft.val, Draft.cells, dcs, Config.val, Config.cells]
    have Kp : Kept [[],[1],[3]] := ⟨⟩
    iterate 3 (refine Kp.s ?_; clear Kp; intro Kp; simp [go_sem, -getElem?_pos, -List.map_take, -List.map_drop, IntWalk.iteOmega, IntWalk.toNatUp, Draft.val, Draft.cells, dcs, Config.val, Config.cells])
    refine ICalls.then (mk _) ?_
    try simp [go_sem, -getElem?_pos, -List.map_take, -List.map_drop, IntWalk.iteOmega, IntWalk.toNatUp, Draft.val, Draft.cells, dcs, Config.val, Config.cells]
    refine IWp.one [3, 4] ?_
    simp [go_sem, -getElem?_pos, -List.map_take, -List.map_drop, IntWalk.iteOmega, IntWalk.toNatUp, Draft.val, Draft.cells, dcs, Config.val, Config.cells]
    refine ICalls.then (encodeC _ c hw (cfgB_small hf)) ?_
    try simp [go_sem, -getElem?_pos, -List.map_take, -List.map_drop, IntWalk.iteOmega, IntWalk.toNatUp, Draft.val, Draft.cells, dcs, Config.val, Config.cells]
    refine IWp.one [3, 4, 5, 6, 7] ?_
    simp [go_sem, -getElem?_pos, -List.map_take, -List.map_drop, IntWalk.iteOmega, IntWalk.toNatUp, Draft.val, Draft.cells, dcs, Config.val, Config.cells]
    refine ICalls.then (backC _ 0 hf hw) ?_
    try simp [go_sem, -getElem?_pos, -List.map_take, -List.map_drop, IntWalk.iteOmega, IntWalk.toNatUp, Draft.val, Draft.cells, dcs, Config.val, Config.cells]
    refine IWp.one [2] ?_
    simp [go_sem, -getElem?_pos, -List.map_take, -List.map_drop, IntWalk.iteOmega, IntWalk.toNatUp, Draft.val, Draft.cells, dcs, Config.val, Config.cells]
    refine ICalls.then (refEncode _ c hw (cfgB_small hf)) ?_
    try simp [go_sem, -getElem?_pos, -List.map_take, -List.map_drop, IntWalk.iteOmega, IntWalk.toNatUp, Draft.val, Draft.cells, dcs, Config.val, Config.cells]
    refine ICalls.then (refBytes _ 0 0 (closed (cfgB c)) (closed (cfgB c)) (by rw [closed_len']; have := cfgB_small hf; omega)) ?_
    try simp [go_sem, -getElem?_pos, -List.map_take, -List.map_drop, IntWalk.iteOmega, IntWalk.toNatUp, Draft.val, Draft.cells, dcs, Config.val, Config.cells]
    refine ICalls.then (sameCfg _ c hw (slot_small hf)) ?_
    try simp [go_sem, -getElem?_pos, -List.map_take, -List.map_drop, IntWalk.iteOmega, IntWalk.toNatUp, Draft.val, Draft.cells, dcs, Config.val, Config.cells]
    refine IWp.one [] ?_
    simp [go_sem, -getElem?_pos, -List.map_take, -List.map_drop, IntWalk.iteOmega, IntWalk.toNatUp, Draft.val, Draft.cells, dcs, Config.val, Config.cells]
  · have dcs := decide_eq_false hs
    refine IBody.of Tryd.func3 rfl (by rw [Tryd.ntmps3]; simp) ?_
    rw [Tryd.ntmps3]
    have Kp : Kept [[1],[1,14]] := ⟨⟩
    iterate 2 (refine Kp.s ?_; clear Kp; intro Kp; simp [go_sem, -getElem?_pos, -List.map_take, -List.map_drop, IntWalk.iteOmega, IntWalk.toNatUp, Draft.val, Draft.cells, dcs])
    refine ICalls.then (noneC _) ?_
    try simp [go_sem, -getElem?_pos, -List.map_take, -List.map_drop, IntWalk.iteOmega, IntWalk.toNatUp, Draft.val, Draft.cells, dcs]
    refine ICalls.then (shortD' _ d) ?_
    try simp [go_sem, -getElem?_pos, -List.map_take, -List.map_drop, IntWalk.iteOmega, IntWalk.toNatUp, Draft.val, Draft.cells, dcs]
    have Kp : Kept [[],[2]] := ⟨⟩
    iterate 2 (refine Kp.s ?_; clear Kp; intro Kp; simp [go_sem, -getElem?_pos, -List.map_take, -List.map_drop, IntWalk.iteOmega, IntWalk.toNatUp, Draft.val, Draft.cells, dcs])
    refine ICalls.then (noneC _) ?_
    try simp [go_sem, -getElem?_pos, -List.map_take, -List.map_drop, IntWalk.iteOmega, IntWalk.toNatUp, Draft.val, Draft.cells, dcs]
    refine IWp.one [] ?_
    simp [go_sem, -getElem?_pos, -List.map_take, -List.map_drop, IntWalk.iteOmega, IntWalk.toNatUp, Draft.val, Draft.cells, dcs]
end Go.Proofs.YtoecebibhcadoaaDoor.I
