/- The law ImageLength: it answers true at whatever its arguments are; the package-level variable that it comes to holds what the program's text lays. -/
import Derived.Test.YtoecebibhcadoaaDoorCards
import Derived.Test.YtoecebibhcadoaaDoorTie
import Derived.Test.YtoecebibhcadoaaDoorILaw
import Derived.Test.YtoecebibhcadoaaDoorZE
import Derived.WalkKit
import Derived.ProofKit
import Derived.OpenShut
import Derived.ShutString
import Derived.ChangeOld
import Derived.ChangeSame
import Derived.ChangeVars
import Derived.JoinedOf
import Derived.LaidLaws
import Derived.LaidHandle
import Derived.Below
import Derived.SizedLaws
import Derived.SevenTiedAt
namespace Go.Proofs.YtoecebibhcadoaaDoor.imageLength
open Go Go.ChangeShapes Go.WideShapes Go.ChangeAt Go.RowKit
set_option linter.unusedVariables false
theorem own : ownKnob Tryd.prog.godebug = none := by kernel_rfl
def lv {H : Type} : List (String × DataW H) := [("errors.errorType", Rows.laid_errors_errorType)]
theorem et : Tryd.prog.globalNamed "errors.errorType" = some 0 := by kernel_rfl
theorem rt : (Tryd.prog.cutTypes.find? (·.1 == "internal/reflectlite.rtype")).map (·.2) = some 135 := by kernel_rfl
theorem oneRow : ((List.range 180).filter fun t => Tryd.prog.rowNamed t [101, 114, 114, 111, 114]) = [77] := by kernel_rfl
theorem tsize : Tryd.prog.types.size = 180 := by kernel_rfl
theorem pin_of_laid {W : World} (h : laidMetH Tryd.prog lv W) : I.Pin W.heap.size W := by
  have h' : laidMet Tryd.prog [] W ∧ handlesMet Tryd.prog lv W := h
  obtain ⟨name, u, ty, e1, e2, e3, e4, e5⟩ := h'.2 _ (List.mem_singleton.2 rfl)
  have en : name = [101, 114, 114, 111, 114] := (Option.some.inj e1).symm
  subst en
  obtain rfl := Option.some.inj (rt.symm.trans e2)
  have hm : ty ∈ (List.range 180).filter fun t => Tryd.prog.rowNamed t [101, 114, 114, 111, 114] := List.mem_filter.2 ⟨List.mem_range.2 (by rw [← tsize]; exact e3), e4⟩
  rw [oneRow] at hm
  obtain rfl := List.mem_singleton.1 hm
  have hh : typeHandle Tryd.prog 77 = .pointer (some ⟨1, 77, none⟩) := by kernel_rfl
  rw [hh] at e5
  have hc : W.cell? ⟨0, 0, none⟩ = some (.iface 135 (.agg #[.pointer (some ⟨1, 77, none⟩)])) := by simpa using World.var?_cell et e5 0
  intro p hp
  obtain rfl := List.mem_singleton.1 hp
  exact ⟨World.block_lt_of_cell? W _ hc, hc⟩
noncomputable def laidWorld (os : Os) : World :=
  let w0 := World.holding Tryd.prog os ⟨#[], #[], []⟩
  { w0 with heap := w0.heap.modify 0 fun
      | .cells _ t frozen => .cells #[.iface 135 (.agg #[.pointer (some ⟨1, 77, none⟩)])] t frozen
      | o => o }
theorem laidWorld_met (os : Os) (args : Array Value) : laidMetH Tryd.prog lv ((laidWorld os).forCall (fun _ _ => 0) ⟨#[], args, []⟩).memory :=
  laidMetH_of_parts (laidMet_nil _ _) (by kernel_rfl)
set_option maxRecDepth 100000 in
theorem lifted (os : Os) (started : os.Started) (H : Type) (enc : TypeId × Value → H) :
    ReturnsInHanded {} Tryd.checked os 8 .any (fun w args => (Rows.imageLengthSpec.pre enc Tryd.prog Tryd.f8 [] false w args ∧ laidMetH Tryd.prog lv w) ∧ sizedMet enc Tryd.prog Tryd.f8 (OpenSpec.ofChange Rows.imageLengthSpec) false w args)
      (Rows.imageLengthSpec.post enc Tryd.prog Tryd.f8 false true false false) := by
  refine returnsInHanded_of_change_and (C := Tryd.checked) (X := fun w _ => laidMetH Tryd.prog lv w) (fun _ _ _ hh h => h.of_heap hh) own started (by kernel_rfl) Tryd.func8
    (ChangeSpec.witness_at (enc := enc) (C := Tryd.checked) (os := os) (X := fun w _ => laidMetH Tryd.prog lv w) false (laidWorld os) #[.agg #[.slice none 0 0, .slice none 0 0, .int .u8 0, .int .u8 0, .int .u8 0, .int .u8 0, .bool false, .int .u8 0]] 8 rfl (by kernel_rfl) (by kernel_rfl) (by kernel_rfl) (by kernel_rfl) (by kernel_rfl) (laidWorld_met os _)) ?_
  intro W base args ds gs before hval0 hW _ _ hL _
  have hW' := hW
  obtain ⟨p, q, hA0, hV, rfl, hfz, hnd⟩ := hW
  have hA : DataW.TrodAll enc Tryd.prog W 0 (fun _ => true) true Tryd.f8.params.toList args.toList ds p := hA0
  have hval : ∀ (j : Nat) t v, Tryd.f8.params.toList[j]? = some t → args.toList[j]? = some v → Value.okWide Tryd.prog W .any base t v := fun j t v h1 h2 => hval0 j t v (by rw [← h1, Array.getElem?_toList]) (by rw [← h2, Array.getElem?_toList])
  rw [Tryd.params8] at hA hval
  obtain ⟨rfl, rfl⟩ := trodVars_none hV
  have hpin := pin_of_laid hL
  obtain ⟨a0, as0, g0, gs0, p0, q0, hargs, rfl, rfl, h0, r0⟩ := trodAll_cons hA
  obtain ⟨rfl, rfl, rfl⟩ := trodAll_nil r0
  obtain ⟨dts, ivs, hvr, hlay⟩ := I.open_args [I.Draft.ty] _ _ _ _ (by kernel_rfl) hval hA
  obtain ⟨d0, ds0, v0, vs0, rfl, rfl, l0, hlay⟩ := I.layA_cons hlay
  obtain ⟨rfl, rfl⟩ := I.layA_nil hlay
  obtain ⟨x0, rfl, w0⟩ := I.Draft.ofV l0
  refine (I.law_end (I.imageLength_law _ x0 w0) hpin hvr).mono fun e W' ⟨he, bel⟩ => ?_
  subst he
  exact ⟨_, rfl, _, _, _, [], _, [], hW', trodAll_mk1 (shut_bool Tryd.underlying4 _), I.stay_all (by kernel_rfl) bel _ _ _ _ (by kernel_rfl) hA, rfl, bel.frame _, fun h => by cases h⟩
theorem over : Rows.imageLengthRow.holds Tryd.pinned (OpenSpec.ofChange Rows.imageLengthSpec) :=
  OpenClaim.holds_of_wide 8 Tryd.f8 rfl rfl rfl rfl rfl rfl rfl ⟨rfl, rfl, rfl, rfl, rfl⟩ rfl rfl rfl rfl rfl (by kernel_rfl) Tryd.func8 (by kernel_rfl)
    (of_decide_eq_true (by kernel_rfl)) (by unfold Func.isWrapper; first | (rw [if_pos (by decide +kernel)]; kernel_rfl) | (rw [if_neg (by decide +kernel)]; exact ⟨rfl, rfl⟩))
    (fun os started H enc _ => lifted os started H enc)
theorem card : Rows.ImageLengthCardSaid :=
  Claim7.holds_tied_plain_at .later [] [.handle] true (true, "bf61a0ac0b77768fd6463ca71fcf3807c313b05a13ffb6325fe70bc381b5822f") true
    over (fun _ h => by cases h) (by kernel_rfl) (fun _ h => by cases h) imageLength_row_tie rfl ⟨rfl, rfl⟩ (by kernel_rfl) rfl
    (fun f fn hf hfn => by
      obtain rfl : f = 8 := Option.some.inj ((show Tryd.prog.funcNamed "handbell/handbelllaw06.ImageLength" = some 8 by kernel_rfl).symm.trans hf) |>.symm
      obtain rfl : fn = Tryd.f8 := (Option.some.inj (Tryd.func8.symm.trans hfn)).symm
      exact ⟨by kernel_rfl, fun j t ht => by
        rw [Tryd.params8] at ht
        have hm : t ∈ [25] := by simpa using Array.mem_of_getElem? ht
        have hall : ([25].all fun u => !Tryd.prog.wantsStandIn u) = true := by kernel_rfl
        exact (show Tryd.prog.wantsStandIn t = false by simpa using List.all_eq_true.1 hall t hm)⟩)
    (by kernel_rfl)
end Go.Proofs.YtoecebibhcadoaaDoor.imageLength
namespace Go.Proofs.YtoecebibhcadoaaDoor
theorem imageLength_holds : Rows.ImageLengthCardSaid := imageLength.card
end Go.Proofs.YtoecebibhcadoaaDoor
