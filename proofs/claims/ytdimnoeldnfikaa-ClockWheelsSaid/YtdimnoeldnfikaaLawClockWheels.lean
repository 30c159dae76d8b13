/- The law ClockWheels: it answers true at whatever its arguments are. -/
import Derived.Test.YtdimnoeldnfikaaRows
import Derived.Test.YtdimnoeldnfikaaILaw
import Derived.Test.YtdimnoeldnfikaaLClockC
import Derived.WalkKit
import Derived.ProofKit
import Derived.OpenShut
import Derived.ShutString
import Derived.ChangeOld
import Derived.Below
import Derived.SizedLaws
namespace Go.Proofs.Ytdimnoeldnfikaa.clockWheels
open Go.ChangeShapes Go.WideShapes Go.ChangeAt Go.RowKit
set_option linter.unusedVariables false
theorem own : ownKnob Try.prog.godebug = none := by kernel_rfl
set_option maxRecDepth 100000 in
theorem lifted (os : Os) (started : os.Started) (H : Type) (enc : TypeId × Value → H) :
    ReturnsInHanded {} Try.checked os 8 .any (Rows.clockWheelsSpec.pre6 enc Try.prog Try.f8 Rows.clockWheelsRow.domain false) (Rows.clockWheelsSpec.post enc Try.prog Try.f8 false true false false) := by
  refine returnsInHanded_of_change_sized (C := Try.checked) own started (by kernel_rfl) Try.func8
    (ChangeSpec.witness6 (enc := enc) (C := Try.checked) false ⟨#[], #[.slice none 0 0, .bool false], []⟩ 8 (by kernel_rfl) (by kernel_rfl) (by kernel_rfl) (by kernel_rfl)) ?_
  intro W base args ds gs before hval0 hW hcnd hsz0 _
  have hW' := hW
  obtain ⟨p, q, hA0, hV, rfl, hfz, hnd⟩ := hW
  have hA : DataW.TrodAll enc Try.prog W 0 (fun _ => true) true Try.f8.params.toList args.toList ds p := hA0
  have hval : ∀ (j : Nat) t v, Try.f8.params.toList[j]? = some t → args.toList[j]? = some v → Value.okWide Try.prog W .any base t v := fun j t v h1 h2 => hval0 j t v (by rw [← h1, Array.getElem?_toList]) (by rw [← h2, Array.getElem?_toList])
  rw [Try.params8] at hA hval
  obtain ⟨rfl, rfl⟩ := trodVars_none hV
  obtain ⟨a0, as0, g0, gs0, p0, q0, hargs, rfl, rfl, h0, r0⟩ := trodAll_cons hA
  obtain ⟨a1, as1, g1, gs1, p1, q1, rfl, rfl, rfl, h1, r1⟩ := trodAll_cons r0
  obtain ⟨rfl, rfl, rfl⟩ := trodAll_nil r1
  obtain ⟨dts, ivs, hvr, hlay⟩ := I.open_args [.row I.Act.ty 3, .bool] _ _ _ _ (by kernel_rfl) hval hA
  obtain ⟨d0, ds0, v0, vs0, rfl, rfl, l0, hlay⟩ := I.layA_cons hlay
  obtain ⟨d1, ds1, v1, vs1, rfl, rfl, l1, hlay⟩ := I.layA_cons hlay
  obtain ⟨rfl, rfl⟩ := I.layA_nil hlay
  obtain ⟨L0, rfl, w0, z0⟩ := I.Act.ofRow l0
  obtain ⟨b1, rfl⟩ := I.layV_bool l1
  refine (I.law_end (I.clockWheels_law _ L0 b1 rfl w0) hvr).mono fun e W' ⟨he, bel⟩ => ?_
  subst he
  exact ⟨_, rfl, _, _, _, [], _, [], hW', trodAll_mk1 (shut_bool Try.underlying4 _), I.stay_all (by kernel_rfl) bel _ _ _ _ (by kernel_rfl) hA, rfl, bel.frame _, fun h => by cases h⟩
theorem over : Rows.clockWheelsRow.holds Try.pinned (OpenSpec.ofChange Rows.clockWheelsSpec) :=
  OpenClaim.holds_of_wide 8 Try.f8 rfl rfl rfl rfl rfl rfl rfl ⟨rfl, rfl, rfl, rfl, rfl⟩ rfl rfl rfl rfl rfl (by kernel_rfl) Try.func8 (by kernel_rfl)
    (of_decide_eq_true (by kernel_rfl)) (by unfold Func.isWrapper; first | (rw [if_pos (by decide +kernel)]; kernel_rfl) | (rw [if_neg (by decide +kernel)]; exact ⟨rfl, rfl⟩))
    (fun os started H enc _ => lifted os started H enc)
theorem proved : Rows.ClockWheelsSaid := over
end Go.Proofs.Ytdimnoeldnfikaa.clockWheels
namespace Go.Proofs.Ytdimnoeldnfikaa
/-- The row, under a short name, for the claim. -/
theorem clockWheels_holds : Rows.ClockWheelsSaid := clockWheels.proved
end Go.Proofs.Ytdimnoeldnfikaa
