/- The law ClockOnce: it answers true at whatever its arguments are. -/
import Derived.Test.YtdimnoeldnfikaaRows
import Derived.Test.YtdimnoeldnfikaaILaw
import Derived.Test.YtdimnoeldnfikaaLClockB
import Derived.WalkKit
import Derived.ProofKit
import Derived.OpenShut
import Derived.ShutString
import Derived.ChangeOld
import Derived.Below
import Derived.SizedLaws
namespace Go.Proofs.Ytdimnoeldnfikaa.clockOnce
open Go.ChangeShapes Go.WideShapes Go.ChangeAt Go.RowKit
set_option linter.unusedVariables false
theorem own : ownKnob Try.prog.godebug = none := by kernel_rfl
set_option maxRecDepth 100000 in
theorem lifted (os : Os) (started : os.Started) (H : Type) (enc : TypeId × Value → H) :
    ReturnsInHanded {} Try.checked os 3 .any (Rows.clockOnceSpec.pre6 enc Try.prog Try.f3 Rows.clockOnceRow.domain false) (Rows.clockOnceSpec.post enc Try.prog Try.f3 false true false false) := by
  refine returnsInHanded_of_change_sized (C := Try.checked) own started (by kernel_rfl) Try.func3
    (ChangeSpec.witness6 (enc := enc) (C := Try.checked) false ⟨#[], #[.slice none 0 0, .int .i64 0], []⟩ 8 (by kernel_rfl) (by kernel_rfl) (by kernel_rfl) (by kernel_rfl)) ?_
  intro W base args ds gs before hval0 hW hcnd hsz0 _
  have hW' := hW
  obtain ⟨p, q, hA0, hV, rfl, hfz, hnd⟩ := hW
  have hA : DataW.TrodAll enc Try.prog W 0 (fun _ => true) true Try.f3.params.toList args.toList ds p := hA0
  have hval : ∀ (j : Nat) t v, Try.f3.params.toList[j]? = some t → args.toList[j]? = some v → Value.okWide Try.prog W .any base t v := fun j t v h1 h2 => hval0 j t v (by rw [← h1, Array.getElem?_toList]) (by rw [← h2, Array.getElem?_toList])
  rw [Try.params3] at hA hval
  obtain ⟨rfl, rfl⟩ := trodVars_none hV
  obtain ⟨a0, as0, g0, gs0, p0, q0, hargs, rfl, rfl, h0, r0⟩ := trodAll_cons hA
  obtain ⟨a1, as1, g1, gs1, p1, q1, rfl, rfl, rfl, h1, r1⟩ := trodAll_cons r0
  obtain ⟨rfl, rfl, rfl⟩ := trodAll_nil r1
  obtain ⟨dts, ivs, hvr, hlay⟩ := I.open_args [.row (.int .i64) 1, .int .i64] _ _ _ _ (by kernel_rfl) hval hA
  obtain ⟨d0, ds0, v0, vs0, rfl, rfl, l0, hlay⟩ := I.layA_cons hlay
  obtain ⟨d1, ds1, v1, vs1, rfl, rfl, l1, hlay⟩ := I.layA_cons hlay
  obtain ⟨rfl, rfl⟩ := I.layA_nil hlay
  obtain ⟨L0, rfl, w0, z0⟩ := I.layV_ints l0
  have w0 := fun x hx => I.wf_i64 (w0 x hx)
  obtain ⟨n1, rfl, w1⟩ := I.layV_int l1
  have w1 := I.wf_i64 w1
  refine (I.law_end (I.clockOnce_law _ L0 n1 rfl w0 w1) hvr).mono fun e W' ⟨he, bel⟩ => ?_
  subst he
  exact ⟨_, rfl, _, _, _, [], _, [], hW', trodAll_mk1 (shut_bool Try.underlying4 _), I.stay_all (by kernel_rfl) bel _ _ _ _ (by kernel_rfl) hA, rfl, bel.frame _, fun h => by cases h⟩
theorem over : Rows.clockOnceRow.holds Try.pinned (OpenSpec.ofChange Rows.clockOnceSpec) :=
  OpenClaim.holds_of_wide 3 Try.f3 rfl rfl rfl rfl rfl rfl rfl ⟨rfl, rfl, rfl, rfl, rfl⟩ rfl rfl rfl rfl rfl (by kernel_rfl) Try.func3 (by kernel_rfl)
    (of_decide_eq_true (by kernel_rfl)) (by unfold Func.isWrapper; first | (rw [if_pos (by decide +kernel)]; kernel_rfl) | (rw [if_neg (by decide +kernel)]; exact ⟨rfl, rfl⟩))
    (fun os started H enc _ => lifted os started H enc)
theorem proved : Rows.ClockOnceSaid := over
end Go.Proofs.Ytdimnoeldnfikaa.clockOnce
namespace Go.Proofs.Ytdimnoeldnfikaa
/-- The row, under a short name, for the claim. -/
theorem clockOnce_holds : Rows.ClockOnceSaid := clockOnce.proved
end Go.Proofs.Ytdimnoeldnfikaa
