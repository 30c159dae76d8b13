/- The law ImageAny: it answers true at whatever its arguments are; the package-level variable that it comes to holds what the program's text lays. -/
import Derived.Test.YtoecebibhcadoaaDoorCards
import Derived.Test.YtoecebibhcadoaaDoorTie
import Derived.Test.YtoecebibhcadoaaDoorILaw
import Derived.Test.YtoecebibhcadoaaDoorZG
import Derived.WalkKit
import Derived.ProofKit
import Derived.OpenShut
import Derived.ShutString
import Derived.ChangeOld
import Derived.ChangeSame
import Derived.ChangeVars
import Derived.JoinedOf
import Derived.LaidLaws
import Derived.LaidHandle
import Derived.Below
import Derived.SizedLaws
import Derived.SevenTiedAt
namespace Go.Proofs.YtoecebibhcadoaaDoor.imageAny
open Go Go.ChangeShapes Go.WideShapes Go.ChangeAt Go.RowKit
set_option linter.unusedVariables false
theorem own : ownKnob Tryd.prog.godebug = none := by kernel_rfl
def lv {H : Type} : List (String × DataW H) := [("errors.errorType", Rows.laid_errors_errorType)]
theorem et : Tryd.prog.globalNamed "errors.errorType" = some 0 := by kernel_rfl
theorem rt : (Tryd.prog.cutTypes.find? (·.1 == "internal/reflectlite.rtype")).map (·.2) = some 135 := by kernel_rfl
theorem oneRow : ((List.range 180).filter fun t => Tryd.prog.rowNamed t [101, 114, 114, 111, 114]) = [77] := by kernel_rfl
theorem tsize : Tryd.prog.types.size = 180 := by kernel_rfl
theorem pin_of_laid {W : World} (h : laidMetH Tryd.prog lv W) : I.Pin W.heap.size W := by
  have h' : laidMet Tryd.prog [] W ∧ handlesMet Tryd.prog lv W := h
  obtain ⟨name, u, ty, e1, e2, e3, e4, e5⟩ := h'.2 _ (List.mem_singleton.2 rfl)
  have en : name = [101, 114, 114, 111, 114] := (Option.some.inj e1).symm
  subst en
  obtain rfl := Option.some.inj (rt.symm.trans e2)
  have hm : ty ∈ (List.range 180).filter fun t => Tryd.prog.rowNamed t [101, 114, 114, 111, 114] := List.mem_filter.2 ⟨List.mem_range.2 (by rw [← tsize]; exact e3), e4⟩
  rw [oneRow] at hm
  obtain rfl := List.mem_singleton.1 hm
  have hh : typeHandle Tryd.prog 77 = .pointer (some ⟨1, 77, none⟩) := by kernel_rfl
  rw [hh] at e5
  have hc : W.cell? ⟨0, 0, none⟩ = some (.iface 135 (.agg #[.pointer (some ⟨1, 77, none⟩)])) := by simpa using World.var?_cell et e5 0
  intro p hp
  obtain rfl := List.mem_singleton.1 hp
  exact ⟨World.block_lt_of_cell? W _ hc, hc⟩
noncomputable def laidWorld (os : Os) : World :=
  let w0 := World.holding Tryd.prog os ⟨#[], #[], []⟩
  { w0 with heap := w0.heap.modify 0 fun
      | .cells _ t frozen => .cells #[.iface 135 (.agg #[.pointer (some ⟨1, 77, none⟩)])] t frozen
      | o => o }
theorem laidWorld_met (os : Os) (args : Array Value) : laidMetH Tryd.prog lv ((laidWorld os).forCall (fun _ _ => 0) ⟨#[], args, []⟩).memory :=
  laidMetH_of_parts (laidMet_nil _ _) (by kernel_rfl)
set_option maxRecDepth 100000 in
theorem lifted (os : Os) (started : os.Started) (H : Type) (enc : TypeId × Value → H) :
    ReturnsInHanded {} Tryd.checked os 7 .any (fun w args => (Rows.imageAnySpec.pre enc Tryd.prog Tryd.f7 [] false w args ∧ laidMetH Tryd.prog lv w) ∧ sizedMet enc Tryd.prog Tryd.f7 (OpenSpec.ofChange Rows.imageAnySpec) false w args)
      (Rows.imageAnySpec.post enc Tryd.prog Tryd.f7 false true false false) := by
  refine returnsInHanded_of_change_and (C := Tryd.checked) (X := fun w _ => laidMetH Tryd.prog lv w) (fun _ _ _ hh h => h.of_heap hh) own started (by kernel_rfl) Tryd.func7
    (ChangeSpec.witness_at (enc := enc) (C := Tryd.checked) (os := os) (X := fun w _ => laidMetH Tryd.prog lv w) false (laidWorld os) #[.agg #[.slice none 0 0, .slice none 0 0, .int .u8 0, .int .u8 0, .int .u8 0, .int .u8 0, .bool false, .int .u8 0], .int .i32 0, .int .i32 0, .int .u8 0, .int .u8 0, .int .u8 0, .int .u8 0, .int .i32 0] 8 rfl (by kernel_rfl) (by kernel_rfl) (by kernel_rfl) (by kernel_rfl) (by kernel_rfl) (laidWorld_met os _)) ?_
  intro W base args ds gs before hval0 hW _ _ hL _
  have hW' := hW
  obtain ⟨p, q, hA0, hV, rfl, hfz, hnd⟩ := hW
  have hA : DataW.TrodAll enc Tryd.prog W 0 (fun _ => true) true Tryd.f7.params.toList args.toList ds p := hA0
  have hval : ∀ (j : Nat) t v, Tryd.f7.params.toList[j]? = some t → args.toList[j]? = some v → Value.okWide Tryd.prog W .any base t v := fun j t v h1 h2 => hval0 j t v (by rw [← h1, Array.getElem?_toList]) (by rw [← h2, Array.getElem?_toList])
  rw [Tryd.params7] at hA hval
  obtain ⟨rfl, rfl⟩ := trodVars_none hV
  have hpin := pin_of_laid hL
  obtain ⟨a0, as0, g0, gs0, p0, q0, hargs, rfl, rfl, h0, r0⟩ := trodAll_cons hA
  obtain ⟨a1, as1, g1, gs1, p1, q1, rfl, rfl, rfl, h1, r1⟩ := trodAll_cons r0
  obtain ⟨a2, as2, g2, gs2, p2, q2, rfl, rfl, rfl, h2, r2⟩ := trodAll_cons r1
  obtain ⟨a3, as3, g3, gs3, p3, q3, rfl, rfl, rfl, h3, r3⟩ := trodAll_cons r2
  obtain ⟨a4, as4, g4, gs4, p4, q4, rfl, rfl, rfl, h4, r4⟩ := trodAll_cons r3
  obtain ⟨a5, as5, g5, gs5, p5, q5, rfl, rfl, rfl, h5, r5⟩ := trodAll_cons r4
  obtain ⟨a6, as6, g6, gs6, p6, q6, rfl, rfl, rfl, h6, r6⟩ := trodAll_cons r5
  obtain ⟨a7, as7, g7, gs7, p7, q7, rfl, rfl, rfl, h7, r7⟩ := trodAll_cons r6
  obtain ⟨rfl, rfl, rfl⟩ := trodAll_nil r7
  obtain ⟨dts, ivs, hvr, hlay⟩ := I.open_args [I.Draft.ty, .int .i32, .int .i32, .int .u8, .int .u8, .int .u8, .int .u8, .int .i32] _ _ _ _ (by kernel_rfl) hval hA
  obtain ⟨d0, ds0, v0, vs0, rfl, rfl, l0, hlay⟩ := I.layA_cons hlay
  obtain ⟨d1, ds1, v1, vs1, rfl, rfl, l1, hlay⟩ := I.layA_cons hlay
  obtain ⟨d2, ds2, v2, vs2, rfl, rfl, l2, hlay⟩ := I.layA_cons hlay
  obtain ⟨d3, ds3, v3, vs3, rfl, rfl, l3, hlay⟩ := I.layA_cons hlay
  obtain ⟨d4, ds4, v4, vs4, rfl, rfl, l4, hlay⟩ := I.layA_cons hlay
  obtain ⟨d5, ds5, v5, vs5, rfl, rfl, l5, hlay⟩ := I.layA_cons hlay
  obtain ⟨d6, ds6, v6, vs6, rfl, rfl, l6, hlay⟩ := I.layA_cons hlay
  obtain ⟨d7, ds7, v7, vs7, rfl, rfl, l7, hlay⟩ := I.layA_cons hlay
  obtain ⟨rfl, rfl⟩ := I.layA_nil hlay
  obtain ⟨x0, rfl, w0⟩ := I.Draft.ofV l0
  obtain ⟨n1, rfl, w1⟩ := I.layV_int l1
  have w1 := I.wf_i32 w1
  obtain ⟨n2, rfl, w2⟩ := I.layV_int l2
  have w2 := I.wf_i32 w2
  obtain ⟨n3, rfl, w3⟩ := I.layV_int l3
  have w3 := I.wf_u8 w3
  obtain ⟨n4, rfl, w4⟩ := I.layV_int l4
  have w4 := I.wf_u8 w4
  obtain ⟨n5, rfl, w5⟩ := I.layV_int l5
  have w5 := I.wf_u8 w5
  obtain ⟨n6, rfl, w6⟩ := I.layV_int l6
  have w6 := I.wf_u8 w6
  obtain ⟨n7, rfl, w7⟩ := I.layV_int l7
  have w7 := I.wf_i32 w7
  refine (I.law_end (I.imageAny_law _ x0 n1 n2 n3 n4 n5 n6 n7 w0 w1 w2 w3 w4 w5 w6 w7) hpin hvr).mono fun e W' ⟨he, bel⟩ => ?_
  subst he
  exact ⟨_, rfl, _, _, _, [], _, [], hW', trodAll_mk1 (shut_bool Tryd.underlying4 _), I.stay_all (by kernel_rfl) bel _ _ _ _ (by kernel_rfl) hA, rfl, bel.frame _, fun h => by cases h⟩
theorem over : Rows.imageAnyRow.holds Tryd.pinned (OpenSpec.ofChange Rows.imageAnySpec) :=
  OpenClaim.holds_of_wide 7 Tryd.f7 rfl rfl rfl rfl rfl rfl rfl ⟨rfl, rfl, rfl, rfl, rfl⟩ rfl rfl rfl rfl rfl (by kernel_rfl) Tryd.func7 (by kernel_rfl)
    (of_decide_eq_true (by kernel_rfl)) (by unfold Func.isWrapper; first | (rw [if_pos (by decide +kernel)]; kernel_rfl) | (rw [if_neg (by decide +kernel)]; exact ⟨rfl, rfl⟩))
    (fun os started H enc _ => lifted os started H enc)
theorem card : Rows.ImageAnyCardSaid :=
  Claim7.holds_tied_plain_at .later [] [.handle] true (true, "bf61a0ac0b77768fd6463ca71fcf3807c313b05a13ffb6325fe70bc381b5822f") true
    over (fun _ h => by cases h) (by kernel_rfl) (fun _ h => by cases h) imageAny_row_tie rfl ⟨rfl, rfl⟩ (by kernel_rfl) rfl
    (fun f fn hf hfn => by
      obtain rfl : f = 7 := Option.some.inj ((show Tryd.prog.funcNamed "handbell/handbelllaw06.ImageAny" = some 7 by kernel_rfl).symm.trans hf) |>.symm
      obtain rfl : fn = Tryd.f7 := (Option.some.inj (Tryd.func7.symm.trans hfn)).symm
      exact ⟨by kernel_rfl, fun j t ht => by
        rw [Tryd.params7] at ht
        have hm : t ∈ [25, 21, 21, 5, 5, 5, 5, 21] := by simpa using Array.mem_of_getElem? ht
        have hall : ([25, 21, 21, 5, 5, 5, 5, 21].all fun u => !Tryd.prog.wantsStandIn u) = true := by kernel_rfl
        exact (show Tryd.prog.wantsStandIn t = false by simpa using List.all_eq_true.1 hall t hm)⟩)
    (by kernel_rfl)
end Go.Proofs.YtoecebibhcadoaaDoor.imageAny
namespace Go.Proofs.YtoecebibhcadoaaDoor
theorem imageAny_holds : Rows.ImageAnyCardSaid := imageAny.card
end Go.Proofs.YtoecebibhcadoaaDoor
