/- errors.Is, walked: at an Errno, at a *placed that wraps one, at nil. No condition. -/
import Derived.Test.YtoecebibhcadoaaDoorWAs
import Derived.Lib.IfaceEq
namespace Go.Proofs.YtoecebibhcadoaaDoor.I
open Go Go.RowKit Go.Extern.Stop Go.Stop Go.Extern Go.Lib
set_option linter.unusedVariables false
set_option linter.unusedSimpArgs false
theorem comparable36' (w : World) : ((ReflectliteType.method fun t => do Rtype.noPackHeld "Comparable" t; (fun a => Value.bool a.comparable) <$> typeInfo t) #[.agg #[.pointer (some ⟨1, 36, none⟩)]]).run Tryd.prog w = .ok (.bool true) w := by kernel_rfl
theorem is_nil (x : Int) (w : World) : Calls Tryd.prog 38 #[.nilIface, .iface 36 (.int .i64 x)] w fun e w' => e = .returned (.bool false) ∧ w' = w := by
  have hn := run_eql_iface_nil_left (P := Tryd.prog) w 36 (.int .i64 x) Tryd.underlying77
  go_enter Tryd.func38, Tryd.ntmps38
  go_wp2
  go_ret
  exact ⟨rfl, rfl⟩
theorem is_same36 (x : Int) (w : World) : Calls Tryd.prog 38 #[.iface 36 (.int .i64 x), .iface 36 (.int .i64 x)] w fun e w' => e = .returned (.bool true) ∧ w' = w := by
  obtain ⟨e, he⟩ : ∃ e, e = x := ⟨_, rfl⟩
  have h58 := @run_callFunc_extern Tryd.prog 58 _ ReflectliteType.typeOf Tryd.func58 (by kernel_rfl) (by kernel_rfl) (by kernel_rfl) (by kernel_rfl)
  have h113 := @run_callFunc_extern Tryd.prog 113 _ (ReflectliteType.method fun t => do Rtype.noPackHeld "Comparable" t; pure (.bool (← typeInfo t).comparable)) Tryd.func113 (by kernel_rfl) (by kernel_rfl) (by kernel_rfl) (by kernel_rfl)
  have tO' := typeOf36
  have cT := comparable36'
  have mC := methodComparable
  have mU := methodUnwrap
  have q1 := noIs36
  have q2 := noIs80
  have q3 := noUnwrap36
  have q4 := noUnwraps36
  have q5 := hasUnwrap80
  have heq := fun W => run_eql_iface_int (P := Tryd.prog) (k := .i64) W x x Tryd.underlying77 (by kernel_rfl) Tryd.underlying36
  simp only [beq_self_eq_true] at heq
  go_enter Tryd.func38, Tryd.ntmps38
  go_wp2
  refine wp_loop_rounds 1 ?_
  rw [rounds_succ]
  go_wp2
  go_ret
  exact ⟨rfl, rfl⟩
theorem is_other36 (e x : Int) (w : World) (hne : e ≠ x) : Calls Tryd.prog 38 #[.iface 36 (.int .i64 e), .iface 36 (.int .i64 x)] w fun e w' => e = .returned (.bool false) ∧ w' = w := by
  have h58 := @run_callFunc_extern Tryd.prog 58 _ ReflectliteType.typeOf Tryd.func58 (by kernel_rfl) (by kernel_rfl) (by kernel_rfl) (by kernel_rfl)
  have h113 := @run_callFunc_extern Tryd.prog 113 _ (ReflectliteType.method fun t => do Rtype.noPackHeld "Comparable" t; pure (.bool (← typeInfo t).comparable)) Tryd.func113 (by kernel_rfl) (by kernel_rfl) (by kernel_rfl) (by kernel_rfl)
  have tO' := typeOf36
  have cT := comparable36'
  have mC := methodComparable
  have mU := methodUnwrap
  have q1 := noIs36
  have q2 := noIs80
  have q3 := noUnwrap36
  have q4 := noUnwraps36
  have q5 := hasUnwrap80
  have heq := fun W => run_eql_iface_int (P := Tryd.prog) (k := .i64) W e x Tryd.underlying77 (by kernel_rfl) Tryd.underlying36
  simp only [show (e == x) = false by simpa using hne] at heq
  go_enter Tryd.func38, Tryd.ntmps38
  go_wp2
  refine wp_loop_rounds 1 ?_
  rw [rounds_succ]
  go_wp2
  go_ret
  exact ⟨rfl, rfl⟩
theorem is_wrap (pb po : Nat) (e x : Int) (w : World) (hne : e ≠ x) (h1 : w.cell? ⟨pb, po + 1, none⟩ = some (.iface 36 (.int .i64 e))) : Calls Tryd.prog 38 #[.iface 80 (.pointer (some ⟨pb, po, none⟩)), .iface 36 (.int .i64 x)] w fun e w' => e = .returned (.bool false) ∧ w' = w := by
  have h58 := @run_callFunc_extern Tryd.prog 58 _ ReflectliteType.typeOf Tryd.func58 (by kernel_rfl) (by kernel_rfl) (by kernel_rfl) (by kernel_rfl)
  have h113 := @run_callFunc_extern Tryd.prog 113 _ (ReflectliteType.method fun t => do Rtype.noPackHeld "Comparable" t; pure (.bool (← typeInfo t).comparable)) Tryd.func113 (by kernel_rfl) (by kernel_rfl) (by kernel_rfl) (by kernel_rfl)
  have tO' := typeOf36
  have cT := comparable36'
  have mC := methodComparable
  have mU := methodUnwrap
  have q1 := noIs36
  have q2 := noIs80
  have q3 := noUnwrap36
  have q4 := noUnwraps36
  have q5 := hasUnwrap80
  have heq := fun W => run_eql_iface_int (P := Tryd.prog) (k := .i64) W e x Tryd.underlying77 (by kernel_rfl) Tryd.underlying36
  simp only [show (e == x) = false by simpa using hne] at heq
  have hty := run_eql_iface_types (P := Tryd.prog) 80 36 (.pointer (some ⟨pb, po, none⟩)) (.int .i64 x) Tryd.underlying77 (by decide) w
  go_enter Tryd.func38, Tryd.ntmps38
  go_wp2
  refine wp_loop_rounds 2 ?_
  rw [rounds_succ]
  go_wp2
  rw [rounds_succ]
  go_wp2
  go_ret
  exact ⟨rfl, rfl⟩
end Go.Proofs.YtoecebibhcadoaaDoor.I
