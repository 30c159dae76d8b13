/- errors.As and errors.Is, at the targets that image.Decode has: closed facts of the entries for reflectlite; the walks. No condition. -/
import Derived.Test.YtoecebibhcadoaaDoorProg
import Derived.WalkKit
import Derived.LaidEql
import Derived.Stop.Asserts
import Derived.RowKitTokens
namespace Go.Proofs.YtoecebibhcadoaaDoor.I
open Go Go.RowKit Go.Extern.Stop Go.Stop Go.Extern
set_option linter.unusedVariables false
set_option linter.unusedSimpArgs false
theorem rlm (z : Sem Value) (f : TypeId → Addr → Nat → Nat → Sem Value) (v : Value) :
    ReflectliteValue.method z f #[v] = (do match ← ReflectliteValue.parts v with | none => z | some (t, a, fl) => f t a fl (fl % 32)) := rfl
theorem rls (v x : Value) : ReflectliteValue.set #[v, x] = (do
    let (some (dst, a, fl), some (src, b, _)) := (← ReflectliteValue.parts v, ← ReflectliteValue.parts x)
      | unsupported (.noEntry "extern/(internal/reflectlite.Value).Set.zeroValue")
    if fl / ReflectliteValue.flagAddr % 2 == 0 then unsupported (.noEntry "extern/(internal/reflectlite.Value).Set.unaddressable")
    let val ← loadVar src b
    if ← Rtype.directlyAssignable dst src then storeVar dst a val
    else if ← Rtype.implements dst src then
      if (← Rtype.kind src) == 20 then
        match val with
        | .nilIface => unsupported (.noEntry "extern/reflectlite: a nil value of one interface type handed on as a value of another")
        | _ => storeVar dst a val
      else storeVar dst a (.iface src val)
    else panicString ("reflectlite.Set: value of type " ++ (← Rtype.spelt src) ++ " is not assignable to type " ++ (← Rtype.spelt dst))
    pure (.tuple #[])) := rfl
theorem as_nil (t : Value) (w : World) :
    Calls Tryd.prog 37 #[.nilIface, t] w fun e w' => e = .returned (.bool false) ∧ w' = w := by
  go_enter Tryd.func37, Tryd.ntmps37
  go_wp2
  go_ret
  exact ⟨rfl, rfl⟩
theorem valueOf84 (t : Addr) (w : World) : (ReflectliteValue.unpack (.iface 84 (.pointer (some t)))).run Tryd.prog w
    = .ok (.agg #[.pointer (some ⟨1, 84, none⟩), .pointer (some ⟨w.heap.size, 0, none⟩), .int .u64 150]) (w.alloc (.cells #[.pointer (some t)] 84)) := by kernel_rfl
theorem type84 (a : Addr) (w : World) : (ReflectliteValue.methodAny (ReflectliteValue.valueError "reflectlite.Value.Type" 0) (fun t _ _ _ => ReflectliteType.toType t) #[.agg #[.pointer (some ⟨1, 84, none⟩), .pointer (some a), .int .u64 150]]).run Tryd.prog w
    = .ok (.iface 135 (.agg #[.pointer (some ⟨1, 84, none⟩)])) w := by kernel_rfl
theorem kind84 (w : World) : ((ReflectliteType.abiMethod fun t => (fun a : Nat => Value.int IntKind.u8 (a : Int)) <$> Rtype.kind t) #[.pointer (some ⟨1, 84, none⟩)]).run Tryd.prog w = .ok (.int .u8 22) w := by kernel_rfl
theorem kind80 (w : World) : ((ReflectliteType.abiMethod fun t => (fun a : Nat => Value.int IntKind.u8 (a : Int)) <$> Rtype.kind t) #[.pointer (some ⟨1, 80, none⟩)]).run Tryd.prog w = .ok (.int .u8 22) w := by kernel_rfl
theorem parts84 (a : Addr) (w : World) : (ReflectliteValue.parts (.agg #[.pointer (some ⟨1, 84, none⟩), .pointer (some a), .int .u64 150])).run Tryd.prog w = .ok (some (84, a, 150)) w := by kernel_rfl
theorem isNil84 (a p : Addr) (W : World) (ha : W.cell? a = some (.pointer (some p))) :
    (ReflectliteValue.method (ReflectliteValue.valueError "reflectlite.Value.IsNil" 0) ReflectliteValue.isNil #[.agg #[.pointer (some ⟨1, 84, none⟩), .pointer (some a), .int .u64 150]]).run Tryd.prog W = .ok (.bool false) W := by
  rw [rlm]
  simp only [Sem.run_bind, parts84, Result.andThen]
  simp [ReflectliteValue.isNil, loadVar, isAgg, underlying, Tryd.underlying84, ha, Result.andThen]
theorem elem84 (w : World) : (ReflectliteType.method ReflectliteType.elem #[.agg #[.pointer (some ⟨1, 84, none⟩)]]).run Tryd.prog w = .ok (.iface 135 (.agg #[.pointer (some ⟨1, 80, none⟩)])) w := by kernel_rfl
theorem implements80 (w : World) : (ReflectliteType.relation "Implements" ReflectliteType.implements_ #[.agg #[.pointer (some ⟨1, 80, none⟩)], .iface 135 (.agg #[.pointer (some ⟨1, 77, none⟩)])]).run Tryd.prog w = .ok (.bool true) w := by kernel_rfl
theorem typeOf80 (v : Value) (w : World) : (ReflectliteType.typeOf #[.iface 80 v]).run Tryd.prog w = .ok (.iface 135 (.agg #[.pointer (some ⟨1, 80, none⟩)])) w := by kernel_rfl
theorem assignable80 (w : World) : (ReflectliteType.relation "AssignableTo" ReflectliteType.assignableTo #[.agg #[.pointer (some ⟨1, 80, none⟩)], .iface 135 (.agg #[.pointer (some ⟨1, 80, none⟩)])]).run Tryd.prog w = .ok (.bool true) w := by kernel_rfl
theorem elemOf84 (w : World) : (Rtype.elem? 84).run Tryd.prog w = .ok (some 80) w := by kernel_rfl
theorem mk80 (p : Addr) (w : World) : (ReflectliteValue.mk 80 p ReflectliteValue.flagAddr).run Tryd.prog w = .ok (.agg #[.pointer (some ⟨1, 80, none⟩), .pointer (some p), .int .u64 406]) w := by kernel_rfl
theorem elemV84 (a p : Addr) (W : World) (ha : W.cell? a = some (.pointer (some p))) :
    (ReflectliteValue.method (ReflectliteValue.valueError "reflectlite.Value.Elem" 0) ReflectliteValue.elem #[.agg #[.pointer (some ⟨1, 84, none⟩), .pointer (some a), .int .u64 150]]).run Tryd.prog W
      = .ok (.agg #[.pointer (some ⟨1, 80, none⟩), .pointer (some p), .int .u64 406]) W := by
  rw [rlm]
  simp only [Sem.run_bind, parts84, Result.andThen]
  simp [ReflectliteValue.elem, loadVar, isAgg, underlying, Tryd.underlying84, ha, Result.andThen, elemOf84, mk80]
theorem valueOf80 (e : Addr) (w : World) : (ReflectliteValue.unpack (.iface 80 (.pointer (some e)))).run Tryd.prog w
    = .ok (.agg #[.pointer (some ⟨1, 80, none⟩), .pointer (some ⟨w.heap.size, 0, none⟩), .int .u64 150]) (w.alloc (.cells #[.pointer (some e)] 80)) := by kernel_rfl
theorem parts80a (a : Addr) (w : World) : (ReflectliteValue.parts (.agg #[.pointer (some ⟨1, 80, none⟩), .pointer (some a), .int .u64 406])).run Tryd.prog w = .ok (some (80, a, 406)) w := by kernel_rfl
theorem parts80 (a : Addr) (w : World) : (ReflectliteValue.parts (.agg #[.pointer (some ⟨1, 80, none⟩), .pointer (some a), .int .u64 150])).run Tryd.prog w = .ok (some (80, a, 150)) w := by kernel_rfl
theorem direct80 (w : World) : (Rtype.directlyAssignable 80 80).run Tryd.prog w = .ok true w := by kernel_rfl
theorem size80 (w : World) : (sizeOf 80).run Tryd.prog w = .ok 1 w := by kernel_rfl
theorem set80 (ta b : Addr) (e : Addr) (old : Value) (W : World) (hb : W.cell? b = some (.pointer (some e))) (ht : W.cell? ta = some old) (hf : W.frozen? ta = false) :
    (ReflectliteValue.set #[.agg #[.pointer (some ⟨1, 80, none⟩), .pointer (some ta), .int .u64 406], .agg #[.pointer (some ⟨1, 80, none⟩), .pointer (some b), .int .u64 150]]).run Tryd.prog W
      = .ok (.tuple #[]) (W.setCell ta (.pointer (some e))) := by
  rw [rls]
  simp only [Sem.run_bind, parts80a, parts80, Result.andThen]
  simp [ReflectliteValue.flagAddr, loadVar, isAgg, underlying, Tryd.underlying80, hb, Result.andThen, direct80, storeVar, Value.cells, storeCells, Addr.add]
  rw [run_store Tryd.prog W ta _ _ (by rfl)]
  simp [ht, hf]
theorem valueOf85 (t : Addr) (w : World) : (ReflectliteValue.unpack (.iface 85 (.pointer (some t)))).run Tryd.prog w
    = .ok (.agg #[.pointer (some ⟨1, 85, none⟩), .pointer (some ⟨w.heap.size, 0, none⟩), .int .u64 150]) (w.alloc (.cells #[.pointer (some t)] 85)) := by kernel_rfl
theorem type85 (a : Addr) (w : World) : (ReflectliteValue.methodAny (ReflectliteValue.valueError "reflectlite.Value.Type" 0) (fun t _ _ _ => ReflectliteType.toType t) #[.agg #[.pointer (some ⟨1, 85, none⟩), .pointer (some a), .int .u64 150]]).run Tryd.prog w
    = .ok (.iface 135 (.agg #[.pointer (some ⟨1, 85, none⟩)])) w := by kernel_rfl
theorem kind85 (w : World) : ((ReflectliteType.abiMethod fun t => (fun a : Nat => Value.int IntKind.u8 (a : Int)) <$> Rtype.kind t) #[.pointer (some ⟨1, 85, none⟩)]).run Tryd.prog w = .ok (.int .u8 22) w := by kernel_rfl
theorem kind36 (w : World) : ((ReflectliteType.abiMethod fun t => (fun a : Nat => Value.int IntKind.u8 (a : Int)) <$> Rtype.kind t) #[.pointer (some ⟨1, 36, none⟩)]).run Tryd.prog w = .ok (.int .u8 2) w := by kernel_rfl
theorem parts85 (a : Addr) (w : World) : (ReflectliteValue.parts (.agg #[.pointer (some ⟨1, 85, none⟩), .pointer (some a), .int .u64 150])).run Tryd.prog w = .ok (some (85, a, 150)) w := by kernel_rfl
theorem isNil85 (a p : Addr) (W : World) (ha : W.cell? a = some (.pointer (some p))) :
    (ReflectliteValue.method (ReflectliteValue.valueError "reflectlite.Value.IsNil" 0) ReflectliteValue.isNil #[.agg #[.pointer (some ⟨1, 85, none⟩), .pointer (some a), .int .u64 150]]).run Tryd.prog W = .ok (.bool false) W := by
  rw [rlm]
  simp only [Sem.run_bind, parts85, Result.andThen]
  simp [ReflectliteValue.isNil, loadVar, isAgg, underlying, Tryd.underlying85, ha, Result.andThen]
theorem elem85 (w : World) : (ReflectliteType.method ReflectliteType.elem #[.agg #[.pointer (some ⟨1, 85, none⟩)]]).run Tryd.prog w = .ok (.iface 135 (.agg #[.pointer (some ⟨1, 36, none⟩)])) w := by kernel_rfl
theorem implements36 (w : World) : (ReflectliteType.relation "Implements" ReflectliteType.implements_ #[.agg #[.pointer (some ⟨1, 36, none⟩)], .iface 135 (.agg #[.pointer (some ⟨1, 77, none⟩)])]).run Tryd.prog w = .ok (.bool true) w := by kernel_rfl
theorem typeOf36 (v : Value) (w : World) : (ReflectliteType.typeOf #[.iface 36 v]).run Tryd.prog w = .ok (.iface 135 (.agg #[.pointer (some ⟨1, 36, none⟩)])) w := by kernel_rfl
theorem assignable36 (w : World) : (ReflectliteType.relation "AssignableTo" ReflectliteType.assignableTo #[.agg #[.pointer (some ⟨1, 36, none⟩)], .iface 135 (.agg #[.pointer (some ⟨1, 36, none⟩)])]).run Tryd.prog w = .ok (.bool true) w := by kernel_rfl
theorem elemOf85 (w : World) : (Rtype.elem? 85).run Tryd.prog w = .ok (some 36) w := by kernel_rfl
theorem mk36 (p : Addr) (w : World) : (ReflectliteValue.mk 36 p ReflectliteValue.flagAddr).run Tryd.prog w = .ok (.agg #[.pointer (some ⟨1, 36, none⟩), .pointer (some p), .int .u64 386]) w := by kernel_rfl
theorem elemV85 (a p : Addr) (W : World) (ha : W.cell? a = some (.pointer (some p))) :
    (ReflectliteValue.method (ReflectliteValue.valueError "reflectlite.Value.Elem" 0) ReflectliteValue.elem #[.agg #[.pointer (some ⟨1, 85, none⟩), .pointer (some a), .int .u64 150]]).run Tryd.prog W
      = .ok (.agg #[.pointer (some ⟨1, 36, none⟩), .pointer (some p), .int .u64 386]) W := by
  rw [rlm]
  simp only [Sem.run_bind, parts85, Result.andThen]
  simp [ReflectliteValue.elem, loadVar, isAgg, underlying, Tryd.underlying85, ha, Result.andThen, elemOf85, mk36]
theorem valueOf36 (e : Int) (w : World) : (ReflectliteValue.unpack (.iface 36 (.int .i64 e))).run Tryd.prog w
    = .ok (.agg #[.pointer (some ⟨1, 36, none⟩), .pointer (some ⟨w.heap.size, 0, none⟩), .int .u64 130]) (w.alloc (.cells #[.int .i64 e] 36)) := by kernel_rfl
theorem parts36a (a : Addr) (w : World) : (ReflectliteValue.parts (.agg #[.pointer (some ⟨1, 36, none⟩), .pointer (some a), .int .u64 386])).run Tryd.prog w = .ok (some (36, a, 386)) w := by kernel_rfl
theorem parts36 (a : Addr) (w : World) : (ReflectliteValue.parts (.agg #[.pointer (some ⟨1, 36, none⟩), .pointer (some a), .int .u64 130])).run Tryd.prog w = .ok (some (36, a, 130)) w := by kernel_rfl
theorem direct36 (w : World) : (Rtype.directlyAssignable 36 36).run Tryd.prog w = .ok true w := by kernel_rfl
theorem size36 (w : World) : (sizeOf 36).run Tryd.prog w = .ok 1 w := by kernel_rfl
theorem set36 (ta b : Addr) (e : Int) (old : Value) (W : World) (hb : W.cell? b = some (.int .i64 e)) (ht : W.cell? ta = some old) (hf : W.frozen? ta = false) :
    (ReflectliteValue.set #[.agg #[.pointer (some ⟨1, 36, none⟩), .pointer (some ta), .int .u64 386], .agg #[.pointer (some ⟨1, 36, none⟩), .pointer (some b), .int .u64 130]]).run Tryd.prog W
      = .ok (.tuple #[]) (W.setCell ta (.int .i64 e)) := by
  rw [rls]
  simp only [Sem.run_bind, parts36a, parts36, Result.andThen]
  simp [ReflectliteValue.flagAddr, loadVar, isAgg, underlying, Tryd.underlying36, hb, Result.andThen, direct36, storeVar, Value.cells, storeCells, Addr.add]
  rw [run_store Tryd.prog W ta _ _ (by rfl)]
  simp [ht, hf]
theorem methodKind (h : Value) (w : World) : (Go.method 280 135 (.agg #[h]) "Kind").run Tryd.prog w = .ok (102, h) w := by kernel_rfl
theorem methodElem (h : Value) (w : World) : (Go.method 280 135 (.agg #[h]) "Elem").run Tryd.prog w = .ok (114, .agg #[h]) w := by kernel_rfl
theorem methodImplements (h : Value) (w : World) : (Go.method 280 135 (.agg #[h]) "Implements").run Tryd.prog w = .ok (115, .agg #[h]) w := by kernel_rfl
theorem methodAssignableTo (h : Value) (w : World) : (Go.method 280 135 (.agg #[h]) "AssignableTo").run Tryd.prog w = .ok (112, .agg #[h]) w := by kernel_rfl
theorem methodComparable (h : Value) (w : World) : (Go.method 280 135 (.agg #[h]) "Comparable").run Tryd.prog w = .ok (113, .agg #[h]) w := by kernel_rfl
theorem notTo80 (w : World) : (ReflectliteType.relation "AssignableTo" ReflectliteType.assignableTo #[.agg #[.pointer (some ⟨1, 36, none⟩)], .iface 135 (.agg #[.pointer (some ⟨1, 80, none⟩)])]).run Tryd.prog w = .ok (.bool false) w := by kernel_rfl
theorem notTo36 (w : World) : (ReflectliteType.relation "AssignableTo" ReflectliteType.assignableTo #[.agg #[.pointer (some ⟨1, 80, none⟩)], .iface 135 (.agg #[.pointer (some ⟨1, 36, none⟩)])]).run Tryd.prog w = .ok (.bool false) w := by kernel_rfl
theorem comparable36 (w : World) : ((ReflectliteType.method fun t => (fun a => Value.bool a.comparable) <$> typeInfo t) #[.agg #[.pointer (some ⟨1, 36, none⟩)]]).run Tryd.prog w = .ok (.bool true) w := by kernel_rfl
theorem noAs36 (v : Value) (xT : TypeId) (w : World) : (Instr.typeAssert (.iface 36 v) xT 139 true).run Tryd.prog w = .ok (.tuple #[.nilIface, .bool false]) w := run_typeAssert_lacksB Tryd.underlying139 (by kernel_rfl) (by kernel_rfl) v xT w
theorem noAs80 (v : Value) (xT : TypeId) (w : World) : (Instr.typeAssert (.iface 80 v) xT 139 true).run Tryd.prog w = .ok (.tuple #[.nilIface, .bool false]) w := run_typeAssert_lacksB Tryd.underlying139 (by kernel_rfl) (by kernel_rfl) v xT w
theorem noIs36 (v : Value) (xT : TypeId) (w : World) : (Instr.typeAssert (.iface 36 v) xT 147 true).run Tryd.prog w = .ok (.tuple #[.nilIface, .bool false]) w := run_typeAssert_lacksB Tryd.underlying147 (by kernel_rfl) (by kernel_rfl) v xT w
theorem noIs80 (v : Value) (xT : TypeId) (w : World) : (Instr.typeAssert (.iface 80 v) xT 147 true).run Tryd.prog w = .ok (.tuple #[.nilIface, .bool false]) w := run_typeAssert_lacksB Tryd.underlying147 (by kernel_rfl) (by kernel_rfl) v xT w
theorem noUnwrap36 (v : Value) (xT : TypeId) (w : World) : (Instr.typeAssert (.iface 36 v) xT 142 true).run Tryd.prog w = .ok (.tuple #[.nilIface, .bool false]) w := run_typeAssert_lacksB Tryd.underlying142 (by kernel_rfl) (by kernel_rfl) v xT w
theorem noUnwraps36 (v : Value) (xT : TypeId) (w : World) : (Instr.typeAssert (.iface 36 v) xT 144 true).run Tryd.prog w = .ok (.tuple #[.nilIface, .bool false]) w := run_typeAssert_lacksB Tryd.underlying144 (by kernel_rfl) (by kernel_rfl) v xT w
theorem hasUnwrap80 (v : Value) (xT : TypeId) (w : World) : (Instr.typeAssert (.iface 80 v) xT 142 true).run Tryd.prog w = .ok (.tuple #[.iface 80 v, .bool true]) w := run_typeAssert_hasB Tryd.underlying142 (by kernel_rfl) v xT w
theorem methodUnwrap (v : Value) (w : World) : (Go.method 280 80 v "Unwrap").run Tryd.prog w = .ok (107, v) w := by kernel_rfl
end Go.Proofs.YtoecebibhcadoaaDoor.I
