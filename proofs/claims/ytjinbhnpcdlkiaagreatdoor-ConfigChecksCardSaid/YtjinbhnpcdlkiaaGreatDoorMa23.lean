/- Closed facts on the model's entries for internal/reflectlite, at this program's types: what errors.As and errors.Is ask. No condition. -/
import Derived.Test.YtjinbhnpcdlkiaaGreatDoorMa04
import Derived.LaidEql
import Derived.Lib.IfaceEq
import Derived.Stop.Asserts
namespace Go.Proofs.YtjinbhnpcdlkiaaGreatDoor
open Go.RowKit Go.Extern.Stop Go.Stop Go.Extern

theorem fa_valueOfF (t : Addr) (w : World) : (ReflectliteValue.unpack (.iface 82 (.pointer (some t)))).run Tryz.prog w = .ok (.agg #[.pointer (some ⟨2, 82, none⟩), .pointer (some ⟨w.heap.size, 0, none⟩), .int .u64 150]) (w.alloc (.cells #[.pointer (some t)] 82)) := by kernel_rfl
theorem fa_typeF (a : Addr) (w : World) : (ReflectliteValue.methodAny (ReflectliteValue.valueError "reflectlite.Value.Type" 0) (fun t _ _ _ => ReflectliteType.toType t) #[.agg #[.pointer (some ⟨2, 82, none⟩), .pointer (some a), .int .u64 150]]).run Tryz.prog w = .ok (.iface 136 (.agg #[.pointer (some ⟨2, 82, none⟩)])) w := by kernel_rfl
theorem fa_kindPF (w : World) : ((ReflectliteType.abiMethod fun t => (fun a : Nat => Value.int IntKind.u8 (a : Int)) <$> Rtype.kind t) #[.pointer (some ⟨2, 82, none⟩)]).run Tryz.prog w = .ok (.int .u8 22) w := by kernel_rfl
theorem fa_kindF (w : World) : ((ReflectliteType.abiMethod fun t => (fun a : Nat => Value.int IntKind.u8 (a : Int)) <$> Rtype.kind t) #[.pointer (some ⟨2, 81, none⟩)]).run Tryz.prog w = .ok (.int .u8 22) w := by kernel_rfl
theorem fa_partsF (a : Addr) (w : World) : (ReflectliteValue.parts (.agg #[.pointer (some ⟨2, 82, none⟩), .pointer (some a), .int .u64 150])).run Tryz.prog w = .ok (some (82, a, 150)) w := by kernel_rfl
theorem fa_elemF (w : World) : (ReflectliteType.method ReflectliteType.elem #[.agg #[.pointer (some ⟨2, 82, none⟩)]]).run Tryz.prog w = .ok (.iface 136 (.agg #[.pointer (some ⟨2, 81, none⟩)])) w := by kernel_rfl
theorem fa_implementsF (w : World) : (ReflectliteType.relation "Implements" ReflectliteType.implements_ #[.agg #[.pointer (some ⟨2, 81, none⟩)], .iface 136 (.agg #[.pointer (some ⟨2, 41, none⟩)])]).run Tryz.prog w = .ok (.bool true) w := by kernel_rfl
theorem fa_typeOfF (v : Value) (w : World) : (ReflectliteType.typeOf #[.iface 81 v]).run Tryz.prog w = .ok (.iface 136 (.agg #[.pointer (some ⟨2, 81, none⟩)])) w := by kernel_rfl
theorem fa_elemOfF (w : World) : (Rtype.elem? 82).run Tryz.prog w = .ok (some 81) w := by kernel_rfl
theorem fa_mkF (p : Addr) (w : World) : (ReflectliteValue.mk 81 p ReflectliteValue.flagAddr).run Tryz.prog w = .ok (.agg #[.pointer (some ⟨2, 81, none⟩), .pointer (some p), .int .u64 406]) w := by kernel_rfl
theorem fa_partsAF (a : Addr) (w : World) : (ReflectliteValue.parts (.agg #[.pointer (some ⟨2, 81, none⟩), .pointer (some a), .int .u64 406])).run Tryz.prog w = .ok (some (81, a, 406)) w := by kernel_rfl
theorem fa_partsVF (a : Addr) (w : World) : (ReflectliteValue.parts (.agg #[.pointer (some ⟨2, 81, none⟩), .pointer (some a), .int .u64 150])).run Tryz.prog w = .ok (some (81, a, 150)) w := by kernel_rfl
theorem fa_directF (w : World) : (Rtype.directlyAssignable 81 81).run Tryz.prog w = .ok true w := by kernel_rfl
theorem fa_sizeF (w : World) : (sizeOf 81).run Tryz.prog w = .ok 1 w := by kernel_rfl
theorem fa_valueOfE (t : Addr) (w : World) : (ReflectliteValue.unpack (.iface 78 (.pointer (some t)))).run Tryz.prog w = .ok (.agg #[.pointer (some ⟨2, 78, none⟩), .pointer (some ⟨w.heap.size, 0, none⟩), .int .u64 150]) (w.alloc (.cells #[.pointer (some t)] 78)) := by kernel_rfl
theorem fa_typeE (a : Addr) (w : World) : (ReflectliteValue.methodAny (ReflectliteValue.valueError "reflectlite.Value.Type" 0) (fun t _ _ _ => ReflectliteType.toType t) #[.agg #[.pointer (some ⟨2, 78, none⟩), .pointer (some a), .int .u64 150]]).run Tryz.prog w = .ok (.iface 136 (.agg #[.pointer (some ⟨2, 78, none⟩)])) w := by kernel_rfl
theorem fa_kindPE (w : World) : ((ReflectliteType.abiMethod fun t => (fun a : Nat => Value.int IntKind.u8 (a : Int)) <$> Rtype.kind t) #[.pointer (some ⟨2, 78, none⟩)]).run Tryz.prog w = .ok (.int .u8 22) w := by kernel_rfl
theorem fa_kindE (w : World) : ((ReflectliteType.abiMethod fun t => (fun a : Nat => Value.int IntKind.u8 (a : Int)) <$> Rtype.kind t) #[.pointer (some ⟨2, 49, none⟩)]).run Tryz.prog w = .ok (.int .u8 2) w := by kernel_rfl
theorem fa_partsE (a : Addr) (w : World) : (ReflectliteValue.parts (.agg #[.pointer (some ⟨2, 78, none⟩), .pointer (some a), .int .u64 150])).run Tryz.prog w = .ok (some (78, a, 150)) w := by kernel_rfl
theorem fa_elemE (w : World) : (ReflectliteType.method ReflectliteType.elem #[.agg #[.pointer (some ⟨2, 78, none⟩)]]).run Tryz.prog w = .ok (.iface 136 (.agg #[.pointer (some ⟨2, 49, none⟩)])) w := by kernel_rfl
theorem fa_implementsE (w : World) : (ReflectliteType.relation "Implements" ReflectliteType.implements_ #[.agg #[.pointer (some ⟨2, 49, none⟩)], .iface 136 (.agg #[.pointer (some ⟨2, 41, none⟩)])]).run Tryz.prog w = .ok (.bool true) w := by kernel_rfl
theorem fa_typeOfE (v : Value) (w : World) : (ReflectliteType.typeOf #[.iface 49 v]).run Tryz.prog w = .ok (.iface 136 (.agg #[.pointer (some ⟨2, 49, none⟩)])) w := by kernel_rfl
theorem fa_elemOfE (w : World) : (Rtype.elem? 78).run Tryz.prog w = .ok (some 49) w := by kernel_rfl
theorem fa_mkE (p : Addr) (w : World) : (ReflectliteValue.mk 49 p ReflectliteValue.flagAddr).run Tryz.prog w = .ok (.agg #[.pointer (some ⟨2, 49, none⟩), .pointer (some p), .int .u64 386]) w := by kernel_rfl
theorem fa_partsAE (a : Addr) (w : World) : (ReflectliteValue.parts (.agg #[.pointer (some ⟨2, 49, none⟩), .pointer (some a), .int .u64 386])).run Tryz.prog w = .ok (some (49, a, 386)) w := by kernel_rfl
theorem fa_partsVE (a : Addr) (w : World) : (ReflectliteValue.parts (.agg #[.pointer (some ⟨2, 49, none⟩), .pointer (some a), .int .u64 130])).run Tryz.prog w = .ok (some (49, a, 130)) w := by kernel_rfl
theorem fa_directE (w : World) : (Rtype.directlyAssignable 49 49).run Tryz.prog w = .ok true w := by kernel_rfl
theorem fa_sizeE (w : World) : (sizeOf 49).run Tryz.prog w = .ok 1 w := by kernel_rfl
theorem fa_valF (e : Addr) (w : World) : (ReflectliteValue.unpack (.iface 81 (.pointer (some e)))).run Tryz.prog w = .ok (.agg #[.pointer (some ⟨2, 81, none⟩), .pointer (some ⟨w.heap.size, 0, none⟩), .int .u64 150]) (w.alloc (.cells #[.pointer (some e)] 81)) := by kernel_rfl
theorem fa_valE (c : Int) (w : World) : (ReflectliteValue.unpack (.iface 49 (.int .i64 c))).run Tryz.prog w = .ok (.agg #[.pointer (some ⟨2, 49, none⟩), .pointer (some ⟨w.heap.size, 0, none⟩), .int .u64 130]) (w.alloc (.cells #[.int .i64 c] 49)) := by kernel_rfl
theorem fa_assignFF (w : World) : (ReflectliteType.relation "AssignableTo" ReflectliteType.assignableTo #[.agg #[.pointer (some ⟨2, 81, none⟩)], .iface 136 (.agg #[.pointer (some ⟨2, 81, none⟩)])]).run Tryz.prog w = .ok (.bool true) w := by kernel_rfl
theorem fa_assignFE (w : World) : (ReflectliteType.relation "AssignableTo" ReflectliteType.assignableTo #[.agg #[.pointer (some ⟨2, 49, none⟩)], .iface 136 (.agg #[.pointer (some ⟨2, 81, none⟩)])]).run Tryz.prog w = .ok (.bool false) w := by kernel_rfl
theorem fa_assignEE (w : World) : (ReflectliteType.relation "AssignableTo" ReflectliteType.assignableTo #[.agg #[.pointer (some ⟨2, 49, none⟩)], .iface 136 (.agg #[.pointer (some ⟨2, 49, none⟩)])]).run Tryz.prog w = .ok (.bool true) w := by kernel_rfl
theorem fa_assignEF (w : World) : (ReflectliteType.relation "AssignableTo" ReflectliteType.assignableTo #[.agg #[.pointer (some ⟨2, 81, none⟩)], .iface 136 (.agg #[.pointer (some ⟨2, 49, none⟩)])]).run Tryz.prog w = .ok (.bool false) w := by kernel_rfl
theorem fa_methodKind (h : Value) (w : World) : (Go.method 296 136 (.agg #[h]) "Kind").run Tryz.prog w = .ok (118, h) w := by kernel_rfl
theorem fa_methodElem (h : Value) (w : World) : (Go.method 296 136 (.agg #[h]) "Elem").run Tryz.prog w = .ok (130, .agg #[h]) w := by kernel_rfl
theorem fa_methodImplements (h : Value) (w : World) : (Go.method 296 136 (.agg #[h]) "Implements").run Tryz.prog w = .ok (131, .agg #[h]) w := by kernel_rfl
theorem fa_methodAssignableTo (h : Value) (w : World) : (Go.method 296 136 (.agg #[h]) "AssignableTo").run Tryz.prog w = .ok (128, .agg #[h]) w := by kernel_rfl
theorem fa_methodComparable (h : Value) (w : World) : (Go.method 296 136 (.agg #[h]) "Comparable").run Tryz.prog w = .ok (129, .agg #[h]) w := by kernel_rfl
theorem fa_methodUnwrap (v : Value) (w : World) : (Go.method 296 81 v "Unwrap").run Tryz.prog w = .ok (123, v) w := by kernel_rfl
theorem fa_compE  : (Tryz.prog.info? 49).map (·.comparable) = some true := by kernel_rfl
theorem fa_noAsF (v : Value) (xT : TypeId) (w : World) : (Instr.typeAssert (.iface 81 v) xT 141 true).run Tryz.prog w = .ok (.tuple #[.nilIface, .bool false]) w := run_typeAssert_lacksB Tryz.underlying141 (by kernel_rfl) (by kernel_rfl) v xT w
theorem fa_noAsE (v : Value) (xT : TypeId) (w : World) : (Instr.typeAssert (.iface 49 v) xT 141 true).run Tryz.prog w = .ok (.tuple #[.nilIface, .bool false]) w := run_typeAssert_lacksB Tryz.underlying141 (by kernel_rfl) (by kernel_rfl) v xT w
theorem fa_noUnwrapE (v : Value) (xT : TypeId) (w : World) : (Instr.typeAssert (.iface 49 v) xT 144 true).run Tryz.prog w = .ok (.tuple #[.nilIface, .bool false]) w := run_typeAssert_lacksB Tryz.underlying144 (by kernel_rfl) (by kernel_rfl) v xT w
theorem fa_noUnwrapsE (v : Value) (xT : TypeId) (w : World) : (Instr.typeAssert (.iface 49 v) xT 145 true).run Tryz.prog w = .ok (.tuple #[.nilIface, .bool false]) w := run_typeAssert_lacksB Tryz.underlying145 (by kernel_rfl) (by kernel_rfl) v xT w
theorem fa_hasUnwrapF (v : Value) (xT : TypeId) (w : World) : (Instr.typeAssert (.iface 81 v) xT 144 true).run Tryz.prog w = .ok (.tuple #[.iface 81 v, .bool true]) w := run_typeAssert_hasB Tryz.underlying144 (by kernel_rfl) v xT w

/-! ### The entries that read or write memory -/
theorem rlm (z : Sem Value) (f : TypeId → Addr → Nat → Nat → Sem Value) (v : Value) :
    ReflectliteValue.method z f #[v] = (do match ← ReflectliteValue.parts v with | none => z | some (t, a, fl) => f t a fl (fl % 32)) := rfl
theorem rls (v x : Value) : ReflectliteValue.set #[v, x] = (do
    let (some (dst, a, fl), some (src, b, _)) := (← ReflectliteValue.parts v, ← ReflectliteValue.parts x)
      | unsupported (.noEntry "extern/(internal/reflectlite.Value).Set.zeroValue")
    if fl / ReflectliteValue.flagAddr % 2 == 0 then unsupported (.noEntry "extern/(internal/reflectlite.Value).Set.unaddressable")
    let val ← loadVar src b
    if ← Rtype.directlyAssignable dst src then storeVar dst a val
    else if ← Rtype.implements dst src then
      if (← Rtype.kind src) == 20 then
        match val with
        | .nilIface => unsupported (.noEntry "extern/reflectlite: a nil value of one interface type handed on as a value of another")
        | _ => storeVar dst a val
      else storeVar dst a (.iface src val)
    else panicString ("reflectlite.Set: value of type " ++ (← Rtype.spelt src) ++ " is not assignable to type " ++ (← Rtype.spelt dst))
    pure (.tuple #[])) := rfl
theorem fa_isNilF (a p : Addr) (W : World) (ha : W.cell? a = some (.pointer (some p))) :
    (ReflectliteValue.method (ReflectliteValue.valueError "reflectlite.Value.IsNil" 0) ReflectliteValue.isNil #[.agg #[.pointer (some ⟨2, 82, none⟩), .pointer (some a), .int .u64 150]]).run Tryz.prog W = .ok (.bool false) W := by
  rw [rlm]
  simp only [Sem.run_bind, fa_partsF, Result.andThen]
  simp [ReflectliteValue.isNil, loadVar, isAgg, underlying, Tryz.underlying82, ha, Result.andThen]
theorem fa_elemVF (a p : Addr) (W : World) (ha : W.cell? a = some (.pointer (some p))) :
    (ReflectliteValue.method (ReflectliteValue.valueError "reflectlite.Value.Elem" 0) ReflectliteValue.elem #[.agg #[.pointer (some ⟨2, 82, none⟩), .pointer (some a), .int .u64 150]]).run Tryz.prog W = .ok (.agg #[.pointer (some ⟨2, 81, none⟩), .pointer (some p), .int .u64 406]) W := by
  rw [rlm]
  simp only [Sem.run_bind, fa_partsF, Result.andThen]
  simp [ReflectliteValue.elem, loadVar, isAgg, underlying, Tryz.underlying82, ha, Result.andThen, fa_elemOfF, fa_mkF]
theorem fa_setF (ta b : Addr) (x : Addr) (old : Value) (W : World) (hb : W.cell? b = some (.pointer (some x))) (ht : W.cell? ta = some old) (hf : W.frozen? ta = false) :
    (ReflectliteValue.set #[.agg #[.pointer (some ⟨2, 81, none⟩), .pointer (some ta), .int .u64 406], .agg #[.pointer (some ⟨2, 81, none⟩), .pointer (some b), .int .u64 150]]).run Tryz.prog W = .ok (.tuple #[]) (W.setCell ta (.pointer (some x))) := by
  rw [rls]
  simp only [Sem.run_bind, fa_partsAF, fa_partsVF, Result.andThen]
  simp [ReflectliteValue.flagAddr, loadVar, isAgg, underlying, Tryz.underlying81, hb, Result.andThen, fa_directF, storeVar, Value.cells, storeCells, Addr.add]
  rw [run_store Tryz.prog W ta _ _ (by rfl)]
  simp [ht, hf]
theorem fa_isNilE (a p : Addr) (W : World) (ha : W.cell? a = some (.pointer (some p))) :
    (ReflectliteValue.method (ReflectliteValue.valueError "reflectlite.Value.IsNil" 0) ReflectliteValue.isNil #[.agg #[.pointer (some ⟨2, 78, none⟩), .pointer (some a), .int .u64 150]]).run Tryz.prog W = .ok (.bool false) W := by
  rw [rlm]
  simp only [Sem.run_bind, fa_partsE, Result.andThen]
  simp [ReflectliteValue.isNil, loadVar, isAgg, underlying, Tryz.underlying78, ha, Result.andThen]
theorem fa_elemVE (a p : Addr) (W : World) (ha : W.cell? a = some (.pointer (some p))) :
    (ReflectliteValue.method (ReflectliteValue.valueError "reflectlite.Value.Elem" 0) ReflectliteValue.elem #[.agg #[.pointer (some ⟨2, 78, none⟩), .pointer (some a), .int .u64 150]]).run Tryz.prog W = .ok (.agg #[.pointer (some ⟨2, 49, none⟩), .pointer (some p), .int .u64 386]) W := by
  rw [rlm]
  simp only [Sem.run_bind, fa_partsE, Result.andThen]
  simp [ReflectliteValue.elem, loadVar, isAgg, underlying, Tryz.underlying78, ha, Result.andThen, fa_elemOfE, fa_mkE]
theorem fa_setE (ta b : Addr) (x : Int) (old : Value) (W : World) (hb : W.cell? b = some (.int .i64 x)) (ht : W.cell? ta = some old) (hf : W.frozen? ta = false) :
    (ReflectliteValue.set #[.agg #[.pointer (some ⟨2, 49, none⟩), .pointer (some ta), .int .u64 386], .agg #[.pointer (some ⟨2, 49, none⟩), .pointer (some b), .int .u64 130]]).run Tryz.prog W = .ok (.tuple #[]) (W.setCell ta (.int .i64 x)) := by
  rw [rls]
  simp only [Sem.run_bind, fa_partsAE, fa_partsVE, Result.andThen]
  simp [ReflectliteValue.flagAddr, loadVar, isAgg, underlying, Tryz.underlying49, hb, Result.andThen, fa_directE, storeVar, Value.cells, storeCells, Addr.add]
  rw [run_store Tryz.prog W ta _ _ (by rfl)]
  simp [ht, hf]

end Go.Proofs.YtjinbhnpcdlkiaaGreatDoor

