/- Closed facts on the model's entries for internal/reflectlite, at this program's types: what errors.As and errors.Is ask. No condition. -/
import Derived.Test.YtegmdjfohlomnaaDoorBlk
import Derived.LaidEql
import Derived.Lib.IfaceEq
import Derived.Stop.Asserts
namespace Go.Proofs.YtegmdjfohlomnaaDoor
open Go.RowKit Go.Extern.Stop Go.Stop Go.Extern

theorem fa_valueOfF (t : Addr) (w : World) : (ReflectliteValue.unpack (.iface 42 (.pointer (some t)))).run Tryd.prog w = .ok (.agg #[.pointer (some ⟨5, 42, none⟩), .pointer (some ⟨w.heap.size, 0, none⟩), .int .u64 150]) (w.alloc (.cells #[.pointer (some t)] 42)) := by kernel_rfl
theorem fa_typeF (a : Addr) (w : World) : (ReflectliteValue.methodAny (ReflectliteValue.valueError "reflectlite.Value.Type" 0) (fun t _ _ _ => ReflectliteType.toType t) #[.agg #[.pointer (some ⟨5, 42, none⟩), .pointer (some a), .int .u64 150]]).run Tryd.prog w = .ok (.iface 81 (.agg #[.pointer (some ⟨5, 42, none⟩)])) w := by kernel_rfl
theorem fa_kindPF (w : World) : ((ReflectliteType.abiMethod fun t => (fun a : Nat => Value.int IntKind.u8 (a : Int)) <$> Rtype.kind t) #[.pointer (some ⟨5, 42, none⟩)]).run Tryd.prog w = .ok (.int .u8 22) w := by kernel_rfl
theorem fa_kindF (w : World) : ((ReflectliteType.abiMethod fun t => (fun a : Nat => Value.int IntKind.u8 (a : Int)) <$> Rtype.kind t) #[.pointer (some ⟨5, 40, none⟩)]).run Tryd.prog w = .ok (.int .u8 22) w := by kernel_rfl
theorem fa_partsF (a : Addr) (w : World) : (ReflectliteValue.parts (.agg #[.pointer (some ⟨5, 42, none⟩), .pointer (some a), .int .u64 150])).run Tryd.prog w = .ok (some (42, a, 150)) w := by kernel_rfl
theorem fa_elemF (w : World) : (ReflectliteType.method ReflectliteType.elem #[.agg #[.pointer (some ⟨5, 42, none⟩)]]).run Tryd.prog w = .ok (.iface 81 (.agg #[.pointer (some ⟨5, 40, none⟩)])) w := by kernel_rfl
theorem fa_implementsF (w : World) : (ReflectliteType.relation "Implements" ReflectliteType.implements_ #[.agg #[.pointer (some ⟨5, 40, none⟩)], .iface 81 (.agg #[.pointer (some ⟨5, 24, none⟩)])]).run Tryd.prog w = .ok (.bool true) w := by kernel_rfl
theorem fa_typeOfF (v : Value) (w : World) : (ReflectliteType.typeOf #[.iface 40 v]).run Tryd.prog w = .ok (.iface 81 (.agg #[.pointer (some ⟨5, 40, none⟩)])) w := by kernel_rfl
theorem fa_elemOfF (w : World) : (Rtype.elem? 42).run Tryd.prog w = .ok (some 40) w := by kernel_rfl
theorem fa_mkF (p : Addr) (w : World) : (ReflectliteValue.mk 40 p ReflectliteValue.flagAddr).run Tryd.prog w = .ok (.agg #[.pointer (some ⟨5, 40, none⟩), .pointer (some p), .int .u64 406]) w := by kernel_rfl
theorem fa_partsAF (a : Addr) (w : World) : (ReflectliteValue.parts (.agg #[.pointer (some ⟨5, 40, none⟩), .pointer (some a), .int .u64 406])).run Tryd.prog w = .ok (some (40, a, 406)) w := by kernel_rfl
theorem fa_partsVF (a : Addr) (w : World) : (ReflectliteValue.parts (.agg #[.pointer (some ⟨5, 40, none⟩), .pointer (some a), .int .u64 150])).run Tryd.prog w = .ok (some (40, a, 150)) w := by kernel_rfl
theorem fa_directF (w : World) : (Rtype.directlyAssignable 40 40).run Tryd.prog w = .ok true w := by kernel_rfl
theorem fa_sizeF (w : World) : (sizeOf 40).run Tryd.prog w = .ok 1 w := by kernel_rfl
theorem fa_valueOfE (t : Addr) (w : World) : (ReflectliteValue.unpack (.iface 58 (.pointer (some t)))).run Tryd.prog w = .ok (.agg #[.pointer (some ⟨5, 58, none⟩), .pointer (some ⟨w.heap.size, 0, none⟩), .int .u64 150]) (w.alloc (.cells #[.pointer (some t)] 58)) := by kernel_rfl
theorem fa_typeE (a : Addr) (w : World) : (ReflectliteValue.methodAny (ReflectliteValue.valueError "reflectlite.Value.Type" 0) (fun t _ _ _ => ReflectliteType.toType t) #[.agg #[.pointer (some ⟨5, 58, none⟩), .pointer (some a), .int .u64 150]]).run Tryd.prog w = .ok (.iface 81 (.agg #[.pointer (some ⟨5, 58, none⟩)])) w := by kernel_rfl
theorem fa_kindPE (w : World) : ((ReflectliteType.abiMethod fun t => (fun a : Nat => Value.int IntKind.u8 (a : Int)) <$> Rtype.kind t) #[.pointer (some ⟨5, 58, none⟩)]).run Tryd.prog w = .ok (.int .u8 22) w := by kernel_rfl
theorem fa_kindE (w : World) : ((ReflectliteType.abiMethod fun t => (fun a : Nat => Value.int IntKind.u8 (a : Int)) <$> Rtype.kind t) #[.pointer (some ⟨5, 31, none⟩)]).run Tryd.prog w = .ok (.int .u8 2) w := by kernel_rfl
theorem fa_partsE (a : Addr) (w : World) : (ReflectliteValue.parts (.agg #[.pointer (some ⟨5, 58, none⟩), .pointer (some a), .int .u64 150])).run Tryd.prog w = .ok (some (58, a, 150)) w := by kernel_rfl
theorem fa_elemE (w : World) : (ReflectliteType.method ReflectliteType.elem #[.agg #[.pointer (some ⟨5, 58, none⟩)]]).run Tryd.prog w = .ok (.iface 81 (.agg #[.pointer (some ⟨5, 31, none⟩)])) w := by kernel_rfl
theorem fa_implementsE (w : World) : (ReflectliteType.relation "Implements" ReflectliteType.implements_ #[.agg #[.pointer (some ⟨5, 31, none⟩)], .iface 81 (.agg #[.pointer (some ⟨5, 24, none⟩)])]).run Tryd.prog w = .ok (.bool true) w := by kernel_rfl
theorem fa_typeOfE (v : Value) (w : World) : (ReflectliteType.typeOf #[.iface 31 v]).run Tryd.prog w = .ok (.iface 81 (.agg #[.pointer (some ⟨5, 31, none⟩)])) w := by kernel_rfl
theorem fa_elemOfE (w : World) : (Rtype.elem? 58).run Tryd.prog w = .ok (some 31) w := by kernel_rfl
theorem fa_mkE (p : Addr) (w : World) : (ReflectliteValue.mk 31 p ReflectliteValue.flagAddr).run Tryd.prog w = .ok (.agg #[.pointer (some ⟨5, 31, none⟩), .pointer (some p), .int .u64 386]) w := by kernel_rfl
theorem fa_partsAE (a : Addr) (w : World) : (ReflectliteValue.parts (.agg #[.pointer (some ⟨5, 31, none⟩), .pointer (some a), .int .u64 386])).run Tryd.prog w = .ok (some (31, a, 386)) w := by kernel_rfl
theorem fa_partsVE (a : Addr) (w : World) : (ReflectliteValue.parts (.agg #[.pointer (some ⟨5, 31, none⟩), .pointer (some a), .int .u64 130])).run Tryd.prog w = .ok (some (31, a, 130)) w := by kernel_rfl
theorem fa_directE (w : World) : (Rtype.directlyAssignable 31 31).run Tryd.prog w = .ok true w := by kernel_rfl
theorem fa_sizeE (w : World) : (sizeOf 31).run Tryd.prog w = .ok 1 w := by kernel_rfl
theorem fa_valF (e : Addr) (w : World) : (ReflectliteValue.unpack (.iface 40 (.pointer (some e)))).run Tryd.prog w = .ok (.agg #[.pointer (some ⟨5, 40, none⟩), .pointer (some ⟨w.heap.size, 0, none⟩), .int .u64 150]) (w.alloc (.cells #[.pointer (some e)] 40)) := by kernel_rfl
theorem fa_valE (c : Int) (w : World) : (ReflectliteValue.unpack (.iface 31 (.int .i64 c))).run Tryd.prog w = .ok (.agg #[.pointer (some ⟨5, 31, none⟩), .pointer (some ⟨w.heap.size, 0, none⟩), .int .u64 130]) (w.alloc (.cells #[.int .i64 c] 31)) := by kernel_rfl
theorem fa_assignFF (w : World) : (ReflectliteType.relation "AssignableTo" ReflectliteType.assignableTo #[.agg #[.pointer (some ⟨5, 40, none⟩)], .iface 81 (.agg #[.pointer (some ⟨5, 40, none⟩)])]).run Tryd.prog w = .ok (.bool true) w := by kernel_rfl
theorem fa_assignFE (w : World) : (ReflectliteType.relation "AssignableTo" ReflectliteType.assignableTo #[.agg #[.pointer (some ⟨5, 31, none⟩)], .iface 81 (.agg #[.pointer (some ⟨5, 40, none⟩)])]).run Tryd.prog w = .ok (.bool false) w := by kernel_rfl
theorem fa_assignEE (w : World) : (ReflectliteType.relation "AssignableTo" ReflectliteType.assignableTo #[.agg #[.pointer (some ⟨5, 31, none⟩)], .iface 81 (.agg #[.pointer (some ⟨5, 31, none⟩)])]).run Tryd.prog w = .ok (.bool true) w := by kernel_rfl
theorem fa_assignEF (w : World) : (ReflectliteType.relation "AssignableTo" ReflectliteType.assignableTo #[.agg #[.pointer (some ⟨5, 40, none⟩)], .iface 81 (.agg #[.pointer (some ⟨5, 31, none⟩)])]).run Tryd.prog w = .ok (.bool false) w := by kernel_rfl
theorem fa_methodKind (h : Value) (w : World) : (Go.method 243 81 (.agg #[h]) "Kind").run Tryd.prog w = .ok (74, h) w := by kernel_rfl
theorem fa_methodElem (h : Value) (w : World) : (Go.method 243 81 (.agg #[h]) "Elem").run Tryd.prog w = .ok (85, .agg #[h]) w := by kernel_rfl
theorem fa_methodImplements (h : Value) (w : World) : (Go.method 243 81 (.agg #[h]) "Implements").run Tryd.prog w = .ok (86, .agg #[h]) w := by kernel_rfl
theorem fa_methodAssignableTo (h : Value) (w : World) : (Go.method 243 81 (.agg #[h]) "AssignableTo").run Tryd.prog w = .ok (83, .agg #[h]) w := by kernel_rfl
theorem fa_methodComparable (h : Value) (w : World) : (Go.method 243 81 (.agg #[h]) "Comparable").run Tryd.prog w = .ok (84, .agg #[h]) w := by kernel_rfl
theorem fa_methodUnwrap (v : Value) (w : World) : (Go.method 243 40 v "Unwrap").run Tryd.prog w = .ok (22, v) w := by kernel_rfl
theorem fa_compE  : (Tryd.prog.info? 31).map (·.comparable) = some true := by kernel_rfl
theorem fa_noAsF (v : Value) (xT : TypeId) (w : World) : (Instr.typeAssert (.iface 40 v) xT 85 true).run Tryd.prog w = .ok (.tuple #[.nilIface, .bool false]) w := run_typeAssert_lacksB Tryd.underlying85 (by kernel_rfl) (by kernel_rfl) v xT w
theorem fa_noAsE (v : Value) (xT : TypeId) (w : World) : (Instr.typeAssert (.iface 31 v) xT 85 true).run Tryd.prog w = .ok (.tuple #[.nilIface, .bool false]) w := run_typeAssert_lacksB Tryd.underlying85 (by kernel_rfl) (by kernel_rfl) v xT w
theorem fa_noIsF (v : Value) (xT : TypeId) (w : World) : (Instr.typeAssert (.iface 40 v) xT 92 true).run Tryd.prog w = .ok (.tuple #[.nilIface, .bool false]) w := run_typeAssert_lacksB Tryd.underlying92 (by kernel_rfl) (by kernel_rfl) v xT w
theorem fa_noIsE (v : Value) (xT : TypeId) (w : World) : (Instr.typeAssert (.iface 31 v) xT 92 true).run Tryd.prog w = .ok (.tuple #[.nilIface, .bool false]) w := run_typeAssert_lacksB Tryd.underlying92 (by kernel_rfl) (by kernel_rfl) v xT w
theorem fa_noUnwrapE (v : Value) (xT : TypeId) (w : World) : (Instr.typeAssert (.iface 31 v) xT 88 true).run Tryd.prog w = .ok (.tuple #[.nilIface, .bool false]) w := run_typeAssert_lacksB Tryd.underlying88 (by kernel_rfl) (by kernel_rfl) v xT w
theorem fa_noUnwrapsE (v : Value) (xT : TypeId) (w : World) : (Instr.typeAssert (.iface 31 v) xT 89 true).run Tryd.prog w = .ok (.tuple #[.nilIface, .bool false]) w := run_typeAssert_lacksB Tryd.underlying89 (by kernel_rfl) (by kernel_rfl) v xT w
theorem fa_hasUnwrapF (v : Value) (xT : TypeId) (w : World) : (Instr.typeAssert (.iface 40 v) xT 88 true).run Tryd.prog w = .ok (.tuple #[.iface 40 v, .bool true]) w := run_typeAssert_hasB Tryd.underlying88 (by kernel_rfl) v xT w

/-! ### The entries that read or write memory -/
theorem rlm (z : Sem Value) (f : TypeId → Addr → Nat → Nat → Sem Value) (v : Value) :
    ReflectliteValue.method z f #[v] = (do match ← ReflectliteValue.parts v with | none => z | some (t, a, fl) => f t a fl (fl % 32)) := rfl
theorem rls (v x : Value) : ReflectliteValue.set #[v, x] = (do
    let (some (dst, a, fl), some (src, b, _)) := (← ReflectliteValue.parts v, ← ReflectliteValue.parts x)
      | unsupported (.noEntry "extern/(internal/reflectlite.Value).Set.zeroValue")
    if fl / ReflectliteValue.flagAddr % 2 == 0 then unsupported (.noEntry "extern/(internal/reflectlite.Value).Set.unaddressable")
    let val ← loadVar src b
    if ← Rtype.directlyAssignable dst src then storeVar dst a val
    else if ← Rtype.implements dst src then
      if (← Rtype.kind src) == 20 then
        match val with
        | .nilIface => unsupported (.noEntry "extern/reflectlite: a nil value of one interface type handed on as a value of another")
        | _ => storeVar dst a val
      else storeVar dst a (.iface src val)
    else panicString ("reflectlite.Set: value of type " ++ (← Rtype.spelt src) ++ " is not assignable to type " ++ (← Rtype.spelt dst))
    pure (.tuple #[])) := rfl
theorem fa_isNilF (a p : Addr) (W : World) (ha : W.cell? a = some (.pointer (some p))) :
    (ReflectliteValue.method (ReflectliteValue.valueError "reflectlite.Value.IsNil" 0) ReflectliteValue.isNil #[.agg #[.pointer (some ⟨5, 42, none⟩), .pointer (some a), .int .u64 150]]).run Tryd.prog W = .ok (.bool false) W := by
  rw [rlm]
  simp only [Sem.run_bind, fa_partsF, Result.andThen]
  simp [ReflectliteValue.isNil, loadVar, isAgg, underlying, Tryd.underlying42, ha, Result.andThen]
theorem fa_elemVF (a p : Addr) (W : World) (ha : W.cell? a = some (.pointer (some p))) :
    (ReflectliteValue.method (ReflectliteValue.valueError "reflectlite.Value.Elem" 0) ReflectliteValue.elem #[.agg #[.pointer (some ⟨5, 42, none⟩), .pointer (some a), .int .u64 150]]).run Tryd.prog W = .ok (.agg #[.pointer (some ⟨5, 40, none⟩), .pointer (some p), .int .u64 406]) W := by
  rw [rlm]
  simp only [Sem.run_bind, fa_partsF, Result.andThen]
  simp [ReflectliteValue.elem, loadVar, isAgg, underlying, Tryd.underlying42, ha, Result.andThen, fa_elemOfF, fa_mkF]
theorem fa_setF (ta b : Addr) (x : Addr) (old : Value) (W : World) (hb : W.cell? b = some (.pointer (some x))) (ht : W.cell? ta = some old) (hf : W.frozen? ta = false) :
    (ReflectliteValue.set #[.agg #[.pointer (some ⟨5, 40, none⟩), .pointer (some ta), .int .u64 406], .agg #[.pointer (some ⟨5, 40, none⟩), .pointer (some b), .int .u64 150]]).run Tryd.prog W = .ok (.tuple #[]) (W.setCell ta (.pointer (some x))) := by
  rw [rls]
  simp only [Sem.run_bind, fa_partsAF, fa_partsVF, Result.andThen]
  simp [ReflectliteValue.flagAddr, loadVar, isAgg, underlying, Tryd.underlying40, hb, Result.andThen, fa_directF, storeVar, Value.cells, storeCells, Addr.add]
  rw [run_store Tryd.prog W ta _ _ (by rfl)]
  simp [ht, hf]
theorem fa_isNilE (a p : Addr) (W : World) (ha : W.cell? a = some (.pointer (some p))) :
    (ReflectliteValue.method (ReflectliteValue.valueError "reflectlite.Value.IsNil" 0) ReflectliteValue.isNil #[.agg #[.pointer (some ⟨5, 58, none⟩), .pointer (some a), .int .u64 150]]).run Tryd.prog W = .ok (.bool false) W := by
  rw [rlm]
  simp only [Sem.run_bind, fa_partsE, Result.andThen]
  simp [ReflectliteValue.isNil, loadVar, isAgg, underlying, Tryd.underlying58, ha, Result.andThen]
theorem fa_elemVE (a p : Addr) (W : World) (ha : W.cell? a = some (.pointer (some p))) :
    (ReflectliteValue.method (ReflectliteValue.valueError "reflectlite.Value.Elem" 0) ReflectliteValue.elem #[.agg #[.pointer (some ⟨5, 58, none⟩), .pointer (some a), .int .u64 150]]).run Tryd.prog W = .ok (.agg #[.pointer (some ⟨5, 31, none⟩), .pointer (some p), .int .u64 386]) W := by
  rw [rlm]
  simp only [Sem.run_bind, fa_partsE, Result.andThen]
  simp [ReflectliteValue.elem, loadVar, isAgg, underlying, Tryd.underlying58, ha, Result.andThen, fa_elemOfE, fa_mkE]
theorem fa_setE (ta b : Addr) (x : Int) (old : Value) (W : World) (hb : W.cell? b = some (.int .i64 x)) (ht : W.cell? ta = some old) (hf : W.frozen? ta = false) :
    (ReflectliteValue.set #[.agg #[.pointer (some ⟨5, 31, none⟩), .pointer (some ta), .int .u64 386], .agg #[.pointer (some ⟨5, 31, none⟩), .pointer (some b), .int .u64 130]]).run Tryd.prog W = .ok (.tuple #[]) (W.setCell ta (.int .i64 x)) := by
  rw [rls]
  simp only [Sem.run_bind, fa_partsAE, fa_partsVE, Result.andThen]
  simp [ReflectliteValue.flagAddr, loadVar, isAgg, underlying, Tryd.underlying31, hb, Result.andThen, fa_directE, storeVar, Value.cells, storeCells, Addr.add]
  rw [run_store Tryd.prog W ta _ _ (by rfl)]
  simp [ht, hf]

end Go.Proofs.YtegmdjfohlomnaaDoor
