/- Closed facts on the model's entries for internal/reflectlite, the method sets, and == of errors. -/
import Derived.Test.YtclinofekgpfaaaDoorMem
import Derived.LaidEql
import Derived.Stop.Asserts
import Derived.RowKitTokens
namespace Go.Proofs.YtclinofekgpfaaaDoor
open Go Go.RowKit Go.Extern.Stop Go.Stop Go.Extern

/-! ### a *api.Errno, a **placed handed to ValueOf -/
theorem f_valueOfE (t : Addr) (w : World) : (ReflectliteValue.unpack (.iface 47 (.pointer (some t)))).run Tryd.prog w
    = .ok (.agg #[.pointer (some ⟨4, 47, none⟩), .pointer (some ⟨w.heap.size, 0, none⟩), .int .u64 150]) (w.alloc (.cells #[.pointer (some t)] 47)) := by kernel_rfl
theorem f_valueOfP (t : Addr) (w : World) : (ReflectliteValue.unpack (.iface 48 (.pointer (some t)))).run Tryd.prog w
    = .ok (.agg #[.pointer (some ⟨4, 48, none⟩), .pointer (some ⟨w.heap.size, 0, none⟩), .int .u64 150]) (w.alloc (.cells #[.pointer (some t)] 48)) := by kernel_rfl
theorem f_typeE (a : Addr) (w : World) : (ReflectliteValue.methodAny (ReflectliteValue.valueError "reflectlite.Value.Type" 0) (fun t _ _ _ => ReflectliteType.toType t) #[.agg #[.pointer (some ⟨4, 47, none⟩), .pointer (some a), .int .u64 150]]).run Tryd.prog w
    = .ok (.iface 69 (.agg #[.pointer (some ⟨4, 47, none⟩)])) w := by kernel_rfl
theorem f_typeP (a : Addr) (w : World) : (ReflectliteValue.methodAny (ReflectliteValue.valueError "reflectlite.Value.Type" 0) (fun t _ _ _ => ReflectliteType.toType t) #[.agg #[.pointer (some ⟨4, 48, none⟩), .pointer (some a), .int .u64 150]]).run Tryd.prog w
    = .ok (.iface 69 (.agg #[.pointer (some ⟨4, 48, none⟩)])) w := by kernel_rfl
theorem f_methodKind (h : Value) (w : World) : (Go.method 227 69 (.agg #[h]) "Kind").run Tryd.prog w = .ok (43, h) w := by kernel_rfl
theorem f_kindE (w : World) : ((ReflectliteType.abiMethod fun t => (fun a : Nat => Value.int IntKind.u8 (a : Int)) <$> Rtype.kind t) #[.pointer (some ⟨4, 47, none⟩)]).run Tryd.prog w = .ok (.int .u8 22) w := by kernel_rfl
theorem f_kindP (w : World) : ((ReflectliteType.abiMethod fun t => (fun a : Nat => Value.int IntKind.u8 (a : Int)) <$> Rtype.kind t) #[.pointer (some ⟨4, 48, none⟩)]).run Tryd.prog w = .ok (.int .u8 22) w := by kernel_rfl
theorem f_kindErrno (w : World) : ((ReflectliteType.abiMethod fun t => (fun a : Nat => Value.int IntKind.u8 (a : Int)) <$> Rtype.kind t) #[.pointer (some ⟨4, 27, none⟩)]).run Tryd.prog w = .ok (.int .u8 2) w := by kernel_rfl
theorem f_kindPlaced (w : World) : ((ReflectliteType.abiMethod fun t => (fun a : Nat => Value.int IntKind.u8 (a : Int)) <$> Rtype.kind t) #[.pointer (some ⟨4, 43, none⟩)]).run Tryd.prog w = .ok (.int .u8 22) w := by kernel_rfl

theorem f_rlm (z : Sem Value) (f : TypeId → Addr → Nat → Nat → Sem Value) (v : Value) :
    ReflectliteValue.method z f #[v] = (do match ← ReflectliteValue.parts v with | none => z | some (t, a, fl) => f t a fl (fl % 32)) := rfl
theorem f_partsE (a : Addr) (w : World) : (ReflectliteValue.parts (.agg #[.pointer (some ⟨4, 47, none⟩), .pointer (some a), .int .u64 150])).run Tryd.prog w = .ok (some (47, a, 150)) w := by kernel_rfl
theorem f_partsP (a : Addr) (w : World) : (ReflectliteValue.parts (.agg #[.pointer (some ⟨4, 48, none⟩), .pointer (some a), .int .u64 150])).run Tryd.prog w = .ok (some (48, a, 150)) w := by kernel_rfl
theorem f_isNilE (a p : Addr) (W : World) (ha : W.cell? a = some (.pointer (some p))) :
    (ReflectliteValue.method (ReflectliteValue.valueError "reflectlite.Value.IsNil" 0) ReflectliteValue.isNil #[.agg #[.pointer (some ⟨4, 47, none⟩), .pointer (some a), .int .u64 150]]).run Tryd.prog W = .ok (.bool false) W := by
  rw [f_rlm]
  simp only [Sem.run_bind, f_partsE, Result.andThen]
  simp [ReflectliteValue.isNil, loadVar, isAgg, underlying, Tryd.underlying47, ha, Result.andThen]
theorem f_isNilP (a p : Addr) (W : World) (ha : W.cell? a = some (.pointer (some p))) :
    (ReflectliteValue.method (ReflectliteValue.valueError "reflectlite.Value.IsNil" 0) ReflectliteValue.isNil #[.agg #[.pointer (some ⟨4, 48, none⟩), .pointer (some a), .int .u64 150]]).run Tryd.prog W = .ok (.bool false) W := by
  rw [f_rlm]
  simp only [Sem.run_bind, f_partsP, Result.andThen]
  simp [ReflectliteValue.isNil, loadVar, isAgg, underlying, Tryd.underlying48, ha, Result.andThen]

theorem f_methodElem (h : Value) (w : World) : (Go.method 227 69 (.agg #[h]) "Elem").run Tryd.prog w = .ok (69, .agg #[h]) w := by kernel_rfl
theorem f_methodImplements (h : Value) (w : World) : (Go.method 227 69 (.agg #[h]) "Implements").run Tryd.prog w = .ok (70, .agg #[h]) w := by kernel_rfl
theorem f_methodAssignableTo (h : Value) (w : World) : (Go.method 227 69 (.agg #[h]) "AssignableTo").run Tryd.prog w = .ok (67, .agg #[h]) w := by kernel_rfl
theorem f_methodComparable (h : Value) (w : World) : (Go.method 227 69 (.agg #[h]) "Comparable").run Tryd.prog w = .ok (68, .agg #[h]) w := by kernel_rfl
theorem f_elemE (w : World) : (ReflectliteType.method ReflectliteType.elem #[.agg #[.pointer (some ⟨4, 47, none⟩)]]).run Tryd.prog w = .ok (.iface 69 (.agg #[.pointer (some ⟨4, 27, none⟩)])) w := by kernel_rfl
theorem f_elemP (w : World) : (ReflectliteType.method ReflectliteType.elem #[.agg #[.pointer (some ⟨4, 48, none⟩)]]).run Tryd.prog w = .ok (.iface 69 (.agg #[.pointer (some ⟨4, 43, none⟩)])) w := by kernel_rfl
theorem f_implErrno (w : World) : (ReflectliteType.relation "Implements" ReflectliteType.implements_ #[.agg #[.pointer (some ⟨4, 27, none⟩)], .iface 69 (.agg #[.pointer (some ⟨4, 25, none⟩)])]).run Tryd.prog w = .ok (.bool true) w := by kernel_rfl
theorem f_implPlaced (w : World) : (ReflectliteType.relation "Implements" ReflectliteType.implements_ #[.agg #[.pointer (some ⟨4, 43, none⟩)], .iface 69 (.agg #[.pointer (some ⟨4, 25, none⟩)])]).run Tryd.prog w = .ok (.bool true) w := by kernel_rfl

theorem f_typeOfErrno (v : Value) (w : World) : (ReflectliteType.typeOf #[.iface 27 v]).run Tryd.prog w = .ok (.iface 69 (.agg #[.pointer (some ⟨4, 27, none⟩)])) w := by kernel_rfl
theorem f_typeOfPlaced (v : Value) (w : World) : (ReflectliteType.typeOf #[.iface 43 v]).run Tryd.prog w = .ok (.iface 69 (.agg #[.pointer (some ⟨4, 43, none⟩)])) w := by kernel_rfl
theorem f_asgEE (w : World) : (ReflectliteType.relation "AssignableTo" ReflectliteType.assignableTo #[.agg #[.pointer (some ⟨4, 27, none⟩)], .iface 69 (.agg #[.pointer (some ⟨4, 27, none⟩)])]).run Tryd.prog w = .ok (.bool true) w := by kernel_rfl
theorem f_asgPE (w : World) : (ReflectliteType.relation "AssignableTo" ReflectliteType.assignableTo #[.agg #[.pointer (some ⟨4, 43, none⟩)], .iface 69 (.agg #[.pointer (some ⟨4, 27, none⟩)])]).run Tryd.prog w = .ok (.bool false) w := by kernel_rfl
theorem f_asgEP (w : World) : (ReflectliteType.relation "AssignableTo" ReflectliteType.assignableTo #[.agg #[.pointer (some ⟨4, 27, none⟩)], .iface 69 (.agg #[.pointer (some ⟨4, 43, none⟩)])]).run Tryd.prog w = .ok (.bool false) w := by kernel_rfl
theorem f_asgPP (w : World) : (ReflectliteType.relation "AssignableTo" ReflectliteType.assignableTo #[.agg #[.pointer (some ⟨4, 43, none⟩)], .iface 69 (.agg #[.pointer (some ⟨4, 43, none⟩)])]).run Tryd.prog w = .ok (.bool true) w := by kernel_rfl
theorem f_valueOfErrno (e : Int) (w : World) : (ReflectliteValue.unpack (.iface 27 (.int .i64 e))).run Tryd.prog w
    = .ok (.agg #[.pointer (some ⟨4, 27, none⟩), .pointer (some ⟨w.heap.size, 0, none⟩), .int .u64 130]) (w.alloc (.cells #[.int .i64 e] 27)) := by kernel_rfl
theorem f_valueOfPlaced (b : Addr) (w : World) : (ReflectliteValue.unpack (.iface 43 (.pointer (some b)))).run Tryd.prog w
    = .ok (.agg #[.pointer (some ⟨4, 43, none⟩), .pointer (some ⟨w.heap.size, 0, none⟩), .int .u64 150]) (w.alloc (.cells #[.pointer (some b)] 43)) := by kernel_rfl

theorem f_elemOfE (w : World) : (Rtype.elem? 47).run Tryd.prog w = .ok (some 27) w := by kernel_rfl
theorem f_elemOfP (w : World) : (Rtype.elem? 48).run Tryd.prog w = .ok (some 43) w := by kernel_rfl
theorem f_mkErrno (p : Addr) (w : World) : (ReflectliteValue.mk 27 p ReflectliteValue.flagAddr).run Tryd.prog w = .ok (.agg #[.pointer (some ⟨4, 27, none⟩), .pointer (some p), .int .u64 386]) w := by kernel_rfl
theorem f_mkPlaced (p : Addr) (w : World) : (ReflectliteValue.mk 43 p ReflectliteValue.flagAddr).run Tryd.prog w = .ok (.agg #[.pointer (some ⟨4, 43, none⟩), .pointer (some p), .int .u64 406]) w := by kernel_rfl
theorem f_elemVE (a p : Addr) (W : World) (ha : W.cell? a = some (.pointer (some p))) :
    (ReflectliteValue.method (ReflectliteValue.valueError "reflectlite.Value.Elem" 0) ReflectliteValue.elem #[.agg #[.pointer (some ⟨4, 47, none⟩), .pointer (some a), .int .u64 150]]).run Tryd.prog W
      = .ok (.agg #[.pointer (some ⟨4, 27, none⟩), .pointer (some p), .int .u64 386]) W := by
  rw [f_rlm]
  simp only [Sem.run_bind, f_partsE, Result.andThen]
  simp [ReflectliteValue.elem, loadVar, isAgg, underlying, Tryd.underlying47, ha, Result.andThen, f_elemOfE, f_mkErrno]
theorem f_elemVP (a p : Addr) (W : World) (ha : W.cell? a = some (.pointer (some p))) :
    (ReflectliteValue.method (ReflectliteValue.valueError "reflectlite.Value.Elem" 0) ReflectliteValue.elem #[.agg #[.pointer (some ⟨4, 48, none⟩), .pointer (some a), .int .u64 150]]).run Tryd.prog W
      = .ok (.agg #[.pointer (some ⟨4, 43, none⟩), .pointer (some p), .int .u64 406]) W := by
  rw [f_rlm]
  simp only [Sem.run_bind, f_partsP, Result.andThen]
  simp [ReflectliteValue.elem, loadVar, isAgg, underlying, Tryd.underlying48, ha, Result.andThen, f_elemOfP, f_mkPlaced]
theorem f_rls (v x : Value) : ReflectliteValue.set #[v, x] = (do
    let (some (dst, a, fl), some (src, b, _)) := (← ReflectliteValue.parts v, ← ReflectliteValue.parts x)
      | unsupported (.noEntry "extern/(internal/reflectlite.Value).Set.zeroValue")
    if fl / ReflectliteValue.flagAddr % 2 == 0 then unsupported (.noEntry "extern/(internal/reflectlite.Value).Set.unaddressable")
    let val ← loadVar src b
    if ← Rtype.directlyAssignable dst src then storeVar dst a val
    else if ← Rtype.implements dst src then
      if (← Rtype.kind src) == 20 then
        match val with
        | .nilIface => unsupported (.noEntry "extern/reflectlite: a nil value of one interface type handed on as a value of another")
        | _ => storeVar dst a val
      else storeVar dst a (.iface src val)
    else panicString ("reflectlite.Set: value of type " ++ (← Rtype.spelt src) ++ " is not assignable to type " ++ (← Rtype.spelt dst))
    pure (.tuple #[])) := rfl
theorem f_partsErrnoA (a : Addr) (w : World) : (ReflectliteValue.parts (.agg #[.pointer (some ⟨4, 27, none⟩), .pointer (some a), .int .u64 386])).run Tryd.prog w = .ok (some (27, a, 386)) w := by kernel_rfl
theorem f_partsErrno (a : Addr) (w : World) : (ReflectliteValue.parts (.agg #[.pointer (some ⟨4, 27, none⟩), .pointer (some a), .int .u64 130])).run Tryd.prog w = .ok (some (27, a, 130)) w := by kernel_rfl
theorem f_partsPlacedA (a : Addr) (w : World) : (ReflectliteValue.parts (.agg #[.pointer (some ⟨4, 43, none⟩), .pointer (some a), .int .u64 406])).run Tryd.prog w = .ok (some (43, a, 406)) w := by kernel_rfl
theorem f_partsPlaced (a : Addr) (w : World) : (ReflectliteValue.parts (.agg #[.pointer (some ⟨4, 43, none⟩), .pointer (some a), .int .u64 150])).run Tryd.prog w = .ok (some (43, a, 150)) w := by kernel_rfl
theorem f_directErrno (w : World) : (Rtype.directlyAssignable 27 27).run Tryd.prog w = .ok true w := by kernel_rfl
theorem f_directPlaced (w : World) : (Rtype.directlyAssignable 43 43).run Tryd.prog w = .ok true w := by kernel_rfl
theorem f_setErrno (ta b : Addr) (e : Int) (old : Value) (W : World) (hb : W.cell? b = some (.int .i64 e)) (ht : W.cell? ta = some old) (hf : W.frozen? ta = false) :
    (ReflectliteValue.set #[.agg #[.pointer (some ⟨4, 27, none⟩), .pointer (some ta), .int .u64 386], .agg #[.pointer (some ⟨4, 27, none⟩), .pointer (some b), .int .u64 130]]).run Tryd.prog W
      = .ok (.tuple #[]) (W.setCell ta (.int .i64 e)) := by
  rw [f_rls]
  simp only [Sem.run_bind, f_partsErrnoA, f_partsErrno, Result.andThen]
  simp [ReflectliteValue.flagAddr, loadVar, isAgg, underlying, Tryd.underlying27, hb, Result.andThen, f_directErrno, storeVar, Value.cells, storeCells, Addr.add]
  rw [run_store Tryd.prog W ta _ _ (by rfl)]
  simp [ht, hf]
theorem f_setPlaced (ta b e : Addr) (old : Value) (W : World) (hb : W.cell? b = some (.pointer (some e))) (ht : W.cell? ta = some old) (hf : W.frozen? ta = false) :
    (ReflectliteValue.set #[.agg #[.pointer (some ⟨4, 43, none⟩), .pointer (some ta), .int .u64 406], .agg #[.pointer (some ⟨4, 43, none⟩), .pointer (some b), .int .u64 150]]).run Tryd.prog W
      = .ok (.tuple #[]) (W.setCell ta (.pointer (some e))) := by
  rw [f_rls]
  simp only [Sem.run_bind, f_partsPlacedA, f_partsPlaced, Result.andThen]
  simp [ReflectliteValue.flagAddr, loadVar, isAgg, underlying, Tryd.underlying43, hb, Result.andThen, f_directPlaced, storeVar, Value.cells, storeCells, Addr.add]
  rw [run_store Tryd.prog W ta _ _ (by rfl)]
  simp [ht, hf]

/-! ### the method sets -/
theorem f_noAsE (v : Value) (xT : TypeId) (w : World) : (Instr.typeAssert (.iface 27 v) xT 79 true).run Tryd.prog w = .ok (.tuple #[.nilIface, .bool false]) w := run_typeAssert_lacksB Tryd.underlying79 (by kernel_rfl) (by kernel_rfl) v xT w
theorem f_noAsP (v : Value) (xT : TypeId) (w : World) : (Instr.typeAssert (.iface 43 v) xT 79 true).run Tryd.prog w = .ok (.tuple #[.nilIface, .bool false]) w := run_typeAssert_lacksB Tryd.underlying79 (by kernel_rfl) (by kernel_rfl) v xT w
theorem f_noIsE (v : Value) (xT : TypeId) (w : World) : (Instr.typeAssert (.iface 27 v) xT 71 true).run Tryd.prog w = .ok (.tuple #[.nilIface, .bool false]) w := run_typeAssert_lacksB Tryd.underlying71 (by kernel_rfl) (by kernel_rfl) v xT w
theorem f_noIsP (v : Value) (xT : TypeId) (w : World) : (Instr.typeAssert (.iface 43 v) xT 71 true).run Tryd.prog w = .ok (.tuple #[.nilIface, .bool false]) w := run_typeAssert_lacksB Tryd.underlying71 (by kernel_rfl) (by kernel_rfl) v xT w
theorem f_noUnwrapE (v : Value) (xT : TypeId) (w : World) : (Instr.typeAssert (.iface 27 v) xT 51 true).run Tryd.prog w = .ok (.tuple #[.nilIface, .bool false]) w := run_typeAssert_lacksB Tryd.underlying51 (by kernel_rfl) (by kernel_rfl) v xT w
theorem f_noUnwrapsE (v : Value) (xT : TypeId) (w : World) : (Instr.typeAssert (.iface 27 v) xT 74 true).run Tryd.prog w = .ok (.tuple #[.nilIface, .bool false]) w := run_typeAssert_lacksB Tryd.underlying74 (by kernel_rfl) (by kernel_rfl) v xT w
theorem f_hasUnwrapP (v : Value) (xT : TypeId) (w : World) : (Instr.typeAssert (.iface 43 v) xT 51 true).run Tryd.prog w = .ok (.tuple #[.iface 43 v, .bool true]) w := run_typeAssert_hasB Tryd.underlying51 (by kernel_rfl) v xT w
theorem f_methodUnwrap (v : Value) (w : World) : (Go.method 227 43 v "Unwrap").run Tryd.prog w = .ok (62, v) w := by kernel_rfl
theorem f_methodErrorP (v : Value) (w : World) : (Go.method 227 43 v "Error").run Tryd.prog w = .ok (61, v) w := by kernel_rfl
theorem f_methodErrorE (v : Value) (w : World) : (Go.method 227 27 v "Error").run Tryd.prog w = .ok (46, v) w := by kernel_rfl
theorem f_comparable (w : World) : ((ReflectliteType.method fun t => (fun a => Value.bool a.comparable) <$> typeInfo t) #[.agg #[.pointer (some ⟨4, 27, none⟩)]]).run Tryd.prog w = .ok (.bool true) w := by kernel_rfl
theorem f_eqErrno (a b : Int) (w : World) : (binOp .eql 25 (.iface 27 (.int .i64 a)) (.iface 27 (.int .i64 b))).run Tryd.prog w = .ok (.bool (a == b)) w := by kernel_rfl
theorem f_neNil (v : Value) (w : World) : (binOp .eql 25 (.iface 43 v) .nilIface).run Tryd.prog w = .ok (.bool false) w := by kernel_rfl
theorem f_neNilE (v : Value) (w : World) : (binOp .eql 25 (.iface 27 v) .nilIface).run Tryd.prog w = .ok (.bool false) w := by kernel_rfl
theorem f_eqPE (v u : Value) (w : World) : (binOp .eql 25 (.iface 43 v) (.iface 27 u)).run Tryd.prog w = .ok (.bool false) w :=
  run_eql_iface_types (P := Tryd.prog) 43 27 v u Tryd.underlying25 (by decide) w
end Go.Proofs.YtclinofekgpfaaaDoor
