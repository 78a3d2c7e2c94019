/- errors.Is and errors.As at the errors of this program: Go's own text walked (after the kit's worked example). -/
import Derived.Test.YtghpbaebbljppaaDoorProg
import Derived.WalkKit
import Derived.LaidEql
import Derived.Stop.Asserts
import Derived.RowKitTokens
set_option linter.unusedVariables false
set_option linter.unusedSimpArgs false
namespace Go.Proofs.YtghpbaebbljppaaDoor
open Go.RowKit Go.Extern.Stop Go.Stop Go.Extern

theorem rlm (z : Sem Value) (f : TypeId → Addr → Nat → Nat → Sem Value) (v : Value) :
    ReflectliteValue.method z f #[v] = (do match ← ReflectliteValue.parts v with | none => z | some (t, a, fl) => f t a fl (fl % 32)) := rfl
theorem rls (v x : Value) : ReflectliteValue.set #[v, x] = (do
    let (some (dst, a, fl), some (src, b, _)) := (← ReflectliteValue.parts v, ← ReflectliteValue.parts x)
      | unsupported (.noEntry "extern/(internal/reflectlite.Value).Set.zeroValue")
    if fl / ReflectliteValue.flagAddr % 2 == 0 then unsupported (.noEntry "extern/(internal/reflectlite.Value).Set.unaddressable")
    let val ← loadVar src b
    if ← Rtype.directlyAssignable dst src then storeVar dst a val
    else if ← Rtype.implements dst src then
      if (← Rtype.kind src) == 20 then
        match val with
        | .nilIface => unsupported (.noEntry "extern/reflectlite: a nil value of one interface type handed on as a value of another")
        | _ => storeVar dst a val
      else storeVar dst a (.iface src val)
    else panicString ("reflectlite.Set: value of type " ++ (← Rtype.spelt src) ++ " is not assignable to type " ++ (← Rtype.spelt dst))
    pure (.tuple #[])) := rfl

theorem e_methodKind (h : Value) (w : World) : (Go.method 222 80 (.agg #[h]) "Kind").run Tryd.prog w = .ok (50, h) w := by kernel_rfl
theorem e_methodElem (h : Value) (w : World) : (Go.method 222 80 (.agg #[h]) "Elem").run Tryd.prog w = .ok (62, .agg #[h]) w := by kernel_rfl
theorem e_methodImplements (h : Value) (w : World) : (Go.method 222 80 (.agg #[h]) "Implements").run Tryd.prog w = .ok (63, .agg #[h]) w := by kernel_rfl
theorem e_methodAssignableTo (h : Value) (w : World) : (Go.method 222 80 (.agg #[h]) "AssignableTo").run Tryd.prog w = .ok (60, .agg #[h]) w := by kernel_rfl
theorem e_methodComparable (h : Value) (w : World) : (Go.method 222 80 (.agg #[h]) "Comparable").run Tryd.prog w = .ok (61, .agg #[h]) w := by kernel_rfl
theorem e_valueOf61 (t : Addr) (w : World) : (ReflectliteValue.unpack (.iface 61 (.pointer (some t)))).run Tryd.prog w
    = .ok (.agg #[.pointer (some ⟨1, 61, none⟩), .pointer (some ⟨w.heap.size, 0, none⟩), .int .u64 150]) (w.alloc (.cells #[.pointer (some t)] 61)) := by kernel_rfl
theorem e_type61 (a : Addr) (w : World) : (ReflectliteValue.methodAny (ReflectliteValue.valueError "reflectlite.Value.Type" 0) (fun t _ _ _ => ReflectliteType.toType t) #[.agg #[.pointer (some ⟨1, 61, none⟩), .pointer (some a), .int .u64 150]]).run Tryd.prog w
    = .ok (.iface 80 (.agg #[.pointer (some ⟨1, 61, none⟩)])) w := by kernel_rfl
theorem e_kind61 (w : World) : ((ReflectliteType.abiMethod fun t => (fun a : Nat => Value.int IntKind.u8 (a : Int)) <$> Rtype.kind t) #[.pointer (some ⟨1, 61, none⟩)]).run Tryd.prog w = .ok (.int .u8 22) w := by kernel_rfl
theorem e_kind56 (w : World) : ((ReflectliteType.abiMethod fun t => (fun a : Nat => Value.int IntKind.u8 (a : Int)) <$> Rtype.kind t) #[.pointer (some ⟨1, 56, none⟩)]).run Tryd.prog w = .ok (.int .u8 22) w := by kernel_rfl
theorem e_parts61 (a : Addr) (w : World) : (ReflectliteValue.parts (.agg #[.pointer (some ⟨1, 61, none⟩), .pointer (some a), .int .u64 150])).run Tryd.prog w = .ok (some (61, a, 150)) w := by kernel_rfl
theorem e_isNil61 (a p : Addr) (W : World) (ha : W.cell? a = some (.pointer (some p))) :
    (ReflectliteValue.method (ReflectliteValue.valueError "reflectlite.Value.IsNil" 0) ReflectliteValue.isNil #[.agg #[.pointer (some ⟨1, 61, none⟩), .pointer (some a), .int .u64 150]]).run Tryd.prog W = .ok (.bool false) W := by
  rw [rlm]
  simp only [Sem.run_bind, e_parts61, Result.andThen]
  simp [ReflectliteValue.isNil, loadVar, isAgg, underlying, Tryd.underlying61, ha, Result.andThen]
theorem e_elem61 (w : World) : (ReflectliteType.method ReflectliteType.elem #[.agg #[.pointer (some ⟨1, 61, none⟩)]]).run Tryd.prog w = .ok (.iface 80 (.agg #[.pointer (some ⟨1, 56, none⟩)])) w := by kernel_rfl
theorem e_implements56 (w : World) : (ReflectliteType.relation "Implements" ReflectliteType.implements_ #[.agg #[.pointer (some ⟨1, 56, none⟩)], .iface 80 (.agg #[.pointer (some ⟨1, 35, none⟩)])]).run Tryd.prog w = .ok (.bool true) w := by kernel_rfl
theorem e_typeOf56 (v : Value) (w : World) : (ReflectliteType.typeOf #[.iface 56 v]).run Tryd.prog w = .ok (.iface 80 (.agg #[.pointer (some ⟨1, 56, none⟩)])) w := by kernel_rfl
theorem e_assignable56 (w : World) : (ReflectliteType.relation "AssignableTo" ReflectliteType.assignableTo #[.agg #[.pointer (some ⟨1, 56, none⟩)], .iface 80 (.agg #[.pointer (some ⟨1, 56, none⟩)])]).run Tryd.prog w = .ok (.bool true) w := by kernel_rfl
theorem e_elemOf61 (w : World) : (Rtype.elem? 61).run Tryd.prog w = .ok (some 56) w := by kernel_rfl
theorem e_mk56 (p : Addr) (w : World) : (ReflectliteValue.mk 56 p ReflectliteValue.flagAddr).run Tryd.prog w = .ok (.agg #[.pointer (some ⟨1, 56, none⟩), .pointer (some p), .int .u64 406]) w := by kernel_rfl
theorem e_elemV61 (a p : Addr) (W : World) (ha : W.cell? a = some (.pointer (some p))) :
    (ReflectliteValue.method (ReflectliteValue.valueError "reflectlite.Value.Elem" 0) ReflectliteValue.elem #[.agg #[.pointer (some ⟨1, 61, none⟩), .pointer (some a), .int .u64 150]]).run Tryd.prog W
      = .ok (.agg #[.pointer (some ⟨1, 56, none⟩), .pointer (some p), .int .u64 406]) W := by
  rw [rlm]
  simp only [Sem.run_bind, e_parts61, Result.andThen]
  simp [ReflectliteValue.elem, loadVar, isAgg, underlying, Tryd.underlying61, ha, Result.andThen, e_elemOf61, e_mk56]
theorem e_parts56a (a : Addr) (w : World) : (ReflectliteValue.parts (.agg #[.pointer (some ⟨1, 56, none⟩), .pointer (some a), .int .u64 406])).run Tryd.prog w = .ok (some (56, a, 406)) w := by kernel_rfl
theorem e_parts56 (a : Addr) (w : World) : (ReflectliteValue.parts (.agg #[.pointer (some ⟨1, 56, none⟩), .pointer (some a), .int .u64 150])).run Tryd.prog w = .ok (some (56, a, 150)) w := by kernel_rfl
theorem e_direct56 (w : World) : (Rtype.directlyAssignable 56 56).run Tryd.prog w = .ok true w := by kernel_rfl
theorem e_size56 (w : World) : (sizeOf 56).run Tryd.prog w = .ok 1 w := by kernel_rfl

theorem e_valueOf64 (t : Addr) (w : World) : (ReflectliteValue.unpack (.iface 64 (.pointer (some t)))).run Tryd.prog w
    = .ok (.agg #[.pointer (some ⟨1, 64, none⟩), .pointer (some ⟨w.heap.size, 0, none⟩), .int .u64 150]) (w.alloc (.cells #[.pointer (some t)] 64)) := by kernel_rfl
theorem e_type64 (a : Addr) (w : World) : (ReflectliteValue.methodAny (ReflectliteValue.valueError "reflectlite.Value.Type" 0) (fun t _ _ _ => ReflectliteType.toType t) #[.agg #[.pointer (some ⟨1, 64, none⟩), .pointer (some a), .int .u64 150]]).run Tryd.prog w
    = .ok (.iface 80 (.agg #[.pointer (some ⟨1, 64, none⟩)])) w := by kernel_rfl
theorem e_kind64 (w : World) : ((ReflectliteType.abiMethod fun t => (fun a : Nat => Value.int IntKind.u8 (a : Int)) <$> Rtype.kind t) #[.pointer (some ⟨1, 64, none⟩)]).run Tryd.prog w = .ok (.int .u8 22) w := by kernel_rfl
theorem e_kind51 (w : World) : ((ReflectliteType.abiMethod fun t => (fun a : Nat => Value.int IntKind.u8 (a : Int)) <$> Rtype.kind t) #[.pointer (some ⟨1, 51, none⟩)]).run Tryd.prog w = .ok (.int .u8 2) w := by kernel_rfl
theorem e_parts64 (a : Addr) (w : World) : (ReflectliteValue.parts (.agg #[.pointer (some ⟨1, 64, none⟩), .pointer (some a), .int .u64 150])).run Tryd.prog w = .ok (some (64, a, 150)) w := by kernel_rfl
theorem e_isNil64 (a p : Addr) (W : World) (ha : W.cell? a = some (.pointer (some p))) :
    (ReflectliteValue.method (ReflectliteValue.valueError "reflectlite.Value.IsNil" 0) ReflectliteValue.isNil #[.agg #[.pointer (some ⟨1, 64, none⟩), .pointer (some a), .int .u64 150]]).run Tryd.prog W = .ok (.bool false) W := by
  rw [rlm]
  simp only [Sem.run_bind, e_parts64, Result.andThen]
  simp [ReflectliteValue.isNil, loadVar, isAgg, underlying, Tryd.underlying64, ha, Result.andThen]
theorem e_elem64 (w : World) : (ReflectliteType.method ReflectliteType.elem #[.agg #[.pointer (some ⟨1, 64, none⟩)]]).run Tryd.prog w = .ok (.iface 80 (.agg #[.pointer (some ⟨1, 51, none⟩)])) w := by kernel_rfl
theorem e_implements51 (w : World) : (ReflectliteType.relation "Implements" ReflectliteType.implements_ #[.agg #[.pointer (some ⟨1, 51, none⟩)], .iface 80 (.agg #[.pointer (some ⟨1, 35, none⟩)])]).run Tryd.prog w = .ok (.bool true) w := by kernel_rfl
theorem e_typeOf51 (v : Value) (w : World) : (ReflectliteType.typeOf #[.iface 51 v]).run Tryd.prog w = .ok (.iface 80 (.agg #[.pointer (some ⟨1, 51, none⟩)])) w := by kernel_rfl
theorem e_assignable51 (w : World) : (ReflectliteType.relation "AssignableTo" ReflectliteType.assignableTo #[.agg #[.pointer (some ⟨1, 51, none⟩)], .iface 80 (.agg #[.pointer (some ⟨1, 51, none⟩)])]).run Tryd.prog w = .ok (.bool true) w := by kernel_rfl
theorem e_elemOf64 (w : World) : (Rtype.elem? 64).run Tryd.prog w = .ok (some 51) w := by kernel_rfl
theorem e_mk51 (p : Addr) (w : World) : (ReflectliteValue.mk 51 p ReflectliteValue.flagAddr).run Tryd.prog w = .ok (.agg #[.pointer (some ⟨1, 51, none⟩), .pointer (some p), .int .u64 386]) w := by kernel_rfl
theorem e_elemV64 (a p : Addr) (W : World) (ha : W.cell? a = some (.pointer (some p))) :
    (ReflectliteValue.method (ReflectliteValue.valueError "reflectlite.Value.Elem" 0) ReflectliteValue.elem #[.agg #[.pointer (some ⟨1, 64, none⟩), .pointer (some a), .int .u64 150]]).run Tryd.prog W
      = .ok (.agg #[.pointer (some ⟨1, 51, none⟩), .pointer (some p), .int .u64 386]) W := by
  rw [rlm]
  simp only [Sem.run_bind, e_parts64, Result.andThen]
  simp [ReflectliteValue.elem, loadVar, isAgg, underlying, Tryd.underlying64, ha, Result.andThen, e_elemOf64, e_mk51]
theorem e_parts51a (a : Addr) (w : World) : (ReflectliteValue.parts (.agg #[.pointer (some ⟨1, 51, none⟩), .pointer (some a), .int .u64 386])).run Tryd.prog w = .ok (some (51, a, 386)) w := by kernel_rfl
theorem e_parts51 (a : Addr) (w : World) : (ReflectliteValue.parts (.agg #[.pointer (some ⟨1, 51, none⟩), .pointer (some a), .int .u64 130])).run Tryd.prog w = .ok (some (51, a, 130)) w := by kernel_rfl
theorem e_direct51 (w : World) : (Rtype.directlyAssignable 51 51).run Tryd.prog w = .ok true w := by kernel_rfl
theorem e_size51 (w : World) : (sizeOf 51).run Tryd.prog w = .ok 1 w := by kernel_rfl

theorem e_valueOf56 (e : Addr) (w : World) : (ReflectliteValue.unpack (.iface 56 (.pointer (some e)))).run Tryd.prog w
    = .ok (.agg #[.pointer (some ⟨1, 56, none⟩), .pointer (some ⟨w.heap.size, 0, none⟩), .int .u64 150]) (w.alloc (.cells #[.pointer (some e)] 56)) := by kernel_rfl
theorem e_set56 (ta b : Addr) (e : Addr) (old : Value) (W : World) (hb : W.cell? b = some (.pointer (some e))) (ht : W.cell? ta = some old) (hf : W.frozen? ta = false) :
    (ReflectliteValue.set #[.agg #[.pointer (some ⟨1, 56, none⟩), .pointer (some ta), .int .u64 406], .agg #[.pointer (some ⟨1, 56, none⟩), .pointer (some b), .int .u64 150]]).run Tryd.prog W
      = .ok (.tuple #[]) (W.setCell ta (.pointer (some e))) := by
  rw [rls]
  simp only [Sem.run_bind, e_parts56a, e_parts56, Result.andThen]
  simp [ReflectliteValue.flagAddr, loadVar, isAgg, underlying, Tryd.underlying56, hb, Result.andThen, e_direct56, storeVar, Value.cells, storeCells, Addr.add]
  rw [run_store Tryd.prog W ta _ _ (by rfl)]
  simp [ht, hf]

theorem e_valueOf51 (e : Int) (w : World) : (ReflectliteValue.unpack (.iface 51 (.int .i64 e))).run Tryd.prog w
    = .ok (.agg #[.pointer (some ⟨1, 51, none⟩), .pointer (some ⟨w.heap.size, 0, none⟩), .int .u64 130]) (w.alloc (.cells #[.int .i64 e] 51)) := by kernel_rfl
theorem e_set51 (ta b : Addr) (e : Int) (old : Value) (W : World) (hb : W.cell? b = some (.int .i64 e)) (ht : W.cell? ta = some old) (hf : W.frozen? ta = false) :
    (ReflectliteValue.set #[.agg #[.pointer (some ⟨1, 51, none⟩), .pointer (some ta), .int .u64 386], .agg #[.pointer (some ⟨1, 51, none⟩), .pointer (some b), .int .u64 130]]).run Tryd.prog W
      = .ok (.tuple #[]) (W.setCell ta (.int .i64 e)) := by
  rw [rls]
  simp only [Sem.run_bind, e_parts51a, e_parts51, Result.andThen]
  simp [ReflectliteValue.flagAddr, loadVar, isAgg, underlying, Tryd.underlying51, hb, Result.andThen, e_direct51, storeVar, Value.cells, storeCells, Addr.add]
  rw [run_store Tryd.prog W ta _ _ (by rfl)]
  simp [ht, hf]

theorem e_assignMiss (w : World) : (ReflectliteType.relation "AssignableTo" ReflectliteType.assignableTo #[.agg #[.pointer (some ⟨1, 51, none⟩)], .iface 80 (.agg #[.pointer (some ⟨1, 56, none⟩)])]).run Tryd.prog w = .ok (.bool false) w := by kernel_rfl
theorem e_comparable51 (w : World) : ((ReflectliteType.method fun t => do Rtype.noPackHeld "Comparable" t; (fun a => Value.bool a.comparable) <$> typeInfo t) #[.agg #[.pointer (some ⟨1, 51, none⟩)]]).run Tryd.prog w = .ok (.bool true) w := by kernel_rfl
theorem e_methodUnwrap (v : Value) (w : World) : (Go.method 222 56 v "Unwrap").run Tryd.prog w = .ok (55, v) w := by kernel_rfl
theorem e_noIs (v : Value) (xT : TypeId) (w : World) : (Instr.typeAssert (.iface 56 v) xT 82 true).run Tryd.prog w = .ok (.tuple #[.nilIface, .bool false]) w := run_typeAssert_lacksB Tryd.underlying82 (by kernel_rfl) (by kernel_rfl) v xT w
theorem e_hasUnwrap (v : Value) (xT : TypeId) (w : World) : (Instr.typeAssert (.iface 56 v) xT 85 true).run Tryd.prog w = .ok (.tuple #[.iface 56 v, .bool true]) w := run_typeAssert_hasB Tryd.underlying85 (by kernel_rfl) v xT w
theorem e_noAs (v : Value) (xT : TypeId) (w : World) : (Instr.typeAssert (.iface 51 v) xT 91 true).run Tryd.prog w = .ok (.tuple #[.nilIface, .bool false]) w := run_typeAssert_lacksB Tryd.underlying91 (by kernel_rfl) (by kernel_rfl) v xT w
theorem e_noUnwrap (v : Value) (xT : TypeId) (w : World) : (Instr.typeAssert (.iface 51 v) xT 85 true).run Tryd.prog w = .ok (.tuple #[.nilIface, .bool false]) w := run_typeAssert_lacksB Tryd.underlying85 (by kernel_rfl) (by kernel_rfl) v xT w
theorem e_noUnwraps (v : Value) (xT : TypeId) (w : World) : (Instr.typeAssert (.iface 51 v) xT 86 true).run Tryd.prog w = .ok (.tuple #[.nilIface, .bool false]) w := run_typeAssert_lacksB Tryd.underlying86 (by kernel_rfl) (by kernel_rfl) v xT w
theorem e_comp : (Tryd.prog.info? 51).map (·.comparable) = some true := by kernel_rfl
theorem e_eqInt (c : Int) (w : World) : (binOp .eql 35 (.iface 51 (.int .i64 c)) (.iface 51 (.int .i64 c))).run Tryd.prog w = .ok (.bool true) w := by
  obtain ⟨i, hi, hcmp⟩ := Option.map_eq_some_iff.1 e_comp
  have h : ∀ d : Nat, (Op.equalIn (d + 2) 35 (.iface 51 (.int .i64 c)) (.iface 51 (.int .i64 c))).run Tryd.prog w = .ok true w := fun d => by
    simp [Op.equalIn, run_underlying Tryd.underlying35, run_underlying Tryd.underlying51, typeInfo, hi, hcmp]
  simp only [binOp]
  simp [Op.equal, Op.maxDepth, h 9998]

set_option maxRecDepth 100000 in
set_option maxHeartbeats 4000000 in
theorem e_as_fault (e : Addr) (t : Addr) (old : Value) (w : World) (hg : w.cell? ⟨0, 0, none⟩ = some (.iface 80 (.agg #[.pointer (some ⟨1, 35, none⟩)]))) (ht0 : w.cell? t = some old) (hf0 : w.frozen? t = false) :
    Calls Tryd.prog 27 #[.iface 56 (.pointer (some e)), .iface 61 (.pointer (some t))] w fun ev w' => ev = .returned (.bool true) ∧ w' = (((((w.alloc (.cells #[.pointer (some t)] 61)).alloc (.cells #[.pointer (some ⟨1, 61, none⟩), .pointer (some ⟨w.heap.size, 0, none⟩), .int .u64 150] 72)).alloc (.cells #[.pointer (some ⟨1, 61, none⟩), .pointer (some ⟨w.heap.size, 0, none⟩), .int .u64 150] 72))).alloc (.cells #[.pointer (some e)] 56)).setCell t (.pointer (some e)) := by
  have h6 := @run_callFunc_extern Tryd.prog 30 _ (fun args => ReflectliteValue.unpack (args.getD 0 (.tuple #[]))) Tryd.func30 (by kernel_rfl) (by kernel_rfl) (by kernel_rfl) (by kernel_rfl)
  have h7 := @run_callFunc_extern Tryd.prog 31 _ (ReflectliteValue.methodAny (ReflectliteValue.valueError "reflectlite.Value.Type" 0) (fun t _ _ _ => ReflectliteType.toType t)) Tryd.func31 (by kernel_rfl) (by kernel_rfl) (by kernel_rfl) (by kernel_rfl)
  have h8 := @run_callFunc_extern Tryd.prog 32 _ (ReflectliteValue.method (ReflectliteValue.valueError "reflectlite.Value.IsNil" 0) ReflectliteValue.isNil) Tryd.func32 (by kernel_rfl) (by kernel_rfl) (by kernel_rfl) (by kernel_rfl)
  have h27 := @run_callFunc_extern Tryd.prog 50 _ (ReflectliteType.abiMethod fun t => do pure (.int .u8 (← Rtype.kind t))) Tryd.func50 (by kernel_rfl) (by kernel_rfl) (by kernel_rfl) (by kernel_rfl)
  have h37 := @run_callFunc_extern Tryd.prog 62 _ (ReflectliteType.method ReflectliteType.elem) Tryd.func62 (by kernel_rfl) (by kernel_rfl) (by kernel_rfl) (by kernel_rfl)
  have h38 := @run_callFunc_extern Tryd.prog 63 _ (ReflectliteType.relation "Implements" ReflectliteType.implements_) Tryd.func63 (by kernel_rfl) (by kernel_rfl) (by kernel_rfl) (by kernel_rfl)
  have h10 := @run_callFunc_extern Tryd.prog 28 _ ReflectliteType.typeOf Tryd.func28 (by kernel_rfl) (by kernel_rfl) (by kernel_rfl) (by kernel_rfl)
  have h35 := @run_callFunc_extern Tryd.prog 60 _ (ReflectliteType.relation "AssignableTo" ReflectliteType.assignableTo) Tryd.func60 (by kernel_rfl) (by kernel_rfl) (by kernel_rfl) (by kernel_rfl)
  have h11 := @run_callFunc_extern Tryd.prog 34 _ (ReflectliteValue.method (ReflectliteValue.valueError "reflectlite.Value.Elem" 0) ReflectliteValue.elem) Tryd.func34 (by kernel_rfl) (by kernel_rfl) (by kernel_rfl) (by kernel_rfl)
  have h12 := @run_callFunc_extern Tryd.prog 35 _ ReflectliteValue.set Tryd.func35 (by kernel_rfl) (by kernel_rfl) (by kernel_rfl) (by kernel_rfl)
  have a25 := e_assignable56
  have v25 := e_valueOf56
  have tO := e_typeOf56
  have mA := e_methodAssignableTo
  have f6 := e_valueOf61
  have f7 := e_type61
  have mK := e_methodKind
  have mE := e_methodElem
  have mI := e_methodImplements
  have k27 := e_kind61
  have k25 := e_kind56
  have e27 := e_elem61
  have i25 := e_implements56
  have n8 := e_isNil61 ⟨w.heap.size, 0, none⟩ t ((w.alloc (.cells #[.pointer (some t)] 61)).alloc (.cells #[.pointer (some ⟨1, 61, none⟩), .pointer (some ⟨w.heap.size, 0, none⟩), .int .u64 150] 72)) (by simp)
  have hlt : 0 < w.heap.size := by
    rcases Nat.lt_or_ge 0 w.heap.size with h | h
    · exact h
    · simp [World.cell?, Array.getElem?_eq_none h] at hg
  have hg2 : ((w.alloc (.cells #[.pointer (some t)] 61)).alloc (.cells #[.pointer (some ⟨1, 61, none⟩), .pointer (some ⟨w.heap.size, 0, none⟩), .int .u64 150] 72)).cell? ⟨0, 0, none⟩ = some (.iface 80 (.agg #[.pointer (some ⟨1, 35, none⟩)])) := by
    rw [World.cell?_alloc_lt _ _ ⟨0, 0, none⟩ (by first | (simp; done) | (simp; omega)), World.cell?_alloc_lt _ _ ⟨0, 0, none⟩ hlt]; exact hg
  have htl : t.block < w.heap.size := by
    rcases Nat.lt_or_ge t.block w.heap.size with h | h
    · exact h
    · simp [World.cell?, Array.getElem?_eq_none h] at ht0
  have el := e_elemV61 ⟨w.heap.size, 0, none⟩ t (((w.alloc (.cells #[.pointer (some t)] 61)).alloc (.cells #[.pointer (some ⟨1, 61, none⟩), .pointer (some ⟨w.heap.size, 0, none⟩), .int .u64 150] 72)).alloc (.cells #[.pointer (some ⟨1, 61, none⟩), .pointer (some ⟨w.heap.size, 0, none⟩), .int .u64 150] 72)) (by rw [World.cell?_alloc_lt _ _ ⟨w.heap.size, 0, none⟩ (by simp; omega)]; simp)
  have st := e_set56 t ⟨w.heap.size + 1 + 1 + 1, 0, none⟩ e old ((((w.alloc (.cells #[.pointer (some t)] 61)).alloc (.cells #[.pointer (some ⟨1, 61, none⟩), .pointer (some ⟨w.heap.size, 0, none⟩), .int .u64 150] 72)).alloc (.cells #[.pointer (some ⟨1, 61, none⟩), .pointer (some ⟨w.heap.size, 0, none⟩), .int .u64 150] 72)).alloc (.cells #[.pointer (some e)] 56))
    (by rw [World.cell?_alloc_at _ _ _ _ (by simp)]; rfl)
    (by rw [World.cell?_alloc_lt _ _ t (by simp; omega), World.cell?_alloc_lt _ _ t (by simp; omega), World.cell?_alloc_lt _ _ t (by simp; omega), World.cell?_alloc_lt _ _ t htl]; exact ht0)
    (by rw [World.frozen?_alloc_old _ _ t (by simp; omega), World.frozen?_alloc_old _ _ t (by simp; omega), World.frozen?_alloc_old _ _ t (by simp; omega), World.frozen?_alloc_old _ _ t (Nat.ne_of_lt htl)]; exact hf0)
  go_enter Tryd.func27, Tryd.ntmps27
  go_wp2
  refine wp_loop_rounds 1 ?_
  rw [rounds_succ]
  go_wp2
  go_ret
  exact ⟨rfl, rfl⟩

set_option maxRecDepth 100000 in
set_option maxHeartbeats 4000000 in
theorem e_as_errno (e : Int) (t : Addr) (old : Value) (w : World) (hg : w.cell? ⟨0, 0, none⟩ = some (.iface 80 (.agg #[.pointer (some ⟨1, 35, none⟩)]))) (ht0 : w.cell? t = some old) (hf0 : w.frozen? t = false) :
    Calls Tryd.prog 27 #[.iface 51 (.int .i64 e), .iface 64 (.pointer (some t))] w fun ev w' => ev = .returned (.bool true) ∧ w' = (((((w.alloc (.cells #[.pointer (some t)] 64)).alloc (.cells #[.pointer (some ⟨1, 64, none⟩), .pointer (some ⟨w.heap.size, 0, none⟩), .int .u64 150] 72)).alloc (.cells #[.pointer (some ⟨1, 64, none⟩), .pointer (some ⟨w.heap.size, 0, none⟩), .int .u64 150] 72))).alloc (.cells #[.int .i64 e] 51)).setCell t (.int .i64 e) := by
  have h6 := @run_callFunc_extern Tryd.prog 30 _ (fun args => ReflectliteValue.unpack (args.getD 0 (.tuple #[]))) Tryd.func30 (by kernel_rfl) (by kernel_rfl) (by kernel_rfl) (by kernel_rfl)
  have h7 := @run_callFunc_extern Tryd.prog 31 _ (ReflectliteValue.methodAny (ReflectliteValue.valueError "reflectlite.Value.Type" 0) (fun t _ _ _ => ReflectliteType.toType t)) Tryd.func31 (by kernel_rfl) (by kernel_rfl) (by kernel_rfl) (by kernel_rfl)
  have h8 := @run_callFunc_extern Tryd.prog 32 _ (ReflectliteValue.method (ReflectliteValue.valueError "reflectlite.Value.IsNil" 0) ReflectliteValue.isNil) Tryd.func32 (by kernel_rfl) (by kernel_rfl) (by kernel_rfl) (by kernel_rfl)
  have h27 := @run_callFunc_extern Tryd.prog 50 _ (ReflectliteType.abiMethod fun t => do pure (.int .u8 (← Rtype.kind t))) Tryd.func50 (by kernel_rfl) (by kernel_rfl) (by kernel_rfl) (by kernel_rfl)
  have h37 := @run_callFunc_extern Tryd.prog 62 _ (ReflectliteType.method ReflectliteType.elem) Tryd.func62 (by kernel_rfl) (by kernel_rfl) (by kernel_rfl) (by kernel_rfl)
  have h38 := @run_callFunc_extern Tryd.prog 63 _ (ReflectliteType.relation "Implements" ReflectliteType.implements_) Tryd.func63 (by kernel_rfl) (by kernel_rfl) (by kernel_rfl) (by kernel_rfl)
  have h10 := @run_callFunc_extern Tryd.prog 28 _ ReflectliteType.typeOf Tryd.func28 (by kernel_rfl) (by kernel_rfl) (by kernel_rfl) (by kernel_rfl)
  have h35 := @run_callFunc_extern Tryd.prog 60 _ (ReflectliteType.relation "AssignableTo" ReflectliteType.assignableTo) Tryd.func60 (by kernel_rfl) (by kernel_rfl) (by kernel_rfl) (by kernel_rfl)
  have h11 := @run_callFunc_extern Tryd.prog 34 _ (ReflectliteValue.method (ReflectliteValue.valueError "reflectlite.Value.Elem" 0) ReflectliteValue.elem) Tryd.func34 (by kernel_rfl) (by kernel_rfl) (by kernel_rfl) (by kernel_rfl)
  have h12 := @run_callFunc_extern Tryd.prog 35 _ ReflectliteValue.set Tryd.func35 (by kernel_rfl) (by kernel_rfl) (by kernel_rfl) (by kernel_rfl)
  have a25 := e_assignable51
  have v25 := e_valueOf51
  have tO := e_typeOf51
  have mA := e_methodAssignableTo
  have f6 := e_valueOf64
  have f7 := e_type64
  have mK := e_methodKind
  have mE := e_methodElem
  have mI := e_methodImplements
  have k27 := e_kind64
  have k25 := e_kind51
  have e27 := e_elem64
  have i25 := e_implements51
  have n8 := e_isNil64 ⟨w.heap.size, 0, none⟩ t ((w.alloc (.cells #[.pointer (some t)] 64)).alloc (.cells #[.pointer (some ⟨1, 64, none⟩), .pointer (some ⟨w.heap.size, 0, none⟩), .int .u64 150] 72)) (by simp)
  have hlt : 0 < w.heap.size := by
    rcases Nat.lt_or_ge 0 w.heap.size with h | h
    · exact h
    · simp [World.cell?, Array.getElem?_eq_none h] at hg
  have hg2 : ((w.alloc (.cells #[.pointer (some t)] 64)).alloc (.cells #[.pointer (some ⟨1, 64, none⟩), .pointer (some ⟨w.heap.size, 0, none⟩), .int .u64 150] 72)).cell? ⟨0, 0, none⟩ = some (.iface 80 (.agg #[.pointer (some ⟨1, 35, none⟩)])) := by
    rw [World.cell?_alloc_lt _ _ ⟨0, 0, none⟩ (by first | (simp; done) | (simp; omega)), World.cell?_alloc_lt _ _ ⟨0, 0, none⟩ hlt]; exact hg
  have htl : t.block < w.heap.size := by
    rcases Nat.lt_or_ge t.block w.heap.size with h | h
    · exact h
    · simp [World.cell?, Array.getElem?_eq_none h] at ht0
  have el := e_elemV64 ⟨w.heap.size, 0, none⟩ t (((w.alloc (.cells #[.pointer (some t)] 64)).alloc (.cells #[.pointer (some ⟨1, 64, none⟩), .pointer (some ⟨w.heap.size, 0, none⟩), .int .u64 150] 72)).alloc (.cells #[.pointer (some ⟨1, 64, none⟩), .pointer (some ⟨w.heap.size, 0, none⟩), .int .u64 150] 72)) (by rw [World.cell?_alloc_lt _ _ ⟨w.heap.size, 0, none⟩ (by simp; omega)]; simp)
  have st := e_set51 t ⟨w.heap.size + 1 + 1 + 1, 0, none⟩ e old ((((w.alloc (.cells #[.pointer (some t)] 64)).alloc (.cells #[.pointer (some ⟨1, 64, none⟩), .pointer (some ⟨w.heap.size, 0, none⟩), .int .u64 150] 72)).alloc (.cells #[.pointer (some ⟨1, 64, none⟩), .pointer (some ⟨w.heap.size, 0, none⟩), .int .u64 150] 72)).alloc (.cells #[.int .i64 e] 51))
    (by rw [World.cell?_alloc_at _ _ _ _ (by simp)]; rfl)
    (by rw [World.cell?_alloc_lt _ _ t (by simp; omega), World.cell?_alloc_lt _ _ t (by simp; omega), World.cell?_alloc_lt _ _ t (by simp; omega), World.cell?_alloc_lt _ _ t htl]; exact ht0)
    (by rw [World.frozen?_alloc_old _ _ t (by simp; omega), World.frozen?_alloc_old _ _ t (by simp; omega), World.frozen?_alloc_old _ _ t (by simp; omega), World.frozen?_alloc_old _ _ t (Nat.ne_of_lt htl)]; exact hf0)
  go_enter Tryd.func27, Tryd.ntmps27
  go_wp2
  refine wp_loop_rounds 1 ?_
  rw [rounds_succ]
  go_wp2
  go_ret
  exact ⟨rfl, rfl⟩

set_option maxRecDepth 100000 in
set_option maxHeartbeats 4000000 in
theorem e_as_miss (e : Int) (t : Addr) (old : Value) (w : World) (hg : w.cell? ⟨0, 0, none⟩ = some (.iface 80 (.agg #[.pointer (some ⟨1, 35, none⟩)]))) (ht0 : w.cell? t = some old)  :
    Calls Tryd.prog 27 #[.iface 51 (.int .i64 e), .iface 61 (.pointer (some t))] w fun ev w' => ev = .returned (.bool false) ∧ w' = (((w.alloc (.cells #[.pointer (some t)] 61)).alloc (.cells #[.pointer (some ⟨1, 61, none⟩), .pointer (some ⟨w.heap.size, 0, none⟩), .int .u64 150] 72)).alloc (.cells #[.pointer (some ⟨1, 61, none⟩), .pointer (some ⟨w.heap.size, 0, none⟩), .int .u64 150] 72)) := by
  have h6 := @run_callFunc_extern Tryd.prog 30 _ (fun args => ReflectliteValue.unpack (args.getD 0 (.tuple #[]))) Tryd.func30 (by kernel_rfl) (by kernel_rfl) (by kernel_rfl) (by kernel_rfl)
  have h7 := @run_callFunc_extern Tryd.prog 31 _ (ReflectliteValue.methodAny (ReflectliteValue.valueError "reflectlite.Value.Type" 0) (fun t _ _ _ => ReflectliteType.toType t)) Tryd.func31 (by kernel_rfl) (by kernel_rfl) (by kernel_rfl) (by kernel_rfl)
  have h8 := @run_callFunc_extern Tryd.prog 32 _ (ReflectliteValue.method (ReflectliteValue.valueError "reflectlite.Value.IsNil" 0) ReflectliteValue.isNil) Tryd.func32 (by kernel_rfl) (by kernel_rfl) (by kernel_rfl) (by kernel_rfl)
  have h27 := @run_callFunc_extern Tryd.prog 50 _ (ReflectliteType.abiMethod fun t => do pure (.int .u8 (← Rtype.kind t))) Tryd.func50 (by kernel_rfl) (by kernel_rfl) (by kernel_rfl) (by kernel_rfl)
  have h37 := @run_callFunc_extern Tryd.prog 62 _ (ReflectliteType.method ReflectliteType.elem) Tryd.func62 (by kernel_rfl) (by kernel_rfl) (by kernel_rfl) (by kernel_rfl)
  have h38 := @run_callFunc_extern Tryd.prog 63 _ (ReflectliteType.relation "Implements" ReflectliteType.implements_) Tryd.func63 (by kernel_rfl) (by kernel_rfl) (by kernel_rfl) (by kernel_rfl)
  have h10 := @run_callFunc_extern Tryd.prog 28 _ ReflectliteType.typeOf Tryd.func28 (by kernel_rfl) (by kernel_rfl) (by kernel_rfl) (by kernel_rfl)
  have h35 := @run_callFunc_extern Tryd.prog 60 _ (ReflectliteType.relation "AssignableTo" ReflectliteType.assignableTo) Tryd.func60 (by kernel_rfl) (by kernel_rfl) (by kernel_rfl) (by kernel_rfl)
  have a25 := e_assignMiss
  have nA := e_noAs
  have nU := e_noUnwrap
  have nV := e_noUnwraps
  have tO := e_typeOf51
  have mA := e_methodAssignableTo
  have f6 := e_valueOf61
  have f7 := e_type61
  have mK := e_methodKind
  have mE := e_methodElem
  have mI := e_methodImplements
  have k27 := e_kind61
  have k25 := e_kind56
  have e27 := e_elem61
  have i25 := e_implements56
  have n8 := e_isNil61 ⟨w.heap.size, 0, none⟩ t ((w.alloc (.cells #[.pointer (some t)] 61)).alloc (.cells #[.pointer (some ⟨1, 61, none⟩), .pointer (some ⟨w.heap.size, 0, none⟩), .int .u64 150] 72)) (by simp)
  have hlt : 0 < w.heap.size := by
    rcases Nat.lt_or_ge 0 w.heap.size with h | h
    · exact h
    · simp [World.cell?, Array.getElem?_eq_none h] at hg
  have hg2 : ((w.alloc (.cells #[.pointer (some t)] 61)).alloc (.cells #[.pointer (some ⟨1, 61, none⟩), .pointer (some ⟨w.heap.size, 0, none⟩), .int .u64 150] 72)).cell? ⟨0, 0, none⟩ = some (.iface 80 (.agg #[.pointer (some ⟨1, 35, none⟩)])) := by
    rw [World.cell?_alloc_lt _ _ ⟨0, 0, none⟩ (by first | (simp; done) | (simp; omega)), World.cell?_alloc_lt _ _ ⟨0, 0, none⟩ hlt]; exact hg
  go_enter Tryd.func27, Tryd.ntmps27
  go_wp2
  refine wp_loop_rounds 1 ?_
  rw [rounds_succ]
  go_wp2
  go_ret
  exact ⟨rfl, rfl⟩

set_option maxRecDepth 100000 in
set_option maxHeartbeats 4000000 in
theorem e_is1 (b0 : Nat) (c : Int) (w : World) (h0 : w.cell? ⟨b0, 2, none⟩ = some (.iface 51 (.int .i64 c))) :
    Calls Tryd.prog 26 #[.iface 56 (.pointer (some ⟨b0, 0, none⟩)), .iface 51 (.int .i64 c)] w fun e w' => e = .returned (.bool true) ∧ w' = w := by
  have h8 := @run_callFunc_extern Tryd.prog 28 _ ReflectliteType.typeOf Tryd.func28 (by kernel_rfl) (by kernel_rfl) (by kernel_rfl) (by kernel_rfl)
  have h32 := @run_callFunc_extern Tryd.prog 61 _ (ReflectliteType.method fun t => do Rtype.noPackHeld "Comparable" t; pure (.bool (← typeInfo t).comparable)) Tryd.func61 (by kernel_rfl) (by kernel_rfl) (by kernel_rfl) (by kernel_rfl)
  have tT := e_typeOf51
  have cT := e_comparable51
  have mR := e_methodComparable
  have nE := e_noIs
  have uE := e_hasUnwrap
  have mU := e_methodUnwrap
  have heq := e_eqInt c w
  have hty0 := run_eql_iface_types (P := Tryd.prog) 56 51 (.pointer (some ⟨b0, 0, none⟩)) (.int .i64 c) Tryd.underlying35 (by decide) w
  go_enter Tryd.func26, Tryd.ntmps26
  go_wp2
  refine wp_loop_rounds 2 ?_
  rw [rounds_succ]
  go_wp2
  rw [rounds_succ]
  go_wp2
  go_ret
  exact ⟨rfl, rfl⟩

set_option maxRecDepth 100000 in
set_option maxHeartbeats 4000000 in
theorem e_is2 (b0 b1 : Nat) (c : Int) (w : World) (h0 : w.cell? ⟨b0, 2, none⟩ = some (.iface 56 (.pointer (some ⟨b1, 0, none⟩)))) (h1 : w.cell? ⟨b1, 2, none⟩ = some (.iface 51 (.int .i64 c))) :
    Calls Tryd.prog 26 #[.iface 56 (.pointer (some ⟨b0, 0, none⟩)), .iface 51 (.int .i64 c)] w fun e w' => e = .returned (.bool true) ∧ w' = w := by
  have h8 := @run_callFunc_extern Tryd.prog 28 _ ReflectliteType.typeOf Tryd.func28 (by kernel_rfl) (by kernel_rfl) (by kernel_rfl) (by kernel_rfl)
  have h32 := @run_callFunc_extern Tryd.prog 61 _ (ReflectliteType.method fun t => do Rtype.noPackHeld "Comparable" t; pure (.bool (← typeInfo t).comparable)) Tryd.func61 (by kernel_rfl) (by kernel_rfl) (by kernel_rfl) (by kernel_rfl)
  have tT := e_typeOf51
  have cT := e_comparable51
  have mR := e_methodComparable
  have nE := e_noIs
  have uE := e_hasUnwrap
  have mU := e_methodUnwrap
  have heq := e_eqInt c w
  have hty0 := run_eql_iface_types (P := Tryd.prog) 56 51 (.pointer (some ⟨b0, 0, none⟩)) (.int .i64 c) Tryd.underlying35 (by decide) w
  have hty1 := run_eql_iface_types (P := Tryd.prog) 56 51 (.pointer (some ⟨b1, 0, none⟩)) (.int .i64 c) Tryd.underlying35 (by decide) w
  go_enter Tryd.func26, Tryd.ntmps26
  go_wp2
  refine wp_loop_rounds 3 ?_
  rw [rounds_succ]
  go_wp2
  rw [rounds_succ]
  go_wp2
  rw [rounds_succ]
  go_wp2
  go_ret
  exact ⟨rfl, rfl⟩

set_option maxRecDepth 100000 in
set_option maxHeartbeats 4000000 in
theorem e_is3 (b0 b1 b2 : Nat) (c : Int) (w : World) (h0 : w.cell? ⟨b0, 2, none⟩ = some (.iface 56 (.pointer (some ⟨b1, 0, none⟩)))) (h1 : w.cell? ⟨b1, 2, none⟩ = some (.iface 56 (.pointer (some ⟨b2, 0, none⟩)))) (h2 : w.cell? ⟨b2, 2, none⟩ = some (.iface 51 (.int .i64 c))) :
    Calls Tryd.prog 26 #[.iface 56 (.pointer (some ⟨b0, 0, none⟩)), .iface 51 (.int .i64 c)] w fun e w' => e = .returned (.bool true) ∧ w' = w := by
  have h8 := @run_callFunc_extern Tryd.prog 28 _ ReflectliteType.typeOf Tryd.func28 (by kernel_rfl) (by kernel_rfl) (by kernel_rfl) (by kernel_rfl)
  have h32 := @run_callFunc_extern Tryd.prog 61 _ (ReflectliteType.method fun t => do Rtype.noPackHeld "Comparable" t; pure (.bool (← typeInfo t).comparable)) Tryd.func61 (by kernel_rfl) (by kernel_rfl) (by kernel_rfl) (by kernel_rfl)
  have tT := e_typeOf51
  have cT := e_comparable51
  have mR := e_methodComparable
  have nE := e_noIs
  have uE := e_hasUnwrap
  have mU := e_methodUnwrap
  have heq := e_eqInt c w
  have hty0 := run_eql_iface_types (P := Tryd.prog) 56 51 (.pointer (some ⟨b0, 0, none⟩)) (.int .i64 c) Tryd.underlying35 (by decide) w
  have hty1 := run_eql_iface_types (P := Tryd.prog) 56 51 (.pointer (some ⟨b1, 0, none⟩)) (.int .i64 c) Tryd.underlying35 (by decide) w
  have hty2 := run_eql_iface_types (P := Tryd.prog) 56 51 (.pointer (some ⟨b2, 0, none⟩)) (.int .i64 c) Tryd.underlying35 (by decide) w
  go_enter Tryd.func26, Tryd.ntmps26
  go_wp2
  refine wp_loop_rounds 4 ?_
  rw [rounds_succ]
  go_wp2
  rw [rounds_succ]
  go_wp2
  rw [rounds_succ]
  go_wp2
  rw [rounds_succ]
  go_wp2
  go_ret
  exact ⟨rfl, rfl⟩

set_option maxRecDepth 100000 in
set_option maxHeartbeats 4000000 in
theorem e_is4 (b0 b1 b2 b3 : Nat) (c : Int) (w : World) (h0 : w.cell? ⟨b0, 2, none⟩ = some (.iface 56 (.pointer (some ⟨b1, 0, none⟩)))) (h1 : w.cell? ⟨b1, 2, none⟩ = some (.iface 56 (.pointer (some ⟨b2, 0, none⟩)))) (h2 : w.cell? ⟨b2, 2, none⟩ = some (.iface 56 (.pointer (some ⟨b3, 0, none⟩)))) (h3 : w.cell? ⟨b3, 2, none⟩ = some (.iface 51 (.int .i64 c))) :
    Calls Tryd.prog 26 #[.iface 56 (.pointer (some ⟨b0, 0, none⟩)), .iface 51 (.int .i64 c)] w fun e w' => e = .returned (.bool true) ∧ w' = w := by
  have h8 := @run_callFunc_extern Tryd.prog 28 _ ReflectliteType.typeOf Tryd.func28 (by kernel_rfl) (by kernel_rfl) (by kernel_rfl) (by kernel_rfl)
  have h32 := @run_callFunc_extern Tryd.prog 61 _ (ReflectliteType.method fun t => do Rtype.noPackHeld "Comparable" t; pure (.bool (← typeInfo t).comparable)) Tryd.func61 (by kernel_rfl) (by kernel_rfl) (by kernel_rfl) (by kernel_rfl)
  have tT := e_typeOf51
  have cT := e_comparable51
  have mR := e_methodComparable
  have nE := e_noIs
  have uE := e_hasUnwrap
  have mU := e_methodUnwrap
  have heq := e_eqInt c w
  have hty0 := run_eql_iface_types (P := Tryd.prog) 56 51 (.pointer (some ⟨b0, 0, none⟩)) (.int .i64 c) Tryd.underlying35 (by decide) w
  have hty1 := run_eql_iface_types (P := Tryd.prog) 56 51 (.pointer (some ⟨b1, 0, none⟩)) (.int .i64 c) Tryd.underlying35 (by decide) w
  have hty2 := run_eql_iface_types (P := Tryd.prog) 56 51 (.pointer (some ⟨b2, 0, none⟩)) (.int .i64 c) Tryd.underlying35 (by decide) w
  have hty3 := run_eql_iface_types (P := Tryd.prog) 56 51 (.pointer (some ⟨b3, 0, none⟩)) (.int .i64 c) Tryd.underlying35 (by decide) w
  go_enter Tryd.func26, Tryd.ntmps26
  go_wp2
  refine wp_loop_rounds 5 ?_
  rw [rounds_succ]
  go_wp2
  rw [rounds_succ]
  go_wp2
  rw [rounds_succ]
  go_wp2
  rw [rounds_succ]
  go_wp2
  rw [rounds_succ]
  go_wp2
  go_ret
  exact ⟨rfl, rfl⟩

end Go.Proofs.YtghpbaebbljppaaDoor