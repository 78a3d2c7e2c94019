/- errors.Is and errors.As at the errors of this program: Go's own text walked (after the kit's worked example). -/
import Derived.Test.YtomdihnecddfjaaDoorProg
import Derived.WalkKit
import Derived.LaidEql
import Derived.Stop.Asserts
import Derived.RowKitTokens
set_option linter.unusedVariables false
set_option linter.unusedSimpArgs false
namespace Go.Proofs.YtomdihnecddfjaaDoor
open Go.RowKit Go.Extern.Stop Go.Stop Go.Extern

theorem rlm (z : Sem Value) (f : TypeId → Addr → Nat → Nat → Sem Value) (v : Value) :
    ReflectliteValue.method z f #[v] = (do match ← ReflectliteValue.parts v with | none => z | some (t, a, fl) => f t a fl (fl % 32)) := rfl
theorem rls (v x : Value) : ReflectliteValue.set #[v, x] = (do
    let (some (dst, a, fl), some (src, b, _)) := (← ReflectliteValue.parts v, ← ReflectliteValue.parts x)
      | unsupported (.noEntry "extern/(internal/reflectlite.Value).Set.zeroValue")
    if fl / ReflectliteValue.flagAddr % 2 == 0 then unsupported (.noEntry "extern/(internal/reflectlite.Value).Set.unaddressable")
    let val ← loadVar src b
    if ← Rtype.directlyAssignable dst src then storeVar dst a val
    else if ← Rtype.implements dst src then
      if (← Rtype.kind src) == 20 then
        match val with
        | .nilIface => unsupported (.noEntry "extern/reflectlite: a nil value of one interface type handed on as a value of another")
        | _ => storeVar dst a val
      else storeVar dst a (.iface src val)
    else panicString ("reflectlite.Set: value of type " ++ (← Rtype.spelt src) ++ " is not assignable to type " ++ (← Rtype.spelt dst))
    pure (.tuple #[])) := rfl

theorem e_methodKind (h : Value) (w : World) : (Go.method 232 88 (.agg #[h]) "Kind").run Tryd.prog w = .ok (58, h) w := by kernel_rfl
theorem e_methodElem (h : Value) (w : World) : (Go.method 232 88 (.agg #[h]) "Elem").run Tryd.prog w = .ok (70, .agg #[h]) w := by kernel_rfl
theorem e_methodImplements (h : Value) (w : World) : (Go.method 232 88 (.agg #[h]) "Implements").run Tryd.prog w = .ok (71, .agg #[h]) w := by kernel_rfl
theorem e_methodAssignableTo (h : Value) (w : World) : (Go.method 232 88 (.agg #[h]) "AssignableTo").run Tryd.prog w = .ok (68, .agg #[h]) w := by kernel_rfl
theorem e_methodComparable (h : Value) (w : World) : (Go.method 232 88 (.agg #[h]) "Comparable").run Tryd.prog w = .ok (69, .agg #[h]) w := by kernel_rfl
theorem e_valueOf63 (t : Addr) (w : World) : (ReflectliteValue.unpack (.iface 63 (.pointer (some t)))).run Tryd.prog w
    = .ok (.agg #[.pointer (some ⟨1, 63, none⟩), .pointer (some ⟨w.heap.size, 0, none⟩), .int .u64 150]) (w.alloc (.cells #[.pointer (some t)] 63)) := by kernel_rfl
theorem e_type63 (a : Addr) (w : World) : (ReflectliteValue.methodAny (ReflectliteValue.valueError "reflectlite.Value.Type" 0) (fun t _ _ _ => ReflectliteType.toType t) #[.agg #[.pointer (some ⟨1, 63, none⟩), .pointer (some a), .int .u64 150]]).run Tryd.prog w
    = .ok (.iface 88 (.agg #[.pointer (some ⟨1, 63, none⟩)])) w := by kernel_rfl
theorem e_kind63 (w : World) : ((ReflectliteType.abiMethod fun t => (fun a : Nat => Value.int IntKind.u8 (a : Int)) <$> Rtype.kind t) #[.pointer (some ⟨1, 63, none⟩)]).run Tryd.prog w = .ok (.int .u8 22) w := by kernel_rfl
theorem e_kind61 (w : World) : ((ReflectliteType.abiMethod fun t => (fun a : Nat => Value.int IntKind.u8 (a : Int)) <$> Rtype.kind t) #[.pointer (some ⟨1, 61, none⟩)]).run Tryd.prog w = .ok (.int .u8 22) w := by kernel_rfl
theorem e_parts63 (a : Addr) (w : World) : (ReflectliteValue.parts (.agg #[.pointer (some ⟨1, 63, none⟩), .pointer (some a), .int .u64 150])).run Tryd.prog w = .ok (some (63, a, 150)) w := by kernel_rfl
theorem e_isNil63 (a p : Addr) (W : World) (ha : W.cell? a = some (.pointer (some p))) :
    (ReflectliteValue.method (ReflectliteValue.valueError "reflectlite.Value.IsNil" 0) ReflectliteValue.isNil #[.agg #[.pointer (some ⟨1, 63, none⟩), .pointer (some a), .int .u64 150]]).run Tryd.prog W = .ok (.bool false) W := by
  rw [rlm]
  simp only [Sem.run_bind, e_parts63, Result.andThen]
  simp [ReflectliteValue.isNil, loadVar, isAgg, underlying, Tryd.underlying63, ha, Result.andThen]
theorem e_elem63 (w : World) : (ReflectliteType.method ReflectliteType.elem #[.agg #[.pointer (some ⟨1, 63, none⟩)]]).run Tryd.prog w = .ok (.iface 88 (.agg #[.pointer (some ⟨1, 61, none⟩)])) w := by kernel_rfl
theorem e_implements61 (w : World) : (ReflectliteType.relation "Implements" ReflectliteType.implements_ #[.agg #[.pointer (some ⟨1, 61, none⟩)], .iface 88 (.agg #[.pointer (some ⟨1, 32, none⟩)])]).run Tryd.prog w = .ok (.bool true) w := by kernel_rfl
theorem e_typeOf61 (v : Value) (w : World) : (ReflectliteType.typeOf #[.iface 61 v]).run Tryd.prog w = .ok (.iface 88 (.agg #[.pointer (some ⟨1, 61, none⟩)])) w := by kernel_rfl
theorem e_assignable61 (w : World) : (ReflectliteType.relation "AssignableTo" ReflectliteType.assignableTo #[.agg #[.pointer (some ⟨1, 61, none⟩)], .iface 88 (.agg #[.pointer (some ⟨1, 61, none⟩)])]).run Tryd.prog w = .ok (.bool true) w := by kernel_rfl
theorem e_elemOf63 (w : World) : (Rtype.elem? 63).run Tryd.prog w = .ok (some 61) w := by kernel_rfl
theorem e_mk61 (p : Addr) (w : World) : (ReflectliteValue.mk 61 p ReflectliteValue.flagAddr).run Tryd.prog w = .ok (.agg #[.pointer (some ⟨1, 61, none⟩), .pointer (some p), .int .u64 406]) w := by kernel_rfl
theorem e_elemV63 (a p : Addr) (W : World) (ha : W.cell? a = some (.pointer (some p))) :
    (ReflectliteValue.method (ReflectliteValue.valueError "reflectlite.Value.Elem" 0) ReflectliteValue.elem #[.agg #[.pointer (some ⟨1, 63, none⟩), .pointer (some a), .int .u64 150]]).run Tryd.prog W
      = .ok (.agg #[.pointer (some ⟨1, 61, none⟩), .pointer (some p), .int .u64 406]) W := by
  rw [rlm]
  simp only [Sem.run_bind, e_parts63, Result.andThen]
  simp [ReflectliteValue.elem, loadVar, isAgg, underlying, Tryd.underlying63, ha, Result.andThen, e_elemOf63, e_mk61]
theorem e_parts61a (a : Addr) (w : World) : (ReflectliteValue.parts (.agg #[.pointer (some ⟨1, 61, none⟩), .pointer (some a), .int .u64 406])).run Tryd.prog w = .ok (some (61, a, 406)) w := by kernel_rfl
theorem e_parts61 (a : Addr) (w : World) : (ReflectliteValue.parts (.agg #[.pointer (some ⟨1, 61, none⟩), .pointer (some a), .int .u64 150])).run Tryd.prog w = .ok (some (61, a, 150)) w := by kernel_rfl
theorem e_direct61 (w : World) : (Rtype.directlyAssignable 61 61).run Tryd.prog w = .ok true w := by kernel_rfl
theorem e_size61 (w : World) : (sizeOf 61).run Tryd.prog w = .ok 1 w := by kernel_rfl

theorem e_valueOf68 (t : Addr) (w : World) : (ReflectliteValue.unpack (.iface 68 (.pointer (some t)))).run Tryd.prog w
    = .ok (.agg #[.pointer (some ⟨1, 68, none⟩), .pointer (some ⟨w.heap.size, 0, none⟩), .int .u64 150]) (w.alloc (.cells #[.pointer (some t)] 68)) := by kernel_rfl
theorem e_type68 (a : Addr) (w : World) : (ReflectliteValue.methodAny (ReflectliteValue.valueError "reflectlite.Value.Type" 0) (fun t _ _ _ => ReflectliteType.toType t) #[.agg #[.pointer (some ⟨1, 68, none⟩), .pointer (some a), .int .u64 150]]).run Tryd.prog w
    = .ok (.iface 88 (.agg #[.pointer (some ⟨1, 68, none⟩)])) w := by kernel_rfl
theorem e_kind68 (w : World) : ((ReflectliteType.abiMethod fun t => (fun a : Nat => Value.int IntKind.u8 (a : Int)) <$> Rtype.kind t) #[.pointer (some ⟨1, 68, none⟩)]).run Tryd.prog w = .ok (.int .u8 22) w := by kernel_rfl
theorem e_kind60 (w : World) : ((ReflectliteType.abiMethod fun t => (fun a : Nat => Value.int IntKind.u8 (a : Int)) <$> Rtype.kind t) #[.pointer (some ⟨1, 60, none⟩)]).run Tryd.prog w = .ok (.int .u8 2) w := by kernel_rfl
theorem e_parts68 (a : Addr) (w : World) : (ReflectliteValue.parts (.agg #[.pointer (some ⟨1, 68, none⟩), .pointer (some a), .int .u64 150])).run Tryd.prog w = .ok (some (68, a, 150)) w := by kernel_rfl
theorem e_isNil68 (a p : Addr) (W : World) (ha : W.cell? a = some (.pointer (some p))) :
    (ReflectliteValue.method (ReflectliteValue.valueError "reflectlite.Value.IsNil" 0) ReflectliteValue.isNil #[.agg #[.pointer (some ⟨1, 68, none⟩), .pointer (some a), .int .u64 150]]).run Tryd.prog W = .ok (.bool false) W := by
  rw [rlm]
  simp only [Sem.run_bind, e_parts68, Result.andThen]
  simp [ReflectliteValue.isNil, loadVar, isAgg, underlying, Tryd.underlying68, ha, Result.andThen]
theorem e_elem68 (w : World) : (ReflectliteType.method ReflectliteType.elem #[.agg #[.pointer (some ⟨1, 68, none⟩)]]).run Tryd.prog w = .ok (.iface 88 (.agg #[.pointer (some ⟨1, 60, none⟩)])) w := by kernel_rfl
theorem e_implements60 (w : World) : (ReflectliteType.relation "Implements" ReflectliteType.implements_ #[.agg #[.pointer (some ⟨1, 60, none⟩)], .iface 88 (.agg #[.pointer (some ⟨1, 32, none⟩)])]).run Tryd.prog w = .ok (.bool true) w := by kernel_rfl
theorem e_typeOf60 (v : Value) (w : World) : (ReflectliteType.typeOf #[.iface 60 v]).run Tryd.prog w = .ok (.iface 88 (.agg #[.pointer (some ⟨1, 60, none⟩)])) w := by kernel_rfl
theorem e_assignable60 (w : World) : (ReflectliteType.relation "AssignableTo" ReflectliteType.assignableTo #[.agg #[.pointer (some ⟨1, 60, none⟩)], .iface 88 (.agg #[.pointer (some ⟨1, 60, none⟩)])]).run Tryd.prog w = .ok (.bool true) w := by kernel_rfl
theorem e_elemOf68 (w : World) : (Rtype.elem? 68).run Tryd.prog w = .ok (some 60) w := by kernel_rfl
theorem e_mk60 (p : Addr) (w : World) : (ReflectliteValue.mk 60 p ReflectliteValue.flagAddr).run Tryd.prog w = .ok (.agg #[.pointer (some ⟨1, 60, none⟩), .pointer (some p), .int .u64 386]) w := by kernel_rfl
theorem e_elemV68 (a p : Addr) (W : World) (ha : W.cell? a = some (.pointer (some p))) :
    (ReflectliteValue.method (ReflectliteValue.valueError "reflectlite.Value.Elem" 0) ReflectliteValue.elem #[.agg #[.pointer (some ⟨1, 68, none⟩), .pointer (some a), .int .u64 150]]).run Tryd.prog W
      = .ok (.agg #[.pointer (some ⟨1, 60, none⟩), .pointer (some p), .int .u64 386]) W := by
  rw [rlm]
  simp only [Sem.run_bind, e_parts68, Result.andThen]
  simp [ReflectliteValue.elem, loadVar, isAgg, underlying, Tryd.underlying68, ha, Result.andThen, e_elemOf68, e_mk60]
theorem e_parts60a (a : Addr) (w : World) : (ReflectliteValue.parts (.agg #[.pointer (some ⟨1, 60, none⟩), .pointer (some a), .int .u64 386])).run Tryd.prog w = .ok (some (60, a, 386)) w := by kernel_rfl
theorem e_parts60 (a : Addr) (w : World) : (ReflectliteValue.parts (.agg #[.pointer (some ⟨1, 60, none⟩), .pointer (some a), .int .u64 130])).run Tryd.prog w = .ok (some (60, a, 130)) w := by kernel_rfl
theorem e_direct60 (w : World) : (Rtype.directlyAssignable 60 60).run Tryd.prog w = .ok true w := by kernel_rfl
theorem e_size60 (w : World) : (sizeOf 60).run Tryd.prog w = .ok 1 w := by kernel_rfl

theorem e_valueOf61 (e : Addr) (w : World) : (ReflectliteValue.unpack (.iface 61 (.pointer (some e)))).run Tryd.prog w
    = .ok (.agg #[.pointer (some ⟨1, 61, none⟩), .pointer (some ⟨w.heap.size, 0, none⟩), .int .u64 150]) (w.alloc (.cells #[.pointer (some e)] 61)) := by kernel_rfl
theorem e_set61 (ta b : Addr) (e : Addr) (old : Value) (W : World) (hb : W.cell? b = some (.pointer (some e))) (ht : W.cell? ta = some old) (hf : W.frozen? ta = false) :
    (ReflectliteValue.set #[.agg #[.pointer (some ⟨1, 61, none⟩), .pointer (some ta), .int .u64 406], .agg #[.pointer (some ⟨1, 61, none⟩), .pointer (some b), .int .u64 150]]).run Tryd.prog W
      = .ok (.tuple #[]) (W.setCell ta (.pointer (some e))) := by
  rw [rls]
  simp only [Sem.run_bind, e_parts61a, e_parts61, Result.andThen]
  simp [ReflectliteValue.flagAddr, loadVar, isAgg, underlying, Tryd.underlying61, hb, Result.andThen, e_direct61, storeVar, Value.cells, storeCells, Addr.add]
  rw [run_store Tryd.prog W ta _ _ (by rfl)]
  simp [ht, hf]

theorem e_valueOf60 (e : Int) (w : World) : (ReflectliteValue.unpack (.iface 60 (.int .i64 e))).run Tryd.prog w
    = .ok (.agg #[.pointer (some ⟨1, 60, none⟩), .pointer (some ⟨w.heap.size, 0, none⟩), .int .u64 130]) (w.alloc (.cells #[.int .i64 e] 60)) := by kernel_rfl
theorem e_set60 (ta b : Addr) (e : Int) (old : Value) (W : World) (hb : W.cell? b = some (.int .i64 e)) (ht : W.cell? ta = some old) (hf : W.frozen? ta = false) :
    (ReflectliteValue.set #[.agg #[.pointer (some ⟨1, 60, none⟩), .pointer (some ta), .int .u64 386], .agg #[.pointer (some ⟨1, 60, none⟩), .pointer (some b), .int .u64 130]]).run Tryd.prog W
      = .ok (.tuple #[]) (W.setCell ta (.int .i64 e)) := by
  rw [rls]
  simp only [Sem.run_bind, e_parts60a, e_parts60, Result.andThen]
  simp [ReflectliteValue.flagAddr, loadVar, isAgg, underlying, Tryd.underlying60, hb, Result.andThen, e_direct60, storeVar, Value.cells, storeCells, Addr.add]
  rw [run_store Tryd.prog W ta _ _ (by rfl)]
  simp [ht, hf]

theorem e_assignMiss (w : World) : (ReflectliteType.relation "AssignableTo" ReflectliteType.assignableTo #[.agg #[.pointer (some ⟨1, 60, none⟩)], .iface 88 (.agg #[.pointer (some ⟨1, 61, none⟩)])]).run Tryd.prog w = .ok (.bool false) w := by kernel_rfl
theorem e_comparable60 (w : World) : ((ReflectliteType.method fun t => do Rtype.noPackHeld "Comparable" t; (fun a => Value.bool a.comparable) <$> typeInfo t) #[.agg #[.pointer (some ⟨1, 60, none⟩)]]).run Tryd.prog w = .ok (.bool true) w := by kernel_rfl
theorem e_methodUnwrap (v : Value) (w : World) : (Go.method 232 61 v "Unwrap").run Tryd.prog w = .ok (63, v) w := by kernel_rfl
theorem e_noIs (v : Value) (xT : TypeId) (w : World) : (Instr.typeAssert (.iface 61 v) xT 90 true).run Tryd.prog w = .ok (.tuple #[.nilIface, .bool false]) w := run_typeAssert_lacksB Tryd.underlying90 (by kernel_rfl) (by kernel_rfl) v xT w
theorem e_hasUnwrap (v : Value) (xT : TypeId) (w : World) : (Instr.typeAssert (.iface 61 v) xT 93 true).run Tryd.prog w = .ok (.tuple #[.iface 61 v, .bool true]) w := run_typeAssert_hasB Tryd.underlying93 (by kernel_rfl) v xT w
theorem e_noAs (v : Value) (xT : TypeId) (w : World) : (Instr.typeAssert (.iface 60 v) xT 100 true).run Tryd.prog w = .ok (.tuple #[.nilIface, .bool false]) w := run_typeAssert_lacksB Tryd.underlying100 (by kernel_rfl) (by kernel_rfl) v xT w
theorem e_noUnwrap (v : Value) (xT : TypeId) (w : World) : (Instr.typeAssert (.iface 60 v) xT 93 true).run Tryd.prog w = .ok (.tuple #[.nilIface, .bool false]) w := run_typeAssert_lacksB Tryd.underlying93 (by kernel_rfl) (by kernel_rfl) v xT w
theorem e_noUnwraps (v : Value) (xT : TypeId) (w : World) : (Instr.typeAssert (.iface 60 v) xT 95 true).run Tryd.prog w = .ok (.tuple #[.nilIface, .bool false]) w := run_typeAssert_lacksB Tryd.underlying95 (by kernel_rfl) (by kernel_rfl) v xT w
theorem e_comp : (Tryd.prog.info? 60).map (·.comparable) = some true := by kernel_rfl
theorem e_eqInt (c : Int) (w : World) : (binOp .eql 32 (.iface 60 (.int .i64 c)) (.iface 60 (.int .i64 c))).run Tryd.prog w = .ok (.bool true) w := by
  obtain ⟨i, hi, hcmp⟩ := Option.map_eq_some_iff.1 e_comp
  have h : ∀ d : Nat, (Op.equalIn (d + 2) 32 (.iface 60 (.int .i64 c)) (.iface 60 (.int .i64 c))).run Tryd.prog w = .ok true w := fun d => by
    simp [Op.equalIn, run_underlying Tryd.underlying32, run_underlying Tryd.underlying60, typeInfo, hi, hcmp]
  simp only [binOp]
  simp [Op.equal, Op.maxDepth, h 9998]

set_option maxRecDepth 100000 in
set_option maxHeartbeats 4000000 in
theorem e_as_fault (e : Addr) (t : Addr) (old : Value) (w : World) (hg : w.cell? ⟨0, 0, none⟩ = some (.iface 88 (.agg #[.pointer (some ⟨1, 32, none⟩)]))) (ht0 : w.cell? t = some old) (hf0 : w.frozen? t = false) :
    Calls Tryd.prog 29 #[.iface 61 (.pointer (some e)), .iface 63 (.pointer (some t))] w fun ev w' => ev = .returned (.bool true) ∧ w' = (((((w.alloc (.cells #[.pointer (some t)] 63)).alloc (.cells #[.pointer (some ⟨1, 63, none⟩), .pointer (some ⟨w.heap.size, 0, none⟩), .int .u64 150] 80)).alloc (.cells #[.pointer (some ⟨1, 63, none⟩), .pointer (some ⟨w.heap.size, 0, none⟩), .int .u64 150] 80))).alloc (.cells #[.pointer (some e)] 61)).setCell t (.pointer (some e)) := by
  have h6 := @run_callFunc_extern Tryd.prog 38 _ (fun args => ReflectliteValue.unpack (args.getD 0 (.tuple #[]))) Tryd.func38 (by kernel_rfl) (by kernel_rfl) (by kernel_rfl) (by kernel_rfl)
  have h7 := @run_callFunc_extern Tryd.prog 39 _ (ReflectliteValue.methodAny (ReflectliteValue.valueError "reflectlite.Value.Type" 0) (fun t _ _ _ => ReflectliteType.toType t)) Tryd.func39 (by kernel_rfl) (by kernel_rfl) (by kernel_rfl) (by kernel_rfl)
  have h8 := @run_callFunc_extern Tryd.prog 40 _ (ReflectliteValue.method (ReflectliteValue.valueError "reflectlite.Value.IsNil" 0) ReflectliteValue.isNil) Tryd.func40 (by kernel_rfl) (by kernel_rfl) (by kernel_rfl) (by kernel_rfl)
  have h27 := @run_callFunc_extern Tryd.prog 58 _ (ReflectliteType.abiMethod fun t => do pure (.int .u8 (← Rtype.kind t))) Tryd.func58 (by kernel_rfl) (by kernel_rfl) (by kernel_rfl) (by kernel_rfl)
  have h37 := @run_callFunc_extern Tryd.prog 70 _ (ReflectliteType.method ReflectliteType.elem) Tryd.func70 (by kernel_rfl) (by kernel_rfl) (by kernel_rfl) (by kernel_rfl)
  have h38 := @run_callFunc_extern Tryd.prog 71 _ (ReflectliteType.relation "Implements" ReflectliteType.implements_) Tryd.func71 (by kernel_rfl) (by kernel_rfl) (by kernel_rfl) (by kernel_rfl)
  have h10 := @run_callFunc_extern Tryd.prog 36 _ ReflectliteType.typeOf Tryd.func36 (by kernel_rfl) (by kernel_rfl) (by kernel_rfl) (by kernel_rfl)
  have h35 := @run_callFunc_extern Tryd.prog 68 _ (ReflectliteType.relation "AssignableTo" ReflectliteType.assignableTo) Tryd.func68 (by kernel_rfl) (by kernel_rfl) (by kernel_rfl) (by kernel_rfl)
  have h11 := @run_callFunc_extern Tryd.prog 42 _ (ReflectliteValue.method (ReflectliteValue.valueError "reflectlite.Value.Elem" 0) ReflectliteValue.elem) Tryd.func42 (by kernel_rfl) (by kernel_rfl) (by kernel_rfl) (by kernel_rfl)
  have h12 := @run_callFunc_extern Tryd.prog 43 _ ReflectliteValue.set Tryd.func43 (by kernel_rfl) (by kernel_rfl) (by kernel_rfl) (by kernel_rfl)
  have a25 := e_assignable61
  have v25 := e_valueOf61
  have tO := e_typeOf61
  have mA := e_methodAssignableTo
  have f6 := e_valueOf63
  have f7 := e_type63
  have mK := e_methodKind
  have mE := e_methodElem
  have mI := e_methodImplements
  have k27 := e_kind63
  have k25 := e_kind61
  have e27 := e_elem63
  have i25 := e_implements61
  have n8 := e_isNil63 ⟨w.heap.size, 0, none⟩ t ((w.alloc (.cells #[.pointer (some t)] 63)).alloc (.cells #[.pointer (some ⟨1, 63, none⟩), .pointer (some ⟨w.heap.size, 0, none⟩), .int .u64 150] 80)) (by simp)
  have hlt : 0 < w.heap.size := by
    rcases Nat.lt_or_ge 0 w.heap.size with h | h
    · exact h
    · simp [World.cell?, Array.getElem?_eq_none h] at hg
  have hg2 : ((w.alloc (.cells #[.pointer (some t)] 63)).alloc (.cells #[.pointer (some ⟨1, 63, none⟩), .pointer (some ⟨w.heap.size, 0, none⟩), .int .u64 150] 80)).cell? ⟨0, 0, none⟩ = some (.iface 88 (.agg #[.pointer (some ⟨1, 32, none⟩)])) := by
    rw [World.cell?_alloc_lt _ _ ⟨0, 0, none⟩ (by first | (simp; done) | (simp; omega)), World.cell?_alloc_lt _ _ ⟨0, 0, none⟩ hlt]; exact hg
  have htl : t.block < w.heap.size := by
    rcases Nat.lt_or_ge t.block w.heap.size with h | h
    · exact h
    · simp [World.cell?, Array.getElem?_eq_none h] at ht0
  have el := e_elemV63 ⟨w.heap.size, 0, none⟩ t (((w.alloc (.cells #[.pointer (some t)] 63)).alloc (.cells #[.pointer (some ⟨1, 63, none⟩), .pointer (some ⟨w.heap.size, 0, none⟩), .int .u64 150] 80)).alloc (.cells #[.pointer (some ⟨1, 63, none⟩), .pointer (some ⟨w.heap.size, 0, none⟩), .int .u64 150] 80)) (by rw [World.cell?_alloc_lt _ _ ⟨w.heap.size, 0, none⟩ (by simp; omega)]; simp)
  have st := e_set61 t ⟨w.heap.size + 1 + 1 + 1, 0, none⟩ e old ((((w.alloc (.cells #[.pointer (some t)] 63)).alloc (.cells #[.pointer (some ⟨1, 63, none⟩), .pointer (some ⟨w.heap.size, 0, none⟩), .int .u64 150] 80)).alloc (.cells #[.pointer (some ⟨1, 63, none⟩), .pointer (some ⟨w.heap.size, 0, none⟩), .int .u64 150] 80)).alloc (.cells #[.pointer (some e)] 61))
    (by rw [World.cell?_alloc_at _ _ _ _ (by simp)]; rfl)
    (by rw [World.cell?_alloc_lt _ _ t (by simp; omega), World.cell?_alloc_lt _ _ t (by simp; omega), World.cell?_alloc_lt _ _ t (by simp; omega), World.cell?_alloc_lt _ _ t htl]; exact ht0)
    (by rw [World.frozen?_alloc_old _ _ t (by simp; omega), World.frozen?_alloc_old _ _ t (by simp; omega), World.frozen?_alloc_old _ _ t (by simp; omega), World.frozen?_alloc_old _ _ t (Nat.ne_of_lt htl)]; exact hf0)
  go_enter Tryd.func29, Tryd.ntmps29
  go_wp2
  refine wp_loop_rounds 1 ?_
  rw [rounds_succ]
  go_wp2
  go_ret
  exact ⟨rfl, rfl⟩

set_option maxRecDepth 100000 in
set_option maxHeartbeats 4000000 in
theorem e_as_errno (e : Int) (t : Addr) (old : Value) (w : World) (hg : w.cell? ⟨0, 0, none⟩ = some (.iface 88 (.agg #[.pointer (some ⟨1, 32, none⟩)]))) (ht0 : w.cell? t = some old) (hf0 : w.frozen? t = false) :
    Calls Tryd.prog 29 #[.iface 60 (.int .i64 e), .iface 68 (.pointer (some t))] w fun ev w' => ev = .returned (.bool true) ∧ w' = (((((w.alloc (.cells #[.pointer (some t)] 68)).alloc (.cells #[.pointer (some ⟨1, 68, none⟩), .pointer (some ⟨w.heap.size, 0, none⟩), .int .u64 150] 80)).alloc (.cells #[.pointer (some ⟨1, 68, none⟩), .pointer (some ⟨w.heap.size, 0, none⟩), .int .u64 150] 80))).alloc (.cells #[.int .i64 e] 60)).setCell t (.int .i64 e) := by
  have h6 := @run_callFunc_extern Tryd.prog 38 _ (fun args => ReflectliteValue.unpack (args.getD 0 (.tuple #[]))) Tryd.func38 (by kernel_rfl) (by kernel_rfl) (by kernel_rfl) (by kernel_rfl)
  have h7 := @run_callFunc_extern Tryd.prog 39 _ (ReflectliteValue.methodAny (ReflectliteValue.valueError "reflectlite.Value.Type" 0) (fun t _ _ _ => ReflectliteType.toType t)) Tryd.func39 (by kernel_rfl) (by kernel_rfl) (by kernel_rfl) (by kernel_rfl)
  have h8 := @run_callFunc_extern Tryd.prog 40 _ (ReflectliteValue.method (ReflectliteValue.valueError "reflectlite.Value.IsNil" 0) ReflectliteValue.isNil) Tryd.func40 (by kernel_rfl) (by kernel_rfl) (by kernel_rfl) (by kernel_rfl)
  have h27 := @run_callFunc_extern Tryd.prog 58 _ (ReflectliteType.abiMethod fun t => do pure (.int .u8 (← Rtype.kind t))) Tryd.func58 (by kernel_rfl) (by kernel_rfl) (by kernel_rfl) (by kernel_rfl)
  have h37 := @run_callFunc_extern Tryd.prog 70 _ (ReflectliteType.method ReflectliteType.elem) Tryd.func70 (by kernel_rfl) (by kernel_rfl) (by kernel_rfl) (by kernel_rfl)
  have h38 := @run_callFunc_extern Tryd.prog 71 _ (ReflectliteType.relation "Implements" ReflectliteType.implements_) Tryd.func71 (by kernel_rfl) (by kernel_rfl) (by kernel_rfl) (by kernel_rfl)
  have h10 := @run_callFunc_extern Tryd.prog 36 _ ReflectliteType.typeOf Tryd.func36 (by kernel_rfl) (by kernel_rfl) (by kernel_rfl) (by kernel_rfl)
  have h35 := @run_callFunc_extern Tryd.prog 68 _ (ReflectliteType.relation "AssignableTo" ReflectliteType.assignableTo) Tryd.func68 (by kernel_rfl) (by kernel_rfl) (by kernel_rfl) (by kernel_rfl)
  have h11 := @run_callFunc_extern Tryd.prog 42 _ (ReflectliteValue.method (ReflectliteValue.valueError "reflectlite.Value.Elem" 0) ReflectliteValue.elem) Tryd.func42 (by kernel_rfl) (by kernel_rfl) (by kernel_rfl) (by kernel_rfl)
  have h12 := @run_callFunc_extern Tryd.prog 43 _ ReflectliteValue.set Tryd.func43 (by kernel_rfl) (by kernel_rfl) (by kernel_rfl) (by kernel_rfl)
  have a25 := e_assignable60
  have v25 := e_valueOf60
  have tO := e_typeOf60
  have mA := e_methodAssignableTo
  have f6 := e_valueOf68
  have f7 := e_type68
  have mK := e_methodKind
  have mE := e_methodElem
  have mI := e_methodImplements
  have k27 := e_kind68
  have k25 := e_kind60
  have e27 := e_elem68
  have i25 := e_implements60
  have n8 := e_isNil68 ⟨w.heap.size, 0, none⟩ t ((w.alloc (.cells #[.pointer (some t)] 68)).alloc (.cells #[.pointer (some ⟨1, 68, none⟩), .pointer (some ⟨w.heap.size, 0, none⟩), .int .u64 150] 80)) (by simp)
  have hlt : 0 < w.heap.size := by
    rcases Nat.lt_or_ge 0 w.heap.size with h | h
    · exact h
    · simp [World.cell?, Array.getElem?_eq_none h] at hg
  have hg2 : ((w.alloc (.cells #[.pointer (some t)] 68)).alloc (.cells #[.pointer (some ⟨1, 68, none⟩), .pointer (some ⟨w.heap.size, 0, none⟩), .int .u64 150] 80)).cell? ⟨0, 0, none⟩ = some (.iface 88 (.agg #[.pointer (some ⟨1, 32, none⟩)])) := by
    rw [World.cell?_alloc_lt _ _ ⟨0, 0, none⟩ (by first | (simp; done) | (simp; omega)), World.cell?_alloc_lt _ _ ⟨0, 0, none⟩ hlt]; exact hg
  have htl : t.block < w.heap.size := by
    rcases Nat.lt_or_ge t.block w.heap.size with h | h
    · exact h
    · simp [World.cell?, Array.getElem?_eq_none h] at ht0
  have el := e_elemV68 ⟨w.heap.size, 0, none⟩ t (((w.alloc (.cells #[.pointer (some t)] 68)).alloc (.cells #[.pointer (some ⟨1, 68, none⟩), .pointer (some ⟨w.heap.size, 0, none⟩), .int .u64 150] 80)).alloc (.cells #[.pointer (some ⟨1, 68, none⟩), .pointer (some ⟨w.heap.size, 0, none⟩), .int .u64 150] 80)) (by rw [World.cell?_alloc_lt _ _ ⟨w.heap.size, 0, none⟩ (by simp; omega)]; simp)
  have st := e_set60 t ⟨w.heap.size + 1 + 1 + 1, 0, none⟩ e old ((((w.alloc (.cells #[.pointer (some t)] 68)).alloc (.cells #[.pointer (some ⟨1, 68, none⟩), .pointer (some ⟨w.heap.size, 0, none⟩), .int .u64 150] 80)).alloc (.cells #[.pointer (some ⟨1, 68, none⟩), .pointer (some ⟨w.heap.size, 0, none⟩), .int .u64 150] 80)).alloc (.cells #[.int .i64 e] 60))
    (by rw [World.cell?_alloc_at _ _ _ _ (by simp)]; rfl)
    (by rw [World.cell?_alloc_lt _ _ t (by simp; omega), World.cell?_alloc_lt _ _ t (by simp; omega), World.cell?_alloc_lt _ _ t (by simp; omega), World.cell?_alloc_lt _ _ t htl]; exact ht0)
    (by rw [World.frozen?_alloc_old _ _ t (by simp; omega), World.frozen?_alloc_old _ _ t (by simp; omega), World.frozen?_alloc_old _ _ t (by simp; omega), World.frozen?_alloc_old _ _ t (Nat.ne_of_lt htl)]; exact hf0)
  go_enter Tryd.func29, Tryd.ntmps29
  go_wp2
  refine wp_loop_rounds 1 ?_
  rw [rounds_succ]
  go_wp2
  go_ret
  exact ⟨rfl, rfl⟩

set_option maxRecDepth 100000 in
set_option maxHeartbeats 4000000 in
theorem e_as_miss (e : Int) (t : Addr) (old : Value) (w : World) (hg : w.cell? ⟨0, 0, none⟩ = some (.iface 88 (.agg #[.pointer (some ⟨1, 32, none⟩)]))) (ht0 : w.cell? t = some old)  :
    Calls Tryd.prog 29 #[.iface 60 (.int .i64 e), .iface 63 (.pointer (some t))] w fun ev w' => ev = .returned (.bool false) ∧ w' = (((w.alloc (.cells #[.pointer (some t)] 63)).alloc (.cells #[.pointer (some ⟨1, 63, none⟩), .pointer (some ⟨w.heap.size, 0, none⟩), .int .u64 150] 80)).alloc (.cells #[.pointer (some ⟨1, 63, none⟩), .pointer (some ⟨w.heap.size, 0, none⟩), .int .u64 150] 80)) := by
  have h6 := @run_callFunc_extern Tryd.prog 38 _ (fun args => ReflectliteValue.unpack (args.getD 0 (.tuple #[]))) Tryd.func38 (by kernel_rfl) (by kernel_rfl) (by kernel_rfl) (by kernel_rfl)
  have h7 := @run_callFunc_extern Tryd.prog 39 _ (ReflectliteValue.methodAny (ReflectliteValue.valueError "reflectlite.Value.Type" 0) (fun t _ _ _ => ReflectliteType.toType t)) Tryd.func39 (by kernel_rfl) (by kernel_rfl) (by kernel_rfl) (by kernel_rfl)
  have h8 := @run_callFunc_extern Tryd.prog 40 _ (ReflectliteValue.method (ReflectliteValue.valueError "reflectlite.Value.IsNil" 0) ReflectliteValue.isNil) Tryd.func40 (by kernel_rfl) (by kernel_rfl) (by kernel_rfl) (by kernel_rfl)
  have h27 := @run_callFunc_extern Tryd.prog 58 _ (ReflectliteType.abiMethod fun t => do pure (.int .u8 (← Rtype.kind t))) Tryd.func58 (by kernel_rfl) (by kernel_rfl) (by kernel_rfl) (by kernel_rfl)
  have h37 := @run_callFunc_extern Tryd.prog 70 _ (ReflectliteType.method ReflectliteType.elem) Tryd.func70 (by kernel_rfl) (by kernel_rfl) (by kernel_rfl) (by kernel_rfl)
  have h38 := @run_callFunc_extern Tryd.prog 71 _ (ReflectliteType.relation "Implements" ReflectliteType.implements_) Tryd.func71 (by kernel_rfl) (by kernel_rfl) (by kernel_rfl) (by kernel_rfl)
  have h10 := @run_callFunc_extern Tryd.prog 36 _ ReflectliteType.typeOf Tryd.func36 (by kernel_rfl) (by kernel_rfl) (by kernel_rfl) (by kernel_rfl)
  have h35 := @run_callFunc_extern Tryd.prog 68 _ (ReflectliteType.relation "AssignableTo" ReflectliteType.assignableTo) Tryd.func68 (by kernel_rfl) (by kernel_rfl) (by kernel_rfl) (by kernel_rfl)
  have a25 := e_assignMiss
  have nA := e_noAs
  have nU := e_noUnwrap
  have nV := e_noUnwraps
  have tO := e_typeOf60
  have mA := e_methodAssignableTo
  have f6 := e_valueOf63
  have f7 := e_type63
  have mK := e_methodKind
  have mE := e_methodElem
  have mI := e_methodImplements
  have k27 := e_kind63
  have k25 := e_kind61
  have e27 := e_elem63
  have i25 := e_implements61
  have n8 := e_isNil63 ⟨w.heap.size, 0, none⟩ t ((w.alloc (.cells #[.pointer (some t)] 63)).alloc (.cells #[.pointer (some ⟨1, 63, none⟩), .pointer (some ⟨w.heap.size, 0, none⟩), .int .u64 150] 80)) (by simp)
  have hlt : 0 < w.heap.size := by
    rcases Nat.lt_or_ge 0 w.heap.size with h | h
    · exact h
    · simp [World.cell?, Array.getElem?_eq_none h] at hg
  have hg2 : ((w.alloc (.cells #[.pointer (some t)] 63)).alloc (.cells #[.pointer (some ⟨1, 63, none⟩), .pointer (some ⟨w.heap.size, 0, none⟩), .int .u64 150] 80)).cell? ⟨0, 0, none⟩ = some (.iface 88 (.agg #[.pointer (some ⟨1, 32, none⟩)])) := by
    rw [World.cell?_alloc_lt _ _ ⟨0, 0, none⟩ (by first | (simp; done) | (simp; omega)), World.cell?_alloc_lt _ _ ⟨0, 0, none⟩ hlt]; exact hg
  go_enter Tryd.func29, Tryd.ntmps29
  go_wp2
  refine wp_loop_rounds 1 ?_
  rw [rounds_succ]
  go_wp2
  go_ret
  exact ⟨rfl, rfl⟩

set_option maxRecDepth 100000 in
set_option maxHeartbeats 4000000 in
theorem e_is1 (b0 : Nat) (c : Int) (w : World) (h0 : w.cell? ⟨b0, 2, none⟩ = some (.iface 60 (.int .i64 c))) :
    Calls Tryd.prog 28 #[.iface 61 (.pointer (some ⟨b0, 0, none⟩)), .iface 60 (.int .i64 c)] w fun e w' => e = .returned (.bool true) ∧ w' = w := by
  have h8 := @run_callFunc_extern Tryd.prog 36 _ ReflectliteType.typeOf Tryd.func36 (by kernel_rfl) (by kernel_rfl) (by kernel_rfl) (by kernel_rfl)
  have h32 := @run_callFunc_extern Tryd.prog 69 _ (ReflectliteType.method fun t => do Rtype.noPackHeld "Comparable" t; pure (.bool (← typeInfo t).comparable)) Tryd.func69 (by kernel_rfl) (by kernel_rfl) (by kernel_rfl) (by kernel_rfl)
  have tT := e_typeOf60
  have cT := e_comparable60
  have mR := e_methodComparable
  have nE := e_noIs
  have uE := e_hasUnwrap
  have mU := e_methodUnwrap
  have heq := e_eqInt c w
  have hty0 := run_eql_iface_types (P := Tryd.prog) 61 60 (.pointer (some ⟨b0, 0, none⟩)) (.int .i64 c) Tryd.underlying32 (by decide) w
  go_enter Tryd.func28, Tryd.ntmps28
  go_wp2
  refine wp_loop_rounds 2 ?_
  rw [rounds_succ]
  go_wp2
  rw [rounds_succ]
  go_wp2
  go_ret
  exact ⟨rfl, rfl⟩

set_option maxRecDepth 100000 in
set_option maxHeartbeats 4000000 in
theorem e_is2 (b0 b1 : Nat) (c : Int) (w : World) (h0 : w.cell? ⟨b0, 2, none⟩ = some (.iface 61 (.pointer (some ⟨b1, 0, none⟩)))) (h1 : w.cell? ⟨b1, 2, none⟩ = some (.iface 60 (.int .i64 c))) :
    Calls Tryd.prog 28 #[.iface 61 (.pointer (some ⟨b0, 0, none⟩)), .iface 60 (.int .i64 c)] w fun e w' => e = .returned (.bool true) ∧ w' = w := by
  have h8 := @run_callFunc_extern Tryd.prog 36 _ ReflectliteType.typeOf Tryd.func36 (by kernel_rfl) (by kernel_rfl) (by kernel_rfl) (by kernel_rfl)
  have h32 := @run_callFunc_extern Tryd.prog 69 _ (ReflectliteType.method fun t => do Rtype.noPackHeld "Comparable" t; pure (.bool (← typeInfo t).comparable)) Tryd.func69 (by kernel_rfl) (by kernel_rfl) (by kernel_rfl) (by kernel_rfl)
  have tT := e_typeOf60
  have cT := e_comparable60
  have mR := e_methodComparable
  have nE := e_noIs
  have uE := e_hasUnwrap
  have mU := e_methodUnwrap
  have heq := e_eqInt c w
  have hty0 := run_eql_iface_types (P := Tryd.prog) 61 60 (.pointer (some ⟨b0, 0, none⟩)) (.int .i64 c) Tryd.underlying32 (by decide) w
  have hty1 := run_eql_iface_types (P := Tryd.prog) 61 60 (.pointer (some ⟨b1, 0, none⟩)) (.int .i64 c) Tryd.underlying32 (by decide) w
  go_enter Tryd.func28, Tryd.ntmps28
  go_wp2
  refine wp_loop_rounds 3 ?_
  rw [rounds_succ]
  go_wp2
  rw [rounds_succ]
  go_wp2
  rw [rounds_succ]
  go_wp2
  go_ret
  exact ⟨rfl, rfl⟩

set_option maxRecDepth 100000 in
set_option maxHeartbeats 4000000 in
theorem e_is3 (b0 b1 b2 : Nat) (c : Int) (w : World) (h0 : w.cell? ⟨b0, 2, none⟩ = some (.iface 61 (.pointer (some ⟨b1, 0, none⟩)))) (h1 : w.cell? ⟨b1, 2, none⟩ = some (.iface 61 (.pointer (some ⟨b2, 0, none⟩)))) (h2 : w.cell? ⟨b2, 2, none⟩ = some (.iface 60 (.int .i64 c))) :
    Calls Tryd.prog 28 #[.iface 61 (.pointer (some ⟨b0, 0, none⟩)), .iface 60 (.int .i64 c)] w fun e w' => e = .returned (.bool true) ∧ w' = w := by
  have h8 := @run_callFunc_extern Tryd.prog 36 _ ReflectliteType.typeOf Tryd.func36 (by kernel_rfl) (by kernel_rfl) (by kernel_rfl) (by kernel_rfl)
  have h32 := @run_callFunc_extern Tryd.prog 69 _ (ReflectliteType.method fun t => do Rtype.noPackHeld "Comparable" t; pure (.bool (← typeInfo t).comparable)) Tryd.func69 (by kernel_rfl) (by kernel_rfl) (by kernel_rfl) (by kernel_rfl)
  have tT := e_typeOf60
  have cT := e_comparable60
  have mR := e_methodComparable
  have nE := e_noIs
  have uE := e_hasUnwrap
  have mU := e_methodUnwrap
  have heq := e_eqInt c w
  have hty0 := run_eql_iface_types (P := Tryd.prog) 61 60 (.pointer (some ⟨b0, 0, none⟩)) (.int .i64 c) Tryd.underlying32 (by decide) w
  have hty1 := run_eql_iface_types (P := Tryd.prog) 61 60 (.pointer (some ⟨b1, 0, none⟩)) (.int .i64 c) Tryd.underlying32 (by decide) w
  have hty2 := run_eql_iface_types (P := Tryd.prog) 61 60 (.pointer (some ⟨b2, 0, none⟩)) (.int .i64 c) Tryd.underlying32 (by decide) w
  go_enter Tryd.func28, Tryd.ntmps28
  go_wp2
  refine wp_loop_rounds 4 ?_
  rw [rounds_succ]
  go_wp2
  rw [rounds_succ]
  go_wp2
  rw [rounds_succ]
  go_wp2
  rw [rounds_succ]
  go_wp2
  go_ret
  exact ⟨rfl, rfl⟩

set_option maxRecDepth 100000 in
set_option maxHeartbeats 4000000 in
theorem e_is4 (b0 b1 b2 b3 : Nat) (c : Int) (w : World) (h0 : w.cell? ⟨b0, 2, none⟩ = some (.iface 61 (.pointer (some ⟨b1, 0, none⟩)))) (h1 : w.cell? ⟨b1, 2, none⟩ = some (.iface 61 (.pointer (some ⟨b2, 0, none⟩)))) (h2 : w.cell? ⟨b2, 2, none⟩ = some (.iface 61 (.pointer (some ⟨b3, 0, none⟩)))) (h3 : w.cell? ⟨b3, 2, none⟩ = some (.iface 60 (.int .i64 c))) :
    Calls Tryd.prog 28 #[.iface 61 (.pointer (some ⟨b0, 0, none⟩)), .iface 60 (.int .i64 c)] w fun e w' => e = .returned (.bool true) ∧ w' = w := by
  have h8 := @run_callFunc_extern Tryd.prog 36 _ ReflectliteType.typeOf Tryd.func36 (by kernel_rfl) (by kernel_rfl) (by kernel_rfl) (by kernel_rfl)
  have h32 := @run_callFunc_extern Tryd.prog 69 _ (ReflectliteType.method fun t => do Rtype.noPackHeld "Comparable" t; pure (.bool (← typeInfo t).comparable)) Tryd.func69 (by kernel_rfl) (by kernel_rfl) (by kernel_rfl) (by kernel_rfl)
  have tT := e_typeOf60
  have cT := e_comparable60
  have mR := e_methodComparable
  have nE := e_noIs
  have uE := e_hasUnwrap
  have mU := e_methodUnwrap
  have heq := e_eqInt c w
  have hty0 := run_eql_iface_types (P := Tryd.prog) 61 60 (.pointer (some ⟨b0, 0, none⟩)) (.int .i64 c) Tryd.underlying32 (by decide) w
  have hty1 := run_eql_iface_types (P := Tryd.prog) 61 60 (.pointer (some ⟨b1, 0, none⟩)) (.int .i64 c) Tryd.underlying32 (by decide) w
  have hty2 := run_eql_iface_types (P := Tryd.prog) 61 60 (.pointer (some ⟨b2, 0, none⟩)) (.int .i64 c) Tryd.underlying32 (by decide) w
  have hty3 := run_eql_iface_types (P := Tryd.prog) 61 60 (.pointer (some ⟨b3, 0, none⟩)) (.int .i64 c) Tryd.underlying32 (by decide) w
  go_enter Tryd.func28, Tryd.ntmps28
  go_wp2
  refine wp_loop_rounds 5 ?_
  rw [rounds_succ]
  go_wp2
  rw [rounds_succ]
  go_wp2
  rw [rounds_succ]
  go_wp2
  rw [rounds_succ]
  go_wp2
  rw [rounds_succ]
  go_wp2
  go_ret
  exact ⟨rfl, rfl⟩

end Go.Proofs.YtomdihnecddfjaaDoor