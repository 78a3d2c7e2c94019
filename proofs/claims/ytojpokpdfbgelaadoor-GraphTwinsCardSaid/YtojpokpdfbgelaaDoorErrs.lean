/- errors.Is and errors.As at the errors of this program: Go's own text walked (after the kit's worked example). -/
import Derived.Test.YtojpokpdfbgelaaDoorProg
import Derived.WalkKit
import Derived.LaidEql
import Derived.Stop.Asserts
import Derived.RowKitTokens
set_option linter.unusedVariables false
set_option linter.unusedSimpArgs false
namespace Go.Proofs.YtojpokpdfbgelaaDoor
open Go.RowKit Go.Extern.Stop Go.Stop Go.Extern

theorem rlm (z : Sem Value) (f : TypeId → Addr → Nat → Nat → Sem Value) (v : Value) :
    ReflectliteValue.method z f #[v] = (do match ← ReflectliteValue.parts v with | none => z | some (t, a, fl) => f t a fl (fl % 32)) := rfl
theorem rls (v x : Value) : ReflectliteValue.set #[v, x] = (do
    let (some (dst, a, fl), some (src, b, _)) := (← ReflectliteValue.parts v, ← ReflectliteValue.parts x)
      | unsupported (.noEntry "extern/(internal/reflectlite.Value).Set.zeroValue")
    if fl / ReflectliteValue.flagAddr % 2 == 0 then unsupported (.noEntry "extern/(internal/reflectlite.Value).Set.unaddressable")
    let val ← loadVar src b
    if ← Rtype.directlyAssignable dst src then storeVar dst a val
    else if ← Rtype.implements dst src then
      if (← Rtype.kind src) == 20 then
        match val with
        | .nilIface => unsupported (.noEntry "extern/reflectlite: a nil value of one interface type handed on as a value of another")
        | _ => storeVar dst a val
      else storeVar dst a (.iface src val)
    else panicString ("reflectlite.Set: value of type " ++ (← Rtype.spelt src) ++ " is not assignable to type " ++ (← Rtype.spelt dst))
    pure (.tuple #[])) := rfl

theorem e_methodKind (h : Value) (w : World) : (Go.method 293 150 (.agg #[h]) "Kind").run Tryd.prog w = .ok (97, h) w := by kernel_rfl
theorem e_methodElem (h : Value) (w : World) : (Go.method 293 150 (.agg #[h]) "Elem").run Tryd.prog w = .ok (109, .agg #[h]) w := by kernel_rfl
theorem e_methodImplements (h : Value) (w : World) : (Go.method 293 150 (.agg #[h]) "Implements").run Tryd.prog w = .ok (110, .agg #[h]) w := by kernel_rfl
theorem e_methodAssignableTo (h : Value) (w : World) : (Go.method 293 150 (.agg #[h]) "AssignableTo").run Tryd.prog w = .ok (107, .agg #[h]) w := by kernel_rfl
theorem e_methodComparable (h : Value) (w : World) : (Go.method 293 150 (.agg #[h]) "Comparable").run Tryd.prog w = .ok (108, .agg #[h]) w := by kernel_rfl
theorem e_valueOf117 (t : Addr) (w : World) : (ReflectliteValue.unpack (.iface 117 (.pointer (some t)))).run Tryd.prog w
    = .ok (.agg #[.pointer (some ⟨1, 117, none⟩), .pointer (some ⟨w.heap.size, 0, none⟩), .int .u64 150]) (w.alloc (.cells #[.pointer (some t)] 117)) := by kernel_rfl
theorem e_type117 (a : Addr) (w : World) : (ReflectliteValue.methodAny (ReflectliteValue.valueError "reflectlite.Value.Type" 0) (fun t _ _ _ => ReflectliteType.toType t) #[.agg #[.pointer (some ⟨1, 117, none⟩), .pointer (some a), .int .u64 150]]).run Tryd.prog w
    = .ok (.iface 150 (.agg #[.pointer (some ⟨1, 117, none⟩)])) w := by kernel_rfl
theorem e_kind117 (w : World) : ((ReflectliteType.abiMethod fun t => (fun a : Nat => Value.int IntKind.u8 (a : Int)) <$> Rtype.kind t) #[.pointer (some ⟨1, 117, none⟩)]).run Tryd.prog w = .ok (.int .u8 22) w := by kernel_rfl
theorem e_kind115 (w : World) : ((ReflectliteType.abiMethod fun t => (fun a : Nat => Value.int IntKind.u8 (a : Int)) <$> Rtype.kind t) #[.pointer (some ⟨1, 115, none⟩)]).run Tryd.prog w = .ok (.int .u8 22) w := by kernel_rfl
theorem e_parts117 (a : Addr) (w : World) : (ReflectliteValue.parts (.agg #[.pointer (some ⟨1, 117, none⟩), .pointer (some a), .int .u64 150])).run Tryd.prog w = .ok (some (117, a, 150)) w := by kernel_rfl
theorem e_isNil117 (a p : Addr) (W : World) (ha : W.cell? a = some (.pointer (some p))) :
    (ReflectliteValue.method (ReflectliteValue.valueError "reflectlite.Value.IsNil" 0) ReflectliteValue.isNil #[.agg #[.pointer (some ⟨1, 117, none⟩), .pointer (some a), .int .u64 150]]).run Tryd.prog W = .ok (.bool false) W := by
  rw [rlm]
  simp only [Sem.run_bind, e_parts117, Result.andThen]
  simp [ReflectliteValue.isNil, loadVar, isAgg, underlying, Tryd.underlying117, ha, Result.andThen]
theorem e_elem117 (w : World) : (ReflectliteType.method ReflectliteType.elem #[.agg #[.pointer (some ⟨1, 117, none⟩)]]).run Tryd.prog w = .ok (.iface 150 (.agg #[.pointer (some ⟨1, 115, none⟩)])) w := by kernel_rfl
theorem e_implements115 (w : World) : (ReflectliteType.relation "Implements" ReflectliteType.implements_ #[.agg #[.pointer (some ⟨1, 115, none⟩)], .iface 150 (.agg #[.pointer (some ⟨1, 32, none⟩)])]).run Tryd.prog w = .ok (.bool true) w := by kernel_rfl
theorem e_typeOf115 (v : Value) (w : World) : (ReflectliteType.typeOf #[.iface 115 v]).run Tryd.prog w = .ok (.iface 150 (.agg #[.pointer (some ⟨1, 115, none⟩)])) w := by kernel_rfl
theorem e_assignable115 (w : World) : (ReflectliteType.relation "AssignableTo" ReflectliteType.assignableTo #[.agg #[.pointer (some ⟨1, 115, none⟩)], .iface 150 (.agg #[.pointer (some ⟨1, 115, none⟩)])]).run Tryd.prog w = .ok (.bool true) w := by kernel_rfl
theorem e_elemOf117 (w : World) : (Rtype.elem? 117).run Tryd.prog w = .ok (some 115) w := by kernel_rfl
theorem e_mk115 (p : Addr) (w : World) : (ReflectliteValue.mk 115 p ReflectliteValue.flagAddr).run Tryd.prog w = .ok (.agg #[.pointer (some ⟨1, 115, none⟩), .pointer (some p), .int .u64 406]) w := by kernel_rfl
theorem e_elemV117 (a p : Addr) (W : World) (ha : W.cell? a = some (.pointer (some p))) :
    (ReflectliteValue.method (ReflectliteValue.valueError "reflectlite.Value.Elem" 0) ReflectliteValue.elem #[.agg #[.pointer (some ⟨1, 117, none⟩), .pointer (some a), .int .u64 150]]).run Tryd.prog W
      = .ok (.agg #[.pointer (some ⟨1, 115, none⟩), .pointer (some p), .int .u64 406]) W := by
  rw [rlm]
  simp only [Sem.run_bind, e_parts117, Result.andThen]
  simp [ReflectliteValue.elem, loadVar, isAgg, underlying, Tryd.underlying117, ha, Result.andThen, e_elemOf117, e_mk115]
theorem e_parts115a (a : Addr) (w : World) : (ReflectliteValue.parts (.agg #[.pointer (some ⟨1, 115, none⟩), .pointer (some a), .int .u64 406])).run Tryd.prog w = .ok (some (115, a, 406)) w := by kernel_rfl
theorem e_parts115 (a : Addr) (w : World) : (ReflectliteValue.parts (.agg #[.pointer (some ⟨1, 115, none⟩), .pointer (some a), .int .u64 150])).run Tryd.prog w = .ok (some (115, a, 150)) w := by kernel_rfl
theorem e_direct115 (w : World) : (Rtype.directlyAssignable 115 115).run Tryd.prog w = .ok true w := by kernel_rfl
theorem e_size115 (w : World) : (sizeOf 115).run Tryd.prog w = .ok 1 w := by kernel_rfl

theorem e_valueOf122 (t : Addr) (w : World) : (ReflectliteValue.unpack (.iface 122 (.pointer (some t)))).run Tryd.prog w
    = .ok (.agg #[.pointer (some ⟨1, 122, none⟩), .pointer (some ⟨w.heap.size, 0, none⟩), .int .u64 150]) (w.alloc (.cells #[.pointer (some t)] 122)) := by kernel_rfl
theorem e_type122 (a : Addr) (w : World) : (ReflectliteValue.methodAny (ReflectliteValue.valueError "reflectlite.Value.Type" 0) (fun t _ _ _ => ReflectliteType.toType t) #[.agg #[.pointer (some ⟨1, 122, none⟩), .pointer (some a), .int .u64 150]]).run Tryd.prog w
    = .ok (.iface 150 (.agg #[.pointer (some ⟨1, 122, none⟩)])) w := by kernel_rfl
theorem e_kind122 (w : World) : ((ReflectliteType.abiMethod fun t => (fun a : Nat => Value.int IntKind.u8 (a : Int)) <$> Rtype.kind t) #[.pointer (some ⟨1, 122, none⟩)]).run Tryd.prog w = .ok (.int .u8 22) w := by kernel_rfl
theorem e_kind106 (w : World) : ((ReflectliteType.abiMethod fun t => (fun a : Nat => Value.int IntKind.u8 (a : Int)) <$> Rtype.kind t) #[.pointer (some ⟨1, 106, none⟩)]).run Tryd.prog w = .ok (.int .u8 2) w := by kernel_rfl
theorem e_parts122 (a : Addr) (w : World) : (ReflectliteValue.parts (.agg #[.pointer (some ⟨1, 122, none⟩), .pointer (some a), .int .u64 150])).run Tryd.prog w = .ok (some (122, a, 150)) w := by kernel_rfl
theorem e_isNil122 (a p : Addr) (W : World) (ha : W.cell? a = some (.pointer (some p))) :
    (ReflectliteValue.method (ReflectliteValue.valueError "reflectlite.Value.IsNil" 0) ReflectliteValue.isNil #[.agg #[.pointer (some ⟨1, 122, none⟩), .pointer (some a), .int .u64 150]]).run Tryd.prog W = .ok (.bool false) W := by
  rw [rlm]
  simp only [Sem.run_bind, e_parts122, Result.andThen]
  simp [ReflectliteValue.isNil, loadVar, isAgg, underlying, Tryd.underlying122, ha, Result.andThen]
theorem e_elem122 (w : World) : (ReflectliteType.method ReflectliteType.elem #[.agg #[.pointer (some ⟨1, 122, none⟩)]]).run Tryd.prog w = .ok (.iface 150 (.agg #[.pointer (some ⟨1, 106, none⟩)])) w := by kernel_rfl
theorem e_implements106 (w : World) : (ReflectliteType.relation "Implements" ReflectliteType.implements_ #[.agg #[.pointer (some ⟨1, 106, none⟩)], .iface 150 (.agg #[.pointer (some ⟨1, 32, none⟩)])]).run Tryd.prog w = .ok (.bool true) w := by kernel_rfl
theorem e_typeOf106 (v : Value) (w : World) : (ReflectliteType.typeOf #[.iface 106 v]).run Tryd.prog w = .ok (.iface 150 (.agg #[.pointer (some ⟨1, 106, none⟩)])) w := by kernel_rfl
theorem e_assignable106 (w : World) : (ReflectliteType.relation "AssignableTo" ReflectliteType.assignableTo #[.agg #[.pointer (some ⟨1, 106, none⟩)], .iface 150 (.agg #[.pointer (some ⟨1, 106, none⟩)])]).run Tryd.prog w = .ok (.bool true) w := by kernel_rfl
theorem e_elemOf122 (w : World) : (Rtype.elem? 122).run Tryd.prog w = .ok (some 106) w := by kernel_rfl
theorem e_mk106 (p : Addr) (w : World) : (ReflectliteValue.mk 106 p ReflectliteValue.flagAddr).run Tryd.prog w = .ok (.agg #[.pointer (some ⟨1, 106, none⟩), .pointer (some p), .int .u64 386]) w := by kernel_rfl
theorem e_elemV122 (a p : Addr) (W : World) (ha : W.cell? a = some (.pointer (some p))) :
    (ReflectliteValue.method (ReflectliteValue.valueError "reflectlite.Value.Elem" 0) ReflectliteValue.elem #[.agg #[.pointer (some ⟨1, 122, none⟩), .pointer (some a), .int .u64 150]]).run Tryd.prog W
      = .ok (.agg #[.pointer (some ⟨1, 106, none⟩), .pointer (some p), .int .u64 386]) W := by
  rw [rlm]
  simp only [Sem.run_bind, e_parts122, Result.andThen]
  simp [ReflectliteValue.elem, loadVar, isAgg, underlying, Tryd.underlying122, ha, Result.andThen, e_elemOf122, e_mk106]
theorem e_parts106a (a : Addr) (w : World) : (ReflectliteValue.parts (.agg #[.pointer (some ⟨1, 106, none⟩), .pointer (some a), .int .u64 386])).run Tryd.prog w = .ok (some (106, a, 386)) w := by kernel_rfl
theorem e_parts106 (a : Addr) (w : World) : (ReflectliteValue.parts (.agg #[.pointer (some ⟨1, 106, none⟩), .pointer (some a), .int .u64 130])).run Tryd.prog w = .ok (some (106, a, 130)) w := by kernel_rfl
theorem e_direct106 (w : World) : (Rtype.directlyAssignable 106 106).run Tryd.prog w = .ok true w := by kernel_rfl
theorem e_size106 (w : World) : (sizeOf 106).run Tryd.prog w = .ok 1 w := by kernel_rfl

theorem e_valueOf115 (e : Addr) (w : World) : (ReflectliteValue.unpack (.iface 115 (.pointer (some e)))).run Tryd.prog w
    = .ok (.agg #[.pointer (some ⟨1, 115, none⟩), .pointer (some ⟨w.heap.size, 0, none⟩), .int .u64 150]) (w.alloc (.cells #[.pointer (some e)] 115)) := by kernel_rfl
theorem e_set115 (ta b : Addr) (e : Addr) (old : Value) (W : World) (hb : W.cell? b = some (.pointer (some e))) (ht : W.cell? ta = some old) (hf : W.frozen? ta = false) :
    (ReflectliteValue.set #[.agg #[.pointer (some ⟨1, 115, none⟩), .pointer (some ta), .int .u64 406], .agg #[.pointer (some ⟨1, 115, none⟩), .pointer (some b), .int .u64 150]]).run Tryd.prog W
      = .ok (.tuple #[]) (W.setCell ta (.pointer (some e))) := by
  rw [rls]
  simp only [Sem.run_bind, e_parts115a, e_parts115, Result.andThen]
  simp [ReflectliteValue.flagAddr, loadVar, isAgg, underlying, Tryd.underlying115, hb, Result.andThen, e_direct115, storeVar, Value.cells, storeCells, Addr.add]
  rw [run_store Tryd.prog W ta _ _ (by rfl)]
  simp [ht, hf]

theorem e_valueOf106 (e : Int) (w : World) : (ReflectliteValue.unpack (.iface 106 (.int .i64 e))).run Tryd.prog w
    = .ok (.agg #[.pointer (some ⟨1, 106, none⟩), .pointer (some ⟨w.heap.size, 0, none⟩), .int .u64 130]) (w.alloc (.cells #[.int .i64 e] 106)) := by kernel_rfl
theorem e_set106 (ta b : Addr) (e : Int) (old : Value) (W : World) (hb : W.cell? b = some (.int .i64 e)) (ht : W.cell? ta = some old) (hf : W.frozen? ta = false) :
    (ReflectliteValue.set #[.agg #[.pointer (some ⟨1, 106, none⟩), .pointer (some ta), .int .u64 386], .agg #[.pointer (some ⟨1, 106, none⟩), .pointer (some b), .int .u64 130]]).run Tryd.prog W
      = .ok (.tuple #[]) (W.setCell ta (.int .i64 e)) := by
  rw [rls]
  simp only [Sem.run_bind, e_parts106a, e_parts106, Result.andThen]
  simp [ReflectliteValue.flagAddr, loadVar, isAgg, underlying, Tryd.underlying106, hb, Result.andThen, e_direct106, storeVar, Value.cells, storeCells, Addr.add]
  rw [run_store Tryd.prog W ta _ _ (by rfl)]
  simp [ht, hf]

theorem e_assignMiss (w : World) : (ReflectliteType.relation "AssignableTo" ReflectliteType.assignableTo #[.agg #[.pointer (some ⟨1, 106, none⟩)], .iface 150 (.agg #[.pointer (some ⟨1, 115, none⟩)])]).run Tryd.prog w = .ok (.bool false) w := by kernel_rfl
theorem e_comparable106 (w : World) : ((ReflectliteType.method fun t => do Rtype.noPackHeld "Comparable" t; (fun a => Value.bool a.comparable) <$> typeInfo t) #[.agg #[.pointer (some ⟨1, 106, none⟩)]]).run Tryd.prog w = .ok (.bool true) w := by kernel_rfl
theorem e_methodUnwrap (v : Value) (w : World) : (Go.method 293 115 v "Unwrap").run Tryd.prog w = .ok (102, v) w := by kernel_rfl
theorem e_noIs (v : Value) (xT : TypeId) (w : World) : (Instr.typeAssert (.iface 115 v) xT 152 true).run Tryd.prog w = .ok (.tuple #[.nilIface, .bool false]) w := run_typeAssert_lacksB Tryd.underlying152 (by kernel_rfl) (by kernel_rfl) v xT w
theorem e_hasUnwrap (v : Value) (xT : TypeId) (w : World) : (Instr.typeAssert (.iface 115 v) xT 155 true).run Tryd.prog w = .ok (.tuple #[.iface 115 v, .bool true]) w := run_typeAssert_hasB Tryd.underlying155 (by kernel_rfl) v xT w
theorem e_noAs (v : Value) (xT : TypeId) (w : World) : (Instr.typeAssert (.iface 106 v) xT 162 true).run Tryd.prog w = .ok (.tuple #[.nilIface, .bool false]) w := run_typeAssert_lacksB Tryd.underlying162 (by kernel_rfl) (by kernel_rfl) v xT w
theorem e_noUnwrap (v : Value) (xT : TypeId) (w : World) : (Instr.typeAssert (.iface 106 v) xT 155 true).run Tryd.prog w = .ok (.tuple #[.nilIface, .bool false]) w := run_typeAssert_lacksB Tryd.underlying155 (by kernel_rfl) (by kernel_rfl) v xT w
theorem e_noUnwraps (v : Value) (xT : TypeId) (w : World) : (Instr.typeAssert (.iface 106 v) xT 157 true).run Tryd.prog w = .ok (.tuple #[.nilIface, .bool false]) w := run_typeAssert_lacksB Tryd.underlying157 (by kernel_rfl) (by kernel_rfl) v xT w
theorem e_comp : (Tryd.prog.info? 106).map (·.comparable) = some true := by kernel_rfl
theorem e_eqInt (c : Int) (w : World) : (binOp .eql 32 (.iface 106 (.int .i64 c)) (.iface 106 (.int .i64 c))).run Tryd.prog w = .ok (.bool true) w := by
  obtain ⟨i, hi, hcmp⟩ := Option.map_eq_some_iff.1 e_comp
  have h : ∀ d : Nat, (Op.equalIn (d + 2) 32 (.iface 106 (.int .i64 c)) (.iface 106 (.int .i64 c))).run Tryd.prog w = .ok true w := fun d => by
    simp [Op.equalIn, run_underlying Tryd.underlying32, run_underlying Tryd.underlying106, typeInfo, hi, hcmp]
  simp only [binOp]
  simp [Op.equal, Op.maxDepth, h 9998]

set_option maxRecDepth 100000 in
set_option maxHeartbeats 4000000 in
theorem e_as_fault (e : Addr) (t : Addr) (old : Value) (w : World) (hg : w.cell? ⟨0, 0, none⟩ = some (.iface 150 (.agg #[.pointer (some ⟨1, 32, none⟩)]))) (ht0 : w.cell? t = some old) (hf0 : w.frozen? t = false) :
    Calls Tryd.prog 61 #[.iface 115 (.pointer (some e)), .iface 117 (.pointer (some t))] w fun ev w' => ev = .returned (.bool true) ∧ w' = (((((w.alloc (.cells #[.pointer (some t)] 117)).alloc (.cells #[.pointer (some ⟨1, 117, none⟩), .pointer (some ⟨w.heap.size, 0, none⟩), .int .u64 150] 142)).alloc (.cells #[.pointer (some ⟨1, 117, none⟩), .pointer (some ⟨w.heap.size, 0, none⟩), .int .u64 150] 142))).alloc (.cells #[.pointer (some e)] 115)).setCell t (.pointer (some e)) := by
  have h6 := @run_callFunc_extern Tryd.prog 77 _ (fun args => ReflectliteValue.unpack (args.getD 0 (.tuple #[]))) Tryd.func77 (by kernel_rfl) (by kernel_rfl) (by kernel_rfl) (by kernel_rfl)
  have h7 := @run_callFunc_extern Tryd.prog 78 _ (ReflectliteValue.methodAny (ReflectliteValue.valueError "reflectlite.Value.Type" 0) (fun t _ _ _ => ReflectliteType.toType t)) Tryd.func78 (by kernel_rfl) (by kernel_rfl) (by kernel_rfl) (by kernel_rfl)
  have h8 := @run_callFunc_extern Tryd.prog 79 _ (ReflectliteValue.method (ReflectliteValue.valueError "reflectlite.Value.IsNil" 0) ReflectliteValue.isNil) Tryd.func79 (by kernel_rfl) (by kernel_rfl) (by kernel_rfl) (by kernel_rfl)
  have h27 := @run_callFunc_extern Tryd.prog 97 _ (ReflectliteType.abiMethod fun t => do pure (.int .u8 (← Rtype.kind t))) Tryd.func97 (by kernel_rfl) (by kernel_rfl) (by kernel_rfl) (by kernel_rfl)
  have h37 := @run_callFunc_extern Tryd.prog 109 _ (ReflectliteType.method ReflectliteType.elem) Tryd.func109 (by kernel_rfl) (by kernel_rfl) (by kernel_rfl) (by kernel_rfl)
  have h38 := @run_callFunc_extern Tryd.prog 110 _ (ReflectliteType.relation "Implements" ReflectliteType.implements_) Tryd.func110 (by kernel_rfl) (by kernel_rfl) (by kernel_rfl) (by kernel_rfl)
  have h10 := @run_callFunc_extern Tryd.prog 75 _ ReflectliteType.typeOf Tryd.func75 (by kernel_rfl) (by kernel_rfl) (by kernel_rfl) (by kernel_rfl)
  have h35 := @run_callFunc_extern Tryd.prog 107 _ (ReflectliteType.relation "AssignableTo" ReflectliteType.assignableTo) Tryd.func107 (by kernel_rfl) (by kernel_rfl) (by kernel_rfl) (by kernel_rfl)
  have h11 := @run_callFunc_extern Tryd.prog 81 _ (ReflectliteValue.method (ReflectliteValue.valueError "reflectlite.Value.Elem" 0) ReflectliteValue.elem) Tryd.func81 (by kernel_rfl) (by kernel_rfl) (by kernel_rfl) (by kernel_rfl)
  have h12 := @run_callFunc_extern Tryd.prog 82 _ ReflectliteValue.set Tryd.func82 (by kernel_rfl) (by kernel_rfl) (by kernel_rfl) (by kernel_rfl)
  have a25 := e_assignable115
  have v25 := e_valueOf115
  have tO := e_typeOf115
  have mA := e_methodAssignableTo
  have f6 := e_valueOf117
  have f7 := e_type117
  have mK := e_methodKind
  have mE := e_methodElem
  have mI := e_methodImplements
  have k27 := e_kind117
  have k25 := e_kind115
  have e27 := e_elem117
  have i25 := e_implements115
  have n8 := e_isNil117 ⟨w.heap.size, 0, none⟩ t ((w.alloc (.cells #[.pointer (some t)] 117)).alloc (.cells #[.pointer (some ⟨1, 117, none⟩), .pointer (some ⟨w.heap.size, 0, none⟩), .int .u64 150] 142)) (by simp)
  have hlt : 0 < w.heap.size := by
    rcases Nat.lt_or_ge 0 w.heap.size with h | h
    · exact h
    · simp [World.cell?, Array.getElem?_eq_none h] at hg
  have hg2 : ((w.alloc (.cells #[.pointer (some t)] 117)).alloc (.cells #[.pointer (some ⟨1, 117, none⟩), .pointer (some ⟨w.heap.size, 0, none⟩), .int .u64 150] 142)).cell? ⟨0, 0, none⟩ = some (.iface 150 (.agg #[.pointer (some ⟨1, 32, none⟩)])) := by
    rw [World.cell?_alloc_lt _ _ ⟨0, 0, none⟩ (by first | (simp; done) | (simp; omega)), World.cell?_alloc_lt _ _ ⟨0, 0, none⟩ hlt]; exact hg
  have htl : t.block < w.heap.size := by
    rcases Nat.lt_or_ge t.block w.heap.size with h | h
    · exact h
    · simp [World.cell?, Array.getElem?_eq_none h] at ht0
  have el := e_elemV117 ⟨w.heap.size, 0, none⟩ t (((w.alloc (.cells #[.pointer (some t)] 117)).alloc (.cells #[.pointer (some ⟨1, 117, none⟩), .pointer (some ⟨w.heap.size, 0, none⟩), .int .u64 150] 142)).alloc (.cells #[.pointer (some ⟨1, 117, none⟩), .pointer (some ⟨w.heap.size, 0, none⟩), .int .u64 150] 142)) (by rw [World.cell?_alloc_lt _ _ ⟨w.heap.size, 0, none⟩ (by simp; omega)]; simp)
  have st := e_set115 t ⟨w.heap.size + 1 + 1 + 1, 0, none⟩ e old ((((w.alloc (.cells #[.pointer (some t)] 117)).alloc (.cells #[.pointer (some ⟨1, 117, none⟩), .pointer (some ⟨w.heap.size, 0, none⟩), .int .u64 150] 142)).alloc (.cells #[.pointer (some ⟨1, 117, none⟩), .pointer (some ⟨w.heap.size, 0, none⟩), .int .u64 150] 142)).alloc (.cells #[.pointer (some e)] 115))
    (by rw [World.cell?_alloc_at _ _ _ _ (by simp)]; rfl)
    (by rw [World.cell?_alloc_lt _ _ t (by simp; omega), World.cell?_alloc_lt _ _ t (by simp; omega), World.cell?_alloc_lt _ _ t (by simp; omega), World.cell?_alloc_lt _ _ t htl]; exact ht0)
    (by rw [World.frozen?_alloc_old _ _ t (by simp; omega), World.frozen?_alloc_old _ _ t (by simp; omega), World.frozen?_alloc_old _ _ t (by simp; omega), World.frozen?_alloc_old _ _ t (Nat.ne_of_lt htl)]; exact hf0)
  go_enter Tryd.func61, Tryd.ntmps61
  go_wp2
  refine wp_loop_rounds 1 ?_
  rw [rounds_succ]
  go_wp2
  go_ret
  exact ⟨rfl, rfl⟩

set_option maxRecDepth 100000 in
set_option maxHeartbeats 4000000 in
theorem e_as_errno (e : Int) (t : Addr) (old : Value) (w : World) (hg : w.cell? ⟨0, 0, none⟩ = some (.iface 150 (.agg #[.pointer (some ⟨1, 32, none⟩)]))) (ht0 : w.cell? t = some old) (hf0 : w.frozen? t = false) :
    Calls Tryd.prog 61 #[.iface 106 (.int .i64 e), .iface 122 (.pointer (some t))] w fun ev w' => ev = .returned (.bool true) ∧ w' = (((((w.alloc (.cells #[.pointer (some t)] 122)).alloc (.cells #[.pointer (some ⟨1, 122, none⟩), .pointer (some ⟨w.heap.size, 0, none⟩), .int .u64 150] 142)).alloc (.cells #[.pointer (some ⟨1, 122, none⟩), .pointer (some ⟨w.heap.size, 0, none⟩), .int .u64 150] 142))).alloc (.cells #[.int .i64 e] 106)).setCell t (.int .i64 e) := by
  have h6 := @run_callFunc_extern Tryd.prog 77 _ (fun args => ReflectliteValue.unpack (args.getD 0 (.tuple #[]))) Tryd.func77 (by kernel_rfl) (by kernel_rfl) (by kernel_rfl) (by kernel_rfl)
  have h7 := @run_callFunc_extern Tryd.prog 78 _ (ReflectliteValue.methodAny (ReflectliteValue.valueError "reflectlite.Value.Type" 0) (fun t _ _ _ => ReflectliteType.toType t)) Tryd.func78 (by kernel_rfl) (by kernel_rfl) (by kernel_rfl) (by kernel_rfl)
  have h8 := @run_callFunc_extern Tryd.prog 79 _ (ReflectliteValue.method (ReflectliteValue.valueError "reflectlite.Value.IsNil" 0) ReflectliteValue.isNil) Tryd.func79 (by kernel_rfl) (by kernel_rfl) (by kernel_rfl) (by kernel_rfl)
  have h27 := @run_callFunc_extern Tryd.prog 97 _ (ReflectliteType.abiMethod fun t => do pure (.int .u8 (← Rtype.kind t))) Tryd.func97 (by kernel_rfl) (by kernel_rfl) (by kernel_rfl) (by kernel_rfl)
  have h37 := @run_callFunc_extern Tryd.prog 109 _ (ReflectliteType.method ReflectliteType.elem) Tryd.func109 (by kernel_rfl) (by kernel_rfl) (by kernel_rfl) (by kernel_rfl)
  have h38 := @run_callFunc_extern Tryd.prog 110 _ (ReflectliteType.relation "Implements" ReflectliteType.implements_) Tryd.func110 (by kernel_rfl) (by kernel_rfl) (by kernel_rfl) (by kernel_rfl)
  have h10 := @run_callFunc_extern Tryd.prog 75 _ ReflectliteType.typeOf Tryd.func75 (by kernel_rfl) (by kernel_rfl) (by kernel_rfl) (by kernel_rfl)
  have h35 := @run_callFunc_extern Tryd.prog 107 _ (ReflectliteType.relation "AssignableTo" ReflectliteType.assignableTo) Tryd.func107 (by kernel_rfl) (by kernel_rfl) (by kernel_rfl) (by kernel_rfl)
  have h11 := @run_callFunc_extern Tryd.prog 81 _ (ReflectliteValue.method (ReflectliteValue.valueError "reflectlite.Value.Elem" 0) ReflectliteValue.elem) Tryd.func81 (by kernel_rfl) (by kernel_rfl) (by kernel_rfl) (by kernel_rfl)
  have h12 := @run_callFunc_extern Tryd.prog 82 _ ReflectliteValue.set Tryd.func82 (by kernel_rfl) (by kernel_rfl) (by kernel_rfl) (by kernel_rfl)
  have a25 := e_assignable106
  have v25 := e_valueOf106
  have tO := e_typeOf106
  have mA := e_methodAssignableTo
  have f6 := e_valueOf122
  have f7 := e_type122
  have mK := e_methodKind
  have mE := e_methodElem
  have mI := e_methodImplements
  have k27 := e_kind122
  have k25 := e_kind106
  have e27 := e_elem122
  have i25 := e_implements106
  have n8 := e_isNil122 ⟨w.heap.size, 0, none⟩ t ((w.alloc (.cells #[.pointer (some t)] 122)).alloc (.cells #[.pointer (some ⟨1, 122, none⟩), .pointer (some ⟨w.heap.size, 0, none⟩), .int .u64 150] 142)) (by simp)
  have hlt : 0 < w.heap.size := by
    rcases Nat.lt_or_ge 0 w.heap.size with h | h
    · exact h
    · simp [World.cell?, Array.getElem?_eq_none h] at hg
  have hg2 : ((w.alloc (.cells #[.pointer (some t)] 122)).alloc (.cells #[.pointer (some ⟨1, 122, none⟩), .pointer (some ⟨w.heap.size, 0, none⟩), .int .u64 150] 142)).cell? ⟨0, 0, none⟩ = some (.iface 150 (.agg #[.pointer (some ⟨1, 32, none⟩)])) := by
    rw [World.cell?_alloc_lt _ _ ⟨0, 0, none⟩ (by first | (simp; done) | (simp; omega)), World.cell?_alloc_lt _ _ ⟨0, 0, none⟩ hlt]; exact hg
  have htl : t.block < w.heap.size := by
    rcases Nat.lt_or_ge t.block w.heap.size with h | h
    · exact h
    · simp [World.cell?, Array.getElem?_eq_none h] at ht0
  have el := e_elemV122 ⟨w.heap.size, 0, none⟩ t (((w.alloc (.cells #[.pointer (some t)] 122)).alloc (.cells #[.pointer (some ⟨1, 122, none⟩), .pointer (some ⟨w.heap.size, 0, none⟩), .int .u64 150] 142)).alloc (.cells #[.pointer (some ⟨1, 122, none⟩), .pointer (some ⟨w.heap.size, 0, none⟩), .int .u64 150] 142)) (by rw [World.cell?_alloc_lt _ _ ⟨w.heap.size, 0, none⟩ (by simp; omega)]; simp)
  have st := e_set106 t ⟨w.heap.size + 1 + 1 + 1, 0, none⟩ e old ((((w.alloc (.cells #[.pointer (some t)] 122)).alloc (.cells #[.pointer (some ⟨1, 122, none⟩), .pointer (some ⟨w.heap.size, 0, none⟩), .int .u64 150] 142)).alloc (.cells #[.pointer (some ⟨1, 122, none⟩), .pointer (some ⟨w.heap.size, 0, none⟩), .int .u64 150] 142)).alloc (.cells #[.int .i64 e] 106))
    (by rw [World.cell?_alloc_at _ _ _ _ (by simp)]; rfl)
    (by rw [World.cell?_alloc_lt _ _ t (by simp; omega), World.cell?_alloc_lt _ _ t (by simp; omega), World.cell?_alloc_lt _ _ t (by simp; omega), World.cell?_alloc_lt _ _ t htl]; exact ht0)
    (by rw [World.frozen?_alloc_old _ _ t (by simp; omega), World.frozen?_alloc_old _ _ t (by simp; omega), World.frozen?_alloc_old _ _ t (by simp; omega), World.frozen?_alloc_old _ _ t (Nat.ne_of_lt htl)]; exact hf0)
  go_enter Tryd.func61, Tryd.ntmps61
  go_wp2
  refine wp_loop_rounds 1 ?_
  rw [rounds_succ]
  go_wp2
  go_ret
  exact ⟨rfl, rfl⟩

set_option maxRecDepth 100000 in
set_option maxHeartbeats 4000000 in
theorem e_as_miss (e : Int) (t : Addr) (old : Value) (w : World) (hg : w.cell? ⟨0, 0, none⟩ = some (.iface 150 (.agg #[.pointer (some ⟨1, 32, none⟩)]))) (ht0 : w.cell? t = some old)  :
    Calls Tryd.prog 61 #[.iface 106 (.int .i64 e), .iface 117 (.pointer (some t))] w fun ev w' => ev = .returned (.bool false) ∧ w' = (((w.alloc (.cells #[.pointer (some t)] 117)).alloc (.cells #[.pointer (some ⟨1, 117, none⟩), .pointer (some ⟨w.heap.size, 0, none⟩), .int .u64 150] 142)).alloc (.cells #[.pointer (some ⟨1, 117, none⟩), .pointer (some ⟨w.heap.size, 0, none⟩), .int .u64 150] 142)) := by
  have h6 := @run_callFunc_extern Tryd.prog 77 _ (fun args => ReflectliteValue.unpack (args.getD 0 (.tuple #[]))) Tryd.func77 (by kernel_rfl) (by kernel_rfl) (by kernel_rfl) (by kernel_rfl)
  have h7 := @run_callFunc_extern Tryd.prog 78 _ (ReflectliteValue.methodAny (ReflectliteValue.valueError "reflectlite.Value.Type" 0) (fun t _ _ _ => ReflectliteType.toType t)) Tryd.func78 (by kernel_rfl) (by kernel_rfl) (by kernel_rfl) (by kernel_rfl)
  have h8 := @run_callFunc_extern Tryd.prog 79 _ (ReflectliteValue.method (ReflectliteValue.valueError "reflectlite.Value.IsNil" 0) ReflectliteValue.isNil) Tryd.func79 (by kernel_rfl) (by kernel_rfl) (by kernel_rfl) (by kernel_rfl)
  have h27 := @run_callFunc_extern Tryd.prog 97 _ (ReflectliteType.abiMethod fun t => do pure (.int .u8 (← Rtype.kind t))) Tryd.func97 (by kernel_rfl) (by kernel_rfl) (by kernel_rfl) (by kernel_rfl)
  have h37 := @run_callFunc_extern Tryd.prog 109 _ (ReflectliteType.method ReflectliteType.elem) Tryd.func109 (by kernel_rfl) (by kernel_rfl) (by kernel_rfl) (by kernel_rfl)
  have h38 := @run_callFunc_extern Tryd.prog 110 _ (ReflectliteType.relation "Implements" ReflectliteType.implements_) Tryd.func110 (by kernel_rfl) (by kernel_rfl) (by kernel_rfl) (by kernel_rfl)
  have h10 := @run_callFunc_extern Tryd.prog 75 _ ReflectliteType.typeOf Tryd.func75 (by kernel_rfl) (by kernel_rfl) (by kernel_rfl) (by kernel_rfl)
  have h35 := @run_callFunc_extern Tryd.prog 107 _ (ReflectliteType.relation "AssignableTo" ReflectliteType.assignableTo) Tryd.func107 (by kernel_rfl) (by kernel_rfl) (by kernel_rfl) (by kernel_rfl)
  have a25 := e_assignMiss
  have nA := e_noAs
  have nU := e_noUnwrap
  have nV := e_noUnwraps
  have tO := e_typeOf106
  have mA := e_methodAssignableTo
  have f6 := e_valueOf117
  have f7 := e_type117
  have mK := e_methodKind
  have mE := e_methodElem
  have mI := e_methodImplements
  have k27 := e_kind117
  have k25 := e_kind115
  have e27 := e_elem117
  have i25 := e_implements115
  have n8 := e_isNil117 ⟨w.heap.size, 0, none⟩ t ((w.alloc (.cells #[.pointer (some t)] 117)).alloc (.cells #[.pointer (some ⟨1, 117, none⟩), .pointer (some ⟨w.heap.size, 0, none⟩), .int .u64 150] 142)) (by simp)
  have hlt : 0 < w.heap.size := by
    rcases Nat.lt_or_ge 0 w.heap.size with h | h
    · exact h
    · simp [World.cell?, Array.getElem?_eq_none h] at hg
  have hg2 : ((w.alloc (.cells #[.pointer (some t)] 117)).alloc (.cells #[.pointer (some ⟨1, 117, none⟩), .pointer (some ⟨w.heap.size, 0, none⟩), .int .u64 150] 142)).cell? ⟨0, 0, none⟩ = some (.iface 150 (.agg #[.pointer (some ⟨1, 32, none⟩)])) := by
    rw [World.cell?_alloc_lt _ _ ⟨0, 0, none⟩ (by first | (simp; done) | (simp; omega)), World.cell?_alloc_lt _ _ ⟨0, 0, none⟩ hlt]; exact hg
  go_enter Tryd.func61, Tryd.ntmps61
  go_wp2
  refine wp_loop_rounds 1 ?_
  rw [rounds_succ]
  go_wp2
  go_ret
  exact ⟨rfl, rfl⟩

set_option maxRecDepth 100000 in
set_option maxHeartbeats 4000000 in
theorem e_is1 (b0 : Nat) (c : Int) (w : World) (h0 : w.cell? ⟨b0, 2, none⟩ = some (.iface 106 (.int .i64 c))) :
    Calls Tryd.prog 60 #[.iface 115 (.pointer (some ⟨b0, 0, none⟩)), .iface 106 (.int .i64 c)] w fun e w' => e = .returned (.bool true) ∧ w' = w := by
  have h8 := @run_callFunc_extern Tryd.prog 75 _ ReflectliteType.typeOf Tryd.func75 (by kernel_rfl) (by kernel_rfl) (by kernel_rfl) (by kernel_rfl)
  have h32 := @run_callFunc_extern Tryd.prog 108 _ (ReflectliteType.method fun t => do Rtype.noPackHeld "Comparable" t; pure (.bool (← typeInfo t).comparable)) Tryd.func108 (by kernel_rfl) (by kernel_rfl) (by kernel_rfl) (by kernel_rfl)
  have tT := e_typeOf106
  have cT := e_comparable106
  have mR := e_methodComparable
  have nE := e_noIs
  have uE := e_hasUnwrap
  have mU := e_methodUnwrap
  have heq := e_eqInt c w
  have hty0 := run_eql_iface_types (P := Tryd.prog) 115 106 (.pointer (some ⟨b0, 0, none⟩)) (.int .i64 c) Tryd.underlying32 (by decide) w
  go_enter Tryd.func60, Tryd.ntmps60
  go_wp2
  refine wp_loop_rounds 2 ?_
  rw [rounds_succ]
  go_wp2
  rw [rounds_succ]
  go_wp2
  go_ret
  exact ⟨rfl, rfl⟩

set_option maxRecDepth 100000 in
set_option maxHeartbeats 4000000 in
theorem e_is2 (b0 b1 : Nat) (c : Int) (w : World) (h0 : w.cell? ⟨b0, 2, none⟩ = some (.iface 115 (.pointer (some ⟨b1, 0, none⟩)))) (h1 : w.cell? ⟨b1, 2, none⟩ = some (.iface 106 (.int .i64 c))) :
    Calls Tryd.prog 60 #[.iface 115 (.pointer (some ⟨b0, 0, none⟩)), .iface 106 (.int .i64 c)] w fun e w' => e = .returned (.bool true) ∧ w' = w := by
  have h8 := @run_callFunc_extern Tryd.prog 75 _ ReflectliteType.typeOf Tryd.func75 (by kernel_rfl) (by kernel_rfl) (by kernel_rfl) (by kernel_rfl)
  have h32 := @run_callFunc_extern Tryd.prog 108 _ (ReflectliteType.method fun t => do Rtype.noPackHeld "Comparable" t; pure (.bool (← typeInfo t).comparable)) Tryd.func108 (by kernel_rfl) (by kernel_rfl) (by kernel_rfl) (by kernel_rfl)
  have tT := e_typeOf106
  have cT := e_comparable106
  have mR := e_methodComparable
  have nE := e_noIs
  have uE := e_hasUnwrap
  have mU := e_methodUnwrap
  have heq := e_eqInt c w
  have hty0 := run_eql_iface_types (P := Tryd.prog) 115 106 (.pointer (some ⟨b0, 0, none⟩)) (.int .i64 c) Tryd.underlying32 (by decide) w
  have hty1 := run_eql_iface_types (P := Tryd.prog) 115 106 (.pointer (some ⟨b1, 0, none⟩)) (.int .i64 c) Tryd.underlying32 (by decide) w
  go_enter Tryd.func60, Tryd.ntmps60
  go_wp2
  refine wp_loop_rounds 3 ?_
  rw [rounds_succ]
  go_wp2
  rw [rounds_succ]
  go_wp2
  rw [rounds_succ]
  go_wp2
  go_ret
  exact ⟨rfl, rfl⟩

set_option maxRecDepth 100000 in
set_option maxHeartbeats 4000000 in
theorem e_is3 (b0 b1 b2 : Nat) (c : Int) (w : World) (h0 : w.cell? ⟨b0, 2, none⟩ = some (.iface 115 (.pointer (some ⟨b1, 0, none⟩)))) (h1 : w.cell? ⟨b1, 2, none⟩ = some (.iface 115 (.pointer (some ⟨b2, 0, none⟩)))) (h2 : w.cell? ⟨b2, 2, none⟩ = some (.iface 106 (.int .i64 c))) :
    Calls Tryd.prog 60 #[.iface 115 (.pointer (some ⟨b0, 0, none⟩)), .iface 106 (.int .i64 c)] w fun e w' => e = .returned (.bool true) ∧ w' = w := by
  have h8 := @run_callFunc_extern Tryd.prog 75 _ ReflectliteType.typeOf Tryd.func75 (by kernel_rfl) (by kernel_rfl) (by kernel_rfl) (by kernel_rfl)
  have h32 := @run_callFunc_extern Tryd.prog 108 _ (ReflectliteType.method fun t => do Rtype.noPackHeld "Comparable" t; pure (.bool (← typeInfo t).comparable)) Tryd.func108 (by kernel_rfl) (by kernel_rfl) (by kernel_rfl) (by kernel_rfl)
  have tT := e_typeOf106
  have cT := e_comparable106
  have mR := e_methodComparable
  have nE := e_noIs
  have uE := e_hasUnwrap
  have mU := e_methodUnwrap
  have heq := e_eqInt c w
  have hty0 := run_eql_iface_types (P := Tryd.prog) 115 106 (.pointer (some ⟨b0, 0, none⟩)) (.int .i64 c) Tryd.underlying32 (by decide) w
  have hty1 := run_eql_iface_types (P := Tryd.prog) 115 106 (.pointer (some ⟨b1, 0, none⟩)) (.int .i64 c) Tryd.underlying32 (by decide) w
  have hty2 := run_eql_iface_types (P := Tryd.prog) 115 106 (.pointer (some ⟨b2, 0, none⟩)) (.int .i64 c) Tryd.underlying32 (by decide) w
  go_enter Tryd.func60, Tryd.ntmps60
  go_wp2
  refine wp_loop_rounds 4 ?_
  rw [rounds_succ]
  go_wp2
  rw [rounds_succ]
  go_wp2
  rw [rounds_succ]
  go_wp2
  rw [rounds_succ]
  go_wp2
  go_ret
  exact ⟨rfl, rfl⟩

set_option maxRecDepth 100000 in
set_option maxHeartbeats 4000000 in
theorem e_is4 (b0 b1 b2 b3 : Nat) (c : Int) (w : World) (h0 : w.cell? ⟨b0, 2, none⟩ = some (.iface 115 (.pointer (some ⟨b1, 0, none⟩)))) (h1 : w.cell? ⟨b1, 2, none⟩ = some (.iface 115 (.pointer (some ⟨b2, 0, none⟩)))) (h2 : w.cell? ⟨b2, 2, none⟩ = some (.iface 115 (.pointer (some ⟨b3, 0, none⟩)))) (h3 : w.cell? ⟨b3, 2, none⟩ = some (.iface 106 (.int .i64 c))) :
    Calls Tryd.prog 60 #[.iface 115 (.pointer (some ⟨b0, 0, none⟩)), .iface 106 (.int .i64 c)] w fun e w' => e = .returned (.bool true) ∧ w' = w := by
  have h8 := @run_callFunc_extern Tryd.prog 75 _ ReflectliteType.typeOf Tryd.func75 (by kernel_rfl) (by kernel_rfl) (by kernel_rfl) (by kernel_rfl)
  have h32 := @run_callFunc_extern Tryd.prog 108 _ (ReflectliteType.method fun t => do Rtype.noPackHeld "Comparable" t; pure (.bool (← typeInfo t).comparable)) Tryd.func108 (by kernel_rfl) (by kernel_rfl) (by kernel_rfl) (by kernel_rfl)
  have tT := e_typeOf106
  have cT := e_comparable106
  have mR := e_methodComparable
  have nE := e_noIs
  have uE := e_hasUnwrap
  have mU := e_methodUnwrap
  have heq := e_eqInt c w
  have hty0 := run_eql_iface_types (P := Tryd.prog) 115 106 (.pointer (some ⟨b0, 0, none⟩)) (.int .i64 c) Tryd.underlying32 (by decide) w
  have hty1 := run_eql_iface_types (P := Tryd.prog) 115 106 (.pointer (some ⟨b1, 0, none⟩)) (.int .i64 c) Tryd.underlying32 (by decide) w
  have hty2 := run_eql_iface_types (P := Tryd.prog) 115 106 (.pointer (some ⟨b2, 0, none⟩)) (.int .i64 c) Tryd.underlying32 (by decide) w
  have hty3 := run_eql_iface_types (P := Tryd.prog) 115 106 (.pointer (some ⟨b3, 0, none⟩)) (.int .i64 c) Tryd.underlying32 (by decide) w
  go_enter Tryd.func60, Tryd.ntmps60
  go_wp2
  refine wp_loop_rounds 5 ?_
  rw [rounds_succ]
  go_wp2
  rw [rounds_succ]
  go_wp2
  rw [rounds_succ]
  go_wp2
  rw [rounds_succ]
  go_wp2
  rw [rounds_succ]
  go_wp2
  go_ret
  exact ⟨rfl, rfl⟩

end Go.Proofs.YtojpokpdfbgelaaDoor