/- errors.Is and errors.As at the errors of this program: Go's own text walked (after the kit's worked example). -/
import Derived.Test.YtinnalkalpnmjaaDoorProg
import Derived.WalkKit
import Derived.LaidEql
import Derived.Stop.Asserts
import Derived.RowKitTokens
set_option linter.unusedVariables false
set_option linter.unusedSimpArgs false
namespace Go.Proofs.YtinnalkalpnmjaaDoor
open Go.RowKit Go.Extern.Stop Go.Stop Go.Extern

theorem rlm (z : Sem Value) (f : TypeId → Addr → Nat → Nat → Sem Value) (v : Value) :
    ReflectliteValue.method z f #[v] = (do match ← ReflectliteValue.parts v with | none => z | some (t, a, fl) => f t a fl (fl % 32)) := rfl
theorem rls (v x : Value) : ReflectliteValue.set #[v, x] = (do
    let (some (dst, a, fl), some (src, b, _)) := (← ReflectliteValue.parts v, ← ReflectliteValue.parts x)
      | unsupported (.noEntry "extern/(internal/reflectlite.Value).Set.zeroValue")
    if fl / ReflectliteValue.flagAddr % 2 == 0 then unsupported (.noEntry "extern/(internal/reflectlite.Value).Set.unaddressable")
    let val ← loadVar src b
    if ← Rtype.directlyAssignable dst src then storeVar dst a val
    else if ← Rtype.implements dst src then
      if (← Rtype.kind src) == 20 then
        match val with
        | .nilIface => unsupported (.noEntry "extern/reflectlite: a nil value of one interface type handed on as a value of another")
        | _ => storeVar dst a val
      else storeVar dst a (.iface src val)
    else panicString ("reflectlite.Set: value of type " ++ (← Rtype.spelt src) ++ " is not assignable to type " ++ (← Rtype.spelt dst))
    pure (.tuple #[])) := rfl

theorem e_methodKind (h : Value) (w : World) : (Go.method 270 126 (.agg #[h]) "Kind").run Tryd.prog w = .ok (90, h) w := by kernel_rfl
theorem e_methodElem (h : Value) (w : World) : (Go.method 270 126 (.agg #[h]) "Elem").run Tryd.prog w = .ok (102, .agg #[h]) w := by kernel_rfl
theorem e_methodImplements (h : Value) (w : World) : (Go.method 270 126 (.agg #[h]) "Implements").run Tryd.prog w = .ok (103, .agg #[h]) w := by kernel_rfl
theorem e_methodAssignableTo (h : Value) (w : World) : (Go.method 270 126 (.agg #[h]) "AssignableTo").run Tryd.prog w = .ok (100, .agg #[h]) w := by kernel_rfl
theorem e_methodComparable (h : Value) (w : World) : (Go.method 270 126 (.agg #[h]) "Comparable").run Tryd.prog w = .ok (101, .agg #[h]) w := by kernel_rfl
theorem e_valueOf79 (t : Addr) (w : World) : (ReflectliteValue.unpack (.iface 79 (.pointer (some t)))).run Tryd.prog w
    = .ok (.agg #[.pointer (some ⟨1, 79, none⟩), .pointer (some ⟨w.heap.size, 0, none⟩), .int .u64 150]) (w.alloc (.cells #[.pointer (some t)] 79)) := by kernel_rfl
theorem e_type79 (a : Addr) (w : World) : (ReflectliteValue.methodAny (ReflectliteValue.valueError "reflectlite.Value.Type" 0) (fun t _ _ _ => ReflectliteType.toType t) #[.agg #[.pointer (some ⟨1, 79, none⟩), .pointer (some a), .int .u64 150]]).run Tryd.prog w
    = .ok (.iface 126 (.agg #[.pointer (some ⟨1, 79, none⟩)])) w := by kernel_rfl
theorem e_kind79 (w : World) : ((ReflectliteType.abiMethod fun t => (fun a : Nat => Value.int IntKind.u8 (a : Int)) <$> Rtype.kind t) #[.pointer (some ⟨1, 79, none⟩)]).run Tryd.prog w = .ok (.int .u8 22) w := by kernel_rfl
theorem e_kind77 (w : World) : ((ReflectliteType.abiMethod fun t => (fun a : Nat => Value.int IntKind.u8 (a : Int)) <$> Rtype.kind t) #[.pointer (some ⟨1, 77, none⟩)]).run Tryd.prog w = .ok (.int .u8 22) w := by kernel_rfl
theorem e_parts79 (a : Addr) (w : World) : (ReflectliteValue.parts (.agg #[.pointer (some ⟨1, 79, none⟩), .pointer (some a), .int .u64 150])).run Tryd.prog w = .ok (some (79, a, 150)) w := by kernel_rfl
theorem e_isNil79 (a p : Addr) (W : World) (ha : W.cell? a = some (.pointer (some p))) :
    (ReflectliteValue.method (ReflectliteValue.valueError "reflectlite.Value.IsNil" 0) ReflectliteValue.isNil #[.agg #[.pointer (some ⟨1, 79, none⟩), .pointer (some a), .int .u64 150]]).run Tryd.prog W = .ok (.bool false) W := by
  rw [rlm]
  simp only [Sem.run_bind, e_parts79, Result.andThen]
  simp [ReflectliteValue.isNil, loadVar, isAgg, underlying, Tryd.underlying79, ha, Result.andThen]
theorem e_elem79 (w : World) : (ReflectliteType.method ReflectliteType.elem #[.agg #[.pointer (some ⟨1, 79, none⟩)]]).run Tryd.prog w = .ok (.iface 126 (.agg #[.pointer (some ⟨1, 77, none⟩)])) w := by kernel_rfl
theorem e_implements77 (w : World) : (ReflectliteType.relation "Implements" ReflectliteType.implements_ #[.agg #[.pointer (some ⟨1, 77, none⟩)], .iface 126 (.agg #[.pointer (some ⟨1, 31, none⟩)])]).run Tryd.prog w = .ok (.bool true) w := by kernel_rfl
theorem e_typeOf77 (v : Value) (w : World) : (ReflectliteType.typeOf #[.iface 77 v]).run Tryd.prog w = .ok (.iface 126 (.agg #[.pointer (some ⟨1, 77, none⟩)])) w := by kernel_rfl
theorem e_assignable77 (w : World) : (ReflectliteType.relation "AssignableTo" ReflectliteType.assignableTo #[.agg #[.pointer (some ⟨1, 77, none⟩)], .iface 126 (.agg #[.pointer (some ⟨1, 77, none⟩)])]).run Tryd.prog w = .ok (.bool true) w := by kernel_rfl
theorem e_elemOf79 (w : World) : (Rtype.elem? 79).run Tryd.prog w = .ok (some 77) w := by kernel_rfl
theorem e_mk77 (p : Addr) (w : World) : (ReflectliteValue.mk 77 p ReflectliteValue.flagAddr).run Tryd.prog w = .ok (.agg #[.pointer (some ⟨1, 77, none⟩), .pointer (some p), .int .u64 406]) w := by kernel_rfl
theorem e_elemV79 (a p : Addr) (W : World) (ha : W.cell? a = some (.pointer (some p))) :
    (ReflectliteValue.method (ReflectliteValue.valueError "reflectlite.Value.Elem" 0) ReflectliteValue.elem #[.agg #[.pointer (some ⟨1, 79, none⟩), .pointer (some a), .int .u64 150]]).run Tryd.prog W
      = .ok (.agg #[.pointer (some ⟨1, 77, none⟩), .pointer (some p), .int .u64 406]) W := by
  rw [rlm]
  simp only [Sem.run_bind, e_parts79, Result.andThen]
  simp [ReflectliteValue.elem, loadVar, isAgg, underlying, Tryd.underlying79, ha, Result.andThen, e_elemOf79, e_mk77]
theorem e_parts77a (a : Addr) (w : World) : (ReflectliteValue.parts (.agg #[.pointer (some ⟨1, 77, none⟩), .pointer (some a), .int .u64 406])).run Tryd.prog w = .ok (some (77, a, 406)) w := by kernel_rfl
theorem e_parts77 (a : Addr) (w : World) : (ReflectliteValue.parts (.agg #[.pointer (some ⟨1, 77, none⟩), .pointer (some a), .int .u64 150])).run Tryd.prog w = .ok (some (77, a, 150)) w := by kernel_rfl
theorem e_direct77 (w : World) : (Rtype.directlyAssignable 77 77).run Tryd.prog w = .ok true w := by kernel_rfl
theorem e_size77 (w : World) : (sizeOf 77).run Tryd.prog w = .ok 1 w := by kernel_rfl

theorem e_valueOf84 (t : Addr) (w : World) : (ReflectliteValue.unpack (.iface 84 (.pointer (some t)))).run Tryd.prog w
    = .ok (.agg #[.pointer (some ⟨1, 84, none⟩), .pointer (some ⟨w.heap.size, 0, none⟩), .int .u64 150]) (w.alloc (.cells #[.pointer (some t)] 84)) := by kernel_rfl
theorem e_type84 (a : Addr) (w : World) : (ReflectliteValue.methodAny (ReflectliteValue.valueError "reflectlite.Value.Type" 0) (fun t _ _ _ => ReflectliteType.toType t) #[.agg #[.pointer (some ⟨1, 84, none⟩), .pointer (some a), .int .u64 150]]).run Tryd.prog w
    = .ok (.iface 126 (.agg #[.pointer (some ⟨1, 84, none⟩)])) w := by kernel_rfl
theorem e_kind84 (w : World) : ((ReflectliteType.abiMethod fun t => (fun a : Nat => Value.int IntKind.u8 (a : Int)) <$> Rtype.kind t) #[.pointer (some ⟨1, 84, none⟩)]).run Tryd.prog w = .ok (.int .u8 22) w := by kernel_rfl
theorem e_kind76 (w : World) : ((ReflectliteType.abiMethod fun t => (fun a : Nat => Value.int IntKind.u8 (a : Int)) <$> Rtype.kind t) #[.pointer (some ⟨1, 76, none⟩)]).run Tryd.prog w = .ok (.int .u8 2) w := by kernel_rfl
theorem e_parts84 (a : Addr) (w : World) : (ReflectliteValue.parts (.agg #[.pointer (some ⟨1, 84, none⟩), .pointer (some a), .int .u64 150])).run Tryd.prog w = .ok (some (84, a, 150)) w := by kernel_rfl
theorem e_isNil84 (a p : Addr) (W : World) (ha : W.cell? a = some (.pointer (some p))) :
    (ReflectliteValue.method (ReflectliteValue.valueError "reflectlite.Value.IsNil" 0) ReflectliteValue.isNil #[.agg #[.pointer (some ⟨1, 84, none⟩), .pointer (some a), .int .u64 150]]).run Tryd.prog W = .ok (.bool false) W := by
  rw [rlm]
  simp only [Sem.run_bind, e_parts84, Result.andThen]
  simp [ReflectliteValue.isNil, loadVar, isAgg, underlying, Tryd.underlying84, ha, Result.andThen]
theorem e_elem84 (w : World) : (ReflectliteType.method ReflectliteType.elem #[.agg #[.pointer (some ⟨1, 84, none⟩)]]).run Tryd.prog w = .ok (.iface 126 (.agg #[.pointer (some ⟨1, 76, none⟩)])) w := by kernel_rfl
theorem e_implements76 (w : World) : (ReflectliteType.relation "Implements" ReflectliteType.implements_ #[.agg #[.pointer (some ⟨1, 76, none⟩)], .iface 126 (.agg #[.pointer (some ⟨1, 31, none⟩)])]).run Tryd.prog w = .ok (.bool true) w := by kernel_rfl
theorem e_typeOf76 (v : Value) (w : World) : (ReflectliteType.typeOf #[.iface 76 v]).run Tryd.prog w = .ok (.iface 126 (.agg #[.pointer (some ⟨1, 76, none⟩)])) w := by kernel_rfl
theorem e_assignable76 (w : World) : (ReflectliteType.relation "AssignableTo" ReflectliteType.assignableTo #[.agg #[.pointer (some ⟨1, 76, none⟩)], .iface 126 (.agg #[.pointer (some ⟨1, 76, none⟩)])]).run Tryd.prog w = .ok (.bool true) w := by kernel_rfl
theorem e_elemOf84 (w : World) : (Rtype.elem? 84).run Tryd.prog w = .ok (some 76) w := by kernel_rfl
theorem e_mk76 (p : Addr) (w : World) : (ReflectliteValue.mk 76 p ReflectliteValue.flagAddr).run Tryd.prog w = .ok (.agg #[.pointer (some ⟨1, 76, none⟩), .pointer (some p), .int .u64 386]) w := by kernel_rfl
theorem e_elemV84 (a p : Addr) (W : World) (ha : W.cell? a = some (.pointer (some p))) :
    (ReflectliteValue.method (ReflectliteValue.valueError "reflectlite.Value.Elem" 0) ReflectliteValue.elem #[.agg #[.pointer (some ⟨1, 84, none⟩), .pointer (some a), .int .u64 150]]).run Tryd.prog W
      = .ok (.agg #[.pointer (some ⟨1, 76, none⟩), .pointer (some p), .int .u64 386]) W := by
  rw [rlm]
  simp only [Sem.run_bind, e_parts84, Result.andThen]
  simp [ReflectliteValue.elem, loadVar, isAgg, underlying, Tryd.underlying84, ha, Result.andThen, e_elemOf84, e_mk76]
theorem e_parts76a (a : Addr) (w : World) : (ReflectliteValue.parts (.agg #[.pointer (some ⟨1, 76, none⟩), .pointer (some a), .int .u64 386])).run Tryd.prog w = .ok (some (76, a, 386)) w := by kernel_rfl
theorem e_parts76 (a : Addr) (w : World) : (ReflectliteValue.parts (.agg #[.pointer (some ⟨1, 76, none⟩), .pointer (some a), .int .u64 130])).run Tryd.prog w = .ok (some (76, a, 130)) w := by kernel_rfl
theorem e_direct76 (w : World) : (Rtype.directlyAssignable 76 76).run Tryd.prog w = .ok true w := by kernel_rfl
theorem e_size76 (w : World) : (sizeOf 76).run Tryd.prog w = .ok 1 w := by kernel_rfl

theorem e_valueOf77 (e : Addr) (w : World) : (ReflectliteValue.unpack (.iface 77 (.pointer (some e)))).run Tryd.prog w
    = .ok (.agg #[.pointer (some ⟨1, 77, none⟩), .pointer (some ⟨w.heap.size, 0, none⟩), .int .u64 150]) (w.alloc (.cells #[.pointer (some e)] 77)) := by kernel_rfl
theorem e_set77 (ta b : Addr) (e : Addr) (old : Value) (W : World) (hb : W.cell? b = some (.pointer (some e))) (ht : W.cell? ta = some old) (hf : W.frozen? ta = false) :
    (ReflectliteValue.set #[.agg #[.pointer (some ⟨1, 77, none⟩), .pointer (some ta), .int .u64 406], .agg #[.pointer (some ⟨1, 77, none⟩), .pointer (some b), .int .u64 150]]).run Tryd.prog W
      = .ok (.tuple #[]) (W.setCell ta (.pointer (some e))) := by
  rw [rls]
  simp only [Sem.run_bind, e_parts77a, e_parts77, Result.andThen]
  simp [ReflectliteValue.flagAddr, loadVar, isAgg, underlying, Tryd.underlying77, hb, Result.andThen, e_direct77, storeVar, Value.cells, storeCells, Addr.add]
  rw [run_store Tryd.prog W ta _ _ (by rfl)]
  simp [ht, hf]

theorem e_valueOf76 (e : Int) (w : World) : (ReflectliteValue.unpack (.iface 76 (.int .i64 e))).run Tryd.prog w
    = .ok (.agg #[.pointer (some ⟨1, 76, none⟩), .pointer (some ⟨w.heap.size, 0, none⟩), .int .u64 130]) (w.alloc (.cells #[.int .i64 e] 76)) := by kernel_rfl
theorem e_set76 (ta b : Addr) (e : Int) (old : Value) (W : World) (hb : W.cell? b = some (.int .i64 e)) (ht : W.cell? ta = some old) (hf : W.frozen? ta = false) :
    (ReflectliteValue.set #[.agg #[.pointer (some ⟨1, 76, none⟩), .pointer (some ta), .int .u64 386], .agg #[.pointer (some ⟨1, 76, none⟩), .pointer (some b), .int .u64 130]]).run Tryd.prog W
      = .ok (.tuple #[]) (W.setCell ta (.int .i64 e)) := by
  rw [rls]
  simp only [Sem.run_bind, e_parts76a, e_parts76, Result.andThen]
  simp [ReflectliteValue.flagAddr, loadVar, isAgg, underlying, Tryd.underlying76, hb, Result.andThen, e_direct76, storeVar, Value.cells, storeCells, Addr.add]
  rw [run_store Tryd.prog W ta _ _ (by rfl)]
  simp [ht, hf]

theorem e_assignMiss (w : World) : (ReflectliteType.relation "AssignableTo" ReflectliteType.assignableTo #[.agg #[.pointer (some ⟨1, 76, none⟩)], .iface 126 (.agg #[.pointer (some ⟨1, 77, none⟩)])]).run Tryd.prog w = .ok (.bool false) w := by kernel_rfl
theorem e_comparable76 (w : World) : ((ReflectliteType.method fun t => do Rtype.noPackHeld "Comparable" t; (fun a => Value.bool a.comparable) <$> typeInfo t) #[.agg #[.pointer (some ⟨1, 76, none⟩)]]).run Tryd.prog w = .ok (.bool true) w := by kernel_rfl
theorem e_methodUnwrap (v : Value) (w : World) : (Go.method 270 77 v "Unwrap").run Tryd.prog w = .ok (95, v) w := by kernel_rfl
theorem e_noIs (v : Value) (xT : TypeId) (w : World) : (Instr.typeAssert (.iface 77 v) xT 128 true).run Tryd.prog w = .ok (.tuple #[.nilIface, .bool false]) w := run_typeAssert_lacksB Tryd.underlying128 (by kernel_rfl) (by kernel_rfl) v xT w
theorem e_hasUnwrap (v : Value) (xT : TypeId) (w : World) : (Instr.typeAssert (.iface 77 v) xT 131 true).run Tryd.prog w = .ok (.tuple #[.iface 77 v, .bool true]) w := run_typeAssert_hasB Tryd.underlying131 (by kernel_rfl) v xT w
theorem e_noAs (v : Value) (xT : TypeId) (w : World) : (Instr.typeAssert (.iface 76 v) xT 138 true).run Tryd.prog w = .ok (.tuple #[.nilIface, .bool false]) w := run_typeAssert_lacksB Tryd.underlying138 (by kernel_rfl) (by kernel_rfl) v xT w
theorem e_noUnwrap (v : Value) (xT : TypeId) (w : World) : (Instr.typeAssert (.iface 76 v) xT 131 true).run Tryd.prog w = .ok (.tuple #[.nilIface, .bool false]) w := run_typeAssert_lacksB Tryd.underlying131 (by kernel_rfl) (by kernel_rfl) v xT w
theorem e_noUnwraps (v : Value) (xT : TypeId) (w : World) : (Instr.typeAssert (.iface 76 v) xT 133 true).run Tryd.prog w = .ok (.tuple #[.nilIface, .bool false]) w := run_typeAssert_lacksB Tryd.underlying133 (by kernel_rfl) (by kernel_rfl) v xT w
theorem e_comp : (Tryd.prog.info? 76).map (·.comparable) = some true := by kernel_rfl
theorem e_eqInt (c : Int) (w : World) : (binOp .eql 31 (.iface 76 (.int .i64 c)) (.iface 76 (.int .i64 c))).run Tryd.prog w = .ok (.bool true) w := by
  obtain ⟨i, hi, hcmp⟩ := Option.map_eq_some_iff.1 e_comp
  have h : ∀ d : Nat, (Op.equalIn (d + 2) 31 (.iface 76 (.int .i64 c)) (.iface 76 (.int .i64 c))).run Tryd.prog w = .ok true w := fun d => by
    simp [Op.equalIn, run_underlying Tryd.underlying31, run_underlying Tryd.underlying76, typeInfo, hi, hcmp]
  simp only [binOp]
  simp [Op.equal, Op.maxDepth, h 9998]

set_option maxRecDepth 100000 in
set_option maxHeartbeats 4000000 in
theorem e_as_fault (e : Addr) (t : Addr) (old : Value) (w : World) (hg : w.cell? ⟨0, 0, none⟩ = some (.iface 126 (.agg #[.pointer (some ⟨1, 31, none⟩)]))) (ht0 : w.cell? t = some old) (hf0 : w.frozen? t = false) :
    Calls Tryd.prog 38 #[.iface 77 (.pointer (some e)), .iface 79 (.pointer (some t))] w fun ev w' => ev = .returned (.bool true) ∧ w' = (((((w.alloc (.cells #[.pointer (some t)] 79)).alloc (.cells #[.pointer (some ⟨1, 79, none⟩), .pointer (some ⟨w.heap.size, 0, none⟩), .int .u64 150] 113)).alloc (.cells #[.pointer (some ⟨1, 79, none⟩), .pointer (some ⟨w.heap.size, 0, none⟩), .int .u64 150] 113))).alloc (.cells #[.pointer (some e)] 77)).setCell t (.pointer (some e)) := by
  have h6 := @run_callFunc_extern Tryd.prog 64 _ (fun args => ReflectliteValue.unpack (args.getD 0 (.tuple #[]))) Tryd.func64 (by kernel_rfl) (by kernel_rfl) (by kernel_rfl) (by kernel_rfl)
  have h7 := @run_callFunc_extern Tryd.prog 65 _ (ReflectliteValue.methodAny (ReflectliteValue.valueError "reflectlite.Value.Type" 0) (fun t _ _ _ => ReflectliteType.toType t)) Tryd.func65 (by kernel_rfl) (by kernel_rfl) (by kernel_rfl) (by kernel_rfl)
  have h8 := @run_callFunc_extern Tryd.prog 66 _ (ReflectliteValue.method (ReflectliteValue.valueError "reflectlite.Value.IsNil" 0) ReflectliteValue.isNil) Tryd.func66 (by kernel_rfl) (by kernel_rfl) (by kernel_rfl) (by kernel_rfl)
  have h27 := @run_callFunc_extern Tryd.prog 90 _ (ReflectliteType.abiMethod fun t => do pure (.int .u8 (← Rtype.kind t))) Tryd.func90 (by kernel_rfl) (by kernel_rfl) (by kernel_rfl) (by kernel_rfl)
  have h37 := @run_callFunc_extern Tryd.prog 102 _ (ReflectliteType.method ReflectliteType.elem) Tryd.func102 (by kernel_rfl) (by kernel_rfl) (by kernel_rfl) (by kernel_rfl)
  have h38 := @run_callFunc_extern Tryd.prog 103 _ (ReflectliteType.relation "Implements" ReflectliteType.implements_) Tryd.func103 (by kernel_rfl) (by kernel_rfl) (by kernel_rfl) (by kernel_rfl)
  have h10 := @run_callFunc_extern Tryd.prog 62 _ ReflectliteType.typeOf Tryd.func62 (by kernel_rfl) (by kernel_rfl) (by kernel_rfl) (by kernel_rfl)
  have h35 := @run_callFunc_extern Tryd.prog 100 _ (ReflectliteType.relation "AssignableTo" ReflectliteType.assignableTo) Tryd.func100 (by kernel_rfl) (by kernel_rfl) (by kernel_rfl) (by kernel_rfl)
  have h11 := @run_callFunc_extern Tryd.prog 74 _ (ReflectliteValue.method (ReflectliteValue.valueError "reflectlite.Value.Elem" 0) ReflectliteValue.elem) Tryd.func74 (by kernel_rfl) (by kernel_rfl) (by kernel_rfl) (by kernel_rfl)
  have h12 := @run_callFunc_extern Tryd.prog 75 _ ReflectliteValue.set Tryd.func75 (by kernel_rfl) (by kernel_rfl) (by kernel_rfl) (by kernel_rfl)
  have a25 := e_assignable77
  have v25 := e_valueOf77
  have tO := e_typeOf77
  have mA := e_methodAssignableTo
  have f6 := e_valueOf79
  have f7 := e_type79
  have mK := e_methodKind
  have mE := e_methodElem
  have mI := e_methodImplements
  have k27 := e_kind79
  have k25 := e_kind77
  have e27 := e_elem79
  have i25 := e_implements77
  have n8 := e_isNil79 ⟨w.heap.size, 0, none⟩ t ((w.alloc (.cells #[.pointer (some t)] 79)).alloc (.cells #[.pointer (some ⟨1, 79, none⟩), .pointer (some ⟨w.heap.size, 0, none⟩), .int .u64 150] 113)) (by simp)
  have hlt : 0 < w.heap.size := by
    rcases Nat.lt_or_ge 0 w.heap.size with h | h
    · exact h
    · simp [World.cell?, Array.getElem?_eq_none h] at hg
  have hg2 : ((w.alloc (.cells #[.pointer (some t)] 79)).alloc (.cells #[.pointer (some ⟨1, 79, none⟩), .pointer (some ⟨w.heap.size, 0, none⟩), .int .u64 150] 113)).cell? ⟨0, 0, none⟩ = some (.iface 126 (.agg #[.pointer (some ⟨1, 31, none⟩)])) := by
    rw [World.cell?_alloc_lt _ _ ⟨0, 0, none⟩ (by first | (simp; done) | (simp; omega)), World.cell?_alloc_lt _ _ ⟨0, 0, none⟩ hlt]; exact hg
  have htl : t.block < w.heap.size := by
    rcases Nat.lt_or_ge t.block w.heap.size with h | h
    · exact h
    · simp [World.cell?, Array.getElem?_eq_none h] at ht0
  have el := e_elemV79 ⟨w.heap.size, 0, none⟩ t (((w.alloc (.cells #[.pointer (some t)] 79)).alloc (.cells #[.pointer (some ⟨1, 79, none⟩), .pointer (some ⟨w.heap.size, 0, none⟩), .int .u64 150] 113)).alloc (.cells #[.pointer (some ⟨1, 79, none⟩), .pointer (some ⟨w.heap.size, 0, none⟩), .int .u64 150] 113)) (by rw [World.cell?_alloc_lt _ _ ⟨w.heap.size, 0, none⟩ (by simp; omega)]; simp)
  have st := e_set77 t ⟨w.heap.size + 1 + 1 + 1, 0, none⟩ e old ((((w.alloc (.cells #[.pointer (some t)] 79)).alloc (.cells #[.pointer (some ⟨1, 79, none⟩), .pointer (some ⟨w.heap.size, 0, none⟩), .int .u64 150] 113)).alloc (.cells #[.pointer (some ⟨1, 79, none⟩), .pointer (some ⟨w.heap.size, 0, none⟩), .int .u64 150] 113)).alloc (.cells #[.pointer (some e)] 77))
    (by rw [World.cell?_alloc_at _ _ _ _ (by simp)]; rfl)
    (by rw [World.cell?_alloc_lt _ _ t (by simp; omega), World.cell?_alloc_lt _ _ t (by simp; omega), World.cell?_alloc_lt _ _ t (by simp; omega), World.cell?_alloc_lt _ _ t htl]; exact ht0)
    (by rw [World.frozen?_alloc_old _ _ t (by simp; omega), World.frozen?_alloc_old _ _ t (by simp; omega), World.frozen?_alloc_old _ _ t (by simp; omega), World.frozen?_alloc_old _ _ t (Nat.ne_of_lt htl)]; exact hf0)
  go_enter Tryd.func38, Tryd.ntmps38
  go_wp2
  refine wp_loop_rounds 1 ?_
  rw [rounds_succ]
  go_wp2
  go_ret
  exact ⟨rfl, rfl⟩

set_option maxRecDepth 100000 in
set_option maxHeartbeats 4000000 in
theorem e_as_errno (e : Int) (t : Addr) (old : Value) (w : World) (hg : w.cell? ⟨0, 0, none⟩ = some (.iface 126 (.agg #[.pointer (some ⟨1, 31, none⟩)]))) (ht0 : w.cell? t = some old) (hf0 : w.frozen? t = false) :
    Calls Tryd.prog 38 #[.iface 76 (.int .i64 e), .iface 84 (.pointer (some t))] w fun ev w' => ev = .returned (.bool true) ∧ w' = (((((w.alloc (.cells #[.pointer (some t)] 84)).alloc (.cells #[.pointer (some ⟨1, 84, none⟩), .pointer (some ⟨w.heap.size, 0, none⟩), .int .u64 150] 113)).alloc (.cells #[.pointer (some ⟨1, 84, none⟩), .pointer (some ⟨w.heap.size, 0, none⟩), .int .u64 150] 113))).alloc (.cells #[.int .i64 e] 76)).setCell t (.int .i64 e) := by
  have h6 := @run_callFunc_extern Tryd.prog 64 _ (fun args => ReflectliteValue.unpack (args.getD 0 (.tuple #[]))) Tryd.func64 (by kernel_rfl) (by kernel_rfl) (by kernel_rfl) (by kernel_rfl)
  have h7 := @run_callFunc_extern Tryd.prog 65 _ (ReflectliteValue.methodAny (ReflectliteValue.valueError "reflectlite.Value.Type" 0) (fun t _ _ _ => ReflectliteType.toType t)) Tryd.func65 (by kernel_rfl) (by kernel_rfl) (by kernel_rfl) (by kernel_rfl)
  have h8 := @run_callFunc_extern Tryd.prog 66 _ (ReflectliteValue.method (ReflectliteValue.valueError "reflectlite.Value.IsNil" 0) ReflectliteValue.isNil) Tryd.func66 (by kernel_rfl) (by kernel_rfl) (by kernel_rfl) (by kernel_rfl)
  have h27 := @run_callFunc_extern Tryd.prog 90 _ (ReflectliteType.abiMethod fun t => do pure (.int .u8 (← Rtype.kind t))) Tryd.func90 (by kernel_rfl) (by kernel_rfl) (by kernel_rfl) (by kernel_rfl)
  have h37 := @run_callFunc_extern Tryd.prog 102 _ (ReflectliteType.method ReflectliteType.elem) Tryd.func102 (by kernel_rfl) (by kernel_rfl) (by kernel_rfl) (by kernel_rfl)
  have h38 := @run_callFunc_extern Tryd.prog 103 _ (ReflectliteType.relation "Implements" ReflectliteType.implements_) Tryd.func103 (by kernel_rfl) (by kernel_rfl) (by kernel_rfl) (by kernel_rfl)
  have h10 := @run_callFunc_extern Tryd.prog 62 _ ReflectliteType.typeOf Tryd.func62 (by kernel_rfl) (by kernel_rfl) (by kernel_rfl) (by kernel_rfl)
  have h35 := @run_callFunc_extern Tryd.prog 100 _ (ReflectliteType.relation "AssignableTo" ReflectliteType.assignableTo) Tryd.func100 (by kernel_rfl) (by kernel_rfl) (by kernel_rfl) (by kernel_rfl)
  have h11 := @run_callFunc_extern Tryd.prog 74 _ (ReflectliteValue.method (ReflectliteValue.valueError "reflectlite.Value.Elem" 0) ReflectliteValue.elem) Tryd.func74 (by kernel_rfl) (by kernel_rfl) (by kernel_rfl) (by kernel_rfl)
  have h12 := @run_callFunc_extern Tryd.prog 75 _ ReflectliteValue.set Tryd.func75 (by kernel_rfl) (by kernel_rfl) (by kernel_rfl) (by kernel_rfl)
  have a25 := e_assignable76
  have v25 := e_valueOf76
  have tO := e_typeOf76
  have mA := e_methodAssignableTo
  have f6 := e_valueOf84
  have f7 := e_type84
  have mK := e_methodKind
  have mE := e_methodElem
  have mI := e_methodImplements
  have k27 := e_kind84
  have k25 := e_kind76
  have e27 := e_elem84
  have i25 := e_implements76
  have n8 := e_isNil84 ⟨w.heap.size, 0, none⟩ t ((w.alloc (.cells #[.pointer (some t)] 84)).alloc (.cells #[.pointer (some ⟨1, 84, none⟩), .pointer (some ⟨w.heap.size, 0, none⟩), .int .u64 150] 113)) (by simp)
  have hlt : 0 < w.heap.size := by
    rcases Nat.lt_or_ge 0 w.heap.size with h | h
    · exact h
    · simp [World.cell?, Array.getElem?_eq_none h] at hg
  have hg2 : ((w.alloc (.cells #[.pointer (some t)] 84)).alloc (.cells #[.pointer (some ⟨1, 84, none⟩), .pointer (some ⟨w.heap.size, 0, none⟩), .int .u64 150] 113)).cell? ⟨0, 0, none⟩ = some (.iface 126 (.agg #[.pointer (some ⟨1, 31, none⟩)])) := by
    rw [World.cell?_alloc_lt _ _ ⟨0, 0, none⟩ (by first | (simp; done) | (simp; omega)), World.cell?_alloc_lt _ _ ⟨0, 0, none⟩ hlt]; exact hg
  have htl : t.block < w.heap.size := by
    rcases Nat.lt_or_ge t.block w.heap.size with h | h
    · exact h
    · simp [World.cell?, Array.getElem?_eq_none h] at ht0
  have el := e_elemV84 ⟨w.heap.size, 0, none⟩ t (((w.alloc (.cells #[.pointer (some t)] 84)).alloc (.cells #[.pointer (some ⟨1, 84, none⟩), .pointer (some ⟨w.heap.size, 0, none⟩), .int .u64 150] 113)).alloc (.cells #[.pointer (some ⟨1, 84, none⟩), .pointer (some ⟨w.heap.size, 0, none⟩), .int .u64 150] 113)) (by rw [World.cell?_alloc_lt _ _ ⟨w.heap.size, 0, none⟩ (by simp; omega)]; simp)
  have st := e_set76 t ⟨w.heap.size + 1 + 1 + 1, 0, none⟩ e old ((((w.alloc (.cells #[.pointer (some t)] 84)).alloc (.cells #[.pointer (some ⟨1, 84, none⟩), .pointer (some ⟨w.heap.size, 0, none⟩), .int .u64 150] 113)).alloc (.cells #[.pointer (some ⟨1, 84, none⟩), .pointer (some ⟨w.heap.size, 0, none⟩), .int .u64 150] 113)).alloc (.cells #[.int .i64 e] 76))
    (by rw [World.cell?_alloc_at _ _ _ _ (by simp)]; rfl)
    (by rw [World.cell?_alloc_lt _ _ t (by simp; omega), World.cell?_alloc_lt _ _ t (by simp; omega), World.cell?_alloc_lt _ _ t (by simp; omega), World.cell?_alloc_lt _ _ t htl]; exact ht0)
    (by rw [World.frozen?_alloc_old _ _ t (by simp; omega), World.frozen?_alloc_old _ _ t (by simp; omega), World.frozen?_alloc_old _ _ t (by simp; omega), World.frozen?_alloc_old _ _ t (Nat.ne_of_lt htl)]; exact hf0)
  go_enter Tryd.func38, Tryd.ntmps38
  go_wp2
  refine wp_loop_rounds 1 ?_
  rw [rounds_succ]
  go_wp2
  go_ret
  exact ⟨rfl, rfl⟩

set_option maxRecDepth 100000 in
set_option maxHeartbeats 4000000 in
theorem e_as_miss (e : Int) (t : Addr) (old : Value) (w : World) (hg : w.cell? ⟨0, 0, none⟩ = some (.iface 126 (.agg #[.pointer (some ⟨1, 31, none⟩)]))) (ht0 : w.cell? t = some old)  :
    Calls Tryd.prog 38 #[.iface 76 (.int .i64 e), .iface 79 (.pointer (some t))] w fun ev w' => ev = .returned (.bool false) ∧ w' = (((w.alloc (.cells #[.pointer (some t)] 79)).alloc (.cells #[.pointer (some ⟨1, 79, none⟩), .pointer (some ⟨w.heap.size, 0, none⟩), .int .u64 150] 113)).alloc (.cells #[.pointer (some ⟨1, 79, none⟩), .pointer (some ⟨w.heap.size, 0, none⟩), .int .u64 150] 113)) := by
  have h6 := @run_callFunc_extern Tryd.prog 64 _ (fun args => ReflectliteValue.unpack (args.getD 0 (.tuple #[]))) Tryd.func64 (by kernel_rfl) (by kernel_rfl) (by kernel_rfl) (by kernel_rfl)
  have h7 := @run_callFunc_extern Tryd.prog 65 _ (ReflectliteValue.methodAny (ReflectliteValue.valueError "reflectlite.Value.Type" 0) (fun t _ _ _ => ReflectliteType.toType t)) Tryd.func65 (by kernel_rfl) (by kernel_rfl) (by kernel_rfl) (by kernel_rfl)
  have h8 := @run_callFunc_extern Tryd.prog 66 _ (ReflectliteValue.method (ReflectliteValue.valueError "reflectlite.Value.IsNil" 0) ReflectliteValue.isNil) Tryd.func66 (by kernel_rfl) (by kernel_rfl) (by kernel_rfl) (by kernel_rfl)
  have h27 := @run_callFunc_extern Tryd.prog 90 _ (ReflectliteType.abiMethod fun t => do pure (.int .u8 (← Rtype.kind t))) Tryd.func90 (by kernel_rfl) (by kernel_rfl) (by kernel_rfl) (by kernel_rfl)
  have h37 := @run_callFunc_extern Tryd.prog 102 _ (ReflectliteType.method ReflectliteType.elem) Tryd.func102 (by kernel_rfl) (by kernel_rfl) (by kernel_rfl) (by kernel_rfl)
  have h38 := @run_callFunc_extern Tryd.prog 103 _ (ReflectliteType.relation "Implements" ReflectliteType.implements_) Tryd.func103 (by kernel_rfl) (by kernel_rfl) (by kernel_rfl) (by kernel_rfl)
  have h10 := @run_callFunc_extern Tryd.prog 62 _ ReflectliteType.typeOf Tryd.func62 (by kernel_rfl) (by kernel_rfl) (by kernel_rfl) (by kernel_rfl)
  have h35 := @run_callFunc_extern Tryd.prog 100 _ (ReflectliteType.relation "AssignableTo" ReflectliteType.assignableTo) Tryd.func100 (by kernel_rfl) (by kernel_rfl) (by kernel_rfl) (by kernel_rfl)
  have a25 := e_assignMiss
  have nA := e_noAs
  have nU := e_noUnwrap
  have nV := e_noUnwraps
  have tO := e_typeOf76
  have mA := e_methodAssignableTo
  have f6 := e_valueOf79
  have f7 := e_type79
  have mK := e_methodKind
  have mE := e_methodElem
  have mI := e_methodImplements
  have k27 := e_kind79
  have k25 := e_kind77
  have e27 := e_elem79
  have i25 := e_implements77
  have n8 := e_isNil79 ⟨w.heap.size, 0, none⟩ t ((w.alloc (.cells #[.pointer (some t)] 79)).alloc (.cells #[.pointer (some ⟨1, 79, none⟩), .pointer (some ⟨w.heap.size, 0, none⟩), .int .u64 150] 113)) (by simp)
  have hlt : 0 < w.heap.size := by
    rcases Nat.lt_or_ge 0 w.heap.size with h | h
    · exact h
    · simp [World.cell?, Array.getElem?_eq_none h] at hg
  have hg2 : ((w.alloc (.cells #[.pointer (some t)] 79)).alloc (.cells #[.pointer (some ⟨1, 79, none⟩), .pointer (some ⟨w.heap.size, 0, none⟩), .int .u64 150] 113)).cell? ⟨0, 0, none⟩ = some (.iface 126 (.agg #[.pointer (some ⟨1, 31, none⟩)])) := by
    rw [World.cell?_alloc_lt _ _ ⟨0, 0, none⟩ (by first | (simp; done) | (simp; omega)), World.cell?_alloc_lt _ _ ⟨0, 0, none⟩ hlt]; exact hg
  go_enter Tryd.func38, Tryd.ntmps38
  go_wp2
  refine wp_loop_rounds 1 ?_
  rw [rounds_succ]
  go_wp2
  go_ret
  exact ⟨rfl, rfl⟩

set_option maxRecDepth 100000 in
set_option maxHeartbeats 4000000 in
theorem e_is1 (b0 : Nat) (c : Int) (w : World) (h0 : w.cell? ⟨b0, 2, none⟩ = some (.iface 76 (.int .i64 c))) :
    Calls Tryd.prog 37 #[.iface 77 (.pointer (some ⟨b0, 0, none⟩)), .iface 76 (.int .i64 c)] w fun e w' => e = .returned (.bool true) ∧ w' = w := by
  have h8 := @run_callFunc_extern Tryd.prog 62 _ ReflectliteType.typeOf Tryd.func62 (by kernel_rfl) (by kernel_rfl) (by kernel_rfl) (by kernel_rfl)
  have h32 := @run_callFunc_extern Tryd.prog 101 _ (ReflectliteType.method fun t => do Rtype.noPackHeld "Comparable" t; pure (.bool (← typeInfo t).comparable)) Tryd.func101 (by kernel_rfl) (by kernel_rfl) (by kernel_rfl) (by kernel_rfl)
  have tT := e_typeOf76
  have cT := e_comparable76
  have mR := e_methodComparable
  have nE := e_noIs
  have uE := e_hasUnwrap
  have mU := e_methodUnwrap
  have heq := e_eqInt c w
  have hty0 := run_eql_iface_types (P := Tryd.prog) 77 76 (.pointer (some ⟨b0, 0, none⟩)) (.int .i64 c) Tryd.underlying31 (by decide) w
  go_enter Tryd.func37, Tryd.ntmps37
  go_wp2
  refine wp_loop_rounds 2 ?_
  rw [rounds_succ]
  go_wp2
  rw [rounds_succ]
  go_wp2
  go_ret
  exact ⟨rfl, rfl⟩

set_option maxRecDepth 100000 in
set_option maxHeartbeats 4000000 in
theorem e_is2 (b0 b1 : Nat) (c : Int) (w : World) (h0 : w.cell? ⟨b0, 2, none⟩ = some (.iface 77 (.pointer (some ⟨b1, 0, none⟩)))) (h1 : w.cell? ⟨b1, 2, none⟩ = some (.iface 76 (.int .i64 c))) :
    Calls Tryd.prog 37 #[.iface 77 (.pointer (some ⟨b0, 0, none⟩)), .iface 76 (.int .i64 c)] w fun e w' => e = .returned (.bool true) ∧ w' = w := by
  have h8 := @run_callFunc_extern Tryd.prog 62 _ ReflectliteType.typeOf Tryd.func62 (by kernel_rfl) (by kernel_rfl) (by kernel_rfl) (by kernel_rfl)
  have h32 := @run_callFunc_extern Tryd.prog 101 _ (ReflectliteType.method fun t => do Rtype.noPackHeld "Comparable" t; pure (.bool (← typeInfo t).comparable)) Tryd.func101 (by kernel_rfl) (by kernel_rfl) (by kernel_rfl) (by kernel_rfl)
  have tT := e_typeOf76
  have cT := e_comparable76
  have mR := e_methodComparable
  have nE := e_noIs
  have uE := e_hasUnwrap
  have mU := e_methodUnwrap
  have heq := e_eqInt c w
  have hty0 := run_eql_iface_types (P := Tryd.prog) 77 76 (.pointer (some ⟨b0, 0, none⟩)) (.int .i64 c) Tryd.underlying31 (by decide) w
  have hty1 := run_eql_iface_types (P := Tryd.prog) 77 76 (.pointer (some ⟨b1, 0, none⟩)) (.int .i64 c) Tryd.underlying31 (by decide) w
  go_enter Tryd.func37, Tryd.ntmps37
  go_wp2
  refine wp_loop_rounds 3 ?_
  rw [rounds_succ]
  go_wp2
  rw [rounds_succ]
  go_wp2
  rw [rounds_succ]
  go_wp2
  go_ret
  exact ⟨rfl, rfl⟩

set_option maxRecDepth 100000 in
set_option maxHeartbeats 4000000 in
theorem e_is3 (b0 b1 b2 : Nat) (c : Int) (w : World) (h0 : w.cell? ⟨b0, 2, none⟩ = some (.iface 77 (.pointer (some ⟨b1, 0, none⟩)))) (h1 : w.cell? ⟨b1, 2, none⟩ = some (.iface 77 (.pointer (some ⟨b2, 0, none⟩)))) (h2 : w.cell? ⟨b2, 2, none⟩ = some (.iface 76 (.int .i64 c))) :
    Calls Tryd.prog 37 #[.iface 77 (.pointer (some ⟨b0, 0, none⟩)), .iface 76 (.int .i64 c)] w fun e w' => e = .returned (.bool true) ∧ w' = w := by
  have h8 := @run_callFunc_extern Tryd.prog 62 _ ReflectliteType.typeOf Tryd.func62 (by kernel_rfl) (by kernel_rfl) (by kernel_rfl) (by kernel_rfl)
  have h32 := @run_callFunc_extern Tryd.prog 101 _ (ReflectliteType.method fun t => do Rtype.noPackHeld "Comparable" t; pure (.bool (← typeInfo t).comparable)) Tryd.func101 (by kernel_rfl) (by kernel_rfl) (by kernel_rfl) (by kernel_rfl)
  have tT := e_typeOf76
  have cT := e_comparable76
  have mR := e_methodComparable
  have nE := e_noIs
  have uE := e_hasUnwrap
  have mU := e_methodUnwrap
  have heq := e_eqInt c w
  have hty0 := run_eql_iface_types (P := Tryd.prog) 77 76 (.pointer (some ⟨b0, 0, none⟩)) (.int .i64 c) Tryd.underlying31 (by decide) w
  have hty1 := run_eql_iface_types (P := Tryd.prog) 77 76 (.pointer (some ⟨b1, 0, none⟩)) (.int .i64 c) Tryd.underlying31 (by decide) w
  have hty2 := run_eql_iface_types (P := Tryd.prog) 77 76 (.pointer (some ⟨b2, 0, none⟩)) (.int .i64 c) Tryd.underlying31 (by decide) w
  go_enter Tryd.func37, Tryd.ntmps37
  go_wp2
  refine wp_loop_rounds 4 ?_
  rw [rounds_succ]
  go_wp2
  rw [rounds_succ]
  go_wp2
  rw [rounds_succ]
  go_wp2
  rw [rounds_succ]
  go_wp2
  go_ret
  exact ⟨rfl, rfl⟩

set_option maxRecDepth 100000 in
set_option maxHeartbeats 4000000 in
theorem e_is4 (b0 b1 b2 b3 : Nat) (c : Int) (w : World) (h0 : w.cell? ⟨b0, 2, none⟩ = some (.iface 77 (.pointer (some ⟨b1, 0, none⟩)))) (h1 : w.cell? ⟨b1, 2, none⟩ = some (.iface 77 (.pointer (some ⟨b2, 0, none⟩)))) (h2 : w.cell? ⟨b2, 2, none⟩ = some (.iface 77 (.pointer (some ⟨b3, 0, none⟩)))) (h3 : w.cell? ⟨b3, 2, none⟩ = some (.iface 76 (.int .i64 c))) :
    Calls Tryd.prog 37 #[.iface 77 (.pointer (some ⟨b0, 0, none⟩)), .iface 76 (.int .i64 c)] w fun e w' => e = .returned (.bool true) ∧ w' = w := by
  have h8 := @run_callFunc_extern Tryd.prog 62 _ ReflectliteType.typeOf Tryd.func62 (by kernel_rfl) (by kernel_rfl) (by kernel_rfl) (by kernel_rfl)
  have h32 := @run_callFunc_extern Tryd.prog 101 _ (ReflectliteType.method fun t => do Rtype.noPackHeld "Comparable" t; pure (.bool (← typeInfo t).comparable)) Tryd.func101 (by kernel_rfl) (by kernel_rfl) (by kernel_rfl) (by kernel_rfl)
  have tT := e_typeOf76
  have cT := e_comparable76
  have mR := e_methodComparable
  have nE := e_noIs
  have uE := e_hasUnwrap
  have mU := e_methodUnwrap
  have heq := e_eqInt c w
  have hty0 := run_eql_iface_types (P := Tryd.prog) 77 76 (.pointer (some ⟨b0, 0, none⟩)) (.int .i64 c) Tryd.underlying31 (by decide) w
  have hty1 := run_eql_iface_types (P := Tryd.prog) 77 76 (.pointer (some ⟨b1, 0, none⟩)) (.int .i64 c) Tryd.underlying31 (by decide) w
  have hty2 := run_eql_iface_types (P := Tryd.prog) 77 76 (.pointer (some ⟨b2, 0, none⟩)) (.int .i64 c) Tryd.underlying31 (by decide) w
  have hty3 := run_eql_iface_types (P := Tryd.prog) 77 76 (.pointer (some ⟨b3, 0, none⟩)) (.int .i64 c) Tryd.underlying31 (by decide) w
  go_enter Tryd.func37, Tryd.ntmps37
  go_wp2
  refine wp_loop_rounds 5 ?_
  rw [rounds_succ]
  go_wp2
  rw [rounds_succ]
  go_wp2
  rw [rounds_succ]
  go_wp2
  rw [rounds_succ]
  go_wp2
  rw [rounds_succ]
  go_wp2
  go_ret
  exact ⟨rfl, rfl⟩

end Go.Proofs.YtinnalkalpnmjaaDoor