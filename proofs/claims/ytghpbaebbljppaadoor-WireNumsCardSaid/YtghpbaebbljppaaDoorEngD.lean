/- The engine, part D: each operation of the model does what the language says. -/
import Derived.Test.YtghpbaebbljppaaDoorEngC
import Derived.Laws.Entries
import Derived.Laws.BytesString
import Derived.Laws.IdiomCopy
import Derived.Laws.IdiomStrings
import Derived.Laws.AppendOwn
import Derived.Laws.Slices
set_option linter.unusedSimpArgs false
set_option linter.unusedVariables false
namespace Go.Rm

def Same (w w' : World) : Prop := w'.tape = w.tape ∧ w'.os = w.os ∧ w'.output = w.output
theorem Same.refl (w : World) : Same w w := ⟨rfl, rfl, rfl⟩
theorem Same.trans {a b c : World} (h : Same a b) (h' : Same b c) : Same a c := ⟨h'.1.trans h.1, h'.2.1.trans h.2.1, h'.2.2.trans h.2.2⟩

def Rr (R : Value → Heap → Prop) (w : World) (e : Ending) (w' : World) : Prop := ∃ v, e = .returned v ∧ R v w'.heap ∧ Same w w'

def sysC (P : Program) (f : FuncId) (xs : List Value) (h : Heap) (R : Value → Heap → Prop) : Prop :=
  ∀ w : World, w.heap = h → Calls P f xs.toArray w (Rr R w)

structure Ok (cx : Cx) (Y : Sys) : Prop where
  hC : Y.C = sysC cx.P
  hf : ∀ f j, cx.fn f = some j → Y.fid j = f ∧ ∃ fn, cx.P.funcs[f]? = some fn ∧ (fn.name == "runtime.NumGoroutine") = false ∧ fn.body.isNone = false
  ht : ∀ t j, cx.tn t = some j → Y.tid j = t
  hg : ∀ g j, cx.gn g = some j → Y.gid j = g
  mixed : cx.P.follows .mixedOrders = true
  able : ∀ f, Y.able f → ∃ fn, cx.P.funcs[f]? = some fn ∧ (fn.name == "runtime.NumGoroutine") = false ∧ fn.body.isNone = false

theorem cell_hc (w : World) (b o : Nat) : w.cell? ⟨b, o, none⟩ = hc w.heap b o := by
  simp only [World.cell?, hc]
  split <;> simp_all

theorem frozen_hfz (w : World) (b o : Nat) : w.frozen? ⟨b, o, none⟩ = hfz w.heap b o := rfl

theorem setCell_hset (w : World) (b o : Nat) (v : Value) : (w.setCell ⟨b, o, none⟩ v).heap = hset w.heap b o v := by
  simp only [World.setCell, hset]
  congr 1

theorem rd_get {h : Heap} {b : Nat} : ∀ {n o : Nat} {l : List Value}, rd h b o n = some l → l.length = n ∧ ∀ j v, l[j]? = some v → hc h b (o + j) = some v := by
  intro n
  induction n with
  | zero => intro o l hr; simp [rd] at hr; subst hr; simp
  | succ n ih =>
    intro o l hr
    simp only [rd] at hr
    obtain ⟨v, hv, hr⟩ := Option.bind_eq_some_iff.1 hr
    obtain ⟨l', hl', hr⟩ := Option.bind_eq_some_iff.1 hr
    simp only [Option.some.injEq] at hr
    subst hr
    obtain ⟨h1, h2⟩ := ih hl'
    refine ⟨by simp [h1], ?_⟩
    intro j u hj
    cases j with
    | zero => simp at hj; subst hj; exact hv
    | succ j => simp at hj; have := h2 j u hj; rwa [show o + (j + 1) = o + 1 + j by omega]

theorem rd_cell {w : World} {b o n : Nat} {l : List Value} (hr : rd w.heap b o n = some l) :
    ∀ j v, l[j]? = some v → w.cell? (Addr.add ⟨b, o, none⟩ j) = some v := by
  intro j v hj
  rw [Addr.add_lit, cell_hc]
  exact (rd_get hr).2 j v hj

theorem run_loadCells_rd {P : Program} {w : World} {b o n : Nat} {l : List Value} (hr : rd w.heap b o n = some l) :
    (loadCells ⟨b, o, none⟩ n).run P w = .ok l.toArray w := by
  have := run_loadCells_list (P := P) w ⟨b, o, none⟩ l (rd_cell hr)
  rwa [(rd_get hr).1] at this

theorem run_load_hc {P : Program} {w : World} {b o : Nat} {v : Value} (hr : hc w.heap b o = some v) (m : Mode) :
    (load ⟨b, o, none⟩ m).run P w = .ok v w := by
  rw [run_load, cell_hc, hr]

section ops
variable {cx : Cx} {Y : Sys} {w : World}

theorem szOf_run {t : TypeId} {n : Nat} (h : szOf cx t = some n) (w : World) : (sizeOf t).run cx.P w = .ok n w := by
  simp only [szOf, Option.map_eq_some_iff] at h
  obtain ⟨i, hi, rfl⟩ := h
  simp [sizeOf, typeInfo, hi]

theorem zeroOf_run {t : TypeId} {z : Value} (h : zeroOf cx t = some z) (w : World) : (zeroValue t).run cx.P w = .ok z w := by
  simp only [zeroOf, Option.bind_eq_some_iff] at h
  obtain ⟨i, hi, hz⟩ := h
  simp [zeroValue, typeInfo, hi, hz]

theorem isAgg_run {t : TypeId} {d : TypeDesc} (h : cx.P.underlying t = some d) (w : World) : (isAgg t).run cx.P w = .ok (isAggD d) w := by
  simp only [isAgg, Sem.run_bind, run_underlying h, Result.andThen_ok]
  cases d <;> rfl

theorem loadVar_run {t : TypeId} {d : TypeDesc} (hd : cx.P.underlying t = some d) {n : Nat} (hn : isAggD d = true → szOf cx t = some n) {b o : Nat} {v : Value}
    (hs : IOp.sem Y w.heap (.load n (isAggD d)) [.pointer (some ⟨b, o, none⟩)] = some v) : (loadVar t ⟨b, o, none⟩).run cx.P w = .ok v w := by
  simp only [loadVar, Sem.run_bind, isAgg_run hd, Result.andThen_ok, Sem.run_ite]
  cases ha : isAggD d with
  | true =>
    rw [ha] at hs
    simp only [IOp.sem, Option.bind_eq_some_iff] at hs
    obtain ⟨l, hl, hv⟩ := hs
    simp only [Option.some.injEq] at hv
    simp [szOf_run (hn ha), run_loadCells_rd hl, hv]
  | false =>
    rw [ha] at hs
    simp only [IOp.sem] at hs
    simp [run_load_hc hs]

theorem part_run {t : TypeId} {d : TypeDesc} (hd : cx.P.underlying t = some d) {n : Nat} (hn : isAggD d = true → szOf cx t = some n) {cs : Array Value} {off : Nat} {v : Value}
    (hs : partV n (isAggD d) cs off = some v) : (part t cs off).run cx.P w = .ok v w := by
  simp only [part, Sem.run_bind, isAgg_run hd, Result.andThen_ok, Sem.run_ite]
  cases ha : isAggD d with
  | true =>
    rw [ha] at hs
    simp only [partV, if_true, Option.some.injEq] at hs
    simp [szOf_run (hn ha), hs]
  | false =>
    rw [ha] at hs
    simp only [partV, Bool.false_eq_true, if_false] at hs
    simp [hs]

theorem bytesV_fold : ∀ {l : List Value} {s : List UInt8} (a : ByteArray), bytesV l = some s →
    ∃ ns : List Int, l = ns.map (Value.int .u8) ∧ ns.foldl (fun r n => r.push (UInt8.ofNat n.toNat)) a = ⟨a.data ++ s.toArray⟩ := by
  intro l
  induction l with
  | nil => intro s a h; simp [bytesV] at h; subst h; exact ⟨[], rfl, by simp⟩
  | cons x l ih =>
    intro s a h
    unfold bytesV at h
    split at h
    · rename_i h'; cases h'
    · rename_i n r h'
      cases h'
      obtain ⟨s', hs', he⟩ := Option.bind_eq_some_iff.1 h
      simp only [Option.some.injEq] at he
      subst he
      obtain ⟨ns, h1, h2⟩ := ih (a.push (UInt8.ofNat n.toNat)) hs'
      refine ⟨n :: ns, by simp [h1], ?_⟩
      simp only [List.foldl_cons, h2]
      congr 1
      apply Array.ext'
      simp
    · cases h

theorem ibin_run {op : BinOp} {k yk : IntKind} {a b : Int} {v : Value} (t : TypeId) (hs : ibin op k a yk b = some v) :
    (binOp op t (.int k a) (.int yk b)).run cx.P w = .ok v w := by
  unfold ibin at hs
  split at hs
  · split at hs
    · cases hs
    · rename_i hb; cases hs; simp [binOp, Op.shift, hb]
  · split at hs
    · cases hs
    · rename_i hb; cases hs; simp [binOp, Op.shift, hb]
  · rename_i h1 h2
    split at hs
    · cases hs
    · rename_i hk
      have hk : k = yk := Classical.not_not.1 hk
      subst hk
      cases op <;> simp_all [binOp, Op.intArith, Op.intDiv, Op.intBits, Op.intCmp] <;> (try (subst hs; rfl))

theorem sbin_run {op : BinOp} {a b : ByteArray} {v : Value} (t : TypeId) (hs : sbin op a b = some v) :
    (binOp op t (.string a) (.string b)).run cx.P w = .ok v w := by
  unfold sbin at hs
  split at hs
  · split at hs
    · rename_i h
      cases hs
      have h' : ¬ ((9223372036854775807 : Int) < (a.size : Int) + (b.size : Int)) := by omega
      simp [binOp, Op.stringOp, IntKind.max, IntKind.bits, IntKind.signed, h']
    · cases hs
  all_goals first | (cases hs; simp [binOp, Op.stringOp]; done) | (cases hs)

end ops
end Go.Rm
