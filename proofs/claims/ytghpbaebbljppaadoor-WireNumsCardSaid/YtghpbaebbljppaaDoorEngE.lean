/- The engine, part E: operations that leave the heap alone. -/
import Derived.Test.YtghpbaebbljppaaDoorEngD
import Derived.Test.YtghpbaebbljppaaDoorEngS
set_option linter.unusedSimpArgs false
set_option linter.unusedVariables false
namespace Go.Rm
section ops
variable {cx : Cx} {Y : Sys} {w : World}

theorem run_ofV {s : Sem Value} {v : Value} {w' : World} {P : Program} (h : s.run P w = .ok v w') :
    (s >>= fun x => (pure (Next.value x) : Sem Next)).run P w = .ok (.value v) w' := by
  simp [h]

theorem eqOf_some {neg b : Bool} {v : Value} (h : eqOf neg b = some v) : v = .bool (if neg then !b else b) := by
  simp only [eqOf, Option.some.injEq] at h; exact h.symm

theorem eqGuard_plain {op : BinOp} {t : TypeId} {x y : Operand} {a b : Value} (h : ¬ (a = .nilIface ∧ b = .nilIface)) (h' : ∀ c d, ¬ (a = .agg c ∧ b = .agg d)) :
    (eqGuard op t x y a b).run cx.P w = .ok () w := by
  unfold eqGuard
  split
  · rw [if_neg (by simp)]
    split
    · exact absurd ⟨rfl, rfl⟩ h
    · exact absurd ⟨rfl, rfl⟩ (h' _ _)
    · rfl
  · rw [if_neg (by simp)]
    split
    · exact absurd ⟨rfl, rfl⟩ h
    · exact absurd ⟨rfl, rfl⟩ (h' _ _)
    · rfl
  · rw [if_pos (by simp)]; rfl

theorem isC_const {x : Operand} (h : Operand.isC x = true) : ∃ v, x = .const v := by
  cases x with
  | const v => exact ⟨v, rfl⟩
  | tmp t => exact (Bool.false_ne_true h).elim
  | global t => exact (Bool.false_ne_true h).elim
  | func t => exact (Bool.false_ne_true h).elim

theorem eqGuard_lit {op : BinOp} {t : TypeId} {x y : Operand} (h : (Operand.isC x || Operand.isC y) = true) :
    (eqGuard op t x y .nilIface .nilIface).run cx.P w = .ok () w := by
  unfold eqGuard
  generalize Op.eqGuardIn Op.maxDepth t Value.nilIface Value.nilIface = z
  rw [Bool.or_eq_true] at h
  rcases h with h | h
  · obtain ⟨v, rfl⟩ := isC_const h
    split <;> simp
  · obtain ⟨v, rfl⟩ := isC_const h
    split <;> simp

theorem fields_run : ∀ (l : List Field) (pl : List (Nat × Nat)), (l.mapM fun f => (szOf cx f.type).map fun n => (f.offset, n)) = some pl →
    (l.mapM (m := Sem) fun f => do pure (f.offset, ← sizeOf f.type)).run cx.P w = .ok pl w := by
  intro l
  induction l with
  | nil => intro pl h; simp at h; subst h; rfl
  | cons f l ih =>
    intro pl h
    simp only [List.mapM_cons, Option.bind_eq_bind, Option.bind_eq_some_iff, Option.map_eq_some_iff] at h
    obtain ⟨_, ⟨n, hn, rfl⟩, r, hr, he⟩ := h
    cases he
    simp only [List.mapM_cons, Sem.run_bind, szOf_run hn, Result.andThen_ok, Sem.run_pure, ih r hr]

theorem fields_run_array (fs : Array Field) (pl : List (Nat × Nat)) (hpl : (fs.toList.mapM fun f => (szOf cx f.type).map fun n => (f.offset, n)) = some pl) :
    (fs.mapM (m := Sem) fun f => do pure (f.offset, ← sizeOf f.type)).run cx.P w = .ok pl.toArray w := by
  rw [← Array.toArray_toList (xs := fs), List.mapM_toArray]
  simp only [Sem.run_map]
  rw [fields_run _ _ hpl]
  rfl

theorem zip_parts (ρ : Operand → Value) (ps : Array (Nat × Operand)) :
    (Array.map (fun x : Nat × Operand => (x.1, ρ x.2)) ps).toList = (ps.toList.map (·.1)).zip ((ps.toList.map (·.2)).map ρ) := by
  rw [Array.toList_map]
  generalize ps.toList = l
  induction l with
  | nil => rfl
  | cons x l ih => simp [ih]

theorem ib_shape {h : Heap} {op : BinOp} {p q v : Value} (hs : IOp.sem Y h (.ib op) [p, q] = some v) : ∃ k a yk b, p = .int k a ∧ q = .int yk b ∧ ibin op k a yk b = some v := by
  unfold IOp.sem at hs; split at hs <;> simp_all
  exact ⟨_, _, ⟨rfl, rfl⟩, _, _, ⟨rfl, rfl⟩, hs⟩
theorem sb_shape {h : Heap} {op : BinOp} {p q v : Value} (hs : IOp.sem Y h (.sb op) [p, q] = some v) : ∃ a b, p = .string a ∧ q = .string b ∧ sbin op a b = some v := by
  unfold IOp.sem at hs; split at hs <;> simp_all
theorem eqb_shape {h : Heap} {neg : Bool} {p q v : Value} (hs : IOp.sem Y h (.eqb neg) [p, q] = some v) : ∃ a b, p = .bool a ∧ q = .bool b ∧ eqOf neg (a == b) = some v := by
  unfold IOp.sem at hs; split at hs <;> simp_all
theorem eqp_shape {h : Heap} {neg : Bool} {p q v : Value} (hs : IOp.sem Y h (.eqp neg) [p, q] = some v) :
    (∃ b, p = .pointer none ∧ q = .pointer b ∧ eqOf neg b.isNone = some v) ∨ (∃ a, p = .pointer (some a) ∧ q = .pointer none ∧ eqOf neg false = some v) := by
  unfold IOp.sem at hs; split at hs <;> simp_all
theorem eqi_shape {h : Heap} {neg lit : Bool} {p q v : Value} (hs : IOp.sem Y h (.eqi neg lit) [p, q] = some v) :
    (p = .nilIface ∧ q = .nilIface ∧ lit = true ∧ eqOf neg true = some v) ∨ (∃ t u, p = .nilIface ∧ q = .iface t u ∧ eqOf neg false = some v) ∨
    (∃ t u, p = .iface t u ∧ q = .nilIface ∧ eqOf neg false = some v) := by
  unfold IOp.sem at hs; split at hs <;> simp_all
theorem eqs_shape {h : Heap} {neg : Bool} {p q v : Value} (hs : IOp.sem Y h (.eqs neg) [p, q] = some v) :
    (∃ l c b m d, p = .slice none l c ∧ q = .slice b m d ∧ eqOf neg b.isNone = some v) ∨ (∃ a l c m d, p = .slice (some a) l c ∧ q = .slice none m d ∧ eqOf neg false = some v) := by
  unfold IOp.sem at hs; split at hs <;> simp_all
theorem eqf_shape {h : Heap} {neg : Bool} {p q v : Value} (hs : IOp.sem Y h (.eqf neg) [p, q] = some v) :
    (p = .nilFunc ∧ q = .nilFunc ∧ eqOf neg true = some v) ∨ (∃ f a b, p = .func f a b ∧ q = .nilFunc ∧ eqOf neg false = some v) := by
  unfold IOp.sem at hs; split at hs <;> simp_all

section equal
variable {t : TypeId}
theorem eqIn_bool (d : Nat) (hu : cx.P.underlying t = some .bool) (a b : Bool) : (Op.equalIn (d + 1) t (.bool a) (.bool b)).run cx.P w = .ok (a == b) w := by
  simp [Op.equalIn, run_underlying hu]
theorem eqIn_ptr (d : Nat) {e : TypeId} (hu : cx.P.underlying t = some (.pointer e)) (b : Option Addr) : (Op.equalIn (d + 1) t (.pointer none) (.pointer b)).run cx.P w = .ok b.isNone w := by
  simp [Op.equalIn, run_underlying hu]
theorem eqIn_ptr' (d : Nat) {e : TypeId} (hu : cx.P.underlying t = some (.pointer e)) (a : Addr) : (Op.equalIn (d + 1) t (.pointer (some a)) (.pointer none)).run cx.P w = .ok false w := by
  simp [Op.equalIn, run_underlying hu]
theorem eqIn_nn (d : Nat) {ms : Array (String × TypeId)} (hu : cx.P.underlying t = some (.interface ms)) : (Op.equalIn (d + 1) t .nilIface .nilIface).run cx.P w = .ok true w := by
  simp [Op.equalIn, run_underlying hu]
theorem eqIn_ni (d : Nat) {ms : Array (String × TypeId)} (hu : cx.P.underlying t = some (.interface ms)) (u : TypeId) (v : Value) : (Op.equalIn (d + 1) t .nilIface (.iface u v)).run cx.P w = .ok false w := by
  simp [Op.equalIn, run_underlying hu]
theorem eqIn_in (d : Nat) {ms : Array (String × TypeId)} (hu : cx.P.underlying t = some (.interface ms)) (u : TypeId) (v : Value) : (Op.equalIn (d + 1) t (.iface u v) .nilIface).run cx.P w = .ok false w := by
  simp [Op.equalIn, run_underlying hu]
theorem eqIn_s (d : Nat) {e : TypeId} (hu : cx.P.underlying t = some (.slice e)) (l c m k : Nat) (b : Option Addr) : (Op.equalIn (d + 1) t (.slice none l c) (.slice b m k)).run cx.P w = .ok b.isNone w := by
  simp [Op.equalIn, run_underlying hu]
theorem eqIn_s' (d : Nat) {e : TypeId} (hu : cx.P.underlying t = some (.slice e)) (l c m k : Nat) (a : Addr) : (Op.equalIn (d + 1) t (.slice (some a) l c) (.slice none m k)).run cx.P w = .ok false w := by
  simp [Op.equalIn, run_underlying hu]
theorem eqIn_f (d : Nat) {ps rs : Array TypeId} {va : Bool} (hu : cx.P.underlying t = some (.func ps rs va)) : (Op.equalIn (d + 1) t .nilFunc .nilFunc).run cx.P w = .ok true w := by
  simp [Op.equalIn, run_underlying hu]
theorem eqIn_f' (d : Nat) {ps rs : Array TypeId} {va : Bool} (hu : cx.P.underlying t = some (.func ps rs va)) (f : Fn) (a b : Array Value) : (Op.equalIn (d + 1) t (.func f a b) .nilFunc).run cx.P w = .ok false w := by
  simp [Op.equalIn, run_underlying hu]
end equal

theorem eql_neq {t : TypeId} {x y : Value} {b : Bool} {op : BinOp} {neg : Bool} (hop : op = (if neg then .neq else .eql)) (he : (Op.equal t x y).run cx.P w = .ok b w) {v : Value} (hv : eqOf neg b = some v)
    (hb1 : binOp .eql t x y = (do pure (.bool (← Op.equal t x y)))) (hb2 : binOp .neq t x y = (do pure (.bool (!(← Op.equal t x y))))) : (binOp op t x y).run cx.P w = .ok v w := by
  subst hop
  have hv := eqOf_some hv
  subst hv
  cases neg
  · simp only [Bool.false_eq_true, if_false, hb1, Sem.run_bind, he, Result.andThen_ok, Sem.run_pure]
  · simp only [if_true, hb2, Sem.run_bind, he, Result.andThen_ok, Sem.run_pure]

theorem guarded_run {op : BinOp} {t : TypeId} {x y : Operand} {p q v : Value} (hg : (eqGuard op t x y p q).run cx.P w = .ok () w) (hb : (binOp op t p q).run cx.P w = .ok v w) :
    ((do eqGuard op t x y p q; binOp op t p q) >>= fun x => (pure (Next.value x) : Sem Next)).run cx.P w = .ok (.value v) w := by
  refine run_ofV ?_
  simp only [Sem.run_bind, hg, Result.andThen_ok, hb]

theorem int_run {op : BinOp} {t : TypeId} {x y : Operand} {p q v : Value} (hs : IOp.sem Y w.heap (.ib op) [p, q] = some v) :
    ((do eqGuard op t x y p q; binOp op t p q) >>= fun x => (pure (Next.value x) : Sem Next)).run cx.P w = .ok (.value v) w := by
  obtain ⟨k, a, yk, b, rfl, rfl, h3⟩ := ib_shape hs
  exact guarded_run (eqGuard_plain (by simp) (by simp)) (ibin_run _ h3)

theorem str_run {op : BinOp} {t : TypeId} {x y : Operand} {p q v : Value} (hs : IOp.sem Y w.heap (.sb op) [p, q] = some v) :
    ((do eqGuard op t x y p q; binOp op t p q) >>= fun x => (pure (Next.value x) : Sem Next)).run cx.P w = .ok (.value v) w := by
  obtain ⟨a, b, rfl, rfl, h3⟩ := sb_shape hs
  exact guarded_run (eqGuard_plain (by simp) (by simp)) (sbin_run _ h3)

theorem eqs_run {io : IOp} {neg : Bool} {op : BinOp} {t : TypeId} {x y : Operand} {p q v : Value} (hop : op = (if neg then .neq else .eql)) (hk : eqKind cx neg op t x y = some (.io io))
    (hs : io.sem Y w.heap [p, q] = some v) :
    ((do eqGuard op t x y p q; binOp op t p q) >>= fun x => (pure (Next.value x) : Sem Next)).run cx.P w = .ok (.value v) w := by
  unfold eqKind at hk
  split at hk
  · cases hk; exact int_run hs
  · cases hk; exact str_run hs
  · rename_i hu
    cases hk
    obtain ⟨a, b, rfl, rfl, h3⟩ := eqb_shape hs
    exact guarded_run (eqGuard_plain (by simp) (by simp)) (eql_neq hop (eqIn_bool 9999 hu a b) h3 rfl rfl)
  · rename_i e hu
    cases hk
    rcases eqp_shape hs with ⟨b, rfl, rfl, h3⟩ | ⟨a, rfl, rfl, h3⟩
    · exact guarded_run (eqGuard_plain (by simp) (by simp)) (eql_neq hop (eqIn_ptr 9999 hu b) h3 rfl rfl)
    · exact guarded_run (eqGuard_plain (by simp) (by simp)) (eql_neq hop (eqIn_ptr' 9999 hu a) h3 rfl rfl)
  · rename_i ms hu
    cases hk
    rcases eqi_shape hs with ⟨rfl, rfl, hl, h3⟩ | ⟨t', u, rfl, rfl, h3⟩ | ⟨t', u, rfl, rfl, h3⟩
    · exact guarded_run (eqGuard_lit hl) (eql_neq hop (eqIn_nn 9999 hu) h3 rfl rfl)
    · exact guarded_run (eqGuard_plain (by simp) (by simp)) (eql_neq hop (eqIn_ni 9999 hu _ _) h3 rfl rfl)
    · exact guarded_run (eqGuard_plain (by simp) (by simp)) (eql_neq hop (eqIn_in 9999 hu _ _) h3 rfl rfl)
  · rename_i e hu
    cases hk
    rcases eqs_shape hs with ⟨l, c, b, m, d, rfl, rfl, h3⟩ | ⟨a, l, c, m, d, rfl, rfl, h3⟩
    · exact guarded_run (eqGuard_plain (by simp) (by simp)) (eql_neq hop (eqIn_s 9999 hu _ _ _ _ _) h3 rfl rfl)
    · exact guarded_run (eqGuard_plain (by simp) (by simp)) (eql_neq hop (eqIn_s' 9999 hu _ _ _ _ _) h3 rfl rfl)
  · rename_i ps rs va hu
    cases hk
    rcases eqf_shape hs with ⟨rfl, rfl, h3⟩ | ⟨f, a, b, rfl, rfl, h3⟩
    · exact guarded_run (eqGuard_plain (by simp) (by simp)) (eql_neq hop (eqIn_f 9999 hu) h3 rfl rfl)
    · exact guarded_run (eqGuard_plain (by simp) (by simp)) (eql_neq hop (eqIn_f' 9999 hu _ _ _) h3 rfl rfl)
  · cases hk

theorem bin_run {io : IOp} {op : BinOp} {t : TypeId} {x y : Operand} {p q v : Value} (hk : binKind cx op t x y = some (.io io)) (hs : io.sem Y w.heap [p, q] = some v) :
    ((do eqGuard op t x y p q; binOp op t p q) >>= fun x => (pure (Next.value x) : Sem Next)).run cx.P w = .ok (.value v) w := by
  unfold binKind at hk
  split at hk
  · exact eqs_run (neg := false) rfl hk hs
  · exact eqs_run (neg := true) rfl hk hs
  · split at hk
    · cases hk; exact int_run hs
    · cases hk; exact str_run hs
    · cases hk

theorem un_run {op : UnOp} {p v : Value} (hs : IOp.sem Y w.heap (.un op) [p] = some v) : (Op.unary op p).run cx.P w = .ok v w := by
  rcases un_shape hs with ⟨rfl, k, n, rfl, rfl⟩ | ⟨rfl, b, rfl, rfl⟩ <;> rfl

theorem conv_run {sT dT : TypeId} {ds : TypeDesc} {k : IntKind} {p v : Value} (h1 : cx.P.underlying sT = some ds) (h2 : cx.P.underlying dT = some (.int k))
    (hs : IOp.sem Y w.heap (.conv k) [p] = some v) : (convert sT dT p).run cx.P w = .ok v w := by
  obtain ⟨j, n, rfl, rfl⟩ := conv_shape hs
  simp [convert, run_underlying h1, run_underlying h2, Conv.intToInt]

theorem b2s_run {sT dT e : TypeId} {p v : Value} (h1 : cx.P.underlying sT = some (.slice e)) (h2 : cx.P.underlying dT = some .string) (h3 : cx.P.underlying e = some (.int .u8))
    (hs : IOp.sem Y w.heap .b2s [p] = some v) : (convert sT dT p).run cx.P w = .ok v w := by
  have hc : ∀ a n c, (convert sT dT (.slice a n c)).run cx.P w = (Conv.bytesToString (.slice a n c)).run cx.P w := by
    intro a n c
    simp [convert, run_underlying h1, run_underlying h2, run_underlying h3]
  rcases b2s_shape hs with ⟨n, c, rfl, rfl⟩ | ⟨b, o, n, c, l, s, rfl, hl, hb, rfl⟩
  · rw [hc]; simp [Conv.bytesToString]
  · rw [hc]
    obtain ⟨ns, rfl, h⟩ := bytesV_fold ByteArray.empty hb
    rw [run_bytesToString w _ _ _ ns (run_loadCells_rd hl), h]
    congr 2
    show (⟨#[] ++ s.toArray⟩ : ByteArray) = _
    rw [Array.empty_append]

theorem mkI_run {t : TypeId} {d : TypeDesc} {n : Nat} {p v : Value} (ok : Ok cx Y) (h1 : cx.P.underlying t = some d) (h2 : ∀ ms, d ≠ .interface ms) (h3 : cx.tn t = some n)
    (hs : IOp.sem Y w.heap (.mkI n) [p] = some v) : (Instr.makeInterface t p).run cx.P w = .ok v w := by
  have hs : some (Value.iface (Y.tid n) p) = some v := hs
  simp only [Option.some.injEq] at hs
  subst hs
  simp only [Instr.makeInterface, Sem.run_bind, run_underlying h1, Result.andThen_ok, ok.ht _ _ h3]
  cases d <;> first | exact absurd rfl (h2 _) | rfl

theorem fadr_run {t : TypeId} {fs : Array Field} {f : Nat} {fd : Field} {n : Nat} {p v : Value} (h1 : cx.P.underlying t = some (.struct fs)) (h2 : fs[f]? = some fd) (h3 : szOf cx fd.type = some n) (h4 : n ≠ 0)
    (hs : IOp.sem Y w.heap (.fadr fd.offset) [p] = some v) : (Instr.fieldAt t p f).run cx.P w = .ok v w := by
  obtain ⟨b, o, rfl, rfl⟩ := fadr_shape hs
  simp [Instr.fieldAt, run_underlying h1, h2, Instr.sureAddr, fieldPlace, szOf_run h3, h4, Addr.add_lit]

theorem fld_run {t : TypeId} {fs : Array Field} {f : Nat} {fd : Field} {d : TypeDesc} {n : Nat} {p v : Value} (h1 : cx.P.underlying t = some (.struct fs)) (h2 : fs[f]? = some fd) (h3 : cx.P.underlying fd.type = some d)
    (h4 : isAggD d = true → szOf cx fd.type = some n) (hs : IOp.sem Y w.heap (.fld fd.offset n (isAggD d)) [p] = some v) : (Instr.field t p f).run cx.P w = .ok v w := by
  obtain ⟨cs, rfl, hs⟩ := fld_shape hs
  simp only [Instr.field, Sem.run_bind, run_underlying h1, Result.andThen_ok, h2, asAgg, Sem.run_pure]
  exact part_run h3 h4 hs

theorem idxa_run {t e : TypeId} {n : Nat} {p q v : Value} (h1 : cx.P.underlying t = some (.slice e)) (h2 : szOf cx e = some n)
    (hs : IOp.sem Y w.heap (.idxa n) [p, q] = some v) : (Instr.indexAt t p q).run cx.P w = .ok v w := by
  obtain ⟨b, o, m, c, k, i, rfl, rfl, hb, rfl⟩ := idxa_shape hs
  simp [Instr.indexAt, run_underlying h1, asIntOf, hb, szOf_run h2, Addr.add_lit]

theorem idxA_run {t e : TypeId} {len n : Nat} {p q v : Value} (h1 : cx.P.underlying t = some (.array len e)) (h2 : szOf cx e = some n)
    (hs : IOp.sem Y w.heap (.idxA len n) [p, q] = some v) : (Instr.indexAt t p q).run cx.P w = .ok v w := by
  obtain ⟨b, o, k, i, rfl, rfl, hb, rfl⟩ := idxA_shape hs
  simp [Instr.indexAt, run_underlying h1, asIntOf, hb, szOf_run h2, Instr.sureAddr, Addr.add_lit]

theorem idxS_run {t : TypeId} {p q v : Value} (h1 : cx.P.underlying t = some .string)
    (hs : IOp.sem Y w.heap .idxS [p, q] = some v) : (Instr.index t p q).run cx.P w = .ok v w := by
  obtain ⟨s, k, i, b, rfl, rfl, h0, hb, rfl⟩ := idxS_shape hs
  simp [Instr.index, run_underlying h1, asIntOf, h0, hb]

theorem idxV_run {t e : TypeId} {len n : Nat} {d : TypeDesc} {p q v : Value} (h1 : cx.P.underlying t = some (.array len e)) (h2 : cx.P.underlying e = some d) (h3 : szOf cx e = some n)
    (hs : IOp.sem Y w.heap (.idxV len n (isAggD d)) [p, q] = some v) : (Instr.index t p q).run cx.P w = .ok v w := by
  obtain ⟨cs, k, i, rfl, rfl, hb, hs⟩ := idxV_shape hs
  simp only [Instr.index, Sem.run_bind, asIntOf, Sem.run_pure, Result.andThen_ok, run_underlying h1, hb, and_self, if_true, szOf_run h3]
  exact part_run h2 (fun _ => h3) hs

theorem ta_run {t xT : TypeId} {d : TypeDesc} {n : Nat} {ok' : Bool} {z p v : Value} (ok : Ok cx Y) (h1 : cx.P.underlying t = some d) (h2 : ∀ ms, d ≠ .interface ms) (h3 : cx.tn t = some n) (h4 : zeroOf cx t = some z)
    (hs : IOp.sem Y w.heap (.ta n ok' z) [p] = some v) : (Instr.typeAssert p xT t ok').run cx.P w = .ok v w := by
  have ht := ok.ht _ _ h3
  rcases ta_shape hs with ⟨t', u, rfl, hs'⟩ | ⟨rfl, rfl, rfl⟩
  · clear hs
    have hs := hs'
    clear hs'
    rw [ht] at hs
    have goal : ∀ r : Result Value, r = (if t' = t then (if ok' then .ok (.tuple #[u, .bool true]) w else .ok u w) else (if ok' then .ok (.tuple #[z, .bool false]) w else r)) → r = .ok v w := by
      intro r hr
      split at hs
      · rename_i he
        rw [if_pos he] at hr
        cases ok' <;> simp_all
      · rename_i he
        rw [if_neg he] at hr
        cases ok' <;> simp_all
    apply goal
    simp only [Instr.typeAssert, Sem.run_bind, run_underlying h1, Result.andThen_ok]
    cases d <;> first | exact absurd rfl (h2 _) | (split <;> cases ok' <;> simp_all [zeroOf_run h4])
  · simp only [Instr.typeAssert, Sem.run_bind, run_underlying h1, Result.andThen_ok]
    cases d <;> first | exact absurd rfl (h2 _) | (simp [zeroOf_run h4])

theorem cut_run (isS : Bool) {n c : Nat} (lo hi : Option Operand) (ρ : Operand → Value) {x : Nat × Nat} (h : cutB n c lo.isSome hi.isSome ((lo.toList ++ hi.toList).map ρ) = some x) :
    (Instr.sliceBounds isS n c (lo.map ρ) (hi.map ρ) none).run cx.P w = .ok (x.1, x.2, c) w := by
  rcases cutB_shape h with ⟨h1, h2, h3, rfl⟩ | ⟨h1, h2, k, l, h3, hb, rfl⟩ | ⟨h1, h2, k, l, h3, hb, rfl⟩ | ⟨h1, h2, k, l, j, m, h3, hb, rfl⟩ <;>
    cases lo <;> cases hi <;> simp at h1 h2 h3
  · simp [Instr.sliceBounds]
  · simp [Instr.sliceBounds, Instr.sliceBound, asIntOf, hb, h3]
  · simp [Instr.sliceBounds, Instr.sliceBound, asIntOf, hb, h3]
  · have h0 : (0 : Int) ≤ m := by omega
    have h0' : ¬ (max m 0 < l) := by omega
    simp [Instr.sliceBounds, Instr.sliceBound, asIntOf, hb, h3, h0, h0']

theorem slc_run {t e : TypeId} {n : Nat} {lo hi : Option Operand} {ρ : Operand → Value} {p v : Value} (h1 : cx.P.underlying t = some (.slice e)) (h2 : szOf cx e = some n)
    (hs : IOp.sem Y w.heap (.slc n lo.isSome hi.isSome) (p :: (lo.toList ++ hi.toList).map ρ) = some v) : (Instr.sliceAt t p (lo.map ρ) (hi.map ρ) none).run cx.P w = .ok v w := by
  obtain ⟨a, m, c, x, rfl, hx, hv⟩ := slc_shape hs
  have hc := cut_run (cx := cx) (w := w) true lo hi ρ hx
  simp only [Instr.sliceAt, Instr.slice, Sem.run_bind, run_underlying h1, Result.andThen_ok, hc, szOf_run h2, Sem.run_pure]
  rcases hv with ⟨rfl, rfl⟩ | ⟨b, o, rfl, rfl⟩ | ⟨b, o, s, rfl, hc, rfl⟩
  · split <;> rfl
  · split <;> simp [Addr.add_lit]
  · subst hc; simp

theorem slcS_run {t : TypeId} {lo hi : Option Operand} {ρ : Operand → Value} {p v : Value} (h1 : cx.P.underlying t = some .string)
    (hs : IOp.sem Y w.heap (.slcS lo.isSome hi.isSome) (p :: (lo.toList ++ hi.toList).map ρ) = some v) : (Instr.sliceAt t p (lo.map ρ) (hi.map ρ) none).run cx.P w = .ok v w := by
  obtain ⟨s, x, rfl, hx, rfl⟩ := slcS_shape hs
  have hc := cut_run (cx := cx) (w := w) false lo hi ρ hx
  simp [Instr.sliceAt, Instr.slice, run_underlying h1, hc]

theorem slcA_run {t e : TypeId} {len n : Nat} {lo hi : Option Operand} {ρ : Operand → Value} {p v : Value} (h1 : cx.P.underlying t = some (.array len e)) (h2 : szOf cx e = some n)
    (hs : IOp.sem Y w.heap (.slcA len n lo.isSome hi.isSome) (p :: (lo.toList ++ hi.toList).map ρ) = some v) : (Instr.sliceAt t p (lo.map ρ) (hi.map ρ) none).run cx.P w = .ok v w := by
  obtain ⟨b, o, x, rfl, hx, rfl⟩ := slcA_shape hs
  have hc := cut_run (cx := cx) (w := w) false lo hi ρ hx
  simp only [Instr.sliceAt, Sem.run_bind, run_underlying h1, Result.andThen_ok, Instr.sureAddr, Sem.run_pure, hc, szOf_run h2]
  split <;> simp [Addr.add_lit]

theorem call_io {o : Oper} {ρ : Operand → Value} {io : IOp} {xs : List Operand} {v : Value} {c : Call} (hk : kind cx (.call c) = some (.io io, xs)) (hs : io.sem Y w.heap (xs.map ρ) = some v) :
    (do let d ← resolve ρ c o.type; invoke d.target d.args : Sem Next).run cx.P w = .ok (.value v) w := by
  obtain ⟨callee, args, argTypes⟩ := c
  simp only [kind] at hk
  split at hk
  · simp [Option.map_eq_some_iff] at hk
  · cases hk
  · split at hk
    · rename_i t x ht ha
      have ht : argTypes = #[t] := by apply Array.ext'; simpa using ht
      have ha : args = #[x] := by apply Array.ext'; simpa using ha
      subst ht; subst ha
      split at hk
      · rename_i e h1
        cases hk
        obtain ⟨a, n, c, hp, rfl⟩ := len_shape hs
        simp [resolve, hp, invoke, builtin, Builtin.len_, run_underlying h1, goInt]
      · rename_i h1
        cases hk
        obtain ⟨s, hp, rfl⟩ := lenS_shape hs
        simp [resolve, hp, invoke, builtin, Builtin.len_, run_underlying h1, goInt]
      · rename_i n e h1
        cases hk
        have hs : some (Value.int .i64 n) = some v := hs
        cases hs
        simp [resolve, invoke, builtin, Builtin.len_, run_underlying h1, goInt]
      · cases hk
    · cases hk
  · split at hk
    · rename_i t x ht ha
      have ht : argTypes = #[t] := by apply Array.ext'; simpa using ht
      have ha : args = #[x] := by apply Array.ext'; simpa using ha
      subst ht; subst ha
      split at hk
      · rename_i e h1
        cases hk
        obtain ⟨a, n, c, hp, rfl⟩ := cap_shape hs
        simp [resolve, hp, invoke, builtin, Builtin.cap_, run_underlying h1, goInt]
      · cases hk
    · cases hk
  · split at hk
    · rename_i x y ha
      have ha : args = #[x, y] := by apply Array.ext'; simpa using ha
      subst ha
      cases hk
      obtain ⟨k, a, j, b, hp, hq, rfl⟩ := mn_shape hs
      simp [resolve, hp, hq, invoke, builtin, Builtin.min_, Builtin.min2]
    · cases hk
  · split at hk
    · rename_i x y ha
      have ha : args = #[x, y] := by apply Array.ext'; simpa using ha
      subst ha
      cases hk
      obtain ⟨k, a, j, b, hp, hq, rfl⟩ := mx_shape hs
      simp [resolve, hp, hq, invoke, builtin, Builtin.max_, Builtin.max2]
    · cases hk
  · split at hk
    · split at hk
      · split at hk
        · split at hk <;> cases hk
        · split at hk <;> cases hk
        · cases hk
      · cases hk
    · cases hk
  · split at hk
    · split at hk
      · simp [Option.map_eq_some_iff] at hk
      · cases hk
    · cases hk
  · cases hk

theorem sem_run {o : Oper} {ρ : Operand → Value} {io : IOp} {xs : List Operand} {v : Value} (ok : Ok cx Y)
    (hk : kind cx o.op = some (.io io, xs)) (hs : io.sem Y w.heap (xs.map ρ) = some v) :
    (execOp ρ o).run cx.P w = .ok (.value v) w := by
  unfold execOp
  cases ho : o.op <;> simp only [ho, kind] at hk ⊢
  case move x =>
    cases hk; simp only [List.map_cons, List.map_nil, IOp.sem, Option.some.injEq] at hs; subst hs; rfl
  case assign x =>
    cases hk; simp only [List.map_cons, List.map_nil, IOp.sem, Option.some.injEq] at hs; subst hs; rfl
  case pick c a b =>
    cases hk
    simp only [List.map_cons, List.map_nil] at hs
    generalize ρ c = rc at *
    generalize ρ a = ra at *
    generalize ρ b = rb at *
    cases rc <;> simp only [IOp.sem, Option.some.injEq, reduceCtorEq] at hs
    subst hs
    simp [asBool]
  case alloc => simp [Option.map_eq_some_iff] at hk
  case box => cases hk
  case build t ps =>
    split at hk
    · rename_i fs z hu hz
      simp only [Option.map_eq_some_iff, Prod.mk.injEq, Kd.io.injEq] at hk
      obtain ⟨pl, hpl, rfl, rfl⟩ := hk
      simp only [IOp.sem, Option.bind_eq_some_iff, Option.some.injEq] at hs
      obtain ⟨cs, hcs, rfl⟩ := hs
      refine run_ofV ?_
      have hm := fields_run_array (w := w) fs pl hpl
      simp only [Instr.build, Sem.run_bind, zeroOf_run hz, run_underlying hu, Result.andThen_ok, hm]
      have hpar := zip_parts ρ ps
      simp only [hpar, List.getElem?_toArray, hcs]
      rfl
    · rename_i n e z hu hz
      simp only [Option.map_eq_some_iff, Prod.mk.injEq, Kd.io.injEq] at hk
      obtain ⟨sz, hsz, rfl, rfl⟩ := hk
      simp only [IOp.sem, Option.bind_eq_some_iff, Option.some.injEq] at hs
      obtain ⟨cs, hcs, rfl⟩ := hs
      refine run_ofV ?_
      have hpar := zip_parts ρ ps
      simp only [Instr.build, Sem.run_bind, zeroOf_run hz, run_underlying hu, Result.andThen_ok, szOf_run hsz, hpar, hcs]
      rfl
    · cases hk
  case buildSlice t len ps =>
    split at hk
    · split at hk
      · split at hk <;> cases hk
      · cases hk
    · cases hk
  case load t x =>
    split at hk
    · rename_i d hd
      have key : ∀ n, (isAggD d = true → szOf cx t = some n) → IOp.sem Y w.heap (.load n (isAggD d)) [ρ x] = some v →
          ((Instr.loadAt t (ρ x)) >>= fun x => (pure (Next.value x) : Sem Next)).run cx.P w = .ok (.value v) w := by
        intro n hn hs
        refine run_ofV ?_
        generalize ρ x = rx at *
        unfold Instr.loadAt
        match rx, hs with
        | .pointer (some ⟨b, o, none⟩), hs => simpa [Instr.sureAddr] using loadVar_run hd hn hs
        | .pointer (some ⟨b, o, some s⟩), hs => cases ha : isAggD d <;> simp [ha, IOp.sem] at hs
        | .pointer none, hs => cases ha : isAggD d <;> simp [ha, IOp.sem] at hs
        | .bool _, hs | .int _ _, hs | .float _ _, hs | .complex _ _ _, hs | .string _, hs | .slice _ _ _, hs | .map _, hs | .chan _, hs | .func _ _ _, hs | .nilFunc, hs | .iface _ _, hs | .nilIface, hs | .agg _, hs | .tuple _, hs => cases ha : isAggD d <;> simp [ha, IOp.sem] at hs
      split at hk
      · rename_i ha
        simp only [Option.map_eq_some_iff, Prod.mk.injEq, Kd.io.injEq] at hk
        obtain ⟨n, hn, rfl, rfl⟩ := hk
        exact key n (fun _ => hn) (by simpa [ha] using hs)
      · rename_i ha
        cases hk
        have ha : isAggD d = false := by simpa using ha
        exact key 1 (fun h => by rw [ha] at h; cases h) (by simpa [ha] using hs)
    · cases hk
  case store => simp [Option.map_eq_some_iff] at hk
  case nilCheck x =>
    cases hk
    simp only [List.map_cons, List.map_nil] at hs
    generalize ρ x = rx at *
    unfold IOp.sem at hs
    split at hs <;> simp_all <;> (subst hs; rfl)
  case binOp op t x y yt =>
    simp only [Option.map_eq_some_iff, Prod.mk.injEq] at hk
    obtain ⟨k, hk, rfl, rfl⟩ := hk
    exact bin_run hk hs
  case unOp op t x =>
    cases hk
    exact run_ofV (un_run hs)
  case convert sT dT x =>
    split at hk
    · rename_i h1 h2; cases hk; exact run_ofV (conv_run h1 h2 hs)
    · rename_i h1 h2
      split at hk
      · rename_i h3; cases hk; exact run_ofV (b2s_run h1 h2 h3 hs)
      · cases hk
    · split at hk
      · cases hk
      · cases hk
    · cases hk
  case makeInterface t x =>
    split at hk
    · cases hk
    · rename_i d hn h1
      simp only [Option.map_eq_some_iff, Prod.mk.injEq, Kd.io.injEq] at hk
      obtain ⟨n, hn', rfl, rfl⟩ := hk
      exact run_ofV (mkI_run ok h1 (fun ms hd => hn ms hd) hn' hs)
    · cases hk
  case makeFunc fn first cap =>
    cases fn <;> simp only [reduceCtorEq] at hk
    simp only [Option.map_eq_some_iff, Prod.mk.injEq, Kd.io.injEq] at hk
    obtain ⟨n, hn, rfl, rfl⟩ := hk
    refine run_ofV ?_
    have hs : some (Value.func (.func (Y.fid n)) (((first.toList ++ cap.toList).map ρ).take first.size).toArray (((first.toList ++ cap.toList).map ρ).drop first.size).toArray) = some v := hs
    simp only [Option.some.injEq] at hs
    subst hs
    rw [(ok.hf _ _ hn).1]
    have h1 : (((first.toList ++ cap.toList).map ρ).take first.size).toArray = first.map ρ := by
      rw [List.map_append, List.take_left' (by simp)]
      apply Array.ext'; simp
    have h2 : (((first.toList ++ cap.toList).map ρ).drop first.size).toArray = cap.map ρ := by
      rw [List.map_append, List.drop_left' (by simp)]
      apply Array.ext'; simp
    rw [h1, h2]
    rfl
  case makeSlice t l c =>
    split at hk
    · split at hk <;> cases hk
    · cases hk
  case slice t x lo hi mx =>
    cases mx with
    | some m => cases hk
    | none =>
      simp only at hk
      split at hk
      · rename_i e h1
        simp only [Option.map_eq_some_iff, Prod.mk.injEq, Kd.io.injEq] at hk
        obtain ⟨n, h2, rfl, rfl⟩ := hk
        exact run_ofV (slc_run h1 h2 hs)
      · rename_i h1; cases hk; exact run_ofV (slcS_run h1 hs)
      · rename_i len e h1
        simp only [Option.map_eq_some_iff, Prod.mk.injEq, Kd.io.injEq] at hk
        obtain ⟨n, h2, rfl, rfl⟩ := hk
        exact run_ofV (slcA_run h1 h2 hs)
      · cases hk
  case fieldAddr t x f =>
    split at hk
    · rename_i fs h1
      simp only [Option.bind_eq_some_iff] at hk
      obtain ⟨fd, h2, n, h3, hk⟩ := hk
      split at hk
      · cases hk
      · rename_i h4; cases hk; exact run_ofV (fadr_run h1 h2 h3 h4 hs)
    · cases hk
  case field t x f =>
    split at hk
    · rename_i fs h1
      simp only [Option.bind_eq_some_iff] at hk
      obtain ⟨fd, h2, hk⟩ := hk
      split at hk
      · rename_i d h3
        split at hk
        · rename_i ha
          simp only [Option.map_eq_some_iff, Prod.mk.injEq, Kd.io.injEq] at hk
          obtain ⟨n, h4, rfl, rfl⟩ := hk
          exact run_ofV (fld_run h1 h2 h3 (n := n) (fun _ => h4) (by rw [ha]; exact hs))
        · rename_i ha
          have ha : isAggD d = false := by simpa using ha
          cases hk
          exact run_ofV (fld_run h1 h2 h3 (n := 1) (fun h => by rw [ha] at h; cases h) (by rw [ha]; exact hs))
      · cases hk
    · cases hk
  case indexAddr t x i =>
    split at hk
    · rename_i e h1
      simp only [Option.map_eq_some_iff, Prod.mk.injEq, Kd.io.injEq] at hk
      obtain ⟨n, h2, rfl, rfl⟩ := hk
      exact run_ofV (idxa_run h1 h2 hs)
    · rename_i len e h1
      simp only [Option.map_eq_some_iff, Prod.mk.injEq, Kd.io.injEq] at hk
      obtain ⟨n, h2, rfl, rfl⟩ := hk
      exact run_ofV (idxA_run h1 h2 hs)
    · cases hk
  case index t x i =>
    split at hk
    · rename_i h1; cases hk; exact run_ofV (idxS_run h1 hs)
    · rename_i len e h1
      split at hk
      · rename_i d n h2 h3; cases hk; exact run_ofV (idxV_run h1 h2 h3 hs)
      · cases hk
    · cases hk
  case typeAssert x xT t ok' =>
    split at hk
    · cases hk
    · rename_i d hn h1
      split at hk
      · rename_i n z h3 h4; cases hk; exact run_ofV (ta_run ok h1 (fun ms hd => hn ms hd) h3 h4 hs)
      · cases hk
    · cases hk
  case extract x i =>
    cases hk
    obtain ⟨vs, hp, hv⟩ := ext_shape hs
    refine run_ofV ?_
    rw [hp]
    simp [Instr.extract, hv]
  case call c => exact call_io hk hs
  all_goals cases hk
end ops
end Go.Rm
