import Derived.Test.YtgmbpmnbpakhbaaGreatDoorEngP
import Derived.Test.YtgmbpmnbpakhbaaGreatDoorHeapTh

/- The engine, part V: boxes and structs; rows of numbers that are read. -/
set_option linter.unusedSimpArgs false
set_option linter.unusedVariables false
namespace Go.Rm
section
variable {Y : Sys} {h h' : Heap}

@[simp] theorem cells_intV {k : IntKind} {n : Int} : (Value.int k n).cells = #[.int k n] := rfl
@[simp] theorem cells_boolV {b : Bool} : (Value.bool b).cells = #[.bool b] := rfl
@[simp] theorem cells_stringV {b : ByteArray} : (Value.string b).cells = #[.string b] := rfl
@[simp] theorem cells_ptrV {b : Option Addr} : (Value.pointer b).cells = #[.pointer b] := rfl
@[simp] theorem cells_sliceV {b : Option Addr} {n c : Nat} : (Value.slice b n c).cells = #[.slice b n c] := rfl
@[simp] theorem cells_ifaceV {t : TypeId} {v : Value} : (Value.iface t v).cells = #[.iface t v] := rfl
@[simp] theorem cells_nilIfaceV : (Value.nilIface).cells = #[.nilIface] := rfl
@[simp] theorem cells_aggV {c : Array Value} : (Value.agg c).cells = c := rfl

theorem cells_one {v : Value} (hv : v.oneCell' = true) : v.cells = #[v] := by cases v <;> first | rfl | (cases hv)

@[simp] theorem sem_build0 {zero : Array Value} {pl : List (Nat × Nat)} : IOp.sem Y h (.build zero pl []) [] = some (.agg zero) := rfl
theorem sem_build2 {z0 z1 a b : Value} (ha : a.oneCell' = true) (hb : b.oneCell' = true) :
    IOp.sem Y h (.build #[z0, z1] [(0, 1), (1, 1)] [0, 1]) [a, b] = some (.agg #[a, b]) := by
  simp [IOp.sem, Instr.fill, cells_one ha, cells_one hb]
theorem sem_build3 {z0 z1 z2 a b c : Value} (ha : a.oneCell' = true) (hb : b.oneCell' = true) (hc : c.oneCell' = true) :
    IOp.sem Y h (.build #[z0, z1, z2] [(0, 1), (1, 1), (2, 1)] [0, 1, 2]) [a, b, c] = some (.agg #[a, b, c]) := by
  simp [IOp.sem, Instr.fill, cells_one ha, cells_one hb, cells_one hc]
theorem sem_build3a {z0 z1 z2 a b : Value} (ha : a.oneCell' = true) (hb : b.oneCell' = true) :
    IOp.sem Y h (.build #[z0, z1, z2] [(0, 1), (1, 1), (2, 1)] [0, 1]) [a, b] = some (.agg #[a, b, z2]) := by
  simp [IOp.sem, Instr.fill, cells_one ha, cells_one hb]
@[simp] theorem sem_build_fault {z0 z1 z2 : Value} {p : ByteArray} {k : IntKind} {a : Int} {t : TypeId} {v : Value} : IOp.sem Y h (.build #[z0, z1, z2] [(0, 1), (1, 1), (2, 1)] [0, 1, 2]) [.string p, .int k a, .iface t v] = some (.agg #[.string p, .int k a, .iface t v]) := sem_build3 rfl rfl rfl
@[simp] theorem sem_build_part {z0 z1 : Value} {p : ByteArray} {k : IntKind} {a : Int} : IOp.sem Y h (.build #[z0, z1] [(0, 1), (1, 1)] [0, 1]) [.string p, .int k a] = some (.agg #[.string p, .int k a]) := sem_build2 rfl rfl
@[simp] theorem sem_build_wrong {z0 z1 : Value} {s : Sl} {k : IntKind} {a : Int} : IOp.sem Y h (.build #[z0, z1] [(0, 1), (1, 1)] [0, 1]) [s.v, .int k a] = some (.agg #[s.v, .int k a]) := sem_build2 rfl rfl
@[simp] theorem sem_build_wrong' {z0 z1 : Value} {x : Option Addr} {n c : Nat} {k : IntKind} {a : Int} : IOp.sem Y h (.build #[z0, z1] [(0, 1), (1, 1)] [0, 1]) [.slice x n c, .int k a] = some (.agg #[.slice x n c, .int k a]) := sem_build2 rfl rfl
@[simp] theorem sem_build_tab {z0 z1 z2 : Value} {k j : IntKind} {a b : Int} {s : Sl} : IOp.sem Y h (.build #[z0, z1, z2] [(0, 1), (1, 1), (2, 1)] [0, 1, 2]) [.int k a, .int j b, s.v] = some (.agg #[.int k a, .int j b, s.v]) := sem_build3 rfl rfl rfl
@[simp] theorem sem_build_tab' {z0 z1 z2 : Value} {k j : IntKind} {a b : Int} {x : Option Addr} {n c : Nat} : IOp.sem Y h (.build #[z0, z1, z2] [(0, 1), (1, 1), (2, 1)] [0, 1, 2]) [.int k a, .int j b, .slice x n c] = some (.agg #[.int k a, .int j b, .slice x n c]) := sem_build3 rfl rfl rfl
@[simp] theorem sem_build_ints2 {z0 z1 z2 : Value} {k j : IntKind} {a b : Int} : IOp.sem Y h (.build #[z0, z1, z2] [(0, 1), (1, 1), (2, 1)] [0, 1]) [.int k a, .int j b] = some (.agg #[.int k a, .int j b, z2]) := sem_build3a rfl rfl
@[simp] theorem sem_eqs_nil {neg : Bool} {s : Sl} : IOp.sem Y h (.eqs neg) [s.v, .slice none 0 0] = some (.bool (if neg then !s.nl else s.nl)) := by
  unfold Sl.v
  cases s.nl <;> cases neg <;> rfl
@[simp] theorem sem_eqs_nil' {neg : Bool} {s : Sl} : IOp.sem Y h (.eqs neg) [.slice none 0 0, s.v] = some (.bool (if neg then !s.nl else s.nl)) := by
  unfold Sl.v
  cases s.nl <;> cases neg <;> rfl

/-- a box is laid -/
theorem ef_new_box {K : Value → Heap → Prop} {v : Value} (hk : ∀ (b : Nat) (h' : Heap), h.size ≤ b → Blk h' b v.cells → Ext h h' → K (.pointer (some ⟨b, 0, none⟩)) h') : Ef.wp h K .new [v] :=
  fun _ => hk _ _ (Nat.le_refl _) Blk.new Mod.push

theorem Mod.blk' {S : Nat → Prop} {b : Nat} {c : Array Value} (hb : Blk h b c) (hm : Mod S h h') (hs : ¬ S b) : Blk h' b c := hm.blk hb hs
theorem Blk.ext {b : Nat} {c : Array Value} (hb : Blk h b c) (hm : Ext h h') : Blk h' b c := hm.blk hb (fun h => h)

/-- a whole is stored into a box -/
theorem ef_store_box {K : Value → Heap → Prop} {b n : Nat} {c vs : Array Value} (hb : Blk h b c) (hn : vs.size = n) (hc : c.size = n) (h1 : ∀ v ∈ vs.toList, v.oneCell' = true)
    (hk : ∀ h', Blk h' b vs → Mod (fun j => j = b) h h' → K undef h') : Ef.wp h K (.store n) [.pointer (some ⟨b, 0, none⟩), .agg vs] := by
  obtain ⟨h', q1, q2, q3, q4⟩ := hst_blk (o := 0) (vs := vs.toList) hb (by simp; omega) h1
  refine ⟨hn, ?_⟩
  simp only [cells_aggV, q1]
  refine hk h' ?_ q3
  have e : (c.toList.take 0 ++ vs.toList ++ c.toList.drop (0 + vs.toList.length)).toArray = vs := by
    apply Array.ext'
    simp [hn, hc]
  rw [e] at q2
  exact q2

theorem rd_blk {b n : Nat} {vs : Array Value} (hb : Blk h b vs) (hn : vs.size = n) : rd h b 0 n = some vs.toList := by
  have := rd_of (h := h) (b := b) (l := vs.toList) (o := 0) fun i v hi => by rw [hb.hc]; simpa using hi
  rw [← hn]
  simpa using this

theorem resP_x {R : Value → Heap → Prop} {e : List Value} {i n b : Nat} {vs : Array Value} (he : e.getD i undef = .pointer (some ⟨b, 0, none⟩)) (hb : Blk h b vs) (hn : vs.size = n) (hr : R (.agg vs) h) :
    resP [.box i n true] R e h := by
  unfold resP
  simp only [resAll, Res.ev, he, rd_blk hb hn, if_true, Option.bind_some]
  simpa using hr
theorem resP_xn {R : Value → Heap → Prop} {e : List Value} {i n b j : Nat} {vs : Array Value} (he : e.getD i undef = .pointer (some ⟨b, 0, none⟩)) (hb : Blk h b vs) (hn : vs.size = n) (hr : R (.tuple #[.agg vs, e.getD j undef]) h) :
    resP [.box i n true, .n j] R e h := by
  unfold resP
  simp only [resAll, Res.ev, he, rd_blk hb hn, if_true, Option.bind_some]
  simpa using hr
theorem resP_xx {R : Value → Heap → Prop} {e : List Value} {i n b i' n' b' : Nat} {vs vs' : Array Value} (he : e.getD i undef = .pointer (some ⟨b, 0, none⟩)) (hb : Blk h b vs) (hn : vs.size = n)
    (he' : e.getD i' undef = .pointer (some ⟨b', 0, none⟩)) (hb' : Blk h b' vs') (hn' : vs'.size = n') (hr : R (.tuple #[.agg vs, .agg vs']) h) :
    resP [.box i n true, .box i' n' true] R e h := by
  unfold resP
  simp only [resAll, Res.ev, he, he', rd_blk hb hn, rd_blk hb' hn', if_true, Option.bind_some]
  simpa using hr

/-- a row of costs that is read -/
structure Row64 (h : Heap) (s : Sl) (cs : List Int) : Prop where
  ok : s.ok
  len : cs.length = s.n
  val : ∀ i, i < cs.length → hc h s.b (s.o + i) = some (.int .i64 (nthI cs i))
theorem Row64.ext {s : Sl} {cs : List Int} (r : Row64 h s cs) (he : Ext h h') : Row64 h' s cs := ⟨r.ok, r.len, fun i hi => he.hc (r.val i hi) (fun h => h)⟩
theorem Row64.mod {S : Nat → Prop} {s : Sl} {cs : List Int} (r : Row64 h s cs) (he : Mod S h h') (hs : cs ≠ [] → ¬ S s.b) : Row64 h' s cs := ⟨r.ok, r.len, fun i hi => he.hc (r.val i hi) (hs (by intro e; rw [e] at hi; simp at hi))⟩
theorem Row64.at {s : Sl} {cs : List Int} {i : Nat} (r : Row64 h s cs) (hi : i < s.n) : hc h s.b (s.o + i) = some (.int .i64 (nthI cs i)) := r.val i (by rw [r.len]; exact hi)

def ints64 (l : List Int) : List Value := l.map fun (k : Int) => Value.int .i64 k
theorem ints64_get {l : List Int} {i : Nat} (h : i < l.length) : (ints64 l)[i]? = some (.int .i64 (nthI l i)) := by
  simp [ints64, nthI, h]
@[simp] theorem ints64_len {l : List Int} : (ints64 l).length = l.length := by simp [ints64]
theorem ints64_set {l : List Int} {i : Nat} {k : Int} : (ints64 l).set i (.int .i64 k) = ints64 (l.set i k) := by simp [ints64, List.map_set]
theorem ints64_one {l : List Int} : ∀ v ∈ ints64 l, v.oneCell' = true := by
  intro v hv
  simp only [ints64, List.mem_map] at hv
  obtain ⟨k, _, rfl⟩ := hv
  rfl
theorem Own.row64 {s : Sl} {cs : List Int} (o : Own h 1 s (ints64 cs)) : Row64 h s cs :=
  ⟨o.ok, by have := o.1; simpa using this, fun i hi => o.cell (ints64_get hi)⟩
theorem rd_row64 {s : Sl} {cs : List Int} (r : Row64 h s cs) : rd h s.b s.o cs.length = some (ints64 cs) := by
  have := rd_of (h := h) (b := s.b) (l := ints64 cs) (o := s.o) fun i v hi => by
    have hi' : i < cs.length := by
      have := (List.getElem?_eq_some_iff.1 hi).1
      simpa using this
    rw [ints64_get hi'] at hi
    cases hi
    exact r.val i hi'
  simpa using this

/-- a slice of one's own, just laid by make -/
theorem own_zero {n : Nat} {t : TypeId} (hn : n ≤ 9223372036854775807) : Own (h.push (.cells (Array.replicate n (.int .i64 0)) t)) 1 (Sl.at h.size n n) (ints64 (List.replicate n 0)) := by
  refine ⟨by simp, .inr ⟨rfl, rfl, rfl, Nat.le_refl _, hn, _, Blk.new, by simp, by simp [ints64]⟩⟩
/-- the empty slice that is laid where a slice is cloned -/
theorem own_empty {t : TypeId} {sz : Nat} : Own (h.push (.cells #[] t)) sz (Sl.at h.size 0 0) [] := by
  refine ⟨by simp, .inr ⟨rfl, rfl, rfl, Nat.le_refl _, by simp, _, Blk.new, by simp, by simp⟩⟩
theorem ef_bslice0 {K : Value → Heap → Prop} {sz : Nat} : Ef.wp h K (.bslice 0 sz #[] []) [] = ∀ t : TypeId, K (.slice (some ⟨h.size, 0, none⟩) 0 0) (h.push (.cells #[] t)) := by
  have e : zeros #[] (0 * sz) = #[] := Array.eq_empty_of_size_eq_zero (by simp [zeros])
  simp only [Nat.zero_mul] at e
  simp [Ef.wp, e, Instr.fill]

theorem srcOf_row64 {s : Sl} {cs : List Int} (r : Row64 h s cs) : srcOf h 1 s.n s.v = some (ints64 cs) := by
  have hr := rd_row64 r
  rw [r.len] at hr
  unfold Sl.v
  cases hnl : s.nl with
  | true =>
    have : cs = [] := List.eq_nil_of_length_eq_zero (by rw [r.len]; exact (r.ok.nil hnl).1)
    subst this
    rfl
  | false =>
    cases hsp : s.sp with
    | none => simp only [Bool.false_eq_true, if_false, srcOf, Nat.mul_one]; exact hr
    | some q =>
      have h0 : s.n = 0 := by
        have := r.ok.spot.resolve_left (by rw [hsp]; simp)
        have := r.ok.le; omega
      have : cs = [] := List.eq_nil_of_length_eq_zero (by rw [r.len]; exact h0)
      subst this
      simp [srcOf, h0, ints64]

/-- append([]int64{}, s...) -/
theorem ef_clone64 {K : Value → Heap → Prop} {s : Sl} {cs : List Int} (r : Row64 h s cs) (hn : s.n ≤ 17592186044416) {h0 : Heap} {s0 : Sl} (o : Own h 1 s0 []) (hb : s0.nl = true ∨ h0.size ≤ s0.b) (he : Ext h0 h)
    (hk : ∀ (s' : Sl) (h' : Heap), Own h' 1 s' (ints64 cs) → (s'.nl = true ∨ h0.size ≤ s'.b) → Ext h0 h' → K s'.v h') : Ef.wp h K (.append 1 8 #[.int .i64 0]) [s0.v, s.v] := by
  have hz : s0.n = 0 := by have := o.1; simpa using this.symm
  refine ef_append_own o (m := s.n) (nw := ints64 cs) lenV_slv (srcOf_row64 r) (by simp [r.len]) ints64_one rfl (by omega) (by omega) ?_
  intro s' h' o' hn' hm hs'
  refine hk s' h' (by simpa using o') ?_ ?_
  · rcases hs' with ⟨e1, e2⟩ | ⟨e1, e2⟩
    · rw [e1, e2]; exact hb
    · have := he.size; exact .inr (by omega)
  · refine Mod.ext he hm ?_
    rintro b ⟨q1, q2⟩
    rcases hb with hb | hb
    · rw [q1] at hb; cases hb
    · rw [q2]; exact hb
end
end Go.Rm
