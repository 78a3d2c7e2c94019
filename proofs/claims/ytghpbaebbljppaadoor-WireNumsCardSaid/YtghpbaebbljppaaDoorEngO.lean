/- The engine, part O: what a law is handed: each argument, read out of memory. -/
import Derived.Test.YtghpbaebbljppaaDoorEngR
import Derived.Deep.Slices
set_option linter.unusedSimpArgs false
set_option linter.unusedVariables false
namespace Go.Rm
open Go.ChangeShapes Go.WideShapes Go.Deep

section
variable {H : Type} {enc : TypeId × Value → H} {P : Program} {W : World} {base : Nat}

theorem wf_range {k : IntKind} {n : Int} (h : (Lit.int k n).wf = true) : k.min ≤ n ∧ n ≤ k.max := by
  simpa [Lit.wf] using h

theorem Read.int {t : TypeId} {k : IntKind} {cs : List Value} (ht : P.underlying t = some (.int k)) (h : Read enc P W base t cs) : ∃ n, cs = [.int k n] ∧ k.min ≤ n ∧ n ≤ k.max := by
  obtain ⟨m, x, h⟩ := h
  obtain ⟨n, rfl, _, hw⟩ := DataW.trod_int ht h
  exact ⟨n, rfl, wf_range hw⟩
theorem Read.bool {t : TypeId} {cs : List Value} (ht : P.underlying t = some .bool) (h : Read enc P W base t cs) : ∃ b, cs = [.bool b] := by
  obtain ⟨m, x, h⟩ := h
  obtain ⟨b, rfl, _⟩ := DataW.trod_bool ht h
  exact ⟨b, rfl⟩
theorem Read.string {t : TypeId} {cs : List Value} (ht : P.underlying t = some .string) (h : Read enc P W base t cs) : ∃ s : ByteArray, cs = [.string s] ∧ s.size ≤ maxLen := by
  obtain ⟨m, x, h⟩ := h
  obtain ⟨b, rfl, _, h⟩ := DataW.trod_string ht h
  exact ⟨b, rfl, h⟩

theorem addr_add (b o : Nat) (sp : Option Nat) (j : Nat) (hsp : sp = none) : (Addr.mk b o sp).add j = ⟨b, o + j, none⟩ := by
  subst hsp
  unfold Addr.add
  split
  · rename_i h; subst h; rfl
  · rfl

/-- a slice: each of its elements is read -/
theorem Read.slice {t e : TypeId} {sz : Nat} {cs : List Value} (ht : P.underlying t = some (.slice e)) (hsz : P.cellsOf e = sz) (h0 : 0 < sz) (h : Read enc P W base t cs) :
    ∃ s : Sl, cs = [s.v] ∧ s.ok ∧ s.c ≤ maxLen ∧ ∀ i, i < s.n → ∃ cs', cs'.length = sz ∧ (∀ j, j < sz → hc W.heap s.b (s.o + i * sz + j) = cs'[j]?) ∧ Read enc P W base e cs' := by
  obtain ⟨m, x, h⟩ := h
  subst hsz
  rcases open_slice ht h with ⟨rfl, rfl⟩ | ⟨⟨b, o, sp⟩, len, cap, m, n, D, Pl, rfl, hb, hl, hm, hmm, rfl, hx⟩
  · exact ⟨Sl.nil, rfl, Sl.nil_ok, by simp [Sl.nil], fun i hi => by simp [Sl.nil] at hi⟩
  · simp only [if_true] at hmm
    subst hmm
    have hsp : sp = none ∨ m = 0 := by
      rcases Nat.eq_zero_or_pos m with h | h
      · exact .inr h
      · left
        obtain ⟨cs', h1, _⟩ := hx 0 h
        obtain ⟨_, hlen, hall⟩ := World.cells?_some h1
        cases sp with
        | none => rfl
        | some q =>
          have := hall 0 h0
          rw [List.getElem?_eq_getElem (by omega)] at this
          simp [Addr.add, World.cell?] at this
          split at this <;> cases this
    refine ⟨⟨b, o, len, m, false, sp⟩, rfl, ⟨fun h => (by cases h), hl, hsp⟩, hm, fun i hi => ?_⟩
    have hi : i < len := hi
    obtain ⟨cs', h1, h2⟩ := hx i (by omega)
    obtain ⟨_, hlen, hall⟩ := World.cells?_some h1
    refine ⟨cs', hlen, fun j hj => ?_, ⟨n, _, h2⟩⟩
    have := hall j hj
    have hs : sp = none := hsp.resolve_right (by omega)
    rw [addr_add _ _ _ _ hs, addr_add _ _ _ _ rfl] at this
    rw [← cell_hc]
    exact this

theorem Read.ints {t e : TypeId} {k : IntKind} {cs : List Value} (ht : P.underlying t = some (.slice e)) (he : P.underlying e = some (.int k)) (hsz : P.cellsOf e = 1) (h : Read enc P W base t cs) :
    ∃ (s : Sl) (f : Nat → Int), cs = [s.v] ∧ s.c ≤ maxLen ∧ IntsAt W.heap s k f ∧ ∀ i, i < s.n → k.min ≤ f i ∧ f i ≤ k.max := by
  obtain ⟨s, rfl, hok, hm, hx⟩ := h.slice ht hsz (by omega)
  obtain ⟨f, hf⟩ := choose_lt (α := Int) (n := s.n) (p := fun i n => hc W.heap s.b (s.o + i) = some (.int k n) ∧ k.min ≤ n ∧ n ≤ k.max) (fun i hi => by
    obtain ⟨cs', hl, hall, hr⟩ := hx i hi
    obtain ⟨n, rfl, h1, h2⟩ := hr.int he
    have := hall 0 (by omega)
    simp at this
    exact ⟨n, this, h1, h2⟩)
  exact ⟨s, f, rfl, hm, ⟨hok, fun i hi => (hf i hi).1⟩, fun i hi => (hf i hi).2⟩

/-- a struct: each of its fields is read -/
theorem Read.struct {t : TypeId} {fs : Array Field} {cs : List Value} (ht : P.underlying t = some (.struct fs)) (h : Read enc P W base t cs) :
    cs.length = P.cellsOf t ∧ ∀ (i : Nat) (f : Field), fs[i]? = some f → Read enc P W base f.type ((cs.drop f.offset).take (P.cellsOf f.type)) := by
  obtain ⟨m, x, h⟩ := h
  obtain ⟨xs, n, _, rfl, hl, hlen, hf⟩ := DataW.trod_struct ht h
  refine ⟨hl, fun i f hi => ?_⟩
  have h1 := hf i f hi
  have hi' : i < fs.size := (Array.getElem?_eq_some_iff.1 hi).1
  rw [List.getElem?_eq_getElem (by omega)] at h1
  exact ⟨n, _, h1⟩

theorem ArgIs.int {t : TypeId} {k : IntKind} {v : Value} (h : ArgIs enc P W t v) (ht : P.underlying t = some (.int k)) : ∃ n, v = .int k n ∧ k.min ≤ n ∧ n ≤ k.max := by
  obtain ⟨n, h1, h2⟩ := h.1.int ht
  have := h.2.1; simp only [ht] at this
  rw [this] at h1
  exact ⟨n, by simpa using h1, h2⟩
theorem ArgIs.bool {t : TypeId} {v : Value} (h : ArgIs enc P W t v) (ht : P.underlying t = some .bool) : ∃ n, v = .bool n := by
  obtain ⟨n, h1⟩ := h.1.bool ht
  have := h.2.1; simp only [ht] at this
  rw [this] at h1
  exact ⟨n, by simpa using h1⟩
theorem ArgIs.slice {t e : TypeId} {v : Value} (h : ArgIs enc P W t v) (ht : P.underlying t = some (.slice e)) : Read enc P W 0 t [v] := by
  have := h.2.1; simp only [ht] at this
  have h1 := h.1
  rw [this] at h1
  exact h1
theorem ArgIs.ints {t e : TypeId} {k : IntKind} {v : Value} (h : ArgIs enc P W t v) (ht : P.underlying t = some (.slice e)) (he : P.underlying e = some (.int k)) (hsz : P.cellsOf e = 1) :
    ∃ (s : Sl) (f : Nat → Int), v = s.v ∧ s.c ≤ maxLen ∧ IntsAt W.heap s k f ∧ ∀ i, i < s.n → k.min ≤ f i ∧ f i ≤ k.max := by
  obtain ⟨s, f, h1, h2⟩ := (h.slice ht).ints ht he hsz
  exact ⟨s, f, by simpa using h1, h2⟩

theorem drop_take_one {l : List Value} {o : Nat} {v : Value} (h : (l.drop o).take 1 = [v]) : l[o]? = some v := by
  have : ((l.drop o).take 1)[0]? = some v := by rw [h]; rfl
  rw [List.getElem?_take_of_lt (by omega), List.getElem?_drop] at this
  simpa using this

/-- a field of one cell -/
theorem Read.fint {t : TypeId} {fs : Array Field} {cs : List Value} {i : Nat} {f : Field} {k : IntKind} (h : Read enc P W base t cs) (ht : P.underlying t = some (.struct fs)) (hf : fs[i]? = some f) (hk : P.underlying f.type = some (.int k))
    (hc : P.cellsOf f.type = 1) : ∃ n, cs[f.offset]? = some (.int k n) ∧ k.min ≤ n ∧ n ≤ k.max := by
  have := (h.struct ht).2 i f hf
  rw [hc] at this
  obtain ⟨n, h1, h2⟩ := this.int hk
  exact ⟨n, drop_take_one h1, h2⟩
theorem Read.fbool {t : TypeId} {fs : Array Field} {cs : List Value} {i : Nat} {f : Field} (h : Read enc P W base t cs) (ht : P.underlying t = some (.struct fs)) (hf : fs[i]? = some f) (hk : P.underlying f.type = some .bool)
    (hc : P.cellsOf f.type = 1) : ∃ n, cs[f.offset]? = some (.bool n) := by
  have := (h.struct ht).2 i f hf
  rw [hc] at this
  obtain ⟨n, h1⟩ := this.bool hk
  exact ⟨n, drop_take_one h1⟩
theorem Read.fslice {t e : TypeId} {fs : Array Field} {cs : List Value} {i : Nat} {f : Field} (h : Read enc P W base t cs) (ht : P.underlying t = some (.struct fs)) (hf : fs[i]? = some f) (hk : P.underlying f.type = some (.slice e))
    (hc : P.cellsOf f.type = 1) : ∃ v, cs[f.offset]? = some v ∧ Read enc P W base f.type [v] := by
  have := (h.struct ht).2 i f hf
  rw [hc] at this
  have h0 := this
  obtain ⟨m, x, h⟩ := h0
  rcases open_slice hk h with ⟨e1, _⟩ | ⟨_, _, _, _, _, _, _, e1, _⟩
  · exact ⟨_, drop_take_one e1, by rw [← e1]; exact this⟩
  · exact ⟨_, drop_take_one e1, by rw [← e1]; exact this⟩

/-- a struct of two cells or more is a whole -/
theorem Read.agg {t : TypeId} {fs : Array Field} {v : Value} (h : Read enc P W base t v.cells.toList) (ht : P.underlying t = some (.struct fs)) (hc : P.cellsOf t ≠ 1) : ∃ cs, v = .agg cs ∧ cs.size = P.cellsOf t ∧ Read enc P W base t cs.toList := by
  have hl := (h.struct ht).1
  cases v with
  | agg cs => exact ⟨cs, rfl, by simpa [Value.cells] using hl, h⟩
  | _ => simp [Value.cells] at hl; exact absurd hl.symm hc

/-- a slice of numbers, which has no spot -/
theorem ArgIs.ints' {t e : TypeId} {k : IntKind} {v : Value} (h : ArgIs enc P W t v) (ht : P.underlying t = some (.slice e)) (he : P.underlying e = some (.int k)) (hsz : P.cellsOf e = 1) :
    ∃ (s : Sl) (f : Nat → Int), v = s.v ∧ s.c ≤ maxLen ∧ IntsAt W.heap s k f ∧ (∀ i, i < s.n → k.min ≤ f i ∧ f i ≤ k.max) ∧ s.sp = none := by
  obtain ⟨s, f, rfl, h1, h2, h3⟩ := h.ints ht he hsz
  cases hnl : s.nl with
  | true =>
    have hn := h2.ok.nil hnl
    refine ⟨Sl.nil, f, ?_, by simp [Sl.nil], ⟨Sl.nil_ok, fun i hi => by simp [Sl.nil] at hi⟩, fun i hi => by simp [Sl.nil] at hi, rfl⟩
    unfold Sl.v
    rw [hnl, hn.1, hn.2]
    rfl
  | false =>
    refine ⟨s, f, rfl, h1, h2, h3, ?_⟩
    exact h.2.2 ⟨s.b, s.o, s.sp⟩ s.n s.c (by unfold Sl.v; rw [hnl]; rfl)
end
end Go.Rm
