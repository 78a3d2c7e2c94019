import Derived.Test.YtmamhkolgnoefaaDoorRArg
import Derived.Test.YtmamhkolgnoefaaDoorRArg3
import Derived.Test.YtmamhkolgnoefaaDoorRFlow1
import Derived.OpenShut

/- What a law is handed: rows of pairs, of marks, results, read out of memory. -/
set_option linter.unusedSimpArgs false
set_option linter.unusedVariables false
namespace Go.Rm
open Go.ChangeShapes Go.WideShapes Go.Deep
section
variable {H : Type} {enc : TypeId × Value → H} {P : Program} {W : World} {base : Nat}

theorem Read.array {t e : TypeId} {n : Nat} {cs : List Value} (h : Read enc P W base t cs) (ht : P.underlying t = some (.array n e)) :
    cs.length = P.cellsOf t ∧ ∀ i, i < n → Read enc P W base e ((cs.drop (i * P.cellsOf e)).take (P.cellsOf e)) := by
  obtain ⟨m, x, h⟩ := h
  obtain ⟨xs, k, _, _, hl, hlen, hf⟩ := DataW.trod_array ht h
  refine ⟨hl, fun i hi => ?_⟩
  have h1 := hf i hi
  rw [List.getElem?_eq_getElem (by omega)] at h1
  exact ⟨k, _, h1⟩
theorem Read.aint {t e : TypeId} {n i : Nat} {k : IntKind} {cs : List Value} (h : Read enc P W base t cs) (ht : P.underlying t = some (.array n e)) (he : P.underlying e = some (.int k)) (ce : P.cellsOf e = 1) (hi : i < n) :
    ∃ x, cs[i]? = some (.int k x) ∧ k.min ≤ x ∧ x ≤ k.max := by
  obtain ⟨_, h2⟩ := h.array ht
  obtain ⟨x, h3, h4⟩ := (h2 i hi).int he
  rw [ce, Nat.mul_one] at h3
  exact ⟨x, drop_take_one h3, h4⟩
/-- a row of pairs -/
theorem Read.pairs {t e i : TypeId} {v : Value} (h : Read enc P W base t [v]) (ht : P.underlying t = some (.slice e)) (he : P.underlying e = some (.array 2 i)) (hi : P.underlying i = some (.int .i64)) (ce : P.cellsOf e = 2) (ci : P.cellsOf i = 1) :
    ∃ (s : Sl) (l : List (Int × Int)), v = s.v ∧ RowE W.heap s l := by
  obtain ⟨s, e1, ok, _, hx⟩ := h.slice ht ce (by omega)
  obtain ⟨f, hf⟩ := choose_lt (α := Int × Int) (n := s.n) (p := fun k (n : Int × Int) => hc W.heap s.b (s.o + k * 2) = some (.int .i64 n.1) ∧ hc W.heap s.b (s.o + k * 2 + 1) = some (.int .i64 n.2)) (fun k hk => by
    obtain ⟨cs', hl, hall, hr⟩ := hx k hk
    obtain ⟨a, ha, _⟩ := hr.aint he hi ci (i := 0) (by omega)
    obtain ⟨b, hb, _⟩ := hr.aint he hi ci (i := 1) (by omega)
    exact ⟨(a, b), by rw [← ha, ← hall 0 (by omega)]; rfl, by rw [← hb, ← hall 1 (by omega)]⟩)
  have g : ∀ k, k < s.n → nthE ((List.range s.n).map f) k = f k := fun k hk => by simp [nthE, hk]
  refine ⟨s, (List.range s.n).map f, by simpa using e1, ok, by simp, fun k hk => ?_, fun k hk => ?_⟩
  all_goals
    have hk' : k < s.n := by simpa using hk
    rw [g k hk']
  · exact (hf k hk').1
  · exact (hf k hk').2
/-- a row of marks -/
theorem Read.marks {t e : TypeId} {v : Value} (h : Read enc P W base t [v]) (ht : P.underlying t = some (.slice e)) (he : P.underlying e = some .bool) (ce : P.cellsOf e = 1) :
    ∃ (s : Sl) (l : List Bool), v = s.v ∧ RowM W.heap s l ∧ s.n ≤ maxLen := by
  obtain ⟨s, e1, ok, hm, hx⟩ := h.slice ht ce (by omega)
  obtain ⟨f, hf⟩ := choose_lt (α := Bool) (n := s.n) (p := fun k (n : Bool) => hc W.heap s.b (s.o + k) = some (.bool n)) (fun k hk => by
    obtain ⟨cs', hl, hall, hr⟩ := hx k hk
    obtain ⟨b, rfl⟩ := hr.bool he
    have := hall 0 (by omega)
    simp at this
    exact ⟨b, this⟩)
  have g : ∀ k, k < s.n → nthM ((List.range s.n).map f) k = f k := fun k hk => by simp [nthM, hk]
  refine ⟨s, (List.range s.n).map f, by simpa using e1, ⟨ok, by simp, fun k hk => ?_⟩, Nat.le_trans ok.le hm⟩
  have hk' : k < s.n := by simpa using hk
  rw [g k hk']
  exact hf k hk'
theorem ArgIs.pairs {t e i : TypeId} {v : Value} (h : ArgIs enc P W t v) (ht : P.underlying t = some (.slice e)) (he : P.underlying e = some (.array 2 i)) (hi : P.underlying i = some (.int .i64)) (ce : P.cellsOf e = 2) (ci : P.cellsOf i = 1) :
    ∃ (s : Sl) (l : List (Int × Int)), v = s.v ∧ RowE W.heap s l := (h.slice ht).pairs ht he hi ce ci
theorem ArgIs.marks {t e : TypeId} {v : Value} (h : ArgIs enc P W t v) (ht : P.underlying t = some (.slice e)) (he : P.underlying e = some .bool) (ce : P.cellsOf e = 1) :
    ∃ (s : Sl) (l : List Bool), v = s.v ∧ RowM W.heap s l ∧ s.n ≤ maxLen := (h.slice ht).marks ht he ce
/-- a result -/
theorem ArgIs.res {t ti ts tb b : TypeId} {fs : Array Field} {v : Value} (h : ArgIs enc P W t v) (ht : P.underlying t = some (.struct fs)) (ct : P.cellsOf t = 4)
    (h0 : fldAt fs 0 = some (0, ti)) (h1 : fldAt fs 1 = some (1, ts)) (h2 : fldAt fs 2 = some (2, tb)) (h3 : fldAt fs 3 = some (3, tb))
    (ui : P.underlying ti = some (.int .i64)) (ci : P.cellsOf ti = 1) (us : P.underlying ts = some (.slice ti)) (cs' : P.cellsOf ts = 1) (ub : P.underlying tb = some (.slice b)) (cb : P.cellsOf tb = 1) (u : P.underlying b = some .bool) (cbb : P.cellsOf b = 1) :
    ∃ (val : Int) (sf sn sr : Sl) (fl : List Int) (near far : List Bool), v = .agg #[.int .i64 val, sf.v, sn.v, sr.v] ∧ Row64 W.heap sf fl ∧ RowM W.heap sn near ∧ RowM W.heap sr far := by
  obtain ⟨cs, rfl, hr⟩ := h.agg ht
  have hl := (hr.struct ht).1
  rw [ct] at hl
  obtain ⟨x0, e0, _⟩ := hr.gint ht h0 ui ci
  obtain ⟨x1, e1, r1⟩ := hr.gslice ht h1 us cs'
  obtain ⟨x2, e2, r2⟩ := hr.gslice ht h2 ub cb
  obtain ⟨x3, e3, r3⟩ := hr.gslice ht h3 ub cb
  obtain ⟨sf, fl, rfl, q1, _⟩ := r1.costs us ui ci
  obtain ⟨sn, near, rfl, q2, _⟩ := r2.marks ub u cbb
  obtain ⟨sr, far, rfl, q3, _⟩ := r3.marks ub u cbb
  refine ⟨x0, sf, sn, sr, fl, near, far, ?_, q1, q2, q3⟩
  congr 1
  apply Array.ext'
  apply List.ext_getElem?
  intro k
  match k with
  | 0 => exact e0
  | 1 => exact e1
  | 2 => exact e2
  | 3 => exact e3
  | k + 4 => rw [List.getElem?_eq_none (by omega), List.getElem?_eq_none (by simp)]
end
end Go.Rm
