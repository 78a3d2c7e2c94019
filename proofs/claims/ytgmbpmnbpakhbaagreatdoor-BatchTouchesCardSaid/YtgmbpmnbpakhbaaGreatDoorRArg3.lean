import Derived.Test.YtgmbpmnbpakhbaaGreatDoorRArg
import Derived.Test.YtgmbpmnbpakhbaaGreatDoorRGate1

/- What a law is handed: cells, rows of rows of numbers, read out of memory. -/
set_option linter.unusedSimpArgs false
set_option linter.unusedVariables false
namespace Go.Rm
open Go.ChangeShapes Go.WideShapes Go.Deep
section
variable {H : Type} {enc : TypeId × Value → H} {P : Program} {W : World} {base : Nat}

theorem ArgIs.agg {t : TypeId} {fs : Array Field} {v : Value} (h : ArgIs enc P W t v) (ht : P.underlying t = some (.struct fs)) : ∃ cs, v = .agg cs ∧ Read enc P W 0 t cs.toList := by
  have h2 := h.2.1
  simp only [ht] at h2
  obtain ⟨cs, rfl⟩ := h2
  exact ⟨cs, rfl, h.1⟩
/-- rows of rows of numbers -/
theorem Read.rows {t e i : TypeId} {v : Value} (h : Read enc P W base t [v]) (ht : P.underlying t = some (.slice e)) (he : P.underlying e = some (.slice i)) (hi : P.underlying i = some (.int .i64)) (ce : P.cellsOf e = 1) (ci : P.cellsOf i = 1) :
    ∃ (s : Sl) (L : List (List Int)), v = s.v ∧ RowL W.heap s L ∧ s.n ≤ maxLen := by
  obtain ⟨s, e1, ok, hm, hx⟩ := h.slice ht ce (by omega)
  obtain ⟨f, hf⟩ := choose_lt (α := List Int) (n := s.n) (p := fun k (n : List Int) => ∃ u : Sl, hc W.heap s.b (s.o + k) = some u.v ∧ Row64 W.heap u n) (fun k hk => by
    obtain ⟨cs', hl, hall, hr⟩ := hx k hk
    have h0 := hall 0 (by omega)
    match cs', hl with
    | [x], _ =>
      obtain ⟨u, cs, rfl, hu, _⟩ := hr.costs he hi ci
      exact ⟨cs, u, by simpa using h0, hu⟩)
  refine ⟨s, (List.range s.n).map f, by simpa using e1, ⟨ok, by simp, fun k hk => ?_⟩, Nat.le_trans ok.le hm⟩
  have hk' : k < s.n := by simpa using hk
  have g : nthL ((List.range s.n).map f) k = f k := by simp [nthL, hk']
  rw [g]
  exact hf k hk'
/-- cells -/
theorem ArgIs.part {t r e i : TypeId} {fs : Array Field} {v : Value} (h : ArgIs enc P W t v) (ht : P.underlying t = some (.struct fs)) (ct : P.cellsOf t = 1) (h0 : fldAt fs 0 = some (0, r)) (hr : P.underlying r = some (.slice e)) (cr : P.cellsOf r = 1)
    (he : P.underlying e = some (.slice i)) (hi : P.underlying i = some (.int .i64)) (ce : P.cellsOf e = 1) (ci : P.cellsOf i = 1) :
    ∃ (s : Sl) (L : List (List Int)), v = ptV s ∧ RowL W.heap s L ∧ s.n ≤ maxLen := by
  obtain ⟨cs, rfl, hr0⟩ := h.agg ht
  have hl := (hr0.struct ht).1
  rw [ct] at hl
  obtain ⟨x, hx, hxr⟩ := hr0.gslice ht h0 hr cr
  obtain ⟨s, L, rfl, q1, q2⟩ := hxr.rows hr he hi ce ci
  refine ⟨s, L, ?_, q1, q2⟩
  unfold ptV
  congr 1
  apply Array.ext'
  match hcs : cs.toList, hl, hx with
  | [y], _, hx => simp at hx; rw [hx]
end
end Go.Rm
