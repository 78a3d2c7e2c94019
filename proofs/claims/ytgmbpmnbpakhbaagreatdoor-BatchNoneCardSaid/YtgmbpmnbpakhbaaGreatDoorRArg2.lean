import Derived.Test.YtgmbpmnbpakhbaaGreatDoorRArg
import Derived.Test.YtgmbpmnbpakhbaaGreatDoorRLaw6

/- What a law is handed: rows of changes, read out of memory. -/
set_option linter.unusedSimpArgs false
set_option linter.unusedVariables false
namespace Go.Rm
open Go.ChangeShapes Go.WideShapes Go.Deep
section
variable {H : Type} {enc : TypeId × Value → H} {P : Program} {W : World} {base : Nat}
instance : Inhabited Act5 := ⟨⟨0, 0, 0, 0, 0⟩⟩
theorem rd5_of {h : Heap} {b o : Nat} {a c d e f : Value} (hf : ∀ j, j < 5 → hc h b (o + j) = [a, c, d, e, f][j]?) : rd h b o 5 = some [a, c, d, e, f] := by
  refine rd_of (l := [a, c, d, e, f]) (fun j v hj => ?_)
  have hlt : j < 5 := (List.getElem?_eq_some_iff.1 hj).1
  rw [hf j hlt]
  exact hj
/-- a row of changes -/
theorem ArgIs.acts {t e x y : TypeId} {fs : Array Field} {v : Value} (h : ArgIs enc P W t v) (ht : P.underlying t = some (.slice e)) (he : P.underlying e = some (.struct fs)) (hce : P.cellsOf e = 5)
    (h0 : fldAt fs 0 = some (0, x)) (h1 : fldAt fs 1 = some (1, x)) (h2 : fldAt fs 2 = some (2, x)) (h3 : fldAt fs 3 = some (3, x)) (h4 : fldAt fs 4 = some (4, y)) (ux : P.underlying x = some (.int .i64)) (uy : P.underlying y = some (.int .i64))
    (cx : P.cellsOf x = 1) (cy : P.cellsOf y = 1) : ∃ (s : Sl) (l : List Act5), v = s.v ∧ Row5 W.heap s l := by
  obtain ⟨s, e1, ok, _, hx⟩ := (h.slice ht).slice ht hce (by omega)
  obtain ⟨f, hf⟩ := choose_lt (α := Act5) (n := s.n) (p := fun i (n : Act5) => ∀ j, j < 5 → hc W.heap s.b (s.o + i * 5 + j) = [Value.int .i64 n.kd, .int .i64 n.a, .int .i64 n.i, .int .i64 n.o, .int .i64 n.w][j]?) (fun i hi => by
    obtain ⟨cs', hl, hall, hr⟩ := hx i hi
    obtain ⟨a, ha, _⟩ := hr.gint he h0 ux cx
    obtain ⟨b, hb, _⟩ := hr.gint he h1 ux cx
    obtain ⟨c, hc, _⟩ := hr.gint he h2 ux cx
    obtain ⟨d, hd, _⟩ := hr.gint he h3 ux cx
    obtain ⟨g, hg, _⟩ := hr.gint he h4 uy cy
    refine ⟨⟨a, b, c, d, g⟩, fun j hj => ?_⟩
    rw [hall j hj]
    match j, hj with
    | 0, _ => exact ha
    | 1, _ => exact hb
    | 2, _ => exact hc
    | 3, _ => exact hd
    | 4, _ => exact hg)
  refine ⟨s, (List.range s.n).map f, by simpa using e1, ok, by simp, fun i hi => ?_⟩
  have hi' : i < s.n := by simpa using hi
  have g : nthA ((List.range s.n).map f) i = f i := by simp [nthA, hi']
  rw [g]
  exact rd5_of (hf i hi')
end
end Go.Rm
