import Derived.Test.YtegflpgpkbffkaaGreatDoorRGraph7

/- The laws of graphs: GraphTells, GraphPlays. -/
set_option linter.unusedSimpArgs false
set_option linter.unusedVariables false
namespace Go.Rm

theorem hg_lt {h : Heap} {b : Nat} {v : Value} (hg : hc h b 0 = some v) : b < h.size := by
  rcases Nat.lt_or_ge b h.size with q | q
  · exact q
  · simp [hc, Array.getElem?_eq_none q] at hg

section
variable {Y : Sys} {h : Heap}

-- rows of changes
def nthA (l : List Act5) (i : Nat) : Act5 := l.getD i ⟨0, 0, 0, 0, 0⟩
structure Row5 (h : Heap) (s : Sl) (l : List Act5) : Prop where
  ok : s.ok
  len : l.length = s.n
  val : ∀ i, i < l.length → rd h s.b (s.o + i * 5) 5 = some [.int .i64 (nthA l i).kd, .int .i64 (nthA l i).a, .int .i64 (nthA l i).i, .int .i64 (nthA l i).o, .int .i64 (nthA l i).w]
theorem Row5.sk {s : Sl} {l : List Act5} (r : Row5 h s l) (h' : Heap) (i : Nat) (e : Ext h h') (hi : i < l.length) : Rm.rd h' s.b (s.o + i * 5) 5 = some [.int .i64 (nthA l i).kd, .int .i64 (nthA l i).a, .int .i64 (nthA l i).i, .int .i64 (nthA l i).o, .int .i64 (nthA l i).w] := e.rd (r.val i hi) (fun h => h)
def playN (N : NetD) (l : List Act5) : NetD := l.foldl doN N
theorem playN_ok {l : List Act5} : ∀ {N : NetD}, NetOK N → NetOK (playN N l) := by
  induction l with
  | nil => intro N ok; exact ok
  | cons t r ih => intro N ok; exact ih (doN_ok ok)
theorem playN_snoc {N : NetD} {l : List Act5} {i : Nat} (hi : i < l.length) : playN N (l.take (i + 1)) = doN (playN N (l.take i)) (nthA l i) := by
  rw [playN, List.take_succ_eq_append_getElem hi, List.foldl_append]
  simp [nthA, hi, playN]

end
end Go.Rm
