import Derived.Test.YtgmbpmnbpakhbaaGreatDoorRGraph7

/- The laws of graphs: GraphTells, GraphPlays. -/
set_option linter.unusedSimpArgs false
set_option linter.unusedVariables false
namespace Go.Rm

theorem hg_lt {h : Heap} {b : Nat} {v : Value} (hg : hc h b 0 = some v) : b < h.size := by
  rcases Nat.lt_or_ge b h.size with q | q
  · exact q
  · simp [hc, Array.getElem?_eq_none q] at hg

section
variable {Y : Sys} {h : Heap}

-- rows of changes
def nthA (l : List Act5) (i : Nat) : Act5 := l.getD i ⟨0, 0, 0, 0, 0⟩
structure Row5 (h : Heap) (s : Sl) (l : List Act5) : Prop where
  ok : s.ok
  len : l.length = s.n
  val : ∀ i, i < l.length → rd h s.b (s.o + i * 5) 5 = some [.int .i64 (nthA l i).kd, .int .i64 (nthA l i).a, .int .i64 (nthA l i).i, .int .i64 (nthA l i).o, .int .i64 (nthA l i).w]
theorem Row5.sk {s : Sl} {l : List Act5} (r : Row5 h s l) (h' : Heap) (i : Nat) (e : Ext h h') (hi : i < l.length) : Rm.rd h' s.b (s.o + i * 5) 5 = some [.int .i64 (nthA l i).kd, .int .i64 (nthA l i).a, .int .i64 (nthA l i).i, .int .i64 (nthA l i).o, .int .i64 (nthA l i).w] := e.rd (r.val i hi) (fun h => h)
theorem rd_lt {b o n : Nat} {l : List Value} (hr : Rm.rd h b o (n + 1) = some l) : b < h.size := by
  rcases Nat.lt_or_ge b h.size with q | q
  · exact q
  · simp [Rm.rd, Rm.hc, Array.getElem?_eq_none q] at hr

end
end Go.Rm
