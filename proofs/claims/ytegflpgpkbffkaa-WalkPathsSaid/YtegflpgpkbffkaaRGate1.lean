import Derived.Test.YtegflpgpkbffkaaRGraph6
import Derived.Test.YtegflpgpkbffkaaSNums

/- Cells in memory: rows of numbers, one for each level; what counts them. -/
set_option linter.unusedSimpArgs false
set_option linter.unusedVariables false
namespace Go.Rm

def nthL (l : List (List Int)) (i : Nat) : List Int := l.getD i []
structure RowL (h : Heap) (s : Sl) (l : List (List Int)) : Prop where
  ok : s.ok
  len : l.length = s.n
  val : ∀ i, i < l.length → ∃ u : Sl, hc h s.b (s.o + i) = some u.v ∧ Row64 h u (nthL l i)
theorem RowL.ext {h h' : Heap} {s : Sl} {l : List (List Int)} (r : RowL h s l) (e : Ext h h') : RowL h' s l :=
  ⟨r.ok, r.len, fun i hi => by
    obtain ⟨u, a, b⟩ := r.val i hi
    exact ⟨u, e.hc a (fun h => h), b.ext e⟩⟩
section
variable {Y : Sys} {h h' : Heap}

theorem RowL.at {s : Sl} {L : List (List Int)} (r : RowL h s L) {i : Nat} (hi : i < s.n) : ∃ u : Sl, (∀ g, Ext h g → hc g s.b (s.o + i) = some u.v) ∧ Row64 h u (nthL L i) := by
  obtain ⟨u, a, b⟩ := r.val i (by rw [r.len]; exact hi)
  exact ⟨u, fun g e => e.hc a (fun h => h), b⟩

end
end Go.Rm

/- Cells: the document's check of one level. -/
set_option linter.unusedSimpArgs false
set_option linter.unusedVariables false
namespace Go.Rm

/-- how often each number comes -/
def cntN (l : List Int) (c : Nat) : Nat := (l.filter fun x => x = (c : Int)).length
def cntL (n : Nat) (l : List Int) : List Int := (List.range n).map fun c => (cntN l c : Int)
@[simp] theorem cntL_len {n : Nat} {l : List Int} : (cntL n l).length = n := by simp [cntL]
section
variable {Y : Sys} {h h' : Heap}

@[simp] theorem sem_len_nil : IOp.sem Y h .len [.slice none 0 0] = some (.int .i64 0) := rfl

end
end Go.Rm
