import Derived.Test.YtgmbpmnbpakhbaaGreatDoorEngP
import Derived.Test.YtgmbpmnbpakhbaaGreatDoorHeapTh
import Derived.Test.YtgmbpmnbpakhbaaGreatDoorSNums

/- The heap package: its memory, and what each function does. -/
set_option linter.unusedSimpArgs false
set_option linter.unusedVariables false
namespace Go.Rm

def natsV (l : List Nat) : List Value := l.map fun (k : Nat) => Value.int .i64 (k : Int)
def intsV (l : List Int) : List Value := l.map fun (k : Int) => Value.int .i64 k

@[simp] theorem natsV_len {l : List Nat} : (natsV l).length = l.length := by simp [natsV]
@[simp] theorem intsV_len {l : List Int} : (intsV l).length = l.length := by simp [intsV]

def held (a : Int) : Int := if a < 0 then 0 else if 1152921504606846976 < a then 1152921504606846976 else a

/-- a heap in memory -/
structure HeapO (h : Heap) (p : Nat) (row : List Nat) (costs : List Int) (seats : List Nat) (rs cs ss : Sl) : Prop where
  blk : Blk h p #[rs.v, cs.v, ss.v]
  row : Own h 1 rs (natsV row)
  costs : Own h 1 cs (intsV costs)
  seats : Own h 1 ss (natsV seats)
  cnl : cs.nl = false
  snl : ss.nl = false
  pc : p ≠ cs.b
  ps : p ≠ ss.b
  csn : cs.b ≠ ss.b
  pr : rs.nl = false → p ≠ rs.b
  rc : rs.nl = false → rs.b ≠ cs.b
  rss : rs.nl = false → rs.b ≠ ss.b

section
variable {Y : Sys} {h : Heap} {p : Nat} {row : List Nat} {costs : List Int} {seats : List Nat} {rs cs ss : Sl}

theorem HeapO.p0 (O : HeapO h p row costs seats rs cs ss) : hc h p 0 = some rs.v := by rw [O.blk.hc]; rfl
theorem HeapO.p1 (O : HeapO h p row costs seats rs cs ss) : hc h p 1 = some cs.v := by rw [O.blk.hc]; rfl
theorem HeapO.p2 (O : HeapO h p row costs seats rs cs ss) : hc h p 2 = some ss.v := by rw [O.blk.hc]; rfl

/-- the least of place i and those below it that have been looked at -/
structure Least (row : List Nat) (costs : List Int) (i j l : Nat) : Prop where
  lo : 2 * i + 1 ≤ j
  hi : j ≤ 2 * i + 3
  pl : l = i ∨ (parent l = i ∧ 0 < l ∧ l < row.length ∧ klt costs (nth row l) (nth row i))
  m : ∀ c, 0 < c → c < row.length → c < j → parent c = i → ¬ klt costs (nth row c) (nth row l)
  mi : ¬ klt costs (nth row i) (nth row l)

theorem Least.start {i : Nat} : Least row costs i (2 * i + 1) i :=
  ⟨Nat.le_refl _, by omega, .inl rfl, fun c h0 _ hj hp => by unfold parent at hp; omega, klt_irrefl⟩

theorem Least.step {i j l : Nat} (L : Least row costs i j l) (hj : j ≤ 2 * i + 2) (hl : j < row.length) :
    Least row costs i (j + 1) (if klt costs (nth row j) (nth row l) then j else l) := by
  have hpj : parent j = i := by have := L.lo; unfold parent; omega
  have h0 : 0 < j := by have := L.lo; omega
  by_cases hk : klt costs (nth row j) (nth row l)
  · rw [if_pos hk]
    have hji : klt costs (nth row j) (nth row i) := by
      have := L.mi
      unfold klt at *; omega
    refine ⟨by have := L.lo; omega, by omega, .inr ⟨hpj, h0, hl, hji⟩, ?_, fun h => klt_irrefl (klt_trans h hji)⟩
    intro c hc0 hc hcj hcp
    by_cases hcj' : c = j
    · subst hcj'; exact klt_irrefl
    · exact klt_kle hk (L.m c hc0 hc (by omega) hcp)
  · rw [if_neg hk]
    refine ⟨by have := L.lo; omega, by omega, L.pl, ?_, L.mi⟩
    intro c hc0 hc hcj hcp
    by_cases hcj' : c = j
    · subst hcj'; exact hk
    · exact L.m c hc0 hc (by omega) hcp

end
end Go.Rm
