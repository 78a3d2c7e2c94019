import Derived.Test.YtmfhceopnilhfaaRLaw16

/- The laws of gates: plain facts for GateTurned. -/
set_option linter.unusedSimpArgs false
set_option linter.unusedVariables false
namespace Go.Rm
def swT (t : Tri) : Tri := ⟨t.b, t.a, t.c⟩
def swB (t : Tab) : Tab := ⟨t.o, t.i, t.cs⟩
def turned (N : NetD) : NetD := ⟨N.vs, N.as.map swT, N.ts.map swB⟩
theorem nthT_sw {l : List Tri} {i : Nat} : nthT (l.map swT) i = swT (nthT l i) := by
  simp only [nthT, List.getD_eq_getElem?_getD, List.getElem?_map]
  cases l[i]? <;> rfl
theorem nthB_sw {l : List Tab} {i : Nat} : nthB (l.map swB) i = swB (nthB l i) := by
  simp only [nthB, List.getD_eq_getElem?_getD, List.getElem?_map]
  cases l[i]? <;> rfl
theorem insN_sw {l : List Tri} {v : Nat} : insN (l.map swT) v = outsN l v := by
  simp only [insN, outsN, List.filter_map, List.length_map]
  rfl
theorem outsN_sw {l : List Tri} {v : Nat} : outsN (l.map swT) v = insN l v := by
  simp only [insN, outsN, List.filter_map, List.length_map]
  rfl
theorem tabWr_sw {t : Tab} (h : (tabWr t).2 = 0) : (tabWr (swB t)).2 = 0 := by
  have e : ∀ a b : Int, (sidesW a b).2 = 0 ↔ (¬ (a < 0 ∨ 16 < a) ∧ ¬ (b < 0 ∨ 16 < b)) := by
    intro a b
    unfold sidesW
    split
    · rename_i c; simp [c, turnW]
    · rename_i c
      split
      · rename_i d; simp [d, turnW]
      · rename_i d; simp [c, d, wOK]
  change (tabW t.i t.o t.cs).2 = 0 at h
  change (tabW t.o t.i t.cs).2 = 0
  unfold tabW at h ⊢
  split at h
  · rename_i c; exact absurd h c
  rename_i c
  have c1 := (e _ _).1 (Decidable.not_not.1 c)
  have c2 : (sidesW t.o t.i).2 = 0 := (e _ _).2 ⟨c1.2, c1.1⟩
  rw [if_neg (by simp [c2])]
  rw [Int.mul_comm t.o t.i]
  exact h
theorem turned_ok {N : NetD} (ok : NetOK N) : NetOK (turned N) where
  bv := ok.bv
  ba := by simp [turned, ok.ba]
  bt := by simp [turned, ok.bt]
  tab := fun i hi => by
    simp only [turned, nthB_sw]
    exact tabWr_sw (ok.tab i (by simpa [turned] using hi))
  vx := ok.vx
  vt := fun i hi => by
    have := ok.vt i hi
    simpa [turned] using this
  arcs := fun i hi => by
    have := ok.arcs i (by simpa [turned] using hi)
    simp only [turned, nthT_sw, swT]
    exact ⟨this.2, this.1⟩
  w := fun i hi => by
    have := ok.w i (by simpa [turned] using hi)
    simp only [turned, nthT_sw, swT]
    exact this
  meet := fun i hi => by
    have := ok.meet i hi
    simp only [turned, nthB_sw, swB, insN_sw, outsN_sw]
    exact ⟨this.2.1, this.1, this.2.2.2, this.2.2.1⟩
theorem turned_few {N : NetD} (h : fewD N = true) : fewD (turned N) = true := by
  rw [fewD_iff] at h ⊢
  obtain ⟨a, b, c, d⟩ := h
  simp only [turned, List.length_map, nthB_sw, swB]
  exact ⟨a, b, c, d⟩
theorem idxF_sw {p q : Tri → Bool} (h : ∀ t, p (swT t) = q t) : ∀ {l : List Tri} {k : Nat}, idxF p k (l.map swT) = idxF q k l := by
  intro l
  induction l with
  | nil => intro k; rfl
  | cons t r ih => intro k; simp only [List.map_cons, idxF, h, ih]
theorem crossL_sw {N : NetD} {L : List (List Int)} {l : Int} : crossL (turned N) L l = crossL N L l := by
  unfold crossL
  refine idxF_sw fun t => ?_
  simp only [crossE, swT]
  congr 1
  apply propext
  constructor
  · rintro ⟨a, b, c⟩; exact ⟨b, a, fun e => c e.symm⟩
  · rintro ⟨a, b, c⟩; exact ⟨b, a, fun e => c e.symm⟩
theorem gateD_sw {N : NetD} {L : List (List Int)} {i c : Nat} {b : Bool} : gateD (turned N) L i b c = gateD N L i (!b) c := by
  unfold gateD
  rw [crossL_sw]
  unfold gateC
  cases b <;> simp only [turned, nthT_sw, swT] <;> rfl
end Go.Rm
