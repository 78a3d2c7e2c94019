

/- Plain laws of a binary heap: rows of keys, what a key costs, where it stands. -/
set_option linter.unusedVariables false
set_option linter.unusedSimpArgs false
namespace Go.Rm

def nth (l : List Nat) (i : Nat) : Nat := l.getD i 0
def nthI (l : List Int) (i : Nat) : Int := l.getD i 0

theorem nth_set {l : List Nat} {i j k : Nat} (hi : i < l.length) : nth (l.set i k) j = if j = i then k else nth l j := by
  simp only [nth, List.getD_eq_getElem?_getD, List.getElem?_set]
  split
  · rename_i h; subst h; simp [hi]
  · rename_i h; rw [if_neg (fun e => h e.symm)]
theorem nthI_set {l : List Int} {i j : Nat} {k : Int} (hi : i < l.length) : nthI (l.set i k) j = if j = i then k else nthI l j := by
  simp only [nthI, List.getD_eq_getElem?_getD, List.getElem?_set]
  split
  · rename_i h; subst h; simp [hi]
  · rename_i h; rw [if_neg (fun e => h e.symm)]
/-- a key comes ahead of another one -/
def klt (costs : List Int) (a b : Nat) : Prop := nthI costs a < nthI costs b ∨ (nthI costs a = nthI costs b ∧ a < b)
instance (costs : List Int) (a b : Nat) : Decidable (klt costs a b) := by unfold klt; infer_instance

theorem klt_irrefl {costs : List Int} {a : Nat} : ¬ klt costs a a := by unfold klt; omega
theorem klt_trans {costs : List Int} {a b c : Nat} (h1 : klt costs a b) (h2 : klt costs b c) : klt costs a c := by unfold klt at *; omega
/-- not ahead: at or behind -/
theorem kle_trans {costs : List Int} {a b c : Nat} (h1 : ¬ klt costs b a) (h2 : ¬ klt costs c b) : ¬ klt costs c a := by unfold klt at *; omega
theorem klt_kle {costs : List Int} {a b c : Nat} (h1 : klt costs a b) (h2 : ¬ klt costs c b) : ¬ klt costs c a := by unfold klt at *; omega

/-- each key of the row knows its place, and none else has one -/
structure Valid (row : List Nat) (n : Nat) (seats : List Nat) : Prop where
  len : seats.length = n
  rv : ∀ i, i < row.length → nth row i < n
  rs : ∀ i, i < row.length → nth seats (nth row i) = i + 1
  sv : ∀ k, k < n → nth seats k ≠ 0 → nth seats k - 1 < row.length ∧ nth row (nth seats k - 1) = k

def swapRow (row : List Nat) (i j : Nat) : List Nat := (row.set i (nth row j)).set j (nth row i)
def swapSeats (row seats : List Nat) (i j : Nat) : List Nat := (seats.set (nth (swapRow row i j) i) (i + 1)).set (nth (swapRow row i j) j) (j + 1)

@[simp] theorem swapRow_len {row : List Nat} {i j : Nat} : (swapRow row i j).length = row.length := by simp [swapRow]
@[simp] theorem swapSeats_len {row seats : List Nat} {i j : Nat} : (swapSeats row seats i j).length = seats.length := by simp [swapSeats]

theorem swapRow_get {row : List Nat} {i j : Nat} (hi : i < row.length) (hj : j < row.length) (k : Nat) :
    nth (swapRow row i j) k = if k = j then nth row i else if k = i then nth row j else nth row k := by
  unfold swapRow
  rw [nth_set (by simpa using hj), nth_set hi]

theorem Valid.inj {row : List Nat} {n : Nat} {seats : List Nat} (V : Valid row n seats) {i j : Nat} (hi : i < row.length) (hj : j < row.length) (h : nth row i = nth row j) : i = j := by
  have h1 := V.rs i hi
  have h2 := V.rs j hj
  rw [h] at h1
  omega

def parent (j : Nat) : Nat := (j - 1) / 2

/-- in order, but perhaps for place i, which may be ahead of what is above it -/
structure OrdU (row : List Nat) (costs : List Int) (i : Nat) : Prop where
  a : ∀ j, 0 < j → j < row.length → j ≠ i → ¬ klt costs (nth row j) (nth row (parent j))
  b : 0 < i → ∀ j, 0 < j → j < row.length → parent j = i → ¬ klt costs (nth row j) (nth row (parent i))

/-- in order, but perhaps for what stands right below place i -/
structure OrdD (row : List Nat) (costs : List Int) (i : Nat) : Prop where
  a : ∀ j, 0 < j → j < row.length → parent j ≠ i → ¬ klt costs (nth row j) (nth row (parent j))
  b : 0 < i → ∀ j, 0 < j → j < row.length → parent j = i → ¬ klt costs (nth row j) (nth row (parent i))

def Ord (row : List Nat) (costs : List Int) : Prop := ∀ j, 0 < j → j < row.length → ¬ klt costs (nth row j) (nth row (parent j))

theorem parent_lt {j : Nat} (h : 0 < j) : parent j < j := by unfold parent; omega

theorem OrdU.step {row : List Nat} {costs : List Int} {i : Nat} (O : OrdU row costs i) (h0 : 0 < i) (hi : i < row.length) (hlt : klt costs (nth row i) (nth row (parent i))) :
    OrdU (swapRow row i (parent i)) costs (parent i) := by
  have hp := parent_lt h0
  have hpl : parent i < row.length := by omega
  refine ⟨?_, ?_⟩
  · intro j hj0 hj hjp
    simp at hj
    have hpj := parent_lt hj0
    rw [swapRow_get hi hpl, swapRow_get hi hpl, if_neg hjp]
    by_cases hji : j = i
    · subst hji
      simp only [if_true]
      exact fun h => klt_irrefl (klt_trans h hlt)
    · rw [if_neg hji]
      by_cases h1 : parent j = parent i
      · rw [if_pos h1]
        have := O.a j hj0 hj hji
        rw [h1] at this
        exact klt_kle hlt this
      · rw [if_neg h1]
        by_cases h2 : parent j = i
        · rw [if_pos h2]; exact O.b h0 j hj0 hj h2
        · rw [if_neg h2]; exact O.a j hj0 hj hji
  · intro hp0 j hj0 hj hjp
    simp at hj
    have hpp := parent_lt hp0
    rw [swapRow_get hi hpl, swapRow_get hi hpl]
    have hg : ¬ klt costs (nth row (parent i)) (nth row (parent (parent i))) := O.a (parent i) hp0 hpl (by omega)
    rw [if_neg (show parent (parent i) ≠ parent i by omega), if_neg (show parent (parent i) ≠ i by omega)]
    have hjne : j ≠ parent i := by intro e; have := parent_lt hj0; omega
    rw [if_neg hjne]
    by_cases hji : j = i
    · rw [if_pos hji]; exact hg
    · rw [if_neg hji]
      have := O.a j hj0 hj hji
      rw [hjp] at this
      exact kle_trans hg this

theorem OrdU.fin {row : List Nat} {costs : List Int} {i : Nat} (O : OrdU row costs i) (h : 0 < i → ¬ klt costs (nth row i) (nth row (parent i))) : Ord row costs := by
  intro j hj0 hj
  by_cases hji : j = i
  · subst hji; exact h hj0
  · exact O.a j hj0 hj hji

theorem OrdD.step {row : List Nat} {costs : List Int} {i c : Nat} (O : OrdD row costs i) (hc0 : 0 < c) (hc : c < row.length) (hpc : parent c = i) (hlt : klt costs (nth row c) (nth row i))
    (hmin : ∀ j, 0 < j → j < row.length → parent j = i → ¬ klt costs (nth row j) (nth row c)) : OrdD (swapRow row i c) costs c := by
  have hic : i < c := by have := parent_lt hc0; omega
  have hi : i < row.length := by omega
  refine ⟨?_, ?_⟩
  · intro j hj0 hj hjp
    simp at hj
    have hpj := parent_lt hj0
    rw [swapRow_get hi hc, swapRow_get hi hc]
    by_cases hjc : j = c
    · subst hjc
      simp only [if_true]
      rw [hpc, if_neg (by omega), if_pos rfl]
      exact fun h => klt_irrefl (klt_trans h hlt)
    · rw [if_neg hjc, if_neg hjp]
      by_cases h1 : parent j = i
      · rw [if_pos h1, if_neg (show j ≠ i by omega)]
        exact hmin j hj0 hj h1
      · rw [if_neg h1]
        by_cases hji : j = i
        · rw [if_pos hji]
          subst hji
          exact O.b hj0 c hc0 hc hpc
        · rw [if_neg hji]
          exact O.a j hj0 hj h1
  · intro _ j hj0 hj hjp
    simp at hj
    have hpj := parent_lt hj0
    rw [swapRow_get hi hc, swapRow_get hi hc, hpc, if_neg (show j ≠ c by omega), if_neg (show j ≠ i by omega), if_neg (show i ≠ c by omega), if_pos rfl]
    have := O.a j hj0 hj (by omega)
    rw [hjp] at this
    exact this

theorem OrdD.fin {row : List Nat} {costs : List Int} {i : Nat} (O : OrdD row costs i) (h : ∀ j, 0 < j → j < row.length → parent j = i → ¬ klt costs (nth row j) (nth row i)) : Ord row costs := by
  intro j hj0 hj
  by_cases hji : parent j = i
  · rw [hji]; exact h j hj0 hj hji
  · exact O.a j hj0 hj hji

theorem Valid.ne {row : List Nat} {n : Nat} {seats : List Nat} {k i : Nat} (V : Valid row n seats) (h0 : nth seats k = 0) (hi : i < row.length) : nth row i ≠ k := by
  intro e
  have := V.rs i hi
  rw [e] at this
  omega

end Go.Rm
