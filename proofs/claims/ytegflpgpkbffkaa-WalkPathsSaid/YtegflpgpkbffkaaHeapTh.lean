

/- Plain laws of a binary heap: rows of keys, what a key costs, where it stands. -/
set_option linter.unusedVariables false
set_option linter.unusedSimpArgs false
namespace Go.Rm

def nth (l : List Nat) (i : Nat) : Nat := l.getD i 0
def nthI (l : List Int) (i : Nat) : Int := l.getD i 0

theorem nth_set {l : List Nat} {i j k : Nat} (hi : i < l.length) : nth (l.set i k) j = if j = i then k else nth l j := by
  simp only [nth, List.getD_eq_getElem?_getD, List.getElem?_set]
  split
  · rename_i h; subst h; simp [hi]
  · rename_i h; rw [if_neg (fun e => h e.symm)]
theorem nthI_set {l : List Int} {i j : Nat} {k : Int} (hi : i < l.length) : nthI (l.set i k) j = if j = i then k else nthI l j := by
  simp only [nthI, List.getD_eq_getElem?_getD, List.getElem?_set]
  split
  · rename_i h; subst h; simp [hi]
  · rename_i h; rw [if_neg (fun e => h e.symm)]
theorem nth_take {l : List Nat} {i n : Nat} (hi : i < n) : nth (l.take n) i = nth l i := by
  simp [nth, List.getD_eq_getElem?_getD, List.getElem?_take, hi]
theorem nth_append_lt {l m : List Nat} {i : Nat} (hi : i < l.length) : nth (l ++ m) i = nth l i := by
  simp [nth, List.getD_eq_getElem?_getD, List.getElem?_append_left hi]
theorem nth_append_last {l : List Nat} {k : Nat} : nth (l ++ [k]) l.length = k := by
  simp [nth, List.getD_eq_getElem?_getD]

/-- a key comes ahead of another one -/
def klt (costs : List Int) (a b : Nat) : Prop := nthI costs a < nthI costs b ∨ (nthI costs a = nthI costs b ∧ a < b)
instance (costs : List Int) (a b : Nat) : Decidable (klt costs a b) := by unfold klt; infer_instance

theorem klt_irrefl {costs : List Int} {a : Nat} : ¬ klt costs a a := by unfold klt; omega
theorem klt_trans {costs : List Int} {a b c : Nat} (h1 : klt costs a b) (h2 : klt costs b c) : klt costs a c := by unfold klt at *; omega
/-- not ahead: at or behind -/
theorem kle_trans {costs : List Int} {a b c : Nat} (h1 : ¬ klt costs b a) (h2 : ¬ klt costs c b) : ¬ klt costs c a := by unfold klt at *; omega
theorem klt_kle {costs : List Int} {a b c : Nat} (h1 : klt costs a b) (h2 : ¬ klt costs c b) : ¬ klt costs c a := by unfold klt at *; omega

/-- each key of the row knows its place, and none else has one -/
structure Valid (row : List Nat) (n : Nat) (seats : List Nat) : Prop where
  len : seats.length = n
  rv : ∀ i, i < row.length → nth row i < n
  rs : ∀ i, i < row.length → nth seats (nth row i) = i + 1
  sv : ∀ k, k < n → nth seats k ≠ 0 → nth seats k - 1 < row.length ∧ nth row (nth seats k - 1) = k

def swapRow (row : List Nat) (i j : Nat) : List Nat := (row.set i (nth row j)).set j (nth row i)
def swapSeats (row seats : List Nat) (i j : Nat) : List Nat := (seats.set (nth (swapRow row i j) i) (i + 1)).set (nth (swapRow row i j) j) (j + 1)

@[simp] theorem swapRow_len {row : List Nat} {i j : Nat} : (swapRow row i j).length = row.length := by simp [swapRow]
@[simp] theorem swapSeats_len {row seats : List Nat} {i j : Nat} : (swapSeats row seats i j).length = seats.length := by simp [swapSeats]

theorem swapRow_get {row : List Nat} {i j : Nat} (hi : i < row.length) (hj : j < row.length) (k : Nat) :
    nth (swapRow row i j) k = if k = j then nth row i else if k = i then nth row j else nth row k := by
  unfold swapRow
  rw [nth_set (by simpa using hj), nth_set hi]

theorem Valid.inj {row : List Nat} {n : Nat} {seats : List Nat} (V : Valid row n seats) {i j : Nat} (hi : i < row.length) (hj : j < row.length) (h : nth row i = nth row j) : i = j := by
  have h1 := V.rs i hi
  have h2 := V.rs j hj
  rw [h] at h1
  omega

theorem swapSeats_get {row : List Nat} {n : Nat} {seats : List Nat} {i j : Nat} (V : Valid row n seats) (hi : i < row.length) (hj : j < row.length) (k : Nat) :
    nth (swapSeats row seats i j) k = if k = nth row i then j + 1 else if k = nth row j then i + 1 else nth seats k := by
  have h1 : nth (swapRow row i j) i = nth row j := by
    rw [swapRow_get hi hj]
    split
    · rename_i h; rw [h]
    · simp
  have h2 : nth (swapRow row i j) j = nth row i := by rw [swapRow_get hi hj]; simp
  unfold swapSeats
  rw [h1, h2, nth_set (by simp; rw [V.len]; exact V.rv i hi), nth_set (by rw [V.len]; exact V.rv j hj)]

theorem Valid.swap {row : List Nat} {n : Nat} {seats : List Nat} (V : Valid row n seats) {i j : Nat} (hi : i < row.length) (hj : j < row.length) :
    Valid (swapRow row i j) n (swapSeats row seats i j) := by
  refine ⟨by simpa using V.len, ?_, ?_, ?_⟩
  · intro k hk
    simp at hk
    rw [swapRow_get hi hj]
    have := V.rv i hi; have := V.rv j hj; have := V.rv k hk
    split <;> (try split) <;> assumption
  · intro k hk
    simp at hk
    rw [swapSeats_get V hi hj, swapRow_get hi hj]
    have e := V.rs k hk
    by_cases hkj : k = j
    · subst hkj; simp
    · by_cases hki : k = i
      · subst hki
        simp only [hkj, if_false, if_true]
        split
        · rename_i h; have := V.inj hj hi h; omega
        · rfl
      · simp only [hkj, hki, if_false]
        split
        · rename_i h; exact absurd (V.inj hk hi h) hki
        · split
          · rename_i h; exact absurd (V.inj hk hj h) hkj
          · exact e
  · intro k hk hne
    rw [swapSeats_get V hi hj] at hne ⊢
    simp only [swapRow_len]
    split
    · rename_i h
      refine ⟨by simpa using hj, ?_⟩
      rw [swapRow_get hi hj]; simp [h]
    · rename_i h
      split
      · rename_i h2
        refine ⟨by simpa using hi, ?_⟩
        rw [swapRow_get hi hj]
        simp only [Nat.add_sub_cancel]
        split
        · rename_i h3; rw [h2, ← h3]
        · simp [h2]
      · rename_i h2
        rw [if_neg h, if_neg h2] at hne
        obtain ⟨q1, q2⟩ := V.sv k hk hne
        refine ⟨q1, ?_⟩
        rw [swapRow_get hi hj]
        split
        · rename_i h3; rw [h3] at q2; exact absurd q2.symm h2
        · split
          · rename_i h3; rw [h3] at q2; exact absurd q2.symm h
          · exact q2

theorem swap_in {row : List Nat} {n : Nat} {seats : List Nat} (V : Valid row n seats) {i j : Nat} (hi : i < row.length) (hj : j < row.length) (k : Nat) :
    nth (swapSeats row seats i j) k = 0 ↔ nth seats k = 0 := by
  rw [swapSeats_get V hi hj]
  split
  · rename_i h; have := V.rs i hi; rw [← h] at this; omega
  · split
    · rename_i h; have := V.rs j hj; rw [← h] at this; omega
    · rfl

def parent (j : Nat) : Nat := (j - 1) / 2

/-- in order, but perhaps for place i, which may be ahead of what is above it -/
structure OrdU (row : List Nat) (costs : List Int) (i : Nat) : Prop where
  a : ∀ j, 0 < j → j < row.length → j ≠ i → ¬ klt costs (nth row j) (nth row (parent j))
  b : 0 < i → ∀ j, 0 < j → j < row.length → parent j = i → ¬ klt costs (nth row j) (nth row (parent i))

/-- in order, but perhaps for what stands right below place i -/
structure OrdD (row : List Nat) (costs : List Int) (i : Nat) : Prop where
  a : ∀ j, 0 < j → j < row.length → parent j ≠ i → ¬ klt costs (nth row j) (nth row (parent j))
  b : 0 < i → ∀ j, 0 < j → j < row.length → parent j = i → ¬ klt costs (nth row j) (nth row (parent i))

def Ord (row : List Nat) (costs : List Int) : Prop := ∀ j, 0 < j → j < row.length → ¬ klt costs (nth row j) (nth row (parent j))

theorem parent_lt {j : Nat} (h : 0 < j) : parent j < j := by unfold parent; omega

theorem OrdU.step {row : List Nat} {costs : List Int} {i : Nat} (O : OrdU row costs i) (h0 : 0 < i) (hi : i < row.length) (hlt : klt costs (nth row i) (nth row (parent i))) :
    OrdU (swapRow row i (parent i)) costs (parent i) := by
  have hp := parent_lt h0
  have hpl : parent i < row.length := by omega
  refine ⟨?_, ?_⟩
  · intro j hj0 hj hjp
    simp at hj
    have hpj := parent_lt hj0
    rw [swapRow_get hi hpl, swapRow_get hi hpl, if_neg hjp]
    by_cases hji : j = i
    · subst hji
      simp only [if_true]
      exact fun h => klt_irrefl (klt_trans h hlt)
    · rw [if_neg hji]
      by_cases h1 : parent j = parent i
      · rw [if_pos h1]
        have := O.a j hj0 hj hji
        rw [h1] at this
        exact klt_kle hlt this
      · rw [if_neg h1]
        by_cases h2 : parent j = i
        · rw [if_pos h2]; exact O.b h0 j hj0 hj h2
        · rw [if_neg h2]; exact O.a j hj0 hj hji
  · intro hp0 j hj0 hj hjp
    simp at hj
    have hpp := parent_lt hp0
    rw [swapRow_get hi hpl, swapRow_get hi hpl]
    have hg : ¬ klt costs (nth row (parent i)) (nth row (parent (parent i))) := O.a (parent i) hp0 hpl (by omega)
    rw [if_neg (show parent (parent i) ≠ parent i by omega), if_neg (show parent (parent i) ≠ i by omega)]
    have hjne : j ≠ parent i := by intro e; have := parent_lt hj0; omega
    rw [if_neg hjne]
    by_cases hji : j = i
    · rw [if_pos hji]; exact hg
    · rw [if_neg hji]
      have := O.a j hj0 hj hji
      rw [hjp] at this
      exact kle_trans hg this

theorem OrdU.fin {row : List Nat} {costs : List Int} {i : Nat} (O : OrdU row costs i) (h : 0 < i → ¬ klt costs (nth row i) (nth row (parent i))) : Ord row costs := by
  intro j hj0 hj
  by_cases hji : j = i
  · subst hji; exact h hj0
  · exact O.a j hj0 hj hji

theorem OrdD.step {row : List Nat} {costs : List Int} {i c : Nat} (O : OrdD row costs i) (hc0 : 0 < c) (hc : c < row.length) (hpc : parent c = i) (hlt : klt costs (nth row c) (nth row i))
    (hmin : ∀ j, 0 < j → j < row.length → parent j = i → ¬ klt costs (nth row j) (nth row c)) : OrdD (swapRow row i c) costs c := by
  have hic : i < c := by have := parent_lt hc0; omega
  have hi : i < row.length := by omega
  refine ⟨?_, ?_⟩
  · intro j hj0 hj hjp
    simp at hj
    have hpj := parent_lt hj0
    rw [swapRow_get hi hc, swapRow_get hi hc]
    by_cases hjc : j = c
    · subst hjc
      simp only [if_true]
      rw [hpc, if_neg (by omega), if_pos rfl]
      exact fun h => klt_irrefl (klt_trans h hlt)
    · rw [if_neg hjc, if_neg hjp]
      by_cases h1 : parent j = i
      · rw [if_pos h1, if_neg (show j ≠ i by omega)]
        exact hmin j hj0 hj h1
      · rw [if_neg h1]
        by_cases hji : j = i
        · rw [if_pos hji]
          subst hji
          exact O.b hj0 c hc0 hc hpc
        · rw [if_neg hji]
          exact O.a j hj0 hj h1
  · intro _ j hj0 hj hjp
    simp at hj
    have hpj := parent_lt hj0
    rw [swapRow_get hi hc, swapRow_get hi hc, hpc, if_neg (show j ≠ c by omega), if_neg (show j ≠ i by omega), if_neg (show i ≠ c by omega), if_pos rfl]
    have := O.a j hj0 hj (by omega)
    rw [hjp] at this
    exact this

theorem OrdD.fin {row : List Nat} {costs : List Int} {i : Nat} (O : OrdD row costs i) (h : ∀ j, 0 < j → j < row.length → parent j = i → ¬ klt costs (nth row j) (nth row i)) : Ord row costs := by
  intro j hj0 hj
  by_cases hji : parent j = i
  · rw [hji]; exact h j hj0 hj hji
  · exact O.a j hj0 hj hji

/-- the first of the row is the least -/
theorem Ord.least {row : List Nat} {costs : List Int} (O : Ord row costs) : ∀ j, j < row.length → ¬ klt costs (nth row j) (nth row 0) := by
  intro j
  induction j using Nat.strongRecOn with
  | _ j ih =>
    intro hj
    rcases Nat.eq_zero_or_pos j with h | h
    · subst h; exact klt_irrefl
    · have hp := parent_lt h
      exact kle_trans (ih (parent j) hp (by omega)) (O j h hj)

theorem nth_append {l : List Nat} {k i : Nat} (hi : i < (l ++ [k]).length) : nth (l ++ [k]) i = if i = l.length then k else nth l i := by
  split
  · rename_i h; rw [h, nth_append_last]
  · rename_i h; simp at hi; exact nth_append_lt (by omega)

theorem valid_push {row : List Nat} {n : Nat} {seats : List Nat} {k : Nat} (V : Valid row n seats) (hk : k < n) (h0 : nth seats k = 0) : Valid (row ++ [k]) n (seats.set k (row.length + 1)) := by
  have hks : k < seats.length := by rw [V.len]; exact hk
  refine ⟨by simpa using V.len, ?_, ?_, ?_⟩
  · intro i hi
    rw [nth_append hi]
    simp at hi
    split
    · exact hk
    · exact V.rv i (by omega)
  · intro i hi
    rw [nth_append hi, nth_set hks]
    simp at hi
    split
    · rename_i h; simp [h]
    · rename_i h
      have := V.rs i (by omega)
      split
      · rename_i h2; rw [h2] at this; omega
      · exact this
  · intro j hj hne
    rw [nth_set hks] at hne ⊢
    split
    · rename_i h
      refine ⟨by simp, ?_⟩
      simp only [Nat.add_sub_cancel]
      rw [nth_append_last, h]
    · rename_i h
      rw [if_neg h] at hne
      obtain ⟨q1, q2⟩ := V.sv j hj hne
      exact ⟨by simp; omega, by rw [nth_append_lt q1]; exact q2⟩

theorem Valid.ne {row : List Nat} {n : Nat} {seats : List Nat} {k i : Nat} (V : Valid row n seats) (h0 : nth seats k = 0) (hi : i < row.length) : nth row i ≠ k := by
  intro e
  have := V.rs i hi
  rw [e] at this
  omega

theorem ordU_push {row : List Nat} {n : Nat} {seats : List Nat} {costs : List Int} {k : Nat} {c : Int} (V : Valid row n seats) (hc : k < costs.length) (h0 : nth seats k = 0) (O : Ord row costs) :
    OrdU (row ++ [k]) (costs.set k c) row.length := by
  have hg : ∀ i, i < row.length → nthI (costs.set k c) (nth row i) = nthI costs (nth row i) := fun i hi => by rw [nthI_set hc, if_neg (V.ne h0 hi)]
  refine ⟨?_, ?_⟩
  · intro j hj0 hj hne
    have hj' : j < row.length := by simp at hj; omega
    have hp : parent j < row.length := by have := parent_lt hj0; omega
    rw [nth_append_lt hj', nth_append_lt hp]
    have := O j hj0 hj'
    unfold klt at *
    rw [hg j hj', hg _ hp]
    exact this
  · intro _ j hj0 hj hp
    have := parent_lt hj0
    simp at hj
    omega

theorem ordU_lower {row : List Nat} {n : Nat} {seats : List Nat} {costs : List Int} {k : Nat} {c : Int} (V : Valid row n seats) (hk : k < n) (hc : k < costs.length) (h0 : nth seats k ≠ 0) (O : Ord row costs) (hlt : c < nthI costs k) :
    OrdU row (costs.set k c) (nth seats k - 1) := by
  obtain ⟨q1, q2⟩ := V.sv k hk h0
  have hg : ∀ i, i < row.length → i ≠ nth seats k - 1 → nthI (costs.set k c) (nth row i) = nthI costs (nth row i) := by
    intro i hi hne
    rw [nthI_set hc, if_neg]
    intro e
    apply hne
    have := V.rs i hi
    rw [e] at this
    omega
  have hk' : nthI (costs.set k c) (nth row (nth seats k - 1)) = c := by rw [q2, nthI_set hc]; simp
  refine ⟨?_, ?_⟩
  · intro j hj0 hj hne
    have hp : parent j < row.length := by have := parent_lt hj0; omega
    have := O j hj0 hj
    by_cases hpe : parent j = nth seats k - 1
    · unfold klt at *
      rw [hg j hj hne, hpe, hk']
      rw [hpe, q2] at this
      omega
    · unfold klt at *
      rw [hg j hj hne, hg _ hp hpe]
      exact this
  · intro hi0 j hj0 hj hp
    have hpj := parent_lt hj0
    have hpp := parent_lt hi0
    have h1 := O j hj0 hj
    have h2 := O (nth seats k - 1) hi0 q1
    rw [hp] at h1
    have h3 := kle_trans h2 h1
    have e1 := hg j hj (by omega)
    have e2 := hg (parent (nth seats k - 1)) (by omega) (by omega)
    unfold klt at *
    rw [e1, e2]
    exact h3
end Go.Rm
