import Derived.Test.YtgmbpmnbpakhbaaGreatDoorRGraph6
import Derived.Test.YtgmbpmnbpakhbaaGreatDoorSNums

/- Cells in memory: rows of numbers, one for each level; what counts them. -/
set_option linter.unusedSimpArgs false
set_option linter.unusedVariables false
namespace Go.Rm

def nthL (l : List (List Int)) (i : Nat) : List Int := l.getD i []
theorem nthL_eq {l : List (List Int)} {i : Nat} (hi : i < l.length) : nthL l i = l[i] := by simp [nthL, hi]

structure RowL (h : Heap) (s : Sl) (l : List (List Int)) : Prop where
  ok : s.ok
  len : l.length = s.n
  val : ∀ i, i < l.length → ∃ u : Sl, hc h s.b (s.o + i) = some u.v ∧ Row64 h u (nthL l i)
theorem RowL.ext {h h' : Heap} {s : Sl} {l : List (List Int)} (r : RowL h s l) (e : Ext h h') : RowL h' s l :=
  ⟨r.ok, r.len, fun i hi => by
    obtain ⟨u, a, b⟩ := r.val i hi
    exact ⟨u, e.hc a (fun h => h), b.ext e⟩⟩
def ptV (s : Sl) : Value := .agg #[s.v]

/-- one more than the greatest -/
def mostI (l : List Int) : Int := l.foldl (fun m c => if m < c + 1 then c + 1 else m) 0
theorem mostI_snoc {l : List Int} {i : Nat} (hi : i < l.length) : mostI (l.take (i + 1)) = if mostI (l.take i) < nthI l i + 1 then nthI l i + 1 else mostI (l.take i) := by
  unfold mostI
  rw [List.take_succ_eq_append_getElem hi, List.foldl_append]
  simp only [List.foldl_cons, List.foldl_nil]
  rw [show nthI l i = l[i] by simp [nthI, hi]]
theorem mostI_nonneg {l : List Int} : ∀ {i : Nat}, i ≤ l.length → 0 ≤ mostI (l.take i) := by
  intro i
  induction i with
  | zero => intro _; simp [mostI]
  | succ i ih =>
    intro hi
    have := ih (by omega)
    rw [mostI_snoc (by omega)]
    split <;> omega
theorem mostI_gt {l : List Int} : ∀ {i : Nat}, i ≤ l.length → ∀ j, j < i → nthI l j < mostI (l.take i) := by
  intro i
  induction i with
  | zero => intro _ j hj; omega
  | succ i ih =>
    intro hi j hj
    rw [mostI_snoc (by omega)]
    rcases Nat.lt_or_ge j i with g | g
    · have := ih (by omega) j g
      split <;> omega
    · obtain rfl : j = i := by omega
      split <;> omega
theorem mostI_le {l : List Int} {n : Int} (hn : 0 ≤ n) (h : ∀ j, j < l.length → nthI l j < n) : ∀ {i : Nat}, i ≤ l.length → mostI (l.take i) ≤ n := by
  intro i
  induction i with
  | zero => intro _; simpa [mostI] using hn
  | succ i ih =>
    intro hi
    have := ih (by omega)
    have := h i (by omega)
    rw [mostI_snoc (by omega)]
    split <;> omega
theorem mostI_all {l : List Int} {n : Int} (hn : 0 ≤ n) (h : ∀ j, j < l.length → nthI l j < n) : 0 ≤ mostI l ∧ mostI l ≤ n ∧ ∀ j, j < l.length → nthI l j < mostI l := by
  have e : l.take l.length = l := List.take_length
  refine ⟨?_, ?_, ?_⟩
  · have := mostI_nonneg (l := l) (Nat.le_refl l.length); rwa [e] at this
  · have := mostI_le hn h (Nat.le_refl l.length); rwa [e] at this
  · have := mostI_gt (l := l) (Nat.le_refl l.length); rwa [e] at this

def hasB (L : List (List Int)) (l : Int) : Bool := decide (1 ≤ l ∧ l ≤ L.length)
def lvl (L : List (List Int)) (l : Int) : List Int := if hasB L l then nthL L (l - 1).toNat else []

section
variable {Y : Sys} {h h' : Heap}

theorem RowL.at {s : Sl} {L : List (List Int)} (r : RowL h s L) {i : Nat} (hi : i < s.n) : ∃ u : Sl, (∀ g, Ext h g → hc g s.b (s.o + i) = some u.v) ∧ Row64 h u (nthL L i) := by
  obtain ⟨u, a, b⟩ := r.val i (by rw [r.len]; exact hi)
  exact ⟨u, fun g e => e.hc a (fun h => h), b⟩

structure Part16 (Y : Sys) : Prop where
  most : Y.Has F.rref16_most S_rref16_most
  Has : Y.Has F.rref16_Has S_rref16_Has
  Count : Y.Has F.rref16_Count S_rref16_Count
structure PartFns (Y : Sys) : Prop where
  numbers : Y.Has F.part_numbers S_part_numbers
  Count : Y.Has F.part_Count S_part_Count
  row : Y.Has F.rim_row S_rim_row

theorem has_spec (P : Part16 Y) {s : Sl} {L : List (List Int)} (hL : L.length = s.n) {l : Int} {R : Value → Heap → Prop} (hr : ∀ h', Ext h h' → R (.bool (hasB L l)) h') : CallP Y F.rref16_Has [ptV s, .int .i64 l] h R := by
  refine .of_has P.Has rfl ?_
  simp [S_rref16_Has, FnS.wp, ptV]
  refine ef_new_box ?_
  intro B h1 g1 B1 e1
  have := hr h1 e1
  unfold hasB at this
  by_cases c1 : 1 ≤ l
  · by_cases c2 : l ≤ s.n
    · have c3 : l ≤ L.length := by omega
      simp [c1, c3] at this
      simp [c1, c2, B1.hc]
      exact this
    · have c3 : ¬ l ≤ L.length := by omega
      simp [c1, c3] at this
      simp [c1, c2, B1.hc]
      exact this
  · simp [c1] at this
    simp [c1]
    exact this

def MoI (s : Sl) (l : List Int) (h0 : Heap) (e : List Value) (h' : Heap) : Prop :=
  ∃ (i : Nat) (v1 v4 : Value), e = [s.v, v1, .int .i64 (mostI (l.take i)), .int .i64 i, v4] ∧ i ≤ s.n ∧ h' = h0
theorem most_spec16 (P : Part16 Y) {s : Sl} {l : List Int} (r : Row64 h s l) (hbig : s.n ≤ 1000000) (hs : ∀ j, j < l.length → -1 ≤ nthI l j ∧ nthI l j < 4611686018427387904) {R : Value → Heap → Prop} (hr : R (.int .i64 (mostI l)) h) : CallP Y F.rref16_most [s.v] h R := by
  refine .of_has P.most rfl ?_
  have hl := r.len
  simp [S_rref16_most, FnS.wp]
  refine wp_loop' (MoI s l h) (fun e _ => s.n - argI e 3) ⟨0, _, _, rfl, by omega, rfl⟩ ?_
  rintro e h1 ⟨i, v1, v4, rfl, hi, rfl⟩
  by_cases c : i < s.n
  · have c' : (i : Int) < s.n := by omega
    have w1 : IntKind.i64.wrap ((i : Int) + 1) = (i : Int) + 1 := i64_wrap (by omega)
    obtain ⟨g1, g2⟩ := hs i (by omega)
    have w2 : IntKind.i64.wrap (nthI l i + 1) = nthI l i + 1 := i64_wrap (by omega)
    simp [c', sem_idxa r.ok, r.at c, w1, w2, ← mostI_snoc (l := l) (i := i) (by omega)]
    refine ⟨⟨i + 1, _, _, rfl, by omega, rfl⟩, by simp [argI]; omega⟩
  · have c' : ¬ (i : Int) < s.n := by omega
    have : l.take i = l := List.take_of_length_le (by omega)
    simp [c', this]
    exact hr

theorem count16_spec (P : Part16 Y) {s : Sl} {L : List (List Int)} (r : RowL h s L) (hbig : s.n ≤ 1000) (hb : ∀ i, i < L.length → (nthL L i).length ≤ 1000000 ∧ ∀ j, j < (nthL L i).length → -1 ≤ nthI (nthL L i) j ∧ nthI (nthL L i) j < 4611686018427387904) {l : Int} {R : Value → Heap → Prop}
    (hr : ∀ h', Ext h h' → R (.int .i64 (mostI (lvl L l))) h') : CallP Y F.rref16_Count [ptV s, .int .i64 l] h R := by
  refine .of_has P.Count rfl ?_
  have hl := r.len
  simp [S_rref16_Count, FnS.wp, ptV]
  refine ef_new_box ?_
  intro B h1 g1 B1 e1
  simp [rd_blk B1]
  refine has_spec P hl ?_
  intro h2 e2
  have x2 := e1.trans e2
  by_cases c : hasB L l = true
  · have c' := c
    simp [hasB] at c'
    obtain ⟨i, hi⟩ : ∃ i : Nat, l - 1 = i := ⟨(l - 1).toNat, by omega⟩
    have w1 : IntKind.i64.wrap (l - 1) = (i : Int) := by rw [i64_wrap (by omega), hi]
    obtain ⟨u, hu, ru⟩ := r.at (i := i) (by omega)
    have hlv : lvl L l = nthL L i := by simp [lvl, c, hi]
    rw [hlv] at hr
    obtain ⟨b1, b2⟩ := hb i (by omega)
    have lu := ru.len
    simp [c, (B1.ext e2).hc, w1, sem_idxa r.ok, show i < s.n by omega, hu, x2]
    refine most_spec16 P (ru.ext x2) (by omega) b2 ?_
    simp
    exact hr h2 x2
  · have c' : hasB L l = false := by simpa using c
    have hlv : lvl L l = [] := by simp [lvl, c']
    rw [hlv] at hr
    simp [c']
    exact hr h2 x2

theorem numbers_spec (P : PartFns Y) {s : Sl} {L : List (List Int)} (r : RowL h s L) (hbig : s.n ≤ 1000) {l : Int} (hl : -9223372036854775808 ≤ l ∧ l ≤ 9223372036854775807) {R : Value → Heap → Prop}
    (hr : ∀ h' u, Ext h h' → Row64 h u (lvl L l) → R u.v h') : CallP Y F.part_numbers [ptV s, .int .i64 l] h R := by
  refine .of_has P.numbers rfl ?_
  have hn := r.len
  simp [S_part_numbers, FnS.wp, ptV]
  refine ef_new_box ?_
  intro B h1 g1 B1 e1
  by_cases c : hasB L l = true
  · have c' := c
    simp [hasB] at c'
    obtain ⟨i, hi⟩ : ∃ i : Nat, l - 1 = i := ⟨(l - 1).toNat, by omega⟩
    have w1 : IntKind.i64.wrap (l - 1) = (i : Int) := by rw [i64_wrap (by omega), hi]
    obtain ⟨u, hu, ru⟩ := r.at (i := i) (by omega)
    have hlv : lvl L l = nthL L i := by simp [lvl, c, hi]
    rw [hlv] at hr
    have c1 : ¬ l < 1 := by omega
    have c2 : ¬ (s.n : Int) < l := by omega
    simp [c1, c2, B1.hc, w1, sem_idxa r.ok, show i < s.n by omega, hu, e1]
    exact hr h1 u e1 ru
  · have c' : hasB L l = false := by simpa using c
    have hlv : lvl L l = [] := by simp [lvl, c']
    rw [hlv] at hr
    have fin := hr h1 Sl.nil e1 ⟨Sl.nil_ok, rfl, fun i hi => by simp at hi⟩
    simp [hasB] at c'
    by_cases c1 : l < 1
    · simp [c1]
      exact fin
    · have c2 : (s.n : Int) < l := by omega
      simp [c1, c2, B1.hc]
      exact fin

theorem rimrow_spec (P : PartFns Y) {s : Sl} {L : List (List Int)} (r : RowL h s L) (hbig : s.n ≤ 1000) {l : Int} (hl : -9223372036854775808 ≤ l ∧ l ≤ 9223372036854775807) {R : Value → Heap → Prop}
    (hr : ∀ h' u, Ext h h' → Row64 h u (lvl L l) → R u.v h') : CallP Y F.rim_row [ptV s, .int .i64 l] h R := by
  refine .of_has P.row rfl ?_
  have hn := r.len
  simp [S_rim_row, FnS.wp, ptV]
  refine ef_new_box ?_
  intro B h1 g1 B1 e1
  by_cases c : hasB L l = true
  · have c' := c
    simp [hasB] at c'
    obtain ⟨i, hi⟩ : ∃ i : Nat, l - 1 = i := ⟨(l - 1).toNat, by omega⟩
    have w1 : IntKind.i64.wrap (l - 1) = (i : Int) := by rw [i64_wrap (by omega), hi]
    obtain ⟨u, hu, ru⟩ := r.at (i := i) (by omega)
    have hlv : lvl L l = nthL L i := by simp [lvl, c, hi]
    rw [hlv] at hr
    have c1 : ¬ l < 1 := by omega
    have c2 : ¬ (s.n : Int) < l := by omega
    simp [c1, c2, B1.hc, w1, sem_idxa r.ok, show i < s.n by omega, hu, e1]
    exact hr h1 u e1 ru
  · have c' : hasB L l = false := by simpa using c
    have hlv : lvl L l = [] := by simp [lvl, c']
    rw [hlv] at hr
    have fin := hr h1 Sl.nil e1 ⟨Sl.nil_ok, rfl, fun i hi => by simp at hi⟩
    simp [hasB] at c'
    by_cases c1 : l < 1
    · simp [c1]
      exact fin
    · have c2 : (s.n : Int) < l := by omega
      simp [c1, c2, B1.hc]
      exact fin

def PcI (u : Sl) (l : List Int) (h0 : Heap) (e : List Value) (h' : Heap) : Prop :=
  ∃ (i : Nat) (v0 v1 v2 v3 v5 v9 v10 : Value), e = [v0, v1, v2, v3, .int .i64 (mostI (l.take i)), v5, u.v, .int .i64 u.n, .int .i64 i, v9, v10] ∧ i ≤ u.n ∧ h' = h0
theorem pcount_spec (P : PartFns Y) {s : Sl} {L : List (List Int)} (r : RowL h s L) (hbig : s.n ≤ 1000) (hb : ∀ i, i < L.length → (nthL L i).length ≤ 1000000 ∧ ∀ j, j < (nthL L i).length → -1 ≤ nthI (nthL L i) j ∧ nthI (nthL L i) j < 4611686018427387904) {l : Int} (hl : -9223372036854775808 ≤ l ∧ l ≤ 9223372036854775807) {R : Value → Heap → Prop}
    (hr : ∀ h', Ext h h' → R (.int .i64 (mostI (lvl L l))) h') : CallP Y F.part_Count [ptV s, .int .i64 l] h R := by
  refine .of_has P.Count rfl ?_
  simp [S_part_Count, FnS.wp, ptV]
  refine ef_new_box ?_
  intro B h1 g1 B1 e1
  have hb' : (lvl L l).length ≤ 1000000 ∧ ∀ j, j < (lvl L l).length → -1 ≤ nthI (lvl L l) j ∧ nthI (lvl L l) j < 4611686018427387904 := by
    unfold lvl
    split
    · rename_i c
      simp [hasB] at c
      exact hb _ (by omega)
    · simp
  simp [rd_blk B1]
  refine numbers_spec P (r.ext e1) hbig hl ?_
  intro h2 u e2 ru
  have lu := ru.len
  have ru2 := ru.ext e2
  obtain ⟨b1, b2⟩ := hb'
  generalize lvl L l = q at *
  simp
  refine wp_loop' (PcI u q h2) (fun e _ => u.n - argI e 8) ⟨0, _, _, _, _, _, _, _, rfl, by omega, rfl⟩ ?_
  rintro e h3 ⟨i, v0, v1, v2, v3, v5, v9, v10, rfl, hi, rfl⟩
  by_cases c : i < u.n
  · have c' : (i : Int) < u.n := by omega
    have w1 : IntKind.i64.wrap ((i : Int) + 1) = (i : Int) + 1 := i64_wrap (by omega)
    obtain ⟨g1, g2⟩ := b2 i (by omega)
    have w2 : IntKind.i64.wrap (nthI q i + 1) = nthI q i + 1 := i64_wrap (by omega)
    have hm := mostI_snoc (l := q) (i := i) (by omega)
    by_cases d : mostI (q.take i) ≤ nthI q i
    · rw [if_pos (by omega)] at hm
      simp [c', sem_idxa ru.ok, ru2.at c, w1, w2, d]
      rw [← hm]
      refine ⟨⟨i + 1, _, _, _, _, _, _, _, rfl, by omega, rfl⟩, by simp [argI]; omega⟩
    · rw [if_neg (by omega)] at hm
      simp [c', sem_idxa ru.ok, ru2.at c, w1, w2, d]
      rw [← hm]
      refine ⟨⟨i + 1, _, _, _, _, _, _, _, rfl, by omega, rfl⟩, by simp [argI]; omega⟩
  · have c' : ¬ (i : Int) < u.n := by omega
    have : q.take i = q := List.take_of_length_le (by omega)
    simp [c', this]
    exact hr h3 (e1.trans e2)
end
end Go.Rm

/- Cells: the document's check of one level. -/
set_option linter.unusedSimpArgs false
set_option linter.unusedVariables false
namespace Go.Rm

def rowIn (n : Nat) (row : List Int) : Bool := decide (∀ v, v < n → 0 ≤ nthI row v ∧ nthI row v < n)
def rowFull (row : List Int) : Bool := decide (∀ c, c < (mostI row).toNat → ∃ v, v < row.length ∧ nthI row v = (c : Int))
def rowNest (n : Nat) (prev row : List Int) : Bool := decide (∀ a, a < n → ∀ b, b < n → nthI prev a ≤ nthI prev b → nthI row a ≤ nthI row b)
/-- what is wrong with level i -/
def lvE (n : Nat) (L : List (List Int)) (i : Nat) : Int :=
  if (nthL L i).length ≠ n then 1 else if rowIn n (nthL L i) = false then 10 else if rowFull (nthL L i) = false then 10 else
  if 0 < i ∧ rowNest n (nthL L (i - 1)) (nthL L i) = false then 10 else 0
theorem rowIn_iff {n : Nat} {row : List Int} : rowIn n row = true ↔ ∀ v, v < n → 0 ≤ nthI row v ∧ nthI row v < n := by simp [rowIn]
theorem rowFull_iff {row : List Int} : rowFull row = true ↔ ∀ c, c < (mostI row).toNat → ∃ v, v < row.length ∧ nthI row v = (c : Int) := by simp [rowFull]
theorem rowNest_iff {n : Nat} {prev row : List Int} : rowNest n prev row = true ↔ ∀ a, a < n → ∀ b, b < n → nthI prev a ≤ nthI prev b → nthI row a ≤ nthI row b := by simp [rowNest]

/-- how often each number comes -/
def cntN (l : List Int) (c : Nat) : Nat := (l.filter fun x => x = (c : Int)).length
def cntL (n : Nat) (l : List Int) : List Int := (List.range n).map fun c => (cntN l c : Int)
@[simp] theorem cntL_len {n : Nat} {l : List Int} : (cntL n l).length = n := by simp [cntL]
theorem cntL_at {n c : Nat} {l : List Int} (hc : c < n) : nthI (cntL n l) c = cntN l c := by simp [nthI, cntL, hc]
theorem cntL_nil {n : Nat} : cntL n [] = List.replicate n 0 := by
  apply List.ext_getElem (by simp)
  intro j h1 h2
  simp [cntL, cntN]
theorem cntN_snoc {l : List Int} {i c : Nat} (hi : i < l.length) : cntN (l.take (i + 1)) c = cntN (l.take i) c + if nthI l i = (c : Int) then 1 else 0 := by
  unfold cntN
  rw [List.take_succ_eq_append_getElem hi, List.filter_append, List.length_append, show nthI l i = l[i] by simp [nthI, hi]]
  congr 1
  by_cases h : l[i] = (c : Int) <;> simp [h]
theorem cntN_le {l : List Int} {c : Nat} : cntN l c ≤ l.length := List.length_filter_le ..
theorem cntL_step {n i t : Nat} {l : List Int} (hi : i < l.length) (ht : nthI l i = (t : Int)) (htn : t < n) : (cntL n (l.take i)).set t ((cntN (l.take i) t : Int) + 1) = cntL n (l.take (i + 1)) := by
  apply List.ext_getElem (by simp)
  intro j h1 h2
  rw [List.getElem_set]
  simp only [cntL, List.getElem_map, List.getElem_range]
  rw [cntN_snoc hi, ht]
  by_cases c : t = j
  · subst c; simp
  · have : ¬ (t : Int) = (j : Int) := by omega
    simp [c, this]
theorem cntN_pos {l : List Int} {c : Nat} : cntN l c ≠ 0 ↔ ∃ v, v < l.length ∧ nthI l v = (c : Int) := by
  unfold cntN
  rw [Ne, List.length_eq_zero_iff, List.filter_eq_nil_iff]
  constructor
  · intro h
    simp only [decide_eq_true_eq] at h
    have ⟨x, hx, hc⟩ : ∃ x ∈ l, x = (c : Int) := by
      apply Classical.byContradiction
      intro hn
      exact h fun a ha e => hn ⟨a, ha, e⟩
    obtain ⟨v, hv, rfl⟩ := List.getElem_of_mem hx
    exact ⟨v, hv, by simp [nthI, hv]; exact hc⟩
  · rintro ⟨v, hv, e⟩ h
    have := h l[v] (List.getElem_mem hv)
    simp [nthI, hv] at e
    simp [e] at this
theorem rowFull_cnt {row : List Int} : rowFull row = true ↔ ∀ c, c < (mostI row).toNat → cntN row c ≠ 0 := by
  rw [rowFull_iff]
  exact ⟨fun h c hc => cntN_pos.2 (h c hc), fun h c hc => cntN_pos.1 (h c hc)⟩

section
variable {Y : Sys} {h h' : Heap}

structure Ck16 (Y : Sys) : Prop where
  P : Part16 Y
  checkLevel : Y.Has F.rref16_checkLevel S_rref16_checkLevel

@[simp] theorem sem_len_nil : IOp.sem Y h .len [.slice none 0 0] = some (.int .i64 0) := rfl

/-- a number is stored into a row that begins at the head of its block -/
theorem st64o {K : Value → Heap → Prop} {b n m : Nat} {cs : List Int} (o : Own h 1 (Sl.at b n m) (ints64 cs)) {k : Nat} {y : Int} (hk : k < cs.length)
    (hr : ∀ h', Own h' 1 (Sl.at b n m) (ints64 (cs.set k y)) → Mod (fun j => j = b) h h' → K undef h') : StoreP h b k (.int .i64 y) K := by
  have := st64 o hk hr
  simpa using this
def ClI0 (n B l : Nat) (v1 : Value) (u : Sl) (row : List Int) (h0 : Heap) (e : List Value) (h' : Heap) : Prop :=
  ∃ (i : Nat) (v8 v9 v10 v11 v12 v13 v14 v15 v16 v17 v18 v19 v20 v21 v22 v23 v24 : Value), e = [.int .i64 n, v1, .int .i64 ((l : Int) + 1), .slice none 0 0, .pointer (some ⟨B, 0, none⟩), .int .i64 0, u.v, .int .i64 i, v8, v9, v10, v11, v12, v13, v14, v15, v16, v17, v18, v19, v20, v21, v22, v23, v24] ∧ i ≤ n ∧ (∀ j, j < i → 0 ≤ nthI row j ∧ nthI row j < n) ∧ h' = h0
def ClI1 (n B l : Nat) (v1 : Value) (u k : Sl) (row : List Int) (h0 : Heap) (e : List Value) (h' : Heap) : Prop :=
  ∃ (i : Nat) (v7 v10 v11 v12 v13 v14 v15 v16 v17 v18 v19 v20 v21 v22 v23 v24 : Value), e = [.int .i64 n, v1, .int .i64 ((l : Int) + 1), .slice none 0 0, .pointer (some ⟨B, 0, none⟩), .int .i64 0, u.v, v7, k.v, .int .i64 i, v10, v11, v12, v13, v14, v15, v16, v17, v18, v19, v20, v21, v22, v23, v24] ∧ i ≤ n ∧ Own h' 1 k (ints64 (cntL n (row.take i))) ∧ Mod (fun j => j = k.b) h0 h'
def ClI2 (n B l : Nat) (v1 : Value) (u k : Sl) (row : List Int) (h0 : Heap) (e : List Value) (h' : Heap) : Prop :=
  ∃ (i : Nat) (v7 v9 v11 v12 v13 v14 v15 v16 v17 v18 v19 v20 v21 v22 v23 v24 : Value), e = [.int .i64 n, v1, .int .i64 ((l : Int) + 1), .slice none 0 0, .pointer (some ⟨B, 0, none⟩), .int .i64 0, u.v, v7, k.v, v9, .int .i64 i, v11, v12, v13, v14, v15, v16, v17, v18, v19, v20, v21, v22, v23, v24] ∧ (i : Int) ≤ mostI row ∧ (∀ j, j < i → cntN row j ≠ 0) ∧ h' = h0
def ClI3 (n B l : Nat) (v1 : Value) (u k : Sl) (prev row : List Int) (h0 : Heap) (e : List Value) (h' : Heap) : Prop :=
  ∃ (i : Nat) (v7 v9 v10 v12 v13 v14 v15 v16 v17 v18 v19 v20 v21 v22 v23 v24 : Value), e = [.int .i64 n, v1, .int .i64 ((l : Int) + 1), .slice none 0 0, .pointer (some ⟨B, 0, none⟩), .int .i64 0, u.v, v7, k.v, v9, v10, .int .i64 i, v12, v13, v14, v15, v16, v17, v18, v19, v20, v21, v22, v23, v24] ∧ i ≤ n ∧ (0 < l → ∀ a, a < i → ∀ b, b < n → nthI prev a ≤ nthI prev b → nthI row a ≤ nthI row b) ∧ h' = h0
def ClI4 (n B l a : Nat) (v1 : Value) (u k : Sl) (prev row : List Int) (h0 : Heap) (e : List Value) (h' : Heap) : Prop :=
  ∃ (i : Nat) (v7 v9 v10 v13 v14 v15 v16 v17 v18 v19 v20 v21 v22 v23 v24 : Value), e = [.int .i64 n, v1, .int .i64 ((l : Int) + 1), .slice none 0 0, .pointer (some ⟨B, 0, none⟩), .int .i64 0, u.v, v7, k.v, v9, v10, .int .i64 a, .int .i64 i, v13, v14, v15, v16, v17, v18, v19, v20, v21, v22, v23, v24] ∧ i ≤ n ∧ (∀ b, b < i → nthI prev a ≤ nthI prev b → nthI row a ≤ nthI row b) ∧ h' = h0
def ClI5 (n B l : Nat) (v1 : Value) (h0 : Heap) (e : List Value) (h' : Heap) : Prop :=
  ∃ (i : Nat) (v6 v7 v8 v9 v10 v11 v12 v14 v15 v16 v17 v18 v19 v20 v21 v22 v23 v24 : Value), e = [.int .i64 n, v1, .int .i64 ((l : Int) + 1), .slice none 0 0, .pointer (some ⟨B, 0, none⟩), .int .i64 0, v6, v7, v8, v9, v10, v11, v12, .int .i64 i, v14, v15, v16, v17, v18, v19, v20, v21, v22, v23, v24] ∧ i ≤ n ∧ h' = h0

theorem level_spec (C : Ck16 Y) {s : Sl} {L : List (List Int)} (r : RowL h s L) (hbig : s.n ≤ 1000) {n l : Nat} (hn : n ≤ 1000000) (hl : l < L.length) (hprev : 0 < l → (nthL L (l - 1)).length = n) {R : Value → Heap → Prop}
    (hr : ∀ h', Ext h h' → R (.int .i64 (lvE n L l)) h') : CallP Y F.rref16_checkLevel [.int .i64 n, ptV s, .int .i64 ((l : Int) + 1), .slice none 0 0] h R := by
  refine .of_has C.checkLevel rfl ?_
  have lL := r.len
  simp [S_rref16_checkLevel, FnS.wp, ptV]
  refine ef_new_box ?_
  intro B h1 g1 B1 e1
  obtain ⟨u, hu, ru⟩ := r.at (i := l) (by omega)
  have lu := ru.len
  have wl : IntKind.i64.wrap ((l : Int) + 1 - 1) = (l : Int) := by rw [i64_wrap (by omega)]; omega
  have wl' : IntKind.i64.wrap (l : Int) = (l : Int) := i64_wrap (by omega)
  have hls : l < s.n := by omega
  by_cases c1 : (nthL L l).length = n
  rotate_left
  · have he : lvE n L l = 1 := by unfold lvE; rw [if_pos c1]
    rw [he] at hr
    have c1' : ((u.n : Int) = (n : Int)) = False := by simp; omega
    have c1n : (u.n = n) = False := by simp; omega
    simp [B1.hc, wl, wl', sem_idxa r.ok, hls, hu, e1, c1', c1n]
    exact hr h1 e1
  have c1' : ((u.n : Int) = (n : Int)) = True := by simp; omega
  have c1n : (u.n = n) = True := by simp; omega
  obtain ⟨row, hrow⟩ : ∃ row, row = nthL L l := ⟨_, rfl⟩
  have hE : lvE n L l = if rowIn n row = false then 10 else if rowFull row = false then 10 else if 0 < l ∧ rowNest n (nthL L (l - 1)) row = false then 10 else 0 := by
    unfold lvE; rw [if_neg (by simp [c1]), hrow]
  rw [hE] at hr
  clear hE
  rw [← hrow] at ru lu c1
  simp [B1.hc, wl, wl', sem_idxa r.ok, hls, hu, e1, c1', c1n]
  refine wp_loop' (ClI0 n B l (.agg #[s.v]) u row h1) (fun e _ => n - argI e 7) ⟨0, _, _, _, _, _, _, _, _, _, _, _, _, _, _, _, _, _, rfl, by omega, fun j hj => by omega, rfl⟩ ?_
  rintro e h2 ⟨i, v8, v9, v10, v11, v12, v13, v14, v15, v16, v17, v18, v19, v20, v21, v22, v23, v24, rfl, hi, hin, rfl⟩
  have ru1 := ru.ext e1
  by_cases c2 : i < n
  · have c2' : (i : Int) < n := by omega
    have w1 : IntKind.i64.wrap ((i : Int) + 1) = (i : Int) + 1 := i64_wrap (by omega)
    have hiu : i < u.n := by omega
    have hiu' : (i : Int) < u.n := by omega
    by_cases d : 0 ≤ nthI row i ∧ nthI row i < n
    · have d1 : ¬ nthI row i < 0 := by omega
      have d2 : ¬ (n : Int) ≤ nthI row i := by omega
      simp [c2', sem_idxa ru.ok, hiu, hiu', ru1.at hiu, d1, d2, w1]
      have hin' : ∀ j, j < i + 1 → 0 ≤ nthI row j ∧ nthI row j < n := by
        intro j hj
        rcases Nat.lt_or_ge j i with g | g
        · exact hin j g
        · obtain rfl : j = i := by omega
          exact d
      refine ⟨⟨i + 1, _, _, _, _, _, _, _, _, _, _, _, _, _, _, _, _, _, rfl, by omega, hin', rfl⟩, by simp [argI]; omega⟩
    · have he : rowIn n row = false := by
        rw [Bool.eq_false_iff]; intro hh; exact d (rowIn_iff.1 hh i c2)
      rw [if_pos he] at hr
      by_cases d1 : nthI row i < 0
      · simp [c2', sem_idxa ru.ok, hiu, hiu', ru1.at hiu, d1]
        exact hr _ e1
      · have d2 : (n : Int) ≤ nthI row i := by omega
        simp [c2', sem_idxa ru.ok, hiu, hiu', ru1.at hiu, d1, d2]
        exact hr _ e1
  have c2' : ¬ (i : Int) < n := by omega
  obtain rfl : i = n := by omega
  have hIn : rowIn i row = true := rowIn_iff.2 hin
  rw [if_neg (by simp [hIn])] at hr
  simp [c2']
  refine ef_make64 (n := i) hn rfl ?_
  intro kb h3 g3 o3 e3 l3
  rw [← cntL_nil] at o3
  simp
  have lB := B1.lt
  have z3 := e3.size
  refine wp_loop' (ClI1 i B l (.agg #[s.v]) u (Sl.at kb i i) row h3) (fun e _ => i - argI e 9) ⟨0, _, _, _, _, _, _, _, _, _, _, _, _, _, _, _, _, rfl, by omega, by simpa using o3, Mod.refl _⟩ ?_
  rintro e h4 ⟨v, w7, w10, w11, w12, w13, w14, w15, w16, w17, w18, w19, w20, w21, w22, w23, w24, rfl, hv, o4, m4⟩
  have x4 : Ext h2 h4 := Mod.ext e3 m4 (fun j hj => by rw [hj]; exact g3)
  have ru4 := ru1.ext x4
  have ko := o4.ok
  by_cases c3 : v < i
  · have c3' : (v : Int) < i := by omega
    have w1 : IntKind.i64.wrap ((v : Int) + 1) = (v : Int) + 1 := i64_wrap (by omega)
    have hvu : v < u.n := by omega
    have hvu' : (v : Int) < u.n := by omega
    obtain ⟨d1, d2⟩ := hin v c3
    obtain ⟨t, ht⟩ : ∃ t : Nat, nthI row v = t := ⟨(nthI row v).toNat, by omega⟩
    have hti : t < i := by omega
    have hti' : (t : Int) < i := by omega
    have kx := sem_idxa (Y := Y) (h := h4) (s := Sl.at kb i i) (sz := 1) (k := .i64) (i := (t : Int)) ko (by omega) (by simp; omega)
    simp at kx
    have kc := o4.row64.val t (by simp; omega)
    simp [cntL_at hti] at kc
    have cl := cntN_le (l := row.take v) (c := t)
    have cl2 : (row.take v).length ≤ v := by simp; omega
    have w2 : IntKind.i64.wrap ((cntN (row.take v) t : Int) + 1) = (cntN (row.take v) t : Int) + 1 := i64_wrap (by omega)
    simp [c3', sem_idxa ru.ok, hvu, hvu', ru4.at hvu, ht, kx, kc, w1, w2]
    refine st64o o4 (k := t) (by simp; omega) ?_
    intro h5 o5 m5
    rw [cntL_step (by omega) ht hti] at o5
    simp [w1]
    refine ⟨⟨v + 1, _, _, _, _, _, _, _, _, _, _, _, _, _, _, _, _, rfl, by omega, o5, m4.trans m5⟩, by simp [argI]; omega⟩
  have c3' : ¬ (v : Int) < i := by omega
  obtain rfl : v = i := by omega
  rw [List.take_of_length_le (by omega)] at o4
  have rk4 := o4.row64
  obtain ⟨mm1, mm2, mm3⟩ := mostI_all (l := row) (n := (v : Int)) (by omega) (fun j hj => (hin j (by omega)).2)
  have kx := fun (j : Nat) (hj : j < v) => sem_idxa (Y := Y) (h := h4) (s := Sl.at kb v v) (sz := 1) (k := .i64) (i := (j : Int)) ko (by omega) (by simp; omega)
  have kc := fun (j : Nat) (hj : j < v) => rk4.val j (by simp; omega)
  simp at kx
  have mspec : ∀ {K : Value → Heap → Prop}, K (.int .i64 (mostI row)) h4 → CallP Y F.rref16_most [u.v] h4 K := fun hK => most_spec16 C.P ru4 (by omega) (fun j hj => by have := hin j (by omega); omega) hK
  clear o3 m4 e3
  simp [c3']
  refine wp_loop' (ClI2 v B l (.agg #[s.v]) u (Sl.at kb v v) row h4) (fun e _ => (mostI row).toNat - argI e 10) ⟨0, _, _, _, _, _, _, _, _, _, _, _, _, _, _, _, _, rfl, by omega, fun j hj => by omega, rfl⟩ ?_
  rintro e h5 ⟨c, w7, w9, w11, w12, w13, w14, w15, w16, w17, w18, w19, w20, w21, w22, w23, w24, rfl, hcc, hcn, hh5⟩
  subst hh5
  by_cases c4 : (c : Int) < mostI row
  · have w1 : IntKind.i64.wrap ((c : Int) + 1) = (c : Int) + 1 := i64_wrap (by omega)
    have hcv : c < v := by omega
    have hcv' : (c : Int) < v := by omega
    have kc2 := kc c hcv
    rw [cntL_at hcv] at kc2
    simp at kc2
    simp
    refine mspec ?_
    by_cases d : cntN row c = 0
    · have he : rowFull row = false := by
        rw [Bool.eq_false_iff]; intro hh; exact rowFull_cnt.1 hh c (by omega) d
      rw [if_pos he] at hr
      rw [d] at kc2
      simp [c4, kx c hcv, kc2]
      exact hr _ (e1.trans x4)
    · have d' : ((cntN row c : Int) = 0) = False := by simp; omega
      simp [c4, kx c hcv, kc2, d', d, w1]
      have hcn' : ∀ j, j < c + 1 → cntN row j ≠ 0 := by
        intro j hj
        rcases Nat.lt_or_ge j c with g | g
        · exact hcn j g
        · obtain rfl : j = c := by omega
          exact d
      refine ⟨⟨c + 1, _, _, _, _, _, _, _, _, _, _, _, _, _, _, _, _, rfl, by omega, hcn', rfl⟩, by simp [argI]; omega⟩
  have hF : rowFull row = true := rowFull_cnt.2 (fun j hj => hcn j (by omega))
  rw [if_neg (by simp [hF])] at hr
  simp
  refine mspec ?_
  simp [c4]
  clear mspec
  -- the numbers of the level below
  have hpv : 0 < l → ∃ q : Sl, (∀ g, Ext h g → hc g s.b (s.o + (l - 1)) = some q.v) ∧ Row64 h q (nthL L (l - 1)) := fun h0 => r.at (i := l - 1) (by omega)
  refine wp_loop' (ClI3 v B l (.agg #[s.v]) u (Sl.at kb v v) (nthL L (l - 1)) row h5) (fun e _ => v - argI e 11) ⟨0, _, _, _, _, _, _, _, _, _, _, _, _, _, _, _, _, rfl, by omega, fun _ a ha => by omega, rfl⟩ ?_
  rintro e h6 ⟨a, w7, w9, w10, w12, w13, w14, w15, w16, w17, w18, w19, w20, w21, w22, w23, w24, rfl, ha, hnest, hh6⟩
  subst hh6
  have x6 : Ext h h6 := e1.trans x4
  have done : (0 < l → rowNest v (nthL L (l - 1)) row = true) → ∀ (w7 w9 w10 w11 w12 w13 w14 w15 w16 w17 w18 w19 w20 w21 w22 w23 w24 : Value), Stmt.wp Y S_rref16_checkLevel.body.rest.rest.rest.rest.rest.rest.rest.rest (resP S_rref16_checkLevel.res R) (fun _ _ _ => False) (resP S_rref16_checkLevel.res R)
      [.int .i64 v, .agg #[s.v], .int .i64 ((l : Int) + 1), .slice none 0 0, .pointer (some ⟨B, 0, none⟩), .int .i64 0, u.v, w7, (Sl.at kb v v).v, w9, w10, w11, w12, w13, w14, w15, w16, w17, w18, w19, w20, w21, w22, w23, w24] h6 := by
    intro hN w7 w9 w10 w11 w12 w13 w14 w15 w16 w17 w18 w19 w20 w21 w22 w23 w24
    rw [if_neg (by rintro ⟨q1, q2⟩; rw [hN q1] at q2; cases q2)] at hr
    simp [S_rref16_checkLevel, Stmt.rest]
    refine wp_loop' (ClI5 v B l (.agg #[s.v]) h6) (fun e _ => v - argI e 13) ⟨0, _, _, _, _, _, _, _, _, _, _, _, _, _, _, _, _, _, _, rfl, by omega, rfl⟩ ?_
    rintro e h7 ⟨i, y6, y7, y8, y9, y10, y11, y12, y14, y15, y16, y17, y18, y19, y20, y21, y22, y23, y24, rfl, hi, hh7⟩
    subst hh7
    by_cases c5 : (i : Int) < v
    · simp [c5]
      exact hr h7 x6
    · simp [c5]
      exact hr h7 x6
  simp only [S_rref16_checkLevel, Stmt.rest] at done
  by_cases c6 : a < v
  rotate_left
  · have c6' : ¬ (a : Int) < v := by omega
    have tt := done (fun h0 => rowNest_iff.2 (fun x hx => hnest h0 x (by omega))) w7 w9 w10 (.int .i64 a) w12 w13 w14 w15 w16 w17 w18 w19 (.bool false) w21 w22 w23 w24
    simp at tt
    simp [c6']
    exact tt
  have c6' : (a : Int) < v := by omega
  by_cases hl0 : 0 < l
  rotate_left
  · have l1 : ¬ (1 : Int) < (l : Int) + 1 := by omega
    have tt := done (fun h0 => absurd h0 hl0) w7 w9 w10 (.int .i64 a) w12 w13 w14 w15 w16 w17 w18 w19 (.bool false) w21 w22 w23 w24
    simp at tt
    have l0 : l = 0 := by omega
    simp [c6', l0] at tt ⊢
    exact tt
  clear done
  have l1 : (1 : Int) < (l : Int) + 1 := by omega
  have l1' : (0 : Int) < l := by omega
  obtain ⟨q, hq, rq⟩ := hpv hl0
  have hpl := hprev hl0
  have lq := rq.len
  have wl2 : IntKind.i64.wrap ((l : Int) + 1 - 2) = ((l - 1 : Nat) : Int) := by rw [i64_wrap (by omega)]; omega
  obtain ⟨m, hm⟩ : ∃ m, m = l - 1 := ⟨_, rfl⟩
  rw [← hm] at wl2 hq rq hpl lq hr hnest ⊢
  have hms : m < s.n := by omega
  have hms' : (m : Int) < s.n := by omega
  have rq6 := rq.ext x6
  have B6 := B1.ext x4
  simp [c6', l1, l1']
  refine wp_loop' (ClI4 v B l a (.agg #[s.v]) u (Sl.at kb v v) (nthL L m) row h6) (fun e _ => v - argI e 12) ⟨0, _, _, _, _, _, _, _, _, _, _, _, _, _, _, _, rfl, by omega, fun b hb => by omega, rfl⟩ ?_
  rintro e h7 ⟨b, y7, y9, y10, y13, y14, y15, y16, y17, y18, y19, y20, y21, y22, y23, y24, rfl, hb, hbn, hh7⟩
  subst hh7
  have w1 : IntKind.i64.wrap ((a : Int) + 1) = (a : Int) + 1 := i64_wrap (by omega)
  have w2 : IntKind.i64.wrap ((b : Int) + 1) = (b : Int) + 1 := i64_wrap (by omega)
  by_cases c7 : b < v
  rotate_left
  · have c7' : ¬ (b : Int) < v := by omega
    simp [c7', w1]
    have hnest' : 0 < l → ∀ x, x < a + 1 → ∀ y, y < v → nthI (nthL L m) x ≤ nthI (nthL L m) y → nthI row x ≤ nthI row y := by
      intro h0 x hx y hy hxy
      rcases Nat.lt_or_ge x a with g | g
      · exact hnest h0 x g y hy hxy
      · obtain rfl : x = a := by omega
        exact hbn y (by omega) hxy
    refine ⟨⟨a + 1, _, _, _, _, _, _, _, _, _, _, _, _, _, _, _, _, rfl, by omega, hnest', rfl⟩, by simp [argI]; omega⟩
  have c7' : (b : Int) < v := by omega
  have ha1 : a < q.n := by omega
  have ha2 : (a : Int) < q.n := by omega
  have hb1 : b < q.n := by omega
  have hb2 : (b : Int) < q.n := by omega
  have au1 : a < u.n := by omega
  have au2 : (a : Int) < u.n := by omega
  have bu1 : b < u.n := by omega
  have bu2 : (b : Int) < u.n := by omega
  by_cases d1 : nthI (nthL L m) a ≤ nthI (nthL L m) b
  rotate_left
  · simp [c7', B6.hc, wl2, sem_idxa r.ok, hms, hms', hq, x6, sem_idxa rq.ok, ha1, ha2, hb1, hb2, rq6.at ha1, rq6.at hb1, d1, w2]
    have hbn' : ∀ y, y < b + 1 → nthI (nthL L m) a ≤ nthI (nthL L m) y → nthI row a ≤ nthI row y := by
      intro y hy hxy
      rcases Nat.lt_or_ge y b with g | g
      · exact hbn y g hxy
      · obtain rfl : y = b := by omega
        exact absurd hxy d1
    refine ⟨⟨b + 1, _, _, _, _, _, _, _, _, _, _, _, _, _, _, _, rfl, by omega, hbn', rfl⟩, by simp [argI]; omega⟩
  by_cases d2 : nthI row b < nthI row a
  · have he : rowNest v (nthL L m) row = false := by
      rw [Bool.eq_false_iff]; intro hh; have := rowNest_iff.1 hh a c6 b c7 d1; omega
    rw [if_pos ⟨hl0, he⟩] at hr
    simp [c7', B6.hc, wl2, sem_idxa r.ok, hms, hms', hq, x6, sem_idxa rq.ok, ha1, ha2, hb1, hb2, rq6.at ha1, rq6.at hb1, d1, sem_idxa ru.ok, au1, au2, bu1, bu2, ru4.at au1, ru4.at bu1, d2]
    exact hr _ x6
  · simp [c7', B6.hc, wl2, sem_idxa r.ok, hms, hms', hq, x6, sem_idxa rq.ok, ha1, ha2, hb1, hb2, rq6.at ha1, rq6.at hb1, d1, sem_idxa ru.ok, au1, au2, bu1, bu2, ru4.at au1, ru4.at bu1, d2, w2]
    have hbn' : ∀ y, y < b + 1 → nthI (nthL L m) a ≤ nthI (nthL L m) y → nthI row a ≤ nthI row y := by
      intro y hy hxy
      rcases Nat.lt_or_ge y b with g | g
      · exact hbn y g hxy
      · obtain rfl : y = b := by omega
        omega
    refine ⟨⟨b + 1, _, _, _, _, _, _, _, _, _, _, _, _, _, _, _, rfl, by omega, hbn', rfl⟩, by simp [argI]; omega⟩
end
end Go.Rm

/- Cells: the document's check; few; a copy; nets that are small; graphs that are made. -/
set_option linter.unusedSimpArgs false
set_option linter.unusedVariables false
namespace Go.Rm
abbrev wPart : ByteArray := ⟨#[112, 97, 114, 116]⟩
def levW (n : Nat) (L : List (List Int)) : Nat → Nat → Wr
  | _, 0 => wOK
  | i, k + 1 => if lvE n L i ≠ 0 then atW wPart ((i : Int) + 1) (lvE n L i) else levW n L (i + 1) k
def partW (n : Nat) (L : List (List Int)) : Wr := if 4096 < n ∨ 6 < L.length then atW wPart 0 4 else if L.length = 0 then atW wPart 0 1 else levW n L 0 L.length
structure PartOK (n : Nat) (L : List (List Int)) : Prop where
  bn : n ≤ 4096
  bL : L.length ≤ 6
  pos : 0 < L.length
  lv : ∀ i, i < L.length → lvE n L i = 0
theorem levW_zero {n : Nat} {L : List (List Int)} : ∀ {k i : Nat}, (levW n L i k).2 = 0 ↔ ∀ j, j < k → lvE n L (i + j) = 0 := by
  intro k
  induction k with
  | zero => intro i; simp [levW, wOK]
  | succ k ih =>
    intro i
    simp only [levW]
    by_cases h : lvE n L i = 0
    · rw [if_neg (by simp [h]), ih]
      constructor
      · intro g j hj
        cases j with
        | zero => exact h
        | succ j => rw [show i + (j + 1) = i + 1 + j by omega]; exact g j (by omega)
      · intro g j hj
        rw [show i + 1 + j = i + (j + 1) by omega]; exact g (j + 1) (by omega)
    · rw [if_pos h]
      simp only [atW]
      exact ⟨fun g => absurd g h, fun g => g 0 (by omega)⟩
theorem partOK_iff {n : Nat} {L : List (List Int)} : (partW n L).2 = 0 ↔ PartOK n L := by
  unfold partW
  by_cases h1 : 4096 < n ∨ 6 < L.length
  · rw [if_pos h1]
    simp only [atW]
    exact ⟨fun g => (by cases g), fun g => by have := g.bn; have := g.bL; omega⟩
  rw [if_neg h1]
  by_cases h2 : L.length = 0
  · rw [if_pos h2]
    simp only [atW]
    exact ⟨fun g => (by cases g), fun g => by have := g.pos; omega⟩
  rw [if_neg h2, levW_zero]
  constructor
  · intro g
    exact ⟨by omega, by omega, by omega, fun i hi => by have := g i hi; rwa [Nat.zero_add] at this⟩
  · intro g j hj
    rw [Nat.zero_add]; exact g.lv j hj
theorem lvE_zero {n i : Nat} {L : List (List Int)} (h : lvE n L i = 0) : (nthL L i).length = n ∧ (∀ v, v < n → 0 ≤ nthI (nthL L i) v ∧ nthI (nthL L i) v < n) ∧ (∀ c, c < (mostI (nthL L i)).toNat → cntN (nthL L i) c ≠ 0) ∧
    (0 < i → ∀ a, a < n → ∀ b, b < n → nthI (nthL L (i - 1)) a ≤ nthI (nthL L (i - 1)) b → nthI (nthL L i) a ≤ nthI (nthL L i) b) := by
  unfold lvE at h
  split at h
  · cases h
  rename_i h1
  split at h
  · cases h
  rename_i h2
  split at h
  · cases h
  rename_i h3
  split at h
  · cases h
  rename_i h4
  refine ⟨by simpa using h1, rowIn_iff.1 (by simpa using h2), rowFull_cnt.1 (by simpa using h3), fun h0 => rowNest_iff.1 ?_⟩
  cases hq : rowNest n (nthL L (i - 1)) (nthL L i) with
  | true => rfl
  | false => exact absurd ⟨h0, hq⟩ h4

def fewP (L : List (List Int)) : Bool := decide ((∀ i, i < L.length → (nthL L i).length ≤ 60) ∧ L.length ≤ 10)
def smallD (N : NetD) : Bool := decide (N.vs.length ≤ 24 ∧ N.as.length ≤ 90) && mayD N
def may13 (n : Nat) (L : List (List Int)) : Bool := fewP L && decide (n ≤ 60) && decide ((partW n L).2 = 0)
def may15 (N : NetD) (L : List (List Int)) : Bool := smallD N && may13 N.vs.length L

section
variable {Y : Sys} {h h' : Heap}

structure Pt16 (Y : Sys) : Prop where
  C : Ck16 Y
  CheckPart : Y.Has F.rref16_CheckPart S_rref16_CheckPart
  At : Y.Has F.rref6_At S_rref6_At

def CkpI (n B W : Nat) (v1 : Value) (L : List (List Int)) (h0 : Heap) (e : List Value) (h' : Heap) : Prop :=
  ∃ (i : Nat) (v6 v7 v8 v9 v10 v11 : Value), e = [.int .i64 n, v1, .slice none 0 0, .pointer (some ⟨B, 0, none⟩), .pointer (some ⟨W, 0, none⟩), .int .i64 ((i : Int) + 1), v6, v7, v8, v9, v10, v11] ∧ i ≤ L.length ∧ (∀ j, j < i → lvE n L j = 0) ∧ levW n L 0 L.length = levW n L i (L.length - i) ∧ Ext h0 h'

theorem checkpart_spec (C : Pt16 Y) {s : Sl} {L : List (List Int)} (r : RowL h s L) (hbig : s.n ≤ 1000) {n : Nat} (hn : n ≤ 1000000) {R : Value → Heap → Prop}
    (hr : ∀ h' v, Ext h h' → FWr h.size h' (partW n L) v → R v h') : CallP Y F.rref16_CheckPart [.int .i64 n, ptV s, .slice none 0 0] h R := by
  refine .of_has C.CheckPart rfl ?_
  have lL := r.len
  simp [S_rref16_CheckPart, FnS.wp, ptV]
  refine ef_new_box ?_
  intro B h1 g1 B1 e1
  simp
  refine ef_new_box ?_
  intro W h2 g2 W2 e2
  have e12 := e1.trans e2
  have z1 := e1.size
  have z2 := e2.size
  have lW := W2.lt
  have fin : ∀ {h3 h4 : Heap} {v : Value}, Ext h2 h3 → FWr h2.size h3 (partW n L) v → Mod (fun j => j = W) h3 h4 → R v h4 := by
    intro h3 h4 v e3 fw m4
    exact hr h4 v (Mod.ext (e12.trans e3) m4 (fun j hj => by omega)) ((fw.step m4 (fun j hj => by omega)).mono (by omega))
  have n0 : ¬ (n : Int) < 0 := by omega
  by_cases c1 : 4096 < n
  · have c1' : (4096 : Int) < n := by omega
    have hp : partW n L = atW wPart 0 4 := by unfold partW; rw [if_pos (.inl c1)]
    rw [hp] at fin
    simp [n0, c1']
    refine rat_spec C.At ?_
    intro h3 v e3 hv
    obtain ⟨s5, rfl⟩ := hv.here.shape
    simp
    refine ef_store_box (W2.ext e3) rfl rfl (by simp) ?_
    intro h4 W4 m4
    simp
    exact resP_x rfl W4 rfl (fin e3 hv m4)
  have c1' : ¬ (4096 : Int) < n := by omega
  by_cases c2 : 6 < s.n
  · have c2' : (6 : Int) < s.n := by omega
    have hp : partW n L = atW wPart 0 4 := by unfold partW; rw [if_pos (.inr (by omega))]
    rw [hp] at fin
    simp [n0, c1', c2', B1.sk, e2]
    refine rat_spec C.At ?_
    intro h3 v e3 hv
    obtain ⟨s5, rfl⟩ := hv.here.shape
    simp
    refine ef_store_box (W2.ext e3) rfl rfl (by simp) ?_
    intro h4 W4 m4
    simp
    exact resP_x rfl W4 rfl (fin e3 hv m4)
  have c2' : ¬ (6 : Int) < s.n := by omega
  by_cases c3 : s.n = 0
  · have hp : partW n L = atW wPart 0 1 := by unfold partW; rw [if_neg (by omega), if_pos (by omega)]
    rw [hp] at fin
    simp [n0, c1', c2', B1.sk, e2, c3]
    refine rat_spec C.At ?_
    intro h3 v e3 hv
    obtain ⟨s5, rfl⟩ := hv.here.shape
    simp
    refine ef_store_box (W2.ext e3) rfl rfl (by simp) ?_
    intro h4 W4 m4
    simp
    exact resP_x rfl W4 rfl (fin e3 hv m4)
  have c3' : ((s.n : Int) = 0) = False := by simp; omega
  have hp : partW n L = levW n L 0 L.length := by unfold partW; rw [if_neg (by omega), if_neg (by omega)]
  rw [hp] at fin
  simp [n0, c1', c2', B1.sk, e2, c3, c3']
  refine wp_loop' (CkpI n B W (.agg #[s.v]) L h2) (fun e _ => L.length + 1 - argI e 5) ⟨0, _, _, _, _, _, _, rfl, by omega, fun j hj => by omega, rfl, Mod.refl _⟩ ?_
  rintro e h3 ⟨i, v6, v7, v8, v9, v10, v11, rfl, hi, hz, hw, e3⟩
  have B3 := (B1.ext e2).ext e3
  by_cases c4 : i < s.n
  · have c4' : (i : Int) + 1 ≤ s.n := by omega
    simp [B3.hc, c4', rd_blk B3]
    refine level_spec C.C (r.ext (e12.trans e3)) hbig hn (by omega) (fun h0 => ?_) ?_
    · exact (lvE_zero (hz (i - 1) (by omega))).1
    intro h4 e4
    have w1 : IntKind.i64.wrap ((i : Int) + 1 + 1) = (i : Int) + 1 + 1 := i64_wrap (by omega)
    have hk : L.length - i = (L.length - (i + 1)) + 1 := by omega
    rw [hk] at hw
    by_cases d : lvE n L i = 0
    · simp only [levW] at hw
      rw [if_neg (by simp [d])] at hw
      have hz' : ∀ j, j < i + 1 → lvE n L j = 0 := by
        intro j hj
        rcases Nat.lt_or_ge j i with g | g
        · exact hz j g
        · obtain rfl : j = i := by omega
          exact d
      simp [d, w1]
      exact ⟨⟨i + 1, _, _, _, _, _, _, by rfl, by omega, hz', hw, e3.trans e4⟩, by simp [argI]; omega⟩
    · simp only [levW] at hw
      rw [if_pos d] at hw
      rw [hw] at fin
      simp [d]
      refine rat_spec C.At ?_
      intro h5 v e5 hv
      obtain ⟨s5, rfl⟩ := hv.here.shape
      simp
      have e25 := (e3.trans e4).trans e5
      refine ef_store_box (W2.ext e25) rfl rfl (by simp) ?_
      intro h6 W6 m6
      have := e3.size
      have := e4.size
      simp
      exact resP_x rfl W6 rfl (fin e25 (hv.mono (by omega)) m6)
  · have c4' : ¬ (i : Int) + 1 ≤ s.n := by omega
    have hk : L.length - i = 0 := by omega
    rw [hk] at hw
    simp only [levW] at hw
    rw [hw] at fin
    simp [B3.hc, c4']
    refine ef_store_box (W2.ext e3) rfl rfl (by simp) ?_
    intro h4 W4 m4
    simp
    exact resP_x rfl W4 rfl (fin e3 FWr.ok m4)

structure May16 (Y : Sys) : Prop where
  Pt : Pt16 Y
  Few13 : Y.Has F.rlaw13_Few S_rlaw13_Few
  May13 : Y.Has F.rlaw13_May S_rlaw13_May
  May15 : Y.Has F.rlaw15_May S_rlaw15_May
  Small : Y.Has F.rlaw8_Small S_rlaw8_Small
  Few3 : Y.Has F.rlaw3_Few S_rlaw3_Few
  May3 : Y.Has F.rlaw3_May S_rlaw3_May
  RN : RefNet Y
  RC : RefCk Y

def FpI (B : Nat) (v0 : Value) (L : List (List Int)) (h0 : Heap) (e : List Value) (h' : Heap) : Prop :=
  ∃ (i : Nat) (v2 v4 v5 : Value), e = [v0, .pointer (some ⟨B, 0, none⟩), v2, .int .i64 i, v4, v5] ∧ i ≤ L.length ∧ (∀ j, j < i → (nthL L j).length ≤ 60) ∧ h' = h0
theorem few13_spec (M : May16 Y) {s : Sl} {L : List (List Int)} (r : RowL h s L) (hmax : s.n ≤ 9223372036854775807) {R : Value → Heap → Prop} (hr : ∀ h', Ext h h' → R (.bool (fewP L)) h') : CallP Y F.rlaw13_Few [ptV s] h R := by
  refine .of_has M.Few13 rfl ?_
  have lL := r.len
  have hbig := r.ok
  simp [S_rlaw13_Few, FnS.wp, ptV]
  refine ef_new_box ?_
  intro B h1 g1 B1 e1
  simp
  refine wp_loop' (FpI B (.agg #[s.v]) L h1) (fun e _ => L.length - argI e 3) ⟨0, _, _, _, rfl, by omega, fun j hj => by omega, rfl⟩ ?_
  rintro e h2 ⟨i, v2, v4, v5, rfl, hi, hz, hh⟩
  subst hh
  by_cases c : i < s.n
  · have c' : (i : Int) < s.n := by omega
    have w1 : IntKind.i64.wrap ((i : Int) + 1) = (i : Int) + 1 := i64_wrap (by omega)
    obtain ⟨u, hu, ru⟩ := r.at (i := i) c
    have lu := ru.len
    by_cases d : 60 < u.n
    · have d' : (60 : Int) < u.n := by omega
      have hf : fewP L = false := by
        unfold fewP
        have : ¬ ∀ j, j < L.length → (nthL L j).length ≤ 60 := fun hh => by have := hh i (by omega); omega
        simp [this]
      rw [hf] at hr
      simp [B1.hc, c', c, sem_idxa r.ok, hu, e1, d']
      exact hr _ e1
    · have d' : ¬ (60 : Int) < u.n := by omega
      have hz' : ∀ j, j < i + 1 → (nthL L j).length ≤ 60 := by
        intro j hj
        rcases Nat.lt_or_ge j i with g | g
        · exact hz j g
        · obtain rfl : j = i := by omega
          omega
      simp [B1.hc, c', c, sem_idxa r.ok, hu, e1, d', w1]
      refine ⟨⟨i + 1, _, _, _, rfl, by omega, hz', rfl⟩, by simp [argI]; omega⟩
  · have c' : ¬ (i : Int) < s.n := by omega
    have hf : fewP L = decide (L.length ≤ 10) := by
      unfold fewP
      have : ∀ j, j < L.length → (nthL L j).length ≤ 60 := fun j hj => hz j (by omega)
      simp only [eq_true this, true_and]
    rw [hf] at hr
    have h10 : decide ((s.n : Int) ≤ 10) = decide (L.length ≤ 10) := by rw [lL]; congr 1; simp; omega
    simp [B1.hc, c', h10]
    exact hr _ e1

theorem may13_spec (M : May16 Y) {s : Sl} {L : List (List Int)} (r : RowL h s L) (hmax : s.n ≤ 9223372036854775807) {n : Nat} {R : Value → Heap → Prop} (hr : ∀ h', Ext h h' → R (.bool (may13 n L)) h') : CallP Y F.rlaw13_May [.int .i64 n, ptV s] h R := by
  refine .of_has M.May13 rfl ?_
  have lL := r.len
  simp [S_rlaw13_May, FnS.wp, ptV]
  refine ef_new_box ?_
  intro B h1 g1 B1 e1
  simp [rd_blk B1]
  refine few13_spec M (r.ext e1) hmax ?_
  intro h2 e2
  have x2 := e1.trans e2
  by_cases c : fewP L = true
  rotate_left
  · have c' : fewP L = false := by simpa using c
    have hf : may13 n L = false := by simp [may13, c']
    rw [hf] at hr
    simp [c']
    exact hr _ x2
  by_cases d : n ≤ 60
  rotate_left
  · have d' : ¬ (n : Int) ≤ 60 := by omega
    have hf : may13 n L = false := by simp [may13, d]
    rw [hf] at hr
    simp [c, d']
    exact hr _ x2
  have d' : (n : Int) ≤ 60 := by omega
  have hf : may13 n L = decide ((partW n L).2 = 0) := by simp [may13, c, d]
  rw [hf] at hr
  have c' := c
  simp [fewP] at c'
  simp [c, d', rd_blk (B1.ext e2)]
  refine checkpart_spec M.Pt (r.ext x2) (by omega) (by omega) ?_
  intro h3 v e3 hv
  obtain ⟨s5, rfl⟩ := hv.here.shape
  simp
  exact hr _ (x2.trans e3)

theorem may3_spec (M : May16 Y) {sv sa st : Sl} {N : NetD} (r : NetH h sv sa st N) {R : Value → Heap → Prop} (hr : ∀ h', Ext h h' → R (.bool (mayD N)) h') : CallP Y F.rlaw3_May [netV sv sa st] h R := by
  refine .of_has M.May3 rfl ?_
  simp [S_rlaw3_May, FnS.wp, netV]
  refine ef_new_box ?_
  intro B hB gB bB eB
  simp [rd_blk bB]
  refine few_spec M.Few3 (r.ext eB) ?_
  intro h1 e1
  have x1 := eB.trans e1
  by_cases c : fewD N = true
  rotate_left
  · have c' : fewD N = false := by simpa using c
    simp [mayD, c'] at hr
    simp [c']
    exact hr _ x1
  simp [mayD, c] at hr
  simp [c, rd_blk (bB.ext e1)]
  refine rchecknet_spec M.RN M.RC (r.ext x1) ?_
  intro h2 v e2 hv
  obtain ⟨s5, rfl⟩ := hv.here.shape
  simp
  exact hr _ (x1.trans e2)

theorem small_spec (M : May16 Y) {sv sa st : Sl} {N : NetD} (r : NetH h sv sa st N) {R : Value → Heap → Prop} (hr : ∀ h', Ext h h' → R (.bool (smallD N)) h') : CallP Y F.rlaw8_Small [netV sv sa st] h R := by
  refine .of_has M.Small rfl ?_
  have lv := r.rv.len
  have la := r.ra.len
  simp [S_rlaw8_Small, FnS.wp, netV]
  refine ef_new_box ?_
  intro B h1 g1 B1 e1
  by_cases c : sv.n ≤ 24
  rotate_left
  · have c' : ¬ (sv.n : Int) ≤ 24 := by omega
    have hf : smallD N = false := by unfold smallD; rw [decide_eq_false (by omega)]; rfl
    rw [hf] at hr
    simp [B1.hc, c']
    exact hr _ e1
  have c' : (sv.n : Int) ≤ 24 := by omega
  by_cases d : sa.n ≤ 90
  rotate_left
  · have d' : ¬ (sa.n : Int) ≤ 90 := by omega
    have hf : smallD N = false := by unfold smallD; rw [decide_eq_false (by omega)]; rfl
    rw [hf] at hr
    simp [B1.hc, c', d']
    exact hr _ e1
  have d' : (sa.n : Int) ≤ 90 := by omega
  have hf : smallD N = mayD N := by unfold smallD; rw [decide_eq_true (by omega)]; rfl
  rw [hf] at hr
  simp [B1.hc, c', d', rd_blk B1]
  refine may3_spec M (r.ext e1) ?_
  intro h2 e2
  simp
  exact hr _ (e1.trans e2)

theorem may15_spec (M : May16 Y) {sv sa st s : Sl} {N : NetD} {L : List (List Int)} (r : NetH h sv sa st N) (q : RowL h s L) (hmax : s.n ≤ 9223372036854775807) {R : Value → Heap → Prop} (hr : ∀ h', Ext h h' → R (.bool (may15 N L)) h') : CallP Y F.rlaw15_May [netV sv sa st, ptV s] h R := by
  refine .of_has M.May15 rfl ?_
  have lv := r.rv.len
  simp [S_rlaw15_May, FnS.wp, netV, ptV]
  refine ef_new_box ?_
  intro B h1 g1 B1 e1
  simp
  refine ef_new_box ?_
  intro C h2 g2 C2 e2
  have x2 := e1.trans e2
  simp [rd_blk (B1.ext e2)]
  refine small_spec M (r.ext x2) ?_
  intro h3 e3
  have x3 := x2.trans e3
  by_cases c : smallD N = true
  rotate_left
  · have c' : smallD N = false := by simpa using c
    have hf : may15 N L = false := by simp [may15, c']
    rw [hf] at hr
    simp [c']
    exact hr _ x3
  have hf : may15 N L = may13 N.vs.length L := by simp [may15, c]
  rw [hf] at hr
  simp [c, (B1.ext (e2.trans e3)).hc, rd_blk (C2.ext e3), ← lv]
  refine may13_spec M (q.ext x3) hmax ?_
  intro h4 e4
  simp
  exact hr _ (x3.trans e4)
end
end Go.Rm

/- Cells: a copy of them; graphs that are made; rows of rows that are owned. -/
set_option linter.unusedSimpArgs false
set_option linter.unusedVariables false
namespace Go.Rm
section
variable {Y : Sys} {h h' : Heap}

/-- rows of numbers behind a row of them -/
def RowsOK (lo : Nat) (h : Heap) (s : Sl) (P : List (List Int × Sl)) : Prop :=
  ∀ q ∈ P, Row64 h q.2 q.1 ∧ (q.1 ≠ [] → lo ≤ q.2.b ∧ (s.nl = false → q.2.b ≠ s.b) ∧ q.2.b < h.size)
theorem Own.rowL {s : Sl} {P : List (List Int × Sl)} {l : List (List Int)} (o : Own h 1 s (P.map fun p => p.2.v)) (hl : P.map Prod.fst = l) (hP : ∀ p ∈ P, Row64 h p.2 p.1) : RowL h s l := by
  have hn := o.1
  simp at hn
  subst hl
  refine ⟨o.ok, by simpa using hn, fun i hi => ?_⟩
  have hi : i < P.length := by simpa using hi
  have e : nthL (P.map Prod.fst) i = P[i].1 := by rw [nthL_eq (by simpa using hi)]; simp
  rw [e]
  exact ⟨P[i].2, o.cell (by simp [hi]), hP _ (List.getElem_mem hi)⟩

theorem ef_bslice1_bx {K : Value → Heap → Prop} {z v : Value} (hv : v.oneCell' = true) (hk : ∀ (b : Nat) (h' : Heap), h.size ≤ b → Blk h' b #[v] → Ext h h' → K (.slice (some ⟨b, 0, none⟩) 1 1) h') :
    Ef.wp h K (.bslice 1 1 #[z] [0]) [v] := by
  rw [ef_bslice1 hv]
  exact fun t => hk _ _ (Nat.le_refl _) Blk.new Mod.push
/-- append(own, one cell laid) -/
theorem ef_append1b {K : Value → Heap → Prop} {bytes b : Nat} {z v : Value} {s : Sl} {cells : List Value} (hv : v.oneCell' = true) (o : Own h 1 s cells) (hb : Blk h b #[v]) (hby : (s.n + 1) * bytes ≤ 140737488355328) (h63 : s.n + 1 ≤ 9223372036854775807)
    (hk : ∀ (s' : Sl) (h' : Heap), Own h' 1 s' (cells ++ [v]) → s'.n = s.n + 1 → Mod (fun j => s.nl = false ∧ j = s.b) h h' → ((s'.b = s.b ∧ s'.nl = s.nl) ∨ (h.size ≤ s'.b ∧ s'.nl = false)) → K s'.v h') :
    Ef.wp h K (.append 1 bytes #[z]) [s.v, .slice (some ⟨b, 0, none⟩) 1 1] := by
  have hs : srcOf h 1 1 (.slice (some ⟨b, 0, none⟩) 1 1) = some [v] := by
    rw [srcOf_at]
    exact rd_blk hb rfl
  exact ef_append_own o (m := 1) (nw := [v]) rfl hs rfl (by simpa using hv) rfl hby h63 hk

structure CellTo (Y : Sys) : Prop where
  To : Y.Has F.rlaw13_To S_rlaw13_To

def CtI (B rb M : Nat) (v0 : Value) (L : List (List Int)) (h0 : Heap) (e : List Value) (h' : Heap) : Prop :=
  ∃ (i : Nat) (s1 : Sl) (P : List (List Int × Sl)) (v5 : Value), e = [v0, .pointer (some ⟨B, 0, none⟩), .pointer (some ⟨rb, 0, none⟩), .pointer (some ⟨M, 0, none⟩), .int .i64 i, v5] ∧ i ≤ L.length ∧ Blk h' M #[s1.v] ∧ Own h' 1 s1 (P.map fun p => p.2.v) ∧ P.map Prod.fst = L.take i ∧ RowsOK h0.size h' s1 P ∧ (s1.nl = true ∨ h0.size ≤ s1.b) ∧ Mod (fun j => j = M) h0 h'

theorem cellto_spec (C : CellTo Y) {s : Sl} {L : List (List Int)} (r : RowL h s L) (hbig : s.n ≤ 1000) (hrow : ∀ i, i < L.length → (nthL L i).length ≤ 1000000) {R : Value → Heap → Prop}
    (hr : ∀ h' s', Ext h h' → RowL h' s' L → s'.n ≤ 1000 → R (ptV s') h') : CallP Y F.rlaw13_To [ptV s] h R := by
  refine .of_has C.To rfl ?_
  have lL := r.len
  simp [S_rlaw13_To, FnS.wp, ptV]
  refine ef_new_box ?_
  intro B h1 g1 B1 e1
  simp
  refine ef_new_box ?_
  intro rb h2 g2 R2 e2
  simp
  refine ef_new_box ?_
  intro M h3 g3 M3 e3
  have x3 := (e1.trans e2).trans e3
  have lM := M3.lt
  have lR := R2.lt
  have lB := B1.lt
  have z1 := e1.size
  have z2 := e2.size
  have z3 := e3.size
  have B3 := (B1.ext e2).ext e3
  have R3 := R2.ext e3
  simp
  refine wp_loop' (CtI B rb M (.agg #[s.v]) L h3) (fun e _ => L.length - argI e 4) ⟨0, Sl.nil, [], _, rfl, by omega, M3, by simpa using Own.nil, by simp, by intro q hq; simp at hq, .inl rfl, Mod.refl _⟩ ?_
  rintro e h4 ⟨i, s1, P, v5, rfl, hi, M4, o4, hP, hT, hs1, m4⟩
  have B4 := m4.blk B3 (by omega)
  have R4 := m4.blk R3 (by omega)
  have x4 : Ext h h4 := Mod.ext x3 m4 (fun j hj => by omega)
  have n4 := o4.1
  simp at n4
  have lenP : P.length = i := by
    have := congrArg List.length hP
    simp at this
    omega
  have hs1' : s1.nl = false → h3.size ≤ s1.b := fun hn => hs1.resolve_left (by rw [hn]; simp)
  have l1 : s1.nl = false → s1.b < h4.size := fun hn => o4.lt hn
  have z4 := m4.size
  by_cases c : i < s.n
  rotate_left
  · have c' : ¬ (i : Int) < s.n := by omega
    simp [B4.hc, c', rd_blk M4]
    refine ef_store_box R4 rfl rfl (by simp) ?_
    intro h5 R5 m5
    simp
    refine resP_x rfl R5 rfl ?_
    rw [List.take_of_length_le (by omega)] at hP
    refine hr h5 s1 (Mod.ext x4 m5 (fun j hj => by omega)) ?_ (by omega)
    refine Own.rowL (o4.mod m5 (fun hn => by have := hs1' hn; omega)) hP ?_
    intro q hq
    obtain ⟨a, b⟩ := hT q hq
    exact a.mod m5 (fun hn => by have := (b hn).1; omega)
  have c' : (i : Int) < s.n := by omega
  have w1 : IntKind.i64.wrap ((i : Int) + 1) = (i : Int) + 1 := i64_wrap (by omega)
  obtain ⟨u, hu, ru⟩ := r.at (i := i) c
  have lu := ru.len
  have hrl := hrow i (by omega)
  simp [B4.hc, M4.hc, c', c, sem_idxa r.ok, hu, x4]
  refine ef_bslice0_box ?_
  intro b5 h5 g5 o5 e5
  have x5 := x4.trans e5
  have M5 := M4.ext e5
  simp [hu, x5, (B4.ext e5).hc, M5.hc]
  refine ef_clone64 (s0 := Sl.at b5 0 0) (ru.ext x5) (by omega) o5 (.inr g5) e5 ?_
  intro u6 h6 o6 hu6 e46
  have M6 := M4.ext e46
  simp [M6.hc]
  refine ef_bslice1_bx rfl ?_
  intro b7 h7 g7 V7 e7
  have M7 := M6.ext e7
  have o7 := (o4.ext' e46).ext' e7
  have z7 := e7.size
  simp [M7.hc]
  refine ef_append1b (bytes := 24) rfl o7 V7 (by omega) (by omega) ?_
  intro s8 h8 o8 hn8 m8 hs8
  have M8 := m8.blk M7 (fun hq => by have := hs1' hq.1; omega)
  have z6 := e46.size
  have z8 := m8.size
  have hs8' : s8.nl = false → h3.size ≤ s8.b := by
    intro hq
    rcases hs8 with ⟨q1, q2⟩ | ⟨q1, q2⟩
    · rw [q1]; exact hs1' (by rw [← q2]; exact hq)
    · omega
  simp
  refine stB M8 (by simp) ?_
  intro h9 M9 m9
  have z9 := m9.size
  simp [w1]
  have unl : nthL L i ≠ [] → u6.nl = false ∧ u6.b < h6.size := fun hne => by
    obtain ⟨_, hb, _, hnl⟩ := o6.blk (i := 0) (by have := List.length_pos_iff.2 hne; simpa [ints64] using this)
    exact ⟨hnl, o6.lt hnl⟩
  have ub : nthL L i ≠ [] → h4.size ≤ u6.b := fun hne => hu6.resolve_left (by rw [(unl hne).1]; simp)
  have sne : ∀ k, k < h6.size → (s1.nl = false → k ≠ s1.b) → s8.nl = false → k ≠ s8.b := by
    intro k hk h1 hq
    rcases hs8 with ⟨q1, q2⟩ | ⟨q1, q2⟩
    · rw [q1]; exact h1 (by rw [← q2]; exact hq)
    · omega
  have o9 : Own h9 1 s8 ((P ++ [(nthL L i, u6)]).map fun p => p.2.v) := by
    have := o8.mod m9 (fun hq => by have := hs8' hq; omega)
    simpa using this
  have hT9 : RowsOK h3.size h9 s8 (P ++ [(nthL L i, u6)]) := by
    intro q hq
    rcases List.mem_append.1 hq with g | g
    · obtain ⟨g1, g3⟩ := hT q g
      refine ⟨(((g1.ext e46).ext e7).mod m8 (fun hn hq => (g3 hn).2.1 hq.1 hq.2)).mod m9 (fun hn => by have := (g3 hn).1; omega), fun hn => ⟨(g3 hn).1, ?_, by have := (g3 hn).2.2; omega⟩⟩
      exact sne _ (by have := (g3 hn).2.2; omega) (g3 hn).2.1
    · simp only [List.mem_singleton] at g
      subst g
      refine ⟨((o6.row64.ext e7).mod m8 (fun hn hq => by have := ub hn; have := l1 hq.1; have := hq.2; omega)).mod m9 (fun hn => by have := ub hn; omega), fun hn => ⟨?_, ?_, ?_⟩⟩
      · have := ub hn; show h3.size ≤ u6.b; omega
      · exact sne u6.b (unl hn).2 (fun hq => by have := ub hn; have := l1 hq; omega)
      · have := (unl hn).2; show u6.b < h9.size; omega
  have hP9 : (P ++ [(nthL L i, u6)]).map Prod.fst = L.take (i + 1) := by
    rw [List.take_succ_eq_append_getElem (by omega), List.map_append, hP, nthL_eq (by omega)]; simp
  have hN : s8.nl = true ∨ h3.size ≤ s8.b := by
    cases hq : s8.nl with
    | true => exact .inl rfl
    | false => exact .inr (hs8' hq)
  have mm : Mod (fun j => j = M) h3 h9 := by
    have q1 : Mod (fun j => j = M ∨ (s1.nl = false ∧ j = s1.b)) h4 h9 :=
      (((e46.trans e7).mono (fun _ _ h => h.elim)).trans (m8.mono (fun _ _ h => .inr h))).trans (m9.mono (fun _ _ h => .inl h))
    refine Mod.then m4 q1 ?_
    intro k hk hq
    rcases hq with hq | hq
    · exact hq
    · have := hs1' hq.1; omega
  refine ⟨⟨i + 1, s8, P ++ [(nthL L i, u6)], _, rfl, by omega, by simpa using M9, o9, hP9, hT9, hN, mm⟩, by simp [argI]; omega⟩

structure MadeFns (Y : Sys) : Prop where
  Made : Y.Has F.rlaw8_Made S_rlaw8_Made
  To3 : Y.Has F.rlaw3_To S_rlaw3_To
  To2 : Y.Has F.rlaw2_To S_rlaw2_To
  GN : GrNew Y
  T : TurnCk Y

/-- Made: the graph of a net that may be and is few -/
theorem made_spec (M : MadeFns Y) {sv sa st : Sl} {N : NetD} (r : NetH h sv sa st N) (hf : fewD N = true) (ok : NetOK N) {R : Value → Heap → Prop}
    (hr : ∀ h' p (S : Nat → Prop), Ext h h' → GraphA h' p N S → (∀ b, S b → h.size ≤ b) → R (.pointer (some ⟨p, 0, none⟩)) h') : CallP Y F.rlaw8_Made [netV sv sa st] h R := by
  refine .of_has M.Made rfl ?_
  obtain ⟨a, b, c, d⟩ := fewD_iff.1 hf
  simp [S_rlaw8_Made, FnS.wp, netV]
  refine ef_new_box ?_
  intro B h1 g1 B1 e1
  simp [rd_blk B1]
  refine to3_spec M.To3 M.To2 (r.ext e1) (by omega) (by omega) (by omega) (fun i hi => by have := d i hi; omega) ?_
  intro h2 s1 s2 s3 e2 r2
  have z1 := e1.size
  have z2 := e2.size
  simp
  refine gnew_spec M.GN M.T r2 (fun v h' _ hne _ => absurd (by rw [netW_ok ok]; rfl) hne) ?_
  intro h3 p S e3 _ g3 hS
  simp
  exact hr h3 p S ((e1.trans e2).trans e3) g3 (fun b hb => by have := hS b hb; omega)
end
end Go.Rm
