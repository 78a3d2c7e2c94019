import Derived.Test.YtgmbpmnbpakhbaaGreatDoorRGate1
import Derived.Test.YtgmbpmnbpakhbaaGreatDoorRLaw4

/- Cells: the program's check, of cells that may be. -/
set_option linter.unusedSimpArgs false
set_option linter.unusedVariables false
namespace Go.Rm

theorem placeF_none {a : Int} : ∀ {l : List Int} {k : Nat}, (∀ x ∈ l, x ≠ a) → placeF k l a = -1 := by
  intro l
  induction l with
  | nil => intro k _; rfl
  | cons x r ih =>
    intro k h
    simp only [placeF]
    rw [if_neg (h x (by simp)), ih (fun y hy => h y (by simp [hy]))]

section
variable {Y : Sys} {h h' : Heap}

structure SlFns (Y : Sys) : Prop where
  Index : Y.Has F.slices_Index_int_int S_slices_Index_int_int
  Contains : Y.Has F.slices_Contains_int_int S_slices_Contains_int_int
  Sorted : Y.Has F.slices_IsSorted_int_int S_slices_IsSorted_int_int
  Less : Y.Has F.cmp_Less_int S_cmp_Less_int
  NaN : Y.Has F.cmp_isNaN_int S_cmp_isNaN_int

theorem isnan_spec (S : SlFns Y) {a : Int} {R : Value → Heap → Prop} (hr : R (.bool false) h) : CallP Y F.cmp_isNaN_int [.int .i64 a] h R := by
  refine .of_has S.NaN rfl ?_
  simp [S_cmp_isNaN_int, FnS.wp]
  exact hr
theorem less_spec (S : SlFns Y) {a b : Int} {R : Value → Heap → Prop} (hr : R (.bool (decide (a < b))) h) : CallP Y F.cmp_Less_int [.int .i64 a, .int .i64 b] h R := by
  refine .of_has S.Less rfl ?_
  simp [S_cmp_Less_int, FnS.wp]
  refine isnan_spec S ?_
  simp
  exact hr

def IxI (s : Sl) (a : Int) (l : List Int) (h0 : Heap) (e : List Value) (h' : Heap) : Prop :=
  ∃ (i : Nat) (v2 v3 v6 v7 : Value), e = [s.v, .int .i64 a, v2, v3, .int .i64 s.n, .int .i64 i, v6, v7] ∧ i ≤ s.n ∧ placeF 0 l a = placeF i (l.drop i) a ∧ h' = h0
theorem index_spec (S : SlFns Y) {s : Sl} {l : List Int} (r : Row64 h s l) (hbig : s.n ≤ 1000000) {a : Int} {R : Value → Heap → Prop} (hr : R (.int .i64 (placeF 0 l a)) h) : CallP Y F.slices_Index_int_int [s.v, .int .i64 a] h R := by
  refine .of_has S.Index rfl ?_
  have hl := r.len
  simp [S_slices_Index_int_int, FnS.wp]
  refine wp_loop' (IxI s a l h) (fun e _ => s.n - argI e 5) ⟨0, _, _, _, _, rfl, by omega, by simp, rfl⟩ ?_
  rintro e h1 ⟨i, v2, v3, v6, v7, rfl, hi, hp, hh⟩
  subst hh
  by_cases c : i < s.n
  · have c' : (i : Int) < s.n := by omega
    have w1 : IntKind.i64.wrap ((i : Int) + 1) = (i : Int) + 1 := i64_wrap (by omega)
    rw [placeF_drop (by omega)] at hp
    by_cases d : nthI l i = a
    · rw [if_pos d] at hp
      rw [hp] at hr
      simp [c', sem_idxa r.ok, c, r.at c, d]
      exact hr
    · rw [if_neg d] at hp
      have d' : (a = nthI l i) = False := by simp; omega
      simp [c', sem_idxa r.ok, c, r.at c, d', w1]
      refine ⟨⟨i + 1, _, _, _, _, rfl, by omega, hp, rfl⟩, by simp [argI]; omega⟩
  · have c' : ¬ (i : Int) < s.n := by omega
    rw [List.drop_eq_nil_of_le (by omega)] at hp
    simp only [placeF] at hp
    rw [hp] at hr
    simp [c']
    exact hr
theorem contains_spec (S : SlFns Y) {s : Sl} {l : List Int} (r : Row64 h s l) (hbig : s.n ≤ 1000000) {a : Int} {R : Value → Heap → Prop} (hr : R (.bool (decide (0 ≤ placeF 0 l a))) h) : CallP Y F.slices_Contains_int_int [s.v, .int .i64 a] h R := by
  refine .of_has S.Contains rfl ?_
  simp [S_slices_Contains_int_int, FnS.wp]
  refine index_spec S r hbig ?_
  simp
  exact hr

def SoI (s : Sl) (h0 : Heap) (e : List Value) (h' : Heap) : Prop :=
  ∃ (i : Nat) (j : Int) (v1 v3 v4 : Value), e = [s.v, v1, .int .i64 j, v3, v4] ∧ i ≤ s.n ∧ j = (s.n : Int) - 1 - i ∧ h' = h0
theorem sorted_spec (S : SlFns Y) {s : Sl} {l : List Int} (r : Row64 h s l) (hbig : s.n ≤ 1000000) (hs : ∀ i, i + 1 < l.length → nthI l i ≤ nthI l (i + 1)) {R : Value → Heap → Prop} (hr : R (.bool true) h) : CallP Y F.slices_IsSorted_int_int [s.v] h R := by
  refine .of_has S.Sorted rfl ?_
  have hl := r.len
  have w0 : IntKind.i64.wrap ((s.n : Int) - 1) = (s.n : Int) - 1 := i64_wrap (by omega)
  simp [S_slices_IsSorted_int_int, FnS.wp, w0]
  refine wp_loop' (SoI s h) (fun e _ => s.n - (argZ e 2 + 1 - s.n).natAbs) ⟨0, (s.n : Int) - 1, _, _, _, rfl, by omega, by omega, rfl⟩ ?_
  rintro e h1 ⟨i, j, v1, v3, v4, rfl, hi, hj, hh⟩
  subst hh
  by_cases c : 0 < j
  · obtain ⟨k, hk⟩ : ∃ k : Nat, j = (k : Int) + 1 := ⟨(j - 1).toNat, by omega⟩
    have c1 : k + 1 < s.n := by omega
    have c2 : k < s.n := by omega
    have w1 : IntKind.i64.wrap ((k : Int) + 1 - 1) = (k : Int) := by rw [i64_wrap (by omega)]; omega
    have w2 : IntKind.i64.wrap (k : Int) = (k : Int) := i64_wrap (by omega)
    have x1 := sem_idxa (Y := Y) (h := h1) (k := .i64) (sz := 1) (i := (k : Int) + 1) r.ok (by omega) (by omega)
    rw [Nat.mul_one, show ((k : Int) + 1).toNat = k + 1 by omega] at x1
    have v1 := r.at c1
    have hk1 := hs k (by omega)
    have d : ¬ nthI l (k + 1) < nthI l k := by omega
    have kp : (0 : Int) < (k : Int) + 1 := by omega
    subst hk
    simp [kp, x1, v1, w1, w2, sem_idxa r.ok, c2, r.at c2]
    refine less_spec S ?_
    simp [d, w1, w2]
    exact ⟨⟨i + 1, (k : Int), _, _, _, rfl, by omega, by omega, rfl⟩, by simp [argZ]; omega⟩
  · simp [c]
    exact hr

structure PartCk (Y : Sys) : Prop where
  S : SlFns Y
  Check : Y.Has F.part_Check S_part_Check
  tally : Y.Has F.part_tally S_part_tally
  nested : Y.Has F.part_nested S_part_nested

theorem mostI_max {l : List Int} {i : Nat} (hi : i < l.length) : (if mostI (l.take i) - 1 < nthI l i then nthI l i else mostI (l.take i) - 1) = mostI (l.take (i + 1)) - 1 := by
  rw [mostI_snoc hi]
  by_cases h : mostI (l.take i) < nthI l i + 1
  · rw [if_pos (by omega), if_pos h]; omega
  · rw [if_neg (by omega), if_neg h]

def TyI (s k : Sl) (l : List Int) (h0 : Heap) (e : List Value) (h' : Heap) : Prop :=
  ∃ (i : Nat) (v6 v10 v11 : Value), e = [s.v, .slice none 0 0, .bool false, .int .i64 s.n, k.v, .int .i64 (mostI (l.take i) - 1), v6, s.v, .int .i64 s.n, .int .i64 i, v10, v11] ∧ i ≤ s.n ∧ Own h' 1 k (ints64 (cntL s.n (l.take i))) ∧ Mod (fun j => j = k.b) h0 h'

theorem tally_spec (P : PartCk Y) {s : Sl} {l : List Int} (r : Row64 h s l) (hbig : s.n ≤ 1000000) (hin : ∀ v, v < l.length → 0 ≤ nthI l v ∧ nthI l v < l.length) (hfull : ∀ c, c < (mostI l).toNat → cntN l c ≠ 0) {R : Value → Heap → Prop}
    (hr : ∀ h' t, Ext h h' → R (.tuple #[t, .bool true]) h') : CallP Y F.part_tally [s.v] h R := by
  refine .of_has P.tally rfl ?_
  have hl := r.len
  simp [S_part_tally, FnS.wp]
  refine ef_make64 (n := s.n) hbig rfl ?_
  intro kb h1 g1 o1 e1 l1
  rw [← cntL_nil] at o1
  have m0 : mostI (l.take 0) - 1 = -1 := by simp [mostI]
  simp
  refine wp_loop' (TyI s (Sl.at kb s.n s.n) l h1) (fun e _ => s.n - argI e 9) ⟨0, _, _, _, rfl, by omega, by simpa using o1, Mod.refl _⟩ ?_
  rintro e h2 ⟨i, v6, v10, v11, rfl, hi, o2, m2⟩
  have x2 : Ext h h2 := Mod.ext e1 m2 (fun j hj => by rw [hj]; exact g1)
  have r2 := r.ext x2
  have ko := o2.ok
  by_cases c : i < s.n
  · have c' : (i : Int) < s.n := by omega
    have w1 : IntKind.i64.wrap ((i : Int) + 1) = (i : Int) + 1 := i64_wrap (by omega)
    obtain ⟨d1, d2⟩ := hin i (by omega)
    obtain ⟨t, ht⟩ : ∃ t : Nat, nthI l i = t := ⟨(nthI l i).toNat, by omega⟩
    have hti : t < s.n := by omega
    have d1' : ¬ (t : Int) < 0 := by omega
    have d2' : ¬ (s.n : Int) ≤ (t : Int) := by omega
    have kx := fun g => sem_idxa (Y := Y) (h := g) (s := Sl.at kb s.n s.n) (sz := 1) (k := .i64) (i := (t : Int)) ko (by omega) (by simp; omega)
    simp at kx
    have kc := o2.row64.val t (by simp; omega)
    simp [cntL_at hti] at kc
    have cl := cntN_le (l := l.take i) (c := t)
    have cl2 : (l.take i).length ≤ i := by simp; omega
    have w2 : IntKind.i64.wrap ((cntN (l.take i) t : Int) + 1) = (cntN (l.take i) t : Int) + 1 := i64_wrap (by omega)
    have hmx := mostI_max (l := l) (i := i) (by omega)
    rw [ht] at hmx
    have d3 : ¬ s.n ≤ t := by omega
    simp [c', sem_idxa r.ok, c, r2.at c, ht, d1', d2', d3, kx, kc, w1, w2]
    refine st64o o2 (k := t) (by simp; omega) ?_
    intro h3 o3 m3
    rw [cntL_step (by omega) ht hti] at o3
    simp [w1, hmx]
    refine ⟨⟨i + 1, _, _, _, rfl, by omega, o3, m2.trans m3⟩, by simp [argI]; omega⟩
  have c' : ¬ (i : Int) < s.n := by omega
  rw [List.take_of_length_le (by omega)] at o2
  obtain ⟨mm1, mm2, mm3⟩ := mostI_all (l := l) (n := (s.n : Int)) (by omega) (fun j hj => by have := (hin j hj).2; omega)
  obtain ⟨m, hm⟩ : ∃ m : Nat, mostI l = m := ⟨(mostI l).toNat, by omega⟩
  have tl : l.take i = l := List.take_of_length_le (by omega)
  have w2 : IntKind.i64.wrap ((m : Int) - 1 + 1) = (m : Int) := by rw [i64_wrap (by omega)]; omega
  have sl := sem_slc_hi (Y := Y) (h := h2) (s := Sl.at kb s.n s.n) (sz := 1) (k := .i64) (j := (m : Int)) ko (by omega) (by simp; omega)
  simp at sl
  have rt : Row64 h2 { Sl.at kb s.n s.n with n := m } ((cntL s.n l).take m) := by
    have r0 := o2.row64
    refine ⟨⟨fun h => (by cases h), by simp; omega, .inl rfl⟩, by simp; omega, fun j hj => ?_⟩
    have hj' : j < m := by simp at hj; omega
    have := r0.val j (by simp; omega)
    rw [show nthI ((cntL s.n l).take m) j = nthI (cntL s.n l) j by simp [nthI, List.getElem?_take, hj']]
    exact this
  have w2' : IntKind.i64.wrap (m : Int) = (m : Int) := i64_wrap (by omega)
  simp [c', tl, hm, w2, w2', sl]
  refine contains_spec P.S rt (by simp; omega) ?_
  have hpl : placeF 0 ((cntL s.n l).take m) 0 = -1 := by
    refine placeF_none (fun x hx => ?_)
    obtain ⟨j, hj, rfl⟩ := List.getElem_of_mem hx
    have hj' : j < m := by simp at hj; omega
    have := hfull j (by omega)
    simp [cntL]
    omega
  simp [hpl]
  exact hr h2 _ x2

def NeI1 (s t k : Sl) (h0 : Heap) (e : List Value) (h' : Heap) : Prop :=
  ∃ (i : Nat) (cs : List Int) (v2 v4 v5 v6 v7 v10 v11 v12 v13 v14 v15 : Value), e = [s.v, t.v, v2, k.v, v4, v5, v6, v7, .int .i64 s.n, .int .i64 i, v10, v11, v12, v13, v14, v15] ∧ i ≤ s.n ∧ Own h' 1 k (ints64 cs) ∧ cs.length = s.n ∧ (∀ c, c < i → nthI cs c = -1) ∧ Mod (fun j => j = k.b) h0 h'
def NeI2 (s t k : Sl) (l q : List Int) (h0 : Heap) (e : List Value) (h' : Heap) : Prop :=
  ∃ (i : Nat) (cs : List Int) (v2 v4 v6 v7 v8 v9 v10 v14 v15 : Value), e = [s.v, t.v, v2, k.v, v4, .int .i64 (mostI (l.take i) - 1), v6, v7, v8, v9, v10, s.v, .int .i64 s.n, .int .i64 i, v14, v15] ∧ i ≤ s.n ∧ Own h' 1 k (ints64 cs) ∧ cs.length = s.n ∧ (∀ c, c < s.n → (nthI cs c = -1 ∧ ∀ v, v < i → nthI l v ≠ (c : Int)) ∨ ∃ v, v < i ∧ nthI l v = (c : Int) ∧ nthI cs c = nthI q v) ∧ Mod (fun j => j = k.b) h0 h'

theorem nthI_setI {l : List Int} {i j : Nat} {y : Int} (hi : i < l.length) : nthI (l.set i y) j = if j = i then y else nthI l j := by
  simp only [nthI, List.getD_eq_getElem?_getD, List.getElem?_set]
  by_cases h : i = j
  · subst h; simp [hi]
  · have : ¬ j = i := fun e => h e.symm
    simp [h, this]

theorem nested_spec (P : PartCk Y) {s t : Sl} {l q : List Int} (r : Row64 h s l) (rq : Row64 h t q) (hbig : s.n ≤ 1000000) (hlen : l.length = q.length) (hin : ∀ v, v < l.length → 0 ≤ nthI l v ∧ nthI l v < l.length) (hfull : ∀ c, c < (mostI l).toNat → cntN l c ≠ 0)
    (hnest : ∀ a, a < l.length → ∀ b, b < l.length → nthI l a ≤ nthI l b → nthI q a ≤ nthI q b) {R : Value → Heap → Prop}
    (hr : ∀ h', Ext h h' → R (.bool true) h') : CallP Y F.part_nested [s.v, t.v] h R := by
  refine .of_has P.nested rfl ?_
  have hl := r.len
  have hlq := rq.len
  simp [S_part_nested, FnS.wp]
  refine ef_make64 (n := s.n) hbig rfl ?_
  intro kb h1 g1 o1 e1 l1
  simp
  refine wp_loop' (NeI1 s t (Sl.at kb s.n s.n) h1) (fun e _ => s.n - argI e 9) ⟨0, List.replicate s.n 0, _, _, _, _, _, _, _, _, _, _, _, rfl, by omega, o1, by simp, fun c hc => by omega, Mod.refl _⟩ ?_
  rintro e h2 ⟨i, cs, v2, v4, v5, v6, v7, v10, v11, v12, v13, v14, v15, rfl, hi, o2, hcl, hc, m2⟩
  have ko := o2.ok
  have x2 : Ext h h2 := Mod.ext e1 m2 (fun j hj => by rw [hj]; exact g1)
  by_cases c : i < s.n
  · have c' : (i : Int) < s.n := by omega
    have w1 : IntKind.i64.wrap ((i : Int) + 1) = (i : Int) + 1 := i64_wrap (by omega)
    have kx := sem_idxa (Y := Y) (h := h2) (s := Sl.at kb s.n s.n) (sz := 1) (k := .i64) (i := (i : Int)) ko (by omega) (by simp; omega)
    simp at kx
    simp [c', kx, w1]
    refine st64o o2 (k := i) (by omega) ?_
    intro h3 o3 m3
    have hc' : ∀ c, c < i + 1 → nthI (cs.set i (-1)) c = -1 := by
      intro c hc2
      rw [nthI_setI (by omega)]
      split
      · rfl
      · exact hc c (by omega)
    simp [w1]
    refine ⟨⟨i + 1, cs.set i (-1), _, _, _, _, _, _, _, _, _, _, _, rfl, by omega, o3, by simpa using hcl, hc', m2.trans m3⟩, by simp [argI]; omega⟩
  have c' : ¬ (i : Int) < s.n := by omega
  obtain rfl : i = s.n := by omega
  have m0 : mostI (l.take 0) - 1 = -1 := by simp [mostI]
  simp [c']
  refine wp_loop' (NeI2 s t (Sl.at kb s.n s.n) l q h2) (fun e _ => s.n - argI e 13) ⟨0, cs, _, _, _, _, _, _, _, _, _, rfl, by omega, o2, hcl, fun c hc2 => .inl ⟨hc c hc2, fun v hv => by omega⟩, Mod.refl _⟩ ?_
  clear o2 hcl hc
  rintro e h3 ⟨v, cs, v2, v4, v6, v7, v8, v9, v10, v14, v15, rfl, hv, o3, hcl, hc, m3⟩
  have x3 : Ext h h3 := Mod.ext x2 m3 (fun j hj => by rw [hj]; exact g1)
  have r3 := r.ext x3
  have q3 := rq.ext x3
  by_cases d : v < s.n
  · have d' : (v : Int) < s.n := by omega
    have w1 : IntKind.i64.wrap ((v : Int) + 1) = (v : Int) + 1 := i64_wrap (by omega)
    obtain ⟨a1, a2⟩ := hin v (by omega)
    obtain ⟨b, hb⟩ : ∃ b : Nat, nthI l v = b := ⟨(nthI l v).toNat, by omega⟩
    have hbn : b < s.n := by omega
    have kx := fun g => sem_idxa (Y := Y) (h := g) (s := Sl.at kb s.n s.n) (sz := 1) (k := .i64) (i := (b : Int)) ko (by omega) (by simp; omega)
    simp at kx
    have kc := o3.row64.val b (by omega)
    simp at kc
    have hmx := mostI_max (l := l) (i := v) (by omega)
    rw [hb] at hmx
    have dq : v < t.n := by omega
    have dq' : (v : Int) < t.n := by omega
    have step : ∀ {h4 : Heap}, Own h4 1 (Sl.at kb s.n s.n) (ints64 (cs.set b (nthI q v))) → Mod (fun j => j = kb) h3 h4 → (∀ c, c < s.n → (nthI (cs.set b (nthI q v)) c = -1 ∧ ∀ u, u < v + 1 → nthI l u ≠ (c : Int)) ∨ ∃ u, u < v + 1 ∧ nthI l u = (c : Int) ∧ nthI (cs.set b (nthI q v)) c = nthI q u) := by
      intro h4 _ _ c hcn
      rw [nthI_setI (by omega)]
      by_cases e : c = b
      · subst e
        rw [if_pos rfl]
        exact .inr ⟨v, by omega, hb, rfl⟩
      · rw [if_neg e]
        rcases hc c hcn with ⟨f1, f2⟩ | ⟨u, f1, f2, f3⟩
        · left
          refine ⟨f1, fun u hu => ?_⟩
          rcases Nat.lt_or_ge u v with g | g
          · exact f2 u g
          · obtain rfl : u = v := by omega
            rw [hb]; omega
        · exact .inr ⟨u, by omega, f2, f3⟩
    have same : 0 ≤ nthI cs b → nthI cs b = nthI q v := by
      intro h0
      rcases hc b hbn with ⟨f1, _⟩ | ⟨u, f1, f2, f3⟩
      · omega
      · rw [f3]
        have h1 := hnest u (by omega) v (by omega) (by omega)
        have h2 := hnest v (by omega) u (by omega) (by omega)
        omega
    by_cases g : 0 ≤ nthI cs b
    · have sm := same g
      have gq : 0 ≤ nthI q v := by omega
      simp [d', sem_idxa r.ok, sem_idxa rq.ok, d, dq, dq', r3.at d, q3.at dq, hb, kx, kc, g, sm, gq]
      refine st64o o3 (k := b) (by omega) ?_
      intro h4 o4 m4
      simp [w1, hmx]
      refine ⟨⟨v + 1, cs.set b (nthI q v), _, _, _, _, _, _, _, _, _, rfl, by omega, o4, by simpa using hcl, step o4 m4, m3.trans m4⟩, by simp [argI]; omega⟩
    · simp [d', sem_idxa r.ok, sem_idxa rq.ok, d, dq, dq', r3.at d, q3.at dq, hb, kx, kc, g]
      refine st64o o3 (k := b) (by omega) ?_
      intro h4 o4 m4
      simp [w1, hmx]
      refine ⟨⟨v + 1, cs.set b (nthI q v), _, _, _, _, _, _, _, _, _, rfl, by omega, o4, by simpa using hcl, step o4 m4, m3.trans m4⟩, by simp [argI]; omega⟩
  have d' : ¬ (v : Int) < s.n := by omega
  obtain ⟨mm1, mm2, mm3⟩ := mostI_all (l := l) (n := (s.n : Int)) (by omega) (fun j hj => by have := (hin j hj).2; omega)
  obtain ⟨m, hm⟩ : ∃ m : Nat, mostI l = m := ⟨(mostI l).toNat, by omega⟩
  have tl : l.take v = l := List.take_of_length_le (by omega)
  have w2 : IntKind.i64.wrap ((m : Int) - 1 + 1) = (m : Int) := by rw [i64_wrap (by omega)]; omega
  have w2' : IntKind.i64.wrap (m : Int) = (m : Int) := i64_wrap (by omega)
  have sl := sem_slc_hi (Y := Y) (h := h3) (s := Sl.at kb s.n s.n) (sz := 1) (k := .i64) (j := (m : Int)) ko (by omega) (by simp; omega)
  simp at sl
  have rt : Row64 h3 { Sl.at kb s.n s.n with n := m } (cs.take m) := by
    have r0 := o3.row64
    refine ⟨⟨fun h => (by cases h), by simp; omega, .inl rfl⟩, by simp; omega, fun j hj => ?_⟩
    have hj' : j < m := by simp at hj; omega
    have := r0.val j (by omega)
    rw [show nthI (cs.take m) j = nthI cs j by simp [nthI, List.getElem?_take, hj']]
    exact this
  have hup : ∀ j, j < m → ∃ u, u < l.length ∧ nthI l u = (j : Int) ∧ nthI cs j = nthI q u := by
    intro j hj
    rcases hc j (by omega) with ⟨f1, f2⟩ | ⟨u, f1, f2, f3⟩
    · obtain ⟨u, hu, e⟩ := cntN_pos.1 (hfull j (by omega))
      exact absurd e (f2 u (by omega))
    · exact ⟨u, by omega, f2, f3⟩
  simp [d', tl, hm, w2, w2', sl]
  refine sorted_spec P.S rt (by simp; omega) (fun j hj => ?_) ?_
  · have hj' : j + 1 < m := by simp at hj; omega
    rw [show nthI (cs.take m) j = nthI cs j by simp [nthI, List.getElem?_take, show j < m by omega], show nthI (cs.take m) (j + 1) = nthI cs (j + 1) by simp [nthI, List.getElem?_take, hj']]
    obtain ⟨u, u1, u2, u3⟩ := hup j (by omega)
    obtain ⟨w, p1, p2, p3⟩ := hup (j + 1) hj'
    rw [u3, p3]
    exact hnest u u1 w p1 (by omega)
  simp
  exact hr _ x3

def PkI (n B C : Nat) (v1 v2 : Value) (s : Sl) (L : List (List Int)) (h0 : Heap) (e : List Value) (h' : Heap) : Prop :=
  ∃ (i : Nat) (v5 v7 v8 v9 v10 v11 v12 v13 v17 v18 v19 v20 : Value), e = [.int .i64 n, v1, v2, .pointer (some ⟨B, 0, none⟩), .pointer (some ⟨C, 0, none⟩), v5, .int .i64 s.n, v7, v8, v9, v10, v11, v12, v13, s.v, .int .i64 s.n, .int .i64 i, v17, v18, v19, v20] ∧ i ≤ s.n ∧ Ext h0 h'
/-- Check of cells that may be -/
theorem pcheck_spec (P : PartCk Y) {s : Sl} {L : List (List Int)} {n : Nat} (r : RowL h s L) (ok : PartOK n L) {R : Value → Heap → Prop}
    (hr : ∀ h', Ext h h' → R .nilIface h') : CallP Y F.part_Check [.int .i64 n, ptV s, .slice none 0 0] h R := by
  refine .of_has P.Check rfl ?_
  have lL := r.len
  have b1 := ok.bn
  have b2 := ok.bL
  have b3 := ok.pos
  have n0 : ¬ (n : Int) < 0 := by omega
  have n1 : ¬ (4096 : Int) < n := by omega
  have n2 : ¬ (6 : Int) < s.n := by omega
  have n3 : ((s.n : Int) = 0) = False := by simp; omega
  have n3' : (s.n = 0) = False := by simp; omega
  simp [S_part_Check, FnS.wp, ptV]
  refine ef_new_box ?_
  intro B h1 g1 B1 e1
  simp
  refine ef_new_box ?_
  intro C h2 g2 C2 e2
  have x2 := e1.trans e2
  have B2 := B1.ext e2
  simp [B2.hc, C2.hc, n0, n1, n2, n3, n3']
  refine wp_loop' (PkI n B C (.agg #[s.v]) (.slice none 0 0) s L h2) (fun e _ => s.n - argI e 16) ⟨0, _, _, _, _, _, _, _, _, _, _, _, _, rfl, by omega, Mod.refl _⟩ ?_
  rintro e h3 ⟨i, v5, v7, v8, v9, v10, v11, v12, v13, v17, v18, v19, v20, rfl, hi, e3⟩
  have x3 := x2.trans e3
  by_cases c : i < s.n
  rotate_left
  · have c' : ¬ (i : Int) < s.n := by omega
    simp [c']
    exact hr _ x3
  have c' : (i : Int) < s.n := by omega
  have w1 : IntKind.i64.wrap ((i : Int) + 1) = (i : Int) + 1 := i64_wrap (by omega)
  obtain ⟨u, hu, ru⟩ := r.at (i := i) c
  have lu := ru.len
  obtain ⟨z1, z2, z3, z4⟩ := lvE_zero (ok.lv i (by omega))
  have un : ((u.n : Int) = (n : Int)) = True := by simp; omega
  have un' : (u.n = n) = True := by simp; omega
  simp [c', c, sem_idxa r.ok, hu, x3]
  refine ef_new_box ?_
  intro D h4 g4 D4 e4
  simp
  refine stB (o := 0) D4 (by simp) ?_
  intro h5 D5 m5
  have e35 := Mod.toExt e4 m5 g4
  have x5 := x3.trans e35
  simp [un, un']
  refine tally_spec P (ru.ext x5) (by omega) (fun v hv => by rw [z1] at hv ⊢; exact z2 v hv) z3 ?_
  intro h6 t e6
  have x6 := x5.trans e6
  have D6 := D5.ext e6
  have C6 := C2.ext ((e3.trans e35).trans e6)
  have B6 := B2.ext ((e3.trans e35).trans e6)
  simp at D6
  by_cases hi0 : i = 0
  · subst hi0
    have w1' : IntKind.i64.wrap 1 = 1 := rfl
    simp [D6.hc, C6.hc, w1, w1']
    refine ⟨⟨1, _, _, _, _, _, _, _, _, _, _, _, _, rfl, by omega, (e3.trans e35).trans e6⟩, by simp [argI]; omega⟩
  · have ip : (0 : Int) < i := by omega
    have ip' : 0 < i := by omega
    have w2 : IntKind.i64.wrap ((i : Int) - 1) = ((i - 1 : Nat) : Int) := by rw [i64_wrap (by omega)]; omega
    obtain ⟨m, hm⟩ : ∃ m, m = i - 1 := ⟨_, rfl⟩
    rw [← hm] at w2 z4
    have hms : m < s.n := by omega
    obtain ⟨q, hq, rq⟩ := r.at (i := m) hms
    obtain ⟨y1, y2, y3, _⟩ := lvE_zero (ok.lv m (by omega))
    have lq := rq.len
    simp [D6.hc, ip, ip', B6.hc, w2, sem_idxa r.ok, hms, hq, x6]
    refine nested_spec P (rq.ext x6) (ru.ext x6) (by omega) (by omega) (fun v hv => by rw [y1] at hv ⊢; exact y2 v hv) y3 (fun a ha b hb => by rw [y1] at ha hb; exact z4 ip' a ha b hb) ?_
    intro h7 e7
    have C7 := C6.ext e7
    simp [C7.hc, w1]
    refine ⟨⟨i + 1, _, _, _, _, _, _, _, _, _, _, _, _, rfl, by omega, ((e3.trans e35).trans e6).trans e7⟩, by simp [argI]; omega⟩
end
end Go.Rm

/- Gates: arcs that cross; which cell an arc enters, leaves. -/
set_option linter.unusedSimpArgs false
set_option linter.unusedVariables false
namespace Go.Rm

/-- an arc whose ends have unlike numbers in a row -/
def crossE (row : List Int) (a : Tri) : Bool := decide (a.a.toNat < row.length ∧ a.b.toNat < row.length ∧ nthI row a.a.toNat ≠ nthI row a.b.toNat)
def crossL (N : NetD) (L : List (List Int)) (l : Int) : List Int := idxF (crossE (lvl L l)) 0 N.as
structure CellsOf (N : NetD) (L : List (List Int)) : Prop where
  bL : L.length ≤ 6
  ln : ∀ i, i < L.length → (nthL L i).length = N.vs.length
  ok : NetOK N
theorem CellsOf.of {N : NetD} {L : List (List Int)} (ok : NetOK N) (p : PartOK N.vs.length L) : CellsOf N L := ⟨p.bL, fun i hi => (lvE_zero (p.lv i hi)).1, ok⟩
theorem CellsOf.arc {N : NetD} {L : List (List Int)} (c : CellsOf N L) {i : Nat} (hi : i < N.as.length) : ∃ x y : Nat, (nthT N.as i).a = x ∧ (nthT N.as i).b = y ∧ x < N.vs.length ∧ y < N.vs.length := by
  obtain ⟨h1, h2⟩ := c.ok.arcs i hi
  simp [vtxB] at h1 h2
  exact ⟨_, _, (Int.toNat_of_nonneg h1.1).symm, (Int.toNat_of_nonneg h2.1).symm, by omega, by omega⟩

section
variable {Y : Sys} {h h' : Heap}

structure GrR (Y : Sys) : Prop where
  From : Y.Has F.graph_Graph_From S_graph_Graph_From
  To : Y.Has F.graph_Graph_To S_graph_Graph_To
  arc : Y.Has F.graph_Graph_arc S_graph_Graph_arc
  Verts : Y.Has F.graph_Graph_Verts S_graph_Graph_Verts
  Arcs : Y.Has F.graph_Graph_Arcs S_graph_Graph_Arcs
structure RimFns (Y : Sys) : Prop where
  G : GrR Y
  P : PartFns Y
  ends : Y.Has F.rim_ends S_rim_ends
  Cross : Y.Has F.rim_Cross S_rim_Cross


theorem rimends_spec (F' : RimFns Y) {p : Nat} {N : NetD} {S : Nat → Prop} (g : GraphA h p N S) {u : Sl} {row : List Int} (ru : Row64 h u row) {i x y : Nat} (hi : i < N.as.length) (hx : (nthT N.as i).a = x) (hy : (nthT N.as i).b = y) {R : Value → Heap → Prop}
    (hr : R (.tuple #[.int .i64 (if x < row.length ∧ y < row.length then nthI row x else 0), .int .i64 (if x < row.length ∧ y < row.length then nthI row y else 0), .bool (decide (x < row.length ∧ y < row.length))]) h) :
    CallP Y F.rim_ends [.pointer (some ⟨p, 0, none⟩), u.v, .int .i64 i] h R := by
  refine .of_has F'.ends rfl ?_
  have lu := ru.len
  have hv : vtxB N.as.length (i : Int) = true := by simp [vtxB]; omega
  have f1 : fromV N (i : Int) = x := by simp [fromV, hv, hx]
  have f2 : toV N (i : Int) = y := by simp [toV, hv, hy]
  simp [S_rim_ends, FnS.wp]
  refine gfrom_spec F'.G.From F'.G.arc g ?_
  simp
  refine gto_spec F'.G.To F'.G.arc g ?_
  rw [f1, f2]
  have x0 : ¬ (x : Int) < 0 := by omega
  have y0 : ¬ (y : Int) < 0 := by omega
  by_cases c1 : x < u.n
  rotate_left
  · have c1' : (u.n : Int) ≤ x := by omega
    have c1n : u.n ≤ x := by omega
    have cc : ¬ (x < row.length ∧ y < row.length) := by omega
    rw [if_neg cc, if_neg cc, decide_eq_false cc] at hr
    simp [x0, y0, c1', c1n]
    exact hr
  have c1' : ¬ (u.n : Int) ≤ x := by omega
  have c1n : ¬ u.n ≤ x := by omega
  by_cases c2 : y < u.n
  rotate_left
  · have c2' : (u.n : Int) ≤ y := by omega
    have c2n : u.n ≤ y := by omega
    have cc : ¬ (x < row.length ∧ y < row.length) := by omega
    rw [if_neg cc, if_neg cc, decide_eq_false cc] at hr
    simp [x0, y0, c1', c1n, c2', c2n]
    exact hr
  have c2' : ¬ (u.n : Int) ≤ y := by omega
  have c2n : ¬ u.n ≤ y := by omega
  have cc : x < row.length ∧ y < row.length := by omega
  rw [if_pos cc, if_pos cc, decide_eq_true cc] at hr
  simp [x0, y0, c1', c1n, c2', c2n, sem_idxa ru.ok, c1, c2, ru.at c1, ru.at c2]
  exact hr

def RcI (p n : Nat) (u : Sl) (N : NetD) (row : List Int) (h0 : Heap) (e : List Value) (h' : Heap) : Prop :=
  ∃ (i : Nat) (s : Sl) (v1 v2 v3 v4 v7 v8 v9 v10 v13 v14 : Value), e = [.pointer (some ⟨p, 0, none⟩), v1, v2, v3, v4, u.v, s.v, v7, v8, v9, v10, .int .i64 n, .int .i64 i, v13, v14] ∧ i ≤ n ∧ Own h' 1 s (ints64 (idxF (crossE row) 0 (N.as.take i))) ∧ (s.nl = true ∨ h0.size ≤ s.b) ∧ Ext h0 h'

theorem rimcross_spec (F' : RimFns Y) {p : Nat} {N : NetD} {S : Nat → Prop} {L : List (List Int)} {s : Sl} (g : GraphA h p N S) (r : RowL h s L) (c : CellsOf N L) {l : Int} (hl : -9223372036854775808 ≤ l ∧ l ≤ 9223372036854775807) {R : Value → Heap → Prop}
    (hr : ∀ h' t, Ext h h' → Own h' 1 t (ints64 (crossL N L l)) → (t.nl = true ∨ h.size ≤ t.b) → R t.v h') : CallP Y F.rim_Cross [.pointer (some ⟨p, 0, none⟩), ptV s, .int .i64 l] h R := by
  refine .of_has F'.Cross rfl ?_
  have bA := c.ok.ba
  have lL := r.len
  simp [S_rim_Cross, FnS.wp, ptV]
  refine ef_new_box ?_
  intro B h1 g1 B1 e1
  simp [rd_blk B1]
  refine rimrow_spec F'.P (r.ext e1) (by have := c.bL; omega) hl ?_
  intro h2 u e2 ru
  have x2 := e1.trans e2
  simp
  refine garcs_spec F'.G.Arcs (g.ext x2) ?_
  unfold crossL at hr
  generalize hrow : lvl L l = row at *
  simp
  refine wp_loop' (RcI p N.as.length u N row h2) (fun e _ => N.as.length - argI e 12) ⟨0, Sl.nil, _, _, _, _, _, _, _, _, _, _, rfl, by omega, by simpa [idxF, ints64] using Own.nil, .inl rfl, Mod.refl _⟩ ?_
  rintro e h3 ⟨i, t, v1, v2, v3, v4, v7, v8, v9, v10, v13, v14, rfl, hi, o3, ht3, e3⟩
  have x3 := x2.trans e3
  have z1 := x2.size
  by_cases d : i < N.as.length
  rotate_left
  · have d' : ¬ (i : Int) < N.as.length := by omega
    rw [List.take_of_length_le (by omega)] at o3
    simp [d']
    exact hr _ t x3 o3 (ht3.imp id (fun q => by omega))
  have d' : (i : Int) < N.as.length := by omega
  have w1 : IntKind.i64.wrap ((i : Int) + 1) = (i : Int) + 1 := i64_wrap (by omega)
  obtain ⟨x, y, hx, hy, _, _⟩ := c.arc d
  have ru3 := ru.ext (e2.trans e3)
  have hs := idxF_snoc (p := crossE row) (l := N.as) (i := i) d
  have hlen : (idxF (crossE row) 0 (N.as.take i)).length ≤ i := by rw [idxF_len]; refine Nat.le_trans (List.length_filter_le ..) (by simp; omega)
  have tn := o3.1
  simp at tn
  simp [d']
  refine rimends_spec F' (g.ext x3) ru3 d hx hy ?_
  have hce : crossE row (nthT N.as i) = decide (x < row.length ∧ y < row.length ∧ nthI row x ≠ nthI row y) := by unfold crossE; rw [hx, hy]; rfl
  by_cases q1 : x < row.length ∧ y < row.length
  rotate_left
  · have hf : crossE row (nthT N.as i) = false := by rw [hce]; exact decide_eq_false (fun hh => q1 ⟨hh.1, hh.2.1⟩)
    rw [hf] at hs
    simp at hs
    rw [if_neg q1, if_neg q1, decide_eq_false q1]
    simp [w1]
    refine ⟨⟨i + 1, t, _, _, _, _, _, _, _, _, _, _, rfl, by omega, by rw [hs]; exact o3, ht3, e3⟩, by simp [argI]; omega⟩
  rw [if_pos q1, if_pos q1, decide_eq_true q1]
  by_cases q2 : nthI row x = nthI row y
  · have hf : crossE row (nthT N.as i) = false := by rw [hce]; exact decide_eq_false (fun hh => hh.2.2 q2)
    rw [hf] at hs
    simp at hs
    simp [q2, w1]
    refine ⟨⟨i + 1, t, _, _, _, _, _, _, _, _, _, _, rfl, by omega, by rw [hs]; exact o3, ht3, e3⟩, by simp [argI]; omega⟩
  · have hf : crossE row (nthT N.as i) = true := by rw [hce]; exact decide_eq_true ⟨q1.1, q1.2, q2⟩
    rw [hf] at hs
    simp at hs
    simp [q2]
    refine ef_bslice1_bx rfl ?_
    intro b4 h4 g4 V4 e4
    simp
    refine ef_append1b (bytes := 8) rfl (o3.ext' e4) V4 (by omega) (by omega) ?_
    intro t5 h5 o5 hn5 m5 ht5
    have z4 := e4.size
    have z3 := e3.size
    have ht3' : t.nl = false → h2.size ≤ t.b := fun hn => ht3.resolve_left (by rw [hn]; simp)
    have e5 : Ext h2 h5 := Mod.ext (e3.trans e4) m5 (fun j hj => by rw [hj.2]; exact ht3' hj.1)
    have ht5' : t5.nl = true ∨ h2.size ≤ t5.b := by
      rcases ht5 with ⟨k1, k2⟩ | ⟨k1, k2⟩
      · rw [k1, k2]; exact ht3
      · exact .inr (by omega)
    simp [w1]
    refine ⟨⟨i + 1, t5, _, _, _, _, _, _, _, _, _, _, rfl, by omega, by rw [hs]; simpa [ints64] using o5, ht5', e5⟩, by simp [argI]; omega⟩

end
end Go.Rm

/- Gates: which cell an arc enters, leaves; places in rows that rise. -/
set_option linter.unusedSimpArgs false
set_option linter.unusedVariables false
namespace Go.Rm

theorem mem_idxF {p : Tri → Bool} {a : Int} : ∀ {l : List Tri} {k : Nat}, a ∈ idxF p k l ↔ ∃ i, i < l.length ∧ a = ((k + i : Nat) : Int) ∧ p (nthT l i) = true := by
  intro l
  induction l with
  | nil => intro k; simp [idxF]
  | cons x r ih =>
    intro k
    have e : idxF p k (x :: r) = (if p x then [(k : Int)] else []) ++ idxF p (k + 1) r := by simp only [idxF]; split <;> simp_all
    rw [e, List.mem_append, ih]
    constructor
    · rintro (h | ⟨i, h1, h2, h3⟩)
      · split at h
        · rename_i hp
          simp at h
          exact ⟨0, by simp, by simpa using h, by simpa [nthT] using hp⟩
        · simp at h
      · exact ⟨i + 1, by simpa using h1, by rw [h2]; congr 1; omega, by simpa [nthT] using h3⟩
    · rintro ⟨i, h1, h2, h3⟩
      cases i with
      | zero =>
        left
        have hp : p x = true := by simpa [nthT] using h3
        rw [if_pos hp]
        simpa using h2
      | succ i => exact .inr ⟨i, by simpa using h1, by rw [h2]; congr 1; omega, by simpa [nthT] using h3⟩
theorem mem_crossL {N : NetD} {L : List (List Int)} {l a : Int} : a ∈ crossL N L l ↔ vtxB N.as.length a = true ∧ crossE (lvl L l) (nthT N.as a.toNat) = true := by
  unfold crossL
  rw [mem_idxF]
  simp only [vtxB, decide_eq_true_eq]
  constructor
  · rintro ⟨i, h1, h2, h3⟩
    simp at h2
    subst h2
    exact ⟨by omega, by simpa using h3⟩
  · rintro ⟨h1, h2⟩
    exact ⟨a.toNat, by omega, by simp; omega, h2⟩
section
variable {Y : Sys} {h h' : Heap}

end
end Go.Rm
