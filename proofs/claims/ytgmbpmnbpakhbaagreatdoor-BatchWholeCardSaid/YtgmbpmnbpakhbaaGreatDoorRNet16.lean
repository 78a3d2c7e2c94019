import Derived.Test.YtgmbpmnbpakhbaaGreatDoorEngU
import Derived.Test.YtgmbpmnbpakhbaaGreatDoorRArg
import Derived.Test.YtgmbpmnbpakhbaaGreatDoorRNet15
import Derived.Test.YtgmbpmnbpakhbaaGreatDoorSNums

/- Nets in memory: Of. -/
set_option linter.unusedSimpArgs false
set_option linter.unusedVariables false
namespace Go.Rm

section
variable {Y : Sys} {h h' : Heap}

theorem row64_lt {s : Sl} {cs : List Int} (r : Row64 h s cs) (hne : cs ≠ []) : s.b < h.size := by
  rcases Nat.lt_or_ge s.b h.size with q | q
  · exact q
  · have := r.val 0 (List.length_pos_iff.2 hne)
    simp [hc, Array.getElem?_eq_none q] at this
def OfI3 (v0 : Value) (B rb M n : Nat) (s1 s2 : Sl) (l : List Tab) (hA : Heap) (e : List Value) (h' : Heap) : Prop :=
  ∃ (i : Nat) (s3 : Sl) (P : List (Tab × Sl)) (v4 v5 v7 v8 v9 : Value), e = [v0, .pointer (some ⟨B, 0, none⟩), .pointer (some ⟨rb, 0, none⟩), .pointer (some ⟨M, 0, none⟩), v4, v5, .int .i64 i, v7, v8, v9] ∧ i ≤ n ∧
    Blk h' M #[s1.v, s2.v, s3.v] ∧ Own h' 3 s3 (cells3 (P.map tabP)) ∧ P.map Prod.fst = l.take i ∧ (∀ p ∈ P, Row64 h' p.2 p.1.cs ∧ (p.1.cs ≠ [] → p.2.b < B)) ∧ (s3.nl = true ∨ hA.size ≤ s3.b) ∧ Mod (fun j => j = M) hA h'


theorem of3_spec (HT3 : Y.Has F.rlaw3_Of S_rlaw3_Of) (HT : Y.Has F.rlaw2_Of S_rlaw2_Of) {sv sa st : Sl} {N : NetD} (r : NetH h sv sa st N) (bv : N.vs.length ≤ 20000) (ba : N.as.length ≤ 20000) (bt : N.ts.length ≤ 20000) (bc : ∀ i, i < N.ts.length → (nthB N.ts i).cs.length ≤ 1000000)
    {R : Value → Heap → Prop} (hr : ∀ h' s1 s2 s3, Ext h h' → NetH h' s1 s2 s3 N → R (netV s1 s2 s3) h') : CallP Y F.rlaw3_Of [netV sv sa st] h R := by
  have lv := r.rv.len
  have la := r.ra.len
  have lt := r.rt.len
  refine .of_has HT3 rfl ?_
  simp [S_rlaw3_Of, FnS.wp, netV]
  refine ef_new_box ?_
  intro B h1 g1 B1 e1
  simp
  refine ef_new_box ?_
  intro rb h2 g2 B2 e2
  simp
  refine ef_new_box ?_
  intro M h3 g3 B3 e3
  have z1 := e1.size
  have z2 := e2.size
  have l1 := B1.lt
  have l2 := B2.lt
  have l3 := B3.lt
  have hBM : B ≠ M := by omega
  have hrM : rb ≠ M := by omega
  have x3 := (e1.trans e2).trans e3
  have A3 := (B1.ext e2).ext e3
  have C3 := B2.ext e3
  simp
  refine wp_loop' (ToI1 (netV sv sa st) B rb M sv.n N.vs h3) (fun e _ => sv.n - argI e 4) ⟨0, Sl.nil, _, _, _, _, _, rfl, by omega, B3, Own.nil, .inl rfl, Mod.refl h3⟩ ?_
  rintro e h4 ⟨i, s1, v5, v6, v7, v8, v9, rfl, hi, B4, o4, hs4, m4⟩
  have A4 := m4.blk A3 hBM
  have r4 := r.rv.ext (Mod.ext x3 m4 (fun j hj => by omega))
  by_cases c : i < sv.n
  · have c' : (i : Int) < sv.n := by omega
    have w1 : IntKind.i64.wrap ((i : Int) + 1) = (i : Int) + 1 := i64_wrap (by omega)
    have n4 := o4.n3
    have n4' : s1.n = i := by rw [← n4]; simp; omega
    simp [A4.hc, B4.hc, c', sem_idxa r4.ok, r4.v0 i (by omega), r4.v1 i (by omega), r4.v2 i (by omega), sem_build_ints3, ef_bslice3]
    intro t
    have e5 : Ext h4 (h4.push (.cells #[.int .i64 (nthT N.vs i).a, .int .i64 (nthT N.vs i).b, .int .i64 (nthT N.vs i).c] t)) := Mod.push
    have B5 := B4.ext e5
    have o5 := o4.mod e5 (fun _ h => h)
    simp [B5.hc]
    refine ef_append3 rfl o5 Blk.new rfl rfl rfl (by omega) (by omega) ?_
    intro s' h6 o6 m6 hs6
    rw [← take_mapT (by omega)] at o6
    have hs6' : s'.nl = true ∨ h3.size ≤ s'.b := by
      have := m4.size
      have := e5.size
      rcases hs6 with ⟨q1, q2⟩ | ⟨q1, q2⟩
      · rw [q1, q2]; exact hs4
      · exact .inr (by omega)
    have B6 := m6.blk B5 (fun ⟨q1, q2⟩ => by have := hs4.resolve_left (by rw [q1]; simp); omega)
    simp [StoreP.open, B6.hc, B6.hfz, w1]
    have B7 := B6.set (o := 0) (v := s'.v)
    have o7 := o6.mod (Mod.set (S := fun j => j = M) (h := h6) (o := 0) (v := s'.v) rfl) (fun hn hj => by have := hs6'.resolve_left (by rw [hn]; simp); omega)
    refine ⟨⟨i + 1, s', _, _, _, _, _, rfl, by omega, by simpa using B7, o7, hs6', ?_⟩, by simp [argI]; omega⟩
    refine (m4.then ((e5.mono fun _ _ h => h.elim).trans m6) (fun j hj q => ?_)).trans (Mod.set rfl)
    have := hs4.resolve_left (by rw [q.1]; simp)
    omega
  have c' : ¬ (i : Int) < sv.n := by omega
  obtain rfl : i = sv.n := by omega
  rw [List.take_of_length_le (by omega)] at o4
  have R4 := o4.row3
  have x4 : Ext h h4 := Mod.ext x3 m4 (fun j hj => by omega)
  have C4 := m4.blk C3 hrM
  have hb1 : N.vs ≠ [] → s1.b ≠ M ∧ s1.b < h4.size ∧ h3.size ≤ s1.b := fun hne => by
    obtain ⟨arr, hb, _, hnl⟩ := o4.blk (i := 0) (by rw [cells3_len, List.length_map]; have := List.length_pos_iff.2 hne; omega)
    have := hs4.resolve_left (by rw [hnl]; simp)
    exact ⟨by omega, hb.lt, by omega⟩
  have k4 := m4.size
  simp [A4.hc]
  refine wp_loop' (ToI2 (netV sv sa st) B rb M sa.n s1 N.as h4) (fun e _ => sa.n - argI e 5) ⟨0, Sl.nil, _, _, _, _, _, rfl, by omega, B4, Own.nil, .inl rfl, Mod.refl h4⟩ ?_
  clear r4 c c' hi v5 v6 v7 v8 v9
  rintro e h5 ⟨i, s2, v4, v6, v7, v8, v9, rfl, hi, B5, o5, hs5, m5⟩
  have A5 := m5.blk A4 hBM
  have r5 := r.ra.ext (Mod.ext x4 m5 (fun j hj => by omega))
  by_cases c : i < sa.n
  · have c' : (i : Int) < sa.n := by omega
    have w1 : IntKind.i64.wrap ((i : Int) + 1) = (i : Int) + 1 := i64_wrap (by omega)
    have n5 := o5.n3
    have n5' : s2.n = i := by rw [← n5]; simp; omega
    simp [A5.hc, B5.hc, c', sem_idxa r5.ok, r5.v0 i (by omega), r5.v1 i (by omega), r5.v2 i (by omega), sem_build_ints3, ef_bslice3]
    intro t
    have e6 : Ext h5 (h5.push (.cells #[.int .i64 (nthT N.as i).a, .int .i64 (nthT N.as i).b, .int .i64 (nthT N.as i).c] t)) := Mod.push
    have B6 := B5.ext e6
    have o6 := o5.mod e6 (fun _ h => h)
    simp [B6.hc]
    refine ef_append3 rfl o6 Blk.new rfl rfl rfl (by omega) (by omega) ?_
    intro s' h7 o7 m7 hs7
    rw [← take_mapT (by omega)] at o7
    have hs7' : s'.nl = true ∨ h4.size ≤ s'.b := by
      have := m5.size
      have := e6.size
      rcases hs7 with ⟨q1, q2⟩ | ⟨q1, q2⟩
      · rw [q1, q2]; exact hs5
      · exact .inr (by omega)
    have B7 := m7.blk B6 (fun ⟨q1, q2⟩ => by have := hs5.resolve_left (by rw [q1]; simp); omega)
    simp [StoreP.open, B7.hc, B7.hfz, w1]
    have B8 := B7.set (o := 1) (v := s'.v)
    have o8 := o7.mod (Mod.set (S := fun j => j = M) (h := h7) (o := 1) (v := s'.v) rfl) (fun hn hj => by have := hs7'.resolve_left (by rw [hn]; simp); omega)
    refine ⟨⟨i + 1, s', _, _, _, _, _, rfl, by omega, by simpa using B8, o8, hs7', ?_⟩, by simp [argI]; omega⟩
    refine (m5.then ((e6.mono fun _ _ h => h.elim).trans m7) (fun j hj q => ?_)).trans (Mod.set rfl)
    have := hs5.resolve_left (by rw [q.1]; simp)
    omega
  have c' : ¬ (i : Int) < sa.n := by omega
  obtain rfl : i = sa.n := by omega
  rw [List.take_of_length_le (by omega)] at o5
  have R5 := o5.row3
  have R45 := R4.mod m5 (fun hne => (hb1 hne).1)
  have x5 : Ext h h5 := Mod.ext x4 m5 (fun j hj => by omega)
  have C5 := m5.blk C4 hrM
  have hb2 : N.as ≠ [] → s2.b ≠ M ∧ s2.b < h5.size ∧ h4.size ≤ s2.b := fun hne => by
    obtain ⟨arr, hb, _, hnl⟩ := o5.blk (i := 0) (by rw [cells3_len, List.length_map]; have := List.length_pos_iff.2 hne; omega)
    have := hs5.resolve_left (by rw [hnl]; simp)
    exact ⟨by omega, hb.lt, by omega⟩
  have k5 := m5.size
  simp [A5.hc]
  refine wp_loop' (OfI3 (netV sv sa st) B rb M st.n s1 s2 N.ts h5) (fun e _ => st.n - argI e 6) ⟨0, Sl.nil, [], _, _, _, _, _, rfl, by omega, B5, Own.nil, rfl, fun p hp => by simp at hp, .inl rfl, Mod.refl h5⟩ ?_
  clear r5 c c' hi v4 v6 v7 v8 v9
  rintro e h6 ⟨i, s3, P, v4, v5, v7, v8, v9, rfl, hi, B6, o6, hP, hrow, hs6, m6⟩
  have A6 := m6.blk A5 hBM
  have x6 : Ext h h6 := Mod.ext x5 m6 (fun j hj => by omega)
  have r6 := r.rt.ext x6
  have k6 := m6.size
  by_cases c : i < st.n
  · have c' : (i : Int) < st.n := by omega
    have w1 : IntKind.i64.wrap ((i : Int) + 1) = (i : Int) + 1 := i64_wrap (by omega)
    have n6 := o6.n3
    have hPl : P.length = i := by have := congrArg List.length hP; simp at this; omega
    have n6' : s3.n = i := by rw [← n6]; simpa using hPl
    obtain ⟨u', hrd0, hu0, ru0⟩ := r.rt.rd (i := i) (by omega)
    have hrd := x6.rd hrd0 (fun h => h)
    have ru := ru0.ext x6
    have hu7 : (nthB N.ts i).cs ≠ [] → u'.b < B := fun hne => by have := row64_lt ru0 hne; omega
    have hul := ru.len
    have hbc := bc i (by omega)
    simp [A6.hc, B6.hc, c', sem_idxa r6.ok, hrd]
    refine of_spec HT ?_
    intro h7 e7
    have ru7 := ru.ext e7
    have B7 := B6.ext e7
    have k7 := e7.size
    simp [B7.hc, tabV, ef_bslice3]
    intro t
    have e8 : Ext h7 (h7.push (.cells #[.int .i64 (nthB N.ts i).i, .int .i64 (nthB N.ts i).o, u'.v] t)) := Mod.push
    have k8 := e8.size
    have B8 := B7.ext e8
    have o8 := (o6.mod e7 (fun _ h => h)).mod e8 (fun _ h => h)
    simp [B8.hc]
    refine ef_append3 rfl o8 Blk.new rfl rfl (by simp) (by omega) (by omega) ?_
    intro s' h9 o9 m9 hs9
    have k9 := m9.size
    have o9' : Own h9 3 s' (cells3 ((P ++ [(nthB N.ts i, u')]).map tabP)) := by simpa [tabP] using o9
    have hs9' : s'.nl = true ∨ h5.size ≤ s'.b := by
      rcases hs9 with ⟨q1, q2⟩ | ⟨q1, q2⟩
      · rw [q1, q2]; exact hs6
      · exact .inr (by omega)
    have B9 := m9.blk B8 (fun ⟨q1, q2⟩ => by have := hs6.resolve_left (by rw [q1]; simp); omega)
    simp [StoreP.open, B9.hc, B9.hfz, w1]
    have B10 := B9.set (o := 2) (v := s'.v)
    have m10 : Mod (fun j => j = M) h9 (hset h9 M 2 s'.v) := Mod.set rfl
    have o10 := o9'.mod m10 (fun hn hj => by have := hs9'.resolve_left (by rw [hn]; simp); omega)
    have k10 := m10.size
    have s3lt : s3.nl = false → s3.b < h6.size := fun hn => o6.lt hn
    refine ⟨⟨i + 1, s', P ++ [(nthB N.ts i, u')], _, _, _, _, _, rfl, by omega, by simpa using B10, o10, ?_, ?_, hs9', ?_⟩, by simp [argI]; omega⟩
    · rw [List.map_append, hP, List.take_succ_eq_append_getElem (by omega), nthB_eq (by omega)]
      rfl
    · intro p hp
      rcases List.mem_append.1 hp with g | g
      · obtain ⟨g1, g2⟩ := hrow p g
        have g3 : p.1.cs ≠ [] → ¬ (s3.nl = false ∧ p.2.b = s3.b) := fun hne q => by have := g2 hne; have := hs6.resolve_left (by rw [q.1]; simp); have := q.2; omega
        exact ⟨(((g1.ext e7).ext e8).mod m9 g3).mod m10 (fun hne hj => by have := g2 hne; omega), g2⟩
      · simp only [List.mem_singleton] at g
        subst g
        refine ⟨((ru7.ext e8).mod m9 (fun hne q => ?_)).mod m10 (fun hne hj => ?_), hu7⟩
        · have := hu7 hne
          have := hs6.resolve_left (by rw [q.1]; simp)
          have := q.2
          omega
        · have := hu7 hne
          omega
    · refine (m6.then (((e7.trans e8).mono fun _ _ h => h.elim).trans m9) (fun j hj q => ?_)).trans m10
      have := hs6.resolve_left (by rw [q.1]; simp)
      omega
  have c' : ¬ (i : Int) < st.n := by omega
  obtain rfl : i = st.n := by omega
  rw [List.take_of_length_le (by omega)] at hP
  have R6 : RowT h6 s3 N.ts := o6.rowT hP (fun p hp => (hrow p hp).1)
  have hH : NetH h6 s1 s2 s3 N := ⟨R45.mod m6 (fun hne => (hb1 hne).1), R5.mod m6 (fun hne => (hb2 hne).1), R6⟩
  have C6 := m6.blk C5 hrM
  simp [A6.hc, rd_blk B6]
  refine ef_store_box C6 rfl rfl (by simp) ?_
  intro h7 B7 m7
  simp
  refine resP_x rfl B7 rfl ?_
  have o7 := o6.mod m7 (fun hn hj => by have := hs6.resolve_left (by rw [hn]; simp); omega)
  refine hr h7 s1 s2 s3 (Mod.ext x6 m7 (fun j hj => by omega)) ⟨hH.rv.mod m7 (fun hne hj => by have := hb1 hne; omega), hH.ra.mod m7 (fun hne hj => by have := hb2 hne; omega), o7.rowT hP (fun p hp => ?_)⟩
  obtain ⟨g1, g2⟩ := hrow p hp
  exact g1.mod m7 (fun hne hj => by have := g2 hne; omega)

end
end Go.Rm
