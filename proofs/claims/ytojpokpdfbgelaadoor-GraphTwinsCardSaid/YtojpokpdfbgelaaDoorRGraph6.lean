import Derived.Test.YtojpokpdfbgelaaDoorEngU
import Derived.Test.YtojpokpdfbgelaaDoorRGraph5
import Derived.Test.YtojpokpdfbgelaaDoorSNums

/- The laws of graphs: Of, Ring, Same, Do. -/
set_option linter.unusedSimpArgs false
set_option linter.unusedVariables false
namespace Go.Rm

section
variable {Y : Sys} {h h' : Heap}

def OfI3 (v0 : Value) (B rb M n : Nat) (s1 s2 : Sl) (l : List Tab) (hA : Heap) (e : List Value) (h' : Heap) : Prop :=
  ∃ (i : Nat) (s3 : Sl) (P : List (Tab × Sl)) (v4 v5 v7 v8 v9 : Value), e = [v0, .pointer (some ⟨B, 0, none⟩), .pointer (some ⟨rb, 0, none⟩), .pointer (some ⟨M, 0, none⟩), v4, v5, .int .i64 i, v7, v8, v9] ∧ i ≤ n ∧
    Blk h' M #[s1.v, s2.v, s3.v] ∧ Own h' 3 s3 (cells3 (P.map tabP)) ∧ P.map Prod.fst = l.take i ∧ (∀ p ∈ P, Row64 h' p.2 p.1.cs ∧ (p.1.cs ≠ [] → p.2.b < B)) ∧ (s3.nl = true ∨ hA.size ≤ s3.b) ∧ Mod (fun j => j = M) hA h'


theorem of3_spec (HT3 : Y.Has F.rlaw3_Of S_rlaw3_Of) (HT : Y.Has F.rlaw2_Of S_rlaw2_Of) {sv sa st : Sl} {N : NetD} (r : NetH h sv sa st N) (bv : N.vs.length ≤ 20000) (ba : N.as.length ≤ 20000) (bt : N.ts.length ≤ 20000) (bc : ∀ i, i < N.ts.length → (nthB N.ts i).cs.length ≤ 1000000)
    {R : Value → Heap → Prop} (hr : ∀ h' s1 s2 s3, Ext h h' → NetH h' s1 s2 s3 N → R (netV s1 s2 s3) h') : CallP Y F.rlaw3_Of [netV sv sa st] h R := by
  have lv := r.rv.len
  have la := r.ra.len
  have lt := r.rt.len
  refine .of_has HT3 rfl ?_
  simp [S_rlaw3_Of, FnS.wp, netV]
  refine ef_new_box ?_
  intro B h1 g1 B1 e1
  simp
  refine ef_new_box ?_
  intro rb h2 g2 B2 e2
  simp
  refine ef_new_box ?_
  intro M h3 g3 B3 e3
  have z1 := e1.size
  have z2 := e2.size
  have l1 := B1.lt
  have l2 := B2.lt
  have l3 := B3.lt
  have hBM : B ≠ M := by omega
  have hrM : rb ≠ M := by omega
  have x3 := (e1.trans e2).trans e3
  have A3 := (B1.ext e2).ext e3
  have C3 := B2.ext e3
  simp
  refine wp_loop' (ToI1 (netV sv sa st) B rb M sv.n N.vs h3) (fun e _ => sv.n - argI e 4) ⟨0, Sl.nil, _, _, _, _, _, rfl, by omega, B3, Own.nil, .inl rfl, Mod.refl h3⟩ ?_
  rintro e h4 ⟨i, s1, v5, v6, v7, v8, v9, rfl, hi, B4, o4, hs4, m4⟩
  have A4 := m4.blk A3 hBM
  have r4 := r.rv.ext (Mod.ext x3 m4 (fun j hj => by omega))
  by_cases c : i < sv.n
  · have c' : (i : Int) < sv.n := by omega
    have w1 : IntKind.i64.wrap ((i : Int) + 1) = (i : Int) + 1 := i64_wrap (by omega)
    have n4 := o4.n3
    have n4' : s1.n = i := by rw [← n4]; simp; omega
    simp [A4.hc, B4.hc, c', sem_idxa r4.ok, r4.v0 i (by omega), r4.v1 i (by omega), r4.v2 i (by omega), sem_build_ints3, ef_bslice3]
    intro t
    have e5 : Ext h4 (h4.push (.cells #[.int .i64 (nthT N.vs i).a, .int .i64 (nthT N.vs i).b, .int .i64 (nthT N.vs i).c] t)) := Mod.push
    have B5 := B4.ext e5
    have o5 := o4.mod e5 (fun _ h => h)
    simp [B5.hc]
    refine ef_append3 rfl o5 Blk.new rfl rfl rfl (by omega) (by omega) ?_
    intro s' h6 o6 m6 hs6
    rw [← take_mapT (by omega)] at o6
    have hs6' : s'.nl = true ∨ h3.size ≤ s'.b := by
      have := m4.size
      have := e5.size
      rcases hs6 with ⟨q1, q2⟩ | ⟨q1, q2⟩
      · rw [q1, q2]; exact hs4
      · exact .inr (by omega)
    have B6 := m6.blk B5 (fun ⟨q1, q2⟩ => by have := hs4.resolve_left (by rw [q1]; simp); omega)
    simp [StoreP.open, B6.hc, B6.hfz, w1]
    have B7 := B6.set (o := 0) (v := s'.v)
    have o7 := o6.mod (Mod.set (S := fun j => j = M) (h := h6) (o := 0) (v := s'.v) rfl) (fun hn hj => by have := hs6'.resolve_left (by rw [hn]; simp); omega)
    refine ⟨⟨i + 1, s', _, _, _, _, _, rfl, by omega, by simpa using B7, o7, hs6', ?_⟩, by simp [argI]; omega⟩
    refine (m4.then ((e5.mono fun _ _ h => h.elim).trans m6) (fun j hj q => ?_)).trans (Mod.set rfl)
    have := hs4.resolve_left (by rw [q.1]; simp)
    omega
  have c' : ¬ (i : Int) < sv.n := by omega
  obtain rfl : i = sv.n := by omega
  rw [List.take_of_length_le (by omega)] at o4
  have R4 := o4.row3
  have x4 : Ext h h4 := Mod.ext x3 m4 (fun j hj => by omega)
  have C4 := m4.blk C3 hrM
  have hb1 : N.vs ≠ [] → s1.b ≠ M ∧ s1.b < h4.size ∧ h3.size ≤ s1.b := fun hne => by
    obtain ⟨arr, hb, _, hnl⟩ := o4.blk (i := 0) (by rw [cells3_len, List.length_map]; have := List.length_pos_iff.2 hne; omega)
    have := hs4.resolve_left (by rw [hnl]; simp)
    exact ⟨by omega, hb.lt, by omega⟩
  have k4 := m4.size
  simp [A4.hc]
  refine wp_loop' (ToI2 (netV sv sa st) B rb M sa.n s1 N.as h4) (fun e _ => sa.n - argI e 5) ⟨0, Sl.nil, _, _, _, _, _, rfl, by omega, B4, Own.nil, .inl rfl, Mod.refl h4⟩ ?_
  clear r4 c c' hi v5 v6 v7 v8 v9
  rintro e h5 ⟨i, s2, v4, v6, v7, v8, v9, rfl, hi, B5, o5, hs5, m5⟩
  have A5 := m5.blk A4 hBM
  have r5 := r.ra.ext (Mod.ext x4 m5 (fun j hj => by omega))
  by_cases c : i < sa.n
  · have c' : (i : Int) < sa.n := by omega
    have w1 : IntKind.i64.wrap ((i : Int) + 1) = (i : Int) + 1 := i64_wrap (by omega)
    have n5 := o5.n3
    have n5' : s2.n = i := by rw [← n5]; simp; omega
    simp [A5.hc, B5.hc, c', sem_idxa r5.ok, r5.v0 i (by omega), r5.v1 i (by omega), r5.v2 i (by omega), sem_build_ints3, ef_bslice3]
    intro t
    have e6 : Ext h5 (h5.push (.cells #[.int .i64 (nthT N.as i).a, .int .i64 (nthT N.as i).b, .int .i64 (nthT N.as i).c] t)) := Mod.push
    have B6 := B5.ext e6
    have o6 := o5.mod e6 (fun _ h => h)
    simp [B6.hc]
    refine ef_append3 rfl o6 Blk.new rfl rfl rfl (by omega) (by omega) ?_
    intro s' h7 o7 m7 hs7
    rw [← take_mapT (by omega)] at o7
    have hs7' : s'.nl = true ∨ h4.size ≤ s'.b := by
      have := m5.size
      have := e6.size
      rcases hs7 with ⟨q1, q2⟩ | ⟨q1, q2⟩
      · rw [q1, q2]; exact hs5
      · exact .inr (by omega)
    have B7 := m7.blk B6 (fun ⟨q1, q2⟩ => by have := hs5.resolve_left (by rw [q1]; simp); omega)
    simp [StoreP.open, B7.hc, B7.hfz, w1]
    have B8 := B7.set (o := 1) (v := s'.v)
    have o8 := o7.mod (Mod.set (S := fun j => j = M) (h := h7) (o := 1) (v := s'.v) rfl) (fun hn hj => by have := hs7'.resolve_left (by rw [hn]; simp); omega)
    refine ⟨⟨i + 1, s', _, _, _, _, _, rfl, by omega, by simpa using B8, o8, hs7', ?_⟩, by simp [argI]; omega⟩
    refine (m5.then ((e6.mono fun _ _ h => h.elim).trans m7) (fun j hj q => ?_)).trans (Mod.set rfl)
    have := hs5.resolve_left (by rw [q.1]; simp)
    omega
  have c' : ¬ (i : Int) < sa.n := by omega
  obtain rfl : i = sa.n := by omega
  rw [List.take_of_length_le (by omega)] at o5
  have R5 := o5.row3
  have R45 := R4.mod m5 (fun hne => (hb1 hne).1)
  have x5 : Ext h h5 := Mod.ext x4 m5 (fun j hj => by omega)
  have C5 := m5.blk C4 hrM
  have hb2 : N.as ≠ [] → s2.b ≠ M ∧ s2.b < h5.size ∧ h4.size ≤ s2.b := fun hne => by
    obtain ⟨arr, hb, _, hnl⟩ := o5.blk (i := 0) (by rw [cells3_len, List.length_map]; have := List.length_pos_iff.2 hne; omega)
    have := hs5.resolve_left (by rw [hnl]; simp)
    exact ⟨by omega, hb.lt, by omega⟩
  have k5 := m5.size
  simp [A5.hc]
  refine wp_loop' (OfI3 (netV sv sa st) B rb M st.n s1 s2 N.ts h5) (fun e _ => st.n - argI e 6) ⟨0, Sl.nil, [], _, _, _, _, _, rfl, by omega, B5, Own.nil, rfl, fun p hp => by simp at hp, .inl rfl, Mod.refl h5⟩ ?_
  clear r5 c c' hi v4 v6 v7 v8 v9
  rintro e h6 ⟨i, s3, P, v4, v5, v7, v8, v9, rfl, hi, B6, o6, hP, hrow, hs6, m6⟩
  have A6 := m6.blk A5 hBM
  have x6 : Ext h h6 := Mod.ext x5 m6 (fun j hj => by omega)
  have r6 := r.rt.ext x6
  have k6 := m6.size
  by_cases c : i < st.n
  · have c' : (i : Int) < st.n := by omega
    have w1 : IntKind.i64.wrap ((i : Int) + 1) = (i : Int) + 1 := i64_wrap (by omega)
    have n6 := o6.n3
    have hPl : P.length = i := by have := congrArg List.length hP; simp at this; omega
    have n6' : s3.n = i := by rw [← n6]; simpa using hPl
    obtain ⟨u', hrd0, hu0, ru0⟩ := r.rt.rd (i := i) (by omega)
    have hrd := x6.rd hrd0 (fun h => h)
    have ru := ru0.ext x6
    have hu7 : (nthB N.ts i).cs ≠ [] → u'.b < B := fun hne => by have := ru0.lt hne; omega
    have hul := ru.len
    have hbc := bc i (by omega)
    simp [A6.hc, B6.hc, c', sem_idxa r6.ok, hrd]
    refine of_spec HT ?_
    intro h7 e7
    have ru7 := ru.ext e7
    have B7 := B6.ext e7
    have k7 := e7.size
    simp [B7.hc, tabV, ef_bslice3]
    intro t
    have e8 : Ext h7 (h7.push (.cells #[.int .i64 (nthB N.ts i).i, .int .i64 (nthB N.ts i).o, u'.v] t)) := Mod.push
    have k8 := e8.size
    have B8 := B7.ext e8
    have o8 := (o6.mod e7 (fun _ h => h)).mod e8 (fun _ h => h)
    simp [B8.hc]
    refine ef_append3 rfl o8 Blk.new rfl rfl (by simp) (by omega) (by omega) ?_
    intro s' h9 o9 m9 hs9
    have k9 := m9.size
    have o9' : Own h9 3 s' (cells3 ((P ++ [(nthB N.ts i, u')]).map tabP)) := by simpa [tabP] using o9
    have hs9' : s'.nl = true ∨ h5.size ≤ s'.b := by
      rcases hs9 with ⟨q1, q2⟩ | ⟨q1, q2⟩
      · rw [q1, q2]; exact hs6
      · exact .inr (by omega)
    have B9 := m9.blk B8 (fun ⟨q1, q2⟩ => by have := hs6.resolve_left (by rw [q1]; simp); omega)
    simp [StoreP.open, B9.hc, B9.hfz, w1]
    have B10 := B9.set (o := 2) (v := s'.v)
    have m10 : Mod (fun j => j = M) h9 (hset h9 M 2 s'.v) := Mod.set rfl
    have o10 := o9'.mod m10 (fun hn hj => by have := hs9'.resolve_left (by rw [hn]; simp); omega)
    have k10 := m10.size
    have s3lt : s3.nl = false → s3.b < h6.size := fun hn => o6.lt hn
    refine ⟨⟨i + 1, s', P ++ [(nthB N.ts i, u')], _, _, _, _, _, rfl, by omega, by simpa using B10, o10, ?_, ?_, hs9', ?_⟩, by simp [argI]; omega⟩
    · rw [List.map_append, hP, List.take_succ_eq_append_getElem (by omega), nthB_eq (by omega)]
      rfl
    · intro p hp
      rcases List.mem_append.1 hp with g | g
      · obtain ⟨g1, g2⟩ := hrow p g
        have g3 : p.1.cs ≠ [] → ¬ (s3.nl = false ∧ p.2.b = s3.b) := fun hne q => by have := g2 hne; have := hs6.resolve_left (by rw [q.1]; simp); have := q.2; omega
        exact ⟨(((g1.ext e7).ext e8).mod m9 g3).mod m10 (fun hne hj => by have := g2 hne; omega), g2⟩
      · simp only [List.mem_singleton] at g
        subst g
        refine ⟨((ru7.ext e8).mod m9 (fun hne q => ?_)).mod m10 (fun hne hj => ?_), hu7⟩
        · have := hu7 hne
          have := hs6.resolve_left (by rw [q.1]; simp)
          have := q.2
          omega
        · have := hu7 hne
          omega
    · refine (m6.then (((e7.trans e8).mono fun _ _ h => h.elim).trans m9) (fun j hj q => ?_)).trans m10
      have := hs6.resolve_left (by rw [q.1]; simp)
      omega
  have c' : ¬ (i : Int) < st.n := by omega
  obtain rfl : i = st.n := by omega
  rw [List.take_of_length_le (by omega)] at hP
  have R6 : RowT h6 s3 N.ts := o6.rowT hP (fun p hp => (hrow p hp).1)
  have hH : NetH h6 s1 s2 s3 N := ⟨R45.mod m6 (fun hne => (hb1 hne).1), R5.mod m6 (fun hne => (hb2 hne).1), R6⟩
  have C6 := m6.blk C5 hrM
  simp [A6.hc, rd_blk B6]
  refine ef_store_box C6 rfl rfl (by simp) ?_
  intro h7 B7 m7
  simp
  refine resP_x rfl B7 rfl ?_
  have o7 := o6.mod m7 (fun hn hj => by have := hs6.resolve_left (by rw [hn]; simp); omega)
  refine hr h7 s1 s2 s3 (Mod.ext x6 m7 (fun j hj => by omega)) ⟨hH.rv.mod m7 (fun hne hj => by have := hb1 hne; omega), hH.ra.mod m7 (fun hne hj => by have := hb2 hne; omega), o7.rowT hP (fun p hp => ?_)⟩
  obtain ⟨g1, g2⟩ := hrow p hp
  exact g1.mod m7 (fun hne hj => by have := g2 hne; omega)

set_option maxHeartbeats 1000000 in
theorem ring6_spec (HR : Y.Has F.rlaw6_Ring S_rlaw6_Ring) {R : Value → Heap → Prop} (hr : ∀ h' s1 s2 s3, Ext h h' → NetH h' s1 s2 s3 ringN → Own h' 3 s1 (cells3 (ringN.vs.map triV)) → h.size ≤ s1.b → s2.b ≠ s1.b → (∀ h'', Mod (fun j => j = s1.b) h' h'' → RowT h'' s3 ringN.ts) → R (netV s1 s2 s3) h') :
    CallP Y F.rlaw6_Ring [] h R := by
  refine .of_has HR rfl ?_
  simp [S_rlaw6_Ring, FnS.wp]
  refine ef_new_box ?_
  intro A hA gA bA eA
  have cA : ∀ g, Ext g h → Ext g hA := fun g e => Mod.trans e eA
  simp
  refine ef_bslice_all rfl rfl rfl ?_ (by omega)
  intro T1 hT1 gT1 bT1 eT1 oT1
  have cT1 : ∀ g, Ext g hA → Ext g hT1 := fun g e => Mod.trans e eT1
  simp at oT1
  simp
  refine new_store (vs := #[.int .i64 1, .int .i64 1, .slice (some ⟨T1, 0, none⟩) 1 1]) rfl rfl (by simp) ?_
  intro B1 hB1p gB1 bB1p eB1p stB1
  have cB1p : ∀ g, Ext g hT1 → Ext g hB1p := fun g e => Mod.trans e eB1p
  simp (config := { maxDischargeDepth := 60 }) [cA, bA.sk, bA.rk, cT1, cB1p]
  refine stB1 _ ?_
  intro hB1 bB1 eB1
  clear cB1p stB1 bB1p eB1p
  have cB1 : ∀ g, Ext g hT1 → Ext g hB1 := fun g e => Mod.trans e eB1
  simp
  refine ef_bslice_all rfl rfl rfl ?_ (by omega)
  intro T2 hT2 gT2 bT2 eT2 oT2
  have cT2 : ∀ g, Ext g hB1 → Ext g hT2 := fun g e => Mod.trans e eT2
  simp at oT2
  simp
  refine new_store (vs := #[.int .i64 2, .int .i64 1, .slice (some ⟨T2, 0, none⟩) 2 2]) rfl rfl (by simp) ?_
  intro B2 hB2p gB2 bB2p eB2p stB2
  have cB2p : ∀ g, Ext g hT2 → Ext g hB2p := fun g e => Mod.trans e eB2p
  simp (config := { maxDischargeDepth := 60 }) [cA, bA.sk, bA.rk, cT1, cB1, bB1.sk, bB1.rk, cT2, cB2p]
  refine stB2 _ ?_
  intro hB2 bB2 eB2
  clear cB2p stB2 bB2p eB2p
  have cB2 : ∀ g, Ext g hT2 → Ext g hB2 := fun g e => Mod.trans e eB2
  simp
  refine ef_bslice_all rfl rfl rfl ?_ (by omega)
  intro T3 hT3 gT3 bT3 eT3 oT3
  have cT3 : ∀ g, Ext g hB2 → Ext g hT3 := fun g e => Mod.trans e eT3
  simp at oT3
  simp
  refine new_store (vs := #[.int .i64 1, .int .i64 2, .slice (some ⟨T3, 0, none⟩) 2 2]) rfl rfl (by simp) ?_
  intro B3 hB3p gB3 bB3p eB3p stB3
  have cB3p : ∀ g, Ext g hT3 → Ext g hB3p := fun g e => Mod.trans e eB3p
  simp (config := { maxDischargeDepth := 60 }) [cA, bA.sk, bA.rk, cT1, cB1, bB1.sk, bB1.rk, cT2, cB2, bB2.sk, bB2.rk, cT3, cB3p]
  refine stB3 _ ?_
  intro hB3 bB3 eB3
  clear cB3p stB3 bB3p eB3p
  have cB3 : ∀ g, Ext g hT3 → Ext g hB3 := fun g e => Mod.trans e eB3
  simp [sem_build_ints3]
  refine ef_bslice_all rfl rfl rfl ?_ (by omega)
  intro V hV gV bV eV oV
  have cV : ∀ g, Ext g hB3 → Ext g hV := fun g e => Mod.trans e eV
  simp at oV
  simp [sem_build_ints3]
  refine ef_bslice_all rfl rfl rfl ?_ (by omega)
  intro W hW gW bW eW oW
  have cW : ∀ g, Ext g hV → Ext g hW := fun g e => Mod.trans e eW
  simp at oW
  simp (config := { maxDischargeDepth := 60 }) [cA, bA.sk, bA.rk, cT1, cB1, bB1.sk, bB1.rk, cT2, cB2, bB2.sk, bB2.rk, cT3, cB3, bB3.sk, bB3.rk, cV, cW]
  refine ef_bslice_all rfl rfl rfl ?_ (by omega)
  intro U hU gU bU eU oU
  have cU : ∀ g, Ext g hW → Ext g hU := fun g e => Mod.trans e eU
  simp at oU
  have zA := bA.lt
  have z1 := eT1.size
  have z2 := eB1.size
  have z3 := eT2.size
  have z4 := eB2.size
  have z5 := eT3.size
  have z6 := eB3.size
  have z7 := eV.size
  have z8 := eW.size
  have z9 := eU.size
  have y1 := bT1.lt
  have y2 := bT2.lt
  have y3 := bT3.lt
  have y4 := bV.lt
  have y5 := bW.lt
  have y6 := bU.lt
  have e8 := eW.trans eU
  have e7 := eV.trans e8
  have e6 := eB3.trans e7
  have e5 := eT3.trans e6
  have e4 := eB2.trans e5
  have e3 := eT2.trans e4
  have e2 := eB1.trans e3
  have e1 := eT1.trans e2
  simp [sem_build3]
  refine ef_store_box (bA.ext e1) rfl rfl (by simp) ?_
  intro hZ bZ mZ
  simp
  refine resP_x rfl bZ rfl ?_
  have qV := ((oV.mod e8 (fun _ h => h)).mod mZ (fun _ hj => by simp at hj; omega) : Own hZ 3 (Sl.at V 3 3) (cells3 (ringN.vs.map triV)))
  have qW := ((oW.mod eU (fun _ h => h)).mod mZ (fun _ hj => by simp at hj; omega) : Own hZ 3 (Sl.at W 4 4) (cells3 (ringN.as.map triV)))
  have q1 := ((oT1.mod e2 (fun _ h => h)).mod mZ (fun _ hj => by simp at hj; omega) : Own hZ 1 (Sl.at T1 1 1) (ints64 [2]))
  have q2 := ((oT2.mod e4 (fun _ h => h)).mod mZ (fun _ hj => by simp at hj; omega) : Own hZ 1 (Sl.at T2 2 2) (ints64 [0, 1152921504606846976]))
  have q3 := ((oT3.mod e6 (fun _ h => h)).mod mZ (fun _ hj => by simp at hj; omega) : Own hZ 1 (Sl.at T3 2 2) (ints64 [1, 5]))
  have qU := (oU.mod mZ (fun _ hj => by simp at hj; omega) : Own hZ 3 (Sl.at U 3 3) (cells3 ([((⟨1, 1, [2]⟩ : Tab), Sl.at T1 1 1), (⟨2, 1, [0, 1152921504606846976]⟩, Sl.at T2 2 2), (⟨1, 2, [1, 5]⟩, Sl.at T3 2 2)].map tabP)))
  have qT : ∀ h'', Mod (fun j => j = V) hZ h'' → RowT h'' (Sl.at U 3 3) ringN.ts := by
    intro h'' m
    have q1 := q1.mod m (fun _ hj => by simp at hj; omega)
    have q2 := q2.mod m (fun _ hj => by simp at hj; omega)
    have q3 := q3.mod m (fun _ hj => by simp at hj; omega)
    refine Own.rowT (P := [((⟨1, 1, [2]⟩ : Tab), Sl.at T1 1 1), (⟨2, 1, [0, 1152921504606846976]⟩, Sl.at T2 2 2), (⟨1, 2, [1, 5]⟩, Sl.at T3 2 2)]) (qU.mod m (fun _ hj => by simp at hj; omega)) rfl ?_
    intro p hp
    simp only [List.mem_cons, List.not_mem_nil, or_false] at hp
    rcases hp with rfl | rfl | rfl
    · exact q1.row64
    · exact q2.row64
    · exact q3.row64
  exact hr hZ (Sl.at V 3 3) (Sl.at W 4 4) (Sl.at U 3 3) (Mod.ext (eA.trans e1) mZ (fun j hj => by omega)) ⟨qV.row3, qW.row3, qT _ (Mod.refl _)⟩ qV (by simp; omega) (by simp; omega) qT

structure GrAll (Y : Sys) : Prop where
  Verts : Y.Has F.graph_Graph_Verts S_graph_Graph_Verts
  Arcs : Y.Has F.graph_Graph_Arcs S_graph_Graph_Arcs
  From : Y.Has F.graph_Graph_From S_graph_Graph_From
  To : Y.Has F.graph_Graph_To S_graph_Graph_To
  Weight : Y.Has F.graph_Graph_Weight S_graph_Graph_Weight
  Place : Y.Has F.graph_Graph_Place S_graph_Graph_Place
  Turn : Y.Has F.graph_Graph_Turn S_graph_Graph_Turn
  Ins : Y.Has F.graph_Graph_Ins S_graph_Graph_Ins
  Net : Y.Has F.graph_Graph_Net S_graph_Graph_Net
  vert : Y.Has F.graph_Graph_vert S_graph_Graph_vert
  CI : Y.Has F.slices_Clone_int_int S_slices_Clone_int_int
  GS : GrSet Y
  GB : GrBend Y
  GN : GrNew Y
  T : TurnFns Y
  RS : RefSet Y
  RT : RefTab Y
  NT : NetTo Y
  Of3 : Y.Has F.rlaw3_Of S_rlaw3_Of
  Of2 : Y.Has F.rlaw2_Of S_rlaw2_Of
  SameNet : Y.Has F.rref6_SameNet S_rref6_SameNet
  SameInts : Y.Has F.rref6_SameInts S_rref6_SameInts
  Tells : Y.Has F.rlaw1_Tells S_rlaw1_Tells
  Ring : Y.Has F.rlaw6_Ring S_rlaw6_Ring
  known : Y.Has F.rlaw6_known S_rlaw6_known
  Same : Y.Has F.rlaw6_Same S_rlaw6_Same
  Do : Y.Has F.rlaw6_Do S_rlaw6_Do

theorem net_of_arcs {N M : NetD} (hl : N.as.length = M.as.length) (h : N ≠ M) : True := trivial

def SmI (v0 v1 : Value) (B : Nat) (n : Nat) (h0 : Heap) (e : List Value) (h' : Heap) : Prop :=
  ∃ (i : Nat) (v3 v5 v6 v7 : Value), e = [v0, v1, .pointer (some ⟨B, 0, none⟩), v3, .int .i64 i, v5, v6, v7] ∧ i ≤ n ∧ Ext h0 h'

theorem same6_spec (G : GrAll Y) {p : Nat} {S : Nat → Prop} {N M : NetD} {sv sa st : Sl} (g : GraphA h p N S) (bs : NetSmall N) (r : NetH h sv sa st M) {R : Value → Heap → Prop}
    (hr : ∀ h', Ext h h' → R (.bool (decide (N = M))) h') : CallP Y F.rlaw6_Same [.pointer (some ⟨p, 0, none⟩), netV sv sa st] h R := by
  have lv := r.rv.len
  have la := r.ra.len
  refine .of_has G.Same rfl ?_
  simp [S_rlaw6_Same, FnS.wp, netV]
  refine ef_new_box ?_
  intro B hB gB bB eB
  have cB : ∀ g, Ext g h → Ext g hB := fun g e => Mod.trans e eB
  have no : N ≠ M → ∀ h', Ext h h' → R (.bool false) h' := fun hn h' e => by
    have := hr h' e
    rwa [decide_eq_false hn] at this
  simp (config := { maxDischargeDepth := 60 }) [cB, bB.sk, bB.rk]
  refine gverts_spec G.Verts (g.ext eB) ?_
  by_cases c1 : N.vs.length = sv.n
  rotate_left
  · have c1' : ¬ (N.vs.length : Int) = sv.n := by omega
    simp (config := { maxDischargeDepth := 60 }) [cB, bB.sk, bB.rk, c1']
    exact no (fun e => by rw [e] at c1; omega) _ eB
  have c1' : ((N.vs.length : Int) = sv.n) = True := by simp; omega
  simp (config := { maxDischargeDepth := 60 }) [cB, bB.sk, bB.rk, c1']
  refine garcs_spec G.Arcs (g.ext eB) ?_
  by_cases c2 : N.as.length = sa.n
  rotate_left
  · have c2' : ¬ (N.as.length : Int) = sa.n := by omega
    simp (config := { maxDischargeDepth := 60 }) [cB, bB.sk, bB.rk, c2']
    exact no (fun e => by rw [e] at c2; omega) _ eB
  have c2' : ((N.as.length : Int) = sa.n) = True := by simp; omega
  simp (config := { maxDischargeDepth := 60 }) [cB, bB.sk, bB.rk, c2']
  refine gnet_spec G.Net G.GN.Cl (g.ext eB) bs ?_
  intro h1 s1 s2 s3 e1 f1
  have c_h1 : ∀ g, Ext g hB → Ext g h1 := fun g e => Mod.trans e e1
  have x1 := eB.trans e1
  have r1 := f1 h1 (Mod.refl h1)
  have l1 := r1.rv.len
  have l2 := r1.ra.len
  have l3 := r1.rt.len
  obtain ⟨b1, b2, b3, b4⟩ := bs
  simp (config := { maxDischargeDepth := 60 }) [cB, bB.sk, bB.rk, c_h1]
  refine of3_spec G.Of3 G.Of2 r1 b1 b2 b3 b4 ?_
  intro h2 t1 t2 t3 e2 r2
  have c_h2 : ∀ g, Ext g h1 → Ext g h2 := fun g e => Mod.trans e e2
  have x2 := x1.trans e2
  simp (config := { maxDischargeDepth := 60 }) [cB, bB.sk, bB.rk, c_h1, c_h2]
  refine rsamenet_spec G.SameNet G.RT r2 (r.ext x2) ⟨b1, b2, b3, b4⟩ ?_
  intro h3 e3
  have c_h3 : ∀ g, Ext g h2 → Ext g h3 := fun g e => Mod.trans e e3
  have x3 := x2.trans e3
  by_cases c3 : N = M
  rotate_left
  · simp [c3]
    exact no c3 _ x3
  have c3' : decide (N = M) = true := by simp [c3]
  simp (config := { maxDischargeDepth := 60 }) [cB, bB.sk, bB.rk, c_h1, c_h2, c_h3, c3']
  subst c3
  refine wp_loop' (SmI (.pointer (some ⟨p, 0, none⟩)) (netV sv sa st) B sa.n h3) (fun e _ => sa.n - argI e 4) ⟨0, _, _, _, _, rfl, by omega, Mod.refl _⟩ ?_
  rintro e h4 ⟨i, v3, v5, v6, v7, rfl, hi, x4⟩
  have c_h4 : ∀ g, Ext g h3 → Ext g h4 := fun g e => Mod.trans e x4
  have y4 := x3.trans x4
  by_cases c : i < sa.n
  · have c' : (i : Int) < sa.n := by omega
    have ci : i < N.as.length := by omega
    have w1 : IntKind.i64.wrap ((i : Int) + 1) = (i : Int) + 1 := i64_wrap (by omega)
    have hv : vtxB N.as.length (i : Int) = true := by simp [vtxB]; omega
    simp (config := { maxDischargeDepth := 60 }) [cB, bB.sk, bB.rk, c_h1, c_h2, c_h3, c_h4, sem_idxa r.ra.ok, r.ra.s0, r.ra.s1, r.ra.s2, c', ci, w1]
    refine gfrom_spec G.From G.GS.arc (g.ext y4) ?_
    simp (config := { maxDischargeDepth := 60 }) [cB, bB.sk, bB.rk, c_h1, c_h2, c_h3, c_h4, sem_idxa r.ra.ok, r.ra.s0, r.ra.s1, r.ra.s2, c', ci, w1, fromV, hv]
    refine gto_spec G.To G.GS.arc (g.ext y4) ?_
    simp (config := { maxDischargeDepth := 60 }) [cB, bB.sk, bB.rk, c_h1, c_h2, c_h3, c_h4, sem_idxa r.ra.ok, r.ra.s0, r.ra.s1, r.ra.s2, c', ci, w1, toV, hv]
    refine gweight_spec G.Weight G.GS.arc (g.ext y4) ?_
    simp (config := { maxDischargeDepth := 60 }) [cB, bB.sk, bB.rk, c_h1, c_h2, c_h3, c_h4, sem_idxa r.ra.ok, r.ra.s0, r.ra.s1, r.ra.s2, c', ci, w1, weightV, hv]
    refine ⟨⟨i + 1, _, _, _, _, rfl, by omega, x4⟩, by simp [argI]; omega⟩
  have c' : ¬ (i : Int) < sa.n := by omega
  have := hr h4 y4
  rw [decide_eq_true rfl] at this
  simp (config := { maxDischargeDepth := 60 }) [cB, bB.sk, bB.rk, c_h1, c_h2, c_h3, c_h4, sem_idxa r.ra.ok, r.ra.s0, r.ra.s1, r.ra.s2, c']
  exact this
end
end Go.Rm
