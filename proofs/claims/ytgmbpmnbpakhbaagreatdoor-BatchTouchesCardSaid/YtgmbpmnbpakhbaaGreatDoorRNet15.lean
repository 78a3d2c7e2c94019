import Derived.Test.YtgmbpmnbpakhbaaGreatDoorRLaw3f

/- The document's nets: CopyNet. -/
set_option linter.unusedSimpArgs false
set_option linter.unusedVariables false
namespace Go.Rm

section
variable {Y : Sys} {h : Heap}

theorem ef_bslice0_box {K : Value → Heap → Prop} {sz : Nat} (hk : ∀ (b : Nat) (h' : Heap), h.size ≤ b → Own h' sz (Sl.at b 0 0) [] → Ext h h' → K (.slice (some ⟨b, 0, none⟩) 0 0) h') : Ef.wp h K (.bslice 0 sz #[] []) [] := by
  rw [ef_bslice0]
  intro t
  exact hk h.size _ (Nat.le_refl _) own_empty Mod.push
/-- append to an empty slice that has no room: nothing that was there is written -/
theorem ef_appendE {K : Value → Heap → Prop} {sz bytes m b : Nat} {zero : Array Value} {nw : List Value} {x : Value} (ho : Own h sz (Sl.at b 0 0) []) (hx : lenV x = some m) (hsrc : srcOf h sz m x = some nw)
    (hl : nw.length = m * sz) (h1 : ∀ v ∈ nw, v.oneCell' = true) (hz : zero.size = sz) (hb : m * bytes ≤ 140737488355328) (h63 : m ≤ 9223372036854775807)
    (hk : ∀ (s' : Sl) (h' : Heap), Own h' sz s' nw → s'.n = m → Ext h h' → s'.nl = false → (s'.b = b ∨ h.size ≤ s'.b) → K s'.v h') : Ef.wp h K (.append sz bytes zero) [.slice (some ⟨b, 0, none⟩) 0 0, x] := by
  simp only [Ef.wp, hx, hsrc, Nat.zero_add]
  by_cases hm : m ≤ 0
  · obtain rfl : m = 0 := by omega
    have hnw : nw = [] := List.eq_nil_of_length_eq_zero (by simpa using hl)
    subst hnw
    rw [if_pos hm]
    simp only [hst]
    exact hk (Sl.at b 0 0) h ho rfl (Mod.refl h) rfl (.inl rfl)
  · rw [if_neg hm]
    refine ⟨h63, hb, ?_⟩
    simp only [srcOf, Nat.zero_mul, rd]
    intro t nc hge hle
    refine hk (Sl.at h.size m nc) _ ?_ rfl Mod.push rfl (.inr (Nat.le_refl _))
    refine ⟨hl, .inr ⟨rfl, rfl, rfl, hge, hle, _, Blk.new, ?_, ?_⟩⟩
    · simp only [Array.size_append, List.size_toArray, size_zeroCells', hz, hl, Sl.at_c, List.length_nil, Nat.zero_add]
      rw [← Nat.add_mul]
      congr 1
      omega
    · simp only [Array.toList_append, Sl.at_n, List.nil_append]
      rw [← hl]
      exact List.take_left
theorem cells3_one {l : List Tri} : ∀ v ∈ cells3 (l.map triV), v.oneCell' = true := by
  intro v hv
  simp only [cells3, List.mem_flatMap, List.mem_map] at hv
  obtain ⟨a, ⟨t, _, rfl⟩, hv⟩ := hv
  simp only [triV, List.mem_cons, List.not_mem_nil, or_false] at hv
  rcases hv with rfl | rfl | rfl <;> rfl
theorem Row3.rdAll {s : Sl} {l : List Tri} (r : Row3 h s l) : Rm.rd h s.b s.o (l.length * 3) = some (cells3 (l.map triV)) := by
  have hl : (cells3 (l.map triV)).length = l.length * 3 := by rw [cells3_len, List.length_map]
  have := rd_of (h := h) (b := s.b) (l := cells3 (l.map triV)) (o := s.o) fun j v hj => by
    have hlt : j < l.length * 3 := by
      have := (List.getElem?_eq_some_iff.1 hj).1
      rwa [hl] at this
    have hi : j / 3 < l.length := by omega
    obtain ⟨g0, g1, g2⟩ := cells3_get (l := l.map triV) (i := j / 3) (by simpa using hi)
    simp only [List.getElem_map, triV] at g0 g1 g2
    have k0 := r.v0 _ hi
    have k1 := r.v1 _ hi
    have k2 := r.v2 _ hi
    rw [nthT_eq hi] at k0 k1 k2
    have hm : j % 3 = 0 ∨ j % 3 = 1 ∨ j % 3 = 2 := by omega
    rcases hm with m | m | m
    · have e : j = j / 3 * 3 := by omega
      rw [← e] at g0 k0
      rw [hj] at g0
      cases g0
      exact k0
    · have e : j = j / 3 * 3 + 1 := by omega
      rw [← e] at g1
      rw [hj] at g1
      cases g1
      rw [show s.o + j = s.o + j / 3 * 3 + 1 by omega]
      exact k1
    · have e : j = j / 3 * 3 + 2 := by omega
      rw [← e] at g2
      rw [hj] at g2
      cases g2
      rw [show s.o + j = s.o + j / 3 * 3 + 2 by omega]
      exact k2
  rwa [hl] at this
theorem srcOf_row3 {s : Sl} {l : List Tri} (r : Row3 h s l) : srcOf h 3 s.n s.v = some (cells3 (l.map triV)) := by
  have hr := r.rdAll
  rw [r.len] at hr
  unfold Sl.v
  cases hnl : s.nl with
  | true =>
    have : l = [] := List.eq_nil_of_length_eq_zero (by rw [r.len]; exact (r.ok.nil hnl).1)
    subst this
    rfl
  | false =>
    cases hsp : s.sp with
    | none => simp only [Bool.false_eq_true, if_false, srcOf]; exact hr
    | some q =>
      have h0 : s.n = 0 := by
        have := r.ok.spot.resolve_left (by rw [hsp]; simp)
        have := r.ok.le; omega
      have : l = [] := List.eq_nil_of_length_eq_zero (by rw [r.len]; exact h0)
      subst this
      simp [srcOf, h0, cells3]
@[simp] theorem sem_build_ssn {z0 z1 z2 : Value} {s t : Sl} : IOp.sem Y h (.build #[z0, z1, z2] [(0, 1), (1, 1), (2, 1)] [0, 1]) [s.v, t.v] = some (.agg #[s.v, t.v, z2]) := by
  simp [IOp.sem, Instr.fill]

def CpI (v0 : Value) (B A C : Nat) (s1 s2 : Sl) (n : Nat) (ts : List Tab) (h0 : Heap) (e : List Value) (h' : Heap) : Prop :=
  ∃ (i : Nat) (s3 : Sl) (P : List (Tab × Sl)) (v5 v6 : Value), e = [v0, .pointer (some ⟨A, 0, none⟩), .pointer (some ⟨B, 0, none⟩), .pointer (some ⟨C, 0, none⟩), .int .i64 i, v5, v6] ∧ i ≤ n ∧ Blk h' C #[s1.v, s2.v, s3.v] ∧ Own h' 3 s3 (cells3 (P.map tabP)) ∧ P.map Prod.fst = ts.take i ∧ P.Pairwise (fun p q => p.2.b ≠ q.2.b) ∧ (∀ p ∈ P, (Own h' 1 p.2 (ints64 p.1.cs) ∧ p.2.nl = false) ∧ h0.size ≤ p.2.b ∧ (s3.nl = false → p.2.b ≠ s3.b) ∧ p.2.b < h'.size) ∧ (s3.nl = true ∨ h0.size ≤ s3.b) ∧ Mod (fun j => j = C) h0 h'

set_option maxHeartbeats 2000000 in
theorem rcopynetO_spec (H : Y.Has F.rref6_CopyNet S_rref6_CopyNet) {sv sa st : Sl} {N : NetD} (r : NetH h sv sa st N) (bs : NetSmall N) {R : Value → Heap → Prop}
    (hr : ∀ h' s1 s2 s3 (P : List (Tab × Sl)), Ext h h' → Own h' 3 s1 (cells3 (N.vs.map triV)) → Own h' 3 s2 (cells3 (N.as.map triV)) → Own h' 3 s3 (cells3 (P.map tabP)) → P.map Prod.fst = N.ts →
      P.Pairwise (fun p q => p.2.b ≠ q.2.b) → (∀ p ∈ P, (Own h' 1 p.2 (ints64 p.1.cs) ∧ p.2.nl = false) ∧ h.size ≤ p.2.b ∧ p.2.b ≠ s1.b ∧ p.2.b ≠ s2.b ∧ (s3.nl = false → p.2.b ≠ s3.b)) → h.size ≤ s1.b → h.size ≤ s2.b → s1.b ≠ s2.b → (s3.nl = false → h.size ≤ s3.b ∧ s3.b ≠ s1.b ∧ s3.b ≠ s2.b) → R (netV s1 s2 s3) h') :
    CallP Y F.rref6_CopyNet [netV sv sa st] h R := by
  have lv := r.rv.len
  have la := r.ra.len
  have lt := r.rt.len
  obtain ⟨bv, ba, bt, bc⟩ := bs
  refine .of_has H rfl ?_
  simp [S_rref6_CopyNet, FnS.wp, netV]
  refine ef_new_box ?_
  intro A hA gA bA eA
  simp
  refine ef_new_box ?_
  intro B hR gB bB eB
  have x0 := eA.trans eB
  have lA := bA.lt
  have lB := bB.lt
  have zA := eA.size
  have zB := eB.size
  have bA := bA.ext eB
  have cont : ∀ (C : Nat) (hZ : Heap) (s1 s2 : Sl), Ext hR hZ → Blk hZ C #[s1.v, s2.v, .slice none 0 0] → Own hZ 3 s1 (cells3 (N.vs.map triV)) → Own hZ 3 s2 (cells3 (N.as.map triV)) → hR.size ≤ C → hR.size ≤ s1.b → hR.size ≤ s2.b → s1.nl = false → s2.nl = false → s1.b ≠ s2.b → C ≠ s1.b → C ≠ s2.b →
      Stmt.wp Y S_rref6_CopyNet.body.rest.rest (resP S_rref6_CopyNet.res R) (fun _ _ _ => False) (resP S_rref6_CopyNet.res R) [netV sv sa st, .pointer (some ⟨A, 0, none⟩), .pointer (some ⟨B, 0, none⟩), .pointer (some ⟨C, 0, none⟩), undef, undef, undef] hZ := by
    intro C hZ s1 s2 x1 bC o1 o2 gC f1 f2 nl1 nl2 d12 dC1 dC2
    have l1 := o1.lt nl1
    have l2 := o2.lt nl2
    have lC := bC.lt
    have z1 := x1.size
    simp [S_rref6_CopyNet, Stmt.rest]
    refine wp_loop' (CpI (netV sv sa st) B A C s1 s2 st.n N.ts hZ) (fun e _ => st.n - argI e 4) ⟨0, Sl.nil, [], _, _, rfl, by omega, bC, Own.nil, by simp, List.Pairwise.nil, fun p hp => (by cases hp), .inl rfl, Mod.refl _⟩ ?_
    rintro e h2 ⟨i, s3, P, v5, v6, rfl, hi, bC2, o3, hP, hpw, hrow, hs3, m2⟩
    have x2 : Ext hR h2 := Mod.ext x1 m2 (fun j hj => by omega)
    have bA2 := bA.ext x2
    have z2 := m2.size
    by_cases c : i < st.n
    · have c' : (i : Int) < st.n := by omega
      have w1 : IntKind.i64.wrap ((i : Int) + 1) = (i : Int) + 1 := i64_wrap (by omega)
      obtain ⟨u, rdu, _, ru⟩ := (r.rt.ext (x0.trans x2)).rd (i := i) (by omega)
      have hul := ru.len
      have hbc := bc i (by omega)
      have n3 := o3.n3
      have hPl : P.length = i := by have := congrArg List.length hP; simp at this; omega
      have n3' : s3.n = i := by rw [← n3]; simpa using hPl
      simp [bA2.hc, c', sem_idxa r.rt.ok, rdu]
      refine new_store (vs := #[.int .i64 (nthB N.ts i).i, .int .i64 (nthB N.ts i).o, u.v]) rfl rfl (by simp) ?_
      intro D hDp gD bDp eDp stD
      simp
      refine stD _ ?_
      intro hD bD eD
      clear stD bDp eDp
      have bC3 := bC2.ext eD
      simp [bC3.hc, bD.hc]
      refine ef_bslice0_box ?_
      intro E h4 gE oE e4
      have bC4 := bC3.ext e4
      have bD4 := bD.ext e4
      simp [bC4.hc, bD4.hc]
      refine ef_appendE oE lenV_slv (srcOf_row64 (ru.ext (eD.trans e4))) (by rw [ints64_len, hul, Nat.mul_one]) ints64_one rfl (by omega) (by omega) ?_
      intro u' h5 ou nu e5 nlu hu
      have bC5 := bC4.ext e5
      have bD5 := bD4.ext e5
      simp [bC5.hc, bD5.hc]
      refine ef_bslice_all rfl rfl rfl ?_ (by omega)
      intro G h6 gG bG e6 oG
      have bC6 := bC5.ext e6
      simp [bC6.hc]
      have y6 := ((eD.trans e4).trans e5).trans e6
      refine ef_append3 rfl (o3.ext' y6) bG rfl rfl (by simp) (by omega) (by omega) ?_
      intro s3' h7 o7 m7 hs7
      have o7 : Own h7 3 s3' (cells3 ((P ++ [(nthB N.ts i, u')]).map tabP)) := by simpa [tabP] using o7
      have zD := eD.size
      have z4 := e4.size
      have z5 := e5.size
      have z6 := e6.size
      have z7 := m7.size
      have lu5 := ou.lt nlu
      have lE := oE.lt rfl
      have lE' : E < h4.size := lE
      have l3 : s3.nl = false → s3.b < h2.size := fun hn => o3.lt hn
      have hs7' : s3'.nl = false → (s3.nl = false ∧ s3'.b = s3.b) ∨ h6.size ≤ s3'.b := by
        intro hn
        rcases hs7 with ⟨q1, q2⟩ | ⟨q1, q2⟩
        · exact .inl ⟨by rw [← q2, hn], q1⟩
        · exact .inr q1
      have hs3' : s3'.nl = true ∨ hZ.size ≤ s3'.b := by
        cases hn : s3'.nl with
        | true => exact .inl rfl
        | false =>
          right
          rcases hs7' hn with ⟨q, e⟩ | q
          · have := hs3.resolve_left (by rw [q]; simp); omega
          · omega
      have hC3 : s3.nl = false → C ≠ s3.b := fun hn => by have := hs3.resolve_left (by rw [hn]; simp); omega
      have bC7 := m7.blk bC6 (fun hj => hC3 hj.1 hj.2)
      simp
      refine stB bC7 (by simp) ?_
      intro h8 bC8 m8
      simp at bC8
      have z8 := m8.size
      have hC8 : s3'.nl = false → C ≠ s3'.b := fun hn => by have := hs3'.resolve_left (by rw [hn]; simp); omega
      have o8 := o7.mod m8 (fun hn hj => hC8 hn hj.symm)
      simp [w1]
      have hu5 : h2.size ≤ u'.b := by rcases hu with q | q <;> omega
      have e78 : Mod (fun j => j = C ∨ (s3.nl = false ∧ j = s3.b)) h2 h8 :=
        ((y6.mono fun _ _ h => h.elim).trans (m7.mono fun _ _ h => .inr h)).trans (m8.mono fun _ _ h => .inl h)
      refine ⟨⟨i + 1, s3', P ++ [(nthB N.ts i, u')], _, _, rfl, by omega, bC8, o8, ?_, ?_, ?_, hs3', ?_⟩, by simp [argI]; omega⟩
      · rw [List.map_append, hP, List.take_succ_eq_append_getElem (by omega), nthB_eq (by omega)]
        rfl
      · rw [List.pairwise_append]
        refine ⟨hpw, List.pairwise_singleton .., fun p hp q hq => ?_⟩
        simp only [List.mem_singleton] at hq
        subst hq
        have := (hrow p hp).2.2.2
        show p.2.b ≠ u'.b
        omega
      · intro p hp
        rcases List.mem_append.1 hp with g | g
        · obtain ⟨⟨g1, g0⟩, g2, g3, g4⟩ := hrow p g
          refine ⟨⟨g1.mod e78 (fun _ hj => ?_), g0⟩, g2, fun hn => ?_, by omega⟩
          · rcases hj with hj | ⟨q, hj⟩
            · omega
            · exact g3 q hj
          · rcases hs7' hn with ⟨q, e⟩ | q
            · rw [e]; exact g3 q
            · omega
        · simp only [List.mem_singleton] at g
          subst g
          have hu8 := (((ou.ext' e6).mod m7 (fun _ hj => by have := l3 hj.1; omega)).mod m8 (fun _ hj => by omega))
          refine ⟨⟨hu8, nlu⟩, show hZ.size ≤ u'.b by omega, fun hn => ?_, show u'.b < h8.size by omega⟩
          show u'.b ≠ s3'.b
          rcases hs7' hn with ⟨q, e⟩ | q
          · have := l3 q; omega
          · omega
      · refine (m2.then e78 (fun j hj q => ?_))
        rcases q with q | ⟨q, e⟩
        · exact q
        · have := hs3.resolve_left (by rw [q]; simp); omega
    have c' : ¬ (i : Int) < st.n := by omega
    obtain rfl : i = st.n := by omega
    rw [List.take_of_length_le (by omega)] at hP
    simp [bA2.hc, c', rd_blk bC2]
    refine ef_store_box (bB.ext x2) rfl rfl (by simp) ?_
    intro h9 b9 m9
    simp
    refine resP_x rfl b9 rfl ?_
    refine hr h9 s1 s2 s3 P (Mod.ext (x0.trans x2) m9 (fun j hj => by omega)) ((o1.mod m2 (fun _ hj => by omega)).mod m9 (fun _ hj => by omega)) ((o2.mod m2 (fun _ hj => by omega)).mod m9 (fun _ hj => by omega))
      (o3.mod m9 (fun hn hj => by have := hs3.resolve_left (by rw [hn]; simp); omega)) hP hpw (fun p hp => ?_) (by omega) (by omega) d12 (fun hn => ?_)
    · obtain ⟨⟨g1, g0⟩, g2, g3, g4⟩ := hrow p hp
      exact ⟨⟨g1.mod m9 (fun _ hj => by omega), g0⟩, by omega, by omega, by omega, g3⟩
    · have := hs3.resolve_left (by rw [hn]; simp)
      omega
  simp only [S_rref6_CopyNet, Stmt.rest] at cont
  simp [bA.hc]
  refine ⟨?_, ?_⟩
  · refine ef_bslice0_box ?_
    intro b0 k0 g0 o0 e0
    have c_k0 : ∀ g, Ext g hR → Ext g k0 := fun g e => Mod.trans e e0
    have l0 : b0 < k0.size := o0.lt rfl
    simp (config := { maxDischargeDepth := 60 }) [bA.sk, bA.rk, c_k0]
    refine ⟨?_, ?_⟩
    · refine ef_appendE (o0.ext' (Mod.refl _)) lenV_slv (srcOf_row3 (r.rv.ext (x0.trans e0))) (by rw [cells3_len, List.length_map, lv]) cells3_one rfl (by omega) (by omega) ?_
      intro sv_ k1 pv nv e1 nlv hsv
      have c_k1 : ∀ g, Ext g k0 → Ext g k1 := fun g e => Mod.trans e e1
      have l1 := pv.lt nlv
      have z1 := e1.size
      simp (config := { maxDischargeDepth := 60 }) [bA.sk, bA.rk, c_k0, c_k1]
      refine ⟨?_, ?_⟩
      · refine ef_bslice0_box ?_
        intro b2 k2 g2 o2 e2
        have c_k2 : ∀ g, Ext g k1 → Ext g k2 := fun g e => Mod.trans e e2
        have l2 : b2 < k2.size := o2.lt rfl
        simp (config := { maxDischargeDepth := 60 }) [bA.sk, bA.rk, c_k0, c_k1, c_k2]
        refine ⟨?_, ?_⟩
        · refine ef_appendE (o2.ext' (Mod.refl _)) lenV_slv (srcOf_row3 (r.ra.ext (x0.trans ((e0.trans e1).trans e2)))) (by rw [cells3_len, List.length_map, la]) cells3_one rfl (by omega) (by omega) ?_
          intro sa_ k3 pa na e3 nla hsa
          have c_k3 : ∀ g, Ext g k2 → Ext g k3 := fun g e => Mod.trans e e3
          have l3 := pa.lt nla
          have z3 := e3.size
          simp (config := { maxDischargeDepth := 60 }) [bA.sk, bA.rk, c_k0, c_k1, c_k2, c_k3]
          refine ef_new_box ?_
          intro C k4 gC bC e4
          have c_k4 : ∀ g, Ext g k3 → Ext g k4 := fun g e => Mod.trans e e4
          have lC := bC.lt
          simp (config := { maxDischargeDepth := 60 }) [bA.sk, bA.rk, c_k0, c_k1, c_k2, c_k3, c_k4]
          refine ef_store_box (bC.ext (Mod.refl _)) rfl rfl (by simp) ?_
          intro hZ bZ mZ
          simp [-SeqK_ap]
          rw [SeqK_ap]
          have zz5_0 := e0.size
          have zz5_1 := e1.size
          have zz5_2 := e2.size
          have zz5_3 := e3.size
          have zz5_4 := e4.size
          exact cont C hZ sv_ sa_ (Mod.ext ((((e0.trans e1).trans e2).trans e3).trans e4) mZ (fun j hj => by omega)) bZ ((pv.ext' ((e2.trans e3).trans e4)).mod mZ (fun _ hj => by omega)) ((pa.ext' e4).mod mZ (fun _ hj => by omega)) (by omega) (by omega) (by omega) nlv nla (by omega) (by omega) (by omega)
        · refine ef_new_box ?_
          intro C k3 gC bC e3
          have c_k3 : ∀ g, Ext g k2 → Ext g k3 := fun g e => Mod.trans e e3
          have lC := bC.lt
          simp (config := { maxDischargeDepth := 60 }) [bA.sk, bA.rk, c_k0, c_k1, c_k2, c_k3]
          refine ef_appendE (o2.ext' e3) lenV_slv (srcOf_row3 (r.ra.ext (x0.trans (((e0.trans e1).trans e2).trans e3)))) (by rw [cells3_len, List.length_map, la]) cells3_one rfl (by omega) (by omega) ?_
          intro sa_ k4 pa na e4 nla hsa
          have c_k4 : ∀ g, Ext g k3 → Ext g k4 := fun g e => Mod.trans e e4
          have l4 := pa.lt nla
          have z4 := e4.size
          simp (config := { maxDischargeDepth := 60 }) [bA.sk, bA.rk, c_k0, c_k1, c_k2, c_k3, c_k4]
          refine ef_store_box (bC.ext e4) rfl rfl (by simp) ?_
          intro hZ bZ mZ
          simp [-SeqK_ap]
          rw [SeqK_ap]
          have zz5_0 := e0.size
          have zz5_1 := e1.size
          have zz5_2 := e2.size
          have zz5_3 := e3.size
          have zz5_4 := e4.size
          exact cont C hZ sv_ sa_ (Mod.ext ((((e0.trans e1).trans e2).trans e3).trans e4) mZ (fun j hj => by omega)) bZ ((pv.ext' ((e2.trans e3).trans e4)).mod mZ (fun _ hj => by omega)) ((pa.ext' (Mod.refl _)).mod mZ (fun _ hj => by omega)) (by omega) (by omega) (by omega) nlv nla (by omega) (by omega) (by omega)
      · refine ef_new_box ?_
        intro C k2 gC bC e2
        have c_k2 : ∀ g, Ext g k1 → Ext g k2 := fun g e => Mod.trans e e2
        have lC := bC.lt
        simp (config := { maxDischargeDepth := 60 }) [bA.sk, bA.rk, c_k0, c_k1, c_k2]
        refine ef_bslice0_box ?_
        intro b3 k3 g3 o3 e3
        have c_k3 : ∀ g, Ext g k2 → Ext g k3 := fun g e => Mod.trans e e3
        have l3 : b3 < k3.size := o3.lt rfl
        simp (config := { maxDischargeDepth := 60 }) [bA.sk, bA.rk, c_k0, c_k1, c_k2, c_k3]
        refine ef_appendE (o3.ext' (Mod.refl _)) lenV_slv (srcOf_row3 (r.ra.ext (x0.trans (((e0.trans e1).trans e2).trans e3)))) (by rw [cells3_len, List.length_map, la]) cells3_one rfl (by omega) (by omega) ?_
        intro sa_ k4 pa na e4 nla hsa
        have c_k4 : ∀ g, Ext g k3 → Ext g k4 := fun g e => Mod.trans e e4
        have l4 := pa.lt nla
        have z4 := e4.size
        simp (config := { maxDischargeDepth := 60 }) [bA.sk, bA.rk, c_k0, c_k1, c_k2, c_k3, c_k4]
        refine ef_store_box (bC.ext (e3.trans e4)) rfl rfl (by simp) ?_
        intro hZ bZ mZ
        simp [-SeqK_ap]
        rw [SeqK_ap]
        have zz5_0 := e0.size
        have zz5_1 := e1.size
        have zz5_2 := e2.size
        have zz5_3 := e3.size
        have zz5_4 := e4.size
        exact cont C hZ sv_ sa_ (Mod.ext ((((e0.trans e1).trans e2).trans e3).trans e4) mZ (fun j hj => by omega)) bZ ((pv.ext' ((e2.trans e3).trans e4)).mod mZ (fun _ hj => by omega)) ((pa.ext' (Mod.refl _)).mod mZ (fun _ hj => by omega)) (by omega) (by omega) (by omega) nlv nla (by omega) (by omega) (by omega)
    · refine ⟨?_, ?_⟩
      · refine ef_bslice0_box ?_
        intro b1 k1 g1 o1 e1
        have c_k1 : ∀ g, Ext g k0 → Ext g k1 := fun g e => Mod.trans e e1
        have l1 : b1 < k1.size := o1.lt rfl
        simp (config := { maxDischargeDepth := 60 }) [bA.sk, bA.rk, c_k0, c_k1]
        refine ⟨?_, ?_⟩
        · refine ef_appendE (o0.ext' e1) lenV_slv (srcOf_row3 (r.rv.ext (x0.trans (e0.trans e1)))) (by rw [cells3_len, List.length_map, lv]) cells3_one rfl (by omega) (by omega) ?_
          intro sv_ k2 pv nv e2 nlv hsv
          have c_k2 : ∀ g, Ext g k1 → Ext g k2 := fun g e => Mod.trans e e2
          have l2 := pv.lt nlv
          have z2 := e2.size
          simp (config := { maxDischargeDepth := 60 }) [bA.sk, bA.rk, c_k0, c_k1, c_k2]
          refine ⟨?_, ?_⟩
          · refine ef_appendE (o1.ext' e2) lenV_slv (srcOf_row3 (r.ra.ext (x0.trans ((e0.trans e1).trans e2)))) (by rw [cells3_len, List.length_map, la]) cells3_one rfl (by omega) (by omega) ?_
            intro sa_ k3 pa na e3 nla hsa
            have c_k3 : ∀ g, Ext g k2 → Ext g k3 := fun g e => Mod.trans e e3
            have l3 := pa.lt nla
            have z3 := e3.size
            simp (config := { maxDischargeDepth := 60 }) [bA.sk, bA.rk, c_k0, c_k1, c_k2, c_k3]
            refine ef_new_box ?_
            intro C k4 gC bC e4
            have c_k4 : ∀ g, Ext g k3 → Ext g k4 := fun g e => Mod.trans e e4
            have lC := bC.lt
            simp (config := { maxDischargeDepth := 60 }) [bA.sk, bA.rk, c_k0, c_k1, c_k2, c_k3, c_k4]
            refine ef_store_box (bC.ext (Mod.refl _)) rfl rfl (by simp) ?_
            intro hZ bZ mZ
            simp [-SeqK_ap]
            rw [SeqK_ap]
            have zz5_0 := e0.size
            have zz5_1 := e1.size
            have zz5_2 := e2.size
            have zz5_3 := e3.size
            have zz5_4 := e4.size
            exact cont C hZ sv_ sa_ (Mod.ext ((((e0.trans e1).trans e2).trans e3).trans e4) mZ (fun j hj => by omega)) bZ ((pv.ext' (e3.trans e4)).mod mZ (fun _ hj => by omega)) ((pa.ext' e4).mod mZ (fun _ hj => by omega)) (by omega) (by omega) (by omega) nlv nla (by omega) (by omega) (by omega)
          · refine ef_new_box ?_
            intro C k3 gC bC e3
            have c_k3 : ∀ g, Ext g k2 → Ext g k3 := fun g e => Mod.trans e e3
            have lC := bC.lt
            simp (config := { maxDischargeDepth := 60 }) [bA.sk, bA.rk, c_k0, c_k1, c_k2, c_k3]
            refine ef_appendE (o1.ext' (e2.trans e3)) lenV_slv (srcOf_row3 (r.ra.ext (x0.trans (((e0.trans e1).trans e2).trans e3)))) (by rw [cells3_len, List.length_map, la]) cells3_one rfl (by omega) (by omega) ?_
            intro sa_ k4 pa na e4 nla hsa
            have c_k4 : ∀ g, Ext g k3 → Ext g k4 := fun g e => Mod.trans e e4
            have l4 := pa.lt nla
            have z4 := e4.size
            simp (config := { maxDischargeDepth := 60 }) [bA.sk, bA.rk, c_k0, c_k1, c_k2, c_k3, c_k4]
            refine ef_store_box (bC.ext e4) rfl rfl (by simp) ?_
            intro hZ bZ mZ
            simp [-SeqK_ap]
            rw [SeqK_ap]
            have zz5_0 := e0.size
            have zz5_1 := e1.size
            have zz5_2 := e2.size
            have zz5_3 := e3.size
            have zz5_4 := e4.size
            exact cont C hZ sv_ sa_ (Mod.ext ((((e0.trans e1).trans e2).trans e3).trans e4) mZ (fun j hj => by omega)) bZ ((pv.ext' (e3.trans e4)).mod mZ (fun _ hj => by omega)) ((pa.ext' (Mod.refl _)).mod mZ (fun _ hj => by omega)) (by omega) (by omega) (by omega) nlv nla (by omega) (by omega) (by omega)
        · refine ef_new_box ?_
          intro C k2 gC bC e2
          have c_k2 : ∀ g, Ext g k1 → Ext g k2 := fun g e => Mod.trans e e2
          have lC := bC.lt
          simp (config := { maxDischargeDepth := 60 }) [bA.sk, bA.rk, c_k0, c_k1, c_k2]
          refine ef_appendE (o0.ext' (e1.trans e2)) lenV_slv (srcOf_row3 (r.rv.ext (x0.trans ((e0.trans e1).trans e2)))) (by rw [cells3_len, List.length_map, lv]) cells3_one rfl (by omega) (by omega) ?_
          intro sv_ k3 pv nv e3 nlv hsv
          have c_k3 : ∀ g, Ext g k2 → Ext g k3 := fun g e => Mod.trans e e3
          have l3 := pv.lt nlv
          have z3 := e3.size
          simp (config := { maxDischargeDepth := 60 }) [bA.sk, bA.rk, c_k0, c_k1, c_k2, c_k3]
          refine ef_appendE (o1.ext' (e2.trans e3)) lenV_slv (srcOf_row3 (r.ra.ext (x0.trans (((e0.trans e1).trans e2).trans e3)))) (by rw [cells3_len, List.length_map, la]) cells3_one rfl (by omega) (by omega) ?_
          intro sa_ k4 pa na e4 nla hsa
          have c_k4 : ∀ g, Ext g k3 → Ext g k4 := fun g e => Mod.trans e e4
          have l4 := pa.lt nla
          have z4 := e4.size
          simp (config := { maxDischargeDepth := 60 }) [bA.sk, bA.rk, c_k0, c_k1, c_k2, c_k3, c_k4]
          refine ef_store_box (bC.ext (e3.trans e4)) rfl rfl (by simp) ?_
          intro hZ bZ mZ
          simp [-SeqK_ap]
          rw [SeqK_ap]
          have zz5_0 := e0.size
          have zz5_1 := e1.size
          have zz5_2 := e2.size
          have zz5_3 := e3.size
          have zz5_4 := e4.size
          exact cont C hZ sv_ sa_ (Mod.ext ((((e0.trans e1).trans e2).trans e3).trans e4) mZ (fun j hj => by omega)) bZ ((pv.ext' e4).mod mZ (fun _ hj => by omega)) ((pa.ext' (Mod.refl _)).mod mZ (fun _ hj => by omega)) (by omega) (by omega) (by omega) nlv nla (by omega) (by omega) (by omega)
      · refine ef_new_box ?_
        intro C k1 gC bC e1
        have c_k1 : ∀ g, Ext g k0 → Ext g k1 := fun g e => Mod.trans e e1
        have lC := bC.lt
        simp (config := { maxDischargeDepth := 60 }) [bA.sk, bA.rk, c_k0, c_k1]
        refine ⟨?_, ?_⟩
        · refine ef_appendE (o0.ext' e1) lenV_slv (srcOf_row3 (r.rv.ext (x0.trans (e0.trans e1)))) (by rw [cells3_len, List.length_map, lv]) cells3_one rfl (by omega) (by omega) ?_
          intro sv_ k2 pv nv e2 nlv hsv
          have c_k2 : ∀ g, Ext g k1 → Ext g k2 := fun g e => Mod.trans e e2
          have l2 := pv.lt nlv
          have z2 := e2.size
          simp (config := { maxDischargeDepth := 60 }) [bA.sk, bA.rk, c_k0, c_k1, c_k2]
          refine ef_bslice0_box ?_
          intro b3 k3 g3 o3 e3
          have c_k3 : ∀ g, Ext g k2 → Ext g k3 := fun g e => Mod.trans e e3
          have l3 : b3 < k3.size := o3.lt rfl
          simp (config := { maxDischargeDepth := 60 }) [bA.sk, bA.rk, c_k0, c_k1, c_k2, c_k3]
          refine ef_appendE (o3.ext' (Mod.refl _)) lenV_slv (srcOf_row3 (r.ra.ext (x0.trans (((e0.trans e1).trans e2).trans e3)))) (by rw [cells3_len, List.length_map, la]) cells3_one rfl (by omega) (by omega) ?_
          intro sa_ k4 pa na e4 nla hsa
          have c_k4 : ∀ g, Ext g k3 → Ext g k4 := fun g e => Mod.trans e e4
          have l4 := pa.lt nla
          have z4 := e4.size
          simp (config := { maxDischargeDepth := 60 }) [bA.sk, bA.rk, c_k0, c_k1, c_k2, c_k3, c_k4]
          refine ef_store_box (bC.ext ((e2.trans e3).trans e4)) rfl rfl (by simp) ?_
          intro hZ bZ mZ
          simp [-SeqK_ap]
          rw [SeqK_ap]
          have zz5_0 := e0.size
          have zz5_1 := e1.size
          have zz5_2 := e2.size
          have zz5_3 := e3.size
          have zz5_4 := e4.size
          exact cont C hZ sv_ sa_ (Mod.ext ((((e0.trans e1).trans e2).trans e3).trans e4) mZ (fun j hj => by omega)) bZ ((pv.ext' (e3.trans e4)).mod mZ (fun _ hj => by omega)) ((pa.ext' (Mod.refl _)).mod mZ (fun _ hj => by omega)) (by omega) (by omega) (by omega) nlv nla (by omega) (by omega) (by omega)
        · refine ef_bslice0_box ?_
          intro b2 k2 g2 o2 e2
          have c_k2 : ∀ g, Ext g k1 → Ext g k2 := fun g e => Mod.trans e e2
          have l2 : b2 < k2.size := o2.lt rfl
          simp (config := { maxDischargeDepth := 60 }) [bA.sk, bA.rk, c_k0, c_k1, c_k2]
          refine ef_appendE (o0.ext' (e1.trans e2)) lenV_slv (srcOf_row3 (r.rv.ext (x0.trans ((e0.trans e1).trans e2)))) (by rw [cells3_len, List.length_map, lv]) cells3_one rfl (by omega) (by omega) ?_
          intro sv_ k3 pv nv e3 nlv hsv
          have c_k3 : ∀ g, Ext g k2 → Ext g k3 := fun g e => Mod.trans e e3
          have l3 := pv.lt nlv
          have z3 := e3.size
          simp (config := { maxDischargeDepth := 60 }) [bA.sk, bA.rk, c_k0, c_k1, c_k2, c_k3]
          refine ef_appendE (o2.ext' e3) lenV_slv (srcOf_row3 (r.ra.ext (x0.trans (((e0.trans e1).trans e2).trans e3)))) (by rw [cells3_len, List.length_map, la]) cells3_one rfl (by omega) (by omega) ?_
          intro sa_ k4 pa na e4 nla hsa
          have c_k4 : ∀ g, Ext g k3 → Ext g k4 := fun g e => Mod.trans e e4
          have l4 := pa.lt nla
          have z4 := e4.size
          simp (config := { maxDischargeDepth := 60 }) [bA.sk, bA.rk, c_k0, c_k1, c_k2, c_k3, c_k4]
          refine ef_store_box (bC.ext ((e2.trans e3).trans e4)) rfl rfl (by simp) ?_
          intro hZ bZ mZ
          simp [-SeqK_ap]
          rw [SeqK_ap]
          have zz5_0 := e0.size
          have zz5_1 := e1.size
          have zz5_2 := e2.size
          have zz5_3 := e3.size
          have zz5_4 := e4.size
          exact cont C hZ sv_ sa_ (Mod.ext ((((e0.trans e1).trans e2).trans e3).trans e4) mZ (fun j hj => by omega)) bZ ((pv.ext' e4).mod mZ (fun _ hj => by omega)) ((pa.ext' (Mod.refl _)).mod mZ (fun _ hj => by omega)) (by omega) (by omega) (by omega) nlv nla (by omega) (by omega) (by omega)
  · refine ⟨?_, ?_⟩
    · refine ef_bslice0_box ?_
      intro b0 k0 g0 o0 e0
      have c_k0 : ∀ g, Ext g hR → Ext g k0 := fun g e => Mod.trans e e0
      have l0 : b0 < k0.size := o0.lt rfl
      simp (config := { maxDischargeDepth := 60 }) [bA.sk, bA.rk, c_k0]
      refine ⟨?_, ?_⟩
      · refine ef_bslice0_box ?_
        intro b1 k1 g1 o1 e1
        have c_k1 : ∀ g, Ext g k0 → Ext g k1 := fun g e => Mod.trans e e1
        have l1 : b1 < k1.size := o1.lt rfl
        simp (config := { maxDischargeDepth := 60 }) [bA.sk, bA.rk, c_k0, c_k1]
        refine ⟨?_, ?_⟩
        · refine ef_appendE (o1.ext' (Mod.refl _)) lenV_slv (srcOf_row3 (r.rv.ext (x0.trans (e0.trans e1)))) (by rw [cells3_len, List.length_map, lv]) cells3_one rfl (by omega) (by omega) ?_
          intro sv_ k2 pv nv e2 nlv hsv
          have c_k2 : ∀ g, Ext g k1 → Ext g k2 := fun g e => Mod.trans e e2
          have l2 := pv.lt nlv
          have z2 := e2.size
          simp (config := { maxDischargeDepth := 60 }) [bA.sk, bA.rk, c_k0, c_k1, c_k2]
          refine ⟨?_, ?_⟩
          · refine ef_appendE (o0.ext' (e1.trans e2)) lenV_slv (srcOf_row3 (r.ra.ext (x0.trans ((e0.trans e1).trans e2)))) (by rw [cells3_len, List.length_map, la]) cells3_one rfl (by omega) (by omega) ?_
            intro sa_ k3 pa na e3 nla hsa
            have c_k3 : ∀ g, Ext g k2 → Ext g k3 := fun g e => Mod.trans e e3
            have l3 := pa.lt nla
            have z3 := e3.size
            simp (config := { maxDischargeDepth := 60 }) [bA.sk, bA.rk, c_k0, c_k1, c_k2, c_k3]
            refine ef_new_box ?_
            intro C k4 gC bC e4
            have c_k4 : ∀ g, Ext g k3 → Ext g k4 := fun g e => Mod.trans e e4
            have lC := bC.lt
            simp (config := { maxDischargeDepth := 60 }) [bA.sk, bA.rk, c_k0, c_k1, c_k2, c_k3, c_k4]
            refine ef_store_box (bC.ext (Mod.refl _)) rfl rfl (by simp) ?_
            intro hZ bZ mZ
            simp [-SeqK_ap]
            rw [SeqK_ap]
            have zz5_0 := e0.size
            have zz5_1 := e1.size
            have zz5_2 := e2.size
            have zz5_3 := e3.size
            have zz5_4 := e4.size
            exact cont C hZ sv_ sa_ (Mod.ext ((((e0.trans e1).trans e2).trans e3).trans e4) mZ (fun j hj => by omega)) bZ ((pv.ext' (e3.trans e4)).mod mZ (fun _ hj => by omega)) ((pa.ext' e4).mod mZ (fun _ hj => by omega)) (by omega) (by omega) (by omega) nlv nla (by omega) (by omega) (by omega)
          · refine ef_new_box ?_
            intro C k3 gC bC e3
            have c_k3 : ∀ g, Ext g k2 → Ext g k3 := fun g e => Mod.trans e e3
            have lC := bC.lt
            simp (config := { maxDischargeDepth := 60 }) [bA.sk, bA.rk, c_k0, c_k1, c_k2, c_k3]
            refine ef_appendE (o0.ext' ((e1.trans e2).trans e3)) lenV_slv (srcOf_row3 (r.ra.ext (x0.trans (((e0.trans e1).trans e2).trans e3)))) (by rw [cells3_len, List.length_map, la]) cells3_one rfl (by omega) (by omega) ?_
            intro sa_ k4 pa na e4 nla hsa
            have c_k4 : ∀ g, Ext g k3 → Ext g k4 := fun g e => Mod.trans e e4
            have l4 := pa.lt nla
            have z4 := e4.size
            simp (config := { maxDischargeDepth := 60 }) [bA.sk, bA.rk, c_k0, c_k1, c_k2, c_k3, c_k4]
            refine ef_store_box (bC.ext e4) rfl rfl (by simp) ?_
            intro hZ bZ mZ
            simp [-SeqK_ap]
            rw [SeqK_ap]
            have zz5_0 := e0.size
            have zz5_1 := e1.size
            have zz5_2 := e2.size
            have zz5_3 := e3.size
            have zz5_4 := e4.size
            exact cont C hZ sv_ sa_ (Mod.ext ((((e0.trans e1).trans e2).trans e3).trans e4) mZ (fun j hj => by omega)) bZ ((pv.ext' (e3.trans e4)).mod mZ (fun _ hj => by omega)) ((pa.ext' (Mod.refl _)).mod mZ (fun _ hj => by omega)) (by omega) (by omega) (by omega) nlv nla (by omega) (by omega) (by omega)
        · refine ef_new_box ?_
          intro C k2 gC bC e2
          have c_k2 : ∀ g, Ext g k1 → Ext g k2 := fun g e => Mod.trans e e2
          have lC := bC.lt
          simp (config := { maxDischargeDepth := 60 }) [bA.sk, bA.rk, c_k0, c_k1, c_k2]
          refine ef_appendE (o1.ext' e2) lenV_slv (srcOf_row3 (r.rv.ext (x0.trans ((e0.trans e1).trans e2)))) (by rw [cells3_len, List.length_map, lv]) cells3_one rfl (by omega) (by omega) ?_
          intro sv_ k3 pv nv e3 nlv hsv
          have c_k3 : ∀ g, Ext g k2 → Ext g k3 := fun g e => Mod.trans e e3
          have l3 := pv.lt nlv
          have z3 := e3.size
          simp (config := { maxDischargeDepth := 60 }) [bA.sk, bA.rk, c_k0, c_k1, c_k2, c_k3]
          refine ef_appendE (o0.ext' ((e1.trans e2).trans e3)) lenV_slv (srcOf_row3 (r.ra.ext (x0.trans (((e0.trans e1).trans e2).trans e3)))) (by rw [cells3_len, List.length_map, la]) cells3_one rfl (by omega) (by omega) ?_
          intro sa_ k4 pa na e4 nla hsa
          have c_k4 : ∀ g, Ext g k3 → Ext g k4 := fun g e => Mod.trans e e4
          have l4 := pa.lt nla
          have z4 := e4.size
          simp (config := { maxDischargeDepth := 60 }) [bA.sk, bA.rk, c_k0, c_k1, c_k2, c_k3, c_k4]
          refine ef_store_box (bC.ext (e3.trans e4)) rfl rfl (by simp) ?_
          intro hZ bZ mZ
          simp [-SeqK_ap]
          rw [SeqK_ap]
          have zz5_0 := e0.size
          have zz5_1 := e1.size
          have zz5_2 := e2.size
          have zz5_3 := e3.size
          have zz5_4 := e4.size
          exact cont C hZ sv_ sa_ (Mod.ext ((((e0.trans e1).trans e2).trans e3).trans e4) mZ (fun j hj => by omega)) bZ ((pv.ext' e4).mod mZ (fun _ hj => by omega)) ((pa.ext' (Mod.refl _)).mod mZ (fun _ hj => by omega)) (by omega) (by omega) (by omega) nlv nla (by omega) (by omega) (by omega)
      · refine ef_new_box ?_
        intro C k1 gC bC e1
        have c_k1 : ∀ g, Ext g k0 → Ext g k1 := fun g e => Mod.trans e e1
        have lC := bC.lt
        simp (config := { maxDischargeDepth := 60 }) [bA.sk, bA.rk, c_k0, c_k1]
        refine ef_bslice0_box ?_
        intro b2 k2 g2 o2 e2
        have c_k2 : ∀ g, Ext g k1 → Ext g k2 := fun g e => Mod.trans e e2
        have l2 : b2 < k2.size := o2.lt rfl
        simp (config := { maxDischargeDepth := 60 }) [bA.sk, bA.rk, c_k0, c_k1, c_k2]
        refine ef_appendE (o2.ext' (Mod.refl _)) lenV_slv (srcOf_row3 (r.rv.ext (x0.trans ((e0.trans e1).trans e2)))) (by rw [cells3_len, List.length_map, lv]) cells3_one rfl (by omega) (by omega) ?_
        intro sv_ k3 pv nv e3 nlv hsv
        have c_k3 : ∀ g, Ext g k2 → Ext g k3 := fun g e => Mod.trans e e3
        have l3 := pv.lt nlv
        have z3 := e3.size
        simp (config := { maxDischargeDepth := 60 }) [bA.sk, bA.rk, c_k0, c_k1, c_k2, c_k3]
        refine ef_appendE (o0.ext' ((e1.trans e2).trans e3)) lenV_slv (srcOf_row3 (r.ra.ext (x0.trans (((e0.trans e1).trans e2).trans e3)))) (by rw [cells3_len, List.length_map, la]) cells3_one rfl (by omega) (by omega) ?_
        intro sa_ k4 pa na e4 nla hsa
        have c_k4 : ∀ g, Ext g k3 → Ext g k4 := fun g e => Mod.trans e e4
        have l4 := pa.lt nla
        have z4 := e4.size
        simp (config := { maxDischargeDepth := 60 }) [bA.sk, bA.rk, c_k0, c_k1, c_k2, c_k3, c_k4]
        refine ef_store_box (bC.ext ((e2.trans e3).trans e4)) rfl rfl (by simp) ?_
        intro hZ bZ mZ
        simp [-SeqK_ap]
        rw [SeqK_ap]
        have zz5_0 := e0.size
        have zz5_1 := e1.size
        have zz5_2 := e2.size
        have zz5_3 := e3.size
        have zz5_4 := e4.size
        exact cont C hZ sv_ sa_ (Mod.ext ((((e0.trans e1).trans e2).trans e3).trans e4) mZ (fun j hj => by omega)) bZ ((pv.ext' e4).mod mZ (fun _ hj => by omega)) ((pa.ext' (Mod.refl _)).mod mZ (fun _ hj => by omega)) (by omega) (by omega) (by omega) nlv nla (by omega) (by omega) (by omega)
    · refine ef_new_box ?_
      intro C k0 gC bC e0
      have c_k0 : ∀ g, Ext g hR → Ext g k0 := fun g e => Mod.trans e e0
      have lC := bC.lt
      simp (config := { maxDischargeDepth := 60 }) [bA.sk, bA.rk, c_k0]
      refine ⟨?_, ?_⟩
      · refine ef_bslice0_box ?_
        intro b1 k1 g1 o1 e1
        have c_k1 : ∀ g, Ext g k0 → Ext g k1 := fun g e => Mod.trans e e1
        have l1 : b1 < k1.size := o1.lt rfl
        simp (config := { maxDischargeDepth := 60 }) [bA.sk, bA.rk, c_k0, c_k1]
        refine ⟨?_, ?_⟩
        · refine ef_appendE (o1.ext' (Mod.refl _)) lenV_slv (srcOf_row3 (r.rv.ext (x0.trans (e0.trans e1)))) (by rw [cells3_len, List.length_map, lv]) cells3_one rfl (by omega) (by omega) ?_
          intro sv_ k2 pv nv e2 nlv hsv
          have c_k2 : ∀ g, Ext g k1 → Ext g k2 := fun g e => Mod.trans e e2
          have l2 := pv.lt nlv
          have z2 := e2.size
          simp (config := { maxDischargeDepth := 60 }) [bA.sk, bA.rk, c_k0, c_k1, c_k2]
          refine ef_bslice0_box ?_
          intro b3 k3 g3 o3 e3
          have c_k3 : ∀ g, Ext g k2 → Ext g k3 := fun g e => Mod.trans e e3
          have l3 : b3 < k3.size := o3.lt rfl
          simp (config := { maxDischargeDepth := 60 }) [bA.sk, bA.rk, c_k0, c_k1, c_k2, c_k3]
          refine ef_appendE (o3.ext' (Mod.refl _)) lenV_slv (srcOf_row3 (r.ra.ext (x0.trans (((e0.trans e1).trans e2).trans e3)))) (by rw [cells3_len, List.length_map, la]) cells3_one rfl (by omega) (by omega) ?_
          intro sa_ k4 pa na e4 nla hsa
          have c_k4 : ∀ g, Ext g k3 → Ext g k4 := fun g e => Mod.trans e e4
          have l4 := pa.lt nla
          have z4 := e4.size
          simp (config := { maxDischargeDepth := 60 }) [bA.sk, bA.rk, c_k0, c_k1, c_k2, c_k3, c_k4]
          refine ef_store_box (bC.ext (((e1.trans e2).trans e3).trans e4)) rfl rfl (by simp) ?_
          intro hZ bZ mZ
          simp [-SeqK_ap]
          rw [SeqK_ap]
          have zz5_0 := e0.size
          have zz5_1 := e1.size
          have zz5_2 := e2.size
          have zz5_3 := e3.size
          have zz5_4 := e4.size
          exact cont C hZ sv_ sa_ (Mod.ext ((((e0.trans e1).trans e2).trans e3).trans e4) mZ (fun j hj => by omega)) bZ ((pv.ext' (e3.trans e4)).mod mZ (fun _ hj => by omega)) ((pa.ext' (Mod.refl _)).mod mZ (fun _ hj => by omega)) (by omega) (by omega) (by omega) nlv nla (by omega) (by omega) (by omega)
        · refine ef_bslice0_box ?_
          intro b2 k2 g2 o2 e2
          have c_k2 : ∀ g, Ext g k1 → Ext g k2 := fun g e => Mod.trans e e2
          have l2 : b2 < k2.size := o2.lt rfl
          simp (config := { maxDischargeDepth := 60 }) [bA.sk, bA.rk, c_k0, c_k1, c_k2]
          refine ef_appendE (o1.ext' e2) lenV_slv (srcOf_row3 (r.rv.ext (x0.trans ((e0.trans e1).trans e2)))) (by rw [cells3_len, List.length_map, lv]) cells3_one rfl (by omega) (by omega) ?_
          intro sv_ k3 pv nv e3 nlv hsv
          have c_k3 : ∀ g, Ext g k2 → Ext g k3 := fun g e => Mod.trans e e3
          have l3 := pv.lt nlv
          have z3 := e3.size
          simp (config := { maxDischargeDepth := 60 }) [bA.sk, bA.rk, c_k0, c_k1, c_k2, c_k3]
          refine ef_appendE (o2.ext' e3) lenV_slv (srcOf_row3 (r.ra.ext (x0.trans (((e0.trans e1).trans e2).trans e3)))) (by rw [cells3_len, List.length_map, la]) cells3_one rfl (by omega) (by omega) ?_
          intro sa_ k4 pa na e4 nla hsa
          have c_k4 : ∀ g, Ext g k3 → Ext g k4 := fun g e => Mod.trans e e4
          have l4 := pa.lt nla
          have z4 := e4.size
          simp (config := { maxDischargeDepth := 60 }) [bA.sk, bA.rk, c_k0, c_k1, c_k2, c_k3, c_k4]
          refine ef_store_box (bC.ext (((e1.trans e2).trans e3).trans e4)) rfl rfl (by simp) ?_
          intro hZ bZ mZ
          simp [-SeqK_ap]
          rw [SeqK_ap]
          have zz5_0 := e0.size
          have zz5_1 := e1.size
          have zz5_2 := e2.size
          have zz5_3 := e3.size
          have zz5_4 := e4.size
          exact cont C hZ sv_ sa_ (Mod.ext ((((e0.trans e1).trans e2).trans e3).trans e4) mZ (fun j hj => by omega)) bZ ((pv.ext' e4).mod mZ (fun _ hj => by omega)) ((pa.ext' (Mod.refl _)).mod mZ (fun _ hj => by omega)) (by omega) (by omega) (by omega) nlv nla (by omega) (by omega) (by omega)
      · refine ef_bslice0_box ?_
        intro b1 k1 g1 o1 e1
        have c_k1 : ∀ g, Ext g k0 → Ext g k1 := fun g e => Mod.trans e e1
        have l1 : b1 < k1.size := o1.lt rfl
        simp (config := { maxDischargeDepth := 60 }) [bA.sk, bA.rk, c_k0, c_k1]
        refine ef_bslice0_box ?_
        intro b2 k2 g2 o2 e2
        have c_k2 : ∀ g, Ext g k1 → Ext g k2 := fun g e => Mod.trans e e2
        have l2 : b2 < k2.size := o2.lt rfl
        simp (config := { maxDischargeDepth := 60 }) [bA.sk, bA.rk, c_k0, c_k1, c_k2]
        refine ef_appendE (o2.ext' (Mod.refl _)) lenV_slv (srcOf_row3 (r.rv.ext (x0.trans ((e0.trans e1).trans e2)))) (by rw [cells3_len, List.length_map, lv]) cells3_one rfl (by omega) (by omega) ?_
        intro sv_ k3 pv nv e3 nlv hsv
        have c_k3 : ∀ g, Ext g k2 → Ext g k3 := fun g e => Mod.trans e e3
        have l3 := pv.lt nlv
        have z3 := e3.size
        simp (config := { maxDischargeDepth := 60 }) [bA.sk, bA.rk, c_k0, c_k1, c_k2, c_k3]
        refine ef_appendE (o1.ext' (e2.trans e3)) lenV_slv (srcOf_row3 (r.ra.ext (x0.trans (((e0.trans e1).trans e2).trans e3)))) (by rw [cells3_len, List.length_map, la]) cells3_one rfl (by omega) (by omega) ?_
        intro sa_ k4 pa na e4 nla hsa
        have c_k4 : ∀ g, Ext g k3 → Ext g k4 := fun g e => Mod.trans e e4
        have l4 := pa.lt nla
        have z4 := e4.size
        simp (config := { maxDischargeDepth := 60 }) [bA.sk, bA.rk, c_k0, c_k1, c_k2, c_k3, c_k4]
        refine ef_store_box (bC.ext (((e1.trans e2).trans e3).trans e4)) rfl rfl (by simp) ?_
        intro hZ bZ mZ
        simp [-SeqK_ap]
        rw [SeqK_ap]
        have zz5_0 := e0.size
        have zz5_1 := e1.size
        have zz5_2 := e2.size
        have zz5_3 := e3.size
        have zz5_4 := e4.size
        exact cont C hZ sv_ sa_ (Mod.ext ((((e0.trans e1).trans e2).trans e3).trans e4) mZ (fun j hj => by omega)) bZ ((pv.ext' e4).mod mZ (fun _ hj => by omega)) ((pa.ext' (Mod.refl _)).mod mZ (fun _ hj => by omega)) (by omega) (by omega) (by omega) nlv nla (by omega) (by omega) (by omega)
end
end Go.Rm
