/- The laws of tables of turns: TurnSets. -/
import Derived.Test.YtomdihnecddfjaaDoorRLaw2c
set_option linter.unusedSimpArgs false
set_option linter.unusedVariables false
namespace Go.Rm

def Stmt.tl : Stmt → Stmt
  | .seq _ b => b
  | s => s

theorem badFrom_none : ∀ {l : List Int} {k : Nat}, badFrom k l = none ↔ ∀ j, j < l.length → weightB (nthI l j) = true := by
  intro l
  induction l with
  | nil => intro k; simp [badFrom]
  | cons c r ih =>
    intro k
    simp only [badFrom]
    split
    · rename_i hw
      rw [ih]
      constructor
      · intro h j hj
        cases j with
        | zero => simpa [nthI] using hw
        | succ j => have := h j (by simpa using hj); simpa [nthI] using this
      · intro h j hj
        have := h (j + 1) (by simpa using hj)
        simpa [nthI] using this
    · rename_i hw
      constructor
      · intro h; cases h
      · intro h
        have := h 0 (by simp)
        simp [nthI] at this
        exact absurd this hw

theorem tab_ok_iff {ins outs : Int} {cs : List Int} : (tabW ins outs cs).2 = 0 ↔ (0 ≤ ins ∧ ins ≤ 16 ∧ 0 ≤ outs ∧ outs ≤ 16 ∧ (cs.length : Int) = ins * outs ∧ ∀ j, j < cs.length → weightB (nthI cs j) = true) := by
  constructor
  · intro h
    obtain ⟨a, b, c, d, e, f, _⟩ := tab_ok h
    exact ⟨a, b, c, d, e, badFrom_none.1 f⟩
  · rintro ⟨a, b, c, d, e, f⟩
    have hs : (sidesW ins outs) = wOK := by unfold sidesW; rw [if_neg (by omega), if_neg (by omega)]
    have hb : badFrom 0 cs = none := badFrom_none.2 f
    simp only [tabW, hs, e, hb]
    simp [wOK]

theorem tab_set {ins outs c : Int} {cs : List Int} {p : Nat} (h : (tabW ins outs cs).2 = 0) (hc : weightB c = true) : (tabW ins outs (cs.set p c)).2 = 0 := by
  rw [tab_ok_iff] at h ⊢
  obtain ⟨a, b, c1, d, e, f⟩ := h
  refine ⟨a, b, c1, d, by simpa using e, fun j hj => ?_⟩
  simp at hj
  by_cases hp : p < cs.length
  · rw [nthI_set hp]
    split
    · exact hc
    · exact f j hj
  · rw [List.set_eq_of_length_le (by omega)]
    exact f j hj

theorem place_inj {outs i k i' k' : Int} (h0 : 0 ≤ k) (h1 : k < outs) (h2 : 0 ≤ k') (h3 : k' < outs) (h : i * outs + k = i' * outs + k') : i = i' ∧ k = k' := by
  have ho : outs ≠ 0 := by omega
  have e1 : (k + i * outs) / outs = i := by rw [Int.add_mul_ediv_right _ _ ho, Int.ediv_eq_zero_of_lt h0 h1, Int.zero_add]
  have e2 : (k' + i' * outs) / outs = i' := by rw [Int.add_mul_ediv_right _ _ ho, Int.ediv_eq_zero_of_lt h2 h3, Int.zero_add]
  have e : i = i' := by rw [← e1, ← e2, Int.add_comm k, Int.add_comm k', h]
  subst e
  exact ⟨rfl, by omega⟩

theorem atV_in {ins outs i k : Int} {cs : List Int} (ht : (tabW ins outs cs).2 = 0) (h0 : 0 ≤ i) (h1 : i < ins) (h2 : 0 ≤ k) (h3 : k < outs) : atV ins outs cs i k = nthI cs (i * outs + k).toNat ∧ (i * outs + k).toNat < cs.length ∧ 0 ≤ i * outs + k := by
  obtain ⟨a, b, c, d, e, f, _⟩ := tab_ok ht
  obtain ⟨w1, w2, p0, p1⟩ := place_wrap h0 h1 h2 h3 b d
  have hs : (sidesW ins outs) = wOK := by unfold sidesW; rw [if_neg (by omega), if_neg (by omega)]
  refine ⟨?_, by omega, p0⟩
  unfold atV
  rw [hs, if_neg (by simp [wOK]; omega), if_pos (by omega)]

theorem atV_set {ins outs i k i' k' c : Int} {cs : List Int} (ht : (tabW ins outs cs).2 = 0) (hc : weightB c = true) (h0 : 0 ≤ i) (h1 : i < ins) (h2 : 0 ≤ k) (h3 : k < outs) (g0 : 0 ≤ i') (g1 : i' < ins) (g2 : 0 ≤ k') (g3 : k' < outs) :
    atV ins outs (cs.set (i * outs + k).toNat c) i' k' = if i' = i ∧ k' = k then c else atV ins outs cs i' k' := by
  obtain ⟨a1, a2, a3⟩ := atV_in ht h0 h1 h2 h3
  obtain ⟨b1, b2, b3⟩ := atV_in ht g0 g1 g2 g3
  obtain ⟨c1, c2, c3⟩ := atV_in (tab_set (p := (i * outs + k).toNat) ht hc) g0 g1 g2 g3
  rw [c1, b1, nthI_set a2]
  by_cases h : i' = i ∧ k' = k
  · obtain ⟨rfl, rfl⟩ := h
    simp
  · rw [if_neg h, if_neg]
    intro e
    have : i' * outs + k' = i * outs + k := by omega
    exact h (place_inj g2 g3 h2 h3 this)

theorem with_fine {ins outs i k c : Int} {cs : List Int} (ht : (tabW ins outs cs).2 = 0) (hc : weightB c = true) (h0 : 0 ≤ i) (h1 : i < ins) (h2 : 0 ≤ k) (h3 : k < outs) : (withW ins outs cs i k c).2 = 0 := by
  unfold withW
  rw [if_neg (by omega), if_neg (by omega), if_neg (by rw [hc]; simp)]
  exact ht

section
variable {Y : Sys} {h : Heap}

def SetsI (e0 : List Value) (A N8 N10 : Nat) (was : Nat) (ins outs : Int) (i k c d : Int) (tv : Value) (v9 v11 v12 v13 v17 v18 v19 : Value) (h0 : Heap) (e : List Value) (h' : Heap) : Prop :=
  ∃ (x : Nat) (v15 v16 v20 v21 v22 v23 : Value), e = [tv, .int .i64 i, .int .i64 k, .int .i64 c, .int .i64 d, .pointer (some ⟨A, 0, none⟩), .bool false, .pointer (some ⟨was, 0, none⟩), .pointer (some ⟨N8, 0, none⟩), v9, .pointer (some ⟨N10, 0, none⟩), v11, v12, v13, .int .i64 x, v15, v16, v17, v18, v19, v20, v21, v22, v23] ∧
    (x : Int) ≤ ins ∧ Ext h0 h'
def SetsJ (A N8 N10 : Nat) (was : Nat) (ins outs : Int) (i k c d : Int) (tv : Value) (x : Nat) (v9 v11 v12 v13 v17 v18 v19 v20 : Value) (h0 : Heap) (e : List Value) (h' : Heap) : Prop :=
  ∃ (y : Nat) (v16 v21 v22 v23 : Value), e = [tv, .int .i64 i, .int .i64 k, .int .i64 c, .int .i64 d, .pointer (some ⟨A, 0, none⟩), .bool false, .pointer (some ⟨was, 0, none⟩), .pointer (some ⟨N8, 0, none⟩), v9, .pointer (some ⟨N10, 0, none⟩), v11, v12, v13, .int .i64 x, .int .i64 y, v16, v17, v18, v19, v20, v21, v22, v23] ∧
    (y : Int) ≤ outs ∧ Ext h0 h'

set_option maxHeartbeats 600000 in
theorem sets_spec (HM : Y.Has F.rlaw2_TurnSets S_rlaw2_TurnSets) (HK : Y.Has F.rlaw2_known S_rlaw2_known) (HTo : Y.Has F.rlaw2_To S_rlaw2_To) (T : TurnAll Y) (RT : RefAll Y) (HT : Y.Has F.rlaw1_Tells S_rlaw1_Tells) (E : ErrSys Y)
    (hg : hc h E.gb 0 = some E.hv) {ins outs i k c d : Int} {s : Sl} {cs : List Int} (r : Row64 h s cs) {R : Value → Heap → Prop} (hr : ∀ h', Ext h h' → R (.bool true) h') :
    CallP Y F.rlaw2_TurnSets [tabV ins outs s, .int .i64 i, .int .i64 k, .int .i64 c, .int .i64 d] h R := by
  have T' := T.toTurnFns
  have R' := RT.toRefTab
  refine .of_has HM rfl ?_
  -- behind the tables: the last part
  have cont : ∀ (h5 : Heap) (A W7 N8 N10 N12 : Nat) (s7 s8 s10 s12 : Sl) (v17 v18 : Value), Ext h h5 → (tabW ins outs cs).2 = 0 → weightB c = true → weightB d = true → 0 ≤ i → i < ins → 0 ≤ k → k < outs → s.n ≤ 300 →
      Blk h5 A #[.int .i64 ins, .int .i64 outs, s.v] → Blk h5 W7 #[.int .i64 ins, .int .i64 outs, s7.v] → Blk h5 N8 #[.int .i64 ins, .int .i64 outs, s8.v] → Blk h5 N10 #[.int .i64 ins, .int .i64 outs, s10.v] → Blk h5 N12 #[.int .i64 ins, .int .i64 outs, s12.v] →
      Row64 h5 s7 cs → Row64 h5 s8 (cs.set (i * outs + k).toNat c) → Row64 h5 s10 ((cs.set (i * outs + k).toNat c).set (i * outs + k).toNat d) → Row64 h5 s12 cs →
      Stmt.wp Y S_rlaw2_TurnSets.body.tl.tl.tl.tl.tl.tl.tl (resP [.n 6] R) (fun _ _ _ => False) (resP [.n 6] R)
        [tabV ins outs s, .int .i64 i, .int .i64 k, .int .i64 c, .int .i64 d, .pointer (some ⟨A, 0, none⟩), .bool false, .pointer (some ⟨W7, 0, none⟩), .pointer (some ⟨N8, 0, none⟩), .nilIface, .pointer (some ⟨N10, 0, none⟩), .nilIface,
          .pointer (some ⟨N12, 0, none⟩), .nilIface, undef, undef, undef, v17, v18, undef, undef, undef, undef, undef] h5 := by
    intro h5 A W7 N8 N10 N12 s7 s8 s10 s12 v17 v18 x5 ht hc hd i0 i1 k0 k1 hn bA b7 b8 b10 b12 r7 r8 r10 r12
    have hl := r.len
    have n12 : s12.n = s.n := by rw [← r12.len, hl]
    have n7 : s7.n = s.n := by rw [← r7.len, hl]
    simp [S_rlaw2_TurnSets, Stmt.tl, tabV, rd_blk b8]
    refine check_spec T' (s := s8) r8 ?_
    intro v h6 e6 hv
    have := hv.here.nil (tab_set ht hc)
    subst this
    simp [rd_blk (b10.ext e6)]
    refine check_spec T' (s := s10) (r10.ext e6) ?_
    intro v h7 e7 hv
    have := hv.here.nil (tab_set (tab_set ht hc) hd)
    subst this
    have e67 := e6.trans e7
    simp [rd_blk (b12.ext e67), rd_blk (b7.ext e67)]
    refine same_spec' T' (s := s12) (t := s7) (r12.ext e67) (r7.ext e67) (by omega) ?_
    intro h8 e8
    have e68 := e67.trans e8
    simp [rd_blk (b7.ext e68), rd_blk (bA.ext e68)]
    refine to_spec HTo (s := s) (r.ext (x5.trans e68)) (by omega) ?_
    intro h9 s9 e9 r9
    have e69 := e68.trans e9
    simp [rd_blk (b7.ext e69)]
    refine same_spec' T' (s := s7) (t := s9) (r7.ext e69) r9 (by omega) ?_
    intro h10 e10
    have y10 := e69.trans e10
    simp
    refine wp_loop' (SetsI [] A N8 N10 W7 ins outs i k c d (.agg #[.int .i64 ins, .int .i64 outs, s.v]) .nilIface .nilIface (.pointer (some ⟨N12, 0, none⟩)) .nilIface v17 v18 (.bool false) h5) (fun e _ => ins.toNat - argI e 14) ⟨0, _, _, _, _, _, _, rfl, by omega, y10⟩ ?_
    rintro e h11 ⟨x, v15, v16, v20, v21, v22, v23, rfl, hx, y11⟩
    obtain ⟨a1, a2, a3, a4, a5, a6, _⟩ := tab_ok ht
    by_cases hlt : (x : Int) < ins
    · simp [(bA.ext y11).hc, hlt]
      refine wp_loop' (SetsJ A N8 N10 W7 ins outs i k c d (.agg #[.int .i64 ins, .int .i64 outs, s.v]) x .nilIface .nilIface (.pointer (some ⟨N12, 0, none⟩)) .nilIface v17 v18 (.bool false) (.bool true) h5) (fun e _ => outs.toNat - argI e 15) ⟨0, _, _, _, _, rfl, by omega, y11⟩ ?_
      rintro e h12 ⟨y, v16, v21, v22, v23, rfl, hy, y12⟩
      have wx : IntKind.i64.wrap ((x : Int) + 1) = (x : Int) + 1 := i64_wrap (by omega)
      have wy : IntKind.i64.wrap ((y : Int) + 1) = (y : Int) + 1 := i64_wrap (by omega)
      by_cases hlt2 : (y : Int) < outs
      · simp [(bA.ext y12).hc, hlt2, rd_blk (b7.ext y12)]
        refine at_spec T' (s := s7) (r7.ext y12) ?_
        intro h13 e13
        have y13 := y12.trans e13
        have hset := atV_set (c := c) (i' := (x : Int)) (k' := (y : Int)) ht hc i0 i1 k0 k1 (by omega) hlt (by omega) hlt2
        by_cases hxy : (x : Int) = i ∧ (y : Int) = k
        · rw [if_pos hxy] at hset
          obtain ⟨q1, q2⟩ := hxy
          simp [q1, q2, rd_blk (b8.ext y13)]
          refine at_spec T' (s := s8) (r8.ext y13) ?_
          intro h14 e14
          rw [← q1, ← q2] at hset ⊢
          rw [hset]
          simp [wy]
          have q3 : ((y + 1 : Nat) : Int) = k + 1 := by omega
          exact ⟨⟨y + 1, .int .i64 c, .bool true, .bool true, .bool false, by rw [q1, q3, q2], by omega, y13.trans e14⟩, by simp [argI]; omega⟩
        · rw [if_neg hxy] at hset
          by_cases q1 : (x : Int) = i
          · have q2 : ¬ (y : Int) = k := fun q => hxy ⟨q1, q⟩
            simp [q1, q2, rd_blk (b8.ext y13)]
            refine at_spec T' (s := s8) (r8.ext y13) ?_
            intro h14 e14
            rw [← q1] at hset ⊢
            rw [hset]
            simp [wy]
            exact ⟨⟨y + 1, _, _, _, _, by rw [q1]; rfl, by omega, y13.trans e14⟩, by simp [argI]; omega⟩
          · simp [q1, rd_blk (b8.ext y13)]
            refine at_spec T' (s := s8) (r8.ext y13) ?_
            intro h14 e14
            rw [hset]
            simp [wy]
            exact ⟨⟨y + 1, _, _, _, _, rfl, by omega, y13.trans e14⟩, by simp [argI]; omega⟩
      · simp [(bA.ext y12).hc, hlt2, wx]
        exact ⟨⟨x + 1, _, _, _, _, _, _, rfl, by omega, y12⟩, by simp [argI]; omega⟩
    · simp [(bA.ext y11).hc, hlt, rd_blk (b10.ext y11)]
      refine at_spec T' (s := s10) (r10.ext y11) ?_
      intro h12 e12
      have hset := atV_set (c := d) (i' := i) (k' := k) (tab_set (p := (i * outs + k).toNat) ht hc) hd i0 i1 k0 k1 i0 i1 k0 k1
      rw [hset]
      simp
      exact hr _ ((x5.trans y11).trans e12)
  simp only [S_rlaw2_TurnSets, Stmt.tl, tabV] at cont
  simp [S_rlaw2_TurnSets, FnS.wp, tabV]
  refine ef_new_box ?_
  intro A h1 g1 A1 e1
  simp
  refine known2_spec HK T R'.At HT E (e1.hc hg (fun h => h)) ?_
  intro h2 e2
  have x2 := e1.trans e2
  have A2 := A1.ext e2
  by_cases c1 : 300 < s.n
  · have c1' : (300 : Int) < s.n := by omega
    simp [A2.hc, c1']; exact hr _ x2
  have c1' : ¬ (300 : Int) < s.n := by omega
  simp [A2.hc, c1', rd_blk A2]
  refine rcheck_spec R' (s := s) (r.ext x2) ?_
  intro h3 v e3 hv
  obtain ⟨ps, rfl⟩ := hv.here.shape
  have x3 := x2.trans e3
  have A3 := A2.ext e3
  by_cases ht : (tabW ins outs cs).2 = 0
  rotate_left
  · simp [ht]; exact hr _ x3
  by_cases i0 : i < 0
  · simp [ht, i0]; exact hr _ x3
  by_cases i1 : ins ≤ i
  · simp [ht, i0, A3.hc, i1]; exact hr _ x3
  by_cases k0 : k < 0
  · simp [ht, i0, A3.hc, i1, k0]; exact hr _ x3
  by_cases k1 : outs ≤ k
  · simp [ht, i0, A3.hc, i1, k0, k1]; exact hr _ x3
  simp [ht, i0, A3.hc, i1, k0, k1]
  refine rweight_spec R'.Weight ?_
  by_cases hc : weightB c = true
  rotate_left
  · simp [hc]; exact hr _ x3
  simp [hc]
  refine rweight_spec R'.Weight ?_
  by_cases hd : weightB d = true
  rotate_left
  · simp [hd]; exact hr _ x3
  have i0' : 0 ≤ i := by omega
  have i1' : i < ins := by omega
  have k0' : 0 ≤ k := by omega
  have k1' : k < outs := by omega
  have hl := r.len
  have hn : s.n ≤ 300 := by omega
  simp [hd, rd_blk A3]
  refine to_spec HTo (s := s) (r.ext x3) (by omega) ?_
  intro h4 s7 e4 r7
  have x4 := x3.trans e4
  simp [tabV]
  refine new_store (vs := #[.int .i64 ins, .int .i64 outs, s7.v]) rfl rfl (by simp) ?_
  intro W7 h5' g5 W5' e5' st
  simp
  refine st _ ?_
  intro h5 b7 e5
  clear st W5' e5'
  have x5 := x4.trans e5
  have A5 := (A3.ext e4).ext e5
  have r7 := r7.ext e5
  simp [rd_blk b7]
  refine with_spec T.With T' (s := s7) r7 ?_
  intro h6 v e6 m6
  obtain ⟨i6, o6, s8, c6, u6, rfl, er6, r8, hc6⟩ := with_ok m6
  have hw6 := with_fine (c := c) ht hc i0' i1' k0' k1'
  obtain ⟨_, rfl, rfl, rfl⟩ := hc6.resolve_right (fun h => h.1 hw6)
  have := er6.nil hw6
  subst this
  simp [tabV]
  refine new_store (vs := #[.int .i64 i6, .int .i64 o6, s8.v]) rfl rfl (by simp) ?_
  intro N8 h7' g7 W7' e7' st
  simp
  refine st _ ?_
  intro h7 b8 e7
  clear st W7' e7'
  have y7 := e6.trans e7
  have x7 := x5.trans y7
  have b7 := b7.ext y7
  have A7 := A5.ext y7
  have r7 := r7.ext y7
  have r8 := r8.ext e7
  have ht8 := tab_set (p := (i * o6 + k).toNat) ht hc
  simp [rd_blk b8]
  refine with_spec T.With T' (s := s8) r8 ?_
  intro h8 v e8 m8
  obtain ⟨i8, o8, s10, c8, u8, rfl, er8, r10, hc8⟩ := with_ok m8
  have hw8 := with_fine (c := d) ht8 hd i0' i1' k0' k1'
  obtain ⟨_, q1, q2, rfl⟩ := hc8.resolve_right (fun h => h.1 hw8)
  subst q1; subst q2
  have := er8.nil hw8
  subst this
  simp [tabV]
  refine new_store (vs := #[.int .i64 i8, .int .i64 o8, s10.v]) rfl rfl (by simp) ?_
  intro N10 h9' g9 W9' e9' st
  simp
  refine st _ ?_
  intro h9 b10 e9
  clear st W9' e9'
  have y9 := e8.trans e9
  have x9 := x7.trans y9
  have b7 := b7.ext y9
  have b8 := b8.ext y9
  have A9 := A7.ext y9
  have r7 := r7.ext y9
  have r8 := r8.ext y9
  have r10 := r10.ext e9
  have ht10 := tab_set (p := (i * o8 + k).toNat) ht8 hd
  obtain ⟨v1, v2, v3⟩ := atV_in ht i0' i1' k0' k1'
  have hwt : weightB (atV i8 o8 cs i k) = true := by
    rw [v1]
    exact (tab_ok_iff.1 ht).2.2.2.2.2 _ v2
  have hw12 := with_fine (c := atV i8 o8 cs i k) ht10 hwt i0' i1' k0' k1'
  have hback : (((cs.set (i * o8 + k).toNat c).set (i * o8 + k).toNat d).set (i * o8 + k).toNat (atV i8 o8 cs i k)) = cs := by
    rw [v1, List.set_set, List.set_set]
    apply nthI_ext (by simp)
    intro j hj
    simp at hj
    rw [nthI_set v2]
    split
    · rename_i h; rw [h]
    · rfl
  simp [rd_blk b10, rd_blk b7]
  refine ⟨?_, ?_⟩
  · refine at_spec T' (s := s7) r7 ?_
    intro h10 e10
    simp [rd_blk (b10.ext e10)]
    refine ⟨?_, ?_⟩
    · refine with_spec T.With T' (s := s10) (r10.ext e10) ?_
      intro h11 v e11 m11
      obtain ⟨i11, o11, s12, c11, u11, rfl, er11, r12, hc11⟩ := with_ok m11
      obtain ⟨_, q1, q2, rfl⟩ := hc11.resolve_right (fun h => h.1 hw12)
      subst q1; subst q2
      have := er11.nil hw12
      subst this
      rw [hback] at r12
      simp [tabV]
      refine new_store (vs := #[.int .i64 i11, .int .i64 o11, s12.v]) rfl rfl (by simp) ?_
      intro N12 h12' g12 W12' e12' st
      simp
      refine st _ ?_
      intro h12 b12 e12
      have y := (e10.trans e11).trans e12
      simp [-SeqK_ap]
      rw [SeqK_ap]
      exact cont h12 A W7 N8 N10 N12 s7 s8 s10 s12 _ _ (x9.trans y) ht hc hd i0' i1' k0' k1' hn (A9.ext y) (b7.ext y) (b8.ext y) (b10.ext y) b12 (r7.ext y) (r8.ext y) (r10.ext y) (r12.ext e12)
    · refine ef_new_box ?_
      intro N12 h11 g11 N11 e11
      have y11 := e10.trans e11
      have N11lt := N11.lt
      simp [rd_blk (b10.ext y11)]
      refine with_spec T.With T' (s := s10) (r10.ext y11) ?_
      intro h12 v e12 m11
      obtain ⟨i11, o11, s12, c11, u11, rfl, er11, r12, hc11⟩ := m11
      have hx : c11 = cs ∧ i11 = i8 ∧ o11 = o8 := by
        rcases hc11 with ⟨_, q1, q2, q3⟩ | ⟨q, _⟩
        · exact ⟨by rw [q3, hback], q1, q2⟩
        · exact absurd hw12 q
      obtain ⟨rfl, rfl, rfl⟩ := hx
      have := er11.here.nil hw12
      subst this
      simp [tabV]
      refine ef_store_box (vs := #[.int .i64 i11, .int .i64 o11, s12.v]) (N11.ext e12) rfl rfl (by simp) ?_
      intro h13 b12 m13
      have y13 : Ext h9 h13 := (y11.trans e12).ext m13 (fun j hj => by have := e10.size; omega)
      have r12' := r12 h13 (m13.mono fun j _ hj => by omega)
      simp [-SeqK_ap]
      rw [SeqK_ap]
      exact cont h13 A W7 N8 N10 N12 s7 s8 s10 s12 _ _ (x9.trans y13) ht hc hd i0' i1' k0' k1' hn (A9.ext y13) (b7.ext y13) (b8.ext y13) (b10.ext y13) b12 (r7.ext y13) (r8.ext y13) (r10.ext y13) r12'
  · refine ef_new_box ?_
    intro N12 h10 g10 N10' e10
    have N10lt := N10'.lt
    simp [rd_blk (b10.ext e10), rd_blk (b7.ext e10)]
    refine at_spec T' (s := s7) (r7.ext e10) ?_
    intro h11 e11
    have y11 := e10.trans e11
    simp [rd_blk (b10.ext y11)]
    refine with_spec T.With T' (s := s10) (r10.ext y11) ?_
    intro h12 v e12 m11
    obtain ⟨i11, o11, s12, c11, u11, rfl, er11, r12, hc11⟩ := m11
    have hx : c11 = cs ∧ i11 = i8 ∧ o11 = o8 := by
      rcases hc11 with ⟨_, q1, q2, q3⟩ | ⟨q, _⟩
      · exact ⟨by rw [q3, hback], q1, q2⟩
      · exact absurd hw12 q
    obtain ⟨rfl, rfl, rfl⟩ := hx
    have := er11.here.nil hw12
    subst this
    simp [tabV]
    refine ef_store_box (vs := #[.int .i64 i11, .int .i64 o11, s12.v]) ((N10'.ext e11).ext e12) rfl rfl (by simp) ?_
    intro h13 b12 m13
    have z11 := e11.size
    have y13 : Ext h9 h13 := (y11.trans e12).ext m13 (fun j hj => by omega)
    have r12' := r12 h13 (m13.mono fun j _ hj => by omega)
    simp [-SeqK_ap]
    rw [SeqK_ap]
    exact cont h13 A W7 N8 N10 N12 s7 s8 s10 s12 _ _ (x9.trans y13) ht hc hd i0' i1' k0' k1' hn (A9.ext y13) (b7.ext y13) (b8.ext y13) (b10.ext y13) b12 (r7.ext y13) (r8.ext y13) (r10.ext y13) r12'
end
end Go.Rm
