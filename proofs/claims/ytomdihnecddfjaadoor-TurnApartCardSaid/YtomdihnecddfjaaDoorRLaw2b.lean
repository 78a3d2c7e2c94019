/- The laws of tables of turns: TurnMakes, TurnAny. -/
import Derived.Test.YtomdihnecddfjaaDoorRLaw2
set_option linter.unusedSimpArgs false
set_option linter.unusedVariables false
namespace Go.Rm

theorem back_all : ∀ n : Nat, n ≤ 16 → badFrom 0 (backL n) = none ∧ bans (backL n) = n := by
  decide +kernel

theorem sides_len {w : Wr} (h : w.1 = [] ∧ w.2 = 0 ∨ ∃ a e, e ≠ 0 ∧ w = turnW a e) : (w.2 ≠ 0 → 0 < w.1.length) ∧ w.1.length ≤ 4 := by
  rcases h with ⟨h, h2⟩ | ⟨a, e, he, rfl⟩
  · rw [h]; exact ⟨fun h3 => absurd h2 h3, by simp⟩
  · exact ⟨fun _ => by simp [turnW], by simp [turnW]⟩
theorem sidesW_kind {ins outs : Int} : (sidesW ins outs).1 = [] ∧ (sidesW ins outs).2 = 0 ∨ ∃ a e, e ≠ 0 ∧ sidesW ins outs = turnW a e := by
  unfold sidesW
  split
  · exact .inr ⟨_, _, by omega, rfl⟩
  · split
    · exact .inr ⟨_, _, by omega, rfl⟩
    · exact .inl ⟨rfl, rfl⟩
theorem tabW_kind {ins outs : Int} {cs : List Int} : (tabW ins outs cs).1 = [] ∧ (tabW ins outs cs).2 = 0 ∨ ∃ a e, e ≠ 0 ∧ tabW ins outs cs = turnW a e := by
  unfold tabW
  split
  · exact sidesW_kind
  · split
    · exact .inr ⟨_, _, by omega, rfl⟩
    · split
      · exact .inr ⟨_, _, by omega, rfl⟩
      · exact .inl ⟨rfl, rfl⟩
theorem withW_kind {ins outs i k c : Int} {cs : List Int} : (withW ins outs cs i k c).1 = [] ∧ (withW ins outs cs i k c).2 = 0 ∨ ∃ a e, e ≠ 0 ∧ withW ins outs cs i k c = turnW a e := by
  unfold withW
  split
  · exact .inr ⟨_, _, by omega, rfl⟩
  · split
    · exact .inr ⟨_, _, by omega, rfl⟩
    · split
      · exact .inr ⟨_, _, by omega, rfl⟩
      · exact tabW_kind

section
variable {Y : Sys} {h : Heap}

theorem tells' (HT : Y.Has F.rlaw1_Tells S_rlaw1_Tells) (E : ErrSys Y) {w : Wr} (hk : w.1 = [] ∧ w.2 = 0 ∨ ∃ a e, e ≠ 0 ∧ w = turnW a e) {err wv : Value} (hg : hc h E.gb 0 = some E.hv) (hw : WrongV h w.1 w.2 wv) (he : Err Y h w err)
    {R : Value → Heap → Prop} (hr : ∀ h', Ext h h' → R (.bool true) h') : CallP Y F.rlaw1_Tells [err, wv] h R :=
  tells_spec HT E hg hw he (sides_len hk).1 (sides_len hk).2 hr

theorem makes_spec (HM : Y.Has F.rlaw2_TurnMakes S_rlaw2_TurnMakes) (HK : Y.Has F.rlaw2_known S_rlaw2_known) (HO : Y.Has F.rlaw2_Of S_rlaw2_Of) (T : TurnAll Y) (RT : RefAll Y) (HT : Y.Has F.rlaw1_Tells S_rlaw1_Tells) (E : ErrSys Y)
    (hg : hc h E.gb 0 = some E.hv) {ins outs n : Int} {R : Value → Heap → Prop} (hr : ∀ h', Ext h h' → R (.bool true) h') : CallP Y F.rlaw2_TurnMakes [.int .i64 ins, .int .i64 outs, .int .i64 n] h R := by
  have T' := T.toTurnFns
  have R' := RT.toRefTab
  refine .of_has HM rfl ?_
  simp [S_rlaw2_TurnMakes, FnS.wp]
  refine known2_spec HK T R'.At HT E hg ?_
  intro h0 e0
  simp
  refine free_spec T.Free T' ?_
  intro h1 v e1 m1
  obtain ⟨i1, o1, s1, c1, u1, rfl, er1, r1, hc1⟩ := made_ok m1
  simp [tabV]
  refine new_store (vs := #[.int .i64 i1, .int .i64 o1, s1.v]) rfl rfl (by simp) ?_
  intro b1 h2 g2 B2 e2 st
  simp
  refine st _ ?_
  intro h2' B1 x1
  clear B2 e2 st g2 h2
  simp
  refine rfree_spec RT.Free R' ?_
  intro h3 v e3 m3
  obtain ⟨i3, o3, s3, c3, ps3, rfl, w3, r3, hc3⟩ := madew_ok m3
  have x3 := x1.trans e3
  simp [tabV]
  refine new_store (vs := #[.int .i64 i3, .int .i64 o3, s3.v]) rfl rfl (by simp) ?_
  intro b3 h4 g4 B4 e4 st4
  simp
  refine new_store (vs := #[ps3.v, .int .i64 (sidesW ins outs).2]) rfl rfl (by simp) ?_
  intro b4 h5 g5 B5 e5 st5
  simp
  have hb34 : b3 < h4.size := B4.lt
  refine ef_store_box (vs := #[.int .i64 i3, .int .i64 o3, s3.v]) (B4.ext e5) rfl rfl (by simp) ?_
  intro h6 B6 m6
  have B5' := m6.blk B5 (by omega)
  simp
  refine ef_store_box (vs := #[ps3.v, .int .i64 (sidesW ins outs).2]) B5' rfl rfl (by simp) ?_
  intro h7 W7 m7
  have B3 := m7.blk B6 (by omega)
  have x37 : Ext h3 h7 := ((e4.trans e5).ext m6 (fun j hj => by omega)).ext m7 (fun j hj => by have := e4.size; omega)
  clear B4 e4 st4 B5 e5 st5 B6 m6 B5' m7
  simp
  refine back_spec T.Back T.Free T' ?_
  intro h8 v e8 m8
  obtain ⟨i8, o8, s8, c8, u8, rfl, er8, r8, hc8⟩ := made_ok m8
  simp [tabV]
  refine new_store (vs := #[.int .i64 i8, .int .i64 o8, s8.v]) rfl rfl (by simp) ?_
  intro b8 h2 g2 B2 e2 st
  simp
  refine st _ ?_
  intro h9 B8 x9
  clear B2 e2 st g2 h2
  simp
  refine rback_spec RT.Back RT.Free R' ?_
  intro h10 v e10 m10
  obtain ⟨i10, o10, s10, c10, ps10, rfl, w10, r10, hc10⟩ := madew_ok m10
  simp [tabV]
  refine new_store (vs := #[.int .i64 i10, .int .i64 o10, s10.v]) rfl rfl (by simp) ?_
  intro b10 h4 g4 B4 e4 st4
  simp
  refine new_store (vs := #[ps10.v, .int .i64 (sidesW n n).2]) rfl rfl (by simp) ?_
  intro b11 h5 g5' B5 e5 st5
  simp
  have hb34' : b10 < h4.size := B4.lt
  refine ef_store_box (vs := #[.int .i64 i10, .int .i64 o10, s10.v]) (B4.ext e5) rfl rfl (by simp) ?_
  intro h6 B6 m6
  have B5' := m6.blk B5 (by omega)
  simp
  refine ef_store_box (vs := #[ps10.v, .int .i64 (sidesW n n).2]) B5' rfl rfl (by simp) ?_
  intro h11 W11 m7
  have B10 := m7.blk B6 (by omega)
  have x1011 : Ext h10 h11 := ((e4.trans e5).ext m6 (fun j hj => by omega)).ext m7 (fun j hj => by have := e4.size; omega)
  clear B4 e4 st4 B5 e5 st5 B6 m6 B5' m7
  -- all at h11
  have y7 : Ext h7 h11 := (((e8.trans x9).trans e10).trans x1011)
  have y3 := x37.trans y7
  have y1 := x3.trans y3
  have y0 : Ext h h11 := (e0.trans e1).trans y1
  have er1 := er1.ext y1
  have r1 := r1.ext y1
  have w3 := w3.ext y3
  have r3 := r3.ext y3
  have y8 := (x9.trans e10).trans x1011
  have er8 := er8.ext y8
  have r8 := r8.ext y8
  have w10 := w10.ext x1011
  have r10 := r10.ext x1011
  have B1 := B1.ext (e3.trans y3)
  have B3 := B3.ext y7
  have W7 := W7.ext y7
  have B8 := B8.ext (e10.trans x1011)
  -- both are the same
  have q1 : i1 = i3 ∧ o1 = o3 ∧ c1 = c3 := by
    rcases hc1 with ⟨a, b, c, d⟩ | ⟨a, b, c, d⟩
    · rcases hc3 with ⟨a', b', c', d'⟩ | ⟨a', _⟩
      · exact ⟨by rw [b, b'], by rw [c, c'], by rw [d, d']⟩
      · exact absurd a a'
    · rcases hc3 with ⟨a', _⟩ | ⟨a', b', c', d'⟩
      · exact absurd a' a
      · exact ⟨by rw [b, b'], by rw [c, c'], by rw [d, d']⟩
  have q2 : i8 = i10 ∧ o8 = o10 ∧ c8 = c10 := by
    rcases hc8 with ⟨a, b, c, d⟩ | ⟨a, b, c, d⟩
    · rcases hc10 with ⟨a', b', c', d'⟩ | ⟨a', _⟩
      · exact ⟨by rw [b, b'], by rw [c, c'], by rw [d, d']⟩
      · exact absurd a a'
    · rcases hc10 with ⟨a', _⟩ | ⟨a', b', c', d'⟩
      · exact absurd a' a
      · exact ⟨by rw [b, b'], by rw [c, c'], by rw [d, d']⟩
  have l1 : s1.n ≤ 1000000 := by
    have := r1.len
    rcases hc1 with ⟨a, b, c, d⟩ | ⟨a, b, c, d⟩
    · obtain ⟨_, a1, a2, a3, a4⟩ := sides_ok a
      have := (mul_wrap ⟨a1, a2⟩ ⟨a3, a4⟩).2
      have hl1 : c1.length = (ins * outs).toNat := by rw [d]; simp [zerosL]
      omega
    · have hl1 : c1.length = 0 := by rw [d]; rfl
      omega
  have l8 : s8.n ≤ 1000000 ∧ ((sidesW n n).2 = 0 → (tabW n n c8).2 = 0 ∧ (bans c8 : Int) = n) := by
    have hl := r8.len
    rcases hc8 with ⟨a, b, c, d⟩ | ⟨a, b, c, d⟩
    · obtain ⟨hs, a1, a2, a3, a4⟩ := sides_ok a
      obtain ⟨N, rfl⟩ : ∃ N : Nat, n = N := ⟨n.toNat, by omega⟩
      obtain ⟨k1, k2⟩ := back_all N (by omega)
      have hlb : (backL N).length = N * N := backI_len (n := N) (i := N)
      have hNN : N * N ≤ 16 * 16 := Nat.mul_le_mul (by omega) (by omega)
      have hdl : c8.length = N * N := by rw [d]; simpa using hlb
      refine ⟨by omega, fun _ => ⟨?_, by rw [d]; simp [k2]⟩⟩
      have hlb' : ((backL N).length : Int) = N * N := by rw [hlb]; simp
      have hd : c8 = backL N := by rw [d]; simp
      simp only [tabW, a, hd, hlb', k1]
      simp [wOK]
    · have hdl : c8.length = 0 := by rw [d]; rfl
      exact ⟨by omega, fun h => absurd h a⟩
  simp [rd_blk W7]
  refine tells' HT E sidesW_kind (y0.hc hg (fun h => h)) w3 er1 ?_
  intro h12 e12
  simp [rd_blk (B1.ext e12), rd_blk (B3.ext e12)]
  refine of_spec HO (s := s1) ?_
  intro h13 e13
  have z13 := e12.trans e13
  simp [rd_blk (B3.ext z13)]
  refine rsamet_spec R' (s := s1) (t := s3) (r1.ext z13) (r3.ext z13) l1 ?_
  intro h14 e14
  have z14 := z13.trans e14
  rw [show decide (i1 = i3 ∧ o1 = o3 ∧ c1 = c3) = true from decide_eq_true q1]
  simp [rd_blk (W11.ext z14)]
  refine tells' HT E sidesW_kind ((y0.trans z14).hc hg (fun h => h)) (w10.ext z14) (er8.ext z14) ?_
  intro h15 e15
  have z15 := z14.trans e15
  simp [rd_blk (B8.ext z15), rd_blk (B10.ext z15)]
  refine of_spec HO (s := s8) ?_
  intro h16 e16
  have z16 := z15.trans e16
  simp [rd_blk (B10.ext z16)]
  refine rsamet_spec R' (s := s8) (t := s10) (r8.ext z16) (r10.ext z16) l8.1 ?_
  intro h17 e17
  have z17 := z16.trans e17
  rw [show decide (i8 = i10 ∧ o8 = o10 ∧ c8 = c10) = true from decide_eq_true q2]
  simp [(W7.ext z17).hc]
  -- the last two: the checks
  have last : ∀ (h18 : Heap), Ext h11 h18 → (sidesW n n).2 = 0 → True := fun _ _ _ => trivial
  clear last
  by_cases d1 : (sidesW ins outs).2 = 0
  · obtain ⟨_, k1, k2, k3⟩ := hc1.resolve_right (fun h => h.1 d1)
    simp [d1, rd_blk (B1.ext z17)]
    refine check_spec T' (s := s1) (r1.ext z17) ?_
    intro v h18 e18 hv
    have z18 := z17.trans e18
    have hv0 : (tabW i1 o1 c1).2 = 0 := by rw [k1, k2, k3, tab_zeros d1]; rfl
    have := hv.here.nil hv0
    subst this
    by_cases d2 : (sidesW n n).2 = 0
    · obtain ⟨_, k1, k2, k3⟩ := hc8.resolve_right (fun h => h.1 d2)
      simp [d2, (W11.ext z18).hc, rd_blk (B8.ext z18)]
      refine check_spec T' (s := s8) (r8.ext z18) ?_
      intro v h19 e19 hv
      have z19 := z18.trans e19
      have hv0 : (tabW i8 o8 c8).2 = 0 := by rw [k1, k2]; exact (l8.2 d2).1
      have := hv.here.nil hv0
      subst this
      simp [rd_blk (B8.ext z19)]
      refine bans_spec T' (s := s8) (r8.ext z19) l8.1 ?_
      intro h20 e20
      simp [(l8.2 d2).2]
      exact hr _ (y0.trans (z19.trans e20))
    · simp [d2, (W11.ext z18).hc]
      exact hr _ (y0.trans z18)
  · by_cases d2 : (sidesW n n).2 = 0
    · obtain ⟨_, k1, k2, k3⟩ := hc8.resolve_right (fun h => h.1 d2)
      simp [d1, d2, (W11.ext z17).hc, rd_blk (B8.ext z17)]
      refine check_spec T' (s := s8) (r8.ext z17) ?_
      intro v h19 e19 hv
      have z19 := z17.trans e19
      have hv0 : (tabW i8 o8 c8).2 = 0 := by rw [k1, k2]; exact (l8.2 d2).1
      have := hv.here.nil hv0
      subst this
      simp [rd_blk (B8.ext z19)]
      refine bans_spec T' (s := s8) (r8.ext z19) l8.1 ?_
      intro h20 e20
      simp [(l8.2 d2).2]
      exact hr _ (y0.trans (z19.trans e20))
    · simp [d1, d2, (W11.ext z17).hc]
      exact hr _ (y0.trans z17)
end
end Go.Rm
