/- The laws of tables of turns: TurnAny. -/
import Derived.Test.YtomdihnecddfjaaDoorRLaw2b
set_option linter.unusedSimpArgs false
set_option linter.unusedVariables false
namespace Go.Rm
section
variable {Y : Sys} {h : Heap}

theorem any_spec (HM : Y.Has F.rlaw2_TurnAny S_rlaw2_TurnAny) (HK : Y.Has F.rlaw2_known S_rlaw2_known) (HO : Y.Has F.rlaw2_Of S_rlaw2_Of) (HTo : Y.Has F.rlaw2_To S_rlaw2_To) (T : TurnAll Y) (RT : RefAll Y) (HT : Y.Has F.rlaw1_Tells S_rlaw1_Tells) (E : ErrSys Y)
    (hg : hc h E.gb 0 = some E.hv) {ai ao bi bo i k c : Int} {s t : Sl} {a b : List Int} (ra : Row64 h s a) (rb : Row64 h t b) {R : Value → Heap → Prop} (hr : ∀ h', Ext h h' → R (.bool true) h') :
    CallP Y F.rlaw2_TurnAny [tabV ai ao s, tabV bi bo t, .int .i64 i, .int .i64 k, .int .i64 c] h R := by
  have T' := T.toTurnFns
  have R' := RT.toRefTab
  refine .of_has HM rfl ?_
  simp [S_rlaw2_TurnAny, FnS.wp, tabV]
  refine ef_new_box ?_
  intro A h1 g1 A1 e1
  simp
  refine ef_new_box ?_
  intro B h2 g2 B2 e2
  have A2 := A1.ext e2
  have x2 := e1.trans e2
  simp
  refine known2_spec HK T R'.At HT E (x2.hc hg (fun h => h)) ?_
  intro h3 e3
  have x3 := x2.trans e3
  have A3 := A2.ext e3
  have B3 := B2.ext e3
  by_cases c1 : 600 < s.n
  · have c1' : (600 : Int) < s.n := by omega
    simp [A3.hc, c1']; exact hr _ x3
  have c1' : ¬ (600 : Int) < s.n := by omega
  by_cases c2 : 600 < t.n
  · have c2' : (600 : Int) < t.n := by omega
    simp [A3.hc, B3.hc, c1', c2']; exact hr _ x3
  have c2' : ¬ (600 : Int) < t.n := by omega
  have hla : s.n ≤ 1000000 := by omega
  have hlb : t.n ≤ 1000000 := by omega
  simp [A3.hc, B3.hc, c1', c2', rd_blk A3]
  refine rcheck_spec R' (s := s) (ra.ext x3) ?_
  intro h4 v e4 hv
  obtain ⟨ps, rfl⟩ := hv.here.shape
  have hv := hv.here
  have x4 := x3.trans e4
  have A4 := A3.ext e4
  have B4 := B3.ext e4
  simp
  refine new_store (vs := #[ps.v, .int .i64 (tabW ai ao a).2]) rfl rfl (by simp) ?_
  intro W h5' g5 W5' e5' st
  simp
  refine st _ ?_
  intro h5 W5 e5
  clear st W5' e5'
  have x5 := x4.trans e5
  have A5 := A4.ext e5
  have B5 := B4.ext e5
  have hv := hv.ext e5
  simp [rd_blk A5, rd_blk W5]
  refine to_spec HTo (s := s) (ra.ext x5) hla ?_
  intro h6 s6 e6 r6
  have x6 := x5.trans e6
  have A6 := A5.ext e6
  have B6 := B5.ext e6
  have W6 := W5.ext e6
  have hv := hv.ext e6
  simp [rd_blk W6]
  refine check_spec T' (s := s6) r6 ?_
  intro v h7 e7 her
  have x7 := x6.trans e7
  have A7 := A6.ext e7
  have B7 := B6.ext e7
  have W7 := W6.ext e7
  have hv := hv.ext e7
  simp [rd_blk W7]
  refine tells' HT E tabW_kind (x7.hc hg (fun h => h)) hv her.here ?_
  intro h8 e8
  have x8 := x7.trans e8
  have A8 := A7.ext e8
  have B8 := B7.ext e8
  have W8 := W7.ext e8
  simp [rd_blk A8, rd_blk B8]
  refine to_spec HTo (s := s) (ra.ext x8) hla ?_
  intro h9 s9 e9 r9
  have x9 := x8.trans e9
  have A9 := A8.ext e9
  have B9 := B8.ext e9
  simp [rd_blk A9, rd_blk B9]
  refine to_spec HTo (s := t) (rb.ext x9) hlb ?_
  intro h10 t10 e10 r10
  have x10 := x9.trans e10
  have A10 := A9.ext e10
  have B10 := B9.ext e10
  have n9 : s9.n = s.n := by rw [← r9.len, ra.len]
  simp [rd_blk A10, rd_blk B10]
  refine same_spec' T' (s := s9) (t := t10) (r9.ext e10) r10 (by omega) ?_
  intro h11 e11
  have x11 := x10.trans e11
  have A11 := A10.ext e11
  have B11 := B10.ext e11
  simp [rd_blk A11, rd_blk B11]
  refine rsamet_spec R' (s := s) (t := t) (ra.ext x11) (rb.ext x11) hla ?_
  intro h12 e12
  have x12 := x11.trans e12
  have A12 := A11.ext e12
  have W12 := W8.ext (((e9.trans e10).trans e11).trans e12)
  simp [rd_blk A12]
  refine to_spec HTo (s := s) (ra.ext x12) hla ?_
  intro h13 s13 e13 r13
  have x13 := x12.trans e13
  have A13 := A12.ext e13
  simp [rd_blk A13]
  refine to_spec HTo (s := s) (ra.ext x13) hla ?_
  intro h14 s14 e14 r14
  have x14 := x13.trans e14
  have n13 : s13.n = s.n := by rw [← r13.len, ra.len]
  simp
  refine same_spec' T' (s := s13) (t := s14) (r13.ext e14) r14 (by omega) ?_
  intro h15 e15
  have x15 := x14.trans e15
  have A15 := A13.ext (e14.trans e15)
  have W15 := W12.ext ((e13.trans e14).trans e15)
  simp [W15.hc]
  by_cases h0 : (tabW ai ao a).2 = 0
  · simp [h0, rd_blk A15]
    refine to_spec HTo (s := s) (ra.ext x15) hla ?_
    intro h16 s16 e16 r16
    have x16 := x15.trans e16
    simp
    refine with_spec T.With T' (s := s16) r16 ?_
    intro h17 v e17 m17
    obtain ⟨i17, o17, s17, c17, u17, rfl, er17, r17, hc17⟩ := with_ok m17
    have x17 := x16.trans e17
    have A17 := A15.ext (e16.trans e17)
    simp [tabV]
    refine new_store (vs := #[.int .i64 i17, .int .i64 o17, s17.v]) rfl rfl (by simp) ?_
    intro D h18' g18 D18' e18' st
    simp
    refine st _ ?_
    intro h18 D18 e18
    clear st D18' e18'
    have x18 := x17.trans e18
    have A18 := A17.ext e18
    simp [rd_blk A18]
    refine rwith_spec RT.With R' (s := s) (ra.ext x18) h0 ?_
    intro h19 v e19 m19
    obtain ⟨i19, o19, s19, c19, p19, rfl, w19, r19, hc19⟩ := rwith_ok m19
    have x19 := x18.trans e19
    have A19 := A18.ext e19
    simp [tabV]
    refine new_store (vs := #[.int .i64 i19, .int .i64 o19, s19.v]) rfl rfl (by simp) ?_
    intro G h4' g4 B4' e4' st4
    simp
    refine new_store (vs := #[p19.v, .int .i64 (withW ai ao a i k c).2]) rfl rfl (by simp) ?_
    intro H h5' g5' B5' e5' st5
    simp
    have hb34 : G < h4'.size := B4'.lt
    refine ef_store_box (vs := #[.int .i64 i19, .int .i64 o19, s19.v]) (B4'.ext e5') rfl rfl (by simp) ?_
    intro h6' B6' m6
    have B5'' := m6.blk B5' (by omega)
    simp
    refine ef_store_box (vs := #[p19.v, .int .i64 (withW ai ao a i k c).2]) B5'' rfl rfl (by simp) ?_
    intro h20 H20 m7
    have G20 := m7.blk B6' (by omega)
    have e20 : Ext h19 h20 := ((e4'.trans e5').ext m6 (fun j hj => by omega)).ext m7 (fun j hj => by have := e4'.size; omega)
    clear B4' e4' st4 B5' e5' st5 B6' m6 B5'' m7
    have x20 := x19.trans e20
    have y20 := (e18.trans e19).trans e20
    have A20 := A19.ext e20
    have D20 := D18.ext (e19.trans e20)
    have er20 := er17.ext y20
    have r17' := r17.ext y20
    have w20 := w19.ext e20
    have r19' := r19.ext e20
    have q1 : i17 = i19 ∧ o17 = o19 ∧ c17 = c19 := by
      rcases hc17 with ⟨a, b, c, d⟩ | ⟨a, b, c, d⟩
      · rcases hc19 with ⟨a', b', c', d'⟩ | ⟨a', _⟩
        · exact ⟨by rw [b, b'], by rw [c, c'], by rw [d, d']⟩
        · exact absurd a a'
      · rcases hc19 with ⟨a', _⟩ | ⟨a', b', c', d'⟩
        · exact absurd a' a
        · exact ⟨by rw [b, b'], by rw [c, c'], by rw [d, d']⟩
    have l17 : s17.n ≤ 1000000 := by
      have := r17.len
      have hl := ra.len
      rcases hc17 with ⟨_, b, c, d⟩ | ⟨_, b, c, d⟩
      · have : c17.length = a.length := by rw [d]; simp
        omega
      · have : c17.length = 0 := by rw [d]; rfl
        omega
    simp [rd_blk A20]
    refine to_spec HTo (s := s) (ra.ext x20) hla ?_
    intro h21 s21 e21 r21
    have x21 := x20.trans e21
    have A21 := A20.ext e21
    simp [rd_blk A21]
    refine at_spec T' (s := s21) r21 ?_
    intro h22 e22
    have x22 := x21.trans e22
    have A22 := A21.ext e22
    simp [rd_blk A22]
    refine rturnat_spec R' (s := s) (ra.ext x22) h0 ?_
    intro h23 e23
    have x23 := x22.trans e23
    have A23 := A22.ext e23
    simp [rd_blk A23]
    refine to_spec HTo (s := s) (ra.ext x23) hla ?_
    intro h24 s24 e24 r24
    have x24 := x23.trans e24
    have A24 := A23.ext e24
    have n24 : s24.n = s.n := by rw [← r24.len, ra.len]
    simp [rd_blk A24]
    refine bans_spec T' (s := s24) r24 (by omega) ?_
    intro h25 e25
    have x25 := x24.trans e25
    have A25 := A24.ext e25
    simp [rd_blk A25]
    refine rbans_spec R' (s := s) (ra.ext x25) hla ?_
    intro h26 e26
    have x26 := x25.trans e26
    have y26 := ((((e21.trans e22).trans e23).trans e24).trans e25).trans e26
    simp [rd_blk (H20.ext y26)]
    refine tells' HT E withW_kind (x26.hc hg (fun h => h)) (w20.ext y26) (er20.ext y26) ?_
    intro h27 e27
    have x27 := x26.trans e27
    have y27 := y26.trans e27
    simp [rd_blk (D20.ext y27), rd_blk (G20.ext y27)]
    refine of_spec HO (s := s17) ?_
    intro h28 e28
    have x28 := x27.trans e28
    have y28 := y27.trans e28
    simp [rd_blk (G20.ext y28)]
    refine rsamet_spec R' (s := s17) (t := s19) (r17'.ext y28) (r19'.ext y28) l17 ?_
    intro h29 e29
    rw [show decide (i17 = i19 ∧ o17 = o19 ∧ c17 = c19) = true from decide_eq_true q1]
    simp
    exact hr _ (x28.trans e29)
  · simp [h0]
    exact hr _ x15
end
end Go.Rm
