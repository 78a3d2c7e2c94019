import Derived.Test.YtojpokpdfbgelaaDoorRRef6a
import Derived.Test.YtojpokpdfbgelaaDoorSNums

/- The laws of tables of turns: To, Of, known. -/
set_option linter.unusedSimpArgs false
set_option linter.unusedVariables false
namespace Go.Rm

structure TurnAll (Y : Sys) : Prop extends TurnFns Y where
  Eq : TurnEq Y
  Bans : Y.Has F.turn_Bans S_turn_Bans
  Clone : Y.Has F.slices_Clone_int64_int64 S_slices_Clone_int64_int64
  With : Y.Has F.turn_With S_turn_With
  Free : Y.Has F.turn_Free S_turn_Free
  Back : Y.Has F.turn_Back S_turn_Back
structure RefAll (Y : Sys) : Prop extends RefTab Y where
  Bans : Y.Has F.rref6_Bans S_rref6_Bans
  With : Y.Has F.rref6_WithTable S_rref6_WithTable
  Free : Y.Has F.rref6_FreeTable S_rref6_FreeTable
  Back : Y.Has F.rref6_BackTable S_rref6_BackTable

section
variable {Y : Sys} {h : Heap}

theorem Err.nilEq {w : Wr} {v : Value} (e : Err Y h w v) {K : Prop} : (w.2 = 0 → v = .nilIface) ∧ (w.2 ≠ 0 → ∃ t u, v = .iface t u) := ⟨e.nil, e.iface⟩

/-- a box is laid, and at once something is put into it -/
theorem new_store {K : Value → Heap → Prop} {v : Value} {n : Nat} {vs : Array Value} (hn : v.cells.size = n) (hs : vs.size = n) (h1 : ∀ v ∈ vs.toList, v.oneCell' = true)
    (hk : ∀ (b : Nat) (h2 : Heap), h.size ≤ b → Blk h2 b v.cells → Ext h h2 → (∀ K2 : Value → Heap → Prop, (∀ h3, Blk h3 b vs → Ext h h3 → K2 undef h3) → Ef.wp h2 K2 (.store n) [.pointer (some ⟨b, 0, none⟩), .agg vs]) →
      K (.pointer (some ⟨b, 0, none⟩)) h2) : Ef.wp h K .new [v] := by
  refine ef_new_box ?_
  intro b h2 g2 B2 e2
  refine hk b h2 g2 B2 e2 ?_
  intro K2 hk2
  refine ef_store_box B2 hs hn h1 ?_
  intro h3 B3 m3
  exact hk2 h3 B3 (Mod.ext e2 m3 (fun j hj => by omega))

theorem to_spec (HT : Y.Has F.rlaw2_To S_rlaw2_To) {ins outs : Int} {s : Sl} {cs : List Int} (r : Row64 h s cs) (hbig : s.n ≤ 1000000) {R : Value → Heap → Prop}
    (hr : ∀ h' s', Ext h h' → Row64 h' s' cs → R (tabV ins outs s') h') : CallP Y F.rlaw2_To [tabV ins outs s] h R := by
  refine .of_has HT rfl ?_
  simp [S_rlaw2_To, FnS.wp, tabV]
  refine ef_new_box ?_
  intro b h1 g1 B1 e1
  simp
  refine ef_new_box ?_
  intro rb h2 g2 B2 e2
  have B1' := B1.ext e2
  have e12 := e1.trans e2
  have z1 := e1.size
  have B2lt := B2.lt
  simp [B1'.hc, ef_bslice0]
  intro t
  have e3 : Ext h2 (h2.push (.cells #[] t)) := Mod.push
  have B3 := B1'.ext e3
  simp [B3.hc]
  refine ef_clone64 ((r.ext e12).ext e3) (by omega) own_empty (.inr (Nat.le_refl _)) e3 ?_
  intro s' h4 o4 hs' e4
  have B4 := B1'.ext e4
  simp [B4.hc]
  refine ef_store_box (B2.ext e4) rfl rfl (by simp) ?_
  intro h5 B5 m5
  simp
  refine resP_x rfl B5 rfl ?_
  refine hr h5 s' (Mod.ext (e12.trans e4) m5 (fun j hj => by omega)) ?_
  exact (o4.mod m5 (fun hn h => by
    rcases hs' with hs' | hs'
    · rw [hn] at hs'; cases hs'
    · omega)).row64

theorem of_spec (HO : Y.Has F.rlaw2_Of S_rlaw2_Of) {ins outs : Int} {s : Sl} {R : Value → Heap → Prop} (hr : ∀ h', Ext h h' → R (tabV ins outs s) h') : CallP Y F.rlaw2_Of [tabV ins outs s] h R := by
  refine .of_has HO rfl ?_
  simp [S_rlaw2_Of, FnS.wp, tabV]
  refine ef_new_box ?_
  intro b h1 g1 B1 e1
  simp
  refine ef_new_box ?_
  intro rb h2 g2 B2 e2
  have B1' := B1.ext e2
  have z1 := e1.size
  simp [B1'.hc]
  refine ef_store_box B2 rfl rfl (by simp) ?_
  intro h5 B5 m5
  simp
  exact resP_x rfl B5 rfl (hr h5 (Mod.ext (e1.trans e2) m5 (fun j hj => by omega)))

/-- plain facts of what comes back -/
theorem made_ok {lo : Nat} {w : Wr} {ins outs : Int} {cs : List Int} {v : Value} (m : MadeR Y lo h w ins outs cs v) :
    ∃ i o s c u, v = .tuple #[tabV i o s, u] ∧ Err Y h w u ∧ Row64 h s c ∧ ((w.2 = 0 ∧ i = ins ∧ o = outs ∧ c = cs) ∨ (w.2 ≠ 0 ∧ i = 0 ∧ o = 0 ∧ c = [])) := by
  obtain ⟨i, o, s, c, u, e, h1, h2, h3, h4⟩ := m
  refine ⟨i, o, s, c, u, e, h1.here, h2.here.row64, ?_⟩
  rcases h4 with ⟨a1, a2, a3, a4, _⟩ | ⟨a1, a2, a3, _, a4⟩
  · exact .inl ⟨a1, a2, a3, a4⟩
  · exact .inr ⟨a1, a2, a3, a4⟩
theorem madew_ok {lo : Nat} {w : Wr} {ins outs : Int} {cs : List Int} {v : Value} (m : MadeW lo h w ins outs cs v) :
    ∃ i o s c ps, v = .tuple #[tabV i o s, .agg #[Sl.v ps, .int .i64 w.2]] ∧ WrongV h w.1 w.2 (.agg #[Sl.v ps, .int .i64 w.2]) ∧ Row64 h s c ∧ ((w.2 = 0 ∧ i = ins ∧ o = outs ∧ c = cs) ∨ (w.2 ≠ 0 ∧ i = 0 ∧ o = 0 ∧ c = [])) := by
  obtain ⟨i, o, s, c, u, e, h1, h2, h3, h4⟩ := m
  obtain ⟨ps, rfl⟩ := h1.here.shape
  refine ⟨i, o, s, c, ps, e, h1.here, h2.here.row64, ?_⟩
  rcases h4 with ⟨a1, a2, a3, a4, _⟩ | ⟨a1, a2, a3, _, a4⟩
  · exact .inl ⟨a1, a2, a3, a4⟩
  · exact .inr ⟨a1, a2, a3, a4⟩
theorem with_ok {lo : Nat} {ins outs i k c : Int} {cs : List Int} {v : Value} (m : WithR Y lo h ins outs cs i k c v) :
    ∃ i' o' s' c' u, v = .tuple #[tabV i' o' s', u] ∧ Err Y h (withW ins outs cs i k c) u ∧ Row64 h s' c' ∧
      (((withW ins outs cs i k c).2 = 0 ∧ i' = ins ∧ o' = outs ∧ c' = cs.set (i * outs + k).toNat c) ∨ ((withW ins outs cs i k c).2 ≠ 0 ∧ i' = 0 ∧ o' = 0 ∧ c' = [])) := by
  obtain ⟨i', o', s', c', u, e, h1, h2, h4⟩ := m
  refine ⟨i', o', s', c', u, e, h1.here, h2.here, ?_⟩
  rcases h4 with a | ⟨a1, a2, a3, _, a4⟩
  · exact .inl a
  · exact .inr ⟨a1, a2, a3, a4⟩
theorem rwith_ok {lo : Nat} {ins outs i k c : Int} {cs : List Int} {v : Value} (m : RWithR lo h ins outs cs i k c v) :
    ∃ i' o' s' c' ps, v = .tuple #[tabV i' o' s', .agg #[Sl.v ps, .int .i64 (withW ins outs cs i k c).2]] ∧ WrongV h (withW ins outs cs i k c).1 (withW ins outs cs i k c).2 (.agg #[Sl.v ps, .int .i64 (withW ins outs cs i k c).2]) ∧ Row64 h s' c' ∧
      (((withW ins outs cs i k c).2 = 0 ∧ i' = ins ∧ o' = outs ∧ c' = cs.set (i * outs + k).toNat c) ∨ ((withW ins outs cs i k c).2 ≠ 0 ∧ i' = 0 ∧ o' = 0 ∧ c' = [])) := by
  obtain ⟨i', o', s', c', u, e, h1, h2, h4⟩ := m
  obtain ⟨ps, rfl⟩ := h1.here.shape
  refine ⟨i', o', s', c', ps, e, h1.here, h2.here, ?_⟩
  rcases h4 with a | ⟨a1, a2, a3, _, a4⟩
  · exact .inl a
  · exact .inr ⟨a1, a2, a3, a4⟩

theorem known2_spec (HK : Y.Has F.rlaw2_known S_rlaw2_known) (T : TurnAll Y) (RA : Y.Has F.rref6_At S_rref6_At) (HT : Y.Has F.rlaw1_Tells S_rlaw1_Tells) (E : ErrSys Y) (hg : hc h E.gb 0 = some E.hv) {R : Value → Heap → Prop} (hr : ∀ h', Ext h h' → R (.bool true) h') :
    CallP Y F.rlaw2_known [] h R := by
  have T' := T.toTurnFns
  refine .of_has HK rfl ?_
  simp [S_rlaw2_known, FnS.wp]
  refine free_spec T.Free T' ?_
  intro h1 v e1 m1
  obtain ⟨i1, o1, s1, c1, u1, rfl, er1, r1, hc1⟩ := made_ok m1
  obtain ⟨_, rfl, rfl, rfl⟩ := hc1.resolve_right (fun h => h.1 (by decide))
  have := er1.nil (by decide)
  subst this
  simp [tabV]
  refine new_store (vs := #[.int .i64 2, .int .i64 3, s1.v]) rfl rfl (by simp) ?_
  intro b1 h2 g2 B2 e2 st
  simp
  refine st _ ?_
  intro h3 B3 e3
  clear B2 e2 st g2 h2
  have r1 := r1.ext e3
  have x3 := e1.trans e3
  simp [rd_blk B3]
  refine with_spec T.With T.Clone T' r1 ?_
  intro h4 v e4 m4
  obtain ⟨i4, o4, s4, c4, u4, rfl, er4, r4, hc4⟩ := with_ok m4
  obtain ⟨_, rfl, rfl, rfl⟩ := hc4.resolve_right (fun h => h.1 (by decide))
  have := er4.nil (by decide)
  subst this
  have r1 := r1.ext e4
  have B3 := B3.ext e4
  have x4 := x3.trans e4
  simp [tabV]
  refine new_store (vs := #[.int .i64 2, .int .i64 3, s4.v]) rfl rfl (by simp) ?_
  intro b5 h2 g2 B2 e2 st
  simp
  refine st _ ?_
  intro h5 B5 e5
  clear B2 e2 st g2 h2
  have r1 := r1.ext e5
  have r4 := r4.ext e5
  have B3 := B3.ext e5
  have x5 := x4.trans e5
  simp
  refine back_spec T.Back T.Free T' ?_
  intro h6 v e6 m6
  obtain ⟨i6, o6, s6, c6, u6, rfl, er6, r6, hc6⟩ := made_ok m6
  obtain ⟨_, rfl, rfl, rfl⟩ := hc6.resolve_right (fun h => h.1 (by decide))
  have := er6.nil (by decide)
  subst this
  have r1 := r1.ext e6
  have r4 := r4.ext e6
  have B3 := B3.ext e6
  have B5 := B5.ext e6
  have x6 := x5.trans e6
  simp [tabV]
  refine new_store (vs := #[.int .i64 2, .int .i64 2, s6.v]) rfl rfl (by simp) ?_
  intro b7 h2 g2 B2 e2 st
  simp
  refine st _ ?_
  intro h7 B7 e7
  clear B2 e2 st g2 h2
  have r1 := r1.ext e7
  have r4 := r4.ext e7
  have r6 := r6.ext e7
  have B3 := B3.ext e7
  have B5 := B5.ext e7
  have x7 := x6.trans e7
  simp [rd_blk B3]
  refine with_spec T.With T.Clone T' r1 ?_
  intro h8 v e8 m8
  obtain ⟨i8, o8, s8, c8, u8, rfl, er8, r8, hc8⟩ := with_ok m8
  obtain ⟨n8, t8, hu8⟩ := er8.iface (by decide)
  have r1 := r1.ext e8
  have r4 := r4.ext e8
  have r6 := r6.ext e8
  have B3 := B3.ext e8
  have B5 := B5.ext e8
  have B7 := B7.ext e8
  have x8 := x7.trans e8
  simp [tabV]
  refine new_store (vs := #[.int .i64 i8, .int .i64 o8, s8.v]) rfl rfl (by simp) ?_
  intro b9 h2 g2 B2 e2 st
  simp
  refine st _ ?_
  intro h9 B9 e9
  clear B2 e2 st g2 h2
  have r1 := r1.ext e9
  have r4 := r4.ext e9
  have r6 := r6.ext e9
  have B3 := B3.ext e9
  have B5 := B5.ext e9
  have B7 := B7.ext e9
  have er8 := er8.ext e9
  have x9 := x8.trans e9
  have n1 : s1.n = 6 := by have := r1.len; simp [zerosL] at this; omega
  have n4 : s4.n = 6 := by have := r4.len; simp [zerosL] at this; omega
  have n6 : s6.n = 4 := by have := r6.len; rw [show (backL (2 : Int).toNat).length = 4 from by decide] at this; omega
  simp [B3.hc, n1, rd_blk B5]
  refine at_spec T' r4 ?_
  intro h10 e10
  rw [show atV 2 3 ((zerosL (2 * 3 : Int).toNat).set (1 * 3 + 2 : Int).toNat 1152921504606846976) 1 2 = 1152921504606846976 from by decide]
  have B5 := B5.ext e10
  have r4 := r4.ext e10
  simp [rd_blk B5]
  refine at_spec T' r4 ?_
  intro h11 e11
  rw [show atV 2 3 ((zerosL (2 * 3 : Int).toNat).set (1 * 3 + 2 : Int).toNat 1152921504606846976) 1 1 = 0 from by decide]
  have B5 := B5.ext e11
  have r4 := r4.ext e11
  simp [rd_blk B5]
  refine at_spec T' r4 ?_
  intro h12 e12
  rw [show atV 2 3 ((zerosL (2 * 3 : Int).toNat).set (1 * 3 + 2 : Int).toNat 1152921504606846976) 1 3 = 1152921504606846976 from by decide]
  have B5 := B5.ext e12
  have r4 := r4.ext e12
  simp [rd_blk B5]
  refine bans_spec T.Bans r4 (by omega) ?_
  intro h13 e13
  rw [show bans ((zerosL (2 * 3 : Int).toNat).set (1 * 3 + 2 : Int).toNat 1152921504606846976) = 1 from by decide]
  have y13 := ((e10.trans e11).trans e12).trans e13
  have B3 := B3.ext y13
  have r1 := r1.ext y13
  have B5 := B5.ext e13
  have r4 := r4.ext e13
  simp [rd_blk B3]
  refine bans_spec T.Bans r1 (by omega) ?_
  intro h14 e14
  rw [show bans (zerosL (2 * 3 : Int).toNat) = 0 from by decide]
  have B7 := B7.ext (y13.trans e14)
  have r6 := r6.ext (y13.trans e14)
  simp [rd_blk B7]
  refine bans_spec T.Bans r6 (by omega) ?_
  intro h15 e15
  rw [show bans (backL (2 : Int).toNat) = 2 from by decide]
  have B7 := B7.ext e15
  have r6 := r6.ext e15
  simp [rd_blk B7]
  refine at_spec T' r6 ?_
  intro h16 e16
  rw [show atV 2 2 (backL (2 : Int).toNat) 0 1 = 0 from by decide]
  have y16 := (e14.trans e15).trans e16
  have B3 := B3.ext y16
  have r1 := r1.ext y16
  have B5 := B5.ext y16
  have r4 := r4.ext y16
  simp [rd_blk B3, rd_blk B5]
  refine same_spec' T.Eq r1 r4 (by omega) ?_
  intro h17 e17
  rw [show decide ((2 : Int) = 2 ∧ (3 : Int) = 3 ∧ zerosL (2 * 3 : Int).toNat = (zerosL (2 * 3 : Int).toNat).set (1 * 3 + 2 : Int).toNat 1152921504606846976) = false from by decide]
  have B5 := B5.ext e17
  have r4 := r4.ext e17
  simp
  refine rat_spec RA ?_
  intro h18 v e18 hv
  have z := (y13.trans y16).trans (e17.trans e18)
  have er8 := er8.ext z
  simp
  refine tells_spec HT E ((x9.trans z).hc hg (fun h => h)) hv.here er8 (fun _ => by decide) (by decide) ?_
  intro h19 e19
  have B5 := B5.ext (e18.trans e19)
  have r4 := r4.ext (e18.trans e19)
  simp [rd_blk B5]
  refine check_spec T' r4 ?_
  intro v h20 e20 hv
  have := hv.here.nil (by decide)
  subst this
  simp
  exact hr _ ((x9.trans z).trans (e19.trans e20))
end
end Go.Rm
