/- The laws of tables of turns: TurnApart. -/
import Derived.Test.YtomdihnecddfjaaDoorRLaw2d
set_option linter.unusedSimpArgs false
set_option linter.unusedVariables false
namespace Go.Rm

theorem apart_same {i o : Int} {a b : List Int} (ha : (tabW i o a).2 = 0) (hb : (tabW i o b).2 = 0) (h : ∀ x y : Nat, (x : Int) < i → (y : Int) < o → atV i o a x y = atV i o b x y) : a = b := by
  obtain ⟨i0, i1, o0, o1, la, _, _⟩ := tab_ok ha
  obtain ⟨_, _, _, _, lb, _, _⟩ := tab_ok hb
  apply nthI_ext (by omega)
  intro j hj
  have hj' : (j : Int) < i * o := by omega
  have ho : 0 < o := by
    by_cases h : 0 < o
    · exact h
    · have : o = 0 := by omega
      rw [this] at hj'; simp at hj'; omega
  have k0 : 0 ≤ (j : Int) % o := Int.emod_nonneg _ (by omega)
  have k1 : (j : Int) % o < o := Int.emod_lt_of_pos _ ho
  have d0 : 0 ≤ (j : Int) / o := Int.ediv_nonneg (by omega) (by omega)
  have d1 : (j : Int) / o < i := Int.ediv_lt_of_lt_mul ho hj'
  have hp : (j : Int) / o * o + (j : Int) % o = j := by rw [Int.mul_comm]; exact Int.mul_ediv_add_emod _ _
  have := h ((j : Int) / o).toNat ((j : Int) % o).toNat (by omega) (by omega)
  rw [Int.toNat_of_nonneg d0, Int.toNat_of_nonneg k0] at this
  obtain ⟨e1, _, _⟩ := atV_in ha d0 d1 k0 k1
  obtain ⟨e2, _, _⟩ := atV_in hb d0 d1 k0 k1
  rw [e1, e2, hp] at this
  simpa using this

section
variable {Y : Sys} {h : Heap}

theorem to_spec2 (HT : Y.Has F.rlaw2_To S_rlaw2_To) {ins outs : Int} {s : Sl} {cs : List Int} (r : Row64 h s cs) (hbig : s.n ≤ 1000000) {R : Value → Heap → Prop}
    (hr : ∀ h' s', Ext h h' → Fresh h.size (fun h => Row64 h s' cs) h' → R (tabV ins outs s') h') : CallP Y F.rlaw2_To [tabV ins outs s] h R := by
  refine .of_has HT rfl ?_
  simp [S_rlaw2_To, FnS.wp, tabV]
  refine ef_new_box ?_
  intro b h1 g1 B1 e1
  simp
  refine ef_new_box ?_
  intro rb h2 g2 B2 e2
  have B1' := B1.ext e2
  have e12 := e1.trans e2
  have z1 := e1.size
  have B2lt := B2.lt
  simp [B1'.hc, ef_bslice0]
  intro t
  have e3 : Ext h2 (h2.push (.cells #[] t)) := Mod.push
  have B3 := B1'.ext e3
  simp [B3.hc]
  refine ef_clone64 ((r.ext e12).ext e3) (by omega) own_empty (.inr (Nat.le_refl _)) e3 ?_
  intro s' h4 o4 hs' e4
  have B4 := B1'.ext e4
  simp [B4.hc]
  refine ef_store_box (B2.ext e4) rfl rfl (by simp) ?_
  intro h5 B5 m5
  simp
  refine resP_x rfl B5 rfl ?_
  refine hr h5 s' (Mod.ext (e12.trans e4) m5 (fun j hj => by omega)) ?_
  have o5 := o4.mod m5 (fun hn h => by
    rcases hs' with hs' | hs'
    · rw [hn] at hs'; cases hs'
    · omega)
  exact fresh_row o5 (hs'.imp id (fun h => by omega))

/-- so far all turns cost the same -/
def Alike (i o : Int) (a b : List Int) (x y : Int) : Prop := ∀ x' y' : Nat, ((x' : Int) < x ∨ ((x' : Int) = x ∧ (y' : Int) < y)) → (x' : Int) < i → (y' : Int) < o → atV i o a x' y' = atV i o b x' y'

def ApI (v0 v1 : Value) (A B N5 N6 : Nat) (i o j p : Int) (a b : List Int) (v10 v11 : Value) (h0 : Heap) (e : List Value) (h' : Heap) : Prop :=
  ∃ (x : Nat) (sm : Bool) (v9 v12 v13 : Value), e = [v0, v1, .pointer (some ⟨A, 0, none⟩), .pointer (some ⟨B, 0, none⟩), .bool false, .pointer (some ⟨N5, 0, none⟩), .pointer (some ⟨N6, 0, none⟩), .bool sm, .int .i64 x, v9, v10, v11, v12, v13] ∧
    (x : Int) ≤ i ∧ (sm = true ↔ (i = j ∧ o = p ∧ Alike i o a b x 0)) ∧ Ext h0 h'
def ApJ (v0 v1 : Value) (A B N5 N6 : Nat) (i o j p : Int) (a b : List Int) (x : Nat) (v10 v11 v12 : Value) (h0 : Heap) (e : List Value) (h' : Heap) : Prop :=
  ∃ (y : Nat) (sm : Bool) (v13 : Value), e = [v0, v1, .pointer (some ⟨A, 0, none⟩), .pointer (some ⟨B, 0, none⟩), .bool false, .pointer (some ⟨N5, 0, none⟩), .pointer (some ⟨N6, 0, none⟩), .bool sm, .int .i64 x, .int .i64 y, v10, v11, v12, v13] ∧
    (y : Int) ≤ o ∧ (sm = true ↔ (i = j ∧ o = p ∧ Alike i o a b x y)) ∧ Ext h0 h'

set_option maxHeartbeats 1000000 in
theorem apart_spec (HM : Y.Has F.rlaw2_TurnApart S_rlaw2_TurnApart) (HK : Y.Has F.rlaw2_known S_rlaw2_known) (HTo : Y.Has F.rlaw2_To S_rlaw2_To) (T : TurnAll Y) (RT : RefAll Y) (HT : Y.Has F.rlaw1_Tells S_rlaw1_Tells) (E : ErrSys Y)
    (hg : hc h E.gb 0 = some E.hv) {i o j p : Int} {s t : Sl} {a b : List Int} (ra : Row64 h s a) (rb : Row64 h t b) {R : Value → Heap → Prop} (hr : ∀ h', Ext h h' → R (.bool true) h') :
    CallP Y F.rlaw2_TurnApart [tabV i o s, tabV j p t] h R := by
  have T' := T.toTurnFns
  have R' := RT.toRefTab
  refine .of_has HM rfl ?_
  have cont : ∀ (h5 : Heap) (A B N5 N6 : Nat) (s5 s6 : Sl) (v10 v11 : Value), Ext h h5 → (tabW i o a).2 = 0 → (tabW j p b).2 = 0 → s.n ≤ 300 → t.n ≤ 300 →
      Blk h5 N5 #[.int .i64 i, .int .i64 o, s5.v] → Blk h5 N6 #[.int .i64 j, .int .i64 p, s6.v] → Row64 h5 s5 a → Row64 h5 s6 b →
      Stmt.wp Y S_rlaw2_TurnApart.body.tl.tl.tl.tl (resP [.n 4] R) (fun _ _ _ => False) (resP [.n 4] R)
        [tabV i o s, tabV j p t, .pointer (some ⟨A, 0, none⟩), .pointer (some ⟨B, 0, none⟩), .bool false, .pointer (some ⟨N5, 0, none⟩), .pointer (some ⟨N6, 0, none⟩), undef, undef, undef, v10, v11, undef, undef] h5 := by
    intro h5 A B N5 N6 s5 s6 v10 v11 x5 ha hb hs ht b5 b6 r5 r6
    have l5 := r5.len
    have l6 := r6.len
    have la := ra.len
    have lb := rb.len
    obtain ⟨i0, i1, o0, o1, _, _, _⟩ := tab_ok ha
    have hst : ∀ (v12 v13 : Value) (sm : Bool), (sm = true ↔ (i = j ∧ o = p)) → ApI (tabV i o s) (tabV j p t) A B N5 N6 i o j p a b v10 v11 h5 [tabV i o s, tabV j p t, .pointer (some ⟨A, 0, none⟩), .pointer (some ⟨B, 0, none⟩), .bool false, .pointer (some ⟨N5, 0, none⟩), .pointer (some ⟨N6, 0, none⟩), .bool sm, .int .i64 0, undef, v10, v11, v12, v13] h5 := by
      intro v12 v13 sm hsm
      refine ⟨0, sm, _, _, _, rfl, by omega, ?_, Mod.refl _⟩
      rw [hsm]
      constructor
      · rintro ⟨h1, h2⟩
        exact ⟨h1, h2, fun x' y' hx => by omega⟩
      · rintro ⟨h1, h2, _⟩
        exact ⟨h1, h2⟩
    have loop : ∀ (v12 v13 : Value) (sm : Bool), (sm = true ↔ (i = j ∧ o = p)) →
        Stmt.wp Y S_rlaw2_TurnApart.body.tl.tl.tl.tl.tl (resP [.n 4] R) (fun _ _ _ => False) (resP [.n 4] R)
        [tabV i o s, tabV j p t, .pointer (some ⟨A, 0, none⟩), .pointer (some ⟨B, 0, none⟩), .bool false, .pointer (some ⟨N5, 0, none⟩), .pointer (some ⟨N6, 0, none⟩), .bool sm, undef, undef, v10, v11, v12, v13] h5 := by
      intro v12 v13 sm hsm
      simp [S_rlaw2_TurnApart, Stmt.tl]
      refine wp_loop' (ApI (tabV i o s) (tabV j p t) A B N5 N6 i o j p a b v10 v11 h5) (fun e _ => i.toNat - argI e 8) (hst _ _ _ hsm) ?_
      clear hst hsm
      rintro e h6 ⟨x, sm, v9, v12, v13, rfl, hx, hsm, x6⟩
      have wx : IntKind.i64.wrap ((x : Int) + 1) = (x : Int) + 1 := i64_wrap (by omega)
      -- the end
      have fin : (sm = true ↔ (i = j ∧ o = p ∧ a = b)) → ∀ (v12' : Value), Stmt.wp Y S_rlaw2_TurnApart.body.tl.tl.tl.tl.tl.tl (resP [.n 4] R) (fun _ _ _ => False) (resP [.n 4] R)
          [tabV i o s, tabV j p t, .pointer (some ⟨A, 0, none⟩), .pointer (some ⟨B, 0, none⟩), .bool false, .pointer (some ⟨N5, 0, none⟩), .pointer (some ⟨N6, 0, none⟩), .bool sm, .int .i64 x, v9, v10, v11, v12', v13] h6 := by
        intro hiff v12'
        have d1 : decide (i = j ∧ o = p ∧ a = b) = sm := by
          cases sm with
          | true => exact decide_eq_true (hiff.1 rfl)
          | false => exact decide_eq_false fun h => by have := hiff.2 h; cases this
        have d2 : decide (j = i ∧ p = o ∧ b = a) = sm := by
          rw [← d1, decide_eq_decide]
          constructor
          · rintro ⟨h1, h2, h3⟩; exact ⟨h1.symm, h2.symm, h3.symm⟩
          · rintro ⟨h1, h2, h3⟩; exact ⟨h1.symm, h2.symm, h3.symm⟩
        simp [S_rlaw2_TurnApart, Stmt.tl, rd_blk (b5.ext x6), rd_blk (b6.ext x6)]
        refine same_spec' T' (s := s5) (t := s6) (r5.ext x6) (r6.ext x6) (by omega) ?_
        intro h7 e7
        rw [d1]
        have x7 := x6.trans e7
        simp [rd_blk (b5.ext x7), rd_blk (b6.ext x7)]
        refine same_spec' T' (s := s6) (t := s5) (r6.ext x7) (r5.ext x7) (by omega) ?_
        intro h8 e8
        rw [d2]
        simp
        exact hr _ ((x5.trans x7).trans e8)
      simp only [S_rlaw2_TurnApart, Stmt.tl] at fin
      by_cases hlt : (x : Int) < i
      · cases sm with
        | false =>
          have hne : ¬ (i = j ∧ o = p ∧ a = b) := by
            rintro ⟨h1, h2, h3⟩
            have := hsm.2 ⟨h1, h2, fun _ _ _ _ _ => by rw [h3]⟩
            cases this
          simp [(b5.ext x6).hc, hlt, -SeqK_ap]
          rw [SeqK_ap]
          exact fin (by constructor; · intro h; cases h
                        · intro h; exact absurd h hne) _
        | true =>
          obtain ⟨hij, hop, hal⟩ := hsm.1 rfl
          simp [(b5.ext x6).hc, hlt]
          refine wp_loop' (ApJ (tabV i o s) (tabV j p t) A B N5 N6 i o j p a b x v10 v11 (.bool true) h5) (fun e _ => o.toNat - argI e 9) ⟨0, true, _, rfl, by omega, ⟨fun _ => ⟨hij, hop, hal⟩, fun _ => rfl⟩, x6⟩ ?_
          clear hal hsm fin
          rintro e h7 ⟨y, sm, v13, rfl, hy, hsm, x7⟩
          have wy : IntKind.i64.wrap ((y : Int) + 1) = (y : Int) + 1 := i64_wrap (by omega)
          by_cases hlt2 : (y : Int) < o
          · have stepIff : ∀ (q : Bool), (q = true ↔ (sm = true ∧ atV i o a x y = atV i o b x y)) → (q = true ↔ (i = j ∧ o = p ∧ Alike i o a b x ((y + 1 : Nat) : Int))) := by
              intro q hq
              rw [hq, hsm]
              constructor
              · rintro ⟨⟨h1, h2, h3⟩, h4⟩
                refine ⟨h1, h2, fun x' y' hxy hx' hy' => ?_⟩
                by_cases hc : (x' : Int) < x ∨ ((x' : Int) = x ∧ (y' : Int) < y)
                · exact h3 x' y' hc hx' hy'
                · have e1 : x' = x := by omega
                  have e2 : y' = y := by omega
                  rw [e1, e2]; exact h4
              · rintro ⟨h1, h2, h3⟩
                exact ⟨⟨h1, h2, fun x' y' hxy hx' hy' => h3 x' y' (by omega) hx' hy'⟩, h3 x y (by omega) hlt hlt2⟩
            cases sm with
            | false =>
              simp [(b5.ext x7).hc, hlt2, wy]
              exact ⟨⟨y + 1, false, _, rfl, by omega, stepIff false (by simp), x7⟩, by simp [argI]; omega⟩
            | true =>
              simp [(b5.ext x7).hc, hlt2, rd_blk (b5.ext x7), rd_blk (b6.ext x7)]
              refine at_spec T' (s := s5) (r5.ext x7) ?_
              intro h8 e8
              have x8 := x7.trans e8
              simp [rd_blk (b6.ext x8)]
              refine at_spec T' (s := s6) (r6.ext x8) ?_
              intro h9 e9
              simp [wy]
              refine ⟨⟨y + 1, decide (atV i o a x y = atV j p b x y), _, rfl, by omega, stepIff _ ?_, x8.trans e9⟩, by simp [argI]; omega⟩
              rw [← hij, ← hop]
              simp
          · have hyo : (y : Int) = o := by omega
            simp [(b5.ext x7).hc, hlt2, wx]
            refine ⟨⟨x + 1, sm, _, _, _, rfl, by omega, ?_, x7⟩, by simp [argI]; omega⟩
            rw [hsm]
            constructor
            · rintro ⟨h1, h2, h3⟩
              exact ⟨h1, h2, fun x' y' hxy hx' hy' => h3 x' y' (by omega) hx' hy'⟩
            · rintro ⟨h1, h2, h3⟩
              exact ⟨h1, h2, fun x' y' hxy hx' hy' => h3 x' y' (by omega) hx' hy'⟩
      · have hxi : (x : Int) = i := by omega
        have hiff : (sm = true ↔ (i = j ∧ o = p ∧ a = b)) := by
          rw [hsm]
          constructor
          · rintro ⟨h1, h2, h3⟩
            refine ⟨h1, h2, apart_same ha (by rw [h1, h2]; exact hb) fun x' y' hx' hy' => h3 x' y' (by omega) hx' hy'⟩
          · rintro ⟨h1, h2, h3⟩
            exact ⟨h1, h2, fun _ _ _ _ _ => by rw [h3]⟩
        simp [(b5.ext x6).hc, hlt, -SeqK_ap]
        rw [SeqK_ap]
        exact fin hiff _
    simp only [S_rlaw2_TurnApart, Stmt.tl] at loop
    by_cases q1 : i = j
    · have z1 : (i = j) = True := eq_true q1
      by_cases q2 : o = p
      · have z2 : (o = p) = True := eq_true q2
        simp [S_rlaw2_TurnApart, Stmt.tl, b5.hc, b6.hc, z1, z2, -SeqK_ap]
        rw [SeqK_ap]
        exact loop _ _ true (by simp [z1, z2])
      · simp [S_rlaw2_TurnApart, Stmt.tl, b5.hc, b6.hc, z1, q2, -SeqK_ap]
        rw [SeqK_ap]
        exact loop _ _ false (by simp [q2])
    · simp [S_rlaw2_TurnApart, Stmt.tl, b5.hc, b6.hc, q1, -SeqK_ap]
      rw [SeqK_ap]
      exact loop _ _ false (by simp [q1])
  simp only [S_rlaw2_TurnApart, Stmt.tl, tabV] at cont
  simp [S_rlaw2_TurnApart, FnS.wp, tabV]
  refine ef_new_box ?_
  intro A h1 g1 A1 e1
  simp
  refine ef_new_box ?_
  intro B h2 g2 B2 e2
  have A2 := A1.ext e2
  have x2 := e1.trans e2
  simp
  refine known2_spec HK T R'.At HT E (x2.hc hg (fun h => h)) ?_
  intro h3 e3
  have x3 := x2.trans e3
  have A3 := A2.ext e3
  have B3 := B2.ext e3
  by_cases c1 : 300 < s.n
  · have c1' : (300 : Int) < s.n := by omega
    simp [A3.hc, c1']; exact hr _ x3
  have c1' : ¬ (300 : Int) < s.n := by omega
  by_cases c2 : 300 < t.n
  · have c2' : (300 : Int) < t.n := by omega
    simp [A3.hc, B3.hc, c1', c2']; exact hr _ x3
  have c2' : ¬ (300 : Int) < t.n := by omega
  have hs : s.n ≤ 300 := by omega
  have ht : t.n ≤ 300 := by omega
  simp [A3.hc, B3.hc, c1', c2', rd_blk A3]
  refine rcheck_spec R' (s := s) (ra.ext x3) ?_
  intro h4 v e4 hv
  obtain ⟨ps, rfl⟩ := hv.here.shape
  have x4 := x3.trans e4
  have A4 := A3.ext e4
  have B4 := B3.ext e4
  by_cases ha : (tabW i o a).2 = 0
  rotate_left
  · simp [ha]; exact hr _ x4
  simp [ha, rd_blk B4]
  refine rcheck_spec R' (s := t) (rb.ext x4) ?_
  intro h5 v e5 hv
  obtain ⟨ps, rfl⟩ := hv.here.shape
  have x5 := x4.trans e5
  have A5 := A4.ext e5
  have B5 := B4.ext e5
  by_cases hb : (tabW j p b).2 = 0
  rotate_left
  · simp [hb]; exact hr _ x5
  have la := ra.len
  have lb := rb.len
  have hs' : s.n ≤ 1000000 := by omega
  have ht' : t.n ≤ 1000000 := by omega
  simp [hb, rd_blk A5, rd_blk B5]
  -- the two stores, and on
  have fin : ∀ {h9 : Heap} {N5 N6 : Nat} {s5 s6 : Sl} {c5 c6 : Array Value} {K : Value → Heap → Prop}, Ext h h9 → h.size ≤ N5 → h.size ≤ N6 → N5 ≠ N6 → Blk h9 N5 c5 → Blk h9 N6 c6 → c5.size = 3 → c6.size = 3 →
      (∀ h', Mod (fun j => j = N5 ∨ j = N6) h9 h' → Row64 h' s5 a ∧ Row64 h' s6 b) →
      (∀ h10, Ext h h10 → Blk h10 N5 #[.int .i64 i, .int .i64 o, s5.v] → (∀ K2 : Value → Heap → Prop, (∀ h11, Ext h h11 → Blk h11 N5 #[.int .i64 i, .int .i64 o, s5.v] → Blk h11 N6 #[.int .i64 j, .int .i64 p, s6.v] → Row64 h11 s5 a → Row64 h11 s6 b → K2 undef h11) →
        Ef.wp h10 K2 (.store 3) [.pointer (some ⟨N6, 0, none⟩), .agg #[.int .i64 j, .int .i64 p, s6.v]]) → K undef h10) →
      Ef.wp h9 K (.store 3) [.pointer (some ⟨N5, 0, none⟩), .agg #[.int .i64 i, .int .i64 o, s5.v]] := by
    intro h9 N5 N6 s5 s6 c5 c6 K x9 g5 g6 hne B5 B6 z5 z6 hrow hk
    refine ef_store_box B5 rfl z5 (by simp) ?_
    intro h10 B10 m10
    have x10 := Mod.ext x9 m10 (fun j hj => by omega)
    have B6' := m10.blk B6 (fun h => hne h.symm)
    refine hk h10 x10 B10 ?_
    intro K2 hk2
    refine ef_store_box B6' rfl z6 (by simp) ?_
    intro h11 B11 m11
    obtain ⟨q1, q2⟩ := hrow h11 ((m10.mono fun j _ hj => .inl hj).trans (m11.mono fun j _ hj => .inr hj))
    exact hk2 h11 (Mod.ext x10 m11 (fun j hj => by omega)) (m11.blk B10 hne) B11 q1 q2
  have s0 : h.size ≤ h5.size := x5.size
  refine ⟨?_, ?_⟩
  · refine to_spec2 HTo (s := s) (ra.ext x5) hs' ?_
    intro k1 s5 f1 q5
    have z1 := f1.size
    have y1 : Ext h5 k1 := f1
    simp [rd_blk (A5.ext y1), rd_blk (B5.ext y1), tabV]
    refine ⟨?_, ?_⟩
    · refine to_spec2 HTo (s := t) (rb.ext (x5.trans y1)) ht' ?_
      intro k2 s6 f2 q6
      have z2 := f2.size
      have y2 : Ext h5 k2 := y1.trans f2
      simp [rd_blk (A5.ext y2), rd_blk (B5.ext y2), tabV]
      refine ⟨?_, ?_⟩
      · refine ef_new_box ?_
        intro N5 k3 gN5 BN5 f3
        have z3 := f3.size
        have l3 := BN5.lt
        have y3 : Ext h5 k3 := y2.trans f3
        simp [rd_blk (A5.ext y3), rd_blk (B5.ext y3), tabV]
        refine ef_new_box ?_
        intro N6 k4 gN6 BN6 f4
        have z4 := f4.size
        have l4 := BN6.lt
        have y4 : Ext h5 k4 := y3.trans f4
        simp [rd_blk (A5.ext y4), rd_blk (B5.ext y4), tabV]
        refine fin (s5 := s5) (s6 := s6) (x5.trans y4) (by omega) (by omega) (by omega) (BN5.ext f4) BN6 rfl rfl (fun h' m => ⟨q5 h' (Mod.then (((f2.trans f3).trans f4).mono fun _ _ h => h.elim) m (fun i hi hS => by omega)), q6 h' (Mod.then ((f3.trans f4).mono fun _ _ h => h.elim) m (fun i hi hS => by omega))⟩) ?_
        intro h10 x10 B10 st
        simp
        refine st _ ?_
        intro h11 x11 b5 b6 r5 r6
        simp [-SeqK_ap]
        rw [SeqK_ap]
        exact cont h11 A B N5 N6 s5 s6 _ _ x11 ha hb hs ht b5 b6 r5 r6
      · refine ef_new_box ?_
        intro N6 k3 gN6 BN6 f3
        have z3 := f3.size
        have l3 := BN6.lt
        have y3 : Ext h5 k3 := y2.trans f3
        simp [rd_blk (A5.ext y3), rd_blk (B5.ext y3), tabV]
        refine ef_new_box ?_
        intro N5 k4 gN5 BN5 f4
        have z4 := f4.size
        have l4 := BN5.lt
        have y4 : Ext h5 k4 := y3.trans f4
        simp [rd_blk (A5.ext y4), rd_blk (B5.ext y4), tabV]
        refine fin (s5 := s5) (s6 := s6) (x5.trans y4) (by omega) (by omega) (by omega) BN5 (BN6.ext f4) rfl rfl (fun h' m => ⟨q5 h' (Mod.then (((f2.trans f3).trans f4).mono fun _ _ h => h.elim) m (fun i hi hS => by omega)), q6 h' (Mod.then ((f3.trans f4).mono fun _ _ h => h.elim) m (fun i hi hS => by omega))⟩) ?_
        intro h10 x10 B10 st
        simp
        refine st _ ?_
        intro h11 x11 b5 b6 r5 r6
        simp [-SeqK_ap]
        rw [SeqK_ap]
        exact cont h11 A B N5 N6 s5 s6 _ _ x11 ha hb hs ht b5 b6 r5 r6
    · refine ⟨?_, ?_⟩
      · refine ef_new_box ?_
        intro N5 k2 gN5 BN5 f2
        have z2 := f2.size
        have l2 := BN5.lt
        have y2 : Ext h5 k2 := y1.trans f2
        simp [rd_blk (A5.ext y2), rd_blk (B5.ext y2), tabV]
        refine ⟨?_, ?_⟩
        · refine to_spec2 HTo (s := t) (rb.ext (x5.trans y2)) ht' ?_
          intro k3 s6 f3 q6
          have z3 := f3.size
          have y3 : Ext h5 k3 := y2.trans f3
          simp [rd_blk (A5.ext y3), rd_blk (B5.ext y3), tabV]
          refine ef_new_box ?_
          intro N6 k4 gN6 BN6 f4
          have z4 := f4.size
          have l4 := BN6.lt
          have y4 : Ext h5 k4 := y3.trans f4
          simp [rd_blk (A5.ext y4), rd_blk (B5.ext y4), tabV]
          refine fin (s5 := s5) (s6 := s6) (x5.trans y4) (by omega) (by omega) (by omega) (BN5.ext (f3.trans f4)) BN6 rfl rfl (fun h' m => ⟨q5 h' (Mod.then (((f2.trans f3).trans f4).mono fun _ _ h => h.elim) m (fun i hi hS => by omega)), q6 h' (Mod.then (f4.mono fun _ _ h => h.elim) m (fun i hi hS => by omega))⟩) ?_
          intro h10 x10 B10 st
          simp
          refine st _ ?_
          intro h11 x11 b5 b6 r5 r6
          simp [-SeqK_ap]
          rw [SeqK_ap]
          exact cont h11 A B N5 N6 s5 s6 _ _ x11 ha hb hs ht b5 b6 r5 r6
        · refine ef_new_box ?_
          intro N6 k3 gN6 BN6 f3
          have z3 := f3.size
          have l3 := BN6.lt
          have y3 : Ext h5 k3 := y2.trans f3
          simp [rd_blk (A5.ext y3), rd_blk (B5.ext y3), tabV]
          refine to_spec2 HTo (s := t) (rb.ext (x5.trans y3)) ht' ?_
          intro k4 s6 f4 q6
          have z4 := f4.size
          have y4 : Ext h5 k4 := y3.trans f4
          simp [rd_blk (A5.ext y4), rd_blk (B5.ext y4), tabV]
          refine fin (s5 := s5) (s6 := s6) (x5.trans y4) (by omega) (by omega) (by omega) (BN5.ext (f3.trans f4)) (BN6.ext f4) rfl rfl (fun h' m => ⟨q5 h' (Mod.then (((f2.trans f3).trans f4).mono fun _ _ h => h.elim) m (fun i hi hS => by omega)), q6 h' (Mod.then ((Mod.refl _ : Ext k4 k4).mono fun _ _ h => h.elim) m (fun i hi hS => by omega))⟩) ?_
          intro h10 x10 B10 st
          simp
          refine st _ ?_
          intro h11 x11 b5 b6 r5 r6
          simp [-SeqK_ap]
          rw [SeqK_ap]
          exact cont h11 A B N5 N6 s5 s6 _ _ x11 ha hb hs ht b5 b6 r5 r6
      · refine ef_new_box ?_
        intro N6 k2 gN6 BN6 f2
        have z2 := f2.size
        have l2 := BN6.lt
        have y2 : Ext h5 k2 := y1.trans f2
        simp [rd_blk (A5.ext y2), rd_blk (B5.ext y2), tabV]
        refine ⟨?_, ?_⟩
        · refine to_spec2 HTo (s := t) (rb.ext (x5.trans y2)) ht' ?_
          intro k3 s6 f3 q6
          have z3 := f3.size
          have y3 : Ext h5 k3 := y2.trans f3
          simp [rd_blk (A5.ext y3), rd_blk (B5.ext y3), tabV]
          refine ef_new_box ?_
          intro N5 k4 gN5 BN5 f4
          have z4 := f4.size
          have l4 := BN5.lt
          have y4 : Ext h5 k4 := y3.trans f4
          simp [rd_blk (A5.ext y4), rd_blk (B5.ext y4), tabV]
          refine fin (s5 := s5) (s6 := s6) (x5.trans y4) (by omega) (by omega) (by omega) BN5 (BN6.ext (f3.trans f4)) rfl rfl (fun h' m => ⟨q5 h' (Mod.then (((f2.trans f3).trans f4).mono fun _ _ h => h.elim) m (fun i hi hS => by omega)), q6 h' (Mod.then (f4.mono fun _ _ h => h.elim) m (fun i hi hS => by omega))⟩) ?_
          intro h10 x10 B10 st
          simp
          refine st _ ?_
          intro h11 x11 b5 b6 r5 r6
          simp [-SeqK_ap]
          rw [SeqK_ap]
          exact cont h11 A B N5 N6 s5 s6 _ _ x11 ha hb hs ht b5 b6 r5 r6
        · refine ef_new_box ?_
          intro N5 k3 gN5 BN5 f3
          have z3 := f3.size
          have l3 := BN5.lt
          have y3 : Ext h5 k3 := y2.trans f3
          simp [rd_blk (A5.ext y3), rd_blk (B5.ext y3), tabV]
          refine to_spec2 HTo (s := t) (rb.ext (x5.trans y3)) ht' ?_
          intro k4 s6 f4 q6
          have z4 := f4.size
          have y4 : Ext h5 k4 := y3.trans f4
          simp [rd_blk (A5.ext y4), rd_blk (B5.ext y4), tabV]
          refine fin (s5 := s5) (s6 := s6) (x5.trans y4) (by omega) (by omega) (by omega) (BN5.ext f4) (BN6.ext (f3.trans f4)) rfl rfl (fun h' m => ⟨q5 h' (Mod.then (((f2.trans f3).trans f4).mono fun _ _ h => h.elim) m (fun i hi hS => by omega)), q6 h' (Mod.then ((Mod.refl _ : Ext k4 k4).mono fun _ _ h => h.elim) m (fun i hi hS => by omega))⟩) ?_
          intro h10 x10 B10 st
          simp
          refine st _ ?_
          intro h11 x11 b5 b6 r5 r6
          simp [-SeqK_ap]
          rw [SeqK_ap]
          exact cont h11 A B N5 N6 s5 s6 _ _ x11 ha hb hs ht b5 b6 r5 r6
  · refine ⟨?_, ?_⟩
    · refine ef_new_box ?_
      intro N5 k1 gN5 BN5 f1
      have z1 := f1.size
      have l1 := BN5.lt
      have y1 : Ext h5 k1 := f1
      simp [rd_blk (A5.ext y1), rd_blk (B5.ext y1), tabV]
      refine ⟨?_, ?_⟩
      · refine to_spec2 HTo (s := s) (ra.ext (x5.trans y1)) hs' ?_
        intro k2 s5 f2 q5
        have z2 := f2.size
        have y2 : Ext h5 k2 := y1.trans f2
        simp [rd_blk (A5.ext y2), rd_blk (B5.ext y2), tabV]
        refine ⟨?_, ?_⟩
        · refine to_spec2 HTo (s := t) (rb.ext (x5.trans y2)) ht' ?_
          intro k3 s6 f3 q6
          have z3 := f3.size
          have y3 : Ext h5 k3 := y2.trans f3
          simp [rd_blk (A5.ext y3), rd_blk (B5.ext y3), tabV]
          refine ef_new_box ?_
          intro N6 k4 gN6 BN6 f4
          have z4 := f4.size
          have l4 := BN6.lt
          have y4 : Ext h5 k4 := y3.trans f4
          simp [rd_blk (A5.ext y4), rd_blk (B5.ext y4), tabV]
          refine fin (s5 := s5) (s6 := s6) (x5.trans y4) (by omega) (by omega) (by omega) (BN5.ext ((f2.trans f3).trans f4)) BN6 rfl rfl (fun h' m => ⟨q5 h' (Mod.then ((f3.trans f4).mono fun _ _ h => h.elim) m (fun i hi hS => by omega)), q6 h' (Mod.then (f4.mono fun _ _ h => h.elim) m (fun i hi hS => by omega))⟩) ?_
          intro h10 x10 B10 st
          simp
          refine st _ ?_
          intro h11 x11 b5 b6 r5 r6
          simp [-SeqK_ap]
          rw [SeqK_ap]
          exact cont h11 A B N5 N6 s5 s6 _ _ x11 ha hb hs ht b5 b6 r5 r6
        · refine ef_new_box ?_
          intro N6 k3 gN6 BN6 f3
          have z3 := f3.size
          have l3 := BN6.lt
          have y3 : Ext h5 k3 := y2.trans f3
          simp [rd_blk (A5.ext y3), rd_blk (B5.ext y3), tabV]
          refine to_spec2 HTo (s := t) (rb.ext (x5.trans y3)) ht' ?_
          intro k4 s6 f4 q6
          have z4 := f4.size
          have y4 : Ext h5 k4 := y3.trans f4
          simp [rd_blk (A5.ext y4), rd_blk (B5.ext y4), tabV]
          refine fin (s5 := s5) (s6 := s6) (x5.trans y4) (by omega) (by omega) (by omega) (BN5.ext ((f2.trans f3).trans f4)) (BN6.ext f4) rfl rfl (fun h' m => ⟨q5 h' (Mod.then ((f3.trans f4).mono fun _ _ h => h.elim) m (fun i hi hS => by omega)), q6 h' (Mod.then ((Mod.refl _ : Ext k4 k4).mono fun _ _ h => h.elim) m (fun i hi hS => by omega))⟩) ?_
          intro h10 x10 B10 st
          simp
          refine st _ ?_
          intro h11 x11 b5 b6 r5 r6
          simp [-SeqK_ap]
          rw [SeqK_ap]
          exact cont h11 A B N5 N6 s5 s6 _ _ x11 ha hb hs ht b5 b6 r5 r6
      · refine ef_new_box ?_
        intro N6 k2 gN6 BN6 f2
        have z2 := f2.size
        have l2 := BN6.lt
        have y2 : Ext h5 k2 := y1.trans f2
        simp [rd_blk (A5.ext y2), rd_blk (B5.ext y2), tabV]
        refine to_spec2 HTo (s := s) (ra.ext (x5.trans y2)) hs' ?_
        intro k3 s5 f3 q5
        have z3 := f3.size
        have y3 : Ext h5 k3 := y2.trans f3
        simp [rd_blk (A5.ext y3), rd_blk (B5.ext y3), tabV]
        refine to_spec2 HTo (s := t) (rb.ext (x5.trans y3)) ht' ?_
        intro k4 s6 f4 q6
        have z4 := f4.size
        have y4 : Ext h5 k4 := y3.trans f4
        simp [rd_blk (A5.ext y4), rd_blk (B5.ext y4), tabV]
        refine fin (s5 := s5) (s6 := s6) (x5.trans y4) (by omega) (by omega) (by omega) (BN5.ext ((f2.trans f3).trans f4)) (BN6.ext (f3.trans f4)) rfl rfl (fun h' m => ⟨q5 h' (Mod.then (f4.mono fun _ _ h => h.elim) m (fun i hi hS => by omega)), q6 h' (Mod.then ((Mod.refl _ : Ext k4 k4).mono fun _ _ h => h.elim) m (fun i hi hS => by omega))⟩) ?_
        intro h10 x10 B10 st
        simp
        refine st _ ?_
        intro h11 x11 b5 b6 r5 r6
        simp [-SeqK_ap]
        rw [SeqK_ap]
        exact cont h11 A B N5 N6 s5 s6 _ _ x11 ha hb hs ht b5 b6 r5 r6
    · refine ef_new_box ?_
      intro N6 k1 gN6 BN6 f1
      have z1 := f1.size
      have l1 := BN6.lt
      have y1 : Ext h5 k1 := f1
      simp [rd_blk (A5.ext y1), rd_blk (B5.ext y1), tabV]
      refine ⟨?_, ?_⟩
      · refine to_spec2 HTo (s := s) (ra.ext (x5.trans y1)) hs' ?_
        intro k2 s5 f2 q5
        have z2 := f2.size
        have y2 : Ext h5 k2 := y1.trans f2
        simp [rd_blk (A5.ext y2), rd_blk (B5.ext y2), tabV]
        refine ⟨?_, ?_⟩
        · refine to_spec2 HTo (s := t) (rb.ext (x5.trans y2)) ht' ?_
          intro k3 s6 f3 q6
          have z3 := f3.size
          have y3 : Ext h5 k3 := y2.trans f3
          simp [rd_blk (A5.ext y3), rd_blk (B5.ext y3), tabV]
          refine ef_new_box ?_
          intro N5 k4 gN5 BN5 f4
          have z4 := f4.size
          have l4 := BN5.lt
          have y4 : Ext h5 k4 := y3.trans f4
          simp [rd_blk (A5.ext y4), rd_blk (B5.ext y4), tabV]
          refine fin (s5 := s5) (s6 := s6) (x5.trans y4) (by omega) (by omega) (by omega) BN5 (BN6.ext ((f2.trans f3).trans f4)) rfl rfl (fun h' m => ⟨q5 h' (Mod.then ((f3.trans f4).mono fun _ _ h => h.elim) m (fun i hi hS => by omega)), q6 h' (Mod.then (f4.mono fun _ _ h => h.elim) m (fun i hi hS => by omega))⟩) ?_
          intro h10 x10 B10 st
          simp
          refine st _ ?_
          intro h11 x11 b5 b6 r5 r6
          simp [-SeqK_ap]
          rw [SeqK_ap]
          exact cont h11 A B N5 N6 s5 s6 _ _ x11 ha hb hs ht b5 b6 r5 r6
        · refine ef_new_box ?_
          intro N5 k3 gN5 BN5 f3
          have z3 := f3.size
          have l3 := BN5.lt
          have y3 : Ext h5 k3 := y2.trans f3
          simp [rd_blk (A5.ext y3), rd_blk (B5.ext y3), tabV]
          refine to_spec2 HTo (s := t) (rb.ext (x5.trans y3)) ht' ?_
          intro k4 s6 f4 q6
          have z4 := f4.size
          have y4 : Ext h5 k4 := y3.trans f4
          simp [rd_blk (A5.ext y4), rd_blk (B5.ext y4), tabV]
          refine fin (s5 := s5) (s6 := s6) (x5.trans y4) (by omega) (by omega) (by omega) (BN5.ext f4) (BN6.ext ((f2.trans f3).trans f4)) rfl rfl (fun h' m => ⟨q5 h' (Mod.then ((f3.trans f4).mono fun _ _ h => h.elim) m (fun i hi hS => by omega)), q6 h' (Mod.then ((Mod.refl _ : Ext k4 k4).mono fun _ _ h => h.elim) m (fun i hi hS => by omega))⟩) ?_
          intro h10 x10 B10 st
          simp
          refine st _ ?_
          intro h11 x11 b5 b6 r5 r6
          simp [-SeqK_ap]
          rw [SeqK_ap]
          exact cont h11 A B N5 N6 s5 s6 _ _ x11 ha hb hs ht b5 b6 r5 r6
      · refine ef_new_box ?_
        intro N5 k2 gN5 BN5 f2
        have z2 := f2.size
        have l2 := BN5.lt
        have y2 : Ext h5 k2 := y1.trans f2
        simp [rd_blk (A5.ext y2), rd_blk (B5.ext y2), tabV]
        refine to_spec2 HTo (s := s) (ra.ext (x5.trans y2)) hs' ?_
        intro k3 s5 f3 q5
        have z3 := f3.size
        have y3 : Ext h5 k3 := y2.trans f3
        simp [rd_blk (A5.ext y3), rd_blk (B5.ext y3), tabV]
        refine to_spec2 HTo (s := t) (rb.ext (x5.trans y3)) ht' ?_
        intro k4 s6 f4 q6
        have z4 := f4.size
        have y4 : Ext h5 k4 := y3.trans f4
        simp [rd_blk (A5.ext y4), rd_blk (B5.ext y4), tabV]
        refine fin (s5 := s5) (s6 := s6) (x5.trans y4) (by omega) (by omega) (by omega) (BN5.ext (f3.trans f4)) (BN6.ext ((f2.trans f3).trans f4)) rfl rfl (fun h' m => ⟨q5 h' (Mod.then (f4.mono fun _ _ h => h.elim) m (fun i hi hS => by omega)), q6 h' (Mod.then ((Mod.refl _ : Ext k4 k4).mono fun _ _ h => h.elim) m (fun i hi hS => by omega))⟩) ?_
        intro h10 x10 B10 st
        simp
        refine st _ ?_
        intro h11 x11 b5 b6 r5 r6
        simp [-SeqK_ap]
        rw [SeqK_ap]
        exact cont h11 A B N5 N6 s5 s6 _ _ x11 ha hb hs ht b5 b6 r5 r6
end
end Go.Rm
