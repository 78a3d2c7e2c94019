/- The laws of tables of turns: TurnBans. -/
import Derived.Test.YtomdihnecddfjaaDoorRLaw2d
set_option linter.unusedSimpArgs false
set_option linter.unusedVariables false
namespace Go.Rm

theorem bans_set : ∀ {l : List Int} {p : Nat}, p < l.length → bans (l.set p 1152921504606846976) = bans l + (if nthI l p = 1152921504606846976 then 0 else 1) := by
  intro l
  induction l with
  | nil => intro p hp; simp at hp
  | cons c r ih =>
    intro p hp
    cases p with
    | zero =>
      simp only [List.set_cons_zero, bans, nthI, List.getD_cons_zero]
      simp
      split <;> omega
    | succ p =>
      simp only [List.set_cons_succ, bans]
      have := ih (p := p) (by simpa using hp)
      have e : nthI (c :: r) (p + 1) = nthI r p := rfl
      rw [this, e]
      omega

section
variable {Y : Sys} {h : Heap}

def LBI (av bv lv : Value) (s : Sl) (n m : Int) (N6 : Nat) (v11 v12 : Value) (h0 : Heap) (e : List Value) (h' : Heap) : Prop :=
  ∃ (i : Nat) (cs : List Int) (s6 : Sl) (v10 v13 v14 v15 : Value), e = [av, bv, lv, .bool false, .int .i64 n, .int .i64 m, .pointer (some ⟨N6, 0, none⟩), .nilIface, .int .i64 (bans cs : Int), .int .i64 i, v10, v11, v12, v13, v14, v15] ∧ i ≤ s.n ∧
    (tabW n m cs).2 = 0 ∧ Blk h' N6 #[.int .i64 n, .int .i64 m, s6.v] ∧ (∀ h'', Mod (fun j => j = N6) h' h'' → Row64 h'' s6 cs) ∧ Ext h0 h' ∧ h0.size ≤ N6

theorem lawbans_spec (HM : Y.Has F.rlaw2_TurnBans S_rlaw2_TurnBans) (HK : Y.Has F.rlaw2_known S_rlaw2_known) (T : TurnAll Y) (RT : RefAll Y) (HT : Y.Has F.rlaw1_Tells S_rlaw1_Tells) (E : ErrSys Y)
    (hg : hc h E.gb 0 = some E.hv) {a b : Int} (ha : IntKind.u8.min ≤ a ∧ a ≤ IntKind.u8.max) (hb : IntKind.u8.min ≤ b ∧ b ≤ IntKind.u8.max) {s : Sl} {f : Nat → Int} (hs : IntsAt h s .u16 f) (hf : ∀ i, i < s.n → IntKind.u16.min ≤ f i ∧ f i ≤ IntKind.u16.max)
    {R : Value → Heap → Prop} (hr : ∀ h', Ext h h' → R (.bool true) h') : CallP Y F.rlaw2_TurnBans [.int .u8 a, .int .u8 b, s.v] h R := by
  have T' := T.toTurnFns
  have R' := RT.toRefTab
  have a0 : 0 ≤ a := ha.1
  have a1 : a ≤ 255 := ha.2
  have b0 : 0 ≤ b := hb.1
  have b1 : b ≤ 255 := hb.2
  have wa : IntKind.i64.wrap a = a := i64_wrap (by omega)
  have wb : IntKind.i64.wrap b = b := i64_wrap (by omega)
  have ma : a.tmod 17 = a % 17 := Int.tmod_eq_emod_of_nonneg a0
  have mb : b.tmod 17 = b % 17 := Int.tmod_eq_emod_of_nonneg b0
  have n0 : 0 ≤ a % 17 ∧ a % 17 ≤ 16 := by omega
  have m0 : 0 ≤ b % 17 ∧ b % 17 ≤ 16 := by omega
  refine .of_has HM rfl ?_
  simp [S_rlaw2_TurnBans, FnS.wp]
  refine known2_spec HK T R'.At HT E hg ?_
  intro h1 e1
  simp [ib_rem, wa, wb, ma, mb]
  generalize a % 17 = n at *
  generalize b % 17 = m at *
  refine free_spec T.Free T' ?_
  intro h2 v e2 m2
  obtain ⟨i2, o2, s2, c2, u2, rfl, er2, r2, hc2⟩ := made_ok m2
  have hsd : sidesW n m = wOK := by unfold sidesW; rw [if_neg (by omega), if_neg (by omega)]
  have hw2 : (sidesW n m).2 = 0 := by rw [hsd]; rfl
  obtain ⟨_, rfl, rfl, rfl⟩ := hc2.resolve_right (fun h => h.1 hw2)
  have := er2.nil hw2
  subst this
  have ht2 : (tabW i2 o2 (zerosL (i2 * o2).toNat)).2 = 0 := by rw [tab_zeros hw2]; rfl
  simp [tabV]
  refine new_store (vs := #[.int .i64 i2, .int .i64 o2, s2.v]) rfl rfl (by simp) ?_
  intro N6 h3' g3 B3' e3' st
  simp
  refine st _ ?_
  intro h3 B3 e3
  clear st B3' e3'
  have x3 := (e1.trans e2).trans e3
  have r3 := r2.ext e3
  by_cases c1 : 300 < s.n
  · have c1' : (300 : Int) < s.n := by omega
    simp [c1']; exact hr _ x3
  have c1' : ¬ (300 : Int) < s.n := by omega
  have bz : bans (zerosL (i2 * o2).toNat) = 0 := by
    have : ∀ k, bans (zerosL k) = 0 := by
      intro k
      induction k with
      | zero => rfl
      | succ k ih => show bans (0 :: zerosL k) = 0; simp [bans, ih]
    exact this _
  have hsb : h.size ≤ N6 := by have := e1.size; have := e2.size; omega
  have hfr : ∀ h'', Mod (fun j => j = N6) h3 h'' → Row64 h'' s2 (zerosL (i2 * o2).toNat) := fun h'' m => r2.ext (Mod.ext e3 m (fun j hj => by omega))
  simp [c1']
  refine wp_loop' (LBI (.int .u8 a) (.int .u8 b) s.v s i2 o2 N6 (.bool false) (.bool false) h) (fun e _ => s.n - argI e 9) ⟨0, zerosL (i2 * o2).toNat, s2, _, _, _, _, by rw [bz]; rfl, by omega, ht2, B3, hfr, x3, hsb⟩ ?_
  clear r2 r3 hfr B3 e3 er2 ht2 bz hc2 m2
  rintro e h4 ⟨i, cs, s6, v10, v13, v14, v15, rfl, hi, ht, B4, hrow, x4, _⟩
  have r4 := hrow h4 (Mod.refl _)
  have hl := r4.len
  obtain ⟨_, _, _, _, hlen, _, _⟩ := tab_ok ht
  obtain ⟨w1, q1, q2⟩ := mul_wrap (a := i2) (b := o2) n0 m0
  by_cases c2 : (i : Int) < s.n ∧ 0 < i2 * o2
  · obtain ⟨c2, c3⟩ := c2
    have hlt : i < s.n := by omega
    have hs4 := hs.ext x4
    have f0 : 0 ≤ f i := (hf i hlt).1
    have f1 : f i ≤ 65535 := (hf i hlt).2
    have wf : IntKind.i64.wrap (f i) = f i := i64_wrap (by omega)
    have mf : (f i).tmod (i2 * o2) = f i % (i2 * o2) := Int.tmod_eq_emod_of_nonneg f0
    have p0 : 0 ≤ f i % (i2 * o2) := Int.emod_nonneg _ (by omega)
    have p1 : f i % (i2 * o2) < i2 * o2 := Int.emod_lt_of_pos _ c3
    have hne : i2 * o2 ≠ 0 := by omega
    have ho : 0 < o2 := by
      by_cases h : 0 < o2
      · exact h
      · have : o2 = 0 := by omega
        rw [this] at c3; simp at c3
    have hone : o2 ≠ 0 := by omega
    simp [c2, w1, c3, sem_idxa hs4.ok, hs4.val i hlt, wf, ib_rem hne, mf, rd_blk B4]
    generalize f i % (i2 * o2) = p at *
    have k0 : 0 ≤ p % o2 := Int.emod_nonneg _ hone
    have k1 : p % o2 < o2 := Int.emod_lt_of_pos _ ho
    have d0 : 0 ≤ p / o2 := Int.ediv_nonneg p0 (by omega)
    have d1 : p / o2 < i2 := Int.ediv_lt_of_lt_mul ho p1
    have hp : p / o2 * o2 + p % o2 = p := by rw [Int.mul_comm]; exact Int.mul_ediv_add_emod p o2
    have tq : p.tdiv o2 = p / o2 := Int.tdiv_eq_ediv_of_nonneg p0
    have tm : p.tmod o2 = p % o2 := Int.tmod_eq_emod_of_nonneg p0
    have wd : IntKind.i64.wrap (p / o2) = p / o2 := i64_wrap (by omega)
    have we : IntKind.i64.wrap ((i : Int) + 1) = (i : Int) + 1 := i64_wrap (by omega)
    have bl := bans_le (l := cs)
    have wbn : IntKind.i64.wrap ((bans cs : Int) + 1) = (bans cs : Int) + 1 := i64_wrap (by omega)
    obtain ⟨a1', a2', a3'⟩ := atV_in ht d0 d1 k0 k1
    rw [hp] at a1' a2' a3'
    have hinf : weightB 1152921504606846976 = true := by decide
    have hw := with_fine (c := 1152921504606846976) ht hinf d0 d1 k0 k1
    have ht' := tab_set (p := p.toNat) ht hinf
    have hbs := bans_set a2'
    have hat : atV i2 o2 (cs.set p.toNat 1152921504606846976) (p / o2) (p % o2) = 1152921504606846976 := by
      obtain ⟨b1', b2', _⟩ := atV_in ht' d0 d1 k0 k1
      rw [hp] at b1' b2'
      rw [b1', nthI_set a2', if_pos rfl]
    simp [ib_quo hone, ib_rem hone, tq, tm, wd]
    refine at_spec T' (s := s6) r4 ?_
    intro h5 e5
    have B5 := B4.ext e5
    have r5 := r4.ext e5
    rw [a1']
    -- the new table, behind either way
    have next : ∀ (nb : Int) (v14 : Value) (K : Value → Heap → Prop), (bans (cs.set p.toNat 1152921504606846976) : Int) = nb →
        (∀ (h6 : Heap) (s7 : Sl), Ext h5 h6 → Blk h6 N6 #[.int .i64 i2, .int .i64 o2, s6.v] → (∀ K2 : Value → Heap → Prop, (∀ h7, Ext h h7 → Blk h7 N6 #[.int .i64 i2, .int .i64 o2, s7.v] → (∀ h'', Mod (fun j => j = N6) h7 h'' → Row64 h'' s7 (cs.set p.toNat 1152921504606846976)) → K2 undef h7) →
            Ef.wp h6 K2 (.store 3) [.pointer (some ⟨N6, 0, none⟩), .agg #[.int .i64 i2, .int .i64 o2, s7.v]]) → K (.tuple #[.agg #[.int .i64 i2, .int .i64 o2, s7.v], .nilIface]) h6) →
        CallP Y F.turn_With [.agg #[.int .i64 i2, .int .i64 o2, s6.v], .int .i64 (p / o2), .int .i64 (p % o2), .int .i64 1152921504606846976] h5 K := by
      intro nb v14 K hnb hk
      refine with_spec T.With T' (s := s6) r5 ?_
      rintro h6 v e6 ⟨i7, o7, s7, c7, u7, rfl, er7, r7, hc7⟩
      obtain ⟨_, g1, g2, g3⟩ := hc7.resolve_right (fun h => h.1 hw)
      subst g1; subst g2
      have := er7.here.nil hw
      subst this
      rw [hp] at g3
      subst g3
      refine hk h6 s7 e6 (B5.ext e6) ?_
      intro K2 hk2
      have B5lt := B5.lt
      refine ef_store_box (vs := #[.int .i64 i7, .int .i64 o7, s7.v]) (B5.ext e6) rfl rfl (by simp) ?_
      intro h7 B7 m7
      refine hk2 h7 (Mod.ext ((x4.trans e5).trans e6) m7 (fun j hj => by omega)) B7 ?_
      intro h'' m
      exact r7 h'' ((m7.trans m).mono fun j _ hj => by omega)
    by_cases hi0 : nthI cs p.toNat = 1152921504606846976
    · rw [if_pos hi0] at hbs
      simp [hi0, rd_blk B5, ib_quo hone, ib_rem hone, tq, tm, wd]
      refine next (bans cs) undef _ (by rw [hbs]; simp) ?_
      intro h6 s7 e6 B6 st
      simp
      refine st _ ?_
      intro h7 x7 B7 hrow7
      have r7 := hrow7 h7 (Mod.refl _)
      have l7 := r7.len
      simp at l7
      simp [rd_blk B7]
      refine bans_spec T' (s := s7) r7 (by omega) ?_
      intro h8 e8
      rw [hbs]
      simp [rd_blk (B7.ext e8), ib_quo hone, ib_rem hone, tq, tm, wd]
      refine at_spec T' (s := s7) (r7.ext e8) ?_
      intro h9 e9
      rw [hat]
      simp [we]
      refine ⟨⟨i + 1, cs.set p.toNat 1152921504606846976, s7, _, _, _, _, by rw [hbs]; rfl, by omega, ht', (B7.ext e8).ext e9, ?_, (x7.trans e8).trans e9, hsb⟩, by simp [argI]; omega⟩
      intro h'' m
      exact hrow7 h'' (((e8.trans e9).mono fun _ _ h => h.elim).trans m)
    · rw [if_neg hi0] at hbs
      simp [hi0, rd_blk B5, ib_quo hone, ib_rem hone, tq, tm, wd, wbn]
      refine next ((bans cs : Int) + 1) undef _ (by rw [hbs]; simp) ?_
      intro h6 s7 e6 B6 st
      simp
      refine st _ ?_
      intro h7 x7 B7 hrow7
      have r7 := hrow7 h7 (Mod.refl _)
      have l7 := r7.len
      simp at l7
      simp [rd_blk B7]
      refine bans_spec T' (s := s7) r7 (by omega) ?_
      intro h8 e8
      rw [hbs]
      simp [rd_blk (B7.ext e8), ib_quo hone, ib_rem hone, tq, tm, wd]
      refine at_spec T' (s := s7) (r7.ext e8) ?_
      intro h9 e9
      rw [hat]
      simp [we]
      refine ⟨⟨i + 1, cs.set p.toNat 1152921504606846976, s7, _, _, _, _, by rw [hbs]; rfl, by omega, ht', (B7.ext e8).ext e9, ?_, (x7.trans e8).trans e9, hsb⟩, by simp [argI]; omega⟩
      intro h'' m
      exact hrow7 h'' (((e8.trans e9).mono fun _ _ h => h.elim).trans m)
  · have o1 : atV i2 o2 cs i2 0 = 1152921504606846976 := by simp [atV]
    have o2' : atV i2 o2 cs 0 o2 = 1152921504606846976 := by simp [atV]
    have o3 : atV i2 o2 cs (-1) 0 = 1152921504606846976 := by simp [atV]
    have o4 : atV i2 o2 cs 0 (-1) = 1152921504606846976 := by simp [atV]
    have cont : ∀ (v10 v13 v14 v15 : Value), Stmt.wp Y S_rlaw2_TurnBans.body.tl.tl.tl.tl.tl.tl.tl.tl (resP [.n 3] R) (fun _ _ _ => False) (resP [.n 3] R)
        [.int .u8 a, .int .u8 b, s.v, .bool false, .int .i64 i2, .int .i64 o2, .pointer (some ⟨N6, 0, none⟩), .nilIface, .int .i64 (bans cs : Int), .int .i64 i, v10, .bool false, .bool false, v13, v14, v15] h4 := by
      intro v10 v13 v14 v15
      simp [S_rlaw2_TurnBans, Stmt.tl, rd_blk B4]
      refine check_spec T' (s := s6) r4 ?_
      intro v h5 e5 hv
      have := hv.here.nil ht
      subst this
      simp [rd_blk (B4.ext e5)]
      refine at_spec T' (s := s6) (r4.ext e5) ?_
      intro h6 e6
      have y6 := e5.trans e6
      rw [o1]
      simp [rd_blk (B4.ext y6)]
      refine at_spec T' (s := s6) (r4.ext y6) ?_
      intro h7 e7
      have y7 := y6.trans e7
      rw [o2']
      simp [rd_blk (B4.ext y7)]
      refine at_spec T' (s := s6) (r4.ext y7) ?_
      intro h8 e8
      have y8 := y7.trans e8
      rw [o3]
      simp [rd_blk (B4.ext y8)]
      refine at_spec T' (s := s6) (r4.ext y8) ?_
      intro h9 e9
      rw [o4]
      simp
      exact hr _ ((x4.trans y8).trans e9)
    simp only [S_rlaw2_TurnBans, Stmt.tl] at cont
    by_cases c3 : (i : Int) < s.n
    · have c4 : ¬ 0 < i2 * o2 := fun h => c2 ⟨c3, h⟩
      simp [c3, w1, c4, -SeqK_ap]
      rw [SeqK_ap]
      exact cont _ _ _ _
    · simp [c3, -SeqK_ap]
      rw [SeqK_ap]
      exact cont _ _ _ _
end
end Go.Rm
