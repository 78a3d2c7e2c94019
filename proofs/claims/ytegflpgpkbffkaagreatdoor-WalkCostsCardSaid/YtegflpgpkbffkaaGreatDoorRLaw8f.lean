import Derived.Test.YtegflpgpkbffkaaGreatDoorRLaw6d
import Derived.Test.YtegflpgpkbffkaaGreatDoorRLaw8e

/- The laws of walks: WalkCosts. -/
set_option linter.unusedSimpArgs false
set_option linter.unusedVariables false
namespace Go.Rm
structure WalkDo (Y : Sys) : Prop where
  L : WalkLaw Y
  D : GrDo Y
  RN : RefNet2 Y
  RW : RefWalk Y
  RC : RefCost Y
section
variable {Y : Sys} {h h' : Heap}
def WkI (p B : Nat) (lo : Nat) (sl ss : Sl) (N : NetD) (l : List Act5) (h0 : Heap) (e : List Value) (h' : Heap) : Prop :=
  ∃ (i : Nat) (s1 s2 s3 : Sl) (Fb S : Nat → Prop) (v0 v4 v7 v8 v9 v10 v11 v12 v13 : Value), e = [v0, sl.v, ss.v, .pointer (some ⟨B, 0, none⟩), v4, .pointer (some ⟨p, 0, none⟩), .int .i64 i, v7, v8, v9, v10, v11, v12, v13] ∧ i ≤ sl.n ∧ Blk h' B #[s1.v, s2.v, s3.v] ∧ GraphA h' p (playN N (l.take i)) S ∧
    NetF Fb h' s1 s2 s3 (playN N (l.take i)) ∧ (∀ b, Fb b → ¬ S b) ∧ (∀ b, S b → lo ≤ b ∧ b ≠ B) ∧ (∀ b, Fb b → b ≠ B) ∧ Mod (fun j => j = B ∨ lo ≤ j) h0 h'
set_option maxHeartbeats 2000000 in
theorem walkcosts_law (X : WalkDo Y) (HA : Y.Has F.rlaw8_WalkCosts S_rlaw8_WalkCosts) (E : ErrSys Y) (hg : hc h E.gb 0 = some E.hv) {sv sa st sl ss : Sl} {N : NetD} {l : List Act5} {cs : List Int} (r : NetH h sv sa st N) (rl : Row5 h sl l) (rs : Row64 h ss cs) {R : Value → Heap → Prop}
    (hr : ∀ h', Ext h h' → R (.bool true) h') : CallP Y F.rlaw8_WalkCosts [netV sv sa st, sl.v, ss.v] h R := by
  have L := X.L
  have ll := rl.len
  have lc := rs.len
  have lgb := hg_lt hg
  refine .of_has HA rfl ?_
  simp [S_rlaw8_WalkCosts, FnS.wp, netV]
  refine ef_new_box ?_
  intro B hB gB bB eB
  have lB := bB.lt
  have zB := eB.size
  simp
  refine wknown_spec L.K ?_
  intro h1 e1
  have x1 := eB.trans e1
  have bB1 := bB.ext e1
  simp [rd_blk bB1]
  refine wsmall_spec L (r.ext x1) ?_
  intro h2 e2
  have x2 := x1.trans e2
  have bB2 := bB1.ext e2
  by_cases c1 : smallD N = true
  rotate_left
  · have c1' : smallD N = false := by simpa using c1
    simp [c1']
    exact hr _ x2
  by_cases c2 : 12 < sl.n
  · have c2' : (12 : Int) < sl.n := by omega
    have c2'' : ¬ (sl.n : Int) ≤ 12 := by omega
    have c2d : ¬ sl.n ≤ 12 := by omega
    simp [c1, c2, c2', c2'', c2d]
    exact hr _ x2
  have c2' : ¬ (12 : Int) < sl.n := by omega
  have c2'' : (sl.n : Int) ≤ 12 := by omega
  have c2d : sl.n ≤ 12 := by omega
  by_cases c3 : 60 < ss.n
  · have c3' : (60 : Int) < ss.n := by omega
    have c3'' : ¬ (ss.n : Int) ≤ 60 := by omega
    have c3d : ¬ ss.n ≤ 60 := by omega
    simp [c1, c2, c2', c2'', c2d, c3, c3', c3'', c3d]
    exact hr _ x2
  have c3' : ¬ (60 : Int) < ss.n := by omega
  have c3'' : (ss.n : Int) ≤ 60 := by omega
  have c3d : ss.n ≤ 60 := by omega
  simp [c1, c2, c2', c2'', c2d, c3, c3', c3'', c3d, rd_blk bB2]
  refine made_spec L.K (r.ext x2) (small_may c1) ?_
  intro h4 p S e4 ok g hS
  have x4 := x2.trans e4
  have z3 := (e1.trans e2).size
  have bB4 : Blk h4 B #[sv.v, sa.v, st.v] := bB2.ext e4
  have f4 := r.toF.ext x4
  simp
  refine wp_loop' (WkI p B hB.size sl ss N l h4) (fun e _ => sl.n - argI e 6) ⟨0, sv, sa, st, (fun b => b < h.size), S, _, _, _, _, _, _, _, _, _, rfl, by omega, bB4, g, f4, (fun b hb hs => by have := hS b hs; omega), (fun b hs => by have := hS b hs; omega), (fun b hb => by omega), Mod.refl _⟩ ?_
  clear g f4 bB4
  rintro e h5 ⟨i, s1, s2, s3, Fb, S, v0, v4, v7, v8, v9, v10, v11, v12, v13, rfl, hi, bB5, g, f, hd, hSlo, hFB, m5⟩
  have x5 : Ext h h5 := Mod.ext x4 m5 (fun j hj => by omega)
  have z5 := x5.size
  have okN := playN_ok (l := l.take i) ok
  have z45 := m5.size
  have z34 := e4.size
  by_cases c : i < sl.n
  · have c' : (i : Int) < sl.n := by omega
    have ci : i < l.length := by omega
    have w1 : IntKind.i64.wrap ((i : Int) + 1) = (i : Int) + 1 := i64_wrap (by omega)
    have hsn := playN_snoc (N := N) ci
    simp [c', rd_blk bB5, sem_idxa rl.ok, rl.sk h5 i x5 ci]
    have hgS : ¬ S E.gb := fun hs => by have := hSlo _ hs; omega
    refine ⟨?_, ?_⟩
    · rw [show (Value.agg #[s1.v, s2.v, s3.v]) = netV s1 s2 s3 from rfl]
      refine do6_spec X.D E (x5.hc hg (fun h => h)) hgS g f hd okN ?_
      intro h6 v hv
      obtain ⟨t1, t2, t3, F', S', rfl, g6, f6, hS6, hF6, hd6, m6⟩ := hv
      rw [← hsn] at g6 f6
      have z6 := m6.size
      have bB6 := m6.blk bB5 (fun hs => (hSlo _ hs).2 rfl)
      simp [netV]
      refine new_store (vs := #[t1.v, t2.v, t3.v]) rfl rfl (by simp) ?_
      intro C hCp gC bCp eCp stC
      simp
      refine stC _ ?_
      intro hC bC eC
      clear stC bCp eCp
      have zC := eC.size
      have gQ := g6.ext eC
      have fQ := f6.ext eC
      have bQ := bB6.ext eC
      have hS' : ∀ b, S' b → hB.size ≤ b ∧ b ≠ B := fun b hb => by
        rcases hS6 b hb with q | q
        · exact hSlo b q
        · omega
      have hF' : ∀ b, F' b → b ≠ B := fun b hb => by
        rcases hF6 b hb with q | q
        · exact hFB b q
        · omega
      have mQ : Mod (fun j => j = B ∨ hB.size ≤ j) h5 hC := (m6.mono fun b _ hs => .inr (hSlo b hs).1).trans (eC.mono fun _ _ h => h.elim)
      simp [rd_blk bC]
      refine ef_store_box bQ rfl rfl (by simp) ?_
      intro h8 bB8 m8
      have z8 := m8.size
      simp [w1]
      refine ⟨⟨i + 1, t1, t2, t3, F', S', _, _, _, _, _, _, _, _, _, rfl, by omega, bB8, (gQ.mod m8 (fun b hb hj => (hS' b hb).2 hj)), (fQ.mod m8 (fun b hb hj => hF' b hb hj)), hd6, hS', hF', ?_⟩, by simp [argI]; omega⟩
      exact (m5.trans mQ).trans (m8.mono fun _ _ h => .inl h)
    · refine ef_new_box ?_
      intro C h6' gC bC0 eC0
      have lC := bC0.lt
      have x6 := x5.trans eC0
      have zc0 := eC0.size
      simp [rd_blk (bB5.ext eC0), rl.sk h6' i x6 ci]
      rw [show (Value.agg #[s1.v, s2.v, s3.v]) = netV s1 s2 s3 from rfl]
      refine do6_spec X.D E (x6.hc hg (fun h => h)) hgS (g.ext eC0) (f.ext eC0) hd okN ?_
      intro h6 v hv
      obtain ⟨t1, t2, t3, F', S', rfl, g6, f6, hS6, hF6, hd6, m6⟩ := hv
      rw [← hsn] at g6 f6
      have z6 := m6.size
      have lS := g.lt
      have lF := f.2
      have bB6 := m6.blk (bB5.ext eC0) (fun hs => (hSlo _ hs).2 rfl)
      have bC6 := m6.blk bC0 (fun hs => by have := lS _ hs; omega)
      have m6 := (eC0.mono (S' := S) fun _ _ h => h.elim).trans m6
      simp [netV]
      refine ef_store_box bC6 rfl rfl (by simp) ?_
      intro hC bC mC
      have zC := mC.size
      have hSC : ∀ b, S' b → b ≠ C := fun b hb e => by
        rcases hS6 b hb with q | q
        · have := g.lt b q; omega
        · omega
      have hFC : ∀ b, F' b → b ≠ C := fun b hb e => by
        rcases hF6 b hb with q | q
        · have := f.2 b q; omega
        · omega
      have gQ := g6.mod mC (fun b hb hj => hSC b hb hj)
      have fQ := f6.mod mC (fun b hb hj => hFC b hb hj)
      have lB5 := bB5.lt
      have bQ := mC.blk bB6 (by omega)
      have hS' : ∀ b, S' b → hB.size ≤ b ∧ b ≠ B := fun b hb => by
        rcases hS6 b hb with q | q
        · exact hSlo b q
        · omega
      have hF' : ∀ b, F' b → b ≠ B := fun b hb => by
        rcases hF6 b hb with q | q
        · exact hFB b q
        · omega
      have mQ : Mod (fun j => j = B ∨ hB.size ≤ j) h5 hC := (m6.mono fun b _ hs => .inr (hSlo b hs).1).trans (mC.mono fun j _ hj => .inr (by omega))
      simp [rd_blk bC]
      refine ef_store_box bQ rfl rfl (by simp) ?_
      intro h8 bB8 m8
      have z8 := m8.size
      simp [w1]
      refine ⟨⟨i + 1, t1, t2, t3, F', S', _, _, _, _, _, _, _, _, _, rfl, by omega, bB8, (gQ.mod m8 (fun b hb hj => (hS' b hb).2 hj)), (fQ.mod m8 (fun b hb hj => hF' b hb hj)), hd6, hS', hF', ?_⟩, by simp [argI]; omega⟩
      exact (m5.trans mQ).trans (m8.mono fun _ _ h => .inl h)
  have c' : ¬ (i : Int) < sl.n := by omega
  have bn := ok.ba
  simp [c', rd_blk bB5]
  refine ef_bslice0_box ?_
  intro b6 h6 g6 o6 e6
  have x6 := x5.trans e6
  simp [rd_blk (bB5.ext e6)]
  refine ef_appendE o6 rfl (srcOf_row64 (rs.ext x6)) (by rw [ints64_len]; simpa using rs.len) ints64_one rfl (by omega) (by omega) ?_
  intro s7 h7 o7 n7 e7 nl7 b7
  have x7 := x6.trans e7
  have e57 := e6.trans e7
  simp [rd_blk (bB5.ext e57)]
  refine wcost_spec L.K.X (g.ext e57) okN o7.row64 (by omega) ?_
  intro h8 e8
  have x8 := x7.trans e8
  have e58 := e57.trans e8
  simp [rd_blk (bB5.ext e58)]
  rw [show (Value.agg #[s1.v, s2.v, s3.v]) = netV s1 s2 s3 from rfl]
  refine rcost_spec X.RN X.RW X.D.RT X.RC ((f.ext e58).here) (rs.ext x8) (by omega) okN ?_
  intro h9 e9
  simp
  exact hr h9 (x8.trans e9)
end
end Go.Rm
