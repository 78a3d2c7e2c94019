/- The document's tables (roundsmanref6): FreeTable, BackTable, WithTable. -/
import Derived.Test.YtghpbaebbljppaaDoorRRef6a
set_option linter.unusedSimpArgs false
set_option linter.unusedVariables false
namespace Go.Rm

theorem badFrom_zeros : ∀ {n k : Nat}, badFrom k (zerosL n) = none := by
  intro n
  induction n with
  | zero => intro k; rfl
  | succ n ih =>
    intro k
    show badFrom k (0 :: zerosL n) = none
    simp only [badFrom]
    rw [if_pos (by decide)]
    exact ih
theorem tab_zeros {ins outs : Int} (h0 : (sidesW ins outs).2 = 0) : tabW ins outs (zerosL (ins * outs).toNat) = wOK := by
  obtain ⟨hs, a1, a2, a3, a4⟩ := sides_ok h0
  obtain ⟨m1, m2, m3⟩ := mul_wrap ⟨a1, a2⟩ ⟨a3, a4⟩
  have hl : ((zerosL (ins * outs).toNat).length : Int) = ins * outs := by simp [zerosL]; omega
  simp only [tabW, h0, hl, badFrom_zeros]
  simp
theorem tab_sides {ins outs : Int} {cs : List Int} (h0 : (sidesW ins outs).2 ≠ 0) : tabW ins outs cs = sidesW ins outs := by simp [tabW, h0]

section
variable {Y : Sys} {h : Heap}

def MadeW (lo : Nat) (h' : Heap) (w : Wr) (ins outs : Int) (cs : List Int) (v : Value) : Prop :=
  ∃ ins' outs' s' cs' u, v = .tuple #[tabV ins' outs' s', u] ∧ FWr lo h' w u ∧ Fresh lo (fun h => Own h 1 s' (ints64 cs')) h' ∧ (s'.nl = true ∨ lo ≤ s'.b) ∧
    ((w.2 = 0 ∧ ins' = ins ∧ outs' = outs ∧ cs' = cs ∧ s'.nl = false) ∨ (w.2 ≠ 0 ∧ ins' = 0 ∧ outs' = 0 ∧ s' = Sl.nil ∧ cs' = []))

theorem rfree_spec (HF : Y.Has F.rref6_FreeTable S_rref6_FreeTable) (T : RefTab Y) {ins outs : Int} {R : Value → Heap → Prop}
    (hr : ∀ h' v, Ext h h' → MadeW h.size h' (sidesW ins outs) ins outs (zerosL (ins * outs).toNat) v → R v h') : CallP Y F.rref6_FreeTable [.int .i64 ins, .int .i64 outs] h R := by
  refine .of_has HF rfl ?_
  simp [S_rref6_FreeTable, FnS.wp]
  refine ef_new_box ?_
  intro tb h1 g1 T1 e1
  simp
  refine ef_new_box ?_
  intro wb h2 g2 W2 e2
  have T2 := T1.ext e2
  simp
  refine ef_new_box ?_
  intro nb h3 g3 N3 e3
  have T3 := T2.ext e3
  have W3 := W2.ext e3
  have T1lt := T1.lt
  have W2lt := W2.lt
  have N3lt := N3.lt
  have z1 := e1.size
  have z2 := e2.size
  have z3 := e3.size
  simp
  refine ef_store_box (vs := #[.int .i64 ins, .int .i64 outs, .slice none 0 0]) N3 rfl rfl (by simp) ?_
  intro h4 N4 m4
  have T4 := m4.blk T3 (by omega)
  have W4 := m4.blk W3 (by omega)
  have z4 := m4.size
  have e4 : Ext h h4 := ((e1.trans e2).trans e3).ext m4 (fun j hj => by omega)
  by_cases h0 : (sidesW ins outs).2 = 0
  · obtain ⟨hs, a1, a2, a3, a4⟩ := sides_ok h0
    obtain ⟨m1, m2, m3⟩ := mul_wrap ⟨a1, a2⟩ ⟨a3, a4⟩
    simp [a1, a2, a3, a4, m1, ef_mkslice, m2, zeros_one]
    refine ⟨by omega, by omega, fun t => ?_⟩
    have o5 : Own (h4.push (.cells (Array.replicate (ins * outs).toNat (.int .i64 0)) t)) 1 (Sl.at h4.size (ins * outs).toNat (ins * outs).toNat) (ints64 (zerosL (ins * outs).toNat)) := own_zero (by omega)
    have e5 : Ext h4 (h4.push (.cells (Array.replicate (ins * outs).toNat (.int .i64 0)) t)) := Mod.push
    rw [← Sl.at_v]
    have T5 := T4.ext e5
    have W5 := W4.ext e5
    have N5 := N4.ext e5
    have hlt5 := o5.lt rfl
    simp only [Sl.at_b] at hlt5
    generalize h4.push (.cells (Array.replicate (ins * outs).toNat (.int .i64 0)) t) = h5 at *
    have hsb : (Sl.at h4.size (ins * outs).toNat (ins * outs).toNat).b = h4.size := rfl
    have hnl : (Sl.at h4.size (ins * outs).toNat (ins * outs).toNat).nl = false := rfl
    generalize Sl.at h4.size (ins * outs).toNat (ins * outs).toNat = s at *
    have N4lt : nb < h4.size := by omega
    simp [StoreP.open, N5.hc, N5.hfz]
    have N6 := N5.set (o := 2) (v := s.v)
    have T6 := T5.set_ne (b' := nb) (o := 2) (v := s.v) (by omega)
    have W6 := W5.set_ne (b' := nb) (o := 2) (v := s.v) (by omega)
    have o6 := o5.mod (S := fun j => j = nb) (Mod.set (b := nb) (o := 2) (v := s.v) rfl) (fun _ h => by omega)
    have x6 : Mod (fun j => j = nb) h5 (hset h5 nb 2 s.v) := Mod.set rfl
    have z6 : h5.size = (hset h5 nb 2 s.v).size := by simp
    simp at N6
    generalize hset h5 nb 2 s.v = h6 at *
    simp [rd_blk N6]
    refine rcheck_spec T o6.row64 ?_
    intro h7 v e7 hv
    rw [tab_zeros h0] at hv
    obtain ⟨ps, rfl⟩ := hv.here.shape
    simp
    refine ef_new_box ?_
    intro cb h8 g8 C8 e8
    simp
    refine ef_store_box (vs := #[ps.v, .int .i64 wOK.2]) C8 rfl rfl (by simp) ?_
    intro h9 C9 m9
    have z7 := e7.size
    have z8 := e8.size
    have z9 := m9.size
    have hv9 : FWr h6.size h9 wOK (.agg #[ps.v, .int .i64 wOK.2]) := hv.step (Mod.then (e8.mono fun _ _ h => h.elim) m9 (fun i hi hS => by omega)) (fun j h => h)
    have T9 := m9.blk ((T6.ext e7).ext e8) (by omega)
    have W9 := m9.blk ((W6.ext e7).ext e8) (by omega)
    have N9 := m9.blk ((N6.ext e7).ext e8) (by omega)
    have o9 := (((o6.mod e7 (fun _ h => h)).mod e8 (fun _ h => h))).mod m9 (fun _ h => by omega)
    have z5 := e5.size
    have x9 : Ext h h9 := ((((e4.trans e5).ext x6 (fun j hj => by omega)).trans e7).trans e8).ext m9 (fun j hj => by omega)
    simp [C9.hc, wOK, rd_blk N9, rd_blk C9]
    refine ef_store_box T9 rfl rfl (by simp) ?_
    intro h10 T10 m10
    have W10 := m10.blk W9 (by omega)
    have C10 := m10.blk C9 (by omega)
    simp [rd_blk C10, wOK]
    refine ef_store_box W10 rfl rfl (by simp) ?_
    intro h11 W11 m11
    have T11 := m11.blk T10 (by omega)
    simp
    refine resP_xx rfl T11 rfl rfl W11 rfl ?_
    have o11 := (o9.mod m10 (fun _ h => by omega)).mod m11 (fun _ h => by omega)
    refine hr h11 _ ((x9.ext m10 (fun j hj => by omega)).ext m11 (fun j hj => by omega)) ⟨ins, outs, s, _, _, rfl, ?_, fresh_own o11 (.inr (by omega)), .inr (by omega), .inl ⟨h0, rfl, rfl, rfl, hnl⟩⟩
    rw [hs]
    exact ((hv9.step m10 (fun j hj => by omega)).step m11 (fun j hj => by omega)).mono (by omega)
  · have hcase : ((0 ≤ ins) = False) ∨ ((0 ≤ ins) = True ∧ (ins ≤ 16) = False) ∨ ((0 ≤ ins) = True ∧ (ins ≤ 16) = True ∧ (0 ≤ outs) = False) ∨ ((0 ≤ ins) = True ∧ (ins ≤ 16) = True ∧ (0 ≤ outs) = True ∧ (outs ≤ 16) = False) := by
      simp only [eq_iff_iff, iff_false, iff_true]
      by_cases q1 : 0 ≤ ins
      · by_cases q2 : ins ≤ 16
        · by_cases q3 : 0 ≤ outs
          · by_cases q4 : outs ≤ 16
            · exfalso; apply h0; unfold sidesW; rw [if_neg (by omega), if_neg (by omega)]; rfl
            · omega
          · omega
        · omega
      · omega
    have N4' : Blk h4 nb #[.int .i64 ins, .int .i64 outs, Sl.nil.v] := N4
    rcases hcase with c | c | c | c
    all_goals
      simp [c, rd_blk N4]
      refine rcheck_spec T (s := Sl.nil) Row64.nil ?_
      intro h7 v e7 hv
      rw [tab_sides h0] at hv
      obtain ⟨ps, rfl⟩ := hv.here.shape
      simp
      refine ef_new_box ?_
      intro cb h8 g8 C8 e8
      simp
      refine ef_store_box (vs := #[ps.v, .int .i64 (sidesW ins outs).2]) C8 rfl rfl (by simp) ?_
      intro h9 C9 m9
      have z7 := e7.size
      have z8 := e8.size
      have z9 := m9.size
      have hv9 : FWr h4.size h9 (sidesW ins outs) (.agg #[ps.v, .int .i64 (sidesW ins outs).2]) := hv.step (Mod.then (e8.mono fun _ _ h => h.elim) m9 (fun i hi hS => by omega)) (fun j h => h)
      have T9 := m9.blk ((T4.ext e7).ext e8) (by omega)
      have W9 := m9.blk ((W4.ext e7).ext e8) (by omega)
      have x9 : Ext h h9 := ((e4.trans e7).trans e8).ext m9 (fun j hj => by omega)
      simp [C9.hc, h0, rd_blk C9]
      refine ef_store_box T9 rfl rfl (by simp) ?_
      intro h10 T10 m10
      have W10 := m10.blk W9 (by omega)
      have C10 := m10.blk C9 (by omega)
      simp [rd_blk C10]
      refine ef_store_box W10 rfl rfl (by simp) ?_
      intro h11 W11 m11
      have T11 := m11.blk T10 (by omega)
      simp
      refine resP_xx rfl T11 rfl rfl W11 rfl ?_
      refine hr h11 _ ((x9.ext m10 (fun j hj => by omega)).ext m11 (fun j hj => by omega)) ⟨0, 0, Sl.nil, [], _, rfl, ?_, fun _ _ => Own.nil, .inl rfl, .inr ⟨h0, rfl, rfl, rfl, rfl⟩⟩
      exact ((hv9.step m10 (fun j hj => by omega)).step m11 (fun j hj => by omega)).mono (by omega)
end
end Go.Rm
