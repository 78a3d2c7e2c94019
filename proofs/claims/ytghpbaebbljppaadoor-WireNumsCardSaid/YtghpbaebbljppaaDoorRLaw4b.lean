/- The laws of numbers in bytes: WireMost, WireOnce. -/
import Derived.Test.YtghpbaebbljppaaDoorRLaw4
set_option linter.unusedSimpArgs false
set_option linter.unusedVariables false
namespace Go.Rm

def Stmt.tk : Stmt → Stmt
  | .seq _ b => b
  | s => s

theorem scan_self {v : Nat} (hv : v < 2 ^ 64) : scanR (encU v) = (v, (encU v).length, 0) := by
  have := scan_encU (v := v) (rest := []) hv
  simpa using this
theorem unz_zz {i : Int} (hi : -9223372036854775808 ≤ i ∧ i ≤ 9223372036854775807) : unz (zz i) = i ∧ (amt (zz i) : Int) = if i < 0 then -i else i := by
  unfold zz
  split
  · rename_i h
    refine ⟨?_, ?_⟩
    · unfold unz; rw [if_pos (by omega)]; omega
    · unfold amt; omega
  · rename_i h
    refine ⟨?_, ?_⟩
    · unfold unz; rw [if_neg (by omega)]; omega
    · unfold amt; omega
theorem zz_unz {v : Nat} (hv : v < 2 ^ 64) : zz (unz v) = v ∧ amt v ≤ 9223372036854775808 ∧ (-9223372036854775808 ≤ unz v ∧ unz v ≤ 9223372036854775807) := by
  unfold unz amt
  split
  · refine ⟨?_, by omega, by omega⟩
    unfold zz; rw [if_pos (by omega)]; omega
  · refine ⟨?_, by omega, by omega⟩
    unfold zz; rw [if_neg (by omega)]; omega

theorem rdU_enc {v most : Nat} (hv : v < 2 ^ 64) : rdU (encU v) 0 0 most = if most < v then (0, 0, 8) else (v, (encU v).length, 0) := by
  unfold rdU
  simp only [List.drop_zero, scan_self hv]
  simp
theorem rdI_enc {i : Int} {most : Nat} (hi : -9223372036854775808 ≤ i ∧ i ≤ 9223372036854775807) : rdI (encU (zz i)) 0 0 most = if most < amt (zz i) then (0, 0, 8) else (i, (encU (zz i)).length, 0) := by
  have hz := zz_lt hi
  have hu : rdU (encU (zz i)) 0 0 18446744073709551615 = (zz i, (encU (zz i)).length, 0) := by
    rw [rdU_enc hz, if_neg (by omega)]
  unfold rdI
  rw [hu]
  simp [(unz_zz hi).1]

theorem rdU_max {bs : List Nat} (hb : ∀ i, i < bs.length → nth bs i < 256) : rdU bs 0 0 18446744073709551615 = if (scanR bs).2.2 ≠ 0 then (0, 0, ((scanR bs).2.2 : Int)) else ((scanR bs).1, (scanR bs).2.1, 0) := by
  have := (scanR_facts hb).1
  unfold rdU
  simp only [List.drop_zero]
  rw [if_neg (by simp)]
  split
  · rfl
  · rw [if_neg (by omega)]; simp

section
variable {Y : Sys} {h : Heap}

theorem enc_len {v : Nat} (hv : v < 2 ^ 64) : (encU v).length ≤ 10 := by
  have : ∀ k w, (encF k w).length ≤ k + 1 := by
    intro k
    induction k with
    | zero => intro w; simp [encF]
    | succ k ih =>
      intro w
      simp only [encF]
      split
      · simp
      · have := ih (w / 128)
        simp
        omega
  exact this 9 v

theorem most_spec (HM : Y.Has F.rlaw4_WireMost S_rlaw4_WireMost) (HK : Y.Has F.rlaw4_known S_rlaw4_known) (W : WireFns Y) (RW : RefWire Y) (HT : Y.Has F.rlaw1_Tells S_rlaw1_Tells) (E : ErrSys Y) (hg : hc h E.gb 0 = some E.hv)
    {v most : Nat} {i : Int} (hv : v < 2 ^ 64) (hm : most < 2 ^ 64) (hi : -9223372036854775808 ≤ i ∧ i ≤ 9223372036854775807) {R : Value → Heap → Prop} (hr : ∀ h', Ext h h' → R (.bool true) h') :
    CallP Y F.rlaw4_WireMost [.int .u64 v, .int .u64 most, .int .i64 i] h R := by
  refine .of_has HM rfl ?_
  simp [S_rlaw4_WireMost, FnS.wp]
  refine known4_spec HK W RW HT E hg ?_
  intro h1 e1
  simp
  refine wruint_spec RW.Uint hv ?_
  intro h2 s2 e2 o2 _
  have l2 := enc_len hv
  have r2 := o2.rowB (lt_mem (encU_lt hv))
  have n2 := r2.len
  simp
  refine wnew_spec W r2 (by omega) ?_
  intro h3 p s3 e3 d3 hp hs3
  simp
  refine wrint_spec RW.Int RW.Uint hi ?_
  intro h4 s4 e4 o4 _
  have hz := zz_lt hi
  have l4 := enc_len hz
  have r4 := o4.rowB (lt_mem (encU_lt hz))
  have n4 := r4.len
  simp
  refine wnew_spec W r4 (by omega) ?_
  intro h5 q s5 e5 d5 hq hs5
  have z1 := e1.size
  have z2 := e2.size
  have z3 := e3.size
  have z4 := e4.size
  have plt := d3.blk.lt
  have d35 := (d3.ext e4).ext e5
  have x5 := (((e1.trans e2).trans e3).trans e4).trans e5
  have hp0 : h.size ≤ p := by omega
  have hq0 : h.size ≤ q := by omega
  have hpq : p ≠ q := by omega
  have hs3q : encU v ≠ [] → s3.b ≠ q := by
    intro hne
    have h1 := d3.row.val 0 (List.length_pos_iff.2 hne)
    have : s3.b < h3.size := by
      rcases Nat.lt_or_ge s3.b h3.size with g | g
      · exact g
      · simp [Rm.hc, Array.getElem?_eq_none g] at h1
    omega
  have hs5p : encU (zz i) ≠ [] → s5.b ≠ p := fun hne => by have := hs5 hne; omega
  obtain ⟨am, ham⟩ : ∃ am, am = amt (zz i) := ⟨_, rfl⟩
  have hamt := (unz_zz hi).2
  rw [← ham] at hamt
  have ru := rdU_enc (most := most) hv
  have ri := rdI_enc (most := most) hi
  rw [← ham] at ri
  -- behind both numbers: the amount, the reads, and on
  have cont : ∀ (v12 : Value), Stmt.wp Y S_rlaw4_WireMost.body.tk.tk.tk.tk.tk.tk (resP [.n 3] R) (fun _ _ _ => False) (resP [.n 3] R)
      [.int .u64 v, .int .u64 most, .int .i64 i, .bool false, .pointer (some ⟨p, 0, none⟩), .pointer (some ⟨q, 0, none⟩), .int .u64 am, undef, undef, undef, .bool false, .bool false, v12, undef] h5 := by
    intro v12
    simp [S_rlaw4_WireMost, Stmt.tk]
    refine ruint_spec W d35 (most := most) ?_
    intro h6 m6 d6
    rw [ru] at d6 ⊢
    have x6 := Mod.toExt x5 m6 hp0
    have d56 := d5.other m6 (fun h => hpq h.symm) hs5p
    simp
    refine rint_spec W d56 (most := most) ?_
    intro h7 m7 d7
    rw [ri] at d7 ⊢
    have x7 := Mod.toExt x6 m7 hq0
    have d67 := d6.other m7 hpq hs3q
    simp
    refine rat_spec RW.At ?_
    intro h8 wv e8 hw8
    obtain ⟨ps, rfl⟩ := hw8.here.shape
    have hw8 := hw8.here
    simp
    refine new_store (vs := #[ps.v, .int .i64 8]) rfl rfl (by simp) ?_
    intro wb h9' g9 B9' e9' st
    simp
    refine st _ ?_
    intro h9 B9 e9
    clear st B9' e9'
    have y9 := e8.trans e9
    have x9 := x7.trans y9
    have d6 := d67.ext y9
    have d7 := d7.ext y9
    have hw9 := hw8.ext e9
    -- the second half
    have half : ∀ (h10 : Heap) (v13 : Value), Ext h9 h10 → Stmt.wp Y S_rlaw4_WireMost.body.tk.tk.tk.tk.tk.tk.tk.tk.tk (resP [.n 3] R) (fun _ _ _ => False) (resP [.n 3] R)
        [.int .u64 v, .int .u64 most, .int .i64 i, .bool false, .pointer (some ⟨p, 0, none⟩), .pointer (some ⟨q, 0, none⟩), .int .u64 am, .int .u64 ((if most < v then (0, 0, 8) else (v, (encU v).length, 0) : Nat × Nat × Int).1 : Int), .int .i64 (if most < am then ((0, 0, 8) : Int × Nat × Int) else (i, (encU (zz i)).length, 0)).1, .pointer (some ⟨wb, 0, none⟩), .bool false, .bool false, v12, .bool false] h10 := by
      intro h10 v13 e10
      have d7 := d7.ext e10
      have x10 := x9.trans e10
      by_cases c : most < am
      · have c' : ¬ (am : Int) ≤ most := by omega
        have c2 : (most : Int) < am := by omega
        rw [if_pos c] at d7
        simp [S_rlaw4_WireMost, Stmt.tk, c, c', c2]
        refine rat'_spec W d7 ?_
        simp [rd_blk (B9.ext e10)]
        refine rdone_spec W d7 ?_
        intro h11 v e11 hv
        rw [show doneW (encU (zz i)) 0 8 = byteW 0 8 from by simp [doneW]] at hv
        simp [rd_blk ((B9.ext e10).ext e11)]
        refine tellsB HT E (a := 0) (e := 8) (by omega) ((x10.trans e11).hc hg (fun h => h)) (hw9.ext (e10.trans e11)) hv.here ?_
        intro h12 e12
        simp
        exact hr _ ((x10.trans e11).trans e12)
      · have c' : (am : Int) ≤ most := by omega
        rw [if_neg c] at d7
        simp [S_rlaw4_WireMost, Stmt.tk, c, c']
        refine rdone_spec W d7 ?_
        intro h11 v e11 hv
        have := hv.here.nil (by simp [doneW, wOK])
        subst this
        simp
        exact hr _ (x10.trans e11)
    simp only [S_rlaw4_WireMost, Stmt.tk] at half
    by_cases c : most < v
    · have c' : ¬ (v : Int) ≤ most := by omega
      have c2 : (most : Int) < v := by omega
      rw [if_pos c] at d6
      rw [if_pos c] at half
      simp [c, c', c2]
      refine rat'_spec W d6 ?_
      simp [rd_blk B9]
      refine rerr_spec W d6 ?_
      intro h10 v e10 hv
      rw [show rdW 0 8 = byteW 0 8 from by simp [rdW]] at hv
      simp [rd_blk (B9.ext e10)]
      refine tellsB HT E (a := 0) (e := 8) (by omega) ((x9.trans e10).hc hg (fun h => h)) (hw9.ext e10) hv.here ?_
      intro h11 e11
      simp [-SeqK_ap]
      rw [SeqK_ap]
      exact half h11 undef (e10.trans e11)
    · have c' : (v : Int) ≤ most := by omega
      have c2 : ¬ (most : Int) < v := by omega
      rw [if_neg c] at d6
      rw [if_neg c] at half
      simp [c, c', c2]
      refine rdone_spec W d6 ?_
      intro h10 v e10 hv
      have := hv.here.nil (by simp [doneW, wOK])
      subst this
      simp [c2, -SeqK_ap]
      rw [SeqK_ap]
      exact half h10 undef e10
  simp only [S_rlaw4_WireMost, Stmt.tk] at cont
  by_cases hneg : i < 0
  · have w1 : IntKind.u64.wrap i = i + 18446744073709551616 := by simp [IntKind.wrap, IntKind.bits, IntKind.signed]; omega
    have w2 : IntKind.u64.wrap (0 - (i + 18446744073709551616)) = (am : Int) := by
      rw [hamt, if_pos hneg]; simp [IntKind.wrap, IntKind.bits, IntKind.signed]; omega
    have w2' : IntKind.u64.wrap (-(i + 18446744073709551616)) = (am : Int) := by rw [← w2]; congr 1; omega
    simp [hneg, w1, w2, w2', -SeqK_ap]
    iterate 5 (rw [SeqK_ap]; simp [hneg, w1, w2, w2', -SeqK_ap])
    rw [SeqK_ap]
    exact cont _
  · have w1 : IntKind.u64.wrap i = (am : Int) := by
      rw [hamt, if_neg hneg]; exact u64_wrap (by omega)
    simp [hneg, w1, -SeqK_ap]
    iterate 5 (rw [SeqK_ap]; simp [hneg, w1, -SeqK_ap])
    rw [SeqK_ap]
    exact cont _
end
end Go.Rm
