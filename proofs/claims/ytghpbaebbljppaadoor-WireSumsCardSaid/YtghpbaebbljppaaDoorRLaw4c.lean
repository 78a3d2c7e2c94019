/- The laws of numbers in bytes: WireOnce. -/
import Derived.Test.YtghpbaebbljppaaDoorRLaw4b
set_option linter.unusedSimpArgs false
set_option linter.unusedVariables false
namespace Go.Rm

theorem rowB_of {h : Heap} {s : Sl} {f : Nat → Int} (hs : IntsAt h s .u8 f) (hf : ∀ i, i < s.n → IntKind.u8.min ≤ f i ∧ f i ≤ IntKind.u8.max) : RowB h s ((List.range s.n).map fun i => (f i).toNat) := by
  have hf' : ∀ i, i < s.n → 0 ≤ f i ∧ f i ≤ 255 := fun i hi => by simpa [IntKind.min, IntKind.max, IntKind.signed, IntKind.bits] using hf i hi
  refine ⟨hs.ok, by simp, fun i hi => ?_, fun i hi => ?_⟩
  · have hi : i < s.n := by simpa using hi
    have := hf' i hi
    rw [hs.val i hi]
    simp [nth, hi]
    omega
  · have hi : i < s.n := by simpa using hi
    have := hf' i hi
    simp [nth, hi]
    omega

theorem rdI_max {bs : List Nat} (hb : ∀ i, i < bs.length → nth bs i < 256) : rdI bs 0 0 9223372036854775808 = if (scanR bs).2.2 ≠ 0 then (0, 0, ((scanR bs).2.2 : Int)) else (unz (scanR bs).1, (scanR bs).2.1, 0) := by
  have := (zz_unz (scanR_facts hb).1).2.1
  unfold rdI
  rw [rdU_max hb]
  split
  · rename_i c
    rw [if_pos (by simpa using c)]
  · rw [if_neg (by simp), if_neg (by simpa using this)]

section
variable {Y : Sys} {h : Heap}

theorem once_spec (HM : Y.Has F.rlaw4_WireOnce S_rlaw4_WireOnce) (HK : Y.Has F.rlaw4_known S_rlaw4_known) (W : WireFns Y) (RW : RefWire Y) (HT : Y.Has F.rlaw1_Tells S_rlaw1_Tells) (E : ErrSys Y) (hg : hc h E.gb 0 = some E.hv)
    {s : Sl} {bs : List Nat} (r : RowB h s bs) (sp : s.sp = none) {R : Value → Heap → Prop} (hr : ∀ h', Ext h h' → R (.bool true) h') :
    CallP Y F.rlaw4_WireOnce [s.v] h R := by
  have hl := r.len
  refine .of_has HM rfl ?_
  simp [S_rlaw4_WireOnce, FnS.wp]
  refine known4_spec HK W RW HT E hg ?_
  intro h1 e1
  simp
  by_cases big : 40 < s.n
  · have : (40 : Int) < s.n := by omega
    simp [this]
    exact hr _ e1
  · have : ¬ (40 : Int) < s.n := by omega
    simp [this]
    refine wnew_spec W (r.ext e1) (by omega) ?_
    intro h2 p s2 e2 d2 hp hs2
    simp
    refine wnew_spec W ((r.ext e1).ext e2) (by omega) ?_
    intro h3 q s3 e3 d3 hq hs3
    have plt := d2.blk.lt
    have hpq : p ≠ q := by omega
    have d23 := d2.ext e3
    have x3 := (e1.trans e2).trans e3
    have z1 := e1.size
    have z2 := e2.size
    have hp0 : h.size ≤ p := by omega
    have hq0 : h.size ≤ q := by omega
    have hs2q : bs ≠ [] → s2.b ≠ q := by
      intro hne
      have h1 := d2.row.val 0 (List.length_pos_iff.2 hne)
      have : s2.b < h2.size := by
        rcases Nat.lt_or_ge s2.b h2.size with g | g
        · exact g
        · simp [Rm.hc, Array.getElem?_eq_none g] at h1
      omega
    have hs3p : bs ≠ [] → s3.b ≠ p := fun hne => by have := hs3 hne; omega
    simp
    refine ruint_spec W d23 (most := 18446744073709551615) ?_
    intro h4 m4 d4
    have x4 := Mod.toExt x3 m4 hp0
    have d34 := d3.other m4 (fun h => hpq h.symm) hs3p
    simp
    refine rint_spec W d34 (most := 9223372036854775808) ?_
    intro h5 m5 d5
    have x5 := Mod.toExt x4 m5 hq0
    have d45 := d4.other m5 hpq hs2q
    have r5 := r.ext x5
    have hu := rdU_max r.lt
    have hi := rdI_max r.lt
    have hsc := scanR_facts r.lt
    rw [hu] at d45 ⊢
    rw [hi] at d5 ⊢
    by_cases c : (scanR bs).2.2 = 0
    · simp [c] at d45 d5 ⊢
      refine rerr_spec W d45 ?_
      intro h6 v6 e6 hv6
      have := hv6.here.nil (by simp [rdW, wOK])
      subst this
      have d6 := d5.ext e6
      have d46 := d45.ext e6
      simp
      refine rerr_spec W d6 ?_
      intro h7 v7 e7 hv7
      have := hv7.here.nil (by simp [rdW, wOK])
      subst this
      have d7 := d6.ext e7
      have d47 := d46.ext e7
      simp
      refine rat'_spec W d47 ?_
      simp
      refine rat'_spec W d7 ?_
      simp
      have henc := encU_scan (mem_lt r.lt) c
      have hzz := zz_unz hsc.1
      refine wuint_spec W.Uint hsc.1 ?_
      intro h8 s8 e8 o8 _
      have r8 := o8.rowB (lt_mem (encU_lt hsc.1))
      rw [henc] at r8
      have x8 := ((x5.trans e6).trans e7).trans e8
      have d8 := d47.ext e8
      simp [sem_b2s r8 o8.sp]
      refine rat'_spec W d8 ?_
      have r8' := (r5.ext e6).ext (e7.trans e8)
      have q1 : ((scanR bs).2.1 : Int) ≤ s.c := by have := r.ok.le; omega
      simp [sem_slc_hi r8'.ok, q1]
      have hcut : RowB h8 { s with n := (scanR bs).2.1 } (bs.take (scanR bs).2.1) := ⟨⟨fun h => by have := r.ok.nil h; simp; omega, by simp; omega, r.ok.spot⟩, by simp; omega, fun i hi => by
          have hi' : i < (scanR bs).2.1 := by simp at hi; omega
          rw [nth_take hi']; exact r8'.val i (by omega), fun i hi => by
          have hi' : i < (scanR bs).2.1 := by simp at hi; omega
          rw [nth_take hi']; exact r.lt i (by omega)⟩
      simp [sem_b2s hcut sp]
      rw [sb_eq (mem_lt hcut.lt) (mem_lt hcut.lt)]
      simp [sem_b2s r8 o8.sp]
      refine wint_spec W.Int W.Uint hzz.2.2 ?_
      intro h9 s9 e9 o9 _
      have r9 := o9.rowB (lt_mem (encU_lt (zz_lt hzz.2.2)))
      rw [hzz.1, henc] at r9
      have d9 := d8.ext e9
      have hcut9 := hcut.ext e9
      simp [sem_b2s r9 o9.sp]
      refine rat'_spec W d9 ?_
      simp [sem_slc_hi r8'.ok, q1, sem_b2s hcut9 sp]
      rw [sb_eq (mem_lt hcut.lt) (mem_lt hcut.lt)]
      simp
      exact ⟨sem_b2s r9 o9.sp, hr _ (x8.trans e9)⟩
    · obtain ⟨e, he⟩ : ∃ e, e = (scanR bs).2.2 := ⟨_, rfl⟩
      rw [← he] at c d45 d5 ⊢
      have cI : (e : Int) ≠ 0 := by omega
      simp [c] at d45 d5 ⊢
      refine rerr_spec W d45 ?_
      intro h6 v6 e6 hv6
      obtain ⟨t6, u6, rfl⟩ := hv6.here.iface (by simp [rdW, c, byteW])
      have d6 := d5.ext e6
      have d46 := d45.ext e6
      simp
      refine rerr_spec W d6 ?_
      intro h7 v7 e7 hv7
      obtain ⟨t7, u7, rfl⟩ := hv7.here.iface (by simp [rdW, c, byteW])
      have d47 := d46.ext e7
      simp
      refine rat'_spec W d47 ?_
      simp
      exact hr _ ((x5.trans e6).trans e7)
end
end Go.Rm
