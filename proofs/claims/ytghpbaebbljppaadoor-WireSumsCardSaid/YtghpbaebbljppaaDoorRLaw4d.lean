/- The laws of numbers in bytes: WireParts. -/
import Derived.Test.YtghpbaebbljppaaDoorRLaw4c
set_option linter.unusedSimpArgs false
set_option linter.unusedVariables false
namespace Go.Rm

section
variable {Y : Sys} {h : Heap}

def PartsI (s t s2 : Sl) (bs : List Nat) (p : Nat) (h0 : Heap) (e : List Value) (h' : Heap) : Prop :=
  ∃ (i a : Nat) (v6 v7 v11 v12 v13 : Value), e = [s.v, t.v, .bool false, .pointer (some ⟨p, 0, none⟩), .int .i64 a, .int .i64 i, v6, v7, .bool false, .bool false, .bool false, v11, v12, v13] ∧ i ≤ t.n ∧ a ≤ bs.length ∧ RdR h' p bs a 0 s2 ∧ Ext h0 h'

theorem parts_spec (HM : Y.Has F.rlaw4_WireParts S_rlaw4_WireParts) (HK : Y.Has F.rlaw4_known S_rlaw4_known) (W : WireFns Y) (RW : RefWire Y) (HT : Y.Has F.rlaw1_Tells S_rlaw1_Tells) (E : ErrSys Y) (hg : hc h E.gb 0 = some E.hv)
    {s t : Sl} {bs ts : List Nat} (r : RowB h s bs) (sp : s.sp = none) (rt : RowB h t ts) {R : Value → Heap → Prop} (hr : ∀ h', Ext h h' → R (.bool true) h') :
    CallP Y F.rlaw4_WireParts [s.v, t.v] h R := by
  have hl := r.len
  have hlt := rt.len
  refine .of_has HM rfl ?_
  simp [S_rlaw4_WireParts, FnS.wp]
  refine known4_spec HK W RW HT E hg ?_
  intro h1 e1
  simp
  by_cases big : 300 < s.n
  · have : (300 : Int) < s.n := by omega
    have this' : ¬ (s.n : Int) ≤ 300 := by omega
    simp [this, this']
    exact hr _ e1
  have b1 : ¬ (300 : Int) < s.n := by omega
  by_cases big2 : 60 < t.n
  · have : (60 : Int) < t.n := by omega
    have b1' : (s.n : Int) ≤ 300 := by omega
    simp [b1, b1', this]
    exact hr _ e1
  have b2 : ¬ (60 : Int) < t.n := by omega
  have b1' : (s.n : Int) ≤ 300 := by omega
  simp [b1, b1', b2]
  refine wnew_spec W (r.ext e1) (by omega) ?_
  intro h2 p s2 e2 d2 hp hs2
  have z1 := e1.size
  have hp0 : h.size ≤ p := by omega
  simp
  refine wp_loop' (PartsI s t s2 bs p h) (fun e _ => t.n - argI e 5) ⟨0, 0, _, _, _, _, _, rfl, by omega, by omega, d2, e1.trans e2⟩ ?_
  rintro e h3 ⟨i, a, v6, v7, v11, v12, v13, rfl, hi, ha, d3, x3⟩
  have r3 := r.ext x3
  have rt3 := rt.ext x3
  by_cases c : i < t.n
  · have c' : (i : Int) < t.n := by omega
    have hx := rt.lt i (by omega)
    have hcell := rt3.at c
    generalize nth ts i = x at *
    obtain ⟨m, hm⟩ : ∃ m, m = x % 40 := ⟨_, rfl⟩
    have t1 : (x : Int).tmod 40 = (m : Int) := by rw [Int.tmod_eq_emod_of_nonneg (by omega)]; omega
    have w1 : IntKind.i64.wrap (m : Int) = (m : Int) := i64_wrap (by omega)
    have w2 : IntKind.i64.wrap ((s.n : Int) - a) = (s.n : Int) - a := i64_wrap (by omega)
    have w3 : IntKind.i64.wrap ((i : Int) + 1) = (i : Int) + 1 := i64_wrap (by omega)
    have w4 : IntKind.i64.wrap ((a : Int) + m) = (a : Int) + m := i64_wrap (by omega)
    simp [c', sem_idxa rt.ok, hcell, ib_rem, t1, w1]
    refine rbytes_spec W d3 (n := m) (by omega) ?_
    intro h4 s4 m4 d4 r4 sp4 _
    have x4 := Mod.toExt x3 m4 hp0
    by_cases q : (s.n : Int) - a < m
    · have hv : rdB bs a 0 m = ([], a, 3) := by
        simp only [rdB, hl]
        rw [if_neg (by simp), if_neg (by omega), if_pos q]
      rw [hv] at d4 r4
      have hn4 := r4.len
      have hn4' : s4.n = 0 := by simpa using hn4.symm
      simp [w2, q, hn4']
      refine rat'_spec W d4 ?_
      simp
      refine rerr_spec W d4 ?_
      intro h5 v5 e5 hv5
      rw [show rdW a 3 = byteW a 3 from by simp [rdW]] at hv5
      simp
      refine rat_spec RW.At ?_
      intro h6 v6 e6 hv6
      have x6 := (x4.trans e5).trans e6
      simp
      refine tellsB HT E (a := a) (e := 3) (by omega) (x6.hc hg (fun h => h)) hv6.here ((hv5.ext e6).here) ?_
      intro h7 e7
      have d7 := d4.ext ((e5.trans e6).trans e7)
      simp
      refine rbytes_spec W d7 (n := 0) (by omega) ?_
      intro h8 s8 m8 d8 r8 _ _
      have hn8 : s8.n = 0 := by
        have := r8.len
        simpa [rdB] using this.symm
      simp [hn8]
      exact hr _ (Mod.toExt (x6.trans e7) m8 hp0)
    · have hv : rdB bs a 0 m = ((bs.drop a).take m, a + m, 0) := by
        simp only [rdB, hl]
        rw [if_neg (by simp), if_neg (by omega), if_neg q]
        simp
      rw [hv] at d4 r4
      have r4s := r.ext x4
      have rc := r4s.cut (a := a) (n := m) (by omega)
      have hle := r.ok.le
      have q1 : (a : Int) ≤ (a : Int) + m := by omega
      have q2 : (a : Int) + m ≤ s.c := by omega
      have q3 : ((a : Int) + m).toNat - a = m := by omega
      simp only [Nat.mul_one] at rc
      have hlt4 := mem_lt r4.lt
      simp [w2, q, w4, sem_slc_both r.ok, q1, q2, q3, sem_b2s r4 sp4, sem_b2s rc sp, sb_ne hlt4 hlt4, w3]
      exact ⟨⟨i + 1, a + m, _, _, _, _, _, rfl, by omega, by omega, d4, x4⟩, by simp [argI]; omega⟩
  · have c' : ¬ (i : Int) < t.n := by omega
    simp [c']
    refine rat'_spec W d3 ?_
    simp
    refine rerr_spec W d3 ?_
    intro h4 v4 e4 hv4
    have := hv4.here.nil (by simp [rdW, wOK])
    subst this
    have d4 := d3.ext e4
    simp
    refine rdone_spec W d4 ?_
    intro h5 v5 e5 hv5
    by_cases q : a < bs.length
    · have q' : ¬ (a : Int) = s.n := by omega
      have q'' : ¬ a = s.n := by omega
      obtain ⟨t6, u6, rfl⟩ := hv5.here.iface (by simp [doneW, q, byteW])
      simp [q', q'']
      exact hr _ ((x3.trans e4).trans e5)
    · have q' : (a : Int) = s.n := by omega
      have q'' : a = s.n := by omega
      have := hv5.here.nil (by simp [doneW, q, wOK])
      subst this
      simp [q', q'']
      exact hr _ ((x3.trans e4).trans e5)
end
end Go.Rm
