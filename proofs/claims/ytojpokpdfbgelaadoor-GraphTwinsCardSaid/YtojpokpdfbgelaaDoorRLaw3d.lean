import Derived.Test.YtojpokpdfbgelaaDoorRLaw3c

/- The laws of nets: NetParts, NetGrid. -/
set_option linter.unusedSimpArgs false
set_option linter.unusedVariables false
namespace Go.Rm

-- parts of a walk
theorem nthI_take {l : List Int} {k i : Nat} (hi : i < k) : nthI (l.take k) i = nthI l i := by
  simp only [nthI, List.getD_eq_getElem?_getD, List.getElem?_take, hi, if_true]
theorem nthI_drop {l : List Int} {k i : Nat} : nthI (l.drop k) i = nthI l (k + i) := by
  simp only [nthI, List.getD_eq_getElem?_getD, List.getElem?_drop]
theorem stepOk_take {N : NetD} {l : List Int} {k i : Nat} (hi : i < k) : stepOk N (l.take k) i = stepOk N l i := by
  unfold stepOk
  rw [nthI_take hi, nthI_take (by omega)]
theorem stepOk_drop {N : NetD} {l : List Int} {k i : Nat} : stepOk N (l.drop k) (i + 1) = stepOk N l (k + (i + 1)) := by
  unfold stepOk
  have e1 : decide (i + 1 = 0) = false := by simp
  have e2 : decide (k + (i + 1) = 0) = false := by simp
  rw [nthI_drop, nthI_drop, e1, e2, show k + (i + 1) - 1 = k + (i + 1 - 1) by omega]
theorem stepOk_first {N : NetD} {l : List Int} {k : Nat} (h : stepOk N l k = true) : stepOk N (l.drop k) 0 = true := by
  unfold stepOk at *
  simp only [Bool.and_eq_true] at h
  rw [nthI_drop, Nat.add_zero]
  simp [h.1.1, h.1.2]
theorem walk_parts {N : NetD} {l : List Int} {k : Nat} (hk : k < l.length) : walkB N l = (walkB N (l.take (k + 1)) && walkB N (l.drop k)) := by
  rw [Bool.eq_iff_iff, Bool.and_eq_true, walkB_iff, walkB_iff, walkB_iff]
  have hl : (l.take (k + 1)).length = k + 1 := by rw [List.length_take]; omega
  have hd : (l.drop k).length = l.length - k := List.length_drop ..
  constructor
  · rintro ⟨h1, h2⟩
    refine ⟨⟨fun e => by rw [e] at hl; simp at hl, fun i hi => ?_⟩, fun e => by rw [e] at hd; simp at hd; omega, fun i hi => ?_⟩
    · rw [stepOk_take (by omega)]; exact h2 i (by omega)
    · cases i with
      | zero => exact stepOk_first (h2 k hk)
      | succ i => rw [stepOk_drop]; exact h2 _ (by omega)
  · rintro ⟨⟨_, h1⟩, _, h2⟩
    refine ⟨fun e => by rw [e] at hk; simp at hk, fun i hi => ?_⟩
    rcases Nat.lt_or_ge i (k + 1) with q | q
    · have := h1 i (by omega)
      rwa [stepOk_take q] at this
    · have := h2 (i - k - 1 + 1) (by omega)
      rw [stepOk_drop] at this
      rwa [show k + (i - k - 1 + 1) = i by omega] at this
theorem costTo_take {N : NetD} {l : List Int} {k : Nat} : ∀ {i : Nat}, i ≤ k → costTo N (l.take k) i = costTo N l i := by
  intro i
  induction i with
  | zero => intro _; rfl
  | succ i ih =>
    intro hi
    rw [costTo, costTo]
    split
    · rfl
    · rw [ih (by omega), nthI_take (by omega), nthI_take (by omega)]
theorem costTo_drop {N : NetD} {l : List Int} {k : Nat} : ∀ {i : Nat}, costTo N l (k + 1 + i) = addI (costTo N l (k + 1)) (costTo N (l.drop k) (i + 1)) := by
  intro i
  induction i with
  | zero =>
    have : costTo N (l.drop k) (0 + 1) = 0 := by simp [costTo]
    rw [this]
    have h := costTo_range (N := N) (l := l) (i := k + 1)
    unfold addI
    rw [show held 0 = 0 from rfl, Int.add_zero, held_id held_range, held_id h]
  | succ i ih =>
    have e1 : costTo N l (k + 1 + (i + 1)) = addI (addI (costTo N l (k + 1 + i)) (turnV N (nthI l (k + i)) (nthI l (k + 1 + i)))) (arcC N (nthI l (k + 1 + i))) := by
      rw [show k + 1 + (i + 1) = (k + 1 + i) + 1 by omega, costTo, if_neg (by omega), show k + 1 + i - 1 = k + i by omega]
    have e2 : costTo N (l.drop k) (i + 1 + 1) = addI (addI (costTo N (l.drop k) (i + 1)) (turnV N (nthI l (k + i)) (nthI l (k + 1 + i)))) (arcC N (nthI l (k + 1 + i))) := by
      rw [costTo, if_neg (by omega), nthI_drop, nthI_drop, show i + 1 - 1 = i by omega, show k + (i + 1) = k + 1 + i by omega]
    rw [e1, e2, ih, addI_assoc, addI_assoc, addI_assoc]
theorem addI_inf {a : Int} : addI InfI a = InfI ∧ addI a InfI = InfI := by
  unfold addI
  have ha := held_range (a := a)
  have : held InfI = InfI := rfl
  rw [this]
  generalize held a = x at *
  unfold held InfI at *
  constructor
  all_goals
    repeat' split
    all_goals omega
theorem cost_parts {N : NetD} {l : List Int} {k : Nat} (hk : k < l.length) : costV N l = addI (costV N (l.take (k + 1))) (costV N (l.drop k)) := by
  have hl : (l.take (k + 1)).length = k + 1 := by rw [List.length_take]; omega
  have hd : (l.drop k).length = l.length - k := List.length_drop ..
  unfold costV
  rw [walk_parts hk, hl, hd]
  cases h1 : walkB N (l.take (k + 1)) with
  | false => simp [addI_inf]
  | true =>
    cases h2 : walkB N (l.drop k) with
    | false => simp [addI_inf]
    | true =>
      simp only [Bool.and_self, if_true]
      rw [costTo_take (Nat.le_refl _)]
      have := costTo_drop (N := N) (l := l) (k := k) (i := l.length - k - 1)
      rw [show k + 1 + (l.length - k - 1) = l.length by omega, show l.length - k - 1 + 1 = l.length - k by omega] at this
      exact this

section
variable {Y : Sys} {h : Heap}

theorem Row64.take {s : Sl} {cs : List Int} (r : Row64 h s cs) {j : Nat} (hj : j ≤ s.n) : Row64 h { s with n := j } (cs.take j) := by
  have hl := r.len
  refine ⟨⟨fun hn => ?_, ?_, r.ok.spot⟩, by simp; omega, fun i hi => ?_⟩
  · have := r.ok.nil hn
    exact ⟨show j = 0 by omega, this.2⟩
  · exact Nat.le_trans hj r.ok.le
  · have hi' : i < j := by simp at hi; omega
    rw [nthI_take hi']
    exact r.val i (by omega)
theorem Row64.drop {s : Sl} {cs : List Int} (r : Row64 h s cs) {j : Nat} (hj : j ≤ s.n) : Row64 h { s with o := if s.c = j then s.o else s.o + j * 1, n := s.n - j, c := s.c - j } (cs.drop j) := by
  have hl := r.len
  have hle := r.ok.le
  refine ⟨⟨fun hn => ?_, show s.n - j ≤ s.c - j by omega, r.ok.spot.imp_right fun h => show s.c - j = 0 by omega⟩, by simp; omega, fun i hi => ?_⟩
  · have := r.ok.nil hn
    exact ⟨show s.n - j = 0 by omega, show s.c - j = 0 by omega⟩
  · have hi' : j + i < cs.length := by simp at hi; omega
    rw [nthI_drop]
    have := r.val (j + i) hi'
    have hc : ¬ s.c = j := by omega
    simp only [hc, if_false, Nat.mul_one]
    rwa [Nat.add_assoc]

theorem netparts_spec (L : NetLaw Y) (HA : Y.Has F.rlaw3_NetParts S_rlaw3_NetParts) (RA : Y.Has F.rref6_At S_rref6_At) (E : ErrSys Y) (hg : hc h E.gb 0 = some E.hv) {sv sa st s : Sl} {N : NetD} {cs : List Int}
    (r : NetH h sv sa st N) (rl : Row64 h s cs) {a : Nat} (ha : a < 256) {R : Value → Heap → Prop} (hr : ∀ h', Ext h h' → R (.bool true) h') : CallP Y F.rlaw3_NetParts [netV sv sa st, s.v, .int .u8 a] h R := by
  have ll := rl.len
  refine .of_has HA rfl ?_
  simp [S_rlaw3_NetParts, FnS.wp, netV]
  refine ef_new_box ?_
  intro B hB gB bB eB
  have cB : ∀ g, Ext g h → Ext g hB := fun g e => Mod.trans e eB
  simp
  refine known3_spec L RA E (eB.hc hg (fun h => h)) ?_
  intro h1 e1
  have c_h1 : ∀ g, Ext g hB → Ext g h1 := fun g e => Mod.trans e e1
  have x1 := eB.trans e1
  simp (config := { maxDischargeDepth := 60 }) [cB, bB.sk, bB.rk, c_h1]
  refine may_spec L (r.ext x1) ?_
  intro h2 e2
  have c_h2 : ∀ g, Ext g h1 → Ext g h2 := fun g e => Mod.trans e e2
  have x2 := x1.trans e2
  by_cases c1 : mayD N = true
  rotate_left
  · simp [c1]
    exact hr _ x2
  obtain ⟨cf, ok⟩ := may_ok c1
  have ba := ok.ba
  by_cases c2 : s.n < 1
  · have c2' : (s.n : Int) < 1 := by omega
    simp [c1, c2', c2]
    exact hr _ x2
  have c2' : ¬ (s.n : Int) < 1 := by omega
  by_cases c3 : 60 < s.n
  · have c3' : (60 : Int) < s.n := by omega
    simp [c1, c2', c2, c3', Int.not_lt.1 c2']
    exact hr _ x2
  have c3' : ¬ (60 : Int) < s.n := by omega
  have c4' : (s.n : Int) ≤ 60 := by omega
  simp (config := { maxDischargeDepth := 60 }) [cB, bB.sk, bB.rk, c_h1, c_h2, c1, c2', c2, c3', c4', Int.not_lt.1 c2']
  refine toF_spec L (r.ext x2) cf ?_
  intro h3 a1 a2 a3 e3 r3
  have c_h3 : ∀ g, Ext g h2 → Ext g h3 := fun g e => Mod.trans e e3
  simp [netV]
  refine new_store (vs := #[a1.v, a2.v, a3.v]) rfl rfl (by simp) ?_
  intro C hCp gC bCp eCp stC
  have cCp : ∀ g, Ext g h3 → Ext g hCp := fun g e => Mod.trans e eCp
  simp (config := { maxDischargeDepth := 60 }) [cB, bB.sk, bB.rk, c_h1, c_h2, c_h3, cCp]
  refine stC _ ?_
  intro hC bC eC
  clear cCp stC bCp eCp
  have cC : ∀ g, Ext g h3 → Ext g hC := fun g e => Mod.trans e eC
  have x3 := (x2.trans e3).trans eC
  have r3 := r3.ext eC
  have w0 : IntKind.i64.wrap (a : Int) = a := i64_wrap (by omega)
  have hne : (s.n : Int) ≠ 0 := by omega
  have ht : (a : Int).tmod s.n = ((a % s.n : Nat) : Int) := by rw [Int.tmod_eq_emod_of_nonneg (by omega)]; omega
  have hk : a % s.n < s.n := Nat.mod_lt _ (by omega)
  obtain ⟨k, hk'⟩ : ∃ k, k = a % s.n := ⟨_, rfl⟩
  rw [← hk'] at ht hk
  have k1 : (0 : Int) ≤ (k : Int) + 1 := by omega
  have hle := rl.ok.le
  have k2 : (k : Int) + 1 ≤ s.c := by omega
  have k3 : (k : Int) ≤ s.n := by omega
  have k4 : ((k : Int) + 1).toNat = k + 1 := by omega
  have w1 : IntKind.i64.wrap ((k : Int) + 1) = (k : Int) + 1 := i64_wrap (by omega)
  simp (config := { maxDischargeDepth := 60 }) [cB, bB.sk, bB.rk, c_h1, c_h2, c_h3, cC, bC.sk, bC.rk, w0, ib_rem hne, ht, w1, sem_slc_hi rl.ok k1 k2, sem_slc_lo rl.ok (Int.natCast_nonneg k) k3, k4]
  have rt := (rl.ext x3).take (j := k + 1) (by omega)
  have rd := (rl.ext x3).drop (j := k) (by omega)
  simp only [Nat.mul_one] at rd
  have hkl : k < cs.length := by omega
  refine nwalk_spec L.N2 L.T L.C r3 rt (show k + 1 ≤ 1000000 by omega) ok.bv ba ok.arcs ?_
  intro h4 e4
  have y4 : Ext hC h4 := e4
  have c_h4 : ∀ g, Ext g hC → Ext g h4 := fun g e => Mod.trans e e4
  simp (config := { maxDischargeDepth := 60 }) [cB, bB.sk, bB.rk, c_h1, c_h2, c_h3, cC, bC.sk, bC.rk, w0, ib_rem hne, ht, w1, sem_slc_hi rl.ok k1 k2, sem_slc_lo rl.ok (Int.natCast_nonneg k) k3, k4, c_h4]
  refine nwalk_spec L.N2 L.T L.C (r3.ext y4) (rd.ext y4) (show s.n - k ≤ 1000000 by omega) ok.bv ba ok.arcs ?_
  intro h5 e5
  have y5 := y4.trans e5
  have c_h5 : ∀ g, Ext g h4 → Ext g h5 := fun g e => Mod.trans e e5
  simp (config := { maxDischargeDepth := 60 }) [cB, bB.sk, bB.rk, c_h1, c_h2, c_h3, cC, bC.sk, bC.rk, w0, ib_rem hne, ht, w1, sem_slc_hi rl.ok k1 k2, sem_slc_lo rl.ok (Int.natCast_nonneg k) k3, k4, c_h4, c_h5]
  refine nwalk_spec L.N2 L.T L.C (r3.ext y5) (rl.ext (x3.trans y5)) (by omega) ok.bv ba ok.arcs ?_
  intro h6 e6
  have y6 := y5.trans e6
  have c_h6 : ∀ g, Ext g h5 → Ext g h6 := fun g e => Mod.trans e e6
  rw [walk_parts hkl]
  have fin : ∀ {b1 b2 : Bool} {K : Prop}, K → (if (b1 == true) = true then K else K) := fun h => by split <;> exact h
  cases hb1 : walkB N (cs.take (k + 1)) with
  | false =>
    simp (config := { maxDischargeDepth := 60 }) [cB, bB.sk, bB.rk, c_h1, c_h2, c_h3, cC, bC.sk, bC.rk, w0, ib_rem hne, ht, w1, sem_slc_hi rl.ok k1 k2, sem_slc_lo rl.ok (Int.natCast_nonneg k) k3, k4, c_h4, c_h5, c_h6]
    refine ncost_spec L.N2 L.T L.C (r3.ext y6) (rl.ext (x3.trans y6)) (by omega) ok.bv ba ok.arcs ?_
    intro h7 e7
    have y7 := y6.trans e7
    have c_h7 : ∀ g, Ext g h6 → Ext g h7 := fun g e => Mod.trans e e7
    simp (config := { maxDischargeDepth := 60 }) [cB, bB.sk, bB.rk, c_h1, c_h2, c_h3, cC, bC.sk, bC.rk, w0, ib_rem hne, ht, w1, sem_slc_hi rl.ok k1 k2, sem_slc_lo rl.ok (Int.natCast_nonneg k) k3, k4, c_h4, c_h5, c_h6, c_h7]
    refine ncost_spec L.N2 L.T L.C (r3.ext y7) (rt.ext y7) (show k + 1 ≤ 1000000 by omega) ok.bv ba ok.arcs ?_
    intro h8 e8
    have y8 := y7.trans e8
    have c_h8 : ∀ g, Ext g h7 → Ext g h8 := fun g e => Mod.trans e e8
    simp (config := { maxDischargeDepth := 60 }) [cB, bB.sk, bB.rk, c_h1, c_h2, c_h3, cC, bC.sk, bC.rk, w0, ib_rem hne, ht, w1, sem_slc_hi rl.ok k1 k2, sem_slc_lo rl.ok (Int.natCast_nonneg k) k3, k4, c_h4, c_h5, c_h6, c_h7, c_h8]
    refine ncost_spec L.N2 L.T L.C (r3.ext y8) (rd.ext y8) (show s.n - k ≤ 1000000 by omega) ok.bv ba ok.arcs ?_
    intro h9 e9
    have y9 := y8.trans e9
    simp
    refine add_spec L.C ?_
    simp [← cost_parts hkl]
    exact hr _ (x3.trans y9)
  | true =>
    simp (config := { maxDischargeDepth := 60 }) [cB, bB.sk, bB.rk, c_h1, c_h2, c_h3, cC, bC.sk, bC.rk, w0, ib_rem hne, ht, w1, sem_slc_hi rl.ok k1 k2, sem_slc_lo rl.ok (Int.natCast_nonneg k) k3, k4, c_h4, c_h5, c_h6]
    refine ncost_spec L.N2 L.T L.C (r3.ext y6) (rl.ext (x3.trans y6)) (by omega) ok.bv ba ok.arcs ?_
    intro h7 e7
    have y7 := y6.trans e7
    have c_h7 : ∀ g, Ext g h6 → Ext g h7 := fun g e => Mod.trans e e7
    simp (config := { maxDischargeDepth := 60 }) [cB, bB.sk, bB.rk, c_h1, c_h2, c_h3, cC, bC.sk, bC.rk, w0, ib_rem hne, ht, w1, sem_slc_hi rl.ok k1 k2, sem_slc_lo rl.ok (Int.natCast_nonneg k) k3, k4, c_h4, c_h5, c_h6, c_h7]
    refine ncost_spec L.N2 L.T L.C (r3.ext y7) (rt.ext y7) (show k + 1 ≤ 1000000 by omega) ok.bv ba ok.arcs ?_
    intro h8 e8
    have y8 := y7.trans e8
    have c_h8 : ∀ g, Ext g h7 → Ext g h8 := fun g e => Mod.trans e e8
    simp (config := { maxDischargeDepth := 60 }) [cB, bB.sk, bB.rk, c_h1, c_h2, c_h3, cC, bC.sk, bC.rk, w0, ib_rem hne, ht, w1, sem_slc_hi rl.ok k1 k2, sem_slc_lo rl.ok (Int.natCast_nonneg k) k3, k4, c_h4, c_h5, c_h6, c_h7, c_h8]
    refine ncost_spec L.N2 L.T L.C (r3.ext y8) (rd.ext y8) (show s.n - k ≤ 1000000 by omega) ok.bv ba ok.arcs ?_
    intro h9 e9
    have y9 := y8.trans e9
    simp
    refine add_spec L.C ?_
    simp [← cost_parts hkl]
    exact hr _ (x3.trans y9)
end
end Go.Rm
