import Derived.Test.YtojpokpdfbgelaaDoorRTurn
import Derived.Test.YtojpokpdfbgelaaDoorSNums

/- The document's tables (roundsmanref6): what each function does. -/
set_option linter.unusedSimpArgs false
set_option linter.unusedVariables false
namespace Go.Rm
section
variable {Y : Sys} {h : Heap}

theorem ef_bslice_part {K : Value → Heap → Prop} {z0 z1 p a : Value} :
    Ef.wp h K (.bslice 1 2 #[z0, z1] [0]) [.agg #[p, a]] = ∀ t : TypeId, K (.slice (some ⟨h.size, 0, none⟩) 1 1) (h.push (.cells #[p, a] t)) := by
  have e : Instr.fill (fun i => some (i * 2, 2)) (zeros #[z0, z1] (1 * 2)) ([0].zip [.agg #[p, a]]) = some #[p, a] := by
    simp [Instr.fill, zeros]
    apply Array.ext
    · simp
    · intro i h1 h2
      match i, h2 with
      | 0, _ => simp
      | 1, _ => simp
      | i + 2, h2 => exact absurd h2 (by simp)
  simp only [Ef.wp, e]

abbrev FWr (lo : Nat) (h : Heap) (w : Wr) (v : Value) : Prop := Fresh lo (fun h => WrongV h w.1 w.2 v) h
theorem FWr.ok {lo : Nat} : FWr lo h wOK (.agg #[.slice none 0 0, .int .i64 0]) := fun h' _ => ⟨Sl.nil, rfl, Sl.nil_ok, rfl, fun i x hx => by simp [wOK] at hx⟩
theorem WrongV.shape {w : Wr} {v : Value} (hw : WrongV h w.1 w.2 v) : ∃ s : Sl, v = .agg #[s.v, .int .i64 w.2] := by
  obtain ⟨s, e, _⟩ := hw
  exact ⟨s, e⟩

theorem rat_spec (HA : Y.Has F.rref6_At S_rref6_At) {p : ByteArray} {a c : Int} {R : Value → Heap → Prop} (hr : ∀ h' v, Ext h h' → FWr h.size h' ([(p, a)], c) v → R v h') :
    CallP Y F.rref6_At [.string p, .int .i64 a, .int .i64 c] h R := by
  refine .of_has HA rfl ?_
  simp [S_rref6_At, FnS.wp]
  refine ef_new_box ?_
  intro b h1 g1 B1 e1
  simp [ef_bslice_part]
  intro t
  have P2 : Blk (h1.push (.cells #[.string p, .int .i64 a] t)) h1.size #[.string p, .int .i64 a] := Blk.new
  have e2 : Ext h1 (h1.push (.cells #[.string p, .int .i64 a] t)) := Mod.push
  have B2 := B1.ext e2
  have z1 := e1.size
  have B1lt := B1.lt
  generalize h1.push (.cells #[.string p, .int .i64 a] t) = h2 at *
  refine ef_store_box B2 rfl rfl (by simp) ?_
  intro h3 B3 m3
  simp
  refine resP_x rfl B3 rfl ?_
  refine hr h3 _ ((e1.trans e2).ext m3 (fun j hj => by omega)) ?_
  have P3 := m3.blk P2 (by omega)
  intro h4 m4
  have P4 := m4.blk P3 (by omega)
  refine ⟨Sl.at h1.size 1 1, rfl, ⟨fun h => (by cases h), by simp, .inl rfl⟩, rfl, ?_⟩
  intro i x hx
  match i with
  | 0 =>
    simp at hx
    subst hx
    exact ⟨by rw [show (Sl.at h1.size 1 1).b = h1.size from rfl, P4.hc]; rfl, by rw [show (Sl.at h1.size 1 1).b = h1.size from rfl, P4.hc]; rfl⟩
  | i + 1 => simp at hx

theorem rweight_spec (H : Y.Has F.rref6_Weight S_rref6_Weight) {a : Int} {R : Value → Heap → Prop} (hr : R (.bool (weightB a)) h) : CallP Y F.rref6_Weight [.int .i64 a] h R := by
  refine .of_has H rfl ?_
  simp [S_rref6_Weight, FnS.wp]
  by_cases h1 : 0 ≤ a
  · by_cases h2 : a ≤ 2147483648
    · have : weightB a = true := by simp [weightB, h1, h2]
      rw [this] at hr; simp [h1, h2, hr]
    · have : weightB a = decide (a = 1152921504606846976) := by simp [weightB, h1, h2]
      rw [this] at hr; simp [h1, h2, hr]
  · have : weightB a = decide (a = 1152921504606846976) := by simp [weightB, h1]
    rw [this] at hr; simp [h1, hr]

structure RefTab (Y : Sys) : Prop where
  At : Y.Has F.rref6_At S_rref6_At
  Weight : Y.Has F.rref6_Weight S_rref6_Weight
  Check : Y.Has F.rref6_CheckTable S_rref6_CheckTable
  TurnAt : Y.Has F.rref6_TurnAt S_rref6_TurnAt
  SameT : Y.Has F.rref6_SameTable S_rref6_SameTable
  SameC : Y.Has F.rref6_SameCosts S_rref6_SameCosts

def RChkI (s : Sl) (cs : List Int) (tv : Value) (b rb : Nat) (ins outs : Int) (h0 : Heap) (e : List Value) (h' : Heap) : Prop :=
  ∃ (i : Nat) (v4 v5 v6 v7 v8 : Value), e = [tv, .pointer (some ⟨b, 0, none⟩), .pointer (some ⟨rb, 0, none⟩), .int .i64 i, v4, v5, v6, v7, v8] ∧ i ≤ s.n ∧ badFrom 0 cs = badFrom i (cs.drop i) ∧ h' = h0

theorem rcheck_spec (T : RefTab Y) {ins outs : Int} {s : Sl} {cs : List Int} (r : Row64 h s cs) {R : Value → Heap → Prop} (hr : ∀ h' v, Ext h h' → FWr h.size h' (tabW ins outs cs) v → R v h') :
    CallP Y F.rref6_CheckTable [tabV ins outs s] h R := by
  refine .of_has T.Check rfl ?_
  simp [S_rref6_CheckTable, FnS.wp, tabV]
  refine ef_new_box ?_
  intro b h1 g1 B1 e1
  simp
  refine ef_new_box ?_
  intro rb h2 g2 B2 e2
  have B1' := B1.ext e2
  have e12 := e1.trans e2
  have z1 := e1.size
  have z2 := e2.size
  have B2lt := B2.lt
  have r2 := r.ext e12
  have hl := r.len
  have fin : ∀ {a e : Int} {K : Value → Heap → Prop}, tabW ins outs cs = turnW a e → (∀ h' v (hx : FWr h.size h' (tabW ins outs cs) v), Ext h h' → Blk h' rb #[.slice none 0 0, .int .i64 0] → rb < h2.size →
      FWr h2.size h' (tabW ins outs cs) v → K v h') → CallP Y F.rref6_At [.string wTurn, .int .i64 a, .int .i64 e] h2 K := by
    intro a e K hw hk
    refine rat_spec T.At ?_
    intro h' v e3 hw3
    have hw3 : FWr h2.size h' (tabW ins outs cs) v := by rw [hw]; exact hw3
    exact hk h' v (hw3.mono (by omega)) (e12.trans e3) (B2.ext e3) B2lt hw3
  have fin2 : ∀ {h' : Heap} {v : Value} {K : Value → Heap → Prop}, Ext h h' → Blk h' rb #[.slice none 0 0, .int .i64 0] → FWr h2.size h' (tabW ins outs cs) v → (∀ h4 s', v = .agg s' → Blk h4 rb s' → s'.size = 2 → R v h4 → K undef h4) →
      Ef.wp h' K (.store 2) [.pointer (some ⟨rb, 0, none⟩), v] := by
    intro h' v K e3 B3 hw3 hk
    obtain ⟨s', rfl⟩ := hw3.here.shape
    refine ef_store_box B3 rfl rfl (by simp) ?_
    intro h4 B4 m4
    exact hk h4 _ rfl B4 rfl (hr h4 _ (Mod.ext e3 m4 (fun j hj => by omega)) ((hw3.step m4 (fun j hj => by omega)).mono (by omega)))
  by_cases c1 : ins < 0
  · have hw : tabW ins outs cs = turnW 0 1 := by simp [tabW, sidesW, c1, turnW]
    simp [B1'.hc, c1]
    refine fin hw ?_
    intro h' v _ e3 B3 _ hw3
    simp
    refine fin2 e3 B3 hw3 ?_
    rintro h4 s' rfl B4 hs hR
    simp
    exact resP_x rfl B4 hs hR
  by_cases c2 : 16 < ins
  · have hw : tabW ins outs cs = turnW 0 1 := by simp [tabW, sidesW, c2, turnW]
    simp [B1'.hc, c1, c2]
    refine fin hw ?_
    intro h' v _ e3 B3 _ hw3
    simp
    refine fin2 e3 B3 hw3 ?_
    rintro h4 s' rfl B4 hs hR
    simp
    exact resP_x rfl B4 hs hR
  by_cases c3 : outs < 0
  · have hw : tabW ins outs cs = turnW 1 1 := by simp [tabW, sidesW, c1, c2, c3, turnW]
    simp [B1'.hc, c1, c2, c3]
    refine fin hw ?_
    intro h' v _ e3 B3 _ hw3
    simp
    refine fin2 e3 B3 hw3 ?_
    rintro h4 s' rfl B4 hs hR
    simp
    exact resP_x rfl B4 hs hR
  by_cases c4 : 16 < outs
  · have hw : tabW ins outs cs = turnW 1 1 := by simp [tabW, sidesW, c1, c2, c4, turnW]
    simp [B1'.hc, c1, c2, c3, c4]
    refine fin hw ?_
    intro h' v _ e3 B3 _ hw3
    simp
    refine fin2 e3 B3 hw3 ?_
    rintro h4 s' rfl B4 hs hR
    simp
    exact resP_x rfl B4 hs hR
  have hsd : sidesW ins outs = wOK := by simp [sidesW, c1, c2, c3, c4]
  obtain ⟨m1, m2, m3⟩ := mul_wrap (a := ins) (b := outs) (by omega) (by omega)
  by_cases c5 : (s.n : Int) = ins * outs
  · have hw : tabW ins outs cs = match badFrom 0 cs with | some i => turnW (3 + i) 8 | none => wOK := by
      simp only [tabW, hsd, hl, c5, wOK]; simp
      rfl
    simp [B1'.hc, c1, c2, c3, c4, m1, c5]
    refine wp_loop' (RChkI s cs (.agg #[.int .i64 ins, .int .i64 outs, s.v]) b rb ins outs h2) (fun e _ => s.n - argI e 3) ⟨0, _, _, _, _, _, rfl, by omega, by simp, rfl⟩ ?_
    rintro e h3 ⟨i, v4, v5, v6, v7, v8, rfl, hi, hbad, rfl⟩
    by_cases hlt : i < s.n
    · have hlt' : (i : Int) < s.n := by omega
      have w1 : IntKind.i64.wrap ((i : Int) + 1) = (i : Int) + 1 := i64_wrap (by omega)
      have w3 : IntKind.i64.wrap (3 + (i : Int)) = 3 + (i : Int) := i64_wrap (by omega)
      rw [badFrom_drop (by omega)] at hbad
      simp [B1'.hc, hlt', sem_idxa r2.ok, r2.at hlt]
      refine rweight_spec T.Weight ?_
      cases hwt : weightB (nthI cs i) with
      | true =>
        rw [hwt] at hbad
        simp [w1]
        exact ⟨⟨i + 1, _, _, _, _, _, rfl, by omega, by simpa using hbad, rfl⟩, by simp [argI]; omega⟩
      | false =>
        rw [hwt] at hbad
        simp at hbad
        rw [hbad] at hw
        simp [w3]
        refine fin hw ?_
        intro h' v _ e3 B3 _ hw3
        simp
        refine fin2 e3 B3 hw3 ?_
        rintro h4 s' rfl B4 hs hR
        simp
        exact resP_x rfl B4 hs hR
    · have hlt' : ¬ (i : Int) < s.n := by omega
      rw [List.drop_eq_nil_of_le (by omega)] at hbad
      simp only [badFrom] at hbad
      rw [hbad] at hw
      simp [B1'.hc, hlt']
      refine ef_store_box B2 rfl rfl (by simp) ?_
      intro h4 B4 m4
      simp
      refine resP_x rfl B4 rfl (hr h4 _ (Mod.ext e12 m4 (fun j hj => by omega)) ?_)
      rw [hw]; exact FWr.ok
  · have hw : tabW ins outs cs = turnW 2 9 := by
      simp only [tabW, hsd, hl, wOK]; simp [c5]
    simp [B1'.hc, c1, c2, c3, c4, m1, c5]
    refine fin hw ?_
    intro h' v _ e3 B3 _ hw3
    simp
    refine fin2 e3 B3 hw3 ?_
    rintro h4 s' rfl B4 hs hR
    simp
    exact resP_x rfl B4 hs hR

def RSameI (s t : Sl) (a b : List Int) (h : Heap) (e : List Value) (h' : Heap) : Prop :=
  ∃ (i : Nat) (v4 v5 v6 : Value), e = [s.v, t.v, .bool false, .int .i64 i, v4, v5, v6] ∧ i ≤ s.n ∧ (∀ j, j < i → nthI a j = nthI b j) ∧ h' = h
def RBansI (ins outs : Int) (s : Sl) (cs : List Int) (b : Nat) (h1 : Heap) (e : List Value) (h' : Heap) : Prop :=
  ∃ (i n : Nat) (v5 v6 : Value), e = [.agg #[.int .i64 ins, .int .i64 outs, s.v], .pointer (some ⟨b, 0, none⟩), .int .i64 0, .int .i64 n, .int .i64 i, v5, v6] ∧ i ≤ s.n ∧ n ≤ i ∧ bans cs = n + bans (cs.drop i) ∧ h' = h1

theorem rsamec_spec (HE : Y.Has F.rref6_SameCosts S_rref6_SameCosts) {s t : Sl} {a b : List Int} (ra : Row64 h s a) (rb : Row64 h t b) (hbig : s.n ≤ 1000000) {R : Value → Heap → Prop} (hr : R (.bool (decide (a = b))) h) :
    CallP Y F.rref6_SameCosts [s.v, t.v] h R := by
  refine .of_has HE rfl ?_
  have la := ra.len
  have lb := rb.len
  by_cases hn : s.n = t.n
  · have hn' : (s.n : Int) = t.n := by omega
    simp [S_rref6_SameCosts, FnS.wp, hn]
    refine wp_loop' (RSameI s t a b h) (fun e _ => s.n - argI e 3) ⟨0, _, _, _, rfl, by omega, fun j hj => by omega, rfl⟩ ?_
    rintro e h' ⟨i, v4, v5, v6, rfl, hi, hall, rfl⟩
    by_cases hlt : i < s.n
    · have hlt' : (i : Int) < s.n := by omega
      have hlt2 : (i : Int) < t.n := by omega
      have w1 : IntKind.i64.wrap ((i : Int) + 1) = (i : Int) + 1 := i64_wrap (by omega)
      by_cases hc : nthI a i = nthI b i
      · simp [hlt', hlt2, sem_idxa ra.ok, sem_idxa rb.ok, ra.at hlt, rb.at (i := i) (by omega), hc, w1]
        refine ⟨⟨i + 1, _, _, _, rfl, by omega, fun j hj => ?_, rfl⟩, by simp [argI]; omega⟩
        rcases Nat.lt_succ_iff_lt_or_eq.1 hj with g | rfl
        · exact hall j g
        · exact hc
      · have : decide (a = b) = false := by
          rw [decide_eq_false_iff_not]
          intro e; exact hc (by rw [e])
        rw [this] at hr
        simp [hlt', hlt2, sem_idxa ra.ok, sem_idxa rb.ok, ra.at hlt, rb.at (i := i) (by omega), hc, w1, hr]
    · have hlt' : ¬ (i : Int) < s.n := by omega
      have : decide (a = b) = true := by
        rw [decide_eq_true_iff]
        exact nthI_ext (by omega) fun j hj => hall j (by omega)
      rw [this] at hr
      simp [hlt', hr]
  · have : decide (a = b) = false := by
      rw [decide_eq_false_iff_not]
      intro e; rw [e] at la; omega
    rw [this] at hr
    have hn' : ¬ (s.n : Int) = t.n := by omega
    simp [S_rref6_SameCosts, FnS.wp, hn', hr]

theorem rsamet_spec (T : RefTab Y) {ins outs ins' outs' : Int} {s t : Sl} {a b : List Int} (ra : Row64 h s a) (rb : Row64 h t b) (hbig : s.n ≤ 1000000)
    {R : Value → Heap → Prop} (hr : ∀ h', Ext h h' → R (.bool (decide (ins = ins' ∧ outs = outs' ∧ a = b))) h') : CallP Y F.rref6_SameTable [tabV ins outs s, tabV ins' outs' t] h R := by
  refine .of_has T.SameT rfl ?_
  simp [S_rref6_SameTable, FnS.wp, tabV]
  refine ef_new_box ?_
  intro b1 h1 g1 B1 e1
  simp
  refine ef_new_box ?_
  intro b2 h2 g2 B2 e2
  have B1' := B1.ext e2
  have e12 := e1.trans e2
  by_cases c1 : ins = ins'
  · by_cases c2 : outs = outs'
    · simp [B1'.hc, B2.hc, c1, c2]
      refine rsamec_spec T.SameC (ra.ext e12) (rb.ext e12) hbig ?_
      have : decide (ins = ins' ∧ outs = outs' ∧ a = b) = decide (a = b) := by simp [c1, c2]
      rw [this] at hr
      simp
      exact hr _ e12
    · have : decide (ins = ins' ∧ outs = outs' ∧ a = b) = false := by simp [c2]
      rw [this] at hr
      simp [B1'.hc, B2.hc, c1, c2]
      exact hr _ e12
  · have : decide (ins = ins' ∧ outs = outs' ∧ a = b) = false := by simp [c1]
    rw [this] at hr
    simp [B1'.hc, B2.hc, c1]
    exact hr _ e12

theorem rbans_spec (HB : Y.Has F.rref6_Bans S_rref6_Bans) {ins outs : Int} {s : Sl} {cs : List Int} (r : Row64 h s cs) (hbig : s.n ≤ 1000000) {R : Value → Heap → Prop} (hr : ∀ h', Ext h h' → R (.int .i64 (bans cs)) h') :
    CallP Y F.rref6_Bans [tabV ins outs s] h R := by
  refine .of_has HB rfl ?_
  simp [S_rref6_Bans, FnS.wp, tabV]
  refine ef_new_box ?_
  intro b h1 g1 B1 e1
  simp [B1.hc]
  have r1 := r.ext e1
  have hl := r.len
  refine wp_loop' (RBansI ins outs s cs b h1)
    (fun e _ => s.n - argI e 4) ⟨0, 0, _, _, rfl, by omega, by omega, by simp, rfl⟩ ?_
  rintro e h' ⟨i, n, v5, v6, rfl, hi, hn, hb, rfl⟩
  by_cases hlt : i < s.n
  · have hlt' : (i : Int) < s.n := by omega
    have w1 : IntKind.i64.wrap ((i : Int) + 1) = (i : Int) + 1 := i64_wrap (by omega)
    have w2 : IntKind.i64.wrap ((n : Int) + 1) = (n : Int) + 1 := i64_wrap (by omega)
    rw [bans_drop (by omega)] at hb
    by_cases hc : nthI cs i = 1152921504606846976
    · rw [if_pos hc] at hb
      simp [B1.hc, hlt', sem_idxa r1.ok, r1.at hlt, hc, w1, w2]
      exact ⟨⟨i + 1, n + 1, _, _, rfl, by omega, by omega, by omega, rfl⟩, by simp [argI]; omega⟩
    · rw [if_neg hc] at hb
      simp [B1.hc, hlt', sem_idxa r1.ok, r1.at hlt, hc, w1, w2]
      exact ⟨⟨i + 1, n, _, _, rfl, by omega, by omega, by omega, rfl⟩, by simp [argI]; omega⟩
  · have hlt' : ¬ (i : Int) < s.n := by omega
    rw [List.drop_eq_nil_of_le (by omega)] at hb
    simp only [bans, Nat.add_zero] at hb
    simp [B1.hc, hlt']
    rw [← hb]
    exact hr _ e1

/-- TurnAt of a table that may be -/
theorem rturnat_spec (T : RefTab Y) {ins outs i k : Int} {s : Sl} {cs : List Int} (r : Row64 h s cs) (hok : (tabW ins outs cs).2 = 0) {R : Value → Heap → Prop} (hr : ∀ h', Ext h h' → R (.int .i64 (atV ins outs cs i k)) h') :
    CallP Y F.rref6_TurnAt [tabV ins outs s, .int .i64 i, .int .i64 k] h R := by
  obtain ⟨a1, a2, a3, a4, a5, a6, a7⟩ := tab_ok hok
  have hsd : (sidesW ins outs).2 = 0 := by
    unfold sidesW
    rw [if_neg (by omega), if_neg (by omega)]; rfl
  refine .of_has T.TurnAt rfl ?_
  simp [S_rref6_TurnAt, FnS.wp, tabV]
  refine ef_new_box ?_
  intro b h1 g1 B1 e1
  have r1 := r.ext e1
  have hl := r.len
  by_cases c1 : i < 0
  · have hv : atV ins outs cs i k = 1152921504606846976 := by simp [atV, c1]
    rw [hv] at hr
    simp [c1]; exact hr _ e1
  by_cases c2 : ins ≤ i
  · have hv : atV ins outs cs i k = 1152921504606846976 := by simp [atV, c2]
    rw [hv] at hr
    simp [c1, B1.hc, c2]; exact hr _ e1
  by_cases c3 : k < 0
  · have hv : atV ins outs cs i k = 1152921504606846976 := by simp [atV, c3]
    rw [hv] at hr
    simp [c1, B1.hc, c2, c3]; exact hr _ e1
  by_cases c4 : outs ≤ k
  · have hv : atV ins outs cs i k = 1152921504606846976 := by simp [atV, c4]
    rw [hv] at hr
    simp [c1, B1.hc, c2, c3, c4]; exact hr _ e1
  obtain ⟨w1, w2, p0, p1⟩ := place_wrap (ins := ins) (outs := outs) (i := i) (k := k) (by omega) (by omega) (by omega) (by omega) a2 a4
  have c5 : i * outs + k < s.n := by omega
  have hv : atV ins outs cs i k = nthI cs (i * outs + k).toNat := by
    simp only [atV, c1, c2, c3, c4, hsd, hl]; simp [c5]
  rw [hv] at hr
  have hcell := r1.at (i := (i * outs + k).toNat) (by omega)
  simp [c1, B1.hc, c2, c3, c4, w1, w2, c5, sem_idxa r1.ok, p0, hcell]
  exact hr _ e1
end
end Go.Rm

/- The document's tables (roundsmanref6): FreeTable, BackTable, WithTable. -/
set_option linter.unusedSimpArgs false
set_option linter.unusedVariables false
namespace Go.Rm

theorem badFrom_zeros : ∀ {n k : Nat}, badFrom k (zerosL n) = none := by
  intro n
  induction n with
  | zero => intro k; rfl
  | succ n ih =>
    intro k
    show badFrom k (0 :: zerosL n) = none
    simp only [badFrom]
    rw [if_pos (by decide)]
    exact ih
theorem tab_zeros {ins outs : Int} (h0 : (sidesW ins outs).2 = 0) : tabW ins outs (zerosL (ins * outs).toNat) = wOK := by
  obtain ⟨hs, a1, a2, a3, a4⟩ := sides_ok h0
  obtain ⟨m1, m2, m3⟩ := mul_wrap ⟨a1, a2⟩ ⟨a3, a4⟩
  have hl : ((zerosL (ins * outs).toNat).length : Int) = ins * outs := by simp [zerosL]; omega
  simp only [tabW, h0, hl, badFrom_zeros]
  simp
theorem tab_sides {ins outs : Int} {cs : List Int} (h0 : (sidesW ins outs).2 ≠ 0) : tabW ins outs cs = sidesW ins outs := by simp [tabW, h0]

section
variable {Y : Sys} {h : Heap}

def MadeW (lo : Nat) (h' : Heap) (w : Wr) (ins outs : Int) (cs : List Int) (v : Value) : Prop :=
  ∃ ins' outs' s' cs' u, v = .tuple #[tabV ins' outs' s', u] ∧ FWr lo h' w u ∧ Fresh lo (fun h => Own h 1 s' (ints64 cs')) h' ∧ (s'.nl = true ∨ lo ≤ s'.b) ∧
    ((w.2 = 0 ∧ ins' = ins ∧ outs' = outs ∧ cs' = cs ∧ s'.nl = false) ∨ (w.2 ≠ 0 ∧ ins' = 0 ∧ outs' = 0 ∧ s' = Sl.nil ∧ cs' = []))

theorem rfree_spec (HF : Y.Has F.rref6_FreeTable S_rref6_FreeTable) (T : RefTab Y) {ins outs : Int} {R : Value → Heap → Prop}
    (hr : ∀ h' v, Ext h h' → MadeW h.size h' (sidesW ins outs) ins outs (zerosL (ins * outs).toNat) v → R v h') : CallP Y F.rref6_FreeTable [.int .i64 ins, .int .i64 outs] h R := by
  refine .of_has HF rfl ?_
  simp [S_rref6_FreeTable, FnS.wp]
  refine ef_new_box ?_
  intro tb h1 g1 T1 e1
  simp
  refine ef_new_box ?_
  intro wb h2 g2 W2 e2
  have T2 := T1.ext e2
  simp
  refine ef_new_box ?_
  intro nb h3 g3 N3 e3
  have T3 := T2.ext e3
  have W3 := W2.ext e3
  have T1lt := T1.lt
  have W2lt := W2.lt
  have N3lt := N3.lt
  have z1 := e1.size
  have z2 := e2.size
  have z3 := e3.size
  simp
  refine ef_store_box (vs := #[.int .i64 ins, .int .i64 outs, .slice none 0 0]) N3 rfl rfl (by simp) ?_
  intro h4 N4 m4
  have T4 := m4.blk T3 (by omega)
  have W4 := m4.blk W3 (by omega)
  have z4 := m4.size
  have e4 : Ext h h4 := ((e1.trans e2).trans e3).ext m4 (fun j hj => by omega)
  by_cases h0 : (sidesW ins outs).2 = 0
  · obtain ⟨hs, a1, a2, a3, a4⟩ := sides_ok h0
    obtain ⟨m1, m2, m3⟩ := mul_wrap ⟨a1, a2⟩ ⟨a3, a4⟩
    simp [a1, a2, a3, a4, m1, ef_mkslice, m2, zeros_one]
    refine ⟨by omega, by omega, fun t => ?_⟩
    have o5 : Own (h4.push (.cells (Array.replicate (ins * outs).toNat (.int .i64 0)) t)) 1 (Sl.at h4.size (ins * outs).toNat (ins * outs).toNat) (ints64 (zerosL (ins * outs).toNat)) := own_zero (by omega)
    have e5 : Ext h4 (h4.push (.cells (Array.replicate (ins * outs).toNat (.int .i64 0)) t)) := Mod.push
    rw [← Sl.at_v]
    have T5 := T4.ext e5
    have W5 := W4.ext e5
    have N5 := N4.ext e5
    have hlt5 := o5.lt rfl
    simp only [Sl.at_b] at hlt5
    generalize h4.push (.cells (Array.replicate (ins * outs).toNat (.int .i64 0)) t) = h5 at *
    have hsb : (Sl.at h4.size (ins * outs).toNat (ins * outs).toNat).b = h4.size := rfl
    have hnl : (Sl.at h4.size (ins * outs).toNat (ins * outs).toNat).nl = false := rfl
    generalize Sl.at h4.size (ins * outs).toNat (ins * outs).toNat = s at *
    have N4lt : nb < h4.size := by omega
    simp [StoreP.open, N5.hc, N5.hfz]
    have N6 := N5.set (o := 2) (v := s.v)
    have T6 := T5.set_ne (b' := nb) (o := 2) (v := s.v) (by omega)
    have W6 := W5.set_ne (b' := nb) (o := 2) (v := s.v) (by omega)
    have o6 := o5.mod (S := fun j => j = nb) (Mod.set (b := nb) (o := 2) (v := s.v) rfl) (fun _ h => by omega)
    have x6 : Mod (fun j => j = nb) h5 (hset h5 nb 2 s.v) := Mod.set rfl
    have z6 : h5.size = (hset h5 nb 2 s.v).size := by simp
    simp at N6
    generalize hset h5 nb 2 s.v = h6 at *
    simp [rd_blk N6]
    refine rcheck_spec T o6.row64 ?_
    intro h7 v e7 hv
    rw [tab_zeros h0] at hv
    obtain ⟨ps, rfl⟩ := hv.here.shape
    simp
    refine ef_new_box ?_
    intro cb h8 g8 C8 e8
    simp
    refine ef_store_box (vs := #[ps.v, .int .i64 wOK.2]) C8 rfl rfl (by simp) ?_
    intro h9 C9 m9
    have z7 := e7.size
    have z8 := e8.size
    have z9 := m9.size
    have hv9 : FWr h6.size h9 wOK (.agg #[ps.v, .int .i64 wOK.2]) := hv.step (Mod.then (e8.mono fun _ _ h => h.elim) m9 (fun i hi hS => by omega)) (fun j h => h)
    have T9 := m9.blk ((T6.ext e7).ext e8) (by omega)
    have W9 := m9.blk ((W6.ext e7).ext e8) (by omega)
    have N9 := m9.blk ((N6.ext e7).ext e8) (by omega)
    have o9 := (((o6.mod e7 (fun _ h => h)).mod e8 (fun _ h => h))).mod m9 (fun _ h => by omega)
    have z5 := e5.size
    have x9 : Ext h h9 := ((((e4.trans e5).ext x6 (fun j hj => by omega)).trans e7).trans e8).ext m9 (fun j hj => by omega)
    simp [C9.hc, wOK, rd_blk N9, rd_blk C9]
    refine ef_store_box T9 rfl rfl (by simp) ?_
    intro h10 T10 m10
    have W10 := m10.blk W9 (by omega)
    have C10 := m10.blk C9 (by omega)
    simp [rd_blk C10, wOK]
    refine ef_store_box W10 rfl rfl (by simp) ?_
    intro h11 W11 m11
    have T11 := m11.blk T10 (by omega)
    simp
    refine resP_xx rfl T11 rfl rfl W11 rfl ?_
    have o11 := (o9.mod m10 (fun _ h => by omega)).mod m11 (fun _ h => by omega)
    refine hr h11 _ ((x9.ext m10 (fun j hj => by omega)).ext m11 (fun j hj => by omega)) ⟨ins, outs, s, _, _, rfl, ?_, fresh_own o11 (.inr (by omega)), .inr (by omega), .inl ⟨h0, rfl, rfl, rfl, hnl⟩⟩
    rw [hs]
    exact ((hv9.step m10 (fun j hj => by omega)).step m11 (fun j hj => by omega)).mono (by omega)
  · have hcase : ((0 ≤ ins) = False) ∨ ((0 ≤ ins) = True ∧ (ins ≤ 16) = False) ∨ ((0 ≤ ins) = True ∧ (ins ≤ 16) = True ∧ (0 ≤ outs) = False) ∨ ((0 ≤ ins) = True ∧ (ins ≤ 16) = True ∧ (0 ≤ outs) = True ∧ (outs ≤ 16) = False) := by
      simp only [eq_iff_iff, iff_false, iff_true]
      by_cases q1 : 0 ≤ ins
      · by_cases q2 : ins ≤ 16
        · by_cases q3 : 0 ≤ outs
          · by_cases q4 : outs ≤ 16
            · exfalso; apply h0; unfold sidesW; rw [if_neg (by omega), if_neg (by omega)]; rfl
            · omega
          · omega
        · omega
      · omega
    have N4' : Blk h4 nb #[.int .i64 ins, .int .i64 outs, Sl.nil.v] := N4
    rcases hcase with c | c | c | c
    all_goals
      simp [c, rd_blk N4]
      refine rcheck_spec T (s := Sl.nil) Row64.nil ?_
      intro h7 v e7 hv
      rw [tab_sides h0] at hv
      obtain ⟨ps, rfl⟩ := hv.here.shape
      simp
      refine ef_new_box ?_
      intro cb h8 g8 C8 e8
      simp
      refine ef_store_box (vs := #[ps.v, .int .i64 (sidesW ins outs).2]) C8 rfl rfl (by simp) ?_
      intro h9 C9 m9
      have z7 := e7.size
      have z8 := e8.size
      have z9 := m9.size
      have hv9 : FWr h4.size h9 (sidesW ins outs) (.agg #[ps.v, .int .i64 (sidesW ins outs).2]) := hv.step (Mod.then (e8.mono fun _ _ h => h.elim) m9 (fun i hi hS => by omega)) (fun j h => h)
      have T9 := m9.blk ((T4.ext e7).ext e8) (by omega)
      have W9 := m9.blk ((W4.ext e7).ext e8) (by omega)
      have x9 : Ext h h9 := ((e4.trans e7).trans e8).ext m9 (fun j hj => by omega)
      simp [C9.hc, h0, rd_blk C9]
      refine ef_store_box T9 rfl rfl (by simp) ?_
      intro h10 T10 m10
      have W10 := m10.blk W9 (by omega)
      have C10 := m10.blk C9 (by omega)
      simp [rd_blk C10]
      refine ef_store_box W10 rfl rfl (by simp) ?_
      intro h11 W11 m11
      have T11 := m11.blk T10 (by omega)
      simp
      refine resP_xx rfl T11 rfl rfl W11 rfl ?_
      refine hr h11 _ ((x9.ext m10 (fun j hj => by omega)).ext m11 (fun j hj => by omega)) ⟨0, 0, Sl.nil, [], _, rfl, ?_, fun _ _ => Own.nil, .inl rfl, .inr ⟨h0, rfl, rfl, rfl, rfl⟩⟩
      exact ((hv9.step m10 (fun j hj => by omega)).step m11 (fun j hj => by omega)).mono (by omega)
end
end Go.Rm

/- The document's tables (roundsmanref6): BackTable, WithTable. -/
set_option linter.unusedSimpArgs false
set_option linter.unusedVariables false
namespace Go.Rm
section
variable {Y : Sys} {h : Heap}

theorem FWr.any {w : Wr} {v : Value} (hw : WrongV h w.1 w.2 v) (h0 : w.1 = []) {lo : Nat} {h' : Heap} : FWr lo h' w v := by
  obtain ⟨s, e, p⟩ := hw
  intro h'' _
  refine ⟨s, e, p.ok, p.len, fun i x hx => ?_⟩
  rw [h0] at hx; simp at hx

def RBackI (n : Nat) (s : Sl) (tb wb nb cb : Nat) (wv : Value) (h0 : Heap) (e : List Value) (h' : Heap) : Prop :=
  ∃ (i : Nat) (v6 : Value), e = [.int .i64 n, .pointer (some ⟨tb, 0, none⟩), .pointer (some ⟨wb, 0, none⟩), .pointer (some ⟨nb, 0, none⟩), .pointer (some ⟨cb, 0, none⟩), .int .i64 i, v6] ∧ i ≤ n ∧
    Own h' 1 s (ints64 (backI n i)) ∧ Blk h' tb #[.int .i64 0, .int .i64 0, .slice none 0 0] ∧ Blk h' wb #[.slice none 0 0, .int .i64 0] ∧ Blk h' nb #[.int .i64 n, .int .i64 n, s.v] ∧ Blk h' cb wv.cells ∧
    Ext h0 h'

theorem rback_spec (HB : Y.Has F.rref6_BackTable S_rref6_BackTable) (HF : Y.Has F.rref6_FreeTable S_rref6_FreeTable) (T : RefTab Y) {n : Int} {R : Value → Heap → Prop}
    (hr : ∀ h' v, Ext h h' → MadeW h.size h' (sidesW n n) n n (backL n.toNat) v → R v h') : CallP Y F.rref6_BackTable [.int .i64 n] h R := by
  refine .of_has HB rfl ?_
  simp [S_rref6_BackTable, FnS.wp]
  refine ef_new_box ?_
  intro tb h1 g1 T1 e1
  simp
  refine ef_new_box ?_
  intro wb h2 g2 W2 e2
  have T2 := T1.ext e2
  have T1lt := T1.lt
  have W2lt := W2.lt
  have z1 := e1.size
  have z2 := e2.size
  simp
  refine rfree_spec HF T ?_
  rintro h3 v e3 ⟨ins', outs', s, cs', u, rfl, he, ho, hsb, hcase⟩
  have z3 := e3.size
  obtain ⟨ps, rfl⟩ := he.here.shape
  simp
  refine ef_new_box ?_
  intro nb h4 g4 N4 e4
  simp
  refine ef_new_box ?_
  intro cb h5 g5 C5 e5
  have N5 := N4.ext e5
  have z4 := e4.size
  have z5 := e5.size
  have N4lt := N4.lt
  have C5lt := C5.lt
  simp
  refine ef_store_box (vs := #[.int .i64 ins', .int .i64 outs', s.v]) N5 rfl rfl (by simp) ?_
  intro h6 N6 m6
  have C6 := m6.blk C5 (by omega)
  have z6 := m6.size
  simp
  refine ef_store_box (vs := #[ps.v, .int .i64 (sidesW n n).2]) C6 rfl rfl (by simp) ?_
  intro h7 C7 m7
  have N7 := m7.blk N6 (by omega)
  have z7 := m7.size
  have T7 := m7.blk (m6.blk (((T2.ext e3).ext e4).ext e5) (by omega)) (by omega)
  have W7 := m7.blk (m6.blk (((W2.ext e3).ext e4).ext e5) (by omega)) (by omega)
  have m37 : Mod (fun j => j < h2.size) h3 h7 := Mod.then (Mod.then ((e4.trans e5).mono fun _ _ h => h.elim) m6 (fun i hi hS => by omega)) m7 (fun i hi hS => by omega)
  have he7 := he.step m37 (fun j h => h)
  have ho7 := ho.step m37 (fun j h => h)
  have e7 : Ext h h7 := ((((e1.trans e2).trans e3).trans (e4.trans e5)).ext m6 (fun j hj => by omega)).ext m7 (fun j hj => by omega)
  simp
  rcases hcase with ⟨h0, q1, q2, q3, hnl⟩ | ⟨h0, q1, q2, q3, q4⟩
  · subst q1; subst q2; subst q3
    obtain ⟨hs, a1, a2, a3, a4⟩ := sides_ok h0
    have hsb : h2.size ≤ s.b := hsb.resolve_left (by rw [hnl]; simp)
    have hslt := ho.here.lt hnl
    obtain ⟨N, rfl⟩ : ∃ N : Nat, outs' = N := ⟨outs'.toNat, by omega⟩
    have hNN : ((N : Int) * N).toNat = N * N := by rw [← Int.natCast_mul, Int.toNat_natCast]
    rw [hNN] at ho7
    have hN : N ≤ 16 := by omega
    have hw7 := he.here
    refine wp_loop' (RBackI N s tb wb nb cb (.agg #[ps.v, .int .i64 (sidesW (N : Int) N).2]) h) (fun e _ => N - argI e 5) ⟨0, _, rfl, by omega, by simpa [backI] using ho7.here, T7, W7, N7, C7, e7⟩ ?_
    clear he he7 ho ho7 T7 W7 N7 C7 e7 m37 N6 C6 N5 C5 m6 m7 N4
    rintro e h8 ⟨i, v6, rfl, hi, o8, T8, W8, N8, C8, e8⟩
    by_cases hlt : i < N
    · have w1 : IntKind.i64.wrap ((i : Int) + 1) = (i : Int) + 1 := i64_wrap (by omega)
      obtain ⟨w2, w3, p0, p1⟩ := place_wrap (ins := (N : Int)) (outs := (N : Int)) (i := (i : Int)) (k := (i : Int)) (by omega) (by omega) (by omega) (by omega) (by omega) (by omega)
      have hidx : ((i : Int) * N + i).toNat = i * N + i := by rw [← Int.natCast_mul, ← Int.natCast_add, Int.toNat_natCast]
      have hpl : i * N + i < (ints64 (backI N i)).length := by
        rw [ints64_len, backI_len]
        have : (i : Int) * N + i < N * N := p1
        exact_mod_cast this
      have hpl2 : (i : Int) * N + i < s.n := by
        have := o8.row64.len
        rw [backI_len] at this
        rw [← this]
        have := p1
        push_cast
        exact this
      obtain ⟨arr, D8, D8s, _⟩ := o8.blk hpl
      have hcell := o8.cell (ints64_get (l := backI N i) (i := i * N + i) (by simpa using hpl))
      have o9 := o8.set (v := .int .i64 1152921504606846976) hpl
      rw [ints64_set, ← backI_succ] at o9
      have T9 := T8.set_ne (b' := s.b) (o := s.o + (i * N + i)) (v := .int .i64 1152921504606846976) (by omega)
      have W9 := W8.set_ne (b' := s.b) (o := s.o + (i * N + i)) (v := .int .i64 1152921504606846976) (by omega)
      have N9 := N8.set_ne (b' := s.b) (o := s.o + (i * N + i)) (v := .int .i64 1152921504606846976) (by omega)
      have C9 := C8.set_ne (b' := s.b) (o := s.o + (i * N + i)) (v := .int .i64 1152921504606846976) (by omega)
      have x9 : Mod (fun j => j = s.b) h8 (hset h8 s.b (s.o + (i * N + i)) (.int .i64 1152921504606846976)) := Mod.set rfl
      simp [hlt, N8.hc, w2, w3, sem_idxa o8.ok, p0, hpl2, hidx, StoreP.open, hcell, D8.hfz, w1]
      exact ⟨⟨i + 1, _, rfl, by omega, o9, T9, W9, N9, C9, e8.ext x9 (fun j hj => by omega)⟩, by simp [argI]; omega⟩
    · have : i = N := by omega
      subst this
      simp [N8.hc, rd_blk N8, rd_blk C8]
      refine ef_store_box T8 rfl rfl (by simp) ?_
      intro h9 T9 m9
      have C9 := m9.blk C8 (by omega)
      have W9 := m9.blk W8 (by omega)
      simp [rd_blk C9]
      refine ef_store_box W9 rfl rfl (by simp) ?_
      intro h10 W10 m10
      have T10 := m10.blk T9 (by omega)
      simp
      refine resP_xx rfl T10 rfl rfl W10 rfl ?_
      have o10 := (o8.mod m9 (fun _ h => by omega)).mod m10 (fun _ h => by omega)
      refine hr h10 _ ((e8.ext m9 (fun j hj => by omega)).ext m10 (fun j hj => by omega)) ⟨i, i, s, _, _, rfl, FWr.any hw7 (by rw [hs]; rfl), fresh_own o10 (.inr (by omega)), .inr (by omega), .inl ⟨h0, rfl, rfl, by simp [backI, backL], hnl⟩⟩
  · subst q1; subst q2; subst q3; subst q4
    refine wp_loop' (fun e h' => e = [.int .i64 n, .pointer (some ⟨tb, 0, none⟩), .pointer (some ⟨wb, 0, none⟩), .pointer (some ⟨nb, 0, none⟩), .pointer (some ⟨cb, 0, none⟩), .int .i64 0, undef] ∧ h' = h7) (fun e _ => 0) ⟨rfl, rfl⟩ ?_
    rintro e h8 ⟨rfl, rfl⟩
    simp [N7.hc, rd_blk N7, rd_blk C7]
    refine ef_store_box T7 rfl rfl (by simp) ?_
    intro h9 T9 m9
    have C9 := m9.blk C7 (by omega)
    have W9 := m9.blk W7 (by omega)
    simp [rd_blk C9]
    refine ef_store_box W9 rfl rfl (by simp) ?_
    intro h10 W10 m10
    have T10 := m10.blk T9 (by omega)
    simp
    refine resP_xx rfl T10 rfl rfl W10 rfl ?_
    refine hr h10 _ ((e7.ext m9 (fun j hj => by omega)).ext m10 (fun j hj => by omega)) ⟨0, 0, Sl.nil, [], _, rfl, ((he7.step m9 (fun j hj => by omega)).step m10 (fun j hj => by omega)).mono (by omega), fun _ _ => Own.nil, .inl rfl, .inr ⟨h0, rfl, rfl, rfl, rfl⟩⟩

/-- what WithTable hands back, of a table that may be -/
def RWithR (lo : Nat) (h' : Heap) (ins outs : Int) (cs : List Int) (i k c : Int) (v : Value) : Prop :=
  ∃ ins' outs' s' cs' u, v = .tuple #[tabV ins' outs' s', u] ∧ FWr lo h' (withW ins outs cs i k c) u ∧ Fresh lo (fun h => Row64 h s' cs') h' ∧
    (((withW ins outs cs i k c).2 = 0 ∧ ins' = ins ∧ outs' = outs ∧ cs' = cs.set (i * outs + k).toNat c) ∨ ((withW ins outs cs i k c).2 ≠ 0 ∧ ins' = 0 ∧ outs' = 0 ∧ s' = Sl.nil ∧ cs' = []))

theorem rwith_spec (HW : Y.Has F.rref6_WithTable S_rref6_WithTable) (T : RefTab Y) {ins outs i k c : Int} {s : Sl} {cs : List Int} (r : Row64 h s cs) (hok : (tabW ins outs cs).2 = 0) {R : Value → Heap → Prop}
    (hr : ∀ h' v, Ext h h' → RWithR h.size h' ins outs cs i k c v → R v h') : CallP Y F.rref6_WithTable [tabV ins outs s, .int .i64 i, .int .i64 k, .int .i64 c] h R := by
  obtain ⟨a1, a2, a3, a4, a5, a6, a7⟩ := tab_ok hok
  refine .of_has HW rfl ?_
  simp [S_rref6_WithTable, FnS.wp, tabV]
  refine ef_new_box ?_
  intro b h1 g1 B1 e1
  simp
  refine ef_new_box ?_
  intro tb h2 g2 T2 e2
  simp
  refine ef_new_box ?_
  intro wb h3 g3 W3 e3
  have B2 := B1.ext (e2.trans e3)
  have T3 := T2.ext e3
  have z1 := e1.size
  have z2 := e2.size
  have z3 := e3.size
  have B1lt := B1.lt
  have T2lt := T2.lt
  have W3lt := W3.lt
  have e123 := (e1.trans e2).trans e3
  have hl := r.len
  -- refused
  have fin : ∀ {a e : Int} {K : Value → Heap → Prop}, withW ins outs cs i k c = turnW a e → e ≠ 0 → (∀ h4 v, Ext h3 h4 → FWr h3.size h4 (withW ins outs cs i k c) v → K v h4) → CallP Y F.rref6_At [.string wTurn, .int .i64 a, .int .i64 e] h3 K := by
    intro a e K hw he hk
    refine rat_spec T.At ?_
    intro h4 v e4 hv
    exact hk h4 v e4 (by rw [hw]; exact hv)
  have fin2 : ∀ {h4 : Heap} {v : Value} {K : Value → Heap → Prop}, Ext h3 h4 → (withW ins outs cs i k c).2 ≠ 0 → FWr h3.size h4 (withW ins outs cs i k c) v →
      (∀ h5, (∀ K' : Value → Heap → Prop, (∀ h6, (∃ ws : Array Value, v = .agg ws ∧ ws.size = 2 ∧ Blk h6 wb ws) → Blk h6 tb #[.int .i64 0, .int .i64 0, .slice none 0 0] → R (.tuple #[.agg #[.int .i64 0, .int .i64 0, .slice none 0 0], v]) h6 → K' undef h6) →
        Ef.wp h5 K' (.store 2) [.pointer (some ⟨wb, 0, none⟩), v]) → K undef h5) →
      Ef.wp h4 K (.store 3) [.pointer (some ⟨tb, 0, none⟩), .agg #[.int .i64 0, .int .i64 0, .slice none 0 0]] := by
    intro h4 v K e4 hw hv hk
    have z4 := e4.size
    refine ef_store_box (T3.ext e4) rfl rfl (by simp) ?_
    intro h5 T5 m5
    have W5 := m5.blk (W3.ext e4) (by omega)
    refine hk h5 ?_
    intro K' hk'
    obtain ⟨ps, rfl⟩ := hv.here.shape
    refine ef_store_box W5 rfl rfl (by simp) ?_
    intro h6 W6 m6
    have T6 := m6.blk T5 (by omega)
    refine hk' h6 ⟨_, rfl, rfl, W6⟩ T6 (hr h6 _ (((e123.trans e4).ext m5 (fun j hj => by omega)).ext m6 (fun j hj => by omega)) ⟨0, 0, Sl.nil, [], _, rfl, ((hv.step m5 (fun j hj => by omega)).step m6 (fun j hj => by omega)).mono (by omega), fun _ _ => Row64.nil, .inr ⟨hw, rfl, rfl, rfl, rfl⟩⟩)
  by_cases c1 : i < 0
  · have hw : withW ins outs cs i k c = turnW 0 5 := by simp [withW, c1]
    simp [c1]
    refine fin hw (by omega) ?_
    intro h4 v e4 hv
    simp
    refine fin2 e4 (by rw [hw]; simp [turnW]) hv ?_
    intro h5 hk
    simp
    refine hk _ ?_
    rintro h6 ⟨ws, rfl, hs, W6⟩ T6 hR
    simp
    exact resP_xx rfl T6 rfl rfl W6 hs hR
  by_cases c2 : ins ≤ i
  · have hw : withW ins outs cs i k c = turnW 0 5 := by simp [withW, c2]
    simp [c1, B2.hc, c2]
    refine fin hw (by omega) ?_
    intro h4 v e4 hv
    simp
    refine fin2 e4 (by rw [hw]; simp [turnW]) hv ?_
    intro h5 hk
    simp
    refine hk _ ?_
    rintro h6 ⟨ws, rfl, hs, W6⟩ T6 hR
    simp
    exact resP_xx rfl T6 rfl rfl W6 hs hR
  by_cases c3 : k < 0
  · have hw : withW ins outs cs i k c = turnW 1 5 := by simp [withW, c1, c2, c3]
    simp [c1, B2.hc, c2, c3]
    refine fin hw (by omega) ?_
    intro h4 v e4 hv
    simp
    refine fin2 e4 (by rw [hw]; simp [turnW]) hv ?_
    intro h5 hk
    simp
    refine hk _ ?_
    rintro h6 ⟨ws, rfl, hs, W6⟩ T6 hR
    simp
    exact resP_xx rfl T6 rfl rfl W6 hs hR
  by_cases c4 : outs ≤ k
  · have hw : withW ins outs cs i k c = turnW 1 5 := by simp [withW, c1, c2, c4]
    simp [c1, B2.hc, c2, c3, c4]
    refine fin hw (by omega) ?_
    intro h4 v e4 hv
    simp
    refine fin2 e4 (by rw [hw]; simp [turnW]) hv ?_
    intro h5 hk
    simp
    refine hk _ ?_
    rintro h6 ⟨ws, rfl, hs, W6⟩ T6 hR
    simp
    exact resP_xx rfl T6 rfl rfl W6 hs hR
  simp [c1, B2.hc, c2, c3, c4]
  refine rweight_spec T.Weight ?_
  cases hwt : weightB c with
  | false =>
    have hw : withW ins outs cs i k c = turnW 2 8 := by simp [withW, c1, c2, c3, c4, hwt]
    simp
    refine fin hw (by omega) ?_
    intro h4 v e4 hv
    simp
    refine fin2 e4 (by rw [hw]; simp [turnW]) hv ?_
    intro h5 hk
    simp
    refine hk _ ?_
    rintro h6 ⟨ws, rfl, hs, W6⟩ T6 hR
    simp
    exact resP_xx rfl T6 rfl rfl W6 hs hR
  | true =>
    have hw : withW ins outs cs i k c = wOK := by simp [withW, c1, c2, c3, c4, hwt, a7]
    obtain ⟨w1, w2, p0, p1⟩ := place_wrap (ins := ins) (outs := outs) (i := i) (k := k) (by omega) (by omega) (by omega) (by omega) a2 a4
    have m3 := (mul_wrap ⟨a1, a2⟩ ⟨a3, a4⟩).2
    simp [ef_bslice0]
    intro t
    have e4 : Ext h3 (h3.push (.cells #[] t)) := Mod.push
    simp [(B2.ext e4).hc]
    refine ef_clone64 ((r.ext e123).ext e4) (by omega) own_empty (.inr (Nat.le_refl _)) e4 ?_
    intro s' h5 o5 hs' e5
    have z5 := e5.size
    have B5 := B2.ext e5
    have T5 := T3.ext e5
    have W5 := W3.ext e5
    have hpl : (i * outs + k).toNat < (ints64 cs).length := by rw [ints64_len]; omega
    have hnl : s'.nl = false := by
      obtain ⟨arr, _, _, hnl⟩ := o5.blk hpl
      exact hnl
    have hsb : h3.size ≤ s'.b := hs'.resolve_left (by rw [hnl]; simp)
    have hpl2 : i * outs + k < s'.n := by have := o5.row64.len; omega
    obtain ⟨arr, A5, A5s, _⟩ := o5.blk hpl
    have hcell := o5.cell (ints64_get (l := cs) (i := (i * outs + k).toNat) (by omega))
    have o6 := o5.set (v := .int .i64 c) hpl
    rw [ints64_set] at o6
    have B6 := B5.set_ne (b' := s'.b) (o := s'.o + (i * outs + k).toNat) (v := .int .i64 c) (by omega)
    have T6 := T5.set_ne (b' := s'.b) (o := s'.o + (i * outs + k).toNat) (v := .int .i64 c) (by omega)
    have W6 := W5.set_ne (b' := s'.b) (o := s'.o + (i * outs + k).toNat) (v := .int .i64 c) (by omega)
    have x6 : Mod (fun j => j = s'.b) h5 (hset h5 s'.b (s'.o + (i * outs + k).toNat) (.int .i64 c)) := Mod.set rfl
    simp [B5.hc, w1, w2, sem_idxa o5.ok, p0, hpl2, StoreP.open, hcell, A5.hfz]
    generalize hset h5 s'.b (s'.o + (i * outs + k).toNat) (.int .i64 c) = h6 at *
    simp [B6.hc]
    refine ef_store_box T6 rfl rfl (by simp) ?_
    intro h7 T7 m7
    have W7 := m7.blk W6 (by omega)
    simp
    refine ef_store_box W7 rfl rfl (by simp) ?_
    intro h8 W8 m8
    have T8 := m8.blk T7 (by omega)
    simp
    refine resP_xx rfl T8 rfl rfl W8 rfl ?_
    have o8 := (o6.mod m7 (fun _ h => by omega)).mod m8 (fun _ h => by omega)
    refine hr h8 _ ((((e123.trans e5).ext x6 (fun j hj => by omega)).ext m7 (fun j hj => by omega)).ext m8 (fun j hj => by omega)) ⟨ins, outs, s', _, _, rfl, ?_, fresh_row o8 (.inr (by omega)), .inl ⟨by rw [hw]; rfl, rfl, rfl, rfl⟩⟩
    rw [hw]; exact FWr.ok
end
end Go.Rm
