import Derived.Test.YtgmbpmnbpakhbaaGreatDoorRTurn
import Derived.Test.YtgmbpmnbpakhbaaGreatDoorSNums

/- The document's tables (roundsmanref6): what each function does. -/
set_option linter.unusedSimpArgs false
set_option linter.unusedVariables false
namespace Go.Rm
section
variable {Y : Sys} {h : Heap}

theorem ef_bslice_part {K : Value → Heap → Prop} {z0 z1 p a : Value} :
    Ef.wp h K (.bslice 1 2 #[z0, z1] [0]) [.agg #[p, a]] = ∀ t : TypeId, K (.slice (some ⟨h.size, 0, none⟩) 1 1) (h.push (.cells #[p, a] t)) := by
  have e : Instr.fill (fun i => some (i * 2, 2)) (zeros #[z0, z1] (1 * 2)) ([0].zip [.agg #[p, a]]) = some #[p, a] := by
    simp [Instr.fill, zeros]
    apply Array.ext
    · simp
    · intro i h1 h2
      match i, h2 with
      | 0, _ => simp
      | 1, _ => simp
      | i + 2, h2 => exact absurd h2 (by simp)
  simp only [Ef.wp, e]

abbrev FWr (lo : Nat) (h : Heap) (w : Wr) (v : Value) : Prop := Fresh lo (fun h => WrongV h w.1 w.2 v) h
theorem FWr.ok {lo : Nat} : FWr lo h wOK (.agg #[.slice none 0 0, .int .i64 0]) := fun h' _ => ⟨Sl.nil, rfl, Sl.nil_ok, rfl, fun i x hx => by simp [wOK] at hx⟩
theorem WrongV.shape {w : Wr} {v : Value} (hw : WrongV h w.1 w.2 v) : ∃ s : Sl, v = .agg #[s.v, .int .i64 w.2] := by
  obtain ⟨s, e, _⟩ := hw
  exact ⟨s, e⟩

theorem rat_spec (HA : Y.Has F.rref6_At S_rref6_At) {p : ByteArray} {a c : Int} {R : Value → Heap → Prop} (hr : ∀ h' v, Ext h h' → FWr h.size h' ([(p, a)], c) v → R v h') :
    CallP Y F.rref6_At [.string p, .int .i64 a, .int .i64 c] h R := by
  refine .of_has HA rfl ?_
  simp [S_rref6_At, FnS.wp]
  refine ef_new_box ?_
  intro b h1 g1 B1 e1
  simp [ef_bslice_part]
  intro t
  have P2 : Blk (h1.push (.cells #[.string p, .int .i64 a] t)) h1.size #[.string p, .int .i64 a] := Blk.new
  have e2 : Ext h1 (h1.push (.cells #[.string p, .int .i64 a] t)) := Mod.push
  have B2 := B1.ext e2
  have z1 := e1.size
  have B1lt := B1.lt
  generalize h1.push (.cells #[.string p, .int .i64 a] t) = h2 at *
  refine ef_store_box B2 rfl rfl (by simp) ?_
  intro h3 B3 m3
  simp
  refine resP_x rfl B3 rfl ?_
  refine hr h3 _ ((e1.trans e2).ext m3 (fun j hj => by omega)) ?_
  have P3 := m3.blk P2 (by omega)
  intro h4 m4
  have P4 := m4.blk P3 (by omega)
  refine ⟨Sl.at h1.size 1 1, rfl, ⟨fun h => (by cases h), by simp, .inl rfl⟩, rfl, ?_⟩
  intro i x hx
  match i with
  | 0 =>
    simp at hx
    subst hx
    exact ⟨by rw [show (Sl.at h1.size 1 1).b = h1.size from rfl, P4.hc]; rfl, by rw [show (Sl.at h1.size 1 1).b = h1.size from rfl, P4.hc]; rfl⟩
  | i + 1 => simp at hx

theorem rweight_spec (H : Y.Has F.rref6_Weight S_rref6_Weight) {a : Int} {R : Value → Heap → Prop} (hr : R (.bool (weightB a)) h) : CallP Y F.rref6_Weight [.int .i64 a] h R := by
  refine .of_has H rfl ?_
  simp [S_rref6_Weight, FnS.wp]
  by_cases h1 : 0 ≤ a
  · by_cases h2 : a ≤ 2147483648
    · have : weightB a = true := by simp [weightB, h1, h2]
      rw [this] at hr; simp [h1, h2, hr]
    · have : weightB a = decide (a = 1152921504606846976) := by simp [weightB, h1, h2]
      rw [this] at hr; simp [h1, h2, hr]
  · have : weightB a = decide (a = 1152921504606846976) := by simp [weightB, h1]
    rw [this] at hr; simp [h1, hr]

structure RefCk (Y : Sys) : Prop where
  At : Y.Has F.rref6_At S_rref6_At
  Weight : Y.Has F.rref6_Weight S_rref6_Weight
  Check : Y.Has F.rref6_CheckTable S_rref6_CheckTable
structure RefSame (Y : Sys) : Prop where
  SameT : Y.Has F.rref6_SameTable S_rref6_SameTable
  SameC : Y.Has F.rref6_SameCosts S_rref6_SameCosts
structure RefCkS (Y : Sys) : Prop extends RefCk Y, RefSame Y where
  At2 : Y.Has F.rref6_At S_rref6_At
structure RefTab (Y : Sys) : Prop extends RefCkS Y where
  TurnAt : Y.Has F.rref6_TurnAt S_rref6_TurnAt
structure RefTabC (Y : Sys) : Prop extends RefCk Y where
  TurnAt : Y.Has F.rref6_TurnAt S_rref6_TurnAt
theorem RefTab.c (T : RefTab Y) : RefTabC Y := ⟨T.toRefCk, T.TurnAt⟩
instance : Coe (RefTab Y) (RefTabC Y) := ⟨RefTab.c⟩
instance : Coe (RefTabC Y) (RefCk Y) := ⟨RefTabC.toRefCk⟩
instance : Coe (RefCkS Y) (RefCk Y) := ⟨RefCkS.toRefCk⟩
instance : Coe (RefCkS Y) (RefSame Y) := ⟨RefCkS.toRefSame⟩
instance : Coe (RefTab Y) (RefCkS Y) := ⟨RefTab.toRefCkS⟩

def RChkI (s : Sl) (cs : List Int) (tv : Value) (b rb : Nat) (ins outs : Int) (h0 : Heap) (e : List Value) (h' : Heap) : Prop :=
  ∃ (i : Nat) (v4 v5 v6 v7 v8 : Value), e = [tv, .pointer (some ⟨b, 0, none⟩), .pointer (some ⟨rb, 0, none⟩), .int .i64 i, v4, v5, v6, v7, v8] ∧ i ≤ s.n ∧ badFrom 0 cs = badFrom i (cs.drop i) ∧ h' = h0

theorem rcheck_spec (T : RefCk Y) {ins outs : Int} {s : Sl} {cs : List Int} (r : Row64 h s cs) {R : Value → Heap → Prop} (hr : ∀ h' v, Ext h h' → FWr h.size h' (tabW ins outs cs) v → R v h') :
    CallP Y F.rref6_CheckTable [tabV ins outs s] h R := by
  refine .of_has T.Check rfl ?_
  simp [S_rref6_CheckTable, FnS.wp, tabV]
  refine ef_new_box ?_
  intro b h1 g1 B1 e1
  simp
  refine ef_new_box ?_
  intro rb h2 g2 B2 e2
  have B1' := B1.ext e2
  have e12 := e1.trans e2
  have z1 := e1.size
  have z2 := e2.size
  have B2lt := B2.lt
  have r2 := r.ext e12
  have hl := r.len
  have fin : ∀ {a e : Int} {K : Value → Heap → Prop}, tabW ins outs cs = turnW a e → (∀ h' v (hx : FWr h.size h' (tabW ins outs cs) v), Ext h h' → Blk h' rb #[.slice none 0 0, .int .i64 0] → rb < h2.size →
      FWr h2.size h' (tabW ins outs cs) v → K v h') → CallP Y F.rref6_At [.string wTurn, .int .i64 a, .int .i64 e] h2 K := by
    intro a e K hw hk
    refine rat_spec T.At ?_
    intro h' v e3 hw3
    have hw3 : FWr h2.size h' (tabW ins outs cs) v := by rw [hw]; exact hw3
    exact hk h' v (hw3.mono (by omega)) (e12.trans e3) (B2.ext e3) B2lt hw3
  have fin2 : ∀ {h' : Heap} {v : Value} {K : Value → Heap → Prop}, Ext h h' → Blk h' rb #[.slice none 0 0, .int .i64 0] → FWr h2.size h' (tabW ins outs cs) v → (∀ h4 s', v = .agg s' → Blk h4 rb s' → s'.size = 2 → R v h4 → K undef h4) →
      Ef.wp h' K (.store 2) [.pointer (some ⟨rb, 0, none⟩), v] := by
    intro h' v K e3 B3 hw3 hk
    obtain ⟨s', rfl⟩ := hw3.here.shape
    refine ef_store_box B3 rfl rfl (by simp) ?_
    intro h4 B4 m4
    exact hk h4 _ rfl B4 rfl (hr h4 _ (Mod.ext e3 m4 (fun j hj => by omega)) ((hw3.step m4 (fun j hj => by omega)).mono (by omega)))
  by_cases c1 : ins < 0
  · have hw : tabW ins outs cs = turnW 0 1 := by simp [tabW, sidesW, c1, turnW]
    simp [B1'.hc, c1]
    refine fin hw ?_
    intro h' v _ e3 B3 _ hw3
    simp
    refine fin2 e3 B3 hw3 ?_
    rintro h4 s' rfl B4 hs hR
    simp
    exact resP_x rfl B4 hs hR
  by_cases c2 : 16 < ins
  · have hw : tabW ins outs cs = turnW 0 1 := by simp [tabW, sidesW, c2, turnW]
    simp [B1'.hc, c1, c2]
    refine fin hw ?_
    intro h' v _ e3 B3 _ hw3
    simp
    refine fin2 e3 B3 hw3 ?_
    rintro h4 s' rfl B4 hs hR
    simp
    exact resP_x rfl B4 hs hR
  by_cases c3 : outs < 0
  · have hw : tabW ins outs cs = turnW 1 1 := by simp [tabW, sidesW, c1, c2, c3, turnW]
    simp [B1'.hc, c1, c2, c3]
    refine fin hw ?_
    intro h' v _ e3 B3 _ hw3
    simp
    refine fin2 e3 B3 hw3 ?_
    rintro h4 s' rfl B4 hs hR
    simp
    exact resP_x rfl B4 hs hR
  by_cases c4 : 16 < outs
  · have hw : tabW ins outs cs = turnW 1 1 := by simp [tabW, sidesW, c1, c2, c4, turnW]
    simp [B1'.hc, c1, c2, c3, c4]
    refine fin hw ?_
    intro h' v _ e3 B3 _ hw3
    simp
    refine fin2 e3 B3 hw3 ?_
    rintro h4 s' rfl B4 hs hR
    simp
    exact resP_x rfl B4 hs hR
  have hsd : sidesW ins outs = wOK := by simp [sidesW, c1, c2, c3, c4]
  obtain ⟨m1, m2, m3⟩ := mul_wrap (a := ins) (b := outs) (by omega) (by omega)
  by_cases c5 : (s.n : Int) = ins * outs
  · have hw : tabW ins outs cs = match badFrom 0 cs with | some i => turnW (3 + i) 8 | none => wOK := by
      simp only [tabW, hsd, hl, c5, wOK]; simp
      rfl
    simp [B1'.hc, c1, c2, c3, c4, m1, c5]
    refine wp_loop' (RChkI s cs (.agg #[.int .i64 ins, .int .i64 outs, s.v]) b rb ins outs h2) (fun e _ => s.n - argI e 3) ⟨0, _, _, _, _, _, rfl, by omega, by simp, rfl⟩ ?_
    rintro e h3 ⟨i, v4, v5, v6, v7, v8, rfl, hi, hbad, rfl⟩
    by_cases hlt : i < s.n
    · have hlt' : (i : Int) < s.n := by omega
      have w1 : IntKind.i64.wrap ((i : Int) + 1) = (i : Int) + 1 := i64_wrap (by omega)
      have w3 : IntKind.i64.wrap (3 + (i : Int)) = 3 + (i : Int) := i64_wrap (by omega)
      rw [badFrom_drop (by omega)] at hbad
      simp [B1'.hc, hlt', sem_idxa r2.ok, r2.at hlt]
      refine rweight_spec T.Weight ?_
      cases hwt : weightB (nthI cs i) with
      | true =>
        rw [hwt] at hbad
        simp [w1]
        exact ⟨⟨i + 1, _, _, _, _, _, rfl, by omega, by simpa using hbad, rfl⟩, by simp [argI]; omega⟩
      | false =>
        rw [hwt] at hbad
        simp at hbad
        rw [hbad] at hw
        simp [w3]
        refine fin hw ?_
        intro h' v _ e3 B3 _ hw3
        simp
        refine fin2 e3 B3 hw3 ?_
        rintro h4 s' rfl B4 hs hR
        simp
        exact resP_x rfl B4 hs hR
    · have hlt' : ¬ (i : Int) < s.n := by omega
      rw [List.drop_eq_nil_of_le (by omega)] at hbad
      simp only [badFrom] at hbad
      rw [hbad] at hw
      simp [B1'.hc, hlt']
      refine ef_store_box B2 rfl rfl (by simp) ?_
      intro h4 B4 m4
      simp
      refine resP_x rfl B4 rfl (hr h4 _ (Mod.ext e12 m4 (fun j hj => by omega)) ?_)
      rw [hw]; exact FWr.ok
  · have hw : tabW ins outs cs = turnW 2 9 := by
      simp only [tabW, hsd, hl, wOK]; simp [c5]
    simp [B1'.hc, c1, c2, c3, c4, m1, c5]
    refine fin hw ?_
    intro h' v _ e3 B3 _ hw3
    simp
    refine fin2 e3 B3 hw3 ?_
    rintro h4 s' rfl B4 hs hR
    simp
    exact resP_x rfl B4 hs hR

def RSameI (s t : Sl) (a b : List Int) (h : Heap) (e : List Value) (h' : Heap) : Prop :=
  ∃ (i : Nat) (v4 v5 v6 : Value), e = [s.v, t.v, .bool false, .int .i64 i, v4, v5, v6] ∧ i ≤ s.n ∧ (∀ j, j < i → nthI a j = nthI b j) ∧ h' = h
theorem rsamec_spec (HE : Y.Has F.rref6_SameCosts S_rref6_SameCosts) {s t : Sl} {a b : List Int} (ra : Row64 h s a) (rb : Row64 h t b) (hbig : s.n ≤ 1000000) {R : Value → Heap → Prop} (hr : R (.bool (decide (a = b))) h) :
    CallP Y F.rref6_SameCosts [s.v, t.v] h R := by
  refine .of_has HE rfl ?_
  have la := ra.len
  have lb := rb.len
  by_cases hn : s.n = t.n
  · have hn' : (s.n : Int) = t.n := by omega
    simp [S_rref6_SameCosts, FnS.wp, hn]
    refine wp_loop' (RSameI s t a b h) (fun e _ => s.n - argI e 3) ⟨0, _, _, _, rfl, by omega, fun j hj => by omega, rfl⟩ ?_
    rintro e h' ⟨i, v4, v5, v6, rfl, hi, hall, rfl⟩
    by_cases hlt : i < s.n
    · have hlt' : (i : Int) < s.n := by omega
      have hlt2 : (i : Int) < t.n := by omega
      have w1 : IntKind.i64.wrap ((i : Int) + 1) = (i : Int) + 1 := i64_wrap (by omega)
      by_cases hc : nthI a i = nthI b i
      · simp [hlt', hlt2, sem_idxa ra.ok, sem_idxa rb.ok, ra.at hlt, rb.at (i := i) (by omega), hc, w1]
        refine ⟨⟨i + 1, _, _, _, rfl, by omega, fun j hj => ?_, rfl⟩, by simp [argI]; omega⟩
        rcases Nat.lt_succ_iff_lt_or_eq.1 hj with g | rfl
        · exact hall j g
        · exact hc
      · have : decide (a = b) = false := by
          rw [decide_eq_false_iff_not]
          intro e; exact hc (by rw [e])
        rw [this] at hr
        simp [hlt', hlt2, sem_idxa ra.ok, sem_idxa rb.ok, ra.at hlt, rb.at (i := i) (by omega), hc, w1, hr]
    · have hlt' : ¬ (i : Int) < s.n := by omega
      have : decide (a = b) = true := by
        rw [decide_eq_true_iff]
        exact nthI_ext (by omega) fun j hj => hall j (by omega)
      rw [this] at hr
      simp [hlt', hr]
  · have : decide (a = b) = false := by
      rw [decide_eq_false_iff_not]
      intro e; rw [e] at la; omega
    rw [this] at hr
    have hn' : ¬ (s.n : Int) = t.n := by omega
    simp [S_rref6_SameCosts, FnS.wp, hn', hr]

theorem rsamet_spec (T : RefSame Y) {ins outs ins' outs' : Int} {s t : Sl} {a b : List Int} (ra : Row64 h s a) (rb : Row64 h t b) (hbig : s.n ≤ 1000000)
    {R : Value → Heap → Prop} (hr : ∀ h', Ext h h' → R (.bool (decide (ins = ins' ∧ outs = outs' ∧ a = b))) h') : CallP Y F.rref6_SameTable [tabV ins outs s, tabV ins' outs' t] h R := by
  refine .of_has T.SameT rfl ?_
  simp [S_rref6_SameTable, FnS.wp, tabV]
  refine ef_new_box ?_
  intro b1 h1 g1 B1 e1
  simp
  refine ef_new_box ?_
  intro b2 h2 g2 B2 e2
  have B1' := B1.ext e2
  have e12 := e1.trans e2
  by_cases c1 : ins = ins'
  · by_cases c2 : outs = outs'
    · simp [B1'.hc, B2.hc, c1, c2]
      refine rsamec_spec T.SameC (ra.ext e12) (rb.ext e12) hbig ?_
      have : decide (ins = ins' ∧ outs = outs' ∧ a = b) = decide (a = b) := by simp [c1, c2]
      rw [this] at hr
      simp
      exact hr _ e12
    · have : decide (ins = ins' ∧ outs = outs' ∧ a = b) = false := by simp [c2]
      rw [this] at hr
      simp [B1'.hc, B2.hc, c1, c2]
      exact hr _ e12
  · have : decide (ins = ins' ∧ outs = outs' ∧ a = b) = false := by simp [c1]
    rw [this] at hr
    simp [B1'.hc, B2.hc, c1]
    exact hr _ e12

end
end Go.Rm

/- The document's tables (roundsmanref6): FreeTable, BackTable, WithTable. -/
set_option linter.unusedSimpArgs false
set_option linter.unusedVariables false
namespace Go.Rm

section
variable {Y : Sys} {h : Heap}

end
end Go.Rm

/- The document's tables (roundsmanref6): BackTable, WithTable. -/
set_option linter.unusedSimpArgs false
set_option linter.unusedVariables false
namespace Go.Rm
section
variable {Y : Sys} {h : Heap}

theorem FWr.any {w : Wr} {v : Value} (hw : WrongV h w.1 w.2 v) (h0 : w.1 = []) {lo : Nat} {h' : Heap} : FWr lo h' w v := by
  obtain ⟨s, e, p⟩ := hw
  intro h'' _
  refine ⟨s, e, p.ok, p.len, fun i x hx => ?_⟩
  rw [h0] at hx; simp at hx

end
end Go.Rm
