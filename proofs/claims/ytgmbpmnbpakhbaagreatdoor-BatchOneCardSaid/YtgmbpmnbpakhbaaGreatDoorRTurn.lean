import Derived.Test.YtgmbpmnbpakhbaaGreatDoorEngT
import Derived.Test.YtgmbpmnbpakhbaaGreatDoorEngV
import Derived.Test.YtgmbpmnbpakhbaaGreatDoorSNums

/- Tables of turns: what each function of package turn does. -/
set_option linter.unusedSimpArgs false
set_option linter.unusedVariables false
namespace Go.Rm

def weightB (a : Int) : Bool := decide (0 ≤ a ∧ a ≤ 2147483648) || decide (a = 1152921504606846976)
abbrev wTurn : ByteArray := ⟨#[116, 117, 114, 110]⟩

/-- a Wrong as plain data: its parts, its number -/
abbrev Wr := List (ByteArray × Int) × Int
def wOK : Wr := ([], 0)
def turnW (at' e : Int) : Wr := ([(wTurn, at')], e)

/-- the first cost that may not be -/
def badFrom : Nat → List Int → Option Nat
  | _, [] => none
  | i, c :: r => if weightB c then badFrom (i + 1) r else some i

def sidesW (ins outs : Int) : Wr := if ins < 0 ∨ 16 < ins then turnW 0 1 else if outs < 0 ∨ 16 < outs then turnW 1 1 else wOK
def tabW (ins outs : Int) (cs : List Int) : Wr :=
  if (sidesW ins outs).2 ≠ 0 then sidesW ins outs
  else if (cs.length : Int) ≠ ins * outs then turnW 2 9
  else match badFrom 0 cs with
    | some i => turnW (3 + i) 8
    | none => wOK

theorem badFrom_drop {l : List Int} {i : Nat} (hi : i < l.length) : badFrom i (l.drop i) = if weightB (nthI l i) then badFrom (i + 1) (l.drop (i + 1)) else some i := by
  rw [List.drop_eq_getElem_cons hi]
  simp only [badFrom, nthI, List.getD_eq_getElem?_getD, List.getElem?_eq_getElem hi, Option.getD_some]

section
variable {Y : Sys} {h : Heap}

def Err (Y : Sys) (h : Heap) (w : Wr) (v : Value) : Prop := ErrV Y h w.1 w.2 v
theorem Err.ext {w : Wr} {v : Value} {h' : Heap} (e : Err Y h w v) (he : Ext h h') : Err Y h' w v := ErrV.ext e he
theorem Err.ok : Err Y h wOK .nilIface := .inl ⟨rfl, rfl⟩
theorem Err.nil {v : Value} {w : Wr} (e : Err Y h w v) (h0 : w.2 = 0) : v = .nilIface := by
  rcases e with ⟨_, e⟩ | ⟨e, _⟩
  · exact e
  · exact absurd h0 e
theorem Err.iface {v : Value} {w : Wr} (e : Err Y h w v) (h0 : w.2 ≠ 0) : ∃ t u, v = .iface t u := by
  rcases e with ⟨e, _⟩ | ⟨_, e⟩
  · exact absurd e h0
  · obtain ⟨l, c⟩ := w
    cases l with
    | nil => exact ⟨_, _, e⟩
    | cons p ps => obtain ⟨b, u, e, _⟩ := e; exact ⟨_, _, e⟩

/-- it holds, and goes on holding whatever is done to blocks below lo -/
def Fresh (lo : Nat) (P : Heap → Prop) (h : Heap) : Prop := ∀ h', Mod (fun j => j < lo) h h' → P h'
theorem Fresh.here {lo : Nat} {P : Heap → Prop} {h : Heap} (f : Fresh lo P h) : P h := f h (Mod.refl h)
theorem Fresh.mono {lo lo' : Nat} {P : Heap → Prop} {h : Heap} (f : Fresh lo P h) (hl : lo' ≤ lo) : Fresh lo' P h := fun h' m => f h' (m.mono fun _ _ h => Nat.lt_of_lt_of_le h hl)
theorem Fresh.step {lo : Nat} {S : Nat → Prop} {P : Heap → Prop} {h h' : Heap} (f : Fresh lo P h) (m : Mod S h h') (hs : ∀ j, S j → j < lo) : Fresh lo P h' := fun h'' m' => f h'' ((m.mono fun j _ h => hs j h).trans m')
theorem Fresh.ext {lo : Nat} {P : Heap → Prop} {h h' : Heap} (f : Fresh lo P h) (m : Ext h h') : Fresh lo P h' := f.step m (fun _ h => h.elim)
abbrev FErr (Y : Sys) (lo : Nat) (h : Heap) (w : Wr) (v : Value) : Prop := Fresh lo (fun h => Err Y h w v) h
theorem FErr.ok {lo : Nat} : FErr Y lo h wOK .nilIface := fun _ _ => Err.ok

theorem weight_spec (H : Y.Has F.cost_Weight S_cost_Weight) {a : Int} {R : Value → Heap → Prop} (hr : R (.bool (weightB a)) h) : CallP Y F.cost_Weight [.int .i64 a] h R := by
  refine .of_has H rfl ?_
  simp [S_cost_Weight, FnS.wp]
  by_cases h0 : a = 1152921504606846976
  · have : weightB a = true := by simp [weightB, h0]
    rw [this] at hr; simp [h0, hr]
  · by_cases h1 : 0 ≤ a
    · have : weightB a = decide (a ≤ 2147483648) := by simp [weightB, h0, h1]
      rw [this] at hr; simp [h0, h1, hr]
    · have : weightB a = false := by simp [weightB, h0]; omega
      rw [this] at hr; simp [h0, h1, hr]

theorem fault_at {b : Nat} {p : ByteArray} {a c : Int} (hb : Blk h b #[.string p, .int .i64 a, .iface (Y.tid Ty.api_Errno) (.int .i64 c)]) (hc : c ≠ 0) :
    Err Y h ([(p, a)], c) (.iface (Y.tid Ty.api_Fault) (.pointer (some ⟨b, 0, none⟩))) :=
  .inr ⟨hc, b, _, rfl, by rw [hb.hc]; rfl, by rw [hb.hc]; rfl, by rw [hb.hc]; rfl, rfl⟩

theorem tfault_spec (H : Y.Has F.turn_fault S_turn_fault) {a c : Int} (hc : c ≠ 0) {R : Value → Heap → Prop} (hr : ∀ v h', Ext h h' → FErr Y h.size h' (turnW a c) v → (∃ t u, v = .iface t u) → R v h') :
    CallP Y F.turn_fault [.int .i64 a, .int .i64 c] h R := by
  refine .of_has H rfl ?_
  simp [S_turn_fault, FnS.wp]
  refine ef_new_box ?_
  intro b h1 g1 B e1
  simp
  exact hr _ _ e1 (fun h' m => fault_at (m.blk B (by omega)) hc) ⟨_, _, rfl⟩

theorem sides_spec (H : Y.Has F.turn_sides S_turn_sides) (Hf : Y.Has F.turn_fault S_turn_fault) {ins outs : Int} {R : Value → Heap → Prop} (hr : ∀ v h', Ext h h' → FErr Y h.size h' (sidesW ins outs) v → R v h') :
    CallP Y F.turn_sides [.int .i64 ins, .int .i64 outs] h R := by
  refine .of_has H rfl ?_
  by_cases c1 : ins < 0 ∨ 16 < ins
  · have hw : sidesW ins outs = turnW 0 1 := by simp [sidesW, c1]
    rw [hw] at hr
    have fin : CallP Y F.turn_fault [.int .i64 0, .int .i64 1] h fun v h' => R v h' := tfault_spec Hf (by omega) fun v h' e he _ => hr v h' e he
    by_cases c2 : ins < 0
    · simp [S_turn_sides, FnS.wp, c2]; exact CallP.mono fin fun v h' hv => by simpa using hv
    · have c3 : 16 < ins := by omega
      simp [S_turn_sides, FnS.wp, c2, c3]; exact CallP.mono fin fun v h' hv => by simpa using hv
  · have c2 : ¬ ins < 0 := by omega
    have c3 : ¬ 16 < ins := by omega
    by_cases d1 : outs < 0 ∨ 16 < outs
    · have hw : sidesW ins outs = turnW 1 1 := by simp [sidesW, c2, c3, d1]
      rw [hw] at hr
      have fin : CallP Y F.turn_fault [.int .i64 1, .int .i64 1] h fun v h' => R v h' := tfault_spec Hf (by omega) fun v h' e he _ => hr v h' e he
      by_cases d2 : outs < 0
      · simp [S_turn_sides, FnS.wp, c2, c3, d2]; exact CallP.mono fin fun v h' hv => by simpa using hv
      · have d3 : 16 < outs := by omega
        simp [S_turn_sides, FnS.wp, c2, c3, d2, d3]; exact CallP.mono fin fun v h' hv => by simpa using hv
    · have d2 : ¬ outs < 0 := by omega
      have d3 : ¬ 16 < outs := by omega
      have hw : sidesW ins outs = wOK := by simp [sidesW, c2, c3, d2, d3]
      rw [hw] at hr
      simp [S_turn_sides, FnS.wp, c2, c3, d2, d3]
      exact hr _ _ (Mod.refl h) FErr.ok

/-- a table as a value -/
def tabV (ins outs : Int) (s : Sl) : Value := .agg #[.int .i64 ins, .int .i64 outs, s.v]

structure TurnCk (Y : Sys) : Prop where
  Check : Y.Has F.turn_Check S_turn_Check
  sides : Y.Has F.turn_sides S_turn_sides
  fault : Y.Has F.turn_fault S_turn_fault
  Weight : Y.Has F.cost_Weight S_cost_Weight
structure TurnFns (Y : Sys) : Prop extends TurnCk Y where
  At : Y.Has F.turn_At S_turn_At
instance : Coe (TurnFns Y) (TurnCk Y) := ⟨TurnFns.toTurnCk⟩

theorem sides_ok {ins outs : Int} (h0 : (sidesW ins outs).2 = 0) : sidesW ins outs = wOK ∧ 0 ≤ ins ∧ ins ≤ 16 ∧ 0 ≤ outs ∧ outs ≤ 16 := by
  unfold sidesW at h0 ⊢
  split at h0
  · simp [turnW] at h0
  · split at h0
    · simp [turnW] at h0
    · rename_i h1 h2
      rw [if_neg h1, if_neg h2]
      refine ⟨rfl, ?_, ?_, ?_, ?_⟩ <;> omega

theorem mul_wrap {a b : Int} (ha : 0 ≤ a ∧ a ≤ 16) (hb : 0 ≤ b ∧ b ≤ 16) : IntKind.i64.wrap (a * b) = a * b ∧ 0 ≤ a * b ∧ a * b ≤ 256 := by
  have h1 : 0 ≤ a * b := Int.mul_nonneg ha.1 hb.1
  have h2 : a * b ≤ 16 * 16 := Int.mul_le_mul ha.2 hb.2 hb.1 (by omega)
  exact ⟨i64_wrap (by omega), h1, by omega⟩

def ChkI (s : Sl) (cs : List Int) (tv : Value) (b : Nat) (h0 : Heap) (e : List Value) (h' : Heap) : Prop :=
  ∃ (i : Nat) (v3 v4 v5 v6 v7 v11 v12 : Value), e = [tv, .pointer (some ⟨b, 0, none⟩), .nilIface, v3, v4, v5, v6, v7, s.v, .int .i64 s.n, .int .i64 i, v11, v12] ∧ i ≤ s.n ∧ badFrom 0 cs = badFrom i (cs.drop i) ∧ Ext h0 h'

theorem check_spec (T : TurnCk Y) {ins outs : Int} {s : Sl} {cs : List Int} (r : Row64 h s cs) {R : Value → Heap → Prop} (hr : ∀ v h', Ext h h' → FErr Y h.size h' (tabW ins outs cs) v → R v h') :
    CallP Y F.turn_Check [tabV ins outs s] h R := by
  refine .of_has T.Check rfl ?_
  simp [S_turn_Check, FnS.wp, tabV]
  refine ef_new_box ?_
  intro b h1 g1 B1 e1
  simp [B1.hc]
  refine sides_spec T.sides T.fault ?_
  intro v h2 e2 he
  have e12 := e1.trans e2
  have B2 := B1.ext e2
  by_cases h0 : (sidesW ins outs).2 = 0
  · obtain ⟨hs, a1, a2, a3, a4⟩ := sides_ok h0
    have := he.here.nil h0
    subst this
    obtain ⟨m1, m2, m3⟩ := mul_wrap ⟨a1, a2⟩ ⟨a3, a4⟩
    have hl := r.len
    by_cases c1 : (s.n : Int) = ins * outs
    · have hw : tabW ins outs cs = match badFrom 0 cs with | some i => turnW (3 + i) 8 | none => wOK := by
        simp only [tabW, h0, hl, c1]; simp
      rw [hw] at hr
      simp [B2.hc, m1, c1]
      refine wp_loop' (ChkI s cs (.agg #[.int .i64 ins, .int .i64 outs, s.v]) b h) (fun e _ => s.n - argI e 10) ⟨0, _, _, _, _, _, _, _, by rw [c1]; rfl, by omega, by simp, e12⟩ ?_
      clear e1 e2 e12 he B1 B2
      rintro e h3 ⟨i, v3, v4, v5, v6, v7, v11, v12, rfl, hi, hbad, e3⟩
      have r3 := r.ext e3
      by_cases hlt : i < s.n
      · have hlt' : (i : Int) < s.n := by omega
        have w1 : IntKind.i64.wrap ((i : Int) + 1) = (i : Int) + 1 := i64_wrap (by omega)
        have w3 : IntKind.i64.wrap (3 + (i : Int)) = 3 + (i : Int) := i64_wrap (by omega)
        rw [badFrom_drop (by omega)] at hbad
        simp [hlt', sem_idxa r3.ok, r3.at hlt]
        refine weight_spec T.Weight ?_
        cases hwt : weightB (nthI cs i) with
        | true =>
          rw [hwt] at hbad
          simp [w1]
          exact ⟨⟨i + 1, _, _, _, _, _, _, _, rfl, by omega, by simpa using hbad, e3⟩, by simp [argI]; omega⟩
        | false =>
          rw [hwt] at hbad
          simp at hbad
          rw [hbad] at hr
          simp [w3]
          refine tfault_spec T.fault (by omega) ?_
          intro v h4 e4 he4 _
          simp
          exact hr _ _ (e3.trans e4) (he4.mono e3.size)
      · have hlt' : ¬ (i : Int) < s.n := by omega
        rw [List.drop_eq_nil_of_le (by omega)] at hbad
        simp only [badFrom] at hbad
        rw [hbad] at hr
        simp [hlt']
        exact hr _ _ e3 FErr.ok
    · have hw : tabW ins outs cs = turnW 2 9 := by
        simp only [tabW, h0, hl]; simp [c1]
      rw [hw] at hr
      simp [B2.hc, m1, c1]
      refine tfault_spec T.fault (by omega) ?_
      intro v h4 e4 he4 _
      simp
      exact hr _ _ (e12.trans e4) (he4.mono e12.size)
  · obtain ⟨t, u, hv⟩ := he.here.iface h0
    have hw : tabW ins outs cs = sidesW ins outs := by simp [tabW, h0]
    rw [hw] at hr
    subst hv
    simp
    exact hr _ _ e12 (he.mono e1.size)

def atV (ins outs : Int) (cs : List Int) (i k : Int) : Int :=
  if i < 0 ∨ ins ≤ i ∨ k < 0 ∨ outs ≤ k ∨ (sidesW ins outs).2 ≠ 0 then 1152921504606846976
  else if i * outs + k < cs.length then nthI cs (i * outs + k).toNat else 1152921504606846976

theorem place_wrap {ins outs i k : Int} (h1 : 0 ≤ i) (h2 : i < ins) (h3 : 0 ≤ k) (h4 : k < outs) (h5 : ins ≤ 16) (h6 : outs ≤ 16) :
    IntKind.i64.wrap (i * outs) = i * outs ∧ IntKind.i64.wrap (i * outs + k) = i * outs + k ∧ 0 ≤ i * outs + k ∧ i * outs + k < ins * outs := by
  have a1 : 0 ≤ i * outs := Int.mul_nonneg h1 (by omega)
  have a2 : i * outs ≤ 16 * 16 := Int.mul_le_mul (by omega) h6 (by omega) (by omega)
  have a3 : (i + 1) * outs ≤ ins * outs := Int.mul_le_mul_of_nonneg_right (by omega) (by omega)
  rw [Int.add_mul, Int.one_mul] at a3
  exact ⟨i64_wrap (by omega), i64_wrap (by omega), by omega, by omega⟩

theorem at_spec (T : TurnFns Y) {ins outs i k : Int} {s : Sl} {cs : List Int} (r : Row64 h s cs) {R : Value → Heap → Prop} (hr : ∀ h', Ext h h' → R (.int .i64 (atV ins outs cs i k)) h') :
    CallP Y F.turn_At [tabV ins outs s, .int .i64 i, .int .i64 k] h R := by
  refine .of_has T.At rfl ?_
  simp [S_turn_At, FnS.wp, tabV]
  refine ef_new_box ?_
  intro b h1 g1 B1 e1
  by_cases c1 : i < 0
  · have hv : atV ins outs cs i k = 1152921504606846976 := by simp [atV, c1]
    rw [hv] at hr
    simp [c1]; exact hr _ e1
  by_cases c2 : ins ≤ i
  · have hv : atV ins outs cs i k = 1152921504606846976 := by simp [atV, c2]
    rw [hv] at hr
    simp [c1, B1.hc, c2]; exact hr _ e1
  by_cases c3 : k < 0
  · have hv : atV ins outs cs i k = 1152921504606846976 := by simp [atV, c3]
    rw [hv] at hr
    simp [c1, B1.hc, c2, c3]; exact hr _ e1
  by_cases c4 : outs ≤ k
  · have hv : atV ins outs cs i k = 1152921504606846976 := by simp [atV, c4]
    rw [hv] at hr
    simp [c1, B1.hc, c2, c3, c4]; exact hr _ e1
  simp [c1, B1.hc, c2, c3, c4]
  refine sides_spec T.sides T.fault ?_
  intro v h2 e2 he
  have e12 := e1.trans e2
  have B2 := B1.ext e2
  have r2 := r.ext e12
  by_cases h0 : (sidesW ins outs).2 = 0
  · obtain ⟨hs, a1, a2, a3, a4⟩ := sides_ok h0
    have := he.here.nil h0
    subst this
    obtain ⟨w1, w2, p0, p1⟩ := place_wrap (ins := ins) (outs := outs) (i := i) (k := k) (by omega) (by omega) (by omega) (by omega) a2 a4
    have hl := r.len
    by_cases c5 : i * outs + k < s.n
    · have hv : atV ins outs cs i k = nthI cs (i * outs + k).toNat := by
        simp only [atV, c1, c2, c3, c4, h0, hl]; simp [c5]
      rw [hv] at hr
      have hcell := r2.at (i := (i * outs + k).toNat) (by omega)
      simp [B2.hc, w1, w2, c5, sem_idxa r2.ok, p0, hcell]
      exact hr _ e12
    · have hv : atV ins outs cs i k = 1152921504606846976 := by
        simp only [atV, c1, c2, c3, c4, h0, hl]; simp [c5]
      rw [hv] at hr
      simp [B2.hc, w1, w2, c5]
      exact hr _ e12
  · obtain ⟨t, u, hv⟩ := he.here.iface h0
    have hv' : atV ins outs cs i k = 1152921504606846976 := by simp [atV, h0]
    rw [hv'] at hr
    subst hv
    simp
    exact hr _ e12
end
end Go.Rm

/- Tables of turns: what each function of package turn does (part two). -/
set_option linter.unusedSimpArgs false
set_option linter.unusedVariables false
namespace Go.Rm

theorem nthI_ext {a b : List Int} (hl : a.length = b.length) (h : ∀ j, j < a.length → nthI a j = nthI b j) : a = b := by
  apply List.ext_getElem hl
  intro i h1 h2
  have := h i h1
  simpa [nthI, h1, h2] using this

def zerosL (n : Nat) : List Int := List.replicate n 0
def backI (n i : Nat) : List Int := (List.range i).foldl (fun l i => l.set (i * n + i) 1152921504606846976) (zerosL (n * n))
theorem backI_succ {n i : Nat} : backI n (i + 1) = (backI n i).set (i * n + i) 1152921504606846976 := by simp [backI, List.range_succ]
@[simp] theorem backI_len {n i : Nat} : (backI n i).length = n * n := by
  induction i with
  | zero => simp [backI, zerosL]
  | succ i ih => rw [backI_succ]; simp [ih]

section
variable {Y : Sys} {h : Heap}

theorem clone64_spec (HC : Y.Has F.slices_Clone_int64_int64 S_slices_Clone_int64_int64) {s : Sl} {cs : List Int} (r : Row64 h s cs) (hbig : s.n ≤ 17592186044416) {R : Value → Heap → Prop}
    (hr : ∀ h' s', Ext h h' → Own h' 1 s' (ints64 cs) → (s'.nl = true ∨ h.size ≤ s'.b) → R s'.v h') : CallP Y F.slices_Clone_int64_int64 [s.v] h R := by
  refine .of_has HC rfl ?_
  cases hnl : s.nl with
  | true =>
    have : cs = [] := List.eq_nil_of_length_eq_zero (by rw [r.len]; exact (r.ok.nil hnl).1)
    subst this
    simp [S_slices_Clone_int64_int64, FnS.wp, hnl]
    exact hr h Sl.nil (Mod.refl h) Own.nil (.inl rfl)
  | false =>
    simp [S_slices_Clone_int64_int64, FnS.wp, hnl, ef_bslice0]
    intro t
    have e1 : Ext h (h.push (.cells #[] t)) := Mod.push
    refine ef_clone64 (r.ext e1) hbig own_empty (.inr (Nat.le_refl _)) e1 ?_
    intro s' h' o hb he
    simp
    exact hr h' s' he o hb

def withW (ins outs : Int) (cs : List Int) (i k c : Int) : Wr :=
  if i < 0 ∨ ins ≤ i then turnW 0 5 else if k < 0 ∨ outs ≤ k then turnW 1 5 else if weightB c = false then turnW 2 8 else tabW ins outs cs

theorem tab_ok {ins outs : Int} {cs : List Int} (h0 : (tabW ins outs cs).2 = 0) : 0 ≤ ins ∧ ins ≤ 16 ∧ 0 ≤ outs ∧ outs ≤ 16 ∧ (cs.length : Int) = ins * outs ∧ badFrom 0 cs = none ∧ tabW ins outs cs = wOK := by
  unfold tabW at h0 ⊢
  split at h0
  · rename_i h1; exact absurd h0 h1
  · rename_i h1
    have h1 : (sidesW ins outs).2 = 0 := by simpa using h1
    obtain ⟨_, a1, a2, a3, a4⟩ := sides_ok h1
    split at h0
    · simp [turnW] at h0
    · rename_i h2
      have h2 : (cs.length : Int) = ins * outs := by simpa using h2
      refine ⟨a1, a2, a3, a4, h2, ?_⟩
      split at h0
      · simp [turnW] at h0
      · rename_i h3
        exact ⟨h3, by simp [h1, h2, h3]⟩

/-- what With hands back -/
def WithR (Y : Sys) (lo : Nat) (h' : Heap) (ins outs : Int) (cs : List Int) (i k c : Int) (v : Value) : Prop :=
  ∃ ins' outs' s' cs' u, v = .tuple #[tabV ins' outs' s', u] ∧ FErr Y lo h' (withW ins outs cs i k c) u ∧ Fresh lo (fun h => Row64 h s' cs') h' ∧
    (((withW ins outs cs i k c).2 = 0 ∧ ins' = ins ∧ outs' = outs ∧ cs' = cs.set (i * outs + k).toNat c) ∨ ((withW ins outs cs i k c).2 ≠ 0 ∧ ins' = 0 ∧ outs' = 0 ∧ s' = Sl.nil ∧ cs' = []))

theorem Row64.nil : Row64 h Sl.nil [] := ⟨Sl.nil_ok, rfl, fun i hi => by simp at hi⟩

theorem fresh_own {lo : Nat} {s : Sl} {cs : List Int} {h' : Heap} (o : Own h' 1 s (ints64 cs)) (hs : s.nl = true ∨ lo ≤ s.b) : Fresh lo (fun h => Own h 1 s (ints64 cs)) h' := fun h'' m => o.mod m (fun hn => by
  rcases hs with hs | hs
  · rw [hn] at hs; cases hs
  · omega)
theorem fresh_row {lo : Nat} {s : Sl} {cs : List Int} {h' : Heap} (o : Own h' 1 s (ints64 cs)) (hs : s.nl = true ∨ lo ≤ s.b) : Fresh lo (fun h => Row64 h s cs) h' := fun h'' m => (fresh_own o hs h'' m).row64

theorem with_spec (HW : Y.Has F.turn_With S_turn_With) (HC : Y.Has F.slices_Clone_int64_int64 S_slices_Clone_int64_int64) (T : TurnFns Y) {ins outs i k c : Int} {s : Sl} {cs : List Int} (r : Row64 h s cs) {R : Value → Heap → Prop}
    (hr : ∀ h' v, Ext h h' → WithR Y h.size h' ins outs cs i k c v → R v h') : CallP Y F.turn_With [tabV ins outs s, .int .i64 i, .int .i64 k, .int .i64 c] h R := by
  refine .of_has HW rfl ?_
  simp [S_turn_With, FnS.wp, tabV]
  refine ef_new_box ?_
  intro b h1 g1 B1 e1
  simp
  refine ef_new_box ?_
  intro rb h2 g2 B2 e2
  have B1' := B1.ext e2
  have e12 := e1.trans e2
  have hne : rb ≠ b := by have := B1.lt; omega
  have z1 := e1.size
  have z2 := e2.size
  -- refused: the empty table, and why
  have fin : ∀ {h3 : Heap} {v : Value} {lo : Nat} {K : Value → Heap → Prop}, (withW ins outs cs i k c).2 ≠ 0 → Ext h2 h3 → h.size ≤ lo → rb < lo → FErr Y lo h3 (withW ins outs cs i k c) v →
      (∀ h4, Blk h4 rb #[.int .i64 0, .int .i64 0, .slice none 0 0] → R (.tuple #[.agg #[.int .i64 0, .int .i64 0, .slice none 0 0], v]) h4 → K undef h4) →
      Ef.wp h3 K (.store 3) [.pointer (some ⟨rb, 0, none⟩), .agg #[.int .i64 0, .int .i64 0, .slice none 0 0]] := by
    intro h3 v lo K hw e3 hlo hrb he3 hk
    refine ef_store_box (B2.ext e3) rfl rfl (by simp) ?_
    intro h4 B4 m4
    refine hk h4 B4 (hr h4 _ (Mod.ext (e12.trans e3) m4 (fun j hj => by omega)) ⟨0, 0, Sl.nil, [], v, rfl, (he3.step m4 (fun j hj => by omega)).mono hlo, fun _ _ => Row64.nil, .inr ⟨hw, rfl, rfl, rfl, rfl⟩⟩)
  have B2lt := B2.lt
  by_cases c1 : i < 0
  · have hw : withW ins outs cs i k c = turnW 0 5 := by simp [withW, c1]
    simp [c1]
    refine tfault_spec T.fault (by omega) ?_
    intro v h3 e3 he3 _
    simp
    refine fin (by rw [hw]; simp [turnW]) e3 (by omega) B2lt (by rw [hw]; exact he3) ?_
    intro h4 B4 hR
    simp
    exact resP_xn rfl B4 rfl hR
  by_cases c2 : ins ≤ i
  · have hw : withW ins outs cs i k c = turnW 0 5 := by simp [withW, c2]
    simp [c1, B1'.hc, c2]
    refine tfault_spec T.fault (by omega) ?_
    intro v h3 e3 he3 _
    simp
    refine fin (by rw [hw]; simp [turnW]) e3 (by omega) B2lt (by rw [hw]; exact he3) ?_
    intro h4 B4 hR
    simp
    exact resP_xn rfl B4 rfl hR
  by_cases c3 : k < 0
  · have hw : withW ins outs cs i k c = turnW 1 5 := by simp [withW, c1, c2, c3]
    simp [c1, B1'.hc, c2, c3]
    refine tfault_spec T.fault (by omega) ?_
    intro v h3 e3 he3 _
    simp
    refine fin (by rw [hw]; simp [turnW]) e3 (by omega) B2lt (by rw [hw]; exact he3) ?_
    intro h4 B4 hR
    simp
    exact resP_xn rfl B4 rfl hR
  by_cases c4 : outs ≤ k
  · have hw : withW ins outs cs i k c = turnW 1 5 := by simp [withW, c1, c2, c4]
    simp [c1, B1'.hc, c2, c3, c4]
    refine tfault_spec T.fault (by omega) ?_
    intro v h3 e3 he3 _
    simp
    refine fin (by rw [hw]; simp [turnW]) e3 (by omega) B2lt (by rw [hw]; exact he3) ?_
    intro h4 B4 hR
    simp
    exact resP_xn rfl B4 rfl hR
  simp [c1, B1'.hc, c2, c3, c4]
  refine weight_spec T.Weight ?_
  cases hwt : weightB c with
  | false =>
    have hw : withW ins outs cs i k c = turnW 2 8 := by simp [withW, c1, c2, c3, c4, hwt]
    simp
    refine tfault_spec T.fault (by omega) ?_
    intro v h3 e3 he3 _
    simp
    refine fin (by rw [hw]; simp [turnW]) e3 (by omega) B2lt (by rw [hw]; exact he3) ?_
    intro h4 B4 hR
    simp
    exact resP_xn rfl B4 rfl hR
  | true =>
    have hw : withW ins outs cs i k c = tabW ins outs cs := by simp [withW, c1, c2, c3, c4, hwt]
    simp [rd_blk B1']
    refine check_spec T (r.ext e12) ?_
    intro v h3 e3 he3
    have B13 := B1'.ext e3
    have B23 := B2.ext e3
    by_cases h0 : (tabW ins outs cs).2 = 0
    · obtain ⟨a1, a2, a3, a4, a5, a6, a7⟩ := tab_ok h0
      have := he3.here.nil h0
      subst this
      have r3 := r.ext (e12.trans e3)
      have hl := r.len
      obtain ⟨w1, w2, p0, p1⟩ := place_wrap (ins := ins) (outs := outs) (i := i) (k := k) (by omega) (by omega) (by omega) (by omega) a2 a4
      have m3 := (mul_wrap ⟨a1, a2⟩ ⟨a3, a4⟩).2
      simp [B13.hc]
      refine clone64_spec HC r3 (by omega) ?_
      intro h4 s' e4 o4 hs'
      have B14 := B13.ext e4
      have B24 := B23.ext e4
      have z3 := e3.size
      have z4 := e4.size
      have hs'' : ∀ {lo : Nat}, lo ≤ h3.size → (s'.nl = true ∨ lo ≤ s'.b) := fun hlo => hs'.imp id (fun h => Nat.le_trans hlo h)
      have hb3 : b < h3.size := by have := B13.lt; omega
      have hrb3 : rb < h3.size := by have := B23.lt; omega
      -- the clone has a block of its own: it is not empty
      have hnl : s'.nl = false := by
        obtain ⟨arr, _, _, hnl⟩ := o4.blk (i := (i * outs + k).toNat) (by rw [ints64_len]; omega)
        exact hnl
      have hsb : h3.size ≤ s'.b := hs'.resolve_left (by rw [hnl]; simp)
      have hbs : b ≠ s'.b := by omega
      have hrs : rb ≠ s'.b := by omega
      simp [StoreP.open, B14.hc, B14.hfz]
      -- the box holds the clone
      have B15 := B14.set (o := 2) (v := s'.v)
      have B25 := B24.set_ne (b' := b) (o := 2) (v := s'.v) hne
      have o5 := o4.mod (S := fun j => j = b) (Mod.set (b := b) (o := 2) (v := s'.v) rfl) (fun _ h => hbs h.symm)
      have x5 : Mod (fun j => j = b) h4 (hset h4 b 2 s'.v) := Mod.set rfl
      simp at B15
      generalize hset h4 b 2 s'.v = h5 at *
      have hpl : (i * outs + k).toNat < (ints64 cs).length := by rw [ints64_len]; omega
      have hpl2 : i * outs + k < s'.n := by have := o5.row64.len; omega
      obtain ⟨arr, A5, A5s, _⟩ := o5.blk hpl
      have hcell := o5.cell (ints64_get (l := cs) (i := (i * outs + k).toNat) (by omega))
      have o6 := o5.set (v := .int .i64 c) hpl
      rw [ints64_set] at o6
      have B16 := B15.set_ne (b' := s'.b) (o := s'.o + (i * outs + k).toNat) (v := .int .i64 c) hbs
      have B26 := B25.set_ne (b' := s'.b) (o := s'.o + (i * outs + k).toNat) (v := .int .i64 c) hrs
      have x6 : Mod (fun j => j = s'.b) h5 (hset h5 s'.b (s'.o + (i * outs + k).toNat) (.int .i64 c)) := Mod.set rfl
      simp [B15.hc, w1, w2, sem_idxa o5.ok, p0, hpl2, StoreP.open, hcell, A5.hfz]
      generalize hset h5 s'.b (s'.o + (i * outs + k).toNat) (.int .i64 c) = h6 at *
      simp [rd_blk B16]
      refine ef_store_box B26 rfl rfl (by simp) ?_
      intro h7 B7 m7
      have o7 := o6.mod m7 (fun _ h => hrs h.symm)
      simp
      refine resP_xn rfl B7 rfl ?_
      refine hr h7 _ ?_ ⟨ins, outs, s', _, .nilIface, rfl, ?_, fresh_row o7 (hs'' (by omega)), .inl ⟨by rw [hw]; exact h0, rfl, rfl, rfl⟩⟩
      · exact (((((e12.trans e3).trans e4).ext x5 (fun j hj => by omega)).ext x6 (fun j hj => by omega)).ext m7 (fun j hj => by omega))
      · rw [hw, a7]; exact FErr.ok
    · obtain ⟨t, u, hv⟩ := he3.here.iface h0
      subst hv
      simp
      refine fin (by rw [hw]; exact h0) e3 (by omega) B2lt (by rw [hw]; exact he3) ?_
      intro h4 B4 hR
      simp
      exact resP_xn rfl B4 rfl hR
end
end Go.Rm

/- Tables of turns: Free, Back. -/
set_option linter.unusedSimpArgs false
set_option linter.unusedVariables false
namespace Go.Rm
section
variable {Y : Sys} {h : Heap}

end
end Go.Rm
