import Derived.Test.YtojpokpdfbgelaaDoorEngT
import Derived.Test.YtojpokpdfbgelaaDoorEngV
import Derived.Test.YtojpokpdfbgelaaDoorSNums

/- Tables of turns: what each function of package turn does. -/
set_option linter.unusedSimpArgs false
set_option linter.unusedVariables false
namespace Go.Rm

abbrev inf : Int := 1152921504606846976
def weightB (a : Int) : Bool := decide (0 ≤ a ∧ a ≤ 2147483648) || decide (a = 1152921504606846976)
abbrev wTurn : ByteArray := ⟨#[116, 117, 114, 110]⟩

/-- a Wrong as plain data: its parts, its number -/
abbrev Wr := List (ByteArray × Int) × Int
def wOK : Wr := ([], 0)
def turnW (at' e : Int) : Wr := ([(wTurn, at')], e)

/-- the first cost that may not be -/
def badFrom : Nat → List Int → Option Nat
  | _, [] => none
  | i, c :: r => if weightB c then badFrom (i + 1) r else some i

def sidesW (ins outs : Int) : Wr := if ins < 0 ∨ 16 < ins then turnW 0 1 else if outs < 0 ∨ 16 < outs then turnW 1 1 else wOK
def tabW (ins outs : Int) (cs : List Int) : Wr :=
  if (sidesW ins outs).2 ≠ 0 then sidesW ins outs
  else if (cs.length : Int) ≠ ins * outs then turnW 2 9
  else match badFrom 0 cs with
    | some i => turnW (3 + i) 8
    | none => wOK

theorem badFrom_ge : ∀ {l : List Int} {k i : Nat}, badFrom k l = some i → k ≤ i ∧ i < k + l.length := by
  intro l
  induction l with
  | nil => intro k i h; cases h
  | cons c r ih =>
    intro k i h
    simp only [badFrom] at h
    split at h
    · have := ih h; simp; omega
    · cases h; simp
theorem badFrom_drop {l : List Int} {i : Nat} (hi : i < l.length) : badFrom i (l.drop i) = if weightB (nthI l i) then badFrom (i + 1) (l.drop (i + 1)) else some i := by
  rw [List.drop_eq_getElem_cons hi]
  simp only [badFrom, nthI, List.getD_eq_getElem?_getD, List.getElem?_eq_getElem hi, Option.getD_some]

section
variable {Y : Sys} {h : Heap}

def Err (Y : Sys) (h : Heap) (w : Wr) (v : Value) : Prop := ErrV Y h w.1 w.2 v
theorem Err.ext {w : Wr} {v : Value} {h' : Heap} (e : Err Y h w v) (he : Ext h h') : Err Y h' w v := ErrV.ext e he
theorem Err.ok : Err Y h wOK .nilIface := .inl ⟨rfl, rfl⟩
theorem Err.nil {v : Value} {w : Wr} (e : Err Y h w v) (h0 : w.2 = 0) : v = .nilIface := by
  rcases e with ⟨_, e⟩ | ⟨e, _⟩
  · exact e
  · exact absurd h0 e
theorem Err.iface {v : Value} {w : Wr} (e : Err Y h w v) (h0 : w.2 ≠ 0) : ∃ t u, v = .iface t u := by
  rcases e with ⟨e, _⟩ | ⟨_, e⟩
  · exact absurd e h0
  · obtain ⟨l, c⟩ := w
    cases l with
    | nil => exact ⟨_, _, e⟩
    | cons p ps => obtain ⟨b, u, e, _⟩ := e; exact ⟨_, _, e⟩

/-- it holds, and goes on holding whatever is done to blocks below lo -/
def Fresh (lo : Nat) (P : Heap → Prop) (h : Heap) : Prop := ∀ h', Mod (fun j => j < lo) h h' → P h'
theorem Fresh.here {lo : Nat} {P : Heap → Prop} {h : Heap} (f : Fresh lo P h) : P h := f h (Mod.refl h)
theorem Fresh.mono {lo lo' : Nat} {P : Heap → Prop} {h : Heap} (f : Fresh lo P h) (hl : lo' ≤ lo) : Fresh lo' P h := fun h' m => f h' (m.mono fun _ _ h => Nat.lt_of_lt_of_le h hl)
theorem Fresh.step {lo : Nat} {S : Nat → Prop} {P : Heap → Prop} {h h' : Heap} (f : Fresh lo P h) (m : Mod S h h') (hs : ∀ j, S j → j < lo) : Fresh lo P h' := fun h'' m' => f h'' ((m.mono fun j _ h => hs j h).trans m')
theorem Fresh.ext {lo : Nat} {P : Heap → Prop} {h h' : Heap} (f : Fresh lo P h) (m : Ext h h') : Fresh lo P h' := f.step m (fun _ h => h.elim)
abbrev FErr (Y : Sys) (lo : Nat) (h : Heap) (w : Wr) (v : Value) : Prop := Fresh lo (fun h => Err Y h w v) h
theorem FErr.ok {lo : Nat} : FErr Y lo h wOK .nilIface := fun _ _ => Err.ok

theorem weight_spec (H : Y.Has F.cost_Weight S_cost_Weight) {a : Int} {R : Value → Heap → Prop} (hr : R (.bool (weightB a)) h) : CallP Y F.cost_Weight [.int .i64 a] h R := by
  refine .of_has H rfl ?_
  simp [S_cost_Weight, FnS.wp]
  by_cases h0 : a = 1152921504606846976
  · have : weightB a = true := by simp [weightB, h0]
    rw [this] at hr; simp [h0, hr]
  · by_cases h1 : 0 ≤ a
    · have : weightB a = decide (a ≤ 2147483648) := by simp [weightB, h0, h1]
      rw [this] at hr; simp [h0, h1, hr]
    · have : weightB a = false := by simp [weightB, h0]; omega
      rw [this] at hr; simp [h0, h1, hr]

theorem fault_at {b : Nat} {p : ByteArray} {a c : Int} (hb : Blk h b #[.string p, .int .i64 a, .iface (Y.tid Ty.api_Errno) (.int .i64 c)]) (hc : c ≠ 0) :
    Err Y h ([(p, a)], c) (.iface (Y.tid Ty.api_Fault) (.pointer (some ⟨b, 0, none⟩))) :=
  .inr ⟨hc, b, _, rfl, by rw [hb.hc]; rfl, by rw [hb.hc]; rfl, by rw [hb.hc]; rfl, rfl⟩

theorem tfault_spec (H : Y.Has F.turn_fault S_turn_fault) {a c : Int} (hc : c ≠ 0) {R : Value → Heap → Prop} (hr : ∀ v h', Ext h h' → FErr Y h.size h' (turnW a c) v → (∃ t u, v = .iface t u) → R v h') :
    CallP Y F.turn_fault [.int .i64 a, .int .i64 c] h R := by
  refine .of_has H rfl ?_
  simp [S_turn_fault, FnS.wp]
  refine ef_new_box ?_
  intro b h1 g1 B e1
  simp
  exact hr _ _ e1 (fun h' m => fault_at (m.blk B (by omega)) hc) ⟨_, _, rfl⟩

theorem sides_spec (H : Y.Has F.turn_sides S_turn_sides) (Hf : Y.Has F.turn_fault S_turn_fault) {ins outs : Int} {R : Value → Heap → Prop} (hr : ∀ v h', Ext h h' → FErr Y h.size h' (sidesW ins outs) v → R v h') :
    CallP Y F.turn_sides [.int .i64 ins, .int .i64 outs] h R := by
  refine .of_has H rfl ?_
  by_cases c1 : ins < 0 ∨ 16 < ins
  · have hw : sidesW ins outs = turnW 0 1 := by simp [sidesW, c1]
    rw [hw] at hr
    have fin : CallP Y F.turn_fault [.int .i64 0, .int .i64 1] h fun v h' => R v h' := tfault_spec Hf (by omega) fun v h' e he _ => hr v h' e he
    by_cases c2 : ins < 0
    · simp [S_turn_sides, FnS.wp, c2]; exact CallP.mono fin fun v h' hv => by simpa using hv
    · have c3 : 16 < ins := by omega
      simp [S_turn_sides, FnS.wp, c2, c3]; exact CallP.mono fin fun v h' hv => by simpa using hv
  · have c2 : ¬ ins < 0 := by omega
    have c3 : ¬ 16 < ins := by omega
    by_cases d1 : outs < 0 ∨ 16 < outs
    · have hw : sidesW ins outs = turnW 1 1 := by simp [sidesW, c2, c3, d1]
      rw [hw] at hr
      have fin : CallP Y F.turn_fault [.int .i64 1, .int .i64 1] h fun v h' => R v h' := tfault_spec Hf (by omega) fun v h' e he _ => hr v h' e he
      by_cases d2 : outs < 0
      · simp [S_turn_sides, FnS.wp, c2, c3, d2]; exact CallP.mono fin fun v h' hv => by simpa using hv
      · have d3 : 16 < outs := by omega
        simp [S_turn_sides, FnS.wp, c2, c3, d2, d3]; exact CallP.mono fin fun v h' hv => by simpa using hv
    · have d2 : ¬ outs < 0 := by omega
      have d3 : ¬ 16 < outs := by omega
      have hw : sidesW ins outs = wOK := by simp [sidesW, c2, c3, d2, d3]
      rw [hw] at hr
      simp [S_turn_sides, FnS.wp, c2, c3, d2, d3]
      exact hr _ _ (Mod.refl h) FErr.ok

/-- a table as a value -/
def tabV (ins outs : Int) (s : Sl) : Value := .agg #[.int .i64 ins, .int .i64 outs, s.v]

structure TurnEq (Y : Sys) : Prop where
  Same : Y.Has F.turn_Same S_turn_Same
  Equal : Y.Has F.slices_Equal_int64_int64 S_slices_Equal_int64_int64
structure TurnFns (Y : Sys) : Prop where
  Check : Y.Has F.turn_Check S_turn_Check
  sides : Y.Has F.turn_sides S_turn_sides
  fault : Y.Has F.turn_fault S_turn_fault
  Weight : Y.Has F.cost_Weight S_cost_Weight
  At : Y.Has F.turn_At S_turn_At

theorem sides_ok {ins outs : Int} (h0 : (sidesW ins outs).2 = 0) : sidesW ins outs = wOK ∧ 0 ≤ ins ∧ ins ≤ 16 ∧ 0 ≤ outs ∧ outs ≤ 16 := by
  unfold sidesW at h0 ⊢
  split at h0
  · simp [turnW] at h0
  · split at h0
    · simp [turnW] at h0
    · rename_i h1 h2
      rw [if_neg h1, if_neg h2]
      refine ⟨rfl, ?_, ?_, ?_, ?_⟩ <;> omega

theorem mul_wrap {a b : Int} (ha : 0 ≤ a ∧ a ≤ 16) (hb : 0 ≤ b ∧ b ≤ 16) : IntKind.i64.wrap (a * b) = a * b ∧ 0 ≤ a * b ∧ a * b ≤ 256 := by
  have h1 : 0 ≤ a * b := Int.mul_nonneg ha.1 hb.1
  have h2 : a * b ≤ 16 * 16 := Int.mul_le_mul ha.2 hb.2 hb.1 (by omega)
  exact ⟨i64_wrap (by omega), h1, by omega⟩

def ChkI (s : Sl) (cs : List Int) (tv : Value) (b : Nat) (h0 : Heap) (e : List Value) (h' : Heap) : Prop :=
  ∃ (i : Nat) (v3 v4 v5 v6 v7 v11 v12 : Value), e = [tv, .pointer (some ⟨b, 0, none⟩), .nilIface, v3, v4, v5, v6, v7, s.v, .int .i64 s.n, .int .i64 i, v11, v12] ∧ i ≤ s.n ∧ badFrom 0 cs = badFrom i (cs.drop i) ∧ Ext h0 h'

theorem check_spec (T : TurnFns Y) {ins outs : Int} {s : Sl} {cs : List Int} (r : Row64 h s cs) {R : Value → Heap → Prop} (hr : ∀ v h', Ext h h' → FErr Y h.size h' (tabW ins outs cs) v → R v h') :
    CallP Y F.turn_Check [tabV ins outs s] h R := by
  refine .of_has T.Check rfl ?_
  simp [S_turn_Check, FnS.wp, tabV]
  refine ef_new_box ?_
  intro b h1 g1 B1 e1
  simp [B1.hc]
  refine sides_spec T.sides T.fault ?_
  intro v h2 e2 he
  have e12 := e1.trans e2
  have B2 := B1.ext e2
  by_cases h0 : (sidesW ins outs).2 = 0
  · obtain ⟨hs, a1, a2, a3, a4⟩ := sides_ok h0
    have := he.here.nil h0
    subst this
    obtain ⟨m1, m2, m3⟩ := mul_wrap ⟨a1, a2⟩ ⟨a3, a4⟩
    have hl := r.len
    by_cases c1 : (s.n : Int) = ins * outs
    · have hw : tabW ins outs cs = match badFrom 0 cs with | some i => turnW (3 + i) 8 | none => wOK := by
        simp only [tabW, h0, hl, c1]; simp
      rw [hw] at hr
      simp [B2.hc, m1, c1]
      refine wp_loop' (ChkI s cs (.agg #[.int .i64 ins, .int .i64 outs, s.v]) b h) (fun e _ => s.n - argI e 10) ⟨0, _, _, _, _, _, _, _, by rw [c1]; rfl, by omega, by simp, e12⟩ ?_
      clear e1 e2 e12 he B1 B2
      rintro e h3 ⟨i, v3, v4, v5, v6, v7, v11, v12, rfl, hi, hbad, e3⟩
      have r3 := r.ext e3
      by_cases hlt : i < s.n
      · have hlt' : (i : Int) < s.n := by omega
        have w1 : IntKind.i64.wrap ((i : Int) + 1) = (i : Int) + 1 := i64_wrap (by omega)
        have w3 : IntKind.i64.wrap (3 + (i : Int)) = 3 + (i : Int) := i64_wrap (by omega)
        rw [badFrom_drop (by omega)] at hbad
        simp [hlt', sem_idxa r3.ok, r3.at hlt]
        refine weight_spec T.Weight ?_
        cases hwt : weightB (nthI cs i) with
        | true =>
          rw [hwt] at hbad
          simp [w1]
          exact ⟨⟨i + 1, _, _, _, _, _, _, _, rfl, by omega, by simpa using hbad, e3⟩, by simp [argI]; omega⟩
        | false =>
          rw [hwt] at hbad
          simp at hbad
          rw [hbad] at hr
          simp [w3]
          refine tfault_spec T.fault (by omega) ?_
          intro v h4 e4 he4 _
          simp
          exact hr _ _ (e3.trans e4) (he4.mono e3.size)
      · have hlt' : ¬ (i : Int) < s.n := by omega
        rw [List.drop_eq_nil_of_le (by omega)] at hbad
        simp only [badFrom] at hbad
        rw [hbad] at hr
        simp [hlt']
        exact hr _ _ e3 FErr.ok
    · have hw : tabW ins outs cs = turnW 2 9 := by
        simp only [tabW, h0, hl]; simp [c1]
      rw [hw] at hr
      simp [B2.hc, m1, c1]
      refine tfault_spec T.fault (by omega) ?_
      intro v h4 e4 he4 _
      simp
      exact hr _ _ (e12.trans e4) (he4.mono e12.size)
  · obtain ⟨t, u, hv⟩ := he.here.iface h0
    have hw : tabW ins outs cs = sidesW ins outs := by simp [tabW, h0]
    rw [hw] at hr
    subst hv
    simp
    exact hr _ _ e12 (he.mono e1.size)

def atV (ins outs : Int) (cs : List Int) (i k : Int) : Int :=
  if i < 0 ∨ ins ≤ i ∨ k < 0 ∨ outs ≤ k ∨ (sidesW ins outs).2 ≠ 0 then 1152921504606846976
  else if i * outs + k < cs.length then nthI cs (i * outs + k).toNat else 1152921504606846976

theorem place_wrap {ins outs i k : Int} (h1 : 0 ≤ i) (h2 : i < ins) (h3 : 0 ≤ k) (h4 : k < outs) (h5 : ins ≤ 16) (h6 : outs ≤ 16) :
    IntKind.i64.wrap (i * outs) = i * outs ∧ IntKind.i64.wrap (i * outs + k) = i * outs + k ∧ 0 ≤ i * outs + k ∧ i * outs + k < ins * outs := by
  have a1 : 0 ≤ i * outs := Int.mul_nonneg h1 (by omega)
  have a2 : i * outs ≤ 16 * 16 := Int.mul_le_mul (by omega) h6 (by omega) (by omega)
  have a3 : (i + 1) * outs ≤ ins * outs := Int.mul_le_mul_of_nonneg_right (by omega) (by omega)
  rw [Int.add_mul, Int.one_mul] at a3
  exact ⟨i64_wrap (by omega), i64_wrap (by omega), by omega, by omega⟩

theorem at_spec (T : TurnFns Y) {ins outs i k : Int} {s : Sl} {cs : List Int} (r : Row64 h s cs) {R : Value → Heap → Prop} (hr : ∀ h', Ext h h' → R (.int .i64 (atV ins outs cs i k)) h') :
    CallP Y F.turn_At [tabV ins outs s, .int .i64 i, .int .i64 k] h R := by
  refine .of_has T.At rfl ?_
  simp [S_turn_At, FnS.wp, tabV]
  refine ef_new_box ?_
  intro b h1 g1 B1 e1
  by_cases c1 : i < 0
  · have hv : atV ins outs cs i k = 1152921504606846976 := by simp [atV, c1]
    rw [hv] at hr
    simp [c1]; exact hr _ e1
  by_cases c2 : ins ≤ i
  · have hv : atV ins outs cs i k = 1152921504606846976 := by simp [atV, c2]
    rw [hv] at hr
    simp [c1, B1.hc, c2]; exact hr _ e1
  by_cases c3 : k < 0
  · have hv : atV ins outs cs i k = 1152921504606846976 := by simp [atV, c3]
    rw [hv] at hr
    simp [c1, B1.hc, c2, c3]; exact hr _ e1
  by_cases c4 : outs ≤ k
  · have hv : atV ins outs cs i k = 1152921504606846976 := by simp [atV, c4]
    rw [hv] at hr
    simp [c1, B1.hc, c2, c3, c4]; exact hr _ e1
  simp [c1, B1.hc, c2, c3, c4]
  refine sides_spec T.sides T.fault ?_
  intro v h2 e2 he
  have e12 := e1.trans e2
  have B2 := B1.ext e2
  have r2 := r.ext e12
  by_cases h0 : (sidesW ins outs).2 = 0
  · obtain ⟨hs, a1, a2, a3, a4⟩ := sides_ok h0
    have := he.here.nil h0
    subst this
    obtain ⟨w1, w2, p0, p1⟩ := place_wrap (ins := ins) (outs := outs) (i := i) (k := k) (by omega) (by omega) (by omega) (by omega) a2 a4
    have hl := r.len
    by_cases c5 : i * outs + k < s.n
    · have hv : atV ins outs cs i k = nthI cs (i * outs + k).toNat := by
        simp only [atV, c1, c2, c3, c4, h0, hl]; simp [c5]
      rw [hv] at hr
      have hcell := r2.at (i := (i * outs + k).toNat) (by omega)
      simp [B2.hc, w1, w2, c5, sem_idxa r2.ok, p0, hcell]
      exact hr _ e12
    · have hv : atV ins outs cs i k = 1152921504606846976 := by
        simp only [atV, c1, c2, c3, c4, h0, hl]; simp [c5]
      rw [hv] at hr
      simp [B2.hc, w1, w2, c5]
      exact hr _ e12
  · obtain ⟨t, u, hv⟩ := he.here.iface h0
    have hv' : atV ins outs cs i k = 1152921504606846976 := by simp [atV, h0]
    rw [hv'] at hr
    subst hv
    simp
    exact hr _ e12
end
end Go.Rm

/- Tables of turns: what each function of package turn does (part two). -/
set_option linter.unusedSimpArgs false
set_option linter.unusedVariables false
namespace Go.Rm

def bans : List Int → Nat
  | [] => 0
  | c :: r => (if c = 1152921504606846976 then 1 else 0) + bans r
theorem bans_drop {l : List Int} {i : Nat} (hi : i < l.length) : bans (l.drop i) = (if nthI l i = 1152921504606846976 then 1 else 0) + bans (l.drop (i + 1)) := by
  rw [List.drop_eq_getElem_cons hi]
  simp only [bans, nthI, List.getD_eq_getElem?_getD, List.getElem?_eq_getElem hi, Option.getD_some]
theorem bans_le : ∀ {l : List Int}, bans l ≤ l.length := by
  intro l
  induction l with
  | nil => simp [bans]
  | cons c r ih => simp only [bans, List.length_cons]; split <;> omega

theorem nthI_ext {a b : List Int} (hl : a.length = b.length) (h : ∀ j, j < a.length → nthI a j = nthI b j) : a = b := by
  apply List.ext_getElem hl
  intro i h1 h2
  have := h i h1
  simpa [nthI, h1, h2] using this

def zerosL (n : Nat) : List Int := List.replicate n 0
def backL (n : Nat) : List Int := (List.range n).foldl (fun l i => l.set (i * n + i) 1152921504606846976) (zerosL (n * n))
def backI (n i : Nat) : List Int := (List.range i).foldl (fun l i => l.set (i * n + i) 1152921504606846976) (zerosL (n * n))
theorem backI_succ {n i : Nat} : backI n (i + 1) = (backI n i).set (i * n + i) 1152921504606846976 := by simp [backI, List.range_succ]
@[simp] theorem backI_len {n i : Nat} : (backI n i).length = n * n := by
  induction i with
  | zero => simp [backI, zerosL]
  | succ i ih => rw [backI_succ]; simp [ih]

section
variable {Y : Sys} {h : Heap}

def BansI (s : Sl) (cs : List Int) (tv : Value) (b : Nat) (h0 : Heap) (e : List Value) (h' : Heap) : Prop :=
  ∃ (i n : Nat) (v4 v8 v9 : Value), e = [tv, .pointer (some ⟨b, 0, none⟩), .int .i64 0, .int .i64 n, v4, s.v, .int .i64 s.n, .int .i64 i, v8, v9] ∧ i ≤ s.n ∧ n ≤ i ∧ bans cs = n + bans (cs.drop i) ∧ h' = h0

theorem bans_spec (HB : Y.Has F.turn_Bans S_turn_Bans) {ins outs : Int} {s : Sl} {cs : List Int} (r : Row64 h s cs) (hbig : s.n ≤ 1000000) {R : Value → Heap → Prop} (hr : ∀ h', Ext h h' → R (.int .i64 (bans cs)) h') :
    CallP Y F.turn_Bans [tabV ins outs s] h R := by
  refine .of_has HB rfl ?_
  simp [S_turn_Bans, FnS.wp, tabV]
  refine ef_new_box ?_
  intro b h1 g1 B1 e1
  simp [B1.hc]
  have r1 := r.ext e1
  have hl := r.len
  refine wp_loop' (BansI s cs (.agg #[.int .i64 ins, .int .i64 outs, s.v]) b h1) (fun e _ => s.n - argI e 7) ⟨0, 0, _, _, _, rfl, by omega, by omega, by simp, rfl⟩ ?_
  rintro e h' ⟨i, n, v4, v8, v9, rfl, hi, hn, hb, rfl⟩
  by_cases hlt : i < s.n
  · have hlt' : (i : Int) < s.n := by omega
    have w1 : IntKind.i64.wrap ((i : Int) + 1) = (i : Int) + 1 := i64_wrap (by omega)
    have w2 : IntKind.i64.wrap ((n : Int) + 1) = (n : Int) + 1 := i64_wrap (by omega)
    rw [bans_drop (by omega)] at hb
    by_cases hc : nthI cs i = 1152921504606846976
    · rw [if_pos hc] at hb
      simp [hlt', sem_idxa r1.ok, r1.at hlt, hc, w1, w2]
      exact ⟨⟨i + 1, n + 1, _, _, _, rfl, by omega, by omega, by omega, rfl⟩, by simp [argI]; omega⟩
    · rw [if_neg hc] at hb
      simp [hlt', sem_idxa r1.ok, r1.at hlt, hc, w1, w2]
      exact ⟨⟨i + 1, n, _, _, _, rfl, by omega, by omega, by omega, rfl⟩, by simp [argI]; omega⟩
  · have hlt' : ¬ (i : Int) < s.n := by omega
    rw [List.drop_eq_nil_of_le (by omega)] at hb
    simp only [bans, Nat.add_zero] at hb
    simp [hlt']
    rw [← hb]
    exact hr _ e1

def EqI (s t : Sl) (a b : List Int) (h0 : Heap) (e : List Value) (h' : Heap) : Prop :=
  ∃ (i : Nat) (v3 v4 v7 v8 : Value), e = [s.v, t.v, .bool false, v3, v4, .int .i64 s.n, .int .i64 i, v7, v8] ∧ i ≤ s.n ∧ (∀ j, j < i → nthI a j = nthI b j) ∧ h' = h0

theorem equal64_spec (HE : Y.Has F.slices_Equal_int64_int64 S_slices_Equal_int64_int64) {s t : Sl} {a b : List Int} (ra : Row64 h s a) (rb : Row64 h t b) (hbig : s.n ≤ 1000000) {R : Value → Heap → Prop} (hr : R (.bool (decide (a = b))) h) :
    CallP Y F.slices_Equal_int64_int64 [s.v, t.v] h R := by
  refine .of_has HE rfl ?_
  have la := ra.len
  have lb := rb.len
  by_cases hn : s.n = t.n
  · have hn' : (s.n : Int) = t.n := by omega
    simp [S_slices_Equal_int64_int64, FnS.wp, hn]
    refine wp_loop' (EqI s t a b h) (fun e _ => s.n - argI e 6) ⟨0, _, _, _, _, by rw [hn]; rfl, by omega, fun j hj => by omega, rfl⟩ ?_
    rintro e h' ⟨i, v3, v4, v7, v8, rfl, hi, hall, rfl⟩
    by_cases hlt : i < s.n
    · have hlt' : (i : Int) < s.n := by omega
      have hlt2 : (i : Int) < t.n := by omega
      have w1 : IntKind.i64.wrap ((i : Int) + 1) = (i : Int) + 1 := i64_wrap (by omega)
      by_cases hc : nthI a i = nthI b i
      · simp [hlt', hlt2, sem_idxa ra.ok, sem_idxa rb.ok, ra.at hlt, rb.at (i := i) (by omega), hc, w1]
        refine ⟨⟨i + 1, _, _, _, _, rfl, by omega, fun j hj => ?_, rfl⟩, by simp [argI]; omega⟩
        rcases Nat.lt_succ_iff_lt_or_eq.1 hj with g | rfl
        · exact hall j g
        · exact hc
      · have : decide (a = b) = false := by
          rw [decide_eq_false_iff_not]
          intro e; exact hc (by rw [e])
        rw [this] at hr
        simp [hlt', hlt2, sem_idxa ra.ok, sem_idxa rb.ok, ra.at hlt, rb.at (i := i) (by omega), hc, w1, hr]
    · have hlt' : ¬ (i : Int) < s.n := by omega
      have : decide (a = b) = true := by
        rw [decide_eq_true_iff]
        exact nthI_ext (by omega) fun j hj => hall j (by omega)
      rw [this] at hr
      simp [hlt', hr]
  · have : decide (a = b) = false := by
      rw [decide_eq_false_iff_not]
      intro e; rw [e] at la; omega
    rw [this] at hr
    have hn' : ¬ (s.n : Int) = t.n := by omega
    simp [S_slices_Equal_int64_int64, FnS.wp, hn', hr]

theorem same_spec' (T : TurnEq Y) {ins outs ins' outs' : Int} {s t : Sl} {a b : List Int} (ra : Row64 h s a) (rb : Row64 h t b) (hbig : s.n ≤ 1000000)
    {R : Value → Heap → Prop} (hr : ∀ h', Ext h h' → R (.bool (decide (ins = ins' ∧ outs = outs' ∧ a = b))) h') : CallP Y F.turn_Same [tabV ins outs s, tabV ins' outs' t] h R := by
  refine .of_has T.Same rfl ?_
  simp [S_turn_Same, FnS.wp, tabV]
  refine ef_new_box ?_
  intro b1 h1 g1 B1 e1
  simp
  refine ef_new_box ?_
  intro b2 h2 g2 B2 e2
  have B1' := B1.ext e2
  have e12 := e1.trans e2
  by_cases c1 : ins = ins'
  · by_cases c2 : outs = outs'
    · simp [B1'.hc, B2.hc, c1, c2]
      refine equal64_spec T.Equal (ra.ext e12) (rb.ext e12) hbig ?_
      have : decide (ins = ins' ∧ outs = outs' ∧ a = b) = decide (a = b) := by simp [c1, c2]
      rw [this] at hr
      simp
      exact hr _ e12
    · have : decide (ins = ins' ∧ outs = outs' ∧ a = b) = false := by simp [c2]
      rw [this] at hr
      simp [B1'.hc, B2.hc, c1, c2]
      exact hr _ e12
  · have : decide (ins = ins' ∧ outs = outs' ∧ a = b) = false := by simp [c1]
    rw [this] at hr
    simp [B1'.hc, B2.hc, c1]
    exact hr _ e12

theorem clone64_spec (HC : Y.Has F.slices_Clone_int64_int64 S_slices_Clone_int64_int64) {s : Sl} {cs : List Int} (r : Row64 h s cs) (hbig : s.n ≤ 17592186044416) {R : Value → Heap → Prop}
    (hr : ∀ h' s', Ext h h' → Own h' 1 s' (ints64 cs) → (s'.nl = true ∨ h.size ≤ s'.b) → R s'.v h') : CallP Y F.slices_Clone_int64_int64 [s.v] h R := by
  refine .of_has HC rfl ?_
  cases hnl : s.nl with
  | true =>
    have : cs = [] := List.eq_nil_of_length_eq_zero (by rw [r.len]; exact (r.ok.nil hnl).1)
    subst this
    simp [S_slices_Clone_int64_int64, FnS.wp, hnl]
    exact hr h Sl.nil (Mod.refl h) Own.nil (.inl rfl)
  | false =>
    simp [S_slices_Clone_int64_int64, FnS.wp, hnl, ef_bslice0]
    intro t
    have e1 : Ext h (h.push (.cells #[] t)) := Mod.push
    refine ef_clone64 (r.ext e1) hbig own_empty (.inr (Nat.le_refl _)) e1 ?_
    intro s' h' o hb he
    simp
    exact hr h' s' he o hb

def withW (ins outs : Int) (cs : List Int) (i k c : Int) : Wr :=
  if i < 0 ∨ ins ≤ i then turnW 0 5 else if k < 0 ∨ outs ≤ k then turnW 1 5 else if weightB c = false then turnW 2 8 else tabW ins outs cs

theorem tab_ok {ins outs : Int} {cs : List Int} (h0 : (tabW ins outs cs).2 = 0) : 0 ≤ ins ∧ ins ≤ 16 ∧ 0 ≤ outs ∧ outs ≤ 16 ∧ (cs.length : Int) = ins * outs ∧ badFrom 0 cs = none ∧ tabW ins outs cs = wOK := by
  unfold tabW at h0 ⊢
  split at h0
  · rename_i h1; exact absurd h0 h1
  · rename_i h1
    have h1 : (sidesW ins outs).2 = 0 := by simpa using h1
    obtain ⟨_, a1, a2, a3, a4⟩ := sides_ok h1
    split at h0
    · simp [turnW] at h0
    · rename_i h2
      have h2 : (cs.length : Int) = ins * outs := by simpa using h2
      refine ⟨a1, a2, a3, a4, h2, ?_⟩
      split at h0
      · simp [turnW] at h0
      · rename_i h3
        exact ⟨h3, by simp [h1, h2, h3]⟩

/-- what With hands back -/
def WithR (Y : Sys) (lo : Nat) (h' : Heap) (ins outs : Int) (cs : List Int) (i k c : Int) (v : Value) : Prop :=
  ∃ ins' outs' s' cs' u, v = .tuple #[tabV ins' outs' s', u] ∧ FErr Y lo h' (withW ins outs cs i k c) u ∧ Fresh lo (fun h => Row64 h s' cs') h' ∧
    (((withW ins outs cs i k c).2 = 0 ∧ ins' = ins ∧ outs' = outs ∧ cs' = cs.set (i * outs + k).toNat c) ∨ ((withW ins outs cs i k c).2 ≠ 0 ∧ ins' = 0 ∧ outs' = 0 ∧ s' = Sl.nil ∧ cs' = []))

theorem Row64.nil : Row64 h Sl.nil [] := ⟨Sl.nil_ok, rfl, fun i hi => by simp at hi⟩

theorem fresh_own {lo : Nat} {s : Sl} {cs : List Int} {h' : Heap} (o : Own h' 1 s (ints64 cs)) (hs : s.nl = true ∨ lo ≤ s.b) : Fresh lo (fun h => Own h 1 s (ints64 cs)) h' := fun h'' m => o.mod m (fun hn => by
  rcases hs with hs | hs
  · rw [hn] at hs; cases hs
  · omega)
theorem fresh_row {lo : Nat} {s : Sl} {cs : List Int} {h' : Heap} (o : Own h' 1 s (ints64 cs)) (hs : s.nl = true ∨ lo ≤ s.b) : Fresh lo (fun h => Row64 h s cs) h' := fun h'' m => (fresh_own o hs h'' m).row64

theorem with_spec (HW : Y.Has F.turn_With S_turn_With) (HC : Y.Has F.slices_Clone_int64_int64 S_slices_Clone_int64_int64) (T : TurnFns Y) {ins outs i k c : Int} {s : Sl} {cs : List Int} (r : Row64 h s cs) {R : Value → Heap → Prop}
    (hr : ∀ h' v, Ext h h' → WithR Y h.size h' ins outs cs i k c v → R v h') : CallP Y F.turn_With [tabV ins outs s, .int .i64 i, .int .i64 k, .int .i64 c] h R := by
  refine .of_has HW rfl ?_
  simp [S_turn_With, FnS.wp, tabV]
  refine ef_new_box ?_
  intro b h1 g1 B1 e1
  simp
  refine ef_new_box ?_
  intro rb h2 g2 B2 e2
  have B1' := B1.ext e2
  have e12 := e1.trans e2
  have hne : rb ≠ b := by have := B1.lt; omega
  have z1 := e1.size
  have z2 := e2.size
  -- refused: the empty table, and why
  have fin : ∀ {h3 : Heap} {v : Value} {lo : Nat} {K : Value → Heap → Prop}, (withW ins outs cs i k c).2 ≠ 0 → Ext h2 h3 → h.size ≤ lo → rb < lo → FErr Y lo h3 (withW ins outs cs i k c) v →
      (∀ h4, Blk h4 rb #[.int .i64 0, .int .i64 0, .slice none 0 0] → R (.tuple #[.agg #[.int .i64 0, .int .i64 0, .slice none 0 0], v]) h4 → K undef h4) →
      Ef.wp h3 K (.store 3) [.pointer (some ⟨rb, 0, none⟩), .agg #[.int .i64 0, .int .i64 0, .slice none 0 0]] := by
    intro h3 v lo K hw e3 hlo hrb he3 hk
    refine ef_store_box (B2.ext e3) rfl rfl (by simp) ?_
    intro h4 B4 m4
    refine hk h4 B4 (hr h4 _ (Mod.ext (e12.trans e3) m4 (fun j hj => by omega)) ⟨0, 0, Sl.nil, [], v, rfl, (he3.step m4 (fun j hj => by omega)).mono hlo, fun _ _ => Row64.nil, .inr ⟨hw, rfl, rfl, rfl, rfl⟩⟩)
  have B2lt := B2.lt
  by_cases c1 : i < 0
  · have hw : withW ins outs cs i k c = turnW 0 5 := by simp [withW, c1]
    simp [c1]
    refine tfault_spec T.fault (by omega) ?_
    intro v h3 e3 he3 _
    simp
    refine fin (by rw [hw]; simp [turnW]) e3 (by omega) B2lt (by rw [hw]; exact he3) ?_
    intro h4 B4 hR
    simp
    exact resP_xn rfl B4 rfl hR
  by_cases c2 : ins ≤ i
  · have hw : withW ins outs cs i k c = turnW 0 5 := by simp [withW, c2]
    simp [c1, B1'.hc, c2]
    refine tfault_spec T.fault (by omega) ?_
    intro v h3 e3 he3 _
    simp
    refine fin (by rw [hw]; simp [turnW]) e3 (by omega) B2lt (by rw [hw]; exact he3) ?_
    intro h4 B4 hR
    simp
    exact resP_xn rfl B4 rfl hR
  by_cases c3 : k < 0
  · have hw : withW ins outs cs i k c = turnW 1 5 := by simp [withW, c1, c2, c3]
    simp [c1, B1'.hc, c2, c3]
    refine tfault_spec T.fault (by omega) ?_
    intro v h3 e3 he3 _
    simp
    refine fin (by rw [hw]; simp [turnW]) e3 (by omega) B2lt (by rw [hw]; exact he3) ?_
    intro h4 B4 hR
    simp
    exact resP_xn rfl B4 rfl hR
  by_cases c4 : outs ≤ k
  · have hw : withW ins outs cs i k c = turnW 1 5 := by simp [withW, c1, c2, c4]
    simp [c1, B1'.hc, c2, c3, c4]
    refine tfault_spec T.fault (by omega) ?_
    intro v h3 e3 he3 _
    simp
    refine fin (by rw [hw]; simp [turnW]) e3 (by omega) B2lt (by rw [hw]; exact he3) ?_
    intro h4 B4 hR
    simp
    exact resP_xn rfl B4 rfl hR
  simp [c1, B1'.hc, c2, c3, c4]
  refine weight_spec T.Weight ?_
  cases hwt : weightB c with
  | false =>
    have hw : withW ins outs cs i k c = turnW 2 8 := by simp [withW, c1, c2, c3, c4, hwt]
    simp
    refine tfault_spec T.fault (by omega) ?_
    intro v h3 e3 he3 _
    simp
    refine fin (by rw [hw]; simp [turnW]) e3 (by omega) B2lt (by rw [hw]; exact he3) ?_
    intro h4 B4 hR
    simp
    exact resP_xn rfl B4 rfl hR
  | true =>
    have hw : withW ins outs cs i k c = tabW ins outs cs := by simp [withW, c1, c2, c3, c4, hwt]
    simp [rd_blk B1']
    refine check_spec T (r.ext e12) ?_
    intro v h3 e3 he3
    have B13 := B1'.ext e3
    have B23 := B2.ext e3
    by_cases h0 : (tabW ins outs cs).2 = 0
    · obtain ⟨a1, a2, a3, a4, a5, a6, a7⟩ := tab_ok h0
      have := he3.here.nil h0
      subst this
      have r3 := r.ext (e12.trans e3)
      have hl := r.len
      obtain ⟨w1, w2, p0, p1⟩ := place_wrap (ins := ins) (outs := outs) (i := i) (k := k) (by omega) (by omega) (by omega) (by omega) a2 a4
      have m3 := (mul_wrap ⟨a1, a2⟩ ⟨a3, a4⟩).2
      simp [B13.hc]
      refine clone64_spec HC r3 (by omega) ?_
      intro h4 s' e4 o4 hs'
      have B14 := B13.ext e4
      have B24 := B23.ext e4
      have z3 := e3.size
      have z4 := e4.size
      have hs'' : ∀ {lo : Nat}, lo ≤ h3.size → (s'.nl = true ∨ lo ≤ s'.b) := fun hlo => hs'.imp id (fun h => Nat.le_trans hlo h)
      have hb3 : b < h3.size := by have := B13.lt; omega
      have hrb3 : rb < h3.size := by have := B23.lt; omega
      -- the clone has a block of its own: it is not empty
      have hnl : s'.nl = false := by
        obtain ⟨arr, _, _, hnl⟩ := o4.blk (i := (i * outs + k).toNat) (by rw [ints64_len]; omega)
        exact hnl
      have hsb : h3.size ≤ s'.b := hs'.resolve_left (by rw [hnl]; simp)
      have hbs : b ≠ s'.b := by omega
      have hrs : rb ≠ s'.b := by omega
      simp [StoreP.open, B14.hc, B14.hfz]
      -- the box holds the clone
      have B15 := B14.set (o := 2) (v := s'.v)
      have B25 := B24.set_ne (b' := b) (o := 2) (v := s'.v) hne
      have o5 := o4.mod (S := fun j => j = b) (Mod.set (b := b) (o := 2) (v := s'.v) rfl) (fun _ h => hbs h.symm)
      have x5 : Mod (fun j => j = b) h4 (hset h4 b 2 s'.v) := Mod.set rfl
      simp at B15
      generalize hset h4 b 2 s'.v = h5 at *
      have hpl : (i * outs + k).toNat < (ints64 cs).length := by rw [ints64_len]; omega
      have hpl2 : i * outs + k < s'.n := by have := o5.row64.len; omega
      obtain ⟨arr, A5, A5s, _⟩ := o5.blk hpl
      have hcell := o5.cell (ints64_get (l := cs) (i := (i * outs + k).toNat) (by omega))
      have o6 := o5.set (v := .int .i64 c) hpl
      rw [ints64_set] at o6
      have B16 := B15.set_ne (b' := s'.b) (o := s'.o + (i * outs + k).toNat) (v := .int .i64 c) hbs
      have B26 := B25.set_ne (b' := s'.b) (o := s'.o + (i * outs + k).toNat) (v := .int .i64 c) hrs
      have x6 : Mod (fun j => j = s'.b) h5 (hset h5 s'.b (s'.o + (i * outs + k).toNat) (.int .i64 c)) := Mod.set rfl
      simp [B15.hc, w1, w2, sem_idxa o5.ok, p0, hpl2, StoreP.open, hcell, A5.hfz]
      generalize hset h5 s'.b (s'.o + (i * outs + k).toNat) (.int .i64 c) = h6 at *
      simp [rd_blk B16]
      refine ef_store_box B26 rfl rfl (by simp) ?_
      intro h7 B7 m7
      have o7 := o6.mod m7 (fun _ h => hrs h.symm)
      simp
      refine resP_xn rfl B7 rfl ?_
      refine hr h7 _ ?_ ⟨ins, outs, s', _, .nilIface, rfl, ?_, fresh_row o7 (hs'' (by omega)), .inl ⟨by rw [hw]; exact h0, rfl, rfl, rfl⟩⟩
      · exact (((((e12.trans e3).trans e4).ext x5 (fun j hj => by omega)).ext x6 (fun j hj => by omega)).ext m7 (fun j hj => by omega))
      · rw [hw, a7]; exact FErr.ok
    · obtain ⟨t, u, hv⟩ := he3.here.iface h0
      subst hv
      simp
      refine fin (by rw [hw]; exact h0) e3 (by omega) B2lt (by rw [hw]; exact he3) ?_
      intro h4 B4 hR
      simp
      exact resP_xn rfl B4 rfl hR
end
end Go.Rm

/- Tables of turns: Free, Back. -/
set_option linter.unusedSimpArgs false
set_option linter.unusedVariables false
namespace Go.Rm
section
variable {Y : Sys} {h : Heap}

/-- what Free and Back hand back: a table of one's own, or none and why -/
def MadeR (Y : Sys) (lo : Nat) (h' : Heap) (w : Wr) (ins outs : Int) (cs : List Int) (v : Value) : Prop :=
  ∃ ins' outs' s' cs' u, v = .tuple #[tabV ins' outs' s', u] ∧ FErr Y lo h' w u ∧ Fresh lo (fun h => Own h 1 s' (ints64 cs')) h' ∧ (s'.nl = true ∨ lo ≤ s'.b) ∧
    ((w.2 = 0 ∧ ins' = ins ∧ outs' = outs ∧ cs' = cs ∧ s'.nl = false) ∨ (w.2 ≠ 0 ∧ ins' = 0 ∧ outs' = 0 ∧ s' = Sl.nil ∧ cs' = []))

theorem free_spec (HF : Y.Has F.turn_Free S_turn_Free) (T : TurnFns Y) {ins outs : Int} {R : Value → Heap → Prop}
    (hr : ∀ h' v, Ext h h' → MadeR Y h.size h' (sidesW ins outs) ins outs (zerosL (ins * outs).toNat) v → R v h') : CallP Y F.turn_Free [.int .i64 ins, .int .i64 outs] h R := by
  refine .of_has HF rfl ?_
  simp [S_turn_Free, FnS.wp]
  refine ef_new_box ?_
  intro rb h1 g1 B1 e1
  have B1lt := B1.lt
  simp
  refine sides_spec T.sides T.fault ?_
  intro v h2 e2 he
  have B2 := B1.ext e2
  have z1 := e1.size
  have z2 := e2.size
  by_cases h0 : (sidesW ins outs).2 = 0
  · obtain ⟨hs, a1, a2, a3, a4⟩ := sides_ok h0
    have := he.here.nil h0
    subst this
    obtain ⟨m1, m2, m3⟩ := mul_wrap ⟨a1, a2⟩ ⟨a3, a4⟩
    simp [m1, ef_mkslice, m2, zeros_one]
    refine ⟨by omega, by omega, fun t => ?_⟩
    have hN : ((ins * outs).toNat : Int) = ins * outs := Int.toNat_of_nonneg m2
    have o3 : Own (h2.push (.cells (Array.replicate (ins * outs).toNat (.int .i64 0)) t)) 1 (Sl.at h2.size (ins * outs).toNat (ins * outs).toNat) (ints64 (zerosL (ins * outs).toNat)) := own_zero (by omega)
    have e3 : Ext h2 (h2.push (.cells (Array.replicate (ins * outs).toNat (.int .i64 0)) t)) := Mod.push
    have B3 := B2.ext e3
    have hlt3 := o3.lt rfl
    simp at hlt3
    generalize h2.push (.cells (Array.replicate (ins * outs).toNat (.int .i64 0)) t) = h3 at *
    refine ef_store_box B3 rfl rfl (by simp) ?_
    intro h4 B4 m4
    simp
    refine resP_xn rfl B4 rfl ?_
    refine hr h4 _ ?_ ⟨ins, outs, Sl.at h2.size (ins * outs).toNat (ins * outs).toNat, _, .nilIface, rfl, by rw [hs]; exact FErr.ok, fresh_own (o3.mod m4 (fun _ h => by simp at h; omega)) (.inr (by simp; omega)), .inr (by simp; omega), .inl ⟨h0, rfl, rfl, rfl, rfl⟩⟩
    exact ((e1.trans e2).trans e3).ext m4 (fun j hj => by omega)
  · obtain ⟨t, u, hv⟩ := he.here.iface h0
    subst hv
    simp
    refine ef_store_box B2 rfl rfl (by simp) ?_
    intro h4 B4 m4
    simp
    refine resP_xn rfl B4 rfl ?_
    refine hr h4 _ ((e1.trans e2).ext m4 (fun j hj => by omega)) ⟨0, 0, Sl.nil, [], _, rfl, (he.step m4 (fun j hj => by omega)).mono z1, fun _ _ => Own.nil, .inl rfl, .inr ⟨h0, rfl, rfl, rfl, rfl⟩⟩

def BackLI (n : Nat) (s : Sl) (rb tb : Nat) (h0 : Heap) (e : List Value) (h' : Heap) : Prop :=
  ∃ (i : Nat) (v5 v6 v9 : Value), e = [.int .i64 n, .pointer (some ⟨rb, 0, none⟩), .nilIface, .pointer (some ⟨tb, 0, none⟩), .nilIface, v5, v6, .int .i64 n, .int .i64 i, v9] ∧ i ≤ n ∧
    Own h' 1 s (ints64 (backI n i)) ∧ Blk h' rb #[.int .i64 0, .int .i64 0, .slice none 0 0] ∧ Blk h' tb #[.int .i64 n, .int .i64 n, s.v] ∧ Ext h0 h'

theorem back_spec (HB : Y.Has F.turn_Back S_turn_Back) (HF : Y.Has F.turn_Free S_turn_Free) (T : TurnFns Y) {n : Int} {R : Value → Heap → Prop}
    (hr : ∀ h' v, Ext h h' → MadeR Y h.size h' (sidesW n n) n n (backL n.toNat) v → R v h') : CallP Y F.turn_Back [.int .i64 n] h R := by
  refine .of_has HB rfl ?_
  simp [S_turn_Back, FnS.wp]
  refine ef_new_box ?_
  intro rb h1 g1 B1 e1
  have B1lt := B1.lt
  simp
  refine free_spec HF T ?_
  rintro h2 v e2 ⟨ins', outs', s, cs', u, rfl, he, ho, hsb, hcase⟩
  have B2 := B1.ext e2
  have z1 := e1.size
  have z2 := e2.size
  simp
  refine ef_new_box ?_
  intro tb h3 g3 A3 e3
  have B3 := B2.ext e3
  have he3 := he.ext e3
  have ho3 := ho.ext e3
  simp
  refine ef_store_box (vs := #[.int .i64 ins', .int .i64 outs', s.v]) A3 rfl rfl (by simp) ?_
  intro h4 A4 m4
  have hne : rb ≠ tb := by omega
  have B4 := m4.blk B3 hne
  have z3 := e3.size
  have z4 := m4.size
  have e4 : Ext h h4 := ((e1.trans e2).trans e3).ext m4 (fun j hj => by omega)
  have A3lt := A3.lt
  have htb : h2.size ≤ tb := g3
  rcases hcase with ⟨h0, rfl, rfl, rfl, hnl⟩ | ⟨h0, rfl, rfl, rfl, rfl⟩
  · obtain ⟨hs, a1, a2, a3, a4⟩ := sides_ok h0
    have := he3.here.nil h0
    subst this
    have hsb : h1.size ≤ s.b := hsb.resolve_left (by rw [hnl]; simp)
    have hslt := ho.here.lt hnl
    obtain ⟨N, rfl⟩ : ∃ N : Nat, outs' = N := ⟨outs'.toNat, by omega⟩
    have hNN : ((N : Int) * N).toNat = N * N := by rw [← Int.natCast_mul, Int.toNat_natCast]
    rw [hNN] at ho3
    have o4 := ho3.here.mod m4 (fun _ h => by omega)
    have hN : N ≤ 16 := by omega
    clear ho ho3 he he3 A3 e1 e2 e3
    simp
    refine wp_loop' (BackLI N s rb tb h) (fun e _ => N - argI e 8) ⟨0, _, _, _, by rfl, by omega, by simpa [backI] using o4, B4, A4, e4⟩ ?_
    clear o4 A4 B4 e4 m4 B2 B3
    rintro e h5 ⟨i, v5, v6, v9, rfl, hi, o5, B5, A5, e5⟩
    by_cases hlt : i < N
    · have w1 : IntKind.i64.wrap ((i : Int) + 1) = (i : Int) + 1 := i64_wrap (by omega)
      obtain ⟨w2, w3, p0, p1⟩ := place_wrap (ins := (N : Int)) (outs := (N : Int)) (i := (i : Int)) (k := (i : Int)) (by omega) (by omega) (by omega) (by omega) (by omega) (by omega)
      have hidx : ((i : Int) * N + i).toNat = i * N + i := by rw [← Int.natCast_mul, ← Int.natCast_add, Int.toNat_natCast]
      have hpl : i * N + i < (ints64 (backI N i)).length := by
        rw [ints64_len, backI_len]
        have : i * N + i < N * N := by
          have : (i : Int) * N + i < N * N := p1
          exact_mod_cast this
        exact this
      have hpl2 : (i : Int) * N + i < s.n := by
        have := o5.row64.len
        rw [backI_len] at this
        rw [← this]
        have := p1
        push_cast
        exact this
      obtain ⟨arr, C5, C5s, _⟩ := o5.blk hpl
      have hcell := o5.cell (ints64_get (l := backI N i) (i := i * N + i) (by simpa using hpl))
      have o6 := o5.set (v := .int .i64 1152921504606846976) hpl
      rw [ints64_set, ← backI_succ] at o6
      have B6 := B5.set_ne (b' := s.b) (o := s.o + (i * N + i)) (v := .int .i64 1152921504606846976) (by omega)
      have A6 := A5.set_ne (b' := s.b) (o := s.o + (i * N + i)) (v := .int .i64 1152921504606846976) (by omega)
      have x6 : Mod (fun j => j = s.b) h5 (hset h5 s.b (s.o + (i * N + i)) (.int .i64 1152921504606846976)) := Mod.set rfl
      simp [hlt, A5.hc, w2, w3, sem_idxa o5.ok, p0, hpl2, hidx, StoreP.open, hcell, C5.hfz, w1]
      exact ⟨⟨i + 1, _, _, _, rfl, by omega, o6, B6, A6, e5.ext x6 (fun j hj => by omega)⟩, by simp [argI]; omega⟩
    · have : i = N := by omega
      subst this
      simp [rd_blk A5]
      refine ef_store_box B5 rfl rfl (by simp) ?_
      intro h7 B7 m7
      simp
      refine resP_xn rfl B7 rfl ?_
      refine hr h7 _ (e5.ext m7 (fun j hj => by omega)) ⟨i, i, s, _, .nilIface, rfl, by rw [hs]; exact FErr.ok, fresh_own (o5.mod m7 (fun _ h => by omega)) (.inr (by omega)), .inr (by omega), .inl ⟨h0, rfl, rfl, by simp [backI, backL], hnl⟩⟩
  · obtain ⟨t, u', hv⟩ := he3.here.iface h0
    subst hv
    simp
    refine ef_store_box B4 rfl rfl (by simp) ?_
    intro h7 B7 m7
    simp
    refine resP_xn rfl B7 rfl ?_
    have m24 : Mod (fun j => j < h1.size) h2 h4 := Mod.then (e3.mono fun _ _ h => h.elim) m4 (fun i hi hS => by omega)
    have he4 := he.step m24 (fun j h => h)
    refine hr h7 _ (e4.ext m7 (fun j hj => by omega)) ⟨0, 0, Sl.nil, [], _, rfl, ?_, fun _ _ => Own.nil, .inl rfl, .inr ⟨h0, rfl, rfl, rfl, rfl⟩⟩
    exact (he4.step m7 (fun j hj => by omega)).mono z1
end
end Go.Rm
