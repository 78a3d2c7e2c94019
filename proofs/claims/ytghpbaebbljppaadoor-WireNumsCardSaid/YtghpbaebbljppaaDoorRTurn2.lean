/- Tables of turns: what each function of package turn does (part two). -/
import Derived.Test.YtghpbaebbljppaaDoorRTurn
set_option linter.unusedSimpArgs false
set_option linter.unusedVariables false
namespace Go.Rm

def bans : List Int → Nat
  | [] => 0
  | c :: r => (if c = 1152921504606846976 then 1 else 0) + bans r
theorem bans_drop {l : List Int} {i : Nat} (hi : i < l.length) : bans (l.drop i) = (if nthI l i = 1152921504606846976 then 1 else 0) + bans (l.drop (i + 1)) := by
  rw [List.drop_eq_getElem_cons hi]
  simp only [bans, nthI, List.getD_eq_getElem?_getD, List.getElem?_eq_getElem hi, Option.getD_some]
theorem bans_le : ∀ {l : List Int}, bans l ≤ l.length := by
  intro l
  induction l with
  | nil => simp [bans]
  | cons c r ih => simp only [bans, List.length_cons]; split <;> omega

theorem nthI_ext {a b : List Int} (hl : a.length = b.length) (h : ∀ j, j < a.length → nthI a j = nthI b j) : a = b := by
  apply List.ext_getElem hl
  intro i h1 h2
  have := h i h1
  simpa [nthI, h1, h2] using this

def zerosL (n : Nat) : List Int := List.replicate n 0
def backL (n : Nat) : List Int := (List.range n).foldl (fun l i => l.set (i * n + i) 1152921504606846976) (zerosL (n * n))
def backI (n i : Nat) : List Int := (List.range i).foldl (fun l i => l.set (i * n + i) 1152921504606846976) (zerosL (n * n))
theorem backI_succ {n i : Nat} : backI n (i + 1) = (backI n i).set (i * n + i) 1152921504606846976 := by simp [backI, List.range_succ]
@[simp] theorem backI_len {n i : Nat} : (backI n i).length = n * n := by
  induction i with
  | zero => simp [backI, zerosL]
  | succ i ih => rw [backI_succ]; simp [ih]

section
variable {Y : Sys} {h : Heap}

def BansI (s : Sl) (cs : List Int) (tv : Value) (b : Nat) (h0 : Heap) (e : List Value) (h' : Heap) : Prop :=
  ∃ (i n : Nat) (v4 v8 v9 : Value), e = [tv, .pointer (some ⟨b, 0, none⟩), .int .i64 0, .int .i64 n, v4, s.v, .int .i64 s.n, .int .i64 i, v8, v9] ∧ i ≤ s.n ∧ n ≤ i ∧ bans cs = n + bans (cs.drop i) ∧ h' = h0

theorem bans_spec (T : TurnFns Y) {ins outs : Int} {s : Sl} {cs : List Int} (r : Row64 h s cs) (hbig : s.n ≤ 1000000) {R : Value → Heap → Prop} (hr : ∀ h', Ext h h' → R (.int .i64 (bans cs)) h') :
    CallP Y F.turn_Bans [tabV ins outs s] h R := by
  refine .of_has T.Bans rfl ?_
  simp [S_turn_Bans, FnS.wp, tabV]
  refine ef_new_box ?_
  intro b h1 g1 B1 e1
  simp [B1.hc]
  have r1 := r.ext e1
  have hl := r.len
  refine wp_loop' (BansI s cs (.agg #[.int .i64 ins, .int .i64 outs, s.v]) b h1) (fun e _ => s.n - argI e 7) ⟨0, 0, _, _, _, rfl, by omega, by omega, by simp, rfl⟩ ?_
  rintro e h' ⟨i, n, v4, v8, v9, rfl, hi, hn, hb, rfl⟩
  by_cases hlt : i < s.n
  · have hlt' : (i : Int) < s.n := by omega
    have w1 : IntKind.i64.wrap ((i : Int) + 1) = (i : Int) + 1 := i64_wrap (by omega)
    have w2 : IntKind.i64.wrap ((n : Int) + 1) = (n : Int) + 1 := i64_wrap (by omega)
    rw [bans_drop (by omega)] at hb
    by_cases hc : nthI cs i = 1152921504606846976
    · rw [if_pos hc] at hb
      simp [hlt', sem_idxa r1.ok, r1.at hlt, hc, w1, w2]
      exact ⟨⟨i + 1, n + 1, _, _, _, rfl, by omega, by omega, by omega, rfl⟩, by simp [argI]; omega⟩
    · rw [if_neg hc] at hb
      simp [hlt', sem_idxa r1.ok, r1.at hlt, hc, w1, w2]
      exact ⟨⟨i + 1, n, _, _, _, rfl, by omega, by omega, by omega, rfl⟩, by simp [argI]; omega⟩
  · have hlt' : ¬ (i : Int) < s.n := by omega
    rw [List.drop_eq_nil_of_le (by omega)] at hb
    simp only [bans, Nat.add_zero] at hb
    simp [hlt']
    rw [← hb]
    exact hr _ e1

def EqI (s t : Sl) (a b : List Int) (h0 : Heap) (e : List Value) (h' : Heap) : Prop :=
  ∃ (i : Nat) (v3 v4 v7 v8 : Value), e = [s.v, t.v, .bool false, v3, v4, .int .i64 s.n, .int .i64 i, v7, v8] ∧ i ≤ s.n ∧ (∀ j, j < i → nthI a j = nthI b j) ∧ h' = h0

theorem equal64_spec (HE : Y.Has F.slices_Equal_int64_int64 S_slices_Equal_int64_int64) {s t : Sl} {a b : List Int} (ra : Row64 h s a) (rb : Row64 h t b) (hbig : s.n ≤ 1000000) {R : Value → Heap → Prop} (hr : R (.bool (decide (a = b))) h) :
    CallP Y F.slices_Equal_int64_int64 [s.v, t.v] h R := by
  refine .of_has HE rfl ?_
  have la := ra.len
  have lb := rb.len
  by_cases hn : s.n = t.n
  · have hn' : (s.n : Int) = t.n := by omega
    simp [S_slices_Equal_int64_int64, FnS.wp, hn]
    refine wp_loop' (EqI s t a b h) (fun e _ => s.n - argI e 6) ⟨0, _, _, _, _, by rw [hn]; rfl, by omega, fun j hj => by omega, rfl⟩ ?_
    rintro e h' ⟨i, v3, v4, v7, v8, rfl, hi, hall, rfl⟩
    by_cases hlt : i < s.n
    · have hlt' : (i : Int) < s.n := by omega
      have hlt2 : (i : Int) < t.n := by omega
      have w1 : IntKind.i64.wrap ((i : Int) + 1) = (i : Int) + 1 := i64_wrap (by omega)
      by_cases hc : nthI a i = nthI b i
      · simp [hlt', hlt2, sem_idxa ra.ok, sem_idxa rb.ok, ra.at hlt, rb.at (i := i) (by omega), hc, w1]
        refine ⟨⟨i + 1, _, _, _, _, rfl, by omega, fun j hj => ?_, rfl⟩, by simp [argI]; omega⟩
        rcases Nat.lt_succ_iff_lt_or_eq.1 hj with g | rfl
        · exact hall j g
        · exact hc
      · have : decide (a = b) = false := by
          rw [decide_eq_false_iff_not]
          intro e; exact hc (by rw [e])
        rw [this] at hr
        simp [hlt', hlt2, sem_idxa ra.ok, sem_idxa rb.ok, ra.at hlt, rb.at (i := i) (by omega), hc, w1, hr]
    · have hlt' : ¬ (i : Int) < s.n := by omega
      have : decide (a = b) = true := by
        rw [decide_eq_true_iff]
        exact nthI_ext (by omega) fun j hj => hall j (by omega)
      rw [this] at hr
      simp [hlt', hr]
  · have : decide (a = b) = false := by
      rw [decide_eq_false_iff_not]
      intro e; rw [e] at la; omega
    rw [this] at hr
    have hn' : ¬ (s.n : Int) = t.n := by omega
    simp [S_slices_Equal_int64_int64, FnS.wp, hn', hr]

theorem same_spec' (T : TurnFns Y) {ins outs ins' outs' : Int} {s t : Sl} {a b : List Int} (ra : Row64 h s a) (rb : Row64 h t b) (hbig : s.n ≤ 1000000)
    {R : Value → Heap → Prop} (hr : ∀ h', Ext h h' → R (.bool (decide (ins = ins' ∧ outs = outs' ∧ a = b))) h') : CallP Y F.turn_Same [tabV ins outs s, tabV ins' outs' t] h R := by
  refine .of_has T.Same rfl ?_
  simp [S_turn_Same, FnS.wp, tabV]
  refine ef_new_box ?_
  intro b1 h1 g1 B1 e1
  simp
  refine ef_new_box ?_
  intro b2 h2 g2 B2 e2
  have B1' := B1.ext e2
  have e12 := e1.trans e2
  by_cases c1 : ins = ins'
  · by_cases c2 : outs = outs'
    · simp [B1'.hc, B2.hc, c1, c2]
      refine equal64_spec T.Equal (ra.ext e12) (rb.ext e12) hbig ?_
      have : decide (ins = ins' ∧ outs = outs' ∧ a = b) = decide (a = b) := by simp [c1, c2]
      rw [this] at hr
      simp
      exact hr _ e12
    · have : decide (ins = ins' ∧ outs = outs' ∧ a = b) = false := by simp [c2]
      rw [this] at hr
      simp [B1'.hc, B2.hc, c1, c2]
      exact hr _ e12
  · have : decide (ins = ins' ∧ outs = outs' ∧ a = b) = false := by simp [c1]
    rw [this] at hr
    simp [B1'.hc, B2.hc, c1]
    exact hr _ e12

theorem clone64_spec (HC : Y.Has F.slices_Clone_int64_int64 S_slices_Clone_int64_int64) {s : Sl} {cs : List Int} (r : Row64 h s cs) (hbig : s.n ≤ 17592186044416) {R : Value → Heap → Prop}
    (hr : ∀ h' s', Ext h h' → Own h' 1 s' (ints64 cs) → (s'.nl = true ∨ h.size ≤ s'.b) → R s'.v h') : CallP Y F.slices_Clone_int64_int64 [s.v] h R := by
  refine .of_has HC rfl ?_
  cases hnl : s.nl with
  | true =>
    have : cs = [] := List.eq_nil_of_length_eq_zero (by rw [r.len]; exact (r.ok.nil hnl).1)
    subst this
    simp [S_slices_Clone_int64_int64, FnS.wp, hnl]
    exact hr h Sl.nil (Mod.refl h) Own.nil (.inl rfl)
  | false =>
    simp [S_slices_Clone_int64_int64, FnS.wp, hnl, ef_bslice0]
    intro t
    have e1 : Ext h (h.push (.cells #[] t)) := Mod.push
    refine ef_clone64 (r.ext e1) hbig own_empty (.inr (Nat.le_refl _)) e1 ?_
    intro s' h' o hb he
    simp
    exact hr h' s' he o hb

def withW (ins outs : Int) (cs : List Int) (i k c : Int) : Wr :=
  if i < 0 ∨ ins ≤ i then turnW 0 5 else if k < 0 ∨ outs ≤ k then turnW 1 5 else if weightB c = false then turnW 2 8 else tabW ins outs cs

theorem tab_ok {ins outs : Int} {cs : List Int} (h0 : (tabW ins outs cs).2 = 0) : 0 ≤ ins ∧ ins ≤ 16 ∧ 0 ≤ outs ∧ outs ≤ 16 ∧ (cs.length : Int) = ins * outs ∧ badFrom 0 cs = none ∧ tabW ins outs cs = wOK := by
  unfold tabW at h0 ⊢
  split at h0
  · rename_i h1; exact absurd h0 h1
  · rename_i h1
    have h1 : (sidesW ins outs).2 = 0 := by simpa using h1
    obtain ⟨_, a1, a2, a3, a4⟩ := sides_ok h1
    split at h0
    · simp [turnW] at h0
    · rename_i h2
      have h2 : (cs.length : Int) = ins * outs := by simpa using h2
      refine ⟨a1, a2, a3, a4, h2, ?_⟩
      split at h0
      · simp [turnW] at h0
      · rename_i h3
        exact ⟨h3, by simp [h1, h2, h3]⟩

/-- what With hands back -/
def WithR (Y : Sys) (lo : Nat) (h' : Heap) (ins outs : Int) (cs : List Int) (i k c : Int) (v : Value) : Prop :=
  ∃ ins' outs' s' cs' u, v = .tuple #[tabV ins' outs' s', u] ∧ FErr Y lo h' (withW ins outs cs i k c) u ∧ Fresh lo (fun h => Row64 h s' cs') h' ∧
    (((withW ins outs cs i k c).2 = 0 ∧ ins' = ins ∧ outs' = outs ∧ cs' = cs.set (i * outs + k).toNat c) ∨ ((withW ins outs cs i k c).2 ≠ 0 ∧ ins' = 0 ∧ outs' = 0 ∧ s' = Sl.nil ∧ cs' = []))

theorem Row64.nil : Row64 h Sl.nil [] := ⟨Sl.nil_ok, rfl, fun i hi => by simp at hi⟩

theorem fresh_own {lo : Nat} {s : Sl} {cs : List Int} {h' : Heap} (o : Own h' 1 s (ints64 cs)) (hs : s.nl = true ∨ lo ≤ s.b) : Fresh lo (fun h => Own h 1 s (ints64 cs)) h' := fun h'' m => o.mod m (fun hn => by
  rcases hs with hs | hs
  · rw [hn] at hs; cases hs
  · omega)
theorem fresh_row {lo : Nat} {s : Sl} {cs : List Int} {h' : Heap} (o : Own h' 1 s (ints64 cs)) (hs : s.nl = true ∨ lo ≤ s.b) : Fresh lo (fun h => Row64 h s cs) h' := fun h'' m => (fresh_own o hs h'' m).row64

theorem with_spec (HW : Y.Has F.turn_With S_turn_With) (T : TurnFns Y) {ins outs i k c : Int} {s : Sl} {cs : List Int} (r : Row64 h s cs) {R : Value → Heap → Prop}
    (hr : ∀ h' v, Ext h h' → WithR Y h.size h' ins outs cs i k c v → R v h') : CallP Y F.turn_With [tabV ins outs s, .int .i64 i, .int .i64 k, .int .i64 c] h R := by
  refine .of_has HW rfl ?_
  simp [S_turn_With, FnS.wp, tabV]
  refine ef_new_box ?_
  intro b h1 g1 B1 e1
  simp
  refine ef_new_box ?_
  intro rb h2 g2 B2 e2
  have B1' := B1.ext e2
  have e12 := e1.trans e2
  have hne : rb ≠ b := by have := B1.lt; omega
  have z1 := e1.size
  have z2 := e2.size
  -- refused: the empty table, and why
  have fin : ∀ {h3 : Heap} {v : Value} {lo : Nat} {K : Value → Heap → Prop}, (withW ins outs cs i k c).2 ≠ 0 → Ext h2 h3 → h.size ≤ lo → rb < lo → FErr Y lo h3 (withW ins outs cs i k c) v →
      (∀ h4, Blk h4 rb #[.int .i64 0, .int .i64 0, .slice none 0 0] → R (.tuple #[.agg #[.int .i64 0, .int .i64 0, .slice none 0 0], v]) h4 → K undef h4) →
      Ef.wp h3 K (.store 3) [.pointer (some ⟨rb, 0, none⟩), .agg #[.int .i64 0, .int .i64 0, .slice none 0 0]] := by
    intro h3 v lo K hw e3 hlo hrb he3 hk
    refine ef_store_box (B2.ext e3) rfl rfl (by simp) ?_
    intro h4 B4 m4
    refine hk h4 B4 (hr h4 _ (Mod.ext (e12.trans e3) m4 (fun j hj => by omega)) ⟨0, 0, Sl.nil, [], v, rfl, (he3.step m4 (fun j hj => by omega)).mono hlo, fun _ _ => Row64.nil, .inr ⟨hw, rfl, rfl, rfl, rfl⟩⟩)
  have B2lt := B2.lt
  by_cases c1 : i < 0
  · have hw : withW ins outs cs i k c = turnW 0 5 := by simp [withW, c1]
    simp [c1]
    refine tfault_spec T.fault (by omega) ?_
    intro v h3 e3 he3 _
    simp
    refine fin (by rw [hw]; simp [turnW]) e3 (by omega) B2lt (by rw [hw]; exact he3) ?_
    intro h4 B4 hR
    simp
    exact resP_xn rfl B4 rfl hR
  by_cases c2 : ins ≤ i
  · have hw : withW ins outs cs i k c = turnW 0 5 := by simp [withW, c2]
    simp [c1, B1'.hc, c2]
    refine tfault_spec T.fault (by omega) ?_
    intro v h3 e3 he3 _
    simp
    refine fin (by rw [hw]; simp [turnW]) e3 (by omega) B2lt (by rw [hw]; exact he3) ?_
    intro h4 B4 hR
    simp
    exact resP_xn rfl B4 rfl hR
  by_cases c3 : k < 0
  · have hw : withW ins outs cs i k c = turnW 1 5 := by simp [withW, c1, c2, c3]
    simp [c1, B1'.hc, c2, c3]
    refine tfault_spec T.fault (by omega) ?_
    intro v h3 e3 he3 _
    simp
    refine fin (by rw [hw]; simp [turnW]) e3 (by omega) B2lt (by rw [hw]; exact he3) ?_
    intro h4 B4 hR
    simp
    exact resP_xn rfl B4 rfl hR
  by_cases c4 : outs ≤ k
  · have hw : withW ins outs cs i k c = turnW 1 5 := by simp [withW, c1, c2, c4]
    simp [c1, B1'.hc, c2, c3, c4]
    refine tfault_spec T.fault (by omega) ?_
    intro v h3 e3 he3 _
    simp
    refine fin (by rw [hw]; simp [turnW]) e3 (by omega) B2lt (by rw [hw]; exact he3) ?_
    intro h4 B4 hR
    simp
    exact resP_xn rfl B4 rfl hR
  simp [c1, B1'.hc, c2, c3, c4]
  refine weight_spec T.Weight ?_
  cases hwt : weightB c with
  | false =>
    have hw : withW ins outs cs i k c = turnW 2 8 := by simp [withW, c1, c2, c3, c4, hwt]
    simp
    refine tfault_spec T.fault (by omega) ?_
    intro v h3 e3 he3 _
    simp
    refine fin (by rw [hw]; simp [turnW]) e3 (by omega) B2lt (by rw [hw]; exact he3) ?_
    intro h4 B4 hR
    simp
    exact resP_xn rfl B4 rfl hR
  | true =>
    have hw : withW ins outs cs i k c = tabW ins outs cs := by simp [withW, c1, c2, c3, c4, hwt]
    simp [rd_blk B1']
    refine check_spec T (r.ext e12) ?_
    intro v h3 e3 he3
    have B13 := B1'.ext e3
    have B23 := B2.ext e3
    by_cases h0 : (tabW ins outs cs).2 = 0
    · obtain ⟨a1, a2, a3, a4, a5, a6, a7⟩ := tab_ok h0
      have := he3.here.nil h0
      subst this
      have r3 := r.ext (e12.trans e3)
      have hl := r.len
      obtain ⟨w1, w2, p0, p1⟩ := place_wrap (ins := ins) (outs := outs) (i := i) (k := k) (by omega) (by omega) (by omega) (by omega) a2 a4
      have m3 := (mul_wrap ⟨a1, a2⟩ ⟨a3, a4⟩).2
      simp [B13.hc]
      refine clone64_spec T.Clone r3 (by omega) ?_
      intro h4 s' e4 o4 hs'
      have B14 := B13.ext e4
      have B24 := B23.ext e4
      have z3 := e3.size
      have z4 := e4.size
      have hs'' : ∀ {lo : Nat}, lo ≤ h3.size → (s'.nl = true ∨ lo ≤ s'.b) := fun hlo => hs'.imp id (fun h => Nat.le_trans hlo h)
      have hb3 : b < h3.size := by have := B13.lt; omega
      have hrb3 : rb < h3.size := by have := B23.lt; omega
      -- the clone has a block of its own: it is not empty
      have hnl : s'.nl = false := by
        obtain ⟨arr, _, _, hnl⟩ := o4.blk (i := (i * outs + k).toNat) (by rw [ints64_len]; omega)
        exact hnl
      have hsb : h3.size ≤ s'.b := hs'.resolve_left (by rw [hnl]; simp)
      have hbs : b ≠ s'.b := by omega
      have hrs : rb ≠ s'.b := by omega
      simp [StoreP.open, B14.hc, B14.hfz]
      -- the box holds the clone
      have B15 := B14.set (o := 2) (v := s'.v)
      have B25 := B24.set_ne (b' := b) (o := 2) (v := s'.v) hne
      have o5 := o4.mod (S := fun j => j = b) (Mod.set (b := b) (o := 2) (v := s'.v) rfl) (fun _ h => hbs h.symm)
      have x5 : Mod (fun j => j = b) h4 (hset h4 b 2 s'.v) := Mod.set rfl
      simp at B15
      generalize hset h4 b 2 s'.v = h5 at *
      have hpl : (i * outs + k).toNat < (ints64 cs).length := by rw [ints64_len]; omega
      have hpl2 : i * outs + k < s'.n := by have := o5.row64.len; omega
      obtain ⟨arr, A5, A5s, _⟩ := o5.blk hpl
      have hcell := o5.cell (ints64_get (l := cs) (i := (i * outs + k).toNat) (by omega))
      have o6 := o5.set (v := .int .i64 c) hpl
      rw [ints64_set] at o6
      have B16 := B15.set_ne (b' := s'.b) (o := s'.o + (i * outs + k).toNat) (v := .int .i64 c) hbs
      have B26 := B25.set_ne (b' := s'.b) (o := s'.o + (i * outs + k).toNat) (v := .int .i64 c) hrs
      have x6 : Mod (fun j => j = s'.b) h5 (hset h5 s'.b (s'.o + (i * outs + k).toNat) (.int .i64 c)) := Mod.set rfl
      simp [B15.hc, w1, w2, sem_idxa o5.ok, p0, hpl2, StoreP.open, hcell, A5.hfz]
      generalize hset h5 s'.b (s'.o + (i * outs + k).toNat) (.int .i64 c) = h6 at *
      simp [rd_blk B16]
      refine ef_store_box B26 rfl rfl (by simp) ?_
      intro h7 B7 m7
      have o7 := o6.mod m7 (fun _ h => hrs h.symm)
      simp
      refine resP_xn rfl B7 rfl ?_
      refine hr h7 _ ?_ ⟨ins, outs, s', _, .nilIface, rfl, ?_, fresh_row o7 (hs'' (by omega)), .inl ⟨by rw [hw]; exact h0, rfl, rfl, rfl⟩⟩
      · exact (((((e12.trans e3).trans e4).ext x5 (fun j hj => by omega)).ext x6 (fun j hj => by omega)).ext m7 (fun j hj => by omega))
      · rw [hw, a7]; exact FErr.ok
    · obtain ⟨t, u, hv⟩ := he3.here.iface h0
      subst hv
      simp
      refine fin (by rw [hw]; exact h0) e3 (by omega) B2lt (by rw [hw]; exact he3) ?_
      intro h4 B4 hR
      simp
      exact resP_xn rfl B4 rfl hR
end
end Go.Rm
