import Derived.Test.YtegflpgpkbffkaaRGraph6
import Derived.Test.YtegflpgpkbffkaaRGraph7
import Derived.Test.YtegflpgpkbffkaaRNet10
import Derived.Test.YtegflpgpkbffkaaRWalk5
import Derived.Test.YtegflpgpkbffkaaSNums

/- The laws of walks: what is known of the ring. -/
set_option linter.unusedSimpArgs false
set_option linter.unusedVariables false
namespace Go.Rm
theorem cert_le {I : Nat → Int → Prop} {E : Nat → Nat → Int → Prop} (e : Nat → Int) (hI : ∀ b c, I b c → e b ≤ c) (hE : ∀ a b w, E a b w → e b ≤ e a + w) : ∀ b c, WalkS I E b c → e b ≤ c := by
  intro b c w
  induction w with
  | init h => exact hI _ _ h
  | step _ h ih => have := hE _ _ _ h; omega
def ringT (a b : Nat) : Int := match a, b with
  | 0, 1 => 1
  | 0, 3 => 5
  | 1, 2 => 2
  | 2, 0 => 0
  | _, _ => 1152921504606846976
theorem ring_turn : ∀ a b : Fin 4, turnV ringN (a.val : Int) (b.val : Int) = ringT a.val b.val := by decide
def ringW (a : Nat) : Int := match a with
  | 0 => 10
  | 1 => 20
  | 2 => 30
  | 3 => 40
  | _ => 1152921504606846976
theorem ring_weight : ∀ a : Fin 4, weightV ringN (a.val : Int) = ringW a.val := by decide
theorem ring_ed {a b : Nat} {w : Int} (h : EdW ringN a b w) : (a = 0 ∧ b = 1 ∧ w = 21) ∨ (a = 0 ∧ b = 3 ∧ w = 45) ∨ (a = 1 ∧ b = 2 ∧ w = 32) ∨ (a = 2 ∧ b = 0 ∧ w = 10) := by
  obtain ⟨h1, h2, h3⟩ := h
  obtain ⟨q1, q2, _⟩ := turn_adj h1
  have la : a < 4 := by simp [vtxB] at q1; exact q1
  have lb : b < 4 := by simp [vtxB] at q2; exact q2
  have t := ring_turn ⟨a, la⟩ ⟨b, lb⟩
  have u := ring_weight ⟨b, lb⟩
  simp only at t u
  rw [t] at h1 h3
  rw [u] at h3
  have ha : a = 0 ∨ a = 1 ∨ a = 2 ∨ a = 3 := by omega
  have hb : b = 0 ∨ b = 1 ∨ b = 2 ∨ b = 3 := by omega
  rcases ha with rfl | rfl | rfl | rfl <;> rcases hb with rfl | rfl | rfl | rfl <;> simp [ringT, ringW] at h1 h3 ⊢ <;> exact h3
theorem ring_e {a b : Nat} {w : Int} (h : (a = 0 ∧ b = 1 ∧ w = 21) ∨ (a = 0 ∧ b = 3 ∧ w = 45) ∨ (a = 1 ∧ b = 2 ∧ w = 32) ∨ (a = 2 ∧ b = 0 ∧ w = 10)) : EdW ringN a b w := by
  rcases h with ⟨rfl, rfl, rfl⟩ | ⟨rfl, rfl, rfl⟩ | ⟨rfl, rfl, rfl⟩ | ⟨rfl, rfl, rfl⟩ <;> exact ⟨by decide, by decide, by decide⟩
def ringD (b : Nat) : Int := match b with
  | 0 => 0
  | 1 => 21
  | 2 => 53
  | _ => 45
theorem ring_from0 {b : Nat} (hb : b < 4) : LeastS (FromI ringN 0) (EdW ringN) b (ringD b) := by
  have low := cert_le (I := FromI ringN 0) (E := EdW ringN) ringD (fun b c h => by obtain ⟨h1, h2, _⟩ := h; have : b = 0 := (by omega); subst this; simp [ringD]; omega) (fun a b w h => by
    rcases ring_ed h with ⟨rfl, rfl, rfl⟩ | ⟨rfl, rfl, rfl⟩ | ⟨rfl, rfl, rfl⟩ | ⟨rfl, rfl, rfl⟩ <;> simp [ringD])
  have w0 : WalkS (FromI ringN 0) (EdW ringN) 0 0 := .init ⟨rfl, rfl, by decide⟩
  have w1 := WalkS.step w0 (ring_e (.inl ⟨rfl, rfl, rfl⟩))
  have w3 := WalkS.step w0 (ring_e (.inr (.inl ⟨rfl, rfl, rfl⟩)))
  have w2 := WalkS.step w1 (ring_e (.inr (.inr (.inl ⟨rfl, rfl, rfl⟩))))
  have hb' : b = 0 ∨ b = 1 ∨ b = 2 ∨ b = 3 := by omega
  refine ⟨?_, low b, .inr ?_⟩
  · rcases hb' with rfl | rfl | rfl | rfl <;> decide
  · rcases hb' with rfl | rfl | rfl | rfl
    · exact w0
    · exact w1
    · exact w2
    · exact w3
def ring3 (b : Nat) : Int := if b = 3 then 0 else 1152921504606846976
theorem ring_from3 {b : Nat} (hb : b < 4) : LeastS (FromI ringN 3) (EdW ringN) b (ring3 b) := by
  have low := cert_le (I := FromI ringN 3) (E := EdW ringN) ring3 (fun b c h => by obtain ⟨h1, h2, _⟩ := h; have : b = 3 := (by omega); subst this; simp [ring3]; omega) (fun a b w h => by
    rcases ring_ed h with ⟨rfl, rfl, rfl⟩ | ⟨rfl, rfl, rfl⟩ | ⟨rfl, rfl, rfl⟩ | ⟨rfl, rfl, rfl⟩ <;> simp [ring3])
  refine ⟨by unfold ring3; split <;> decide, low b, ?_⟩
  by_cases e : b = 3
  · subst e
    exact .inr (.init ⟨rfl, rfl, by decide⟩)
  · exact .inl (by simp [ring3, e])
theorem ring_to2 {d : Int} (h : LeastS (FromI ringN 2) (EdR ringN) 0 d) : d = 53 := by
  let e : Nat → Int := fun b => match b with
    | 0 => 53
    | 1 => 32
    | 2 => 0
    | _ => 1152921504606846976
  have low := cert_le (I := FromI ringN 2) (E := EdR ringN) e (fun b c h => by obtain ⟨h1, h2, _⟩ := h; have : b = 2 := (by omega); subst this; simp [e]; omega) (fun a b w h => by
    rcases ring_ed h.1 with ⟨rfl, rfl, rfl⟩ | ⟨rfl, rfl, rfl⟩ | ⟨rfl, rfl, rfl⟩ | ⟨rfl, rfl, rfl⟩ <;> simp [e])
  have w2 : WalkS (FromI ringN 2) (EdR ringN) 2 0 := .init ⟨rfl, rfl, by decide⟩
  have w1 := WalkS.step w2 (⟨ring_e (.inr (.inr (.inl ⟨rfl, rfl, rfl⟩))), by decide⟩ : EdR ringN 2 1 32)
  have w0 := WalkS.step w1 (⟨ring_e (.inl ⟨rfl, rfl, rfl⟩), by decide⟩ : EdR ringN 1 0 21)
  have : LeastS (FromI ringN 2) (EdR ringN) 0 53 := ⟨by decide, low 0, .inr w0⟩
  exact h.uniq this
theorem ring_in {d : Int} (h : InsideP ringN [true, true, true] 0 2 d) : d = 23 := by
  have low := cert_le (I := EdI ringN [true, true, true] 0) (E := EdI ringN [true, true, true]) ringD (fun b c h => by
    rcases ring_ed h.1 with ⟨q, rfl, rfl⟩ | ⟨q, rfl, rfl⟩ | ⟨q, rfl, rfl⟩ | ⟨q, rfl, rfl⟩ <;> simp [ringD] <;> omega) (fun a b w h => by
    rcases ring_ed h.1 with ⟨rfl, rfl, rfl⟩ | ⟨rfl, rfl, rfl⟩ | ⟨rfl, rfl, rfl⟩ | ⟨rfl, rfl, rfl⟩ <;> simp [ringD])
  refine h.uniq ⟨by decide, fun x hx => ?_, .inr ⟨1, 21, .inr (.init ⟨ring_e (.inl ⟨rfl, rfl, rfl⟩), by decide, by decide⟩), by decide, by decide⟩⟩
  obtain ⟨a, c, h1, h2, rfl⟩ := hx
  obtain ⟨q1, _⟩ := turn_adj h2
  have la : a < 4 := by simp [vtxB] at q1; exact q1
  have t := ring_turn ⟨a, la⟩ ⟨2, by omega⟩
  simp only at t
  have t' : turnV ringN a 2 = ringT a 2 := t
  have h2' : ringT a 2 ≠ 1152921504606846976 := by rw [← t']; exact h2
  have ha : a = 1 := by
    have ha : a = 0 ∨ a = 1 ∨ a = 2 ∨ a = 3 := by omega
    rcases ha with rfl | rfl | rfl | rfl <;> simp [ringT] at h2' ⊢
  subst ha
  rcases h1 with ⟨h1, _⟩ | h1
  · cases h1
  · have := low _ _ h1
    have t2 : turnV ringN (1 : Nat) (2 : Nat) = 2 := by decide
    rw [t2]
    simp [ringD] at this
    omega
theorem ring_out {d : Int} (h : InsideP ringN [true, true] 0 2 d) : d = 1152921504606846976 := by
  have key : ∀ a c, WalkS (EdI ringN [true, true] 0) (EdI ringN [true, true]) a c → a = 3 := by
    intro a c w
    induction w with
    | init h =>
      rcases ring_ed h.1 with ⟨q, rfl, rfl⟩ | ⟨q, rfl, rfl⟩ | ⟨q, rfl, rfl⟩ | ⟨q, rfl, rfl⟩
      · exact absurd h.2.2 (by decide)
      · rfl
      · cases q
      · cases q
    | step _ h ih =>
      subst ih
      rcases ring_ed h.1 with ⟨q, rfl, rfl⟩ | ⟨q, rfl, rfl⟩ | ⟨q, rfl, rfl⟩ | ⟨q, rfl, rfl⟩ <;> cases q
  refine h.uniq ⟨by decide, fun x hx => ?_, .inl rfl⟩
  obtain ⟨a, c, h1, h2, rfl⟩ := hx
  exfalso
  rcases h1 with ⟨rfl, _⟩ | h1
  · exact h2 (by decide)
  · have := key _ _ h1
    subst this
    exact h2 (by decide)
theorem ring_path {L : List Int} {l : List Nat} (hL : ∀ b, b < 4 → nthI L b = ringD b) (c : ChainW ringN 0 L l 2) : l = [0, 1, 2] := by
  have l0 := hL 0 (by omega)
  have l1 := hL 1 (by omega)
  have l2 := hL 2 (by omega)
  have l3 := hL 3 (by omega)
  simp [ringD] at l0 l1 l2 l3
  cases c with
  | one h => omega
  | more c e h =>
    rename_i l a w
    rcases ring_ed e with ⟨q, q', _⟩ | ⟨q, q', _⟩ | ⟨rfl, q', _⟩ | ⟨q, q', _⟩ <;> try omega
    cases c with
    | one h => omega
    | more c e h =>
      rename_i l a w
      rcases ring_ed e with ⟨rfl, q', _⟩ | ⟨q, q', _⟩ | ⟨q, q', _⟩ | ⟨q, q', _⟩ <;> try omega
      cases c with
      | one h => rfl
      | more c e h =>
        rename_i l a w
        rcases ring_ed e with ⟨q, q', _⟩ | ⟨q, q', _⟩ | ⟨q, q', _⟩ | ⟨rfl, q', rfl⟩ <;> omega
end Go.Rm

/- The laws of walks: graphs that are made; known. -/
set_option linter.unusedSimpArgs false
set_option linter.unusedVariables false
namespace Go.Rm
structure WalkK (Y : Sys) : Prop where
  X : WalkFn2 Y
  I : InFns Y
  G : GrNew Y
  To : NetTo Y
  Ring : Y.Has F.rlaw6_Ring S_rlaw6_Ring
  SC : Y.Has F.rref6_SameCosts S_rref6_SameCosts
  SI : Y.Has F.rref6_SameInts S_rref6_SameInts
  made : Y.Has F.rlaw8_Made S_rlaw8_Made
  known : Y.Has F.rlaw8_known S_rlaw8_known
section
variable {Y : Sys} {h h' : Heap}
def ScI (s t : Sl) (a b : List Int) (h0 : Heap) (e : List Value) (h' : Heap) : Prop :=
  ∃ (i : Nat) (v2 v4 v5 v6 : Value), e = [s.v, t.v, v2, .int .i64 i, v4, v5, v6] ∧ i ≤ a.length ∧ h' = h0 ∧ ∀ j, j < i → nthI a j = nthI b j
theorem samecosts_spec (H : Y.Has F.rref6_SameCosts S_rref6_SameCosts) {s t : Sl} {a b : List Int} (ra : Row64 h s a) (rb : Row64 h t b) (hbig : a.length ≤ 1000000) {R : Value → Heap → Prop} (hr : R (.bool (decide (a = b))) h) :
    CallP Y F.rref6_SameCosts [s.v, t.v] h R := by
  have la := ra.len
  have lb := rb.len
  refine .of_has H rfl ?_
  simp [S_rref6_SameCosts, FnS.wp]
  by_cases c0 : s.n = t.n
  rotate_left
  · have : ¬ a = b := fun e => c0 (by rw [← la, ← lb, e])
    simp [this] at hr
    have c0' : ¬ (s.n : Int) = t.n := by omega
    simp [c0, c0']
    exact hr
  simp [c0]
  refine wp_loop' (ScI s t a b h) (fun e _ => a.length - argI e 3) ⟨0, _, _, _, _, rfl, by omega, rfl, fun j hj => by omega⟩ ?_
  rintro e h2 ⟨i, v2, v4, v5, v6, rfl, hi, rfl, hall⟩
  by_cases c : i < a.length
  · have c1 : (i : Int) < s.n := by omega
    have c2 : i < s.n := by omega
    have c3 : (i : Int) < t.n := by omega
    have c4 : i < t.n := by omega
    have w1 : IntKind.i64.wrap ((i : Int) + 1) = (i : Int) + 1 := i64_wrap (by omega)
    have k1 := ra.val i c
    have k2 := rb.val i (by omega)
    simp [c1, c2, c3, c4, sem_idxa ra.ok, sem_idxa rb.ok, k1, k2]
    by_cases e : nthI a i = nthI b i
    · simp [e, w1]
      refine ⟨⟨i + 1, _, _, _, _, rfl, by omega, rfl, fun j hj => by by_cases q : j = i; (subst q; exact e); exact hall j (by omega)⟩, by simp [argI]; omega⟩
    · have : ¬ a = b := fun q => e (by rw [q])
      simp [this] at hr
      simp [e]
      exact hr
  · have c1 : ¬ (i : Int) < s.n := by omega
    have c2 : ¬ i < t.n := by omega
    have c3 : ¬ (i : Int) < t.n := by omega
    have : a = b := by
      apply List.ext_getElem (by omega)
      intro j h1 h2
      have := hall j (by omega)
      rw [nthI_at h1, nthI_at h2] at this
      exact this
    simp [this] at hr
    simp [c1, c2, c3]
    exact hr
/-- a graph of a net that may be -/
theorem made_spec (K : WalkK Y) {sv sa st : Sl} {N : NetD} (r : NetH h sv sa st N) (hm : mayD N = true) {R : Value → Heap → Prop}
    (hr : ∀ h' p (S : Nat → Prop), Ext h h' → NetOK N → GraphA h' p N S → (∀ b, S b → h.size ≤ b) → R (.pointer (some ⟨p, 0, none⟩)) h') : CallP Y F.rlaw8_Made [netV sv sa st] h R := by
  simp [mayD] at hm
  refine .of_has K.made rfl ?_
  simp [S_rlaw8_Made, FnS.wp, netV]
  refine ef_new_box ?_
  intro B h1 g1 B1 e1
  simp [rd_blk B1]
  refine toS_spec K.To (r.ext e1) hm.1 ?_
  intro h2 s1 s2 s3 e2 r2
  simp
  refine gnew_spec K.G K.X.W.G.T.toTurnCk r2 ?_ ?_
  · intro v h3 e3 hne
    exact absurd hm.2 hne
  intro h3 p S e3 h0 g f
  simp
  have z1 := e1.size
  have z2 := e2.size
  exact hr h3 p S ((e1.trans e2).trans e3) (netOK_iff.1 h0) g (fun b hb => by have := f b hb; omega)
theorem ring_may : mayD ringN = true := by decide
theorem wknown_spec (K : WalkK Y) {R : Value → Heap → Prop} (hr : ∀ h', Ext h h' → R (.bool true) h') : CallP Y F.rlaw8_known [] h R := by
  refine .of_has K.known rfl ?_
  simp [S_rlaw8_known, FnS.wp]
  refine ring6_spec K.Ring ?_
  intro h1 s1 s2 s3 e1 r1 _ _ _ _
  simp
  refine made_spec K r1 ring_may ?_
  intro h2 p S e2 ok g f
  have x2 := e1.trans e2
  have len : ringN.as.length = 4 := rfl
  simp
  refine wfrom_spec K.X g ok ?_
  intro h3 cb L e3 g3 o3 lL hL
  have x3 := x2.trans e3
  have hLv : ∀ b, b < 4 → nthI L b = ringD b := fun b hb => (hL b hb).uniq (ring_from0 hb)
  have hLe : L = [0, 21, 53, 45] := by
    apply List.ext_getElem (by rw [lL]; rfl)
    intro j a1 a2
    have hj : j < 4 := by rw [lL] at a1; exact a1
    have := hLv j hj
    rw [nthI_at a1] at this
    rw [this]
    have hj' : j = 0 ∨ j = 1 ∨ j = 2 ∨ j = 3 := by omega
    rcases hj' with rfl | rfl | rfl | rfl <;> rfl
  rw [len] at o3 ⊢
  simp
  refine wpath_spec K.X (g.ext e3) ok ?_
  intro h4 u4 L4 l4 c4 e4 o4 lL4 hL4 q4
  have x4 := x3.trans e4
  have hL4v : ∀ b, b < 4 → nthI L4 b = ringD b := fun b hb => (hL4 b hb).uniq (ring_from0 hb)
  have q4' : c4 = 53 ∧ l4 = [0, 1, 2] := by
    rcases q4 with ⟨_, _, hq⟩ | ⟨b, hb, lb, hc, hne, pk⟩
    · have := hq 2 rfl (by decide)
      rw [hL4v 2 (by omega)] at this
      simp [ringD] at this
    · have hb2 : b = 2 := by omega
      subst hb2
      refine ⟨by rw [hc, hL4v 2 (by omega)]; rfl, ?_⟩
      obtain ⟨b', e', _, _, ch⟩ := pk.to
      have : b' = 2 := by omega
      subst this
      exact ring_path hL4v ch
  obtain ⟨rfl, rfl⟩ := q4'
  simp
  refine wpath_spec K.X ((g.ext e3).ext e4) ok ?_
  intro h5 u5 L5 l5 c5 e5 o5 lL5 hL5 q5
  have x5 := x4.trans e5
  have hL5v : ∀ b, b < 4 → nthI L5 b = ring3 b := fun b hb => (hL5 b hb).uniq (ring_from3 hb)
  have q5' : c5 = 1152921504606846976 ∧ l5 = [] := by
    rcases q5 with ⟨h1, h2, _⟩ | ⟨b, hb, lb, hc, hne, pk⟩
    · exact ⟨h1, h2⟩
    · have hb2 : b = 0 := by omega
      subst hb2
      exact absurd (by rw [hc, hL5v 0 (by omega)]; rfl) hne
  obtain ⟨rfl, rfl⟩ := q5'
  have u5n : u5.n = 0 := by have := o5.1; simp [natsI, ints64] at this; omega
  simp
  refine ef_bslice_all rfl rfl rfl ?_ (by omega)
  intro b6 h6 g6 _ e6 o6
  have r6 : Row64 h6 (Sl.at b6 4 4) [0, 21, 53, 45] := Own.row64 (cs := [0, 21, 53, 45]) o6
  have x6 := x5.trans e6
  have y6 : Ext h3 h6 := (e4.trans e5).trans e6
  simp
  refine samecosts_spec K.SC (s := Sl.at cb 4 4) (o3.ext' y6).row64 r6 (by rw [lL]; decide) ?_
  simp [hLe]
  refine ef_bslice_all rfl rfl rfl ?_ (by omega)
  intro b7 h7 g7 _ e7 o7
  have r7 : Row64 h7 (Sl.at b7 3 3) [0, 1, 2] := Own.row64 (cs := [0, 1, 2]) o7
  have x7 := x6.trans e7
  have r47 : Row64 h7 u4 [0, 1, 2] := (((o4.ext' e5).ext' e6).ext' e7).row64
  have u4n := r47.len
  simp
  refine rsameints_spec K.SI r47 r7 (by simp at u4n; omega) ?_
  simp [u5n]
  refine ef_bslice_all rfl rfl rfl ?_ (by omega)
  intro b8 h8 g8 _ e8 o8
  have r8 : RowM h8 (Sl.at b8 3 3) [true, true, true] := Own.rowM o8
  have x8 := x7.trans e8
  have y8 : Ext h2 h8 := ((e3.trans y6).trans e7).trans e8
  simp
  refine winside_spec (sm := Sl.at b8 3 3) K.I (g.ext y8) ok r8 (by simp) ?_
  intro h9 d9 e9 q9
  have x9 := x8.trans e9
  have q9' : d9 = 23 := by
    rcases q9 with ⟨q | q, _⟩ | ⟨a, b, ha, hb, la, lb, ip⟩
    · exact absurd q (by decide)
    · exact absurd q (by decide)
    · have : a = 0 := by omega
      have : b = 2 := by omega
      subst a b
      exact ring_in ip
  subst q9'
  simp
  refine ef_bslice_all rfl rfl rfl ?_ (by omega)
  intro b10 h10 g10 _ e10 o10
  have r10 : RowM h10 (Sl.at b10 2 2) [true, true] := Own.rowM o10
  have x10 := x9.trans e10
  have y10 : Ext h2 h10 := (y8.trans e9).trans e10
  simp
  refine winside_spec (sm := Sl.at b10 2 2) K.I (g.ext y10) ok r10 (by simp) ?_
  intro h11 d11 e11 q11
  have x11 := x10.trans e11
  have q11' : d11 = 1152921504606846976 := by
    rcases q11 with ⟨_, q⟩ | ⟨a, b, ha, hb, la, lb, ip⟩
    · exact q
    · have : a = 0 := by omega
      have : b = 2 := by omega
      subst a b
      exact ring_out ip
  subst q11'
  simp
  refine ef_bslice_all rfl rfl rfl ?_ (by omega)
  intro b12 h12 g12 _ e12 o12
  have r12 : Row64 h12 (Sl.at b12 2 2) [0, 3] := Own.row64 (cs := [0, 3]) o12
  have x12 := x11.trans e12
  have y12 : Ext h2 h12 := (y10.trans e11).trans e12
  simp
  refine wcost_spec (s := Sl.at b12 2 2) K.X (g.ext y12) ok r12 (by simp) ?_
  intro h13 e13
  have x13 := x12.trans e13
  have y13 := y12.trans e13
  rw [show costV ringN [0, 3] = 45 from rfl]
  simp
  refine wto_spec K.X.W K.X.To (g.ext y13) ok ?_
  intro h14 c14 L14 e14 g14 o14 l14 hL14
  have x14 := x13.trans e14
  have y14 := y13.trans e14
  rw [len]
  simp
  refine wto_spec K.X.W K.X.To (g.ext y14) ok ?_
  intro h15 c15 L15 e15 g15 o15 l15 hL15
  have x15 := x14.trans e15
  have y15 := y14.trans e15
  have v15 := ring_to2 (hL15 0 (by decide))
  have k15 := o15.row64.val 0 (by rw [l15]; decide)
  rw [v15] at k15
  rw [len] at k15 ⊢
  simp at k15
  have i15 : ∀ g z, IOp.sem Y g (.idxa 1) [.slice (some ⟨z, 0, none⟩) 4 4, .int .i64 0] = some (.pointer (some ⟨z, 0, none⟩)) := fun g z => by
    have := sem_idxF (Y := Y) (h := g) (b := z) (n := 4) (m := 4) (v := 0) (sz := 1) (by omega) (by omega) (by omega)
    simpa using this
  have i3 : ∀ g z, IOp.sem Y g (.idxa 1) [.slice (some ⟨z, 0, none⟩) 4 4, .int .i64 3] = some (.pointer (some ⟨z, 3, none⟩)) := fun g z => by
    have := sem_idxF (Y := Y) (h := g) (b := z) (n := 4) (m := 4) (v := 3) (sz := 1) (by omega) (by omega) (by omega)
    simpa using this
  simp [i15, k15]
  refine wreach_spec K.X (g.ext y15) ok ?_
  intro h16 c16 L16 m16 e16 g16 o16 l16 hL16 lm16 hm16
  have x16 := x15.trans e16
  have v16 := (hL16 3 (by decide)).uniq (ring_from3 (by omega))
  have w16 := hm16 3 (by decide)
  rw [v16] at w16
  have w16' : nthM m16 3 = true := by rw [w16]; decide
  have k16 := o16.rowM.val 3 (by rw [lm16]; decide)
  rw [w16'] at k16
  rw [len] at k16 ⊢
  simp at k16
  simp [i3, k16]
  exact hr h16 x16
end
end Go.Rm

/- The laws of walks: WalkMeets. -/
set_option linter.unusedSimpArgs false
set_option linter.unusedVariables false
namespace Go.Rm
section
variable {N : NetD}
theorem walk_cons {a b t : Nat} {w c : Int} (he : EdW N a b w) (hl : weightV N a ≠ 1152921504606846976) (h : WalkS (FromI N b) (EdW N) t c) : WalkS (FromI N a) (EdW N) t (w + c) := by
  induction h with
  | init h =>
    obtain ⟨h1, h2, h3⟩ := h
    rename_i b' c'
    have : b' = b := by omega
    subst this h2
    have := WalkS.step (WalkS.init (I := FromI N a) (E := EdW N) ⟨rfl, rfl, hl⟩) he
    simpa using this
  | step _ e ih =>
    have := WalkS.step ih e
    rwa [Int.add_assoc] at this
theorem walk_cons' {a b s : Nat} {w c : Int} (he : EdW N a b w) (h : WalkS (FromI N a) (EdR N) s c) : WalkS (FromI N b) (EdR N) s (w + c) := by
  induction h with
  | init h =>
    obtain ⟨h1, h2, h3⟩ := h
    rename_i b' c'
    have : b' = a := by omega
    subst this h2
    have := WalkS.step (WalkS.init (I := FromI N b) (E := EdR N) ⟨rfl, rfl, he.2.1⟩) (⟨he, h3⟩ : EdR N b b' w)
    simpa using this
  | step _ e ih =>
    have := WalkS.step ih e
    rwa [Int.add_assoc] at this
theorem walk_rev {s t : Nat} {c : Int} : WalkS (FromI N s) (EdW N) t c ↔ WalkS (FromI N t) (EdR N) s c := by
  constructor
  · intro h
    induction h with
    | init h =>
      obtain ⟨h1, h2, h3⟩ := h
      rename_i b' c'
      have : b' = s := by omega
      subst this
      exact .init ⟨rfl, h2, h3⟩
    | step _ e ih =>
      have := walk_cons' e ih
      rwa [Int.add_comm] at this
  · intro h
    induction h with
    | init h =>
      obtain ⟨h1, h2, h3⟩ := h
      rename_i b' c'
      have : b' = t := by omega
      subst this
      exact .init ⟨rfl, h2, h3⟩
    | step _ e ih =>
      have := walk_cons e.1 e.2 ih
      rwa [Int.add_comm] at this
theorem least_rev {s t : Nat} {d d' : Int} (h : LeastS (FromI N s) (EdW N) t d) (h' : LeastS (FromI N t) (EdR N) s d') : d = d' :=
  h.uniq ⟨h'.le, fun c w => h'.all c (walk_rev.1 w), h'.is.imp id walk_rev.2⟩
theorem walk_join {s m t : Nat} {c d : Int} (h : WalkS (FromI N s) (EdW N) m c) (h' : WalkS (FromI N m) (EdW N) t d) : WalkS (FromI N s) (EdW N) t (c + d) := by
  induction h' with
  | init h1 =>
    obtain ⟨h1, h2, h3⟩ := h1
    rename_i b' c'
    have : b' = m := by omega
    subst this h2
    simpa using h
  | step _ e ih =>
    have := WalkS.step ih e
    rwa [Int.add_assoc] at this
theorem least_pos (ok : NetOK N) {s : Int} {b : Nat} {d : Int} (h : LeastS (FromI N s) (EdW N) b d) : 0 ≤ d := by
  rcases h.is with e | e
  · omega
  · exact (e.pos (from_costs ok)).2
theorem addI_min {a b : Int} (ha : 0 ≤ a) (hb : 0 ≤ b) (ha' : a ≤ 1152921504606846976) (hb' : b ≤ 1152921504606846976) : addI a b = if a + b ≤ 1152921504606846976 then a + b else 1152921504606846976 := by
  unfold addI
  rw [held_in ha ha', held_in hb hb']
  unfold held
  rw [if_neg (by omega)]
  split
  · rw [if_neg (by omega)]
  · rw [if_pos (by omega)]
theorem least_join (ok : NetOK N) {s m t : Nat} {x y z : Int} (h : LeastS (FromI N s) (EdW N) t x) (h1 : LeastS (FromI N s) (EdW N) m y) (h2 : LeastS (FromI N m) (EdW N) t z) : x ≤ addI y z := by
  have := h.le
  rw [addI_min (least_pos ok h1) (least_pos ok h2) h1.le h2.le]
  split
  · rcases h1.is with e | e
    · have := least_pos ok h2; omega
    · rcases h2.is with e' | e'
      · have := least_pos ok h1; omega
      · exact h.all _ (walk_join e e')
  · exact this
theorem least_self (ok : NetOK N) {s : Nat} {d : Int} (h : LeastS (FromI N s) (EdW N) s d) : d = if weightV N s = 1152921504606846976 then 1152921504606846976 else 0 := by
  split
  · rename_i e
    rcases h.is with q | q
    · exact q
    · exfalso
      have : ∀ b c, WalkS (FromI N s) (EdW N) b c → False := fun b c w => by
        induction w with
        | init h => exact h.2.2 e
        | step _ _ ih => exact ih
      exact this _ _ q
  · rename_i e
    have := h.all 0 (.init ⟨rfl, rfl, e⟩)
    have := least_pos ok h
    omega
end
theorem tmodW {a N : Nat} (hN : 0 < N) : (a : Int).tmod N = ((a % N : Nat) : Int) := by
  rw [Int.tmod_eq_emod_of_nonneg (by omega)]; simp
/-- a net over which all walks are soon looked at -/
def smallD (N : NetD) : Bool := decide (N.vs.length ≤ 24) && decide (N.as.length ≤ 90) && mayD N
structure WalkLaw (Y : Sys) : Prop where
  K : WalkK Y
  May : NetMay Y
  small : Y.Has F.rlaw8_Small S_rlaw8_Small
  known : Y.Has F.rlaw8_known S_rlaw8_known
section
variable {Y : Sys} {h h' : Heap}
theorem wsmall_spec (L : WalkLaw Y) {sv sa st : Sl} {N : NetD} (r : NetH h sv sa st N) {R : Value → Heap → Prop} (hr : ∀ h', Ext h h' → R (.bool (smallD N)) h') : CallP Y F.rlaw8_Small [netV sv sa st] h R := by
  have lv := r.rv.len
  have la := r.ra.len
  refine .of_has L.small rfl ?_
  simp [S_rlaw8_Small, FnS.wp, netV]
  refine ef_new_box ?_
  intro B h1 g1 B1 e1
  by_cases c1 : sv.n ≤ 24
  rotate_left
  · have c1' : ¬ (sv.n : Int) ≤ 24 := by omega
    have c1'' : ¬ N.vs.length ≤ 24 := by omega
    have := hr h1 e1
    simp [smallD, c1''] at this
    simp [B1.hc, c1, c1']
    exact this
  have c1' : (sv.n : Int) ≤ 24 := by omega
  have c1'' : N.vs.length ≤ 24 := by omega
  by_cases c2 : sa.n ≤ 90
  rotate_left
  · have c2' : ¬ (sa.n : Int) ≤ 90 := by omega
    have c2'' : ¬ N.as.length ≤ 90 := by omega
    have := hr h1 e1
    simp [smallD, c2''] at this
    simp [B1.hc, c1, c1', c2, c2']
    exact this
  have c2' : (sa.n : Int) ≤ 90 := by omega
  have c2'' : N.as.length ≤ 90 := by omega
  simp [B1.hc, c1, c1', c2, c2', rd_blk B1]
  refine mayS_spec L.May (r.ext e1) ?_
  intro h2 e2
  have := hr h2 (e1.trans e2)
  simp [smallD, c1'', c2''] at this
  simp
  exact this
theorem small_may {N : NetD} (h : smallD N = true) : mayD N = true := by simp [smallD] at h; exact h.2
theorem arc_w {N : NetD} {a : Nat} (ha : a < N.as.length) : weightV N a = (nthT N.as a).c := by
  have : vtxB N.as.length (a : Int) = true := by simp [vtxB]; omega
  unfold weightV; rw [if_pos this]; simp
set_option maxHeartbeats 1000000 in
theorem walkmeets_law (L : WalkLaw Y) (H : Y.Has F.rlaw8_WalkMeets S_rlaw8_WalkMeets) {sv sa st : Sl} {N : NetD} (r : NetH h sv sa st N) {a b c : Nat} (ha : a < 65536) (hb : b < 65536) (hc : c < 65536)
    {R : Value → Heap → Prop} (hr : ∀ h', Ext h h' → R (.bool true) h') : CallP Y F.rlaw8_WalkMeets [netV sv sa st, .int .u16 a, .int .u16 b, .int .u16 c] h R := by
  have la := r.ra.len
  refine .of_has H rfl ?_
  simp [S_rlaw8_WalkMeets, FnS.wp, netV]
  refine ef_new_box ?_
  intro B h1 g1 B1 e1
  simp
  refine wknown_spec L.K ?_
  intro h2 e2
  have x2 := e1.trans e2
  have B2 := B1.ext e2
  simp [rd_blk B2]
  refine wsmall_spec L (r.ext x2) ?_
  intro h3 e3
  have x3 := x2.trans e3
  have B3 := B2.ext e3
  by_cases c0 : smallD N = true
  rotate_left
  · have c0' : smallD N = false := by simpa using c0
    simp [c0']
    exact hr h3 x3
  by_cases c1 : sa.n = 0
  · simp [c0, B3.hc, c1]
    exact hr h3 x3
  simp [c0, B3.hc, c1, rd_blk B3]
  refine made_spec L.K (r.ext x3) (small_may c0) ?_
  intro h4 p S e4 ok g f
  have x4 := x3.trans e4
  have B4 := B3.ext e4
  have bn := ok.ba
  have n0 : (sa.n : Int) ≠ 0 := by omega
  have wa : IntKind.i64.wrap (a : Int) = a := i64_wrap (by omega)
  have wb : IntKind.i64.wrap (b : Int) = b := i64_wrap (by omega)
  have wc : IntKind.i64.wrap (c : Int) = c := i64_wrap (by omega)
  have ta : (a : Int).tmod sa.n = ((a % sa.n : Nat) : Int) := tmodW (by omega)
  have tb : (b : Int).tmod sa.n = ((b % sa.n : Nat) : Int) := tmodW (by omega)
  have tc : (c : Int).tmod sa.n = ((c % sa.n : Nat) : Int) := tmodW (by omega)
  obtain ⟨s, hs⟩ : ∃ s, a % sa.n = s := ⟨_, rfl⟩
  obtain ⟨t, ht⟩ : ∃ t, b % sa.n = t := ⟨_, rfl⟩
  obtain ⟨m, hm⟩ : ∃ m, c % sa.n = m := ⟨_, rfl⟩
  have ls : s < N.as.length := by rw [← hs, la]; exact Nat.mod_lt _ (by omega)
  have lt : t < N.as.length := by rw [← ht, la]; exact Nat.mod_lt _ (by omega)
  have lm : m < N.as.length := by rw [← hm, la]; exact Nat.mod_lt _ (by omega)
  rw [hs] at ta
  rw [ht] at tb
  rw [hm] at tc
  clear hs ht hm
  simp [B4.hc, wa, wb, wc, ib_rem n0, ta, tb, tc]
  refine wfrom_spec L.K.X g ok ?_
  intro h5 c5 X e5 g5 o5 lX hX
  simp
  refine wfrom_spec L.K.X (g.ext e5) ok ?_
  intro h6 c6 X2 e6 g6 o6 lX2 hX2
  simp
  refine wto_spec L.K.X.W L.K.X.To ((g.ext e5).ext e6) ok ?_
  intro h7 c7 Z e7 g7 o7 lZ hZ
  have x7 := ((x4.trans e5).trans e6).trans e7
  have B7 := ((B4.ext e5).ext e6).ext e7
  have o57 := (o5.ext' e6).ext' e7
  have o67 := o6.ext' e7
  have hsn : sa.n = N.as.length := la.symm
  simp [B7.hc, hsn]
  have hiF : ∀ g z (x : Nat), x < N.as.length → IOp.sem Y g (.idxa 1) [.slice (some ⟨z, 0, none⟩) N.as.length N.as.length, .int .i64 x] = some (.pointer (some ⟨z, x, none⟩)) := fun g z x lx => by
    have := sem_idxF (Y := Y) (h := g) (b := z) (sz := 1) (show N.as.length ≤ 9223372036854775807 by omega) lx (Nat.le_refl N.as.length)
    simpa using this
  have ls1 : (s : Int) < sa.n := by omega
  have ls2 : s < sa.n := by omega
  have k0 := (r.ext x7).ra.v2 s ls
  have k1 := o57.row64.val t (by omega)
  have k2 := o7.row64.val s (by omega)
  have k3 := o57.row64.val m (by omega)
  have k4 := o67.row64.val t (by omega)
  have k5 := o7.row64.val m (by omega)
  have k6 := o57.row64.val s (by omega)
  simp at k1 k2 k3 k4 k5 k6
  have q1 : nthI X t = nthI Z s := least_rev (hX t lt) (hZ s ls)
  have q2 : nthI X t ≤ addI (nthI X m) (nthI X2 t) := least_join ok (hX t lt) (hX m lm) (hX2 t lt)
  have q3 : nthI X2 t = nthI Z m := least_rev (hX2 t lt) (hZ m lm)
  have q4 := least_self ok (hX s ls)
  rw [arc_w ls] at q4
  have q2' : nthI Z s ≤ addI (nthI X m) (nthI Z m) := by rw [← q1, ← q3]; exact q2
  by_cases w0 : (nthT N.as s).c = 1152921504606846976
  · rw [if_pos w0] at q4
    simp [sem_idxa r.ra.ok, ls1, ls2, k0, w0, hiF _ _ _ ls, hiF _ _ _ lt, hiF _ _ _ lm, k1, k2, q1, k3, k4, q3]
    refine add_spec ⟨L.K.X.W.C.Held, L.K.I.Add, L.K.X.W.C.Sum⟩ ?_
    simp [k1, q1, q2', hiF _ _ _ ls, hiF _ _ _ lt, hiF _ _ _ lm, k4, k5, q3, k6, q4]
    exact hr h7 x7
  · rw [if_neg w0] at q4
    simp [sem_idxa r.ra.ok, ls1, ls2, k0, w0, hiF _ _ _ ls, hiF _ _ _ lt, hiF _ _ _ lm, k1, k2, q1, k3, k4, q3]
    refine add_spec ⟨L.K.X.W.C.Held, L.K.I.Add, L.K.X.W.C.Sum⟩ ?_
    simp [k1, q1, q2', hiF _ _ _ ls, hiF _ _ _ lt, hiF _ _ _ lm, k4, k5, q3, k6, q4]
    exact hr h7 x7
end
end Go.Rm
