import Derived.Test.YtegflpgpkbffkaaRLaw6b
import Derived.Test.YtegflpgpkbffkaaRLaw8d

/- The laws of walks: WalkDearer. -/
set_option linter.unusedSimpArgs false
set_option linter.unusedVariables false
namespace Go.Rm
/-- nothing costs less than before -/
structure UpN (N N' : NetD) : Prop where
  turn : ∀ a b : Nat, turnV N' a b = turnV N a b
  w : ∀ b : Nat, weightV N' b ≠ 1152921504606846976 → weightV N b ≠ 1152921504606846976 ∧ weightV N b ≤ weightV N' b
theorem up_walk {N N' : NetD} (u : UpN N N') {s b : Nat} {c : Int} (h : WalkS (FromI N' s) (EdW N') b c) : ∃ c', c' ≤ c ∧ WalkS (FromI N s) (EdW N) b c' := by
  induction h with
  | init h =>
    obtain ⟨h1, h2, h3⟩ := h
    exact ⟨_, Int.le_refl _, .init ⟨h1, h2, (u.w s h3).1⟩⟩
  | step _ e ih =>
    obtain ⟨c', hc, hw⟩ := ih
    obtain ⟨e1, e2, e3⟩ := e
    obtain ⟨q1, q2⟩ := u.w _ e2
    rw [u.turn] at e1 e3
    refine ⟨_, ?_, .step hw ⟨e1, q1, rfl⟩⟩
    omega
theorem up_least {N N' : NetD} (u : UpN N N') {s b : Nat} {d d' : Int} (h : LeastS (FromI N s) (EdW N) b d) (h' : LeastS (FromI N' s) (EdW N') b d') : d ≤ d' := by
  rcases h'.is with e | e
  · have := h.le; omega
  · obtain ⟨c', hc, hw⟩ := up_walk u e
    have := h.all _ hw
    omega
theorem shut_least {N : NetD} {s : Int} {b : Nat} {d : Int} (h : LeastS (FromI N s) (EdW N) b d) (hw : weightV N b = 1152921504606846976) : d = 1152921504606846976 := by
  rcases h.is with e | e
  · exact e
  · exfalso
    cases e with
    | init h =>
      obtain ⟨h1, _, h3⟩ := h
      rw [← h1] at h3
      exact h3 hw
    | step _ e => exact e.2.1 hw
theorem turn_set {N : NetD} {k : Nat} {w : Int} (hk : k < N.as.length) {a b : Nat} (ha : a ≤ N.as.length) : turnV { N with as := N.as.set k ⟨(nthT N.as k).a, (nthT N.as k).b, w⟩ } a b = turnV N a b := by
  unfold turnV bendV
  simp only [List.length_set, (nthT_set_ab hk).1, (nthT_set_ab hk).2, Int.toNat_natCast]
  by_cases c : vtxB N.as.length (a : Int) = false ∨ vtxB N.as.length (b : Int) = false
  · rw [if_pos c, if_pos c]
  · rw [if_neg c, if_neg c]
    have hb : b < N.as.length := by
      have : vtxB N.as.length (b : Int) = true := by
        cases q : vtxB N.as.length (b : Int) with
        | true => rfl
        | false => exact absurd (.inr q) c
      simp [vtxB] at this
      exact this
    rw [(cnt_set hk a a ha).1, (cnt_set hk b b (by omega)).2]
theorem setN_up {N : NetD} {k : Nat} {w : Int} (hk : k < N.as.length) (hw : weightB w = true) (hge : weightV N k ≤ w) (hle : w ≤ 1152921504606846976) : UpN N (setN N k w) ∧ weightV (setN N k w) k = w ∧ setW N k w = wOK ∧ (setN N k w).as.length = N.as.length := by
  obtain ⟨e1, e2⟩ := setN_at hk hw
  have wk : ∀ b : Nat, weightV (setN N k w) b = if b = k then w else weightV N b := fun b => by
    rw [e2]
    unfold weightV
    simp only [List.length_set, Int.toNat_natCast]
    by_cases c : vtxB N.as.length (b : Int) = true
    · rw [if_pos c, if_pos c, nthT_set hk]
      split <;> rfl
    · rw [if_neg c, if_neg c]
      rw [if_neg]
      intro e
      subst e
      apply c
      simp [vtxB]; omega
  refine ⟨⟨fun a b => ?_, fun b hb => ?_⟩, ?_, e1, by rw [e2]; simp⟩
  · by_cases ha : a ≤ N.as.length
    · rw [e2]; exact turn_set hk ha
    · have : ∀ M : NetD, M.as.length = N.as.length → turnV M a b = InfI := fun M hM => by
        unfold turnV
        rw [if_pos]
        left
        simp [vtxB]; omega
      rw [this N rfl, this _ (by rw [e2]; simp)]
  · rw [wk] at hb ⊢
    split
    · rename_i e
      subst e
      rw [if_pos rfl] at hb
      exact ⟨by omega, hge⟩
    · rename_i e
      rw [if_neg e] at hb
      exact ⟨hb, Int.le_refl _⟩
  · rw [wk, if_pos rfl]
section
variable {Y : Sys} {h h' : Heap}
def WdI (B p c1 c2 c3 n k s : Nat) (w up : Int) (v0 v1 v2 v3 : Value) (h0 : Heap) (e : List Value) (h' : Heap) : Prop :=
  ∃ (i : Nat) (v5 v11 v12 v14 v16 v18 v19 v20 v21 v22 v23 v24 : Value), e = [v0, v1, v2, v3, .pointer (some ⟨B, 0, none⟩), v5, .pointer (some ⟨p, 0, none⟩), .int .i64 k, .int .i64 s, .int .i64 w, .slice (some ⟨c1, 0, none⟩) n n, v11, v12, .slice (some ⟨c2, 0, none⟩) n n, v14, .slice (some ⟨c3, 0, none⟩) n n, v16, .int .i64 i, v18, v19, v20, v21, v22, v23, v24] ∧ i ≤ n ∧ Ext h0 h'
set_option maxHeartbeats 2000000 in
theorem walkdearer_law (L : WalkLaw Y) (GS : GrSet Y) (H : Y.Has F.rlaw8_WalkDearer S_rlaw8_WalkDearer) {sv sa st : Sl} {N : NetD} (r : NetH h sv sa st N) {a b more : Nat} (ha : a < 65536) (hb : b < 65536) (hmore : more < 4294967296)
    {R : Value → Heap → Prop} (hr : ∀ h', Ext h h' → R (.bool true) h') : CallP Y F.rlaw8_WalkDearer [netV sv sa st, .int .u16 a, .int .u16 b, .int .u32 more] h R := by
  have la := r.ra.len
  refine .of_has H rfl ?_
  simp [S_rlaw8_WalkDearer, FnS.wp, netV]
  refine ef_new_box ?_
  intro B h1 g1 B1 e1
  simp
  refine wknown_spec L.K ?_
  intro h2 e2
  have x2 := e1.trans e2
  have B2 := B1.ext e2
  simp [rd_blk B2]
  refine wsmall_spec L (r.ext x2) ?_
  intro h3 e3
  have x3 := x2.trans e3
  have B3 := B2.ext e3
  by_cases c0 : smallD N = true
  rotate_left
  · have c0' : smallD N = false := by simpa using c0
    simp [c0']
    exact hr h3 x3
  by_cases c1 : sa.n = 0
  · simp [c0, B3.hc, c1]
    exact hr h3 x3
  simp [c0, B3.hc, c1, rd_blk B3]
  refine made_spec L.K (r.ext x3) (small_may c0) ?_
  intro h4 p S e4 ok g f
  have x4 := x3.trans e4
  have B4 := B3.ext e4
  have bn := ok.ba
  have n0 : (sa.n : Int) ≠ 0 := by omega
  have wa : IntKind.i64.wrap (a : Int) = a := i64_wrap (by omega)
  have wb : IntKind.i64.wrap (b : Int) = b := i64_wrap (by omega)
  have ta : (a : Int).tmod sa.n = ((a % sa.n : Nat) : Int) := tmodW (by omega)
  have tb : (b : Int).tmod sa.n = ((b % sa.n : Nat) : Int) := tmodW (by omega)
  obtain ⟨k, hk⟩ : ∃ k, a % sa.n = k := ⟨_, rfl⟩
  obtain ⟨s, hs⟩ : ∃ s, b % sa.n = s := ⟨_, rfl⟩
  have lk : k < N.as.length := by rw [← hk, la]; exact Nat.mod_lt _ (by omega)
  have ls : s < N.as.length := by rw [← hs, la]; exact Nat.mod_lt _ (by omega)
  rw [hk] at ta
  rw [hs] at tb
  clear hk hs
  have lk1 : (k : Int) < sa.n := by omega
  have lk2 : k < sa.n := by omega
  have k0 := (r.ext x4).ra.v2 k lk
  have wk := arc_w lk
  have wB := ok.w k lk
  obtain ⟨w, hw⟩ : ∃ w, (nthT N.as k).c = w := ⟨_, rfl⟩
  rw [hw] at k0 wk wB
  have wc := weight_cases wB
  simp [B4.hc, wa, wb, ib_rem n0, ta, tb, sem_idxa r.ra.ok, lk1, lk2, k0]
  refine wfrom_spec L.K.X g ok ?_
  intro h5 cb1 X1 e5 g5 o5 lX1 hX1
  have x5 := x4.trans e5
  have gS : ∀ j, S j → h3.size ≤ j ∧ j < h4.size := fun j hj => ⟨f j hj, g.lt j hj⟩
  have wInf : weightB 1152921504606846976 = true := by decide
  have wm : IntKind.i64.wrap ((more % 1000 : Nat) : Int) = ((more % 1000 : Nat) : Int) := i64_wrap (by omega)
  have tm : (more : Int).tmod 1000 = ((more % 1000 : Nat) : Int) := tmodW (N := 1000) (by omega)
  have lm : more % 1000 < 1000 := Nat.mod_lt _ (by omega)
  obtain ⟨mm, hmm⟩ : ∃ mm, more % 1000 = mm := ⟨_, rfl⟩
  rw [hmm] at wm tm lm
  by_cases cw : w < 2147483648
  · have hw0 : 0 ≤ w := by omega
    have wa2 : IntKind.i64.wrap (w + (mm : Int)) = w + mm := i64_wrap (by omega)
    obtain ⟨up, hup⟩ : ∃ up : Int, (if 2147483648 < w + (mm : Int) then 2147483648 else w + (mm : Int)) = up := ⟨_, rfl⟩
    have hupb : w ≤ up ∧ up ≤ 2147483648 := by
      rw [← hup]; split <;> omega
    have hB : weightB up = true := by unfold weightB; simp; omega
    have hle : w ≤ up := hupb.1
    have hle2 : up ≤ 1152921504606846976 := by omega
    simp [cw, ib_rem, tm, wm, wa2]
    rw [hup]
    refine gset_spec GS (g.ext e5) ?_
    intro v6 h6 m6 g6 f6
    obtain ⟨u1, uw1, us1, ul1⟩ := setN_up lk hB (by rw [wk]; exact hle) hle2
    rw [us1] at f6
    have v6n := Err.nil f6.here rfl
    subst v6n
    have ok1 : NetOK (setN N k up) := setN_ok ok
    simp
    refine wfrom_spec L.K.X g6 ok1 ?_
    intro h7 cb2 X2 e7 gg7 o7 lX2 hX2
    rw [ul1] at o7 lX2 hX2 ⊢
    simp
    refine gset_spec GS (g6.ext e7) ?_
    intro v8 h8 m8 g8 f8
    have lk' : k < (setN N k up).as.length := by rw [ul1]; exact lk
    obtain ⟨u2, uw2, us2, ul2⟩ := setN_up lk' wInf (by rw [uw1]; exact hle2) (Int.le_refl _)
    rw [us2] at f8
    have v8n := Err.nil f8.here rfl
    subst v8n
    have ok2 : NetOK (setN (setN N k up) k 1152921504606846976) := setN_ok ok1
    simp
    refine wfrom_spec L.K.X g8 ok2 ?_
    intro h9 cb3 X3 e9 gg9 o9 lX3 hX3
    rw [ul2, ul1] at o9 lX3 hX3 ⊢
    simp
    refine gset_spec GS (g8.ext e9) ?_
    intro v10 h10 m10 g10 f10
    obtain ⟨back, _, _, _, us3⟩ := setN_back lk hB wInf (by rw [hw]; exact wB)
    rw [hw] at back us3
    rw [us3] at f10
    rw [back] at g10
    have v10n := Err.nil f10.here rfl
    subst v10n
    have z3 := x3.size
    have z4 := e4.size
    have z5 := e5.size
    have z6 := m6.size
    have z7 := e7.size
    have z8 := m8.size
    have z9 := e9.size
    have z10 := m10.size
    have lB3 := B3.lt
    have m510 : Mod S h5 h10 := (((m6.then e7 (fun _ _ h => h.elim)).trans m8).then e9 (fun _ _ h => h.elim)).trans m10
    have m710 : Mod S h7 h10 := (m8.then e9 (fun _ _ h => h.elim)).trans m10
    have x10 : Ext h h10 := Mod.ext x5 m510 (fun j hj => by have := gS j hj; omega)
    have o5a := o5.mod m510 (fun _ q => by have := gS _ q; simp at this; omega)
    have o7a := o7.mod m710 (fun _ q => by have := gS _ q; simp at this; omega)
    have o9a := o9.mod m10 (fun _ q => by have := gS _ q; simp at this; omega)
    have B10 := m510.blk ((B4.ext e5)) (fun q => by have := gS _ q; omega)
    have hsn : sa.n = N.as.length := la.symm
    have hiF : ∀ g z (x : Nat), x < N.as.length → IOp.sem Y g (.idxa 1) [.slice (some ⟨z, 0, none⟩) N.as.length N.as.length, .int .i64 x] = some (.pointer (some ⟨z, x, none⟩)) := fun g z x lx => by
      have := sem_idxF (Y := Y) (h := g) (b := z) (sz := 1) (show N.as.length ≤ 9223372036854775807 by omega) lx (Nat.le_refl N.as.length)
      simpa using this
    have shut := shut_least (hX3 k lk) uw2
    have ks := o9a.row64.val k (by omega)
    rw [shut] at ks
    simp at ks
    simp [B10.hc, hsn, hiF _ _ _ lk, ks]
    refine wp_loop' (WdI B p cb1 cb2 cb3 N.as.length k s w up (.agg #[sv.v, sa.v, st.v]) (.int .u16 a) (.int .u16 b) (.int .u32 more) h10) (fun e _ => N.as.length - argI e 17) ⟨0, _, _, _, _, _, _, _, _, _, _, _, _, rfl, by omega, Mod.refl _⟩ ?_
    rintro e h11 ⟨i, v5, v11, v12, v14, v16, v18, v19, v20, v21, v22, v23, v24, rfl, hi, e11⟩
    have x11 := x10.trans e11
    by_cases q : i < N.as.length
    · have q' : (i : Int) < N.as.length := by omega
      have w1 : IntKind.i64.wrap ((i : Int) + 1) = (i : Int) + 1 := i64_wrap (by omega)
      have y1 := (o5a.ext' e11).row64.val i (by omega)
      have y2 := (o7a.ext' e11).row64.val i (by omega)
      have y3 := (o9a.ext' e11).row64.val i (by omega)
      simp at y1 y2 y3
      have d1 := up_least u1 (hX1 i q) (hX2 i q)
      have d2 := up_least u2 (hX2 i q) (hX3 i q)
      have d1' : ¬ nthI X2 i < nthI X1 i := by omega
      have d2' : ¬ nthI X3 i < nthI X2 i := by omega
      simp [q, q', hiF _ _ _ q, y1, y2, y3, d1, d2, d1', d2', w1]
      refine ⟨⟨i + 1, _, _, _, _, _, _, _, _, _, _, _, _, rfl, by omega, e11⟩, by simp [argI]; omega⟩
    have q' : ¬ (i : Int) < N.as.length := by omega
    simp [q']
    refine wfrom_spec L.K.X (g10.ext e11) ok ?_
    intro h12 cb4 X4 e12 gg12 o12 lX4 hX4
    have hXX : X4 = X1 := by
      apply List.ext_getElem (by omega)
      intro j a1 a2
      have hj : j < N.as.length := by omega
      have := (hX4 j hj).uniq (hX1 j hj)
      rw [nthI_at a1, nthI_at a2] at this
      exact this
    simp
    refine samecosts_spec L.K.SC (s := Sl.at cb4 N.as.length N.as.length) (t := Sl.at cb1 N.as.length N.as.length) o12.row64 ((o5a.ext' e11).ext' e12).row64 (by omega) ?_
    simp [hXX]
    exact hr h12 (x11.trans e12)
  · have hB : weightB 1152921504606846976 = true := wInf
    have hle : w ≤ 1152921504606846976 := by omega
    have hle2 : (1152921504606846976 : Int) ≤ 1152921504606846976 := Int.le_refl _
    simp [cw]
    refine gset_spec GS (g.ext e5) ?_
    intro v6 h6 m6 g6 f6
    obtain ⟨u1, uw1, us1, ul1⟩ := setN_up lk hB (by rw [wk]; exact hle) hle2
    rw [us1] at f6
    have v6n := Err.nil f6.here rfl
    subst v6n
    have ok1 : NetOK (setN N k 1152921504606846976) := setN_ok ok
    simp
    refine wfrom_spec L.K.X g6 ok1 ?_
    intro h7 cb2 X2 e7 gg7 o7 lX2 hX2
    rw [ul1] at o7 lX2 hX2 ⊢
    simp
    refine gset_spec GS (g6.ext e7) ?_
    intro v8 h8 m8 g8 f8
    have lk' : k < (setN N k 1152921504606846976).as.length := by rw [ul1]; exact lk
    obtain ⟨u2, uw2, us2, ul2⟩ := setN_up lk' wInf (by rw [uw1]; exact hle2) (Int.le_refl _)
    rw [us2] at f8
    have v8n := Err.nil f8.here rfl
    subst v8n
    have ok2 : NetOK (setN (setN N k 1152921504606846976) k 1152921504606846976) := setN_ok ok1
    simp
    refine wfrom_spec L.K.X g8 ok2 ?_
    intro h9 cb3 X3 e9 gg9 o9 lX3 hX3
    rw [ul2, ul1] at o9 lX3 hX3 ⊢
    simp
    refine gset_spec GS (g8.ext e9) ?_
    intro v10 h10 m10 g10 f10
    obtain ⟨back, _, _, _, us3⟩ := setN_back lk hB wInf (by rw [hw]; exact wB)
    rw [hw] at back us3
    rw [us3] at f10
    rw [back] at g10
    have v10n := Err.nil f10.here rfl
    subst v10n
    have z3 := x3.size
    have z4 := e4.size
    have z5 := e5.size
    have z6 := m6.size
    have z7 := e7.size
    have z8 := m8.size
    have z9 := e9.size
    have z10 := m10.size
    have lB3 := B3.lt
    have m510 : Mod S h5 h10 := (((m6.then e7 (fun _ _ h => h.elim)).trans m8).then e9 (fun _ _ h => h.elim)).trans m10
    have m710 : Mod S h7 h10 := (m8.then e9 (fun _ _ h => h.elim)).trans m10
    have x10 : Ext h h10 := Mod.ext x5 m510 (fun j hj => by have := gS j hj; omega)
    have o5a := o5.mod m510 (fun _ q => by have := gS _ q; simp at this; omega)
    have o7a := o7.mod m710 (fun _ q => by have := gS _ q; simp at this; omega)
    have o9a := o9.mod m10 (fun _ q => by have := gS _ q; simp at this; omega)
    have B10 := m510.blk ((B4.ext e5)) (fun q => by have := gS _ q; omega)
    have hsn : sa.n = N.as.length := la.symm
    have hiF : ∀ g z (x : Nat), x < N.as.length → IOp.sem Y g (.idxa 1) [.slice (some ⟨z, 0, none⟩) N.as.length N.as.length, .int .i64 x] = some (.pointer (some ⟨z, x, none⟩)) := fun g z x lx => by
      have := sem_idxF (Y := Y) (h := g) (b := z) (sz := 1) (show N.as.length ≤ 9223372036854775807 by omega) lx (Nat.le_refl N.as.length)
      simpa using this
    have shut := shut_least (hX3 k lk) uw2
    have ks := o9a.row64.val k (by omega)
    rw [shut] at ks
    simp at ks
    simp [B10.hc, hsn, hiF _ _ _ lk, ks]
    refine wp_loop' (WdI B p cb1 cb2 cb3 N.as.length k s w 1152921504606846976 (.agg #[sv.v, sa.v, st.v]) (.int .u16 a) (.int .u16 b) (.int .u32 more) h10) (fun e _ => N.as.length - argI e 17) ⟨0, _, _, _, _, _, _, _, _, _, _, _, _, rfl, by omega, Mod.refl _⟩ ?_
    rintro e h11 ⟨i, v5, v11, v12, v14, v16, v18, v19, v20, v21, v22, v23, v24, rfl, hi, e11⟩
    have x11 := x10.trans e11
    by_cases q : i < N.as.length
    · have q' : (i : Int) < N.as.length := by omega
      have w1 : IntKind.i64.wrap ((i : Int) + 1) = (i : Int) + 1 := i64_wrap (by omega)
      have y1 := (o5a.ext' e11).row64.val i (by omega)
      have y2 := (o7a.ext' e11).row64.val i (by omega)
      have y3 := (o9a.ext' e11).row64.val i (by omega)
      simp at y1 y2 y3
      have d1 := up_least u1 (hX1 i q) (hX2 i q)
      have d2 := up_least u2 (hX2 i q) (hX3 i q)
      have d1' : ¬ nthI X2 i < nthI X1 i := by omega
      have d2' : ¬ nthI X3 i < nthI X2 i := by omega
      simp [q, q', hiF _ _ _ q, y1, y2, y3, d1, d2, d1', d2', w1]
      refine ⟨⟨i + 1, _, _, _, _, _, _, _, _, _, _, _, _, rfl, by omega, e11⟩, by simp [argI]; omega⟩
    have q' : ¬ (i : Int) < N.as.length := by omega
    simp [q']
    refine wfrom_spec L.K.X (g10.ext e11) ok ?_
    intro h12 cb4 X4 e12 gg12 o12 lX4 hX4
    have hXX : X4 = X1 := by
      apply List.ext_getElem (by omega)
      intro j a1 a2
      have hj : j < N.as.length := by omega
      have := (hX4 j hj).uniq (hX1 j hj)
      rw [nthI_at a1, nthI_at a2] at this
      exact this
    simp
    refine samecosts_spec L.K.SC (s := Sl.at cb4 N.as.length N.as.length) (t := Sl.at cb1 N.as.length N.as.length) o12.row64 ((o5a.ext' e11).ext' e12).row64 (by omega) ?_
    simp [hXX]
    exact hr h12 (x11.trans e12)
end
end Go.Rm
