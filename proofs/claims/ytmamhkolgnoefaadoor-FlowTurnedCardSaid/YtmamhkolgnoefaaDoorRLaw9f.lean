import Derived.Test.YtmamhkolgnoefaaDoorRLaw9e

/- The laws of flows: FlowCuts. -/
set_option linter.unusedSimpArgs false
set_option linter.unusedVariables false
namespace Go.Rm
section
variable {Y : Sys} {h h' : Heap}
def CuI1 (N B : Nat) (v7 : Value) (s' : Sl) (set : List Bool) (src : List Int) (se ss sd sm : Sl) (h0 : Heap) (e : List Value) (h' : Heap) : Prop :=
  ∃ (i : Nat) (v5 v10 v11 v12 v13 v14 v15 v16 v17 v18 v19 v20 v21 : Value), e = [.int .i64 N, se.v, ss.v, sd.v, sm.v, v5, .pointer (some ⟨B, 0, none⟩), v7, s'.v, .int .i64 i, v10, v11, v12, v13, v14, v15, v16, v17, v18, v19, v20, v21] ∧ i ≤ src.length ∧ Mod (fun j => j = s'.b) h0 h' ∧ ∃ l : List Bool, l.length = N ∧ Own h' 1 s' (boolsM l) ∧ ∀ v, v < N → nthM l v = if (v : Int) ∈ src.take i then true else nthM set v
def CuI2 (N B : Nat) (v7 : Value) (s' : Sl) (set : List Bool) (dst : List Int) (se ss sd sm : Sl) (h0 : Heap) (e : List Value) (h' : Heap) : Prop :=
  ∃ (i : Nat) (v5 v9 v11 v12 v13 v14 v15 v16 v17 v18 v19 v20 v21 : Value), e = [.int .i64 N, se.v, ss.v, sd.v, sm.v, v5, .pointer (some ⟨B, 0, none⟩), v7, s'.v, v9, .int .i64 i, v11, v12, v13, v14, v15, v16, v17, v18, v19, v20, v21] ∧ i ≤ dst.length ∧ Mod (fun j => j = s'.b) h0 h' ∧ ∃ l : List Bool, l.length = N ∧ Own h' 1 s' (boolsM l) ∧ ∀ v, v < N → nthM l v = if (v : Int) ∈ dst.take i then false else nthM set v
def CuI3 (N B : Nat) (v7 : Value) (s' : Sl) (se ss sd sm : Sl) (h0 : Heap) (e : List Value) (h' : Heap) : Prop :=
  ∃ (i : Nat) (v5 v9 v10 v11 v13 v14 v15 v16 v17 v18 v19 v20 v21 : Value), e = [.int .i64 N, se.v, ss.v, sd.v, sm.v, v5, .pointer (some ⟨B, 0, none⟩), v7, s'.v, v9, v10, v11, .int .i64 i, v13, v14, v15, v16, v17, v18, v19, v20, v21] ∧ i ≤ N ∧ Ext h0 h'
theorem flowcuts_law (L : FlowLaw Y) (H : Y.Has F.rlaw9_FlowCuts S_rlaw9_FlowCuts) (E : ErrSys Y) (hg : hc h E.gb 0 = some E.hv) {n : Int} {se ss sd sm : Sl} {es : List (Int × Int)} {src dst : List Int} {set : List Bool}
    (re : RowE h se es) (rs : Row64 h ss src) (rd' : Row64 h sd dst) (rm : RowM h sm set)
    {R : Value → Heap → Prop} (hr : ∀ h', Ext h h' → R (.bool true) h') :
    CallP Y F.rlaw9_FlowCuts [.int .i64 n, se.v, ss.v, sd.v, sm.v] h R := by
  have le := re.len
  have ls := rs.len
  have ld := rd'.len
  have lm := rm.len
  refine .of_has H rfl ?_
  simp [S_rlaw9_FlowCuts, FnS.wp]
  refine known_spec L.K E hg ?_
  intro h2 e2
  simp
  by_cases c0 : (60 : Int) < n
  · have c0b : ¬ n ≤ 60 := by omega
    simp [c0, c0b]; exact hr h2 e2
  have c0b : n ≤ 60 := by omega
  by_cases c1 : (150 : Int) < se.n
  · have c1b : ¬ (se.n : Int) ≤ 150 := by omega
    have c1c : 150 < se.n := by omega
    have c1d : ¬ se.n ≤ 150 := by omega
    simp [c0, c0b, c1, c1b, c1c, c1d]; exact hr h2 e2
  have c1b : (se.n : Int) ≤ 150 := by omega
  have c1c : ¬ 150 < se.n := by omega
  have c1d : se.n ≤ 150 := by omega
  by_cases c2 : (80 : Int) < ss.n
  · have c2b : ¬ (ss.n : Int) ≤ 80 := by omega
    have c2c : 80 < ss.n := by omega
    have c2d : ¬ ss.n ≤ 80 := by omega
    simp [c0, c0b, c1, c1b, c1c, c1d, c2, c2b, c2c, c2d]; exact hr h2 e2
  have c2b : (ss.n : Int) ≤ 80 := by omega
  have c2c : ¬ 80 < ss.n := by omega
  have c2d : ss.n ≤ 80 := by omega
  by_cases c3 : (80 : Int) < sd.n
  · have c3b : ¬ (sd.n : Int) ≤ 80 := by omega
    have c3c : 80 < sd.n := by omega
    have c3d : ¬ sd.n ≤ 80 := by omega
    simp [c0, c0b, c1, c1b, c1c, c1d, c2, c2b, c2c, c2d, c3, c3b, c3c, c3d]; exact hr h2 e2
  have c3b : (sd.n : Int) ≤ 80 := by omega
  have c3c : ¬ 80 < sd.n := by omega
  have c3d : sd.n ≤ 80 := by omega
  by_cases c4 : (sm.n : Int) = n
  rotate_left
  · simp [c0, c0b, c1, c1b, c1c, c1d, c2, c2b, c2c, c2d, c3, c3b, c3c, c3d, c4]; exact hr h2 e2
  subst c4
  simp [c0, c0b, c1, c1b, c1c, c1d, c2, c2b, c2c, c2d, c3, c3b, c3c, c3d]
  refine rcheckflow_spec L.R.C L.R.A L.R.P (re.ext e2) (rs.ext e2) (rd'.ext e2) (by omega) (by omega) ?_
  intro v h3 e3 f3
  have x3 := e2.trans e3
  obtain ⟨s, rfl⟩ := f3.here.shape
  by_cases k0 : (chkW sm.n es src dst).2 = 0
  rotate_left
  · simp [k0]; exact hr h3 x3
  obtain ⟨N, hN, ck, _⟩ := chk_ok k0
  have hN' : sm.n = N := by omega
  rw [hN'] at k0 lm
  simp [k0, hN']
  refine flmax_spec L.K.M (re.ext x3) (rs.ext x3) (rd'.ext x3) (by omega) (by omega) ?_ ?_
  · intro h5 v e5 _ _ hne
    exact absurd k0 hne
  intro h4 val fl near far sf sn sr e4 pv rf rn rr
  have x4 := x3.trans e4
  have m := pv.most ck
  simp
  refine ef_new_box ?_
  intro B h5 g5 B5 e5
  simp
  refine ef_store_box B5 rfl rfl (by simp) ?_
  intro h6 B6 m6
  have e6 : Ext h4 h6 := Mod.toExtF e5 m6 g5
  have x6 := x4.trans e6
  have nl1 : near.length = N := by simpa using pv.nlen
  have fl1 : far.length = N := by simpa using pv.flen
  have sn1 : sn.n = N := by rw [← rn.len]; exact nl1
  have sr1 : sr.n = N := by rw [← rr.len]; exact fl1
  have bN := ck.n
  have cn : crossF near es es.length = val := by rw [crossF_all (fl := fl)]; exact m.crossNear
  have cf : crossF far es es.length = val := by rw [crossF_all (fl := fl)]; exact m.crossFar
  have rn6 := rn.ext e6
  have rr6 := rr.ext e6
  simp [B6.hc, sn1, sr1]
  refine rcross_spec L.Cross L.marked rn6 (re.ext x6) (by rw [nl1]; exact ck.ends) (by omega) (by omega) ?_
  rw [cn]
  simp [B6.hc]
  refine rcross_spec L.Cross L.marked rr6 (re.ext x6) (by rw [fl1]; exact ck.ends) (by omega) (by omega) ?_
  rw [cf]
  simp [B6.hc]
  refine ef_bslice0_box ?_
  intro b7 h7 g7 o7 e7
  have x7 := x6.trans e7
  simp
  refine ef_appendE o7 rfl (srcOf_rowM (rm.ext x7)) (by rw [boolsM_len, rm.len, Nat.mul_one]) boolsM_one rfl (by omega) (by omega) ?_
  intro s' h8 o8 n8 e8 nl8 b8
  have x8 := x7.trans e8
  have z7 := e7.size
  have z6 := x6.size
  have hs' : h6.size ≤ s'.b := by rcases b8 with q | q <;> omega
  have B8 := (B6.ext e7).ext e8
  have ok' := o8.ok
  have n8' : s'.n = N := by omega
  have lB := B6.lt
  simp
  have hiS : ∀ g (z : Nat), z < N → IOp.sem Y g (.idxa 1) [s'.v, .int .i64 z] = some (.pointer (some ⟨s'.b, s'.o + z, none⟩)) := fun g z lz => by
    rw [sem_idxa ok' (by omega) (by omega)]; simp
  refine wp_loop' (CuI1 N B .nilIface s' set src se ss sd sm h8) (fun e _ => src.length - argI e 9) ⟨0, _, _, _, _, _, _, _, _, _, _, _, _, _, rfl, by omega, Mod.refl _, set, by omega, o8, fun v hv => by simp⟩ ?_
  rintro e h9 ⟨i, v5, v10, v11, v12, v13, v14, v15, v16, v17, v18, v19, v20, v21, rfl, hi, m9, l, hl, o9, hv9⟩
  have x9 : Ext h h9 := Mod.ext x8 m9 (fun j hj => by omega)
  by_cases c : i < src.length
  · have q1 : (i : Int) < ss.n := by omega
    have q2 : i < ss.n := by omega
    have w1 : IntKind.i64.wrap ((i : Int) + 1) = (i : Int) + 1 := i64_wrap (by omega)
    obtain ⟨v, hv, lv⟩ := inV_nat (ck.sr i c)
    have hs2 := (rs.ext x9).val i c
    rw [hv] at hs2
    simp [q1, q2, sem_idxa rs.ok, hs2, hiS _ _ lv]
    refine stN o9 (k := v) (by rw [boolsM_len]; omega) ?_
    intro h10 o10 m10
    rw [boolsM_set] at o10
    simp [w1]
    refine ⟨⟨i + 1, _, _, _, _, _, _, _, _, _, _, _, _, _, rfl, by omega, m9.trans m10, _, by simp [hl], o10, fun w hw => ?_⟩, by simp [argI]; omega⟩
    rw [nthM_set (by omega)]
    have hm : ((w : Int) ∈ src.take (i + 1)) ↔ ((w : Int) ∈ src.take i) ∨ (w : Int) = nthI src i := inSetN_succ (v := w) c
    rw [hv] at hm
    by_cases e : w = v
    · subst e
      rw [if_pos rfl, if_pos (hm.2 (.inr rfl))]
    · have : ((w : Int) ∈ src.take (i + 1)) ↔ ((w : Int) ∈ src.take i) := ⟨fun h => (hm.1 h).resolve_right (by omega), fun h => hm.2 (.inl h)⟩
      rw [if_neg e, hv9 w hw]
      simp [this]
  have c' : ¬ (i : Int) < ss.n := by omega
  rw [List.take_of_length_le (by omega)] at hv9
  simp [c']
  refine wp_loop' (CuI2 N B .nilIface s' l dst se ss sd sm h9) (fun e _ => dst.length - argI e 10) ⟨0, _, _, _, _, _, _, _, _, _, _, _, _, _, rfl, by omega, Mod.refl _, l, hl, o9, fun v hv => by simp⟩ ?_
  rintro e h10 ⟨i2, v5, v9, v11, v12, v13, v14, v15, v16, v17, v18, v19, v20, v21, rfl, hi2, m10, l2, hl2, o10, hv10⟩
  have x10 : Ext h h10 := Mod.ext x9 m10 (fun j hj => by omega)
  by_cases d : i2 < dst.length
  · have q1 : (i2 : Int) < sd.n := by omega
    have q2 : i2 < sd.n := by omega
    have w1 : IntKind.i64.wrap ((i2 : Int) + 1) = (i2 : Int) + 1 := i64_wrap (by omega)
    obtain ⟨v, hv, lv⟩ := inV_nat (ck.ds i2 d)
    have hs2 := (rd'.ext x10).val i2 d
    rw [hv] at hs2
    simp [q1, q2, sem_idxa rd'.ok, hs2, hiS _ _ lv]
    refine stN o10 (k := v) (by rw [boolsM_len]; omega) ?_
    intro h11 o11 m11
    rw [boolsM_set] at o11
    simp [w1]
    refine ⟨⟨i2 + 1, _, _, _, _, _, _, _, _, _, _, _, _, _, rfl, by omega, m10.trans m11, _, by simp [hl2], o11, fun w hw => ?_⟩, by simp [argI]; omega⟩
    rw [nthM_set (by omega)]
    have hm : ((w : Int) ∈ dst.take (i2 + 1)) ↔ ((w : Int) ∈ dst.take i2) ∨ (w : Int) = nthI dst i2 := inSetN_succ (v := w) d
    rw [hv] at hm
    by_cases e : w = v
    · subst e
      rw [if_pos rfl, if_pos (hm.2 (.inr rfl))]
    · have : ((w : Int) ∈ dst.take (i2 + 1)) ↔ ((w : Int) ∈ dst.take i2) := ⟨fun h => (hm.1 h).resolve_right (by omega), fun h => hm.2 (.inl h)⟩
      rw [if_neg e, hv10 w hw]
      simp [this]
  have d' : ¬ (i2 : Int) < sd.n := by omega
  rw [List.take_of_length_le (by omega)] at hv10
  have hA : ∀ v, inSetN src v → nthM l2 v = true := fun v hv => by
    have lv := ck.srcN v hv
    have nd := ck.dj v hv
    unfold inSetN at hv nd
    rw [hv10 v lv, if_neg nd, hv9 v lv, if_pos hv]
  have hB : ∀ v, inSetN dst v → nthM l2 v = false := fun v hv => by
    have lv := ck.dstN v hv
    unfold inSetN at hv
    rw [hv10 v lv, if_pos hv]
  have hle := m.le hA hB
  have hbt := m.between hA hB
  have hcr : crossF l2 es es.length = crossS (nthM l2) (edL es fl) := crossF_all
  rw [← hcr] at hle hbt
  have m68 : Mod (fun j => j = s'.b) h6 h10 := ((((Mod.mono e7 (fun _ _ h => h.elim)).then e8 (fun _ _ h => h.elim)).trans m9).trans m10)
  have B10 := m68.blk B6 (by omega)
  have e610 : Ext h6 h10 := Mod.ext (e7.trans e8) (m9.trans m10) (fun j hj => by omega)
  simp [d']
  refine rcross_spec L.Cross L.marked o10.rowM (re.ext x10) (by rw [hl2]; exact ck.ends) (by omega) (by omega) ?_
  simp [B10.hc]
  by_cases ce : crossF l2 es es.length = val
  rotate_left
  · have : val < crossF l2 es es.length := by omega
    simp [ce, B10.hc, this]
    exact hr h10 x10
  have bt := hbt ce
  simp [ce]
  have rn10 := rn6.ext e610
  have rr10 := rr6.ext e610
  have i1 : ∀ g (z : Nat), z < N → IOp.sem Y g (.idxa 1) [sn.v, .int .i64 z] = some (.pointer (some ⟨sn.b, sn.o + z, none⟩)) := fun g z lz => by
    rw [sem_idxa rn.ok (by omega) (by omega)]; simp
  have i2' : ∀ g (z : Nat), z < N → IOp.sem Y g (.idxa 1) [sr.v, .int .i64 z] = some (.pointer (some ⟨sr.b, sr.o + z, none⟩)) := fun g z lz => by
    rw [sem_idxa rr.ok (by omega) (by omega)]; simp
  refine wp_loop' (CuI3 N B .nilIface s' se ss sd sm h10) (fun e _ => N - argI e 12) ⟨0, _, _, _, _, _, _, _, _, _, _, _, _, _, rfl, by omega, Mod.refl _⟩ ?_
  rintro e h11 ⟨v, v5, v9, v10, v11, v13, v14, v15, v16, v17, v18, v19, v20, v21, rfl, hi3, e11⟩
  have x11 := x10.trans e11
  have B11 := B10.ext e11
  by_cases k : v < N
  · have k' : (v : Int) < N := by omega
    have w1 : IntKind.i64.wrap ((v : Int) + 1) = (v : Int) + 1 := i64_wrap (by omega)
    have p1 := (rn10.ext e11).val v (by omega)
    have p2 := (rr10.ext e11).val v (by omega)
    have p3 := (o10.ext' e11).rowM.val v (by omega)
    obtain ⟨b1, b2⟩ := bt v k
    have fin : CuI3 N B .nilIface s' se ss sd sm h10 [.int .i64 N, se.v, ss.v, sd.v, sm.v, v5, .pointer (some ⟨B, 0, none⟩), .nilIface, s'.v, v9, v10, v11, .int .i64 ((v : Int) + 1), v13, v14, v15, v16, v17, v18, v19, .bool true, .bool false] h11 := ⟨v + 1, _, _, _, _, _, _, _, _, _, _, _, _, _, rfl, by omega, e11⟩
    cases t1 : nthM near v <;> cases t2 : nthM l2 v <;> cases t3 : nthM far v <;> simp only [t1, t2, t3] at p1 p2 p3 b1 b2 <;> simp at b1 b2 <;>
      simp [k, k', B11.hc, i1 _ _ k, i2' _ _ k, hiS _ _ k, p1, p2, p3, w1] <;> exact ⟨fin, by simp [argI]; omega⟩
  have k' : ¬ (v : Int) < N := by omega
  simp [k']
  exact hr h11 x11
end
end Go.Rm
