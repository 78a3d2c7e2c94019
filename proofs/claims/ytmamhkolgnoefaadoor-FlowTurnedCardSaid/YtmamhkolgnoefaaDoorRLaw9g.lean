import Derived.Test.YtmamhkolgnoefaaDoorRLaw9f

/- The laws of flows: FlowTurned. -/
set_option linter.unusedSimpArgs false
set_option linter.unusedVariables false
namespace Go.Rm
/-- edges told the other way round, and one from a vertex to itself behind each -/
def turnE (es : List (Int × Int)) (N : Nat) : Nat → List (Int × Int)
  | 0 => []
  | i + 1 => (turnE es N i ++ [((nthE es i).2, (nthE es i).1)]) ++ [(((i % N : Nat) : Int), ((i % N : Nat) : Int))]
theorem turnE_len {es : List (Int × Int)} {N : Nat} : ∀ {i : Nat}, (turnE es N i).length = 2 * i
  | 0 => rfl
  | i + 1 => by simp [turnE, turnE_len]; omega
theorem turnE_in {es : List (Int × Int)} {N : Nat} (hN : 0 < N) (hE : EsIn N es) : ∀ {i : Nat}, i ≤ es.length → EsIn N (turnE es N i)
  | 0, _ => fun i hi => by simp [turnE] at hi
  | i + 1, h => by
    obtain ⟨u, v, he, lu, lv⟩ := hE.at (i := i) (by omega)
    have lm : i % N < N := Nat.mod_lt _ hN
    simp only [turnE, he]
    exact ((turnE_in hN hE (by omega)).app lv lu).app lm lm
theorem turnE_cross {es : List (Int × Int)} {N : Nat} {S : Nat → Bool} (hE : EsIn N es) : ∀ {i : Nat}, i ≤ es.length → crossE S (turnE es N i) = crossS S (edT es [] i)
  | 0, _ => rfl
  | i + 1, h => by
    obtain ⟨u, v, he, lu, lv⟩ := hE.at (i := i) (by omega)
    have ih := turnE_cross (N := N) (S := S) hE (i := i) (by omega)
    simp only [turnE, he]
    rw [crossE_app, crossE_app, ih, edT_succ, crossS_app, he]
    simp only [crossS, Int.toNat_natCast]
    by_cases c : S u = S v
    · simp [c]
    · have c' : ¬ S v = S u := fun e => c e.symm
      simp [c, c']
section
variable {Y : Sys} {h h' : Heap}
def TuI1 (N : Nat) (es : List (Int × Int)) (se ss sd : Sl) (h0 : Heap) (e : List Value) (h' : Heap) : Prop :=
  ∃ (i : Nat) (t : Sl) (v4 v7 v8 v9 v10 v11 v12 v13 v14 v15 v16 v17 v18 v19 : Value), e = [.int .i64 N, se.v, ss.v, sd.v, v4, t.v, .int .i64 i, v7, v8, v9, v10, v11, v12, v13, v14, v15, v16, v17, v18, v19] ∧ i ≤ es.length ∧ Ext h0 h' ∧ Own h' 2 t (pairC (turnE es N i)) ∧ (t.nl = false → h0.size ≤ t.b)
def TuI2 (N A C D : Nat) (v5 v8 v10 v12 : Value) (se ss sd : Sl) (h0 : Heap) (e : List Value) (h' : Heap) : Prop :=
  ∃ (i : Nat) (v4 v6 v14 v15 v16 v17 v18 v19 : Value), e = [.int .i64 N, se.v, ss.v, sd.v, v4, v5, v6, .pointer (some ⟨A, 0, none⟩), v8, .pointer (some ⟨C, 0, none⟩), v10, .pointer (some ⟨D, 0, none⟩), v12, .int .i64 i, v14, v15, v16, v17, v18, v19] ∧ i ≤ N ∧ Ext h0 h'
set_option maxHeartbeats 2000000 in
theorem flowturned_law (L : FlowLaw Y) (H : Y.Has F.rlaw9_FlowTurned S_rlaw9_FlowTurned) (E : ErrSys Y) (hg : hc h E.gb 0 = some E.hv) {n : Int} {se ss sd : Sl} {es : List (Int × Int)} {src dst : List Int}
    (re : RowE h se es) (rs : Row64 h ss src) (rd' : Row64 h sd dst)
    {R : Value → Heap → Prop} (hr : ∀ h', Ext h h' → R (.bool true) h') :
    CallP Y F.rlaw9_FlowTurned [.int .i64 n, se.v, ss.v, sd.v] h R := by
  have le := re.len
  have ls := rs.len
  have ld := rd'.len
  refine .of_has H rfl ?_
  simp [S_rlaw9_FlowTurned, FnS.wp]
  refine known_spec L.K E hg ?_
  intro h2 e2
  simp
  by_cases c0 : (60 : Int) < n
  · have c0b : ¬ n ≤ 60 := by omega
    simp [c0, c0b]; exact hr h2 e2
  have c0b : n ≤ 60 := by omega
  by_cases c9 : n < 1
  · have c9b : ¬ (1 : Int) ≤ n := by omega
    simp [c0, c0b, c9, c9b]; exact hr h2 e2
  have c9b : (1 : Int) ≤ n := by omega
  by_cases c1 : (150 : Int) < se.n
  · have c1b : ¬ (se.n : Int) ≤ 150 := by omega
    have c1c : 150 < se.n := by omega
    have c1d : ¬ se.n ≤ 150 := by omega
    simp [c0, c0b, c9, c9b, c1, c1b, c1c, c1d]; exact hr h2 e2
  have c1b : (se.n : Int) ≤ 150 := by omega
  have c1c : ¬ 150 < se.n := by omega
  have c1d : se.n ≤ 150 := by omega
  by_cases c2 : (80 : Int) < ss.n
  · have c2b : ¬ (ss.n : Int) ≤ 80 := by omega
    have c2c : 80 < ss.n := by omega
    have c2d : ¬ ss.n ≤ 80 := by omega
    simp [c0, c0b, c9, c9b, c1, c1b, c1c, c1d, c2, c2b, c2c, c2d]; exact hr h2 e2
  have c2b : (ss.n : Int) ≤ 80 := by omega
  have c2c : ¬ 80 < ss.n := by omega
  have c2d : ss.n ≤ 80 := by omega
  by_cases c3 : (80 : Int) < sd.n
  · have c3b : ¬ (sd.n : Int) ≤ 80 := by omega
    have c3c : 80 < sd.n := by omega
    have c3d : ¬ sd.n ≤ 80 := by omega
    simp [c0, c0b, c9, c9b, c1, c1b, c1c, c1d, c2, c2b, c2c, c2d, c3, c3b, c3c, c3d]; exact hr h2 e2
  have c3b : (sd.n : Int) ≤ 80 := by omega
  have c3c : ¬ 80 < sd.n := by omega
  have c3d : sd.n ≤ 80 := by omega
  simp [c0, c0b, c9, c9b, c1, c1b, c1c, c1d, c2, c2b, c2c, c2d, c3, c3b, c3c, c3d]
  refine rcheckflow_spec L.R.C L.R.A L.R.P (re.ext e2) (rs.ext e2) (rd'.ext e2) (by omega) (by omega) ?_
  intro v h3 e3 f3
  have x3 := e2.trans e3
  obtain ⟨s, rfl⟩ := f3.here.shape
  by_cases k0 : (chkW n es src dst).2 = 0
  rotate_left
  · simp [k0]; exact hr h3 x3
  obtain ⟨N, rfl, ck, _⟩ := chk_ok k0
  have n0 : (N : Int) ≠ 0 := by omega
  have hNp : 0 < N := by omega
  have bN := ck.n
  simp [k0]
  refine wp_loop' (TuI1 N es se ss sd h3) (fun e _ => es.length - argI e 6) ⟨0, Sl.nil, _, _, _, _, _, _, _, _, _, _, _, _, _, _, rfl, by omega, Mod.refl _, Own.nil, fun h => (by cases h)⟩ ?_
  rintro e h4 ⟨i, t, v4, v7, v8, v9, v10, v11, v12, v13, v14, v15, v16, v17, v18, v19, rfl, hi, e4, ot, ft⟩
  have x4 := x3.trans e4
  have tl := ot.1
  rw [pairC_len, turnE_len] at tl
  by_cases c : i < es.length
  · have q1 : (i : Int) < se.n := by omega
    have q2 : i < se.n := by omega
    have w1 : IntKind.i64.wrap ((i : Int) + 1) = (i : Int) + 1 := i64_wrap (by omega)
    obtain ⟨u, v, he, lu, lv⟩ := ck.ends.at c
    have r0 := (re.ext x4).v0 i c
    have r1 := (re.ext x4).v1 i c
    have ti : (i : Int).tmod N = ((i % N : Nat) : Int) := tmod_nat hNp
    have hstep : turnE es N (i + 1) = turnE es N i ++ [((v : Int), (u : Int)), (((i % N : Nat) : Int), ((i % N : Nat) : Int))] := by simp [turnE, he]
    rw [he] at r0 r1
    obtain ⟨x, hx⟩ : ∃ x, i % N = x := ⟨_, rfl⟩
    rw [hx] at ti hstep
    simp [q1, q2, sem_idxa re.ok, r0, r1, ib_rem n0, ti]
    refine ef_bslice_all rfl rfl rfl ?_ (by omega)
    intro b5 h5 g5 B5 e5 o5
    have o5' : Own h5 2 (Sl.at b5 2 2) [.int .i64 v, .int .i64 u, .int .i64 x, .int .i64 x] := o5
    simp
    refine ef_append_own (m := 2) (nw := [.int .i64 v, .int .i64 u, .int .i64 x, .int .i64 x]) (ot.ext' e5) rfl (by rw [srcOf_at]; exact rd_of (l := [.int .i64 v, .int .i64 u, .int .i64 x, .int .i64 x]) fun i v hi => by simpa using o5'.cell hi) rfl (by simp) rfl (by omega) (by omega) ?_
    intro t' h6 o6 n6 m6 f6
    have z4 := e4.size
    have z5 := e5.size
    have e6 : Ext h3 h6 := Mod.ext (e4.trans e5) m6 (fun j hj => by have := ft hj.1; omega)
    have ft' : t'.nl = false → h3.size ≤ t'.b := fun hn => by
      rcases f6 with ⟨f5, f7⟩ | ⟨f5, _⟩
      · rw [f5]; exact ft (by rw [← f7]; exact hn)
      · omega
    simp [w1]
    refine ⟨⟨i + 1, t', _, _, _, _, _, _, _, _, _, _, _, _, _, _, rfl, by omega, e6, by rw [hstep, pairC_app]; simpa [pairC] using o6, ft'⟩, by simp [argI]; omega⟩
  have c' : ¬ (i : Int) < se.n := by omega
  have hi' : i = es.length := by omega
  subst hi'
  have rt := ot.rowE
  have ckb : ChkOK N es dst src := ⟨ck.n, ck.e, ck.ends, ck.ds, ck.sr, fun v h1 h2 => ck.dj v h2 h1⟩
  have ckc : ChkOK N (turnE es N es.length) src dst := ⟨ck.n, by rw [turnE_len]; omega, turnE_in hNp ck.ends (Nat.le_refl _), ck.sr, ck.ds, ck.dj⟩
  have hct : ∀ S, crossE S (turnE es N es.length) = crossE S es := fun S => turnE_cross ck.ends (Nat.le_refl _)
  simp [c']
  refine flmax_spec L.K.M (re.ext x4) (rs.ext x4) (rd'.ext x4) (by omega) (by omega) ?_ ?_
  · intro h5 v e5 _ _ hne
    exact absurd k0 hne
  intro h5 val fl near far sf sn sr e5 pv rf rn rr
  have m := pv.most ck
  simp
  refine ef_new_box ?_
  intro A h6 g6 A6 e6
  simp
  refine ef_store_box A6 rfl rfl (by simp) ?_
  intro h7 A7 m7
  have e7 : Ext h5 h7 := Mod.toExtF e6 m7 g6
  have x7 := (x4.trans e5).trans e7
  simp
  refine flmax_spec L.K.M (re.ext x7) (rd'.ext x7) (rs.ext x7) (by omega) (by omega) ?_ ?_
  · intro h5 v e5 _ _ hne
    exact absurd (by rw [chk_of ckb]; rfl) hne
  intro h8 valb flb nearb farb sfb snb srb e8 pvb rfb rnb rrb
  have mb := pvb.most ckb
  simp
  refine ef_new_box ?_
  intro C h9 g9 C9 e9
  simp
  refine ef_store_box C9 rfl rfl (by simp) ?_
  intro h10 C10 m10
  have e10 : Ext h8 h10 := Mod.toExtF e9 m10 g9
  have x10 := (x7.trans e8).trans e10
  simp
  refine flmax_spec L.K.M (rt.ext ((e5.trans e7).trans (e8.trans e10))) (rs.ext x10) (rd'.ext x10) (by omega) (by omega) ?_ ?_
  · intro h5 v e5 _ _ hne
    exact absurd (by rw [chk_of ckc]; rfl) hne
  intro h11 valc flc nearc farc sfc snc src' e11 pvc rfc rnc rrc
  have mc := pvc.most ckc
  simp
  refine ef_new_box ?_
  intro D h12 g12 D12 e12
  simp
  refine ef_store_box D12 rfl rfl (by simp) ?_
  intro h13 D13 m13
  have e13 : Ext h11 h13 := Mod.toExtF e12 m13 g12
  have y13 : Ext h10 h13 := e11.trans e13
  have x13 := x10.trans y13
  have A13 : Blk h13 A _ := A7.ext ((e8.trans e10).trans y13)
  have C13 : Blk h13 C _ := C10.ext y13
  have na : near.length = N := by simpa using pv.nlen
  have fa : far.length = N := by simpa using pv.flen
  have nb : nearb.length = N := by simpa using pvb.nlen
  have fb : farb.length = N := by simpa using pvb.flen
  have nc : nearc.length = N := by simpa using pvc.nlen
  have fc : farc.length = N := by simpa using pvc.flen
  have s1 : sn.n = N := by rw [← rn.len]; exact na
  have s2 : sr.n = N := by rw [← rr.len]; exact fa
  have s3 : snb.n = N := by rw [← rnb.len]; exact nb
  have s4 : srb.n = N := by rw [← rrb.len]; exact fb
  obtain ⟨v1, back⟩ := m.back mb (fun S => by rw [crossE_any, crossE_any])
  obtain ⟨v2, same⟩ := m.same mc (fun S => by rw [crossE_any, crossE_any, hct])
  have en : near = nearc := bools_eq (by omega) fun j hj => (same j (by omega)).1
  have ef : far = farc := bools_eq (by omega) fun j hj => (same j (by omega)).2
  have ya : Ext h5 h13 := e7.trans ((e8.trans e10).trans y13)
  have yb : Ext h8 h13 := e10.trans y13
  have rn13 := rn.ext ya
  have rr13 := rr.ext ya
  have rnb13 := rnb.ext yb
  have rrb13 := rrb.ext yb
  have rnc13 := rnc.ext e13
  have rrc13 := rrc.ext e13
  have idx : ∀ (q : Sl), q.ok → q.n = N → ∀ g (z : Nat), z < N → IOp.sem Y g (.idxa 1) [q.v, .int .i64 z] = some (.pointer (some ⟨q.b, q.o + z, none⟩)) := fun q ok hq g z lz => by
    rw [sem_idxa ok (by omega) (by omega)]; simp
  simp [A13.hc, C13.hc, s1, s2, s3, s4]
  refine wp_loop' (TuI2 N A C D t.v .nilIface .nilIface .nilIface se ss sd h13) (fun e _ => N - argI e 13) ⟨0, _, _, _, _, _, _, _, _, rfl, by omega, Mod.refl _⟩ ?_
  rintro e h14 ⟨v, v4, v6, v14, v15, v16, v17, v18, v19, rfl, hi14, e14⟩
  have x14 := x13.trans e14
  have A14 := A13.ext e14
  have C14 := C13.ext e14
  have D14 := D13.ext e14
  by_cases k : v < N
  · have k' : (v : Int) < N := by omega
    have w1 : IntKind.i64.wrap ((v : Int) + 1) = (v : Int) + 1 := i64_wrap (by omega)
    have p1 := (rn13.ext e14).val v (by omega)
    have p2 := (rr13.ext e14).val v (by omega)
    have p3 := (rnb13.ext e14).val v (by omega)
    have p4 := (rrb13.ext e14).val v (by omega)
    obtain ⟨b1, b2⟩ := back v k
    rw [b1] at p3
    rw [b2] at p4
    simp [k, k', A14.hc, C14.hc, idx _ rn.ok s1 _ _ k, idx _ rr.ok s2 _ _ k, idx _ rnb.ok s3 _ _ k, idx _ rrb.ok s4 _ _ k, p1, p2, p3, p4, w1]
    refine ⟨⟨v + 1, _, _, _, _, _, _, _, _, rfl, by omega, e14⟩, by simp [argI]; omega⟩
  have k' : ¬ (v : Int) < N := by omega
  subst v1 v2 en ef
  simp [k', A14.hc, C14.hc, D14.hc]
  refine sameB_spec L.K.same (rn13.ext e14) (rnc13.ext e14) (by omega) ?_
  simp [A14.hc, D14.hc]
  refine sameB_spec L.K.same (rr13.ext e14) (rrc13.ext e14) (by omega) ?_
  simp
  exact hr h14 x14
end
end Go.Rm
