import Derived.Test.YtmamhkolgnoefaaDoorRLaw9

/- The laws of flows: FlowMore. -/
set_option linter.unusedSimpArgs false
set_option linter.unusedVariables false
namespace Go.Rm
def crossE (S : Nat → Bool) (es : List (Int × Int)) : Int := crossS S (edL es [])
theorem crossE_any {S : Nat → Bool} {es : List (Int × Int)} {fl : List Int} : crossS S (edL es fl) = crossE S es := by
  apply crossS_uv
  simp [edL, Ed.uv]
theorem nthE_app {es : List (Int × Int)} {e : Int × Int} {i : Nat} (hi : i < es.length) : nthE (es ++ [e]) i = nthE es i := by
  simp [nthE, List.getElem?_append_left hi]
theorem nthE_last {es : List (Int × Int)} {e : Int × Int} : nthE (es ++ [e]) es.length = e := by simp [nthE]
theorem crossE_app {S : Nat → Bool} {es : List (Int × Int)} {x y : Nat} : crossE S (es ++ [((x : Int), (y : Int))]) = crossE S es + (if S x ≠ S y then 1 else 0) := by
  unfold crossE
  have : edL (es ++ [((x : Int), (y : Int))]) [] = edL es [] ++ [⟨x, y, nthI [] es.length⟩] := by
    unfold edL
    rw [List.length_append, List.length_singleton, List.range_succ, List.map_append, List.map_singleton, nthE_last]
    congr 1
    refine List.map_congr_left fun i hi => ?_
    rw [nthE_app (List.mem_range.1 hi)]
  rw [this, crossS_app]
  simp [crossS]
theorem EsIn.app {N x y : Nat} {es : List (Int × Int)} (h : EsIn N es) (hx : x < N) (hy : y < N) : EsIn N (es ++ [((x : Int), (y : Int))]) := by
  intro i hi
  by_cases c : i < es.length
  · rw [nthE_app c]; exact h i c
  · have : i = es.length := by simp at hi; omega
    subst this
    rw [nthE_last]
    simp [inE, inV]; omega
theorem val_bound {N : Nat} {es : List (Int × Int)} {fl : List Int} {A B : Nat → Prop} {val : Int} {near far : Nat → Bool} (m : MaxOf N (edL es fl) A B val near far) : 0 ≤ val ∧ val ≤ es.length := by
  have h := m.crossNear
  have h2 := crossS_len (S := near) (L := edL es fl)
  have h3 : ∀ {L : List Ed}, 0 ≤ crossS near L := by
    intro L
    induction L with
    | nil => simp [crossS]
    | cons a r ih => simp only [crossS]; split <;> omega
  have := h3 (L := edL es fl)
  simp only [edL, List.length_map, List.length_range] at h2
  simp only [edL] at h this
  omega
theorem tmod_nat {a N : Nat} (hN : 0 < N) : (a : Int).tmod N = ((a % N : Nat) : Int) := by
  rw [Int.tmod_eq_emod_of_nonneg (by omega)]; simp
section
variable {Y : Sys} {h h' : Heap}
theorem flowmore_law (L : FlowLaw Y) (H : Y.Has F.rlaw9_FlowMore S_rlaw9_FlowMore) (E : ErrSys Y) (hg : hc h E.gb 0 = some E.hv) {n : Int} {a b : Nat} {se ss sd : Sl} {es : List (Int × Int)} {src dst : List Int}
    (re : RowE h se es) (rs : Row64 h ss src) (rd' : Row64 h sd dst) (ha : a < 65536) (hb : b < 65536)
    {R : Value → Heap → Prop} (hr : ∀ h', Ext h h' → R (.bool true) h') :
    CallP Y F.rlaw9_FlowMore [.int .i64 n, se.v, ss.v, sd.v, .int .u16 a, .int .u16 b] h R := by
  have le := re.len
  have ls := rs.len
  have ld := rd'.len
  refine .of_has H rfl ?_
  simp [S_rlaw9_FlowMore, FnS.wp]
  refine known_spec L.K E hg ?_
  intro h2 e2
  simp
  by_cases c0 : (60 : Int) < n
  · have c0b : ¬ n ≤ 60 := by omega
    simp [c0, c0b]; exact hr h2 e2
  have c0b : n ≤ 60 := by omega
  by_cases c9 : n < 1
  · have c9b : ¬ (1 : Int) ≤ n := by omega
    simp [c0, c0b, c9, c9b]; exact hr h2 e2
  have c9b : (1 : Int) ≤ n := by omega
  by_cases c1 : (150 : Int) < se.n
  · have c1b : ¬ (se.n : Int) ≤ 150 := by omega
    have c1c : 150 < se.n := by omega
    have c1d : ¬ se.n ≤ 150 := by omega
    simp [c0, c0b, c9, c9b, c1, c1b, c1c, c1d]; exact hr h2 e2
  have c1b : (se.n : Int) ≤ 150 := by omega
  have c1c : ¬ 150 < se.n := by omega
  have c1d : se.n ≤ 150 := by omega
  by_cases c2 : (80 : Int) < ss.n
  · have c2b : ¬ (ss.n : Int) ≤ 80 := by omega
    have c2c : 80 < ss.n := by omega
    have c2d : ¬ ss.n ≤ 80 := by omega
    simp [c0, c0b, c9, c9b, c1, c1b, c1c, c1d, c2, c2b, c2c, c2d]; exact hr h2 e2
  have c2b : (ss.n : Int) ≤ 80 := by omega
  have c2c : ¬ 80 < ss.n := by omega
  have c2d : ss.n ≤ 80 := by omega
  by_cases c3 : (80 : Int) < sd.n
  · have c3b : ¬ (sd.n : Int) ≤ 80 := by omega
    have c3c : 80 < sd.n := by omega
    have c3d : ¬ sd.n ≤ 80 := by omega
    simp [c0, c0b, c9, c9b, c1, c1b, c1c, c1d, c2, c2b, c2c, c2d, c3, c3b, c3c, c3d]; exact hr h2 e2
  have c3b : (sd.n : Int) ≤ 80 := by omega
  have c3c : ¬ 80 < sd.n := by omega
  have c3d : sd.n ≤ 80 := by omega
  simp [c0, c0b, c9, c9b, c1, c1b, c1c, c1d, c2, c2b, c2c, c2d, c3, c3b, c3c, c3d]
  refine rcheckflow_spec L.R.C L.R.A L.R.P (re.ext e2) (rs.ext e2) (rd'.ext e2) (by omega) (by omega) ?_
  intro v h3 e3 f3
  have x3 := e2.trans e3
  obtain ⟨s, rfl⟩ := f3.here.shape
  by_cases k0 : (chkW n es src dst).2 = 0
  rotate_left
  · simp [k0]; exact hr h3 x3
  obtain ⟨N, rfl, ck, _⟩ := chk_ok k0
  have n0 : (N : Int) ≠ 0 := by omega
  have n0' : N ≠ 0 := by omega
  have wa : IntKind.i64.wrap (a : Int) = a := i64_wrap (by omega)
  have wb : IntKind.i64.wrap (b : Int) = b := i64_wrap (by omega)
  have lx : a % N < N := Nat.mod_lt _ (by omega)
  have ly : b % N < N := Nat.mod_lt _ (by omega)
  have ta : (a : Int).tmod N = ((a % N : Nat) : Int) := tmod_nat (by omega)
  have tb : (b : Int).tmod N = ((b % N : Nat) : Int) := tmod_nat (by omega)
  obtain ⟨x, hx⟩ : ∃ x, a % N = x := ⟨_, rfl⟩
  obtain ⟨y, hy⟩ : ∃ y, b % N = y := ⟨_, rfl⟩
  rw [hx] at lx ta
  rw [hy] at ly tb
  clear hx hy
  simp [k0, wa, wb, ib_rem n0, ta, tb]
  refine flmax_spec L.K.M (re.ext x3) (rs.ext x3) (rd'.ext x3) (by omega) (by omega) ?_ ?_
  · intro h5 v e5 _ _ hne
    exact absurd k0 hne
  intro h4 val fl near far sf sn sr e4 pv rf rn rr
  have x4 := x3.trans e4
  have m := pv.most ck
  simp
  refine ef_new_box ?_
  intro B h5 g5 B5 e5
  simp
  refine ef_store_box B5 rfl rfl (by simp) ?_
  intro h6 B6 m6
  have e6 : Ext h4 h6 := Mod.toExtF e5 m6 g5
  have x6 := x4.trans e6
  simp
  refine copies_spec L.K.copies (re.ext x6) (by omega) ?_
  intro h7 s7 e7 o7 nl7 b7
  have x7 := x6.trans e7
  simp
  refine ef_bslice_all rfl rfl rfl ?_ (by omega)
  intro b8 h8 g8 B8 e8 o8
  have x8 := x7.trans e8
  have o8' : Own h8 2 (Sl.at b8 1 1) [.int .i64 x, .int .i64 y] := o8
  have l7 := o7.1
  rw [pairC_len] at l7
  simp
  refine ef_append_own (m := 1) (nw := [.int .i64 x, .int .i64 y]) (o7.ext' e8) rfl (by rw [srcOf_at]; exact rd_of (l := [.int .i64 x, .int .i64 y]) fun i v hi => by simpa using o8'.cell hi) rfl (by simp) rfl (by omega) (by omega) ?_
  intro s9 h9 o9 n9 m9 f9
  have o9' : Own h9 2 s9 (pairC (es ++ [((x : Int), (y : Int))])) := by
    rw [pairC_app]
    exact o9
  have x9 : Ext h h9 := Mod.ext x8 m9 (fun j hj => by have := x6.size; omega)
  have ck' : ChkOK N (es ++ [((x : Int), (y : Int))]) src dst := ⟨ck.n, by simp; omega, ck.ends.app lx ly, ck.sr, ck.ds, ck.dj⟩
  simp
  refine flmax_spec L.K.M o9'.rowE (rs.ext x9) (rd'.ext x9) (by omega) (by omega) ?_ ?_
  · intro h5 v e5 _ _ hne
    exact absurd (by rw [chk_of ck']; rfl) hne
  intro h10 val' fl' near' far' sf' sn' sr' e10 pv' rf' rn' rr'
  have x10 := x9.trans e10
  have m' := pv'.most ck'
  simp
  refine ef_new_box ?_
  intro B' h11 g11 B11 e11
  simp
  refine ef_store_box B11 rfl rfl (by simp) ?_
  intro h12 B12 m12
  have e12 : Ext h10 h12 := Mod.toExtF e11 m12 g11
  have x12 := x10.trans e12
  have y12 : Mod (fun j => j = s7.b) h6 h12 := (((Mod.mono (e7.trans e8) (fun _ _ h => h.elim)).then m9 (fun j _ h => h.2)).then e10 (fun _ _ h => h.elim)).then e12 (fun _ _ h => h.elim)
  have lB6 := B6.lt
  have B13 := y12.blk B6 (by omega)
  have sf13 : RowM h12 sn near := rn.ext (e6.trans (Mod.ext ((e7.trans e8)) m9 (fun j hj => by omega) |>.trans (e10.trans e12)))
  have sr13 : RowM h12 sr far := rr.ext (e6.trans (Mod.ext ((e7.trans e8)) m9 (fun j hj => by omega) |>.trans (e10.trans e12)))
  have nl1 : near.length = N := by simpa using pv.nlen
  have fl1 : far.length = N := by simpa using pv.flen
  have sn1 : sn.n = N := by rw [← rn.len]; exact nl1
  have sr1 : sr.n = N := by rw [← rr.len]; exact fl1
  have p1 := sf13.val x (by omega)
  have p2 := sf13.val y (by omega)
  have p3 := sr13.val x (by omega)
  have p4 := sr13.val y (by omega)
  have i1 : ∀ g (z : Nat), z < N → IOp.sem Y g (.idxa 1) [sn.v, .int .i64 z] = some (.pointer (some ⟨sn.b, sn.o + z, none⟩)) := fun g z lz => by
    rw [sem_idxa rn.ok (by omega) (by omega)]; simp
  have i2 : ∀ g (z : Nat), z < N → IOp.sem Y g (.idxa 1) [sr.v, .int .i64 z] = some (.pointer (some ⟨sr.b, sr.o + z, none⟩)) := fun g z lz => by
    rw [sem_idxa rr.ok (by omega) (by omega)]; simp
  have more := m.more m' lx ly (fun S => by rw [crossE_any, crossE_any, crossE_app])
  have vb := val_bound m
  have wv : IntKind.i64.wrap (val + 1) = val + 1 := i64_wrap (by omega)
  have ne1 : ¬ val + 1 = val := by omega
  have ne2 : ¬ val = val + 1 := by omega
  have fin := hr h12 x12
  clear y12 m9 m12 m6 f9 pv pv' m m' hr
  cases q1 : nthM near x <;> cases q2 : nthM near y <;> cases q3 : nthM far x <;> cases q4 : nthM far y <;> simp only [q1, q2, q3, q4] at p1 p2 p3 p4 more <;> simp at more <;> subst more <;>
    simp [B13.hc, B12.hc, sn1, sr1, i1 _ _ lx, i1 _ _ ly, i2 _ _ lx, i2 _ _ ly, p1, p2, p3, p4, wv, ne1, ne2] <;> exact fin
end
end Go.Rm
