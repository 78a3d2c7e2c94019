import Derived.Test.YtnbciaekpbadmaaDoorRFile12
import Derived.Test.YtnbciaekpbadmaaDoorRLaw5
import Derived.Test.YtnbciaekpbadmaaDoorRNet16

/- The laws of nets in bytes: the known net. -/
set_option linter.unusedSimpArgs false
set_option linter.unusedVariables false
namespace Go.Rm

structure FileLaw (Y : Sys) : Prop where
  Ps : FilePs Y
  En : FileEn Y
  Hx : FileHx Y
  D : DocRd Y
  DE : DocEn Y
  NF : NetFns Y
  T : TurnCk Y
  RN : RefNet Y
  RT : RefCkS Y
  PR : Y.Has F.rref6_Parse S_rref6_Parse
  SameNet : Y.Has F.rref6_SameNet S_rref6_SameNet
  To3 : Y.Has F.rlaw3_To S_rlaw3_To
  To2 : Y.Has F.rlaw2_To S_rlaw2_To
  Of3 : Y.Has F.rlaw3_Of S_rlaw3_Of
  Of2 : Y.Has F.rlaw2_Of S_rlaw2_Of
  Few : Y.Has F.rlaw3_Few S_rlaw3_Few
  May : Y.Has F.rlaw3_May S_rlaw3_May
  Tells : Y.Has F.rlaw1_Tells S_rlaw1_Tells
  known : Y.Has F.rlaw5_known S_rlaw5_known

def knownF : NetD := ⟨[⟨3, -1, 0⟩], [⟨0, 0, 9⟩], [⟨1, 1, [1152921504606846976]⟩]⟩
def knownB : List Nat := [82, 78, 68, 49, 1, 1, 1, 1, 1, 0, 6, 1, 0, 0, 0, 10] ++ sumB [82, 78, 68, 49, 1, 1, 1, 1, 1, 0, 6, 1, 0, 0, 0, 10]
theorem knownF_enc : encR knownF = (knownB, wOK) := by decide +kernel
theorem knownF_par : parseR knownB = (knownF, wOK) := (encode_parse knownF_enc).2.2.2.2.2
theorem knownF_ok : NetOK knownF := (encode_parse knownF_enc).1
theorem knownS_par : parseR [82, 78, 68, 49, 0, 0, 0] = (N0, atW wFile 0 3) := by decide +kernel

section
variable {Y : Sys} {h h' : Heap}

theorem fw_kind {a e : Int} : ((atW wFile a e).2 ≠ 0 → 0 < (atW wFile a e).1.length) ∧ (atW wFile a e).1.length ≤ 4 := ⟨fun _ => by simp [atW], by simp [atW]⟩

theorem ef_bslice7 {K : Value → Heap → Prop} {z : Value} {k : IntKind} {a b c d e f g : Int} :
    Ef.wp h K (.bslice 7 1 #[z] [0, 1, 2, 3, 4, 5, 6]) [.int k a, .int k b, .int k c, .int k d, .int k e, .int k f, .int k g] = ∀ t : TypeId, K (.slice (some ⟨h.size, 0, none⟩) 7 7) (h.push (.cells #[.int k a, .int k b, .int k c, .int k d, .int k e, .int k f, .int k g] t)) := by
  have e : Instr.fill (fun i => some (i * 1, 1)) (zeros #[z] (7 * 1)) ([0, 1, 2, 3, 4, 5, 6].zip [.int k a, .int k b, .int k c, .int k d, .int k e, .int k f, .int k g]) = some #[.int k a, .int k b, .int k c, .int k d, .int k e, .int k f, .int k g] := by
    simp [Instr.fill, zeros_one]
    rfl
  simp only [Ef.wp, e]

theorem ef_bslice3_box {K : Value → Heap → Prop} {z0 z1 z2 x y z : Value} (hk : ∀ (b : Nat) (h' : Heap), h.size ≤ b → Blk h' b #[x, y, z] → Ext h h' → K (.slice (some ⟨b, 0, none⟩) 1 1) h') :
    Ef.wp h K (.bslice 1 3 #[z0, z1, z2] [0]) [.agg #[x, y, z]] := by
  rw [ef_bslice3]
  exact fun t => hk _ _ (Nat.le_refl _) Blk.new Mod.push
theorem ef_bslice1_box {K : Value → Heap → Prop} {z v : Value} (hv : v.oneCell' = true) (hk : ∀ (b : Nat) (h' : Heap), h.size ≤ b → Blk h' b #[v] → Ext h h' → K (.slice (some ⟨b, 0, none⟩) 1 1) h') :
    Ef.wp h K (.bslice 1 1 #[z] [0]) [v] := by
  rw [ef_bslice1 hv]
  exact fun t => hk _ _ (Nat.le_refl _) Blk.new Mod.push

theorem may5_spec (L : FileLaw Y) {sv sa st : Sl} {N : NetD} (r : NetH h sv sa st N) {R : Value → Heap → Prop} (hr : ∀ h', Ext h h' → R (.bool (mayD N)) h') : CallP Y F.rlaw3_May [netV sv sa st] h R := by
  refine .of_has L.May rfl ?_
  simp [S_rlaw3_May, FnS.wp, netV]
  refine ef_new_box ?_
  intro B hB gB bB eB
  simp [rd_blk bB]
  refine few_spec L.Few (r.ext eB) ?_
  intro h1 e1
  have x1 := eB.trans e1
  by_cases c : fewD N = true
  rotate_left
  · have c' : fewD N = false := by simpa using c
    simp [mayD, c'] at hr
    simp [c']
    exact hr _ x1
  simp [mayD, c] at hr
  simp [c, rd_blk (bB.ext e1)]
  refine rchecknet_spec L.RN L.RT (r.ext x1) ?_
  intro h2 v e2 hv
  obtain ⟨s5, rfl⟩ := hv.here.shape
  simp
  exact hr _ (x1.trans e2)

theorem kRow3 {b : Nat} {x y z : Int} (B : Blk h b #[.int .i64 x, .int .i64 y, .int .i64 z]) : Row3 h (Sl.at b 1 1) [⟨x, y, z⟩] := by
  refine ⟨⟨fun h => (by cases h), by simp, .inl rfl⟩, rfl, fun i hi => ?_, fun i hi => ?_, fun i hi => ?_⟩
  all_goals
    simp only [List.length_singleton, Nat.lt_one_iff] at hi
    subst hi
    simp [B.hc, nthT]

theorem known5_spec (L : FileLaw Y) (E : ErrSys Y) (hg : hc h E.gb 0 = some E.hv) {R : Value → Heap → Prop} (hr : ∀ h', Ext h h' → R (.bool true) h') : CallP Y F.rlaw5_known [] h R := by
  refine .of_has L.known rfl ?_
  simp [S_rlaw5_known, FnS.wp, sem_bld12, sem_bld3]
  refine ef_bslice3_box ?_
  intro b1 h1 g1 V1 e1
  simp [sem_bld3]
  refine ef_bslice3_box ?_
  intro b2 h2 g2 A2 e2
  simp
  refine ef_bslice1_box rfl ?_
  intro b3 h3 g3 C3 e3
  simp
  refine ef_bslice3_box ?_
  intro b4 h4 g4 T4 e4
  have x4 := ((e1.trans e2).trans e3).trans e4
  have rN : NetH h4 (Sl.at b1 1 1) (Sl.at b2 1 1) (Sl.at b4 1 1) knownF := by
    refine ⟨(kRow3 V1).ext ((e2.trans e3).trans e4), (kRow3 A2).ext (e3.trans e4), ⟨⟨fun h => (by cases h), by simp, .inl rfl⟩, rfl, fun i hi => ?_⟩⟩
    simp only [knownF, List.length_singleton, Nat.lt_one_iff] at hi
    subst hi
    refine ⟨Sl.at b3 1 1, by simp [T4.hc, knownF, nthB], by simp [T4.hc, knownF, nthB], by simp [T4.hc], ⟨⟨fun h => (by cases h), by simp, .inl rfl⟩, rfl, fun j hj => ?_⟩⟩
    simp only [knownF, nthB, List.getD_cons_zero, List.length_singleton, Nat.lt_one_iff] at hj
    subst hj
    simp [(C3.ext e4).hc, knownF, nthB, nthI]
  simp
  refine ef_new_box ?_
  intro B h5 g5 B5p e5
  simp
  refine ef_store_box (vs := #[(Sl.at b1 1 1).v, (Sl.at b2 1 1).v, (Sl.at b4 1 1).v]) B5p rfl rfl (by simp) ?_
  intro h6 B6 m6
  have e46 := e5.toExt m6 g5
  have x6 := x4.trans e46
  have r6 := rN.ext e46
  simp [B6.rk]
  refine to3_spec (sv := Sl.at b1 1 1) (sa := Sl.at b2 1 1) (st := Sl.at b4 1 1) L.To3 L.To2 r6 (by decide) (by decide) (by decide) (ok_small knownF_ok).bc ?_
  intro h7 s1 s2 s3 e7 r7
  simp
  refine fencode_spec L.En L.NF L.T r7 ?_
  intro h8 s8 v8 e8 row8 sp8 _ er8
  rw [knownF_enc] at row8 er8
  have hv8 := er8.here.nil rfl
  subst hv8
  have n8 := row8.len
  have n8' : s8.n = 20 := by rw [← n8]; rfl
  simp
  refine fparse_spec L.Ps L.NF L.T row8 sp8 (by omega) ?_
  intro h9 a1 a2 a3 v9 e9 fn9 er9
  rw [knownF_par] at fn9 er9
  have hv9 := er9.here.nil rfl
  subst hv9
  simp [netV]
  refine ef_new_box ?_
  intro C h10 g10 C10 e10
  simp
  refine ef_store_box C10 rfl rfl (by simp) ?_
  intro h11 C11 m11
  have e911 := e10.toExt m11 g10
  simp [ef_bslice7]
  intro t12
  refine ef_b2b_laid (l := [82, 78, 68, 49, 0, 0, 0]) (by decide) ?_
  intro h12 e12 ap12
  simp
  refine fparse_spec (s := Sl.at h11.size 7 7) L.Ps L.NF L.T ap12.row rfl (by simp) ?_
  intro h13 b1 b2 b3 v13 e13 _ er13
  rw [knownS_par] at er13
  simp [netV]
  refine ef_new_box ?_
  intro D h14 g14 D14 e14
  simp
  refine ef_store_box D14 rfl rfl (by simp) ?_
  intro h15 D15 m15
  have e1315 := e14.toExt m15 g14
  have er15 := er13.ext e1315
  simp
  refine unhex4_spec L.Hx ?_
  intro h16 bx e16 gx X16
  simp
  refine unhex3_spec L.Hx ?_
  intro h17 v17 e17 er17 i17
  have x68 := e7.trans e8
  have x817 := ((((e9.trans e911).trans e12).trans e13).trans e1315).trans (e16.trans e17)
  have row17 := row8.ext x817
  obtain ⟨sc, qc, rc, spc, _, nc⟩ := row17.slcHi (Y := Y) (k := 4) (by rw [n8, n8']; decide)
  replace qc : ∀ h', IOp.sem Y h' (.slc 1 false true) [s8.v, .int .i64 4] = some sc.v := qc
  obtain ⟨sm, qm, rm, spm, _, nm⟩ := row17.slcMid (Y := Y) (a := 4) (e := 16) (n := 12) rfl (by rw [n8, n8']; decide)
  replace qm : ∀ h', IOp.sem Y h' (.slc 1 true true) [s8.v, .int .i64 4, .int .i64 16] = some sm.v := qm
  have q1 := sem_b2s (Y := Y) rc (by rw [spc]; exact sp8)
  have q2 := sem_b2s (Y := Y) rm (by rw [spm]; exact sp8)
  have w1 : IntKind.i64.wrap ((20 : Int) - 4) = 16 := rfl
  have w1' : IntKind.i64.wrap 16 = 16 := rfl
  have k1 : knownB.take 4 = hdB := rfl
  have k2 : (knownB.drop 4).take 12 = [1, 1, 1, 1, 1, 0, 6, 1, 0, 0, 0, 10] := rfl
  rw [k1] at q1
  rw [k2] at q2
  have k3 : (⟨#[1, 1, 1, 1, 1, 0, 6, 1, 0, 0, 0, 10]⟩ : ByteArray) = strB [1, 1, 1, 1, 1, 0, 6, 1, 0, 0, 0, 10] := rfl
  have k4 : sbin .eql (strB hdB) (strB hdB) = some (.bool true) := by rw [sb_eq (by decide) (by decide)]; simp
  have k5 : sbin .eql (strB [1, 1, 1, 1, 1, 0, 6, 1, 0, 0, 0, 10]) (strB [1, 1, 1, 1, 1, 0, 6, 1, 0, 0, 0, 10]) = some (.bool true) := by rw [sb_eq (by decide) (by decide)]; simp
  have C17 : Blk h17 C #[a1.v, a2.v, a3.v] := C11.ext (((e12.trans e13).trans e1315).trans (e16.trans e17))
  have B17 := B6.ext (x68.trans x817)
  simp [n8', qc, q1, hdB_str, k4, w1, w1', qm, q2, k3, k5, rd_blk C17, rd_blk B17]
  have nn17 := (fn9.ext e911).ext (((e12.trans e13).trans e1315).trans (e16.trans e17))
  have ks := ok_small knownF_ok
  refine of3_spec L.Of3 L.Of2 nn17.here ks.bv ks.ba ks.bt ks.bc ?_
  intro h18 c1 c2 c3 e18 r18
  have r18' := r6.ext ((x68.trans x817).trans e18)
  have B18 := B17.ext e18
  simp [netV, rd_blk B18]
  refine rsamenet_spec L.SameNet L.RT r18 r18' ks ?_
  intro h19 e19
  simp
  refine rat_spec L.D.At ?_
  intro h20 w20 e20 hw20
  have x020 := (((x6.trans (x68.trans x817)).trans e18).trans e19).trans e20
  simp
  refine tells_spec L.Tells E (e20.hc ((e18.trans e19).hc ((x6.trans (x68.trans x817)).hc hg (fun h => h)) (fun h => h)) (fun h => h)) hw20.here (er15.ext ((e16.trans e17).trans ((e18.trans e19).trans e20))).here fw_kind.1 fw_kind.2 ?_
  intro h21 e21
  have X21 := X16.ext (e17.trans (((e18.trans e19).trans e20).trans e21))
  have o21 : RowB h21 (Sl.at bx 2 2) [10, 255] := ⟨⟨fun h => (by cases h), by simp, .inl rfl⟩, rfl, fun i hi => by
    match i, hi with
    | 0, _ => simp [X21.hc, nth]
    | 1, _ => simp [X21.hc, nth], lt_mem (by decide)⟩
  have q3 := sem_b2s (Y := Y) o21 rfl
  replace q3 : IOp.sem Y h21 .b2s [.slice (some ⟨bx, 0, none⟩) 2 2] = some (.string (strB [10, 255])) := q3
  have k6 : (⟨#[10, 255]⟩ : ByteArray) = strB [10, 255] := rfl
  have k7 : sbin .eql (strB [10, 255]) (strB [10, 255]) = some (.bool true) := by rw [sb_eq (by decide) (by decide)]; simp
  simp [q3, k6, k7]
  refine hex2_spec L.Hx X21 ?_
  intro h22 e22
  have k8 : (⟨#[48, 97, 102, 102]⟩ : ByteArray) = strB [48, 97, 102, 102] := rfl
  have k9 : sbin .eql (strB [48, 97, 102, 102]) (strB [48, 97, 102, 102]) = some (.bool true) := by rw [sb_eq (by decide) (by decide)]; simp
  simp [k8, k9]
  refine rat_spec L.D.At ?_
  intro h23 w23 e23 hw23
  simp
  refine tells_spec L.Tells E ((((x020.trans e21).trans e22).trans e23).hc hg (fun h => h)) hw23.here (er17.ext (((((e18.trans e19).trans e20).trans e21).trans e22).trans e23)).here fw_kind.1 fw_kind.2 ?_
  intro h24 e24
  simp
  exact hr h24 ((((x020.trans e21).trans e22).trans e23).trans e24)
end
end Go.Rm

/- The laws of nets in bytes: FileEncodes, FileApart. -/
set_option linter.unusedSimpArgs false
set_option linter.unusedVariables false
namespace Go.Rm

theorem encR_ok {N : NetD} (h : (encR N).2.2 = 0) : encR N = ((encR N).1, wOK) := by
  unfold encR at *
  split at h
  · rename_i g; simp only at h; exact absurd h g
  · split at h
    · simp [atW] at h
    · rename_i g1 g2
      rw [if_neg g1, if_neg g2]

section
variable {Y : Sys} {h h' : Heap}

theorem few_bc {N : NetD} (hf : fewD N = true) : N.vs.length ≤ 1000 ∧ N.as.length ≤ 1000 ∧ N.ts.length ≤ 1000 ∧ ∀ i, i < N.ts.length → (nthB N.ts i).cs.length ≤ 1000000 := by
  obtain ⟨a, b, c, d⟩ := fewD_iff.1 hf
  exact ⟨by omega, by omega, by omega, fun i hi => by have := d i hi; omega⟩

theorem fileencodes_spec (L : FileLaw Y) (HM : Y.Has F.rlaw5_FileEncodes S_rlaw5_FileEncodes) (E : ErrSys Y) (hg : hc h E.gb 0 = some E.hv) {sv sa st : Sl} {N : NetD} (r : NetH h sv sa st N) {R : Value → Heap → Prop} (hr : ∀ h', Ext h h' → R (.bool true) h') :
    CallP Y F.rlaw5_FileEncodes [netV sv sa st] h R := by
  refine .of_has HM rfl ?_
  simp [S_rlaw5_FileEncodes, FnS.wp, netV]
  refine ef_new_box ?_
  intro B h1 g1 B1 e1
  simp
  refine known5_spec L E (e1.hc hg (fun h => h)) ?_
  intro h2 e2
  have x2 := e1.trans e2
  simp [rd_blk (B1.ext e2)]
  refine few_spec L.Few (r.ext x2) ?_
  intro h3 e3
  have x3 := x2.trans e3
  by_cases hf : fewD N = true
  rotate_left
  · have hf' : fewD N = false := by simpa using hf
    simp [hf']
    exact hr _ x3
  obtain ⟨bv, ba, bt, bc⟩ := few_bc hf
  simp [hf, rd_blk (B1.ext (e2.trans e3))]
  refine to3_spec L.To3 L.To2 (r.ext x3) bv ba bt bc ?_
  intro h4 s1 s2 s3 e4 r4
  have x4 := x3.trans e4
  simp
  refine fencode_spec L.En L.NF L.T r4 ?_
  intro h5 s5 v5 e5 row5 sp5 lo5 er5
  have x5 := x4.trans e5
  simp [rd_blk (B1.ext (((e2.trans e3).trans e4).trans e5))]
  refine dencode_spec L.DE L.RN L.RT (r.ext x5) ?_
  intro h6 s6 v6 e6 row6 sp6 lo6 wr6
  have x6 := x5.trans e6
  obtain ⟨s7, rfl⟩ := wr6.here.shape
  simp
  refine ef_new_box ?_
  intro C h7 g7 C7 e7
  simp
  refine ef_store_box C7 rfl rfl (by simp) ?_
  intro h8 C8 m8
  have e68 := e7.toExt m8 g7
  have x8 := x6.trans e68
  simp [rd_blk C8]
  refine tells_spec L.Tells E (x8.hc hg (fun h => h)) (wr6.ext e68).here (er5.ext (e6.trans e68)).here enc_parts.1 enc_parts.2 ?_
  intro h9 e9
  have x9 := x8.trans e9
  have row59 := row5.ext ((e6.trans e68).trans e9)
  have row69 := row6.ext (e68.trans e9)
  have q1 := sem_b2s (Y := Y) row59 sp5
  have q2 := sem_b2s (Y := Y) row69 sp6
  have q3 := sb_ne (mem_lt row59.lt) (mem_lt row69.lt)
  simp at q3
  have C9 := C8.ext e9
  simp [q1, q2, q3, C9.hc]
  by_cases hw : (encR N).2.2 = 0
  rotate_left
  · simp [hw]
    exact hr _ x9
  have he := encR_ok hw
  obtain ⟨ok, hb, l1, l2, hlt, hp⟩ := encode_parse he
  simp [hw]
  refine fparse_spec L.Ps L.NF L.T row59 sp5 (by have := row59.len; omega) ?_
  intro h10 a1 a2 a3 v10 e10 fn10 er10
  rw [hp] at fn10 er10
  have hv10 := er10.here.nil rfl
  subst hv10
  simp [netV]
  refine ef_new_box ?_
  intro D h11 g11 D11 e11
  simp
  refine ef_store_box D11 rfl rfl (by simp) ?_
  intro h12 D12 m12
  have e1012 := e11.toExt m12 g11
  have x12 := (x9.trans e10).trans e1012
  have y12 := ((((e2.trans e3).trans e4).trans e5).trans (((e6.trans e68).trans e9).trans (e10.trans e1012)))
  have ks := ok_small ok
  simp [rd_blk D12, rd_blk (B1.ext y12)]
  refine of3_spec L.Of3 L.Of2 (fn10.ext e1012).here ks.bv ks.ba ks.bt ks.bc ?_
  intro h13 c1 c2 c3 e13 r13
  simp [netV, rd_blk ((B1.ext y12).ext e13)]
  refine rsamenet_spec L.SameNet L.RT r13 (r.ext (x12.trans e13)) ks ?_
  intro h14 e14
  simp
  exact hr h14 ((x12.trans e13).trans e14)

theorem fileapart_spec (L : FileLaw Y) (HM : Y.Has F.rlaw5_FileApart S_rlaw5_FileApart) (E : ErrSys Y) (hg : hc h E.gb 0 = some E.hv) {sv sa st tv ta tt : Sl} {N M : NetD} (r : NetH h sv sa st N) (q : NetH h tv ta tt M) {R : Value → Heap → Prop} (hr : ∀ h', Ext h h' → R (.bool true) h') :
    CallP Y F.rlaw5_FileApart [netV sv sa st, netV tv ta tt] h R := by
  refine .of_has HM rfl ?_
  simp [S_rlaw5_FileApart, FnS.wp, netV]
  refine ef_new_box ?_
  intro B h1 g1 B1 e1
  simp
  refine ef_new_box ?_
  intro C h1' g1' C1 e1'
  simp
  have x1 := e1.trans e1'
  have B1' := B1.ext e1'
  refine known5_spec L E (x1.hc hg (fun h => h)) ?_
  intro h2 e2
  have x2 := x1.trans e2
  simp [rd_blk (B1'.ext e2)]
  refine may5_spec L (r.ext x2) ?_
  intro h3 e3
  have x3 := x2.trans e3
  by_cases hf : mayD N = true
  rotate_left
  · have hf' : mayD N = false := by simpa using hf
    simp [hf']
    exact hr _ x3
  simp [hf, rd_blk (C1.ext (e2.trans e3))]
  refine may5_spec L (q.ext x3) ?_
  intro h4 e4
  have x4 := x3.trans e4
  by_cases hf2 : mayD M = true
  rotate_left
  · have hf' : mayD M = false := by simpa using hf2
    simp [hf']
    exact hr _ x4
  have hfN := (by simpa [mayD] using hf : fewD N = true ∧ _).1
  have hfM := (by simpa [mayD] using hf2 : fewD M = true ∧ _).1
  obtain ⟨bv, ba, bt, bc⟩ := few_bc hfN
  obtain ⟨bv', ba', bt', bc'⟩ := few_bc hfM
  have y4 := (e2.trans e3).trans e4
  simp [hf2, rd_blk (B1'.ext y4)]
  refine dencode_spec L.DE L.RN L.RT (r.ext x4) ?_
  intro h5 s5 v5 e5 row5 sp5 lo5 wr5
  obtain ⟨s6, rfl⟩ := wr5.here.shape
  simp
  refine ef_new_box ?_
  intro D h6 g6 D6 e6
  simp
  refine ef_store_box D6 rfl rfl (by simp) ?_
  intro h7 D7 m7
  have e57 := e6.toExt m7 g6
  have x7 := (x4.trans e5).trans e57
  have y7 := (y4.trans e5).trans e57
  simp [rd_blk (C1.ext y7)]
  refine dencode_spec L.DE L.RN L.RT (q.ext x7) ?_
  intro h8 s8 v8 e8 row8 sp8 lo8 wr8
  obtain ⟨s9, rfl⟩ := wr8.here.shape
  simp
  refine ef_new_box ?_
  intro G h9 g9 G9 e9
  simp
  refine ef_store_box G9 rfl rfl (by simp) ?_
  intro h10 G10 m10
  have e810 := e9.toExt m10 g9
  have x10 := (x7.trans e8).trans e810
  have y10 := (y7.trans e8).trans e810
  have D10 := D7.ext (e8.trans e810)
  by_cases hw : (encR N).2.2 = 0
  rotate_left
  · simp [D10.hc, hw]
    exact hr _ x10
  by_cases hw2 : (encR M).2.2 = 0
  rotate_left
  · simp [D10.hc, G10.hc, hw, hw2]
    exact hr _ x10
  have he := encR_ok hw
  have he2 := encR_ok hw2
  simp [D10.hc, G10.hc, hw, hw2, rd_blk (B1'.ext y10)]
  refine to3_spec L.To3 L.To2 (r.ext x10) bv ba bt bc ?_
  intro h11 a1 a2 a3 e11 r11
  simp
  refine fencode_spec L.En L.NF L.T r11 ?_
  intro h12 s12 v12 e12 row12 sp12 lo12 er12
  have x12 := (x10.trans e11).trans e12
  have y12 := (y10.trans e11).trans e12
  have hv12 := er12.here.nil hw
  subst hv12
  simp [rd_blk (C1.ext y12)]
  refine to3_spec L.To3 L.To2 (q.ext x12) bv' ba' bt' bc' ?_
  intro h13 b1 b2 b3 e13 q13
  simp
  refine fencode_spec L.En L.NF L.T q13 ?_
  intro h14 s14 v14 e14 row14 sp14 lo14 er14
  have x14 := (x12.trans e13).trans e14
  have y14 := (y12.trans e13).trans e14
  have hv14 := er14.here.nil hw2
  subst hv14
  have row1214 := row12.ext (e13.trans e14)
  have q1 := fun (g : Heap) (e : Ext h14 g) => sem_b2s (Y := Y) (row1214.ext e) sp12
  have q2 := fun (g : Heap) (e : Ext h14 g) => sem_b2s (Y := Y) (row14.ext e) sp14
  have q3 := sb_eq (mem_lt row12.lt) (mem_lt row14.lt)
  have hNM : ((encR N).1 = (encR M).1) = (N = M) := propext (enc_apart he he2)
  have ks := ok_small (encode_parse he).1
  simp [q1, q2, q3, rd_blk (B1'.ext y14), rd_blk (C1.ext y14)]
  refine rsamenet_spec L.SameNet L.RT (r.ext x14) (q.ext x14) ks ?_
  intro h15 e15
  simp [q1, q2, e15, hNM]
  exact hr h15 (x14.trans e15)
end
end Go.Rm
