import Derived.Test.YtnbciaekpbadmaaDoorRLaw4c
import Derived.Test.YtnbciaekpbadmaaDoorRLaw5d

/- The laws of nets in bytes: FileParses, FileInner, FileTurned. -/
set_option linter.unusedSimpArgs false
set_option linter.unusedVariables false
namespace Go.Rm
section
variable {Y : Sys} {h h' : Heap}

theorem fileparses_spec (L : FileLaw Y) (HM : Y.Has F.rlaw5_FileParses S_rlaw5_FileParses) (E : ErrSys Y) (hg : hc h E.gb 0 = some E.hv) {s : Sl} {bs : List Nat} (r : RowB h s bs) (sp : s.sp = none) {R : Value → Heap → Prop} (hr : ∀ h', Ext h h' → R (.bool true) h') :
    CallP Y F.rlaw5_FileParses [s.v] h R := by
  have hl := r.len
  have hlt := mem_lt r.lt
  refine .of_has HM rfl ?_
  simp [S_rlaw5_FileParses, FnS.wp]
  refine known5_spec L E hg ?_
  intro h2 e2
  by_cases hn : 70000 < s.n
  · have hn' : (70000 : Int) < s.n := by omega
    simp [hn']
    exact hr _ e2
  have hn' : ¬ (70000 : Int) < s.n := by omega
  simp [hn']
  refine ef_bslice0_box ?_
  intro b h3 g3 o3 e3
  have x3 := e2.trans e3
  simp
  refine ef_appendB (s0 := Sl.at b 0 0) (r.ext x3) (cs := []) o3 (by simp; omega) (.inr g3) e3 ?_
  intro s4 h4 o4 hs4 e24 m4
  simp at o4
  have x4 := e2.trans e24
  have row4 := o4.rowB r.lt
  have n4 := row4.len
  simp
  refine fparse_spec L.Ps L.NF L.T row4 o4.sp (by omega) ?_
  intro h5 a1 a2 a3 v5 e5 fn5 er5
  simp [netV]
  refine ef_new_box ?_
  intro B h6 g6 B6 e6
  simp
  refine ef_store_box B6 rfl rfl (by simp) ?_
  intro h7 B7 m7
  have e57 := e6.toExt m7 g6
  have x7 := (x4.trans e5).trans e57
  simp
  refine dparse_spec L.D L.RN L.RT L.PR L.DE.Sum (r.ext x7) sp (fun hne => (r.ext x7).blk_lt hne) (by omega) ?_
  intro h8 c1 c2 c3 v8 e8 fn8 wr8
  obtain ⟨s9, rfl⟩ := wr8.here.shape
  simp [netV]
  refine ef_new_box ?_
  intro C h9 g9 C9 e9
  simp
  refine ef_new_box ?_
  intro D h10 g10 D10 e10
  simp
  refine ef_store_box (C9.ext e10) rfl rfl (by simp) ?_
  intro h11 C11 m11
  have l9 := C9.lt
  have z9 := e9.size
  have z10 := e10.size
  simp
  refine ef_store_box (m11.blk D10 (by omega)) rfl rfl (by simp) ?_
  intro h12 D12 m12
  have C12 := m12.blk C11 (by omega)
  have e812 : Ext h8 h12 := Mod.ext (Mod.ext (e9.trans e10) m11 (fun j hj => by omega)) m12 (fun j hj => by omega)
  have x12 := (x7.trans e8).trans e812
  simp [rd_blk D12]
  refine tells_spec L.Tells E (x12.hc hg (fun h => h)) (wr8.ext e812).here (er5.ext (e57.trans (e8.trans e812))).here parse_parts.1 parse_parts.2 ?_
  intro h13 e13
  have B13 := B7.ext ((e8.trans e812).trans e13)
  have C13 := C12.ext e13
  simp [rd_blk B13, rd_blk C13]
  have ks := parse_small hlt
  refine of3_spec L.Of3 L.Of2 (fn5.ext ((e57.trans (e8.trans e812)).trans e13)).here ks.bv ks.ba ks.bt ks.bc ?_
  intro h14 d1 d2 d3 e14 r14
  simp [netV, rd_blk (C13.ext e14)]
  refine rsamenet_spec L.SameNet L.RT r14 (fn8.ext ((e812.trans e13).trans e14)).here ks ?_
  intro h15 e15
  have D15 := D12.ext ((e13.trans e14).trans e15)
  have x15 := (x12.trans e13).trans (e14.trans e15)
  by_cases hw : (parseR bs).2.2 = 0
  rotate_left
  · simp [D15.hc, hw]
    exact hr _ x15
  obtain ⟨ok, he⟩ := parse_encode hlt hw
  have B15 := B13.ext (e14.trans e15)
  simp [D15.hc, hw, rd_blk B15]
  refine fencode_spec L.En L.NF L.T (fn5.ext ((e57.trans (e8.trans e812)).trans (e13.trans (e14.trans e15)))).here ?_
  intro h16 s16 v16 e16 row16 sp16 _ er16
  rw [he] at row16 er16
  have hv16 := er16.here.nil rfl
  subst hv16
  have q1 := sem_b2s (Y := Y) row16 sp16
  have q2 := sem_b2s (Y := Y) (r.ext (x15.trans e16)) sp
  have q3 := sb_eq hlt hlt
  simp at q3
  simp [q1, q2, q3]
  exact hr _ (x15.trans e16)

theorem fileinner_spec (L : FileLaw Y) (HM : Y.Has F.rlaw5_FileInner S_rlaw5_FileInner) (E : ErrSys Y) (hg : hc h E.gb 0 = some E.hv) {s : Sl} {bs : List Nat} (r : RowB h s bs) (sp : s.sp = none) {R : Value → Heap → Prop} (hr : ∀ h', Ext h h' → R (.bool true) h') :
    CallP Y F.rlaw5_FileInner [s.v] h R := by
  have hl := r.len
  have hlt := mem_lt r.lt
  refine .of_has HM rfl ?_
  simp [S_rlaw5_FileInner, FnS.wp]
  refine known5_spec L E hg ?_
  intro h2 e2
  by_cases hn : 2000 < s.n
  · have hn' : (2000 : Int) < s.n := by omega
    simp [hn']
    exact hr _ e2
  have hn' : ¬ (2000 : Int) < s.n := by omega
  simp [hn', ef_bslice4]
  intro t
  refine ef_b2b_laid (l := hdB) (by decide) ?_
  intro h3 e3 a3
  simp
  have x3 := e2.trans e3
  have hh : hdB.length = 4 := rfl
  refine ef_appendA0 (s0 := Sl.at h2.size hdB.length hdB.length) a3 (r.ext x3) (by rw [List.length_append]; omega) ?_
  intro s4 h4 a4 m4 hs4
  have x24 : Ext h2 h4 := Mod.ext e3 m4 (fun j hj => by rw [hj]; exact a3.lo)
  have n4 := a4.row.len
  rw [List.length_append] at n4
  simp
  refine wrsum_spec L.DE.Sum a4.row (by omega) ?_
  intro h5 s5 e5 o5 nl5 b5
  simp
  have hsl : (sumB (hdB ++ bs)).length = 4 := rfl
  refine ef_appendA (a4.ext e5) (o5.rowB (lt_mem sumB_lt)) (by simp [sumB]) (by simp only [List.length_append]; omega) ?_
  intro s6 h6 a6 m6 hs6
  have x26 : Ext h2 h6 := Mod.ext (x24.trans e5) m6 (fun j hj => by rw [hj]; exact a4.lo)
  have x4 := e2.trans x26
  obtain ⟨cs, hcs⟩ : ∃ cs, cs = hdB ++ bs ++ sumB (hdB ++ bs) := ⟨_, rfl⟩
  have herr : (parseR cs).2.2 ≠ 11 := by rw [hcs]; exact inner_parse (by omega)
  rw [← hcs] at a6
  have hlen : cs.length = 8 + bs.length := by rw [hcs]; simp only [List.length_append]; omega
  have row4 := a6.row
  have n6 := row4.len
  have hltc := mem_lt row4.lt
  clear hcs
  simp
  refine fparse_spec L.Ps L.NF L.T row4 a6.sp (by omega) ?_
  intro h5' a1 a2 a3' v5 e5' fn5 er5
  simp [netV]
  refine ef_new_box ?_
  intro B h6' g6 B6 e6
  simp
  refine ef_store_box B6 rfl rfl (by simp) ?_
  intro h7 B7 m7
  have e57 := e6.toExt m7 g6
  have x67 := e5'.trans e57
  have x7 := x4.trans x67
  simp
  refine dparse_spec L.D L.RN L.RT L.PR L.DE.Sum (row4.ext x67) a6.sp (fun hne => (row4.ext x67).blk_lt hne) (by omega) ?_
  intro h8 c1 c2 c3 v8 e8 fn8 wr8
  obtain ⟨s9, rfl⟩ := wr8.here.shape
  simp [netV]
  refine ef_new_box ?_
  intro C h9 g9 C9 e9
  simp
  refine ef_new_box ?_
  intro D h10 g10 D10 e10
  simp
  refine ef_store_box (C9.ext e10) rfl rfl (by simp) ?_
  intro h11 C11 m11
  have l9 := C9.lt
  have z9 := e9.size
  have z10 := e10.size
  simp
  refine ef_store_box (m11.blk D10 (by omega)) rfl rfl (by simp) ?_
  intro h12 D12 m12
  have C12 := m12.blk C11 (by omega)
  have e812 : Ext h8 h12 := Mod.ext (Mod.ext (e9.trans e10) m11 (fun j hj => by omega)) m12 (fun j hj => by omega)
  have x12 := (x7.trans e8).trans e812
  simp [rd_blk D12]
  refine tells_spec L.Tells E (x12.hc hg (fun h => h)) (wr8.ext e812).here (er5.ext (e57.trans (e8.trans e812))).here parse_parts.1 parse_parts.2 ?_
  intro h13 e13
  have B13 := B7.ext ((e8.trans e812).trans e13)
  have C13 := C12.ext e13
  simp [rd_blk B13, rd_blk C13]
  have ks := parse_small hltc
  refine of3_spec L.Of3 L.Of2 (fn5.ext ((e57.trans (e8.trans e812)).trans e13)).here ks.bv ks.ba ks.bt ks.bc ?_
  intro h14 d1 d2 d3 e14 r14
  simp [netV, rd_blk (C13.ext e14)]
  refine rsamenet_spec L.SameNet L.RT r14 (fn8.ext ((e812.trans e13).trans e14)).here ks ?_
  intro h15 e15
  have D15 := D12.ext ((e13.trans e14).trans e15)
  have x15 := (x12.trans e13).trans (e14.trans e15)
  simp [D15.hc, herr]
  exact hr _ x15
end
end Go.Rm

/- The laws of nets in bytes: FileTurned. -/
set_option linter.unusedSimpArgs false
set_option linter.unusedVariables false
namespace Go.Rm
section
variable {Y : Sys} {h h' : Heap}

theorem fileturned_spec (L : FileLaw Y) (HM : Y.Has F.rlaw5_FileTurned S_rlaw5_FileTurned) (E : ErrSys Y) (hg : hc h E.gb 0 = some E.hv) {sv sa st : Sl} {N : NetD} (r : NetH h sv sa st N) {ka y kc : Nat} (hka : ka < 65536) (hy : y < 256) (hkc : kc < 65536) {R : Value → Heap → Prop} (hr : ∀ h', Ext h h' → R (.bool true) h') :
    CallP Y F.rlaw5_FileTurned [netV sv sa st, .int .u16 ka, .int .u8 y, .int .u16 kc] h R := by
  refine .of_has HM rfl ?_
  simp [S_rlaw5_FileTurned, FnS.wp, netV]
  refine ef_new_box ?_
  intro B h1 g1 B1 e1
  simp
  refine known5_spec L E (e1.hc hg (fun h => h)) ?_
  intro h2 e2
  have x2 := e1.trans e2
  simp [rd_blk (B1.ext e2)]
  refine may5_spec L (r.ext x2) ?_
  intro h3 e3
  have x3 := x2.trans e3
  by_cases hf : mayD N = true
  rotate_left
  · have hf' : mayD N = false := by simpa using hf
    simp [hf']
    exact hr _ x3
  have hfN := (by simpa [mayD] using hf : fewD N = true ∧ _).1
  obtain ⟨bv, ba, bt, bc⟩ := few_bc hfN
  simp [hf, rd_blk (B1.ext (e2.trans e3))]
  refine to3_spec L.To3 L.To2 (r.ext x3) bv ba bt bc ?_
  intro h4 s1 s2 s3 e4 r4
  have x4 := x3.trans e4
  simp
  refine fencode_spec L.En L.NF L.T r4 ?_
  intro h5 s5 v5 e5 row5 sp5 lo5 er5
  have x5 := x4.trans e5
  simp [rd_blk (B1.ext (((e2.trans e3).trans e4).trans e5))]
  refine dencode_spec L.DE L.RN L.RT (r.ext x5) ?_
  intro h6 s6 v6 e6 row6 sp6 lo6 wr6
  have x6 := x5.trans e6
  obtain ⟨s7, rfl⟩ := wr6.here.shape
  simp
  refine ef_new_box ?_
  intro C h7 g7 C7 e7
  simp
  refine ef_store_box C7 rfl rfl (by simp) ?_
  intro h8 C8 m8
  have e68 := e7.toExt m8 g7
  have x8 := x6.trans e68
  by_cases hw : (encR N).2.2 = 0
  rotate_left
  · simp [C8.hc, hw, rd_blk C8]
    refine tells_spec L.Tells E (x8.hc hg (fun h => h)) (wr6.ext e68).here (er5.ext (e6.trans e68)).here enc_parts.1 enc_parts.2 ?_
    intro h9 e9
    simp
    exact hr _ (x8.trans e9)
  have he := encR_ok hw
  have hv5 := er5.here.nil hw
  subst hv5
  generalize hbb : (encR N).1 = b at *
  obtain ⟨ok, hb, l1, l2, hlt, hp⟩ := encode_parse he
  have row58 := row5.ext (e6.trans e68)
  have n5 := row5.len
  have c8 : ¬ (s5.n : Int) < 8 := by omega
  obtain ⟨k, hk⟩ : ∃ k, k = ka % b.length := ⟨_, rfl⟩
  have hkb : k < b.length := by rw [hk]; exact Nat.mod_lt _ (by omega)
  have hne0 : (s5.n : Int) ≠ 0 := by omega
  have wk : IntKind.i64.wrap (ka : Int) = (ka : Int) := i64_wrap (by omega)
  have tk : ((ka : Int).tmod (s5.n : Int)) = (k : Int) := by
    rw [Int.tmod_eq_emod_of_nonneg (by omega), hk, n5]; simp
  simp [C8.hc, hw, c8, wk, ib_rem hne0, tk]
  refine ef_bslice0_box ?_
  intro bx h9 g9 o9 e9
  simp
  refine ef_appendB (s0 := Sl.at bx 0 0) (row58.ext e9) (cs := []) o9 (by simp; omega) (.inr g9) e9 ?_
  intro s10 h10 o10 hs10 e810 m10
  simp at o10
  have n10 : s10.n = b.length := by have := o10.1; simpa using this.symm
  have ok10 := (o10.rowB row5.lt).ok
  simp
  have ix := sem_idxa (Y := Y) (h := h10) (k := .i64) (sz := 1) (i := (k : Int)) ok10 (by omega) (by omega)
  rw [Nat.mul_one, show ((k : Int)).toNat = k by omega] at ix
  obtain ⟨p1, p2, p3, p4⟩ := own_set o10 (k := k) (y := y) hkb
  simp [ix, StoreP.open, p2, p3]
  generalize hset h10 s10.b (s10.o + k) (.int .u8 (y : Int)) = h11 at *
  have hs10' : h8.size ≤ s10.b := by
    rcases hs10 with q | q
    · obtain ⟨_, _, _, hnl⟩ := o10.blk (i := 0) (by simp; omega)
      rw [q] at hnl; cases hnl
    · exact q
  have e811 : Ext h8 h11 := Mod.ext e810 p4 (fun j hj => by omega)
  have row511 := row58.ext e811
  have row11 := p1.rowB (lt_mem (set_lt hlt hy))
  refine fparse_spec L.Ps L.NF L.T row11 p1.sp (by omega) ?_
  intro h12 a1 a2 a3 v12 e12 fn12 er12
  simp [netV]
  refine ef_new_box ?_
  intro D h13 g13 D13 e13
  simp
  refine ef_store_box D13 rfl rfl (by simp) ?_
  intro h14 D14 m14
  have e1214 := e13.toExt m14 g13
  have x14 := (x8.trans e811).trans (e12.trans e1214)
  have row514 := row511.ext (e12.trans e1214)
  have ix2 := sem_idxa (Y := Y) (h := h14) (k := .i64) (sz := 1) (i := (k : Int)) row514.ok (by omega) (by omega)
  rw [Nat.mul_one, show ((k : Int)).toNat = k by omega] at ix2
  have hck := row514.val k hkb
  by_cases hyk : y = nth b k
  · have hyk' : ((y : Int) = (nth b k : Int)) = True := by simp; omega
    have hset : b.set k y = b := by
      apply List.ext_getElem
      · simp
      · intro i h1 h2
        rw [List.getElem_set]
        split
        · rename_i g; subst g; rw [hyk]; simp [nth, hkb]
        · rfl
    rw [hset, hp] at er12
    have hv12 := er12.here.nil rfl
    subst hv12
    simp [ix2, hck, hyk']
    exact hr _ x14
  have hyk' : ((y : Int) = (nth b k : Int)) = False := by simp; omega
  have htp := turned_parse he hkb hy hyk
  rw [htp] at er12
  obtain ⟨j, hj⟩ : ∃ j, j = kc % 8 := ⟨_, rfl⟩
  have wc : IntKind.i64.wrap (kc : Int) = (kc : Int) := i64_wrap (by omega)
  have h8n : (8 : Int) ≠ 0 := by decide
  have tc : ((kc : Int).tmod 8) = (j : Int) := by
    rw [Int.tmod_eq_emod_of_nonneg (by omega)]; omega
  obtain ⟨sc, qc, rc, spc, _, nc⟩ := row514.slcHi (Y := Y) (k := j) (by omega)
  simp [ix2, hck, hyk', wc, ib_rem h8n, tc, qc]
  refine fparse_spec L.Ps L.NF L.T rc (by rw [spc]; exact sp5) (by omega) ?_
  intro h15 c1 c2 c3 v15 e15 fn15 er15
  rw [cut_parse l1 (by omega)] at er15
  simp [netV]
  refine ef_new_box ?_
  intro G h16 g16 G16 e16
  simp
  refine ef_store_box G16 rfl rfl (by simp) ?_
  intro h17 G17 m17
  have e1517 := e16.toExt m17 g16
  have x17 := (x14.trans e15).trans e1517
  simp
  refine rat_spec L.D.At ?_
  intro h18 w18 e18 hw18
  simp
  refine tells_spec L.Tells E ((x17.trans e18).hc hg (fun h => h)) hw18.here (er12.ext (e1214.trans ((e15.trans e1517).trans e18))).here fw_kind.1 fw_kind.2 ?_
  intro h19 e19
  simp
  refine rat_spec L.D.At ?_
  intro h20 w20 e20 hw20
  simp
  refine tells_spec L.Tells E ((((x17.trans e18).trans e19).trans e20).hc hg (fun h => h)) hw20.here (er15.ext ((e1517.trans e18).trans (e19.trans e20))).here fw_kind.1 fw_kind.2 ?_
  intro h21 e21
  simp
  exact hr _ ((((x17.trans e18).trans e19).trans e20).trans e21)
end
end Go.Rm
