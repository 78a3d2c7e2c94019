import Derived.Test.YtmfhceopnilhfaaRLaw16d

/- The laws of gates: GateOnce, the walk. -/
set_option linter.unusedSimpArgs false
set_option linter.unusedVariables false
namespace Go.Rm
section
variable {Y : Sys} {h h' : Heap}

def OnI1 (B C D p : Nat) (t : Sl) (h0 : Heap) (e : List Value) (h' : Heap) : Prop :=
  ∃ (i : Nat) (v0 v1 v4 v9 v10 v11 v12 v13 v14 v15 v16 v17 v18 v19 v20 v21 v22 v23 v24 v25 v26 v27 v28 v29 v30 : Value), e = [v0, v1, .pointer (some ⟨B, 0, none⟩), .pointer (some ⟨C, 0, none⟩), v4, .pointer (some ⟨p, 0, none⟩), .pointer (some ⟨D, 0, none⟩), t.v, .int .i64 i, v9, v10, v11, v12, v13, v14, v15, v16, v17, v18, v19, v20, v21, v22, v23, v24, v25, v26, v27, v28, v29, v30] ∧ i ≤ t.n ∧ Ext h0 h'
def OnI2 (B C D p b1 b2 k m n : Nat) (t : Sl) (N : NetD) (row x : List Int) (hb : Heap) (h0 : Heap) (e : List Value) (h' : Heap) : Prop :=
  ∃ (i : Nat) (v0 v1 v4 v12 v13 v14 v15 v16 v17 v18 v19 v20 v21 v22 v23 v24 v25 v26 v27 v28 v29 v30 : Value), e = [v0, v1, .pointer (some ⟨B, 0, none⟩), .pointer (some ⟨C, 0, none⟩), v4, .pointer (some ⟨p, 0, none⟩), .pointer (some ⟨D, 0, none⟩), t.v, .int .i64 k, .slice (some ⟨b1, 0, none⟩) m m, .slice (some ⟨b2, 0, none⟩) m m, .int .i64 i, v12, v13, v14, v15, v16, v17, v18, v19, v20, v21, v22, v23, v24, v25, v26, v27, v28, v29, v30] ∧ i ≤ n ∧ Own h' 1 (Sl.at b1 m m) (ints64 (inS N row x false i 0)) ∧ Own h' 1 (Sl.at b2 m m) (ints64 (inS N row x true i 0)) ∧ Ext hb h'
def OnI4 (B C D p b1 b2 k m c z : Nat) (t : Sl) (N : NetD) (row x : List Int) (hb : Heap) (h0 : Heap) (e : List Value) (h' : Heap) : Prop :=
  ∃ (i : Nat) (v0 v1 v4 v13 v14 v15 v16 v17 v18 v19 v20 v21 v22 v23 v24 v25 v26 v27 v28 v29 v30 : Value), e = [v0, v1, .pointer (some ⟨B, 0, none⟩), .pointer (some ⟨C, 0, none⟩), v4, .pointer (some ⟨p, 0, none⟩), .pointer (some ⟨D, 0, none⟩), t.v, .int .i64 k, .slice (some ⟨b1, 0, none⟩) m m, .slice (some ⟨b2, 0, none⟩) m m, .int .i64 c, .int .i64 i, v13, v14, v15, v16, v17, v18, v19, v20, v21, v22, v23, v24, v25, v26, v27, v28, v29, v30] ∧ i ≤ z ∧ Own h' 1 (Sl.at b1 m m) (ints64 (inS N row x false c i)) ∧ Own h' 1 (Sl.at b2 m m) (ints64 (inS N row x true c 0)) ∧ Ext hb h'
def OnI6 (B C D p b1 b2 k m c z : Nat) (t : Sl) (N : NetD) (row x : List Int) (hb : Heap) (h0 : Heap) (e : List Value) (h' : Heap) : Prop :=
  ∃ (i : Nat) (v0 v1 v4 v12 v13 v15 v16 v17 v18 v19 v20 v21 v22 v23 v24 v25 v26 v27 v28 v29 v30 : Value), e = [v0, v1, .pointer (some ⟨B, 0, none⟩), .pointer (some ⟨C, 0, none⟩), v4, .pointer (some ⟨p, 0, none⟩), .pointer (some ⟨D, 0, none⟩), t.v, .int .i64 k, .slice (some ⟨b1, 0, none⟩) m m, .slice (some ⟨b2, 0, none⟩) m m, .int .i64 c, v12, v13, .int .i64 i, v15, v16, v17, v18, v19, v20, v21, v22, v23, v24, v25, v26, v27, v28, v29, v30] ∧ i ≤ z ∧ Own h' 1 (Sl.at b1 m m) (ints64 (inS N row x false (c + 1) 0)) ∧ Own h' 1 (Sl.at b2 m m) (ints64 (inS N row x true c i)) ∧ Ext hb h'
def OnI8 (B C D p b1 b2 k m : Nat) (t w : Sl) (hb : Heap) (h0 : Heap) (e : List Value) (h' : Heap) : Prop :=
  ∃ (i : Nat) (v0 v1 v4 v11 v12 v13 v14 v15 v18 v19 v20 v21 v22 v23 v24 v25 v26 v27 v28 v29 v30 : Value), e = [v0, v1, .pointer (some ⟨B, 0, none⟩), .pointer (some ⟨C, 0, none⟩), v4, .pointer (some ⟨p, 0, none⟩), .pointer (some ⟨D, 0, none⟩), t.v, .int .i64 k, .slice (some ⟨b1, 0, none⟩) m m, .slice (some ⟨b2, 0, none⟩) m m, v11, v12, v13, v14, v15, w.v, .int .i64 i, v18, v19, v20, v21, v22, v23, v24, v25, v26, v27, v28, v29, v30] ∧ i ≤ m ∧ h' = h0

theorem gateonce_spec (G : GateLaw Y) (HM : Y.Has F.rlaw16_GateOnce S_rlaw16_GateOnce) (HT : Y.Has F.rref6_There S_rref6_There) {sv sa st s : Sl} {N : NetD} {L : List (List Int)} (r : NetH h sv sa st N) (q : RowL h s L) (hmax : s.n ≤ 9223372036854775807)
    {R : Value → Heap → Prop} (hr : ∀ h', Ext h h' → R (.bool true) h') : CallP Y F.rlaw16_GateOnce [netV sv sa st, ptV s] h R := by
  rw [gateOnceS_eq] at HM
  refine .of_has HM rfl ?_
  have la := r.ra.len
  simp [gateOnceS, FnS.wp, netV, ptV]
  refine ef_new_box ?_
  intro B h1 g1 B1 e1
  simp
  refine ef_new_box ?_
  intro C h2 g2 C2 e2
  have x2 := e1.trans e2
  have B2 := B1.ext e2
  simp
  refine known16_spec G ?_
  intro h3 e3
  have x3 := x2.trans e3
  have B3 := B2.ext e3
  have C3 := C2.ext e3
  simp [rd_blk B3, rd_blk C3]
  refine may15_spec G.M (r.ext x3) (q.ext x3) hmax ?_
  intro h4 e4
  have x4 := x3.trans e4
  have B4 := B3.ext e4
  have C4 := C3.ext e4
  by_cases hm : may15 N L = true
  rotate_left
  · have hm' : may15 N L = false := by simpa using hm
    simp [hm']
    exact hr _ x4
  obtain ⟨hf, ok, pk, bv, ba⟩ := may15_facts hm
  have cc := CellsOf.of ok pk
  have lq := q.len
  have bL := pk.bL
  simp [hm, rd_blk B4]
  refine made_spec G.MF (r.ext x4) hf ok ?_
  intro h5 p S e5 g5 _
  have x5 := x4.trans e5
  have C5 := C4.ext e5
  simp [rd_blk C5]
  refine cellto_spec G.CT (q.ext x5) (by omega) (fun i hi => by have := cc.ln i hi; omega) ?_
  intro h6 s6 e6 q6 n6
  have x6 := x5.trans e6
  simp [ptV]
  refine ef_new_box ?_
  intro D h7 g7 D7 e7
  simp
  refine ef_store_box D7 rfl rfl (by simp) ?_
  intro h8 D8 m8
  have e68 := Mod.toExtG e7 m8 g7
  have x8 := x6.trans e68
  have y8 := ((e4.trans e5).trans e6).trans e68
  have q8 := q6.ext e68
  have g8 := g5.ext (e6.trans e68)
  simp [rd_blk D8]
  refine gateof_spec G.GO g8 q8 ok pk ?_
  intro h9 t e9 gt
  have x9 := x8.trans e9
  have y9 := y8.trans e9
  have q9 := q8.ext e9
  have g9 := g8.ext e9
  have D9 := D8.ext e9
  have B9 := B3.ext y9
  have C9 := C3.ext y9
  have tn : t.n = L.length := gt.len.symm
  simp
  refine wp_loop' (OnI1 B C D p t h9) (fun e _ => t.n - argI e 8) ⟨0, _, _, _, _, _, _, _, _, _, _, _, _, _, _, _, _, _, _, _, _, _, _, _, _, _, rfl, by omega, Mod.refl _⟩ ?_
  rintro e hb ⟨i, v0, v1, v4, v9, v10, v11, v12, v13, v14, v15, v16, v17, v18, v19, v20, v21, v22, v23, v24, v25, v26, v27, v28, v29, v30, rfl, hi, eb⟩
  have xb := x9.trans eb
  have Bb := B9.ext eb
  have Cb := C9.ext eb
  have Db := D9.ext eb
  have qb := q9.ext eb
  have gb := g9.ext eb
  have gtb := gt.ext eb
  by_cases c : i < t.n
  rotate_left
  · have c' : ¬ (i : Int) < L.length := by omega
    have hnl : ((t.n : Int) = (s.n : Int)) = True := by simp; omega
    have hnl' : ((L.length : Int) = (s.n : Int)) = True := by simp; omega
    simp [tn, c', Cb.hc, hnl']
    exact hr _ xb
  have c' : (i : Int) < L.length := by omega
  have c2 : i < L.length := by omega
  have wi : IntKind.i64.wrap ((i : Int) + 1) = (i : Int) + 1 := i64_wrap (by omega)
  simp [tn, c', Bb.hc]
  refine goAlt_wp (B := B) (n := sa.n) Bb rfl (by omega) ?_
  intro b1 b2 h10 T1 e10 gb1 gb2 b12 o1 o2
  rw [← la] at o1 o2 ⊢
  obtain ⟨u, hu, cu⟩ := gates_at gtb c
  have lu := cu.len
  obtain ⟨rl, rm, rb', rv⟩ := cells_row pk c2
  obtain ⟨x, hx⟩ : ∃ x, x = crossL N L ((i : Int) + 1) := ⟨_, rfl⟩
  have hxl : x.length ≤ N.as.length := by rw [hx]; exact crossL_len
  have hxr : Rises x := by rw [hx]; exact crossL_rises
  obtain ⟨row, hrow⟩ : ∃ row, row = nthL L i := ⟨_, rfl⟩
  have hgd : gateD N L i = gateC N row x := by unfold gateD; rw [← hx, ← hrow]
  rw [hgd] at cu
  generalize hn : gateN L i = n at *
  have o1' : Own h10 1 (Sl.at b1 N.as.length N.as.length) (ints64 (inS N row x false 0 0)) := by rw [hrow, inS_first ok pk c2]; exact o1
  have o2' : Own h10 1 (Sl.at b2 N.as.length N.as.length) (ints64 (inS N row x true 0 0)) := by rw [hrow, inS_first ok pk c2]; exact o2
  -- what holds of an arc in a cell's row
  have arcF : ∀ (b : Bool) (c k : Nat), k < (gateC N row x b c).length → ∃ a : Nat, nthI (gateC N row x b c) k = a ∧ a < N.as.length ∧ (a : Int) ∈ x ∧ cellE N row b a = c := by
    intro b c k hk
    have hm : nthI (gateC N row x b c) k ∈ gateC N row x b c := by rw [show nthI (gateC N row x b c) k = (gateC N row x b c)[k] by simp [nthI, hk]]; exact List.getElem_mem hk
    obtain ⟨m1, m2⟩ := gateC_mem.1 hm
    have hv := (mem_crossL.1 (by rw [← hx]; exact m1)).1
    simp [vtxB] at hv
    obtain ⟨a, ha⟩ : ∃ a : Nat, nthI (gateC N row x b c) k = a := ⟨_, (Int.toNat_of_nonneg hv.1).symm⟩
    rw [ha] at m1 m2 hv
    exact ⟨a, ha, by omega, m1, m2⟩
  have endF : ∀ (a : Nat), (a : Int) ∈ x → (endsV N L ((i : Int) + 1) a).2 = cellE N row false a ∧ (endsV N L ((i : Int) + 1) a).1 = cellE N row true a := by
    intro a ha
    rw [hx] at ha
    rw [(endsV_cross ha).1, lvl_at c2, ← hrow]
    exact ⟨rfl, rfl⟩
  have lowF : ∀ (a : Nat), (a : Int) ∈ x → 0 < i → ¬ (endsV N L (i : Int) a).2 < 0 ∧ ¬ (endsV N L (i : Int) a).1 < 0 := by
    intro a ha h0
    obtain ⟨m, hm⟩ : ∃ m, i = m + 1 := ⟨i - 1, by omega⟩
    subst hm
    rw [hx] at ha
    have hb := cross_below ok pk c2 ha
    have hv := (mem_crossL.1 hb).1
    simp [vtxB] at hv
    have e := (endsV_cross hb).1
    have hc : (((m + 1 : Nat) : Int)) = (m : Int) + 1 := by omega
    rw [hc, e, lvl_at (by omega)]
    have f1 := (cellE_in ok pk (i := m) (by omega) (a := a) (by omega) false).1
    have f2 := (cellE_in ok pk (i := m) (by omega) (a := a) (by omega) true).1
    simp [cellE] at f1 f2
    exact ⟨by simpa using f1, by simpa using f2⟩
  simp
  refine wp_loop' (OnI2 B C D p b1 b2 i N.as.length n t N row x hb h10) (fun e _ => n - argI e 11) ⟨0, _, _, _, _, _, _, _, _, _, _, _, _, _, _, _, _, _, _, _, _, _, _, rfl, by omega, o1', o2', e10⟩ ?_
  rintro e h11 ⟨c, v0, v1, v4, v12, v13, v14, v15, v16, v17, v18, v19, v20, v21, v22, v23, v24, v25, v26, v27, v28, v29, v30, rfl, hcc, o1, o2, e11⟩
  have x11 := xb.trans e11
  have hu11 := hu h11 e11
  by_cases d : c < n
  rotate_left
  · have d' : ¬ (c : Int) < n := by omega
    obtain rfl : c = n := by omega
    have B11 := Bb.ext e11
    have C11 := Cb.ext e11
    simp [tn, c', c2, sem_idxa gtb.ok, hu11, lu, d', rd_blk B11, rd_blk C11, wi]
    refine dcross_spec G.GD.R (r.ext x11) (q.ext x11) cc ?_
    intro h12 w e12 o12 _
    rw [← hx] at o12
    have wn := o12.1
    simp at wn
    have x12 := x11.trans e12
    have B12 := B11.ext e12
    have oA := (o1.ext' e12).row64
    have oB := (o2.ext' e12).row64
    have k1 := o1.ok
    have k2 := o2.ok
    simp
    refine wp_loop' (OnI8 B C D p b1 b2 i N.as.length t w hb h12) (fun e _ => N.as.length - argI e 17) ⟨0, _, _, _, _, _, _, _, _, _, _, _, _, _, _, _, _, _, _, _, _, _, rfl, by omega, rfl⟩ ?_
    rintro e h13 ⟨a, v0, v1, v4, v11, v12, v13, v14, v15, v18, v19, v20, v21, v22, v23, v24, v25, v26, v27, v28, v29, v30, rfl, ha, hh⟩
    subst hh
    by_cases f : a < N.as.length
    rotate_left
    · have f' : ¬ (a : Int) < sa.n := by omega
      simp [B12.hc, f', wi]
      refine ⟨⟨i + 1, _, _, _, _, _, _, _, _, _, _, _, _, _, _, _, _, _, _, _, _, _, _, _, _, _, rfl, by omega, (eb.trans e11).trans e12⟩, by simp [argI]; omega⟩
    have f' : (a : Int) < sa.n := by omega
    have w2 : IntKind.i64.wrap ((a : Int) + 1) = (a : Int) + 1 := i64_wrap (by omega)
    have vA := oA.val a (by simp; omega)
    have vB := oB.val a (by simp; omega)
    have l1 := inS_last ok pk c2 (x := x) (b := false) f
    have l2 := inS_last ok pk c2 (x := x) (b := true) f
    rw [← hrow, hn] at l1 l2
    rw [l1] at vA
    rw [l2] at vB
    have iA := sem_idxa (Y := Y) (h := h13) (s := Sl.at b1 N.as.length N.as.length) (sz := 1) (k := .i64) (i := (a : Int)) k1 (by omega) (by simp; omega)
    have iB := sem_idxa (Y := Y) (h := h13) (s := Sl.at b2 N.as.length N.as.length) (sz := 1) (k := .i64) (i := (a : Int)) k2 (by omega) (by simp; omega)
    simp at iA iB vA vB
    simp [B12.hc, f']
    refine rplace_spec G.GD.R.Place o12.row64 (by omega) ?_
    by_cases mx : (a : Int) ∈ x
    · have hp : 0 ≤ placeF 0 x (a : Int) := placeF_nonneg.2 mx
      simp only [mx, if_true] at vA vB
      simp [hp, iA, vA, iB, vB, w2]
      refine ⟨⟨a + 1, _, _, _, _, _, _, _, _, _, _, _, _, _, _, _, _, _, _, _, _, _, rfl, by omega, rfl⟩, by simp [argI]; omega⟩
    · have hp : ¬ 0 ≤ placeF 0 x (a : Int) := fun h => mx (placeF_nonneg.1 h)
      simp only [mx, if_false] at vA vB
      simp [hp, iA, vA, iB, vB, w2]
      refine ⟨⟨a + 1, _, _, _, _, _, _, _, _, _, _, _, _, _, _, _, _, _, _, _, _, _, rfl, by omega, rfl⟩, by simp [argI]; omega⟩
  have d' : (c : Int) < n := by omega
  have wc : IntKind.i64.wrap ((c : Int) + 1) = (c : Int) + 1 := i64_wrap (by omega)
  obtain ⟨ra1, rb1, vv, ri, ro⟩ := cells_at cu d
  have ni := ri.len
  have no := ro.len
  have gl1 := gateC_len (N := N) (row := row) (l := x) (b := false) (c := c)
  have gl2 := gateC_len (N := N) (row := row) (l := x) (b := true) (c := c)
  have hcu := cu.ok
  have risI : Rises (gateC N row x false c) := rises_filter hxr
  have risO : Rises (gateC N row x true c) := rises_filter hxr
  simp [tn, c', c2, sem_idxa gtb.ok, hu11, lu, d']
  refine wp_loop' (OnI4 B C D p b1 b2 i N.as.length c (gateC N row x false c).length t N row x hb h11) (fun e _ => (gateC N row x false c).length - argI e 12) ⟨0, _, _, _, _, _, _, _, _, _, _, _, _, _, _, _, _, _, _, _, _, _, rfl, by omega, o1, o2, e11⟩ ?_
  rintro e h12 ⟨k, v0, v1, v4, v13, v14, v15, v16, v17, v18, v19, v20, v21, v22, v23, v24, v25, v26, v27, v28, v29, v30, rfl, hk, o1, o2, e12⟩
  have x12 := xb.trans e12
  have hu12 := hu h12 e12
  obtain ⟨v1, v2, v3⟩ := vv h12 e12
  by_cases f : k < (gateC N row x false c).length
  · have f1 : (k : Int) < ra1.n := by omega
    have f2 : k < ra1.n := by omega
    have wk : IntKind.i64.wrap ((k : Int) + 1) = (k : Int) + 1 := i64_wrap (by omega)
    obtain ⟨a, hak, han, hax, hac⟩ := arcF false c k f
    have B12 := Bb.ext e12
    have D12 := Db.ext e12
    have ri12 := ri.ext e12
    have hva : vtxB N.as.length (a : Int) = true := by simp [vtxB]; omega
    have hpl : placeF 0 (gateC N row x false c) (a : Int) = (k : Int) := by rw [placeF_eq (i := k) f hak (fun j hj e => by have := risI j k hj f; omega)]; simp
    obtain ⟨st0, st1⟩ := inS_step hxr f hak han
    obtain ⟨en, _⟩ := endF a hax
    simp [tn, c', c2, sem_idxa gtb.ok, hu12, lu, sem_idxa hcu, d, d', v1, f1, f2, sem_idxa ri.ok, ri12.at f2, hak, rd_blk B12]
    refine there_spec HT la ?_
    intro h13 e13
    have y13 := e12.trans e13
    simp [hva, rd_blk (D12.ext e13), wi]
    refine genters_spec G.GF (gb.ext y13) (qb.ext y13) cc ?_
    intro h14 e14
    have y14 := y13.trans e14
    rw [en, hac]
    obtain ⟨v1', _, _⟩ := vv h14 y14
    simp [tn, c', c2, sem_idxa gtb.ok, hu h14 y14, lu, sem_idxa hcu, d, d', v1']
    refine gaplace_spec G.Bs (ri.ext y14) (by omega) risI ?_
    rw [hpl]
    -- the arc is counted
    have iA' := fun g => sem_idxa (Y := Y) (h := g) (s := Sl.at b1 N.as.length N.as.length) (sz := 1) (k := .i64) (i := (a : Int)) o1.ok (by omega) (by simp; omega)
    simp at iA'
    have w1 : IntKind.i64.wrap 1 = 1 := rfl
    have fin : ∀ {h15 : Heap}, Ext h14 h15 → Own h15 1 (Sl.at b1 N.as.length N.as.length) (ints64 (inS N row x false c k)) ∧ Own h15 1 (Sl.at b2 N.as.length N.as.length) (ints64 (inS N row x true c 0)) ∧ Rm.hc h15 b1 a = some (.int .i64 0) ∧ Ext hb h15 := by
      intro h15 e15
      have z := (e13.trans e14).trans e15
      have o1' := o1.ext' z
      have := o1'.row64.val a (by simp; omega)
      rw [st0] at this
      exact ⟨o1', o2.ext' z, by simpa using this, e12.trans z⟩
    have lb : hb.size ≤ b1 := gb1
    by_cases i0 : 0 < i
    · have i0' : (0 : Int) < i := by omega
      obtain ⟨lo1, lo2⟩ := lowF a hax i0
      simp [i0, i0', rd_blk (D12.ext (e13.trans e14))]
      refine genters_spec G.GF (gb.ext y14) (qb.ext y14) cc ?_
      intro h15 e15
      obtain ⟨p1, p2, p3, p4⟩ := fin e15
      simp [lo1, iA', p3, w1]
      refine st64o p1 (k := a) (by simp; omega) ?_
      intro h16 o16 m16
      rw [st1] at o16
      simp [wk]
      refine ⟨⟨k + 1, _, _, _, _, _, _, _, _, _, _, _, _, _, _, _, _, _, _, _, _, _, rfl, by omega, o16, p2.mod m16 (fun _ => by simp; omega), Mod.ext p4 m16 (fun j hj => by omega)⟩, by simp [argI]; omega⟩
    · have i0' : ¬ (0 : Int) < i := by omega
      obtain ⟨p1, p2, p3, p4⟩ := fin (Mod.refl h14)
      simp [i0, i0', iA', p3, w1]
      refine st64o p1 (k := a) (by simp; omega) ?_
      intro h16 o16 m16
      rw [st1] at o16
      simp [wk]
      refine ⟨⟨k + 1, _, _, _, _, _, _, _, _, _, _, _, _, _, _, _, _, _, _, _, _, _, rfl, by omega, o16, p2.mod m16 (fun _ => by simp; omega), Mod.ext p4 m16 (fun j hj => by omega)⟩, by simp [argI]; omega⟩
  have f1 : ¬ (k : Int) < ra1.n := by omega
  rw [inS_next (by omega)] at o1
  clear o1' o2'
  simp [tn, c', c2, sem_idxa gtb.ok, hu12, lu, sem_idxa hcu, d, d', v1, f1]
  refine wp_loop' (OnI6 B C D p b1 b2 i N.as.length c (gateC N row x true c).length t N row x hb h12) (fun e _ => (gateC N row x true c).length - argI e 14) ⟨0, _, _, _, _, _, _, _, _, _, _, _, _, _, _, _, _, _, _, _, _, _, rfl, by omega, o1, o2, e12⟩ ?_
  clear o1 o2 v1 v2 v3
  rintro e h13 ⟨k2, v0, v1, v4, v12, v13, v15, v16, v17, v18, v19, v20, v21, v22, v23, v24, v25, v26, v27, v28, v29, v30, rfl, hk2, o1, o2, e13⟩
  have hu13 := hu h13 e13
  obtain ⟨v1, v2, v3⟩ := vv h13 e13
  by_cases f : k2 < (gateC N row x true c).length
  rotate_left
  · have f1 : ¬ (k2 : Int) < rb1.n := by omega
    rw [inS_next (by omega)] at o2
    simp [tn, c', c2, sem_idxa gtb.ok, hu13, lu, sem_idxa hcu, d, d', v2, f1, wc]
    refine ⟨⟨c + 1, _, _, _, _, _, _, _, _, _, _, _, _, _, _, _, _, _, _, _, _, _, _, rfl, by omega, o1, o2, e13⟩, by simp [argI]; omega⟩
  have f1 : (k2 : Int) < rb1.n := by omega
  have f2 : k2 < rb1.n := by omega
  have wk : IntKind.i64.wrap ((k2 : Int) + 1) = (k2 : Int) + 1 := i64_wrap (by omega)
  obtain ⟨a, hak, han, hax, hac⟩ := arcF true c k2 f
  have B13 := Bb.ext e13
  have D13 := Db.ext e13
  have ro13 := ro.ext e13
  have hva : vtxB N.as.length (a : Int) = true := by simp [vtxB]; omega
  have hpl : placeF 0 (gateC N row x true c) (a : Int) = (k2 : Int) := by rw [placeF_eq (i := k2) f hak (fun j hj e => by have := risO j k2 hj f; omega)]; simp
  obtain ⟨st0, st1⟩ := inS_step hxr f hak han
  obtain ⟨_, en⟩ := endF a hax
  simp [tn, c', c2, sem_idxa gtb.ok, hu13, lu, sem_idxa hcu, d, d', v2, f1, f2, sem_idxa ro.ok, ro13.at f2, hak, rd_blk B13]
  refine there_spec HT la ?_
  intro h14 e14
  have y14 := e13.trans e14
  simp [hva, rd_blk (D13.ext e14), wi]
  refine gleaves_spec G.GF (gb.ext y14) (qb.ext y14) cc ?_
  intro h15 e15
  have y15 := y14.trans e15
  rw [en, hac]
  obtain ⟨_, v2', _⟩ := vv h15 y15
  simp [tn, c', c2, sem_idxa gtb.ok, hu h15 y15, lu, sem_idxa hcu, d, d', v2']
  refine gaplace_spec G.Bs (ro.ext y15) (by omega) risO ?_
  rw [hpl]
  have iB' := fun g => sem_idxa (Y := Y) (h := g) (s := Sl.at b2 N.as.length N.as.length) (sz := 1) (k := .i64) (i := (a : Int)) o2.ok (by omega) (by simp; omega)
  simp at iB'
  have w1 : IntKind.i64.wrap 1 = 1 := rfl
  have fin : ∀ {h16 : Heap}, Ext h15 h16 → Own h16 1 (Sl.at b1 N.as.length N.as.length) (ints64 (inS N row x false (c + 1) 0)) ∧ Own h16 1 (Sl.at b2 N.as.length N.as.length) (ints64 (inS N row x true c k2)) ∧ Rm.hc h16 b2 a = some (.int .i64 0) ∧ Ext hb h16 := by
    intro h16 e16
    have z := (e14.trans e15).trans e16
    have o2' := o2.ext' z
    have := o2'.row64.val a (by simp; omega)
    rw [st0] at this
    exact ⟨o1.ext' z, o2', by simpa using this, e13.trans z⟩
  by_cases i0 : 0 < i
  · have i0' : (0 : Int) < i := by omega
    obtain ⟨lo1, lo2⟩ := lowF a hax i0
    simp [i0, i0', rd_blk (D13.ext (e14.trans e15))]
    refine gleaves_spec G.GF (gb.ext y15) (qb.ext y15) cc ?_
    intro h16 e16
    obtain ⟨p1, p2, p3, p4⟩ := fin e16
    simp [lo2, iB', p3, w1]
    refine st64o p2 (k := a) (by simp; omega) ?_
    intro h17 o17 m17
    rw [st1] at o17
    simp [wk]
    refine ⟨⟨k2 + 1, _, _, _, _, _, _, _, _, _, _, _, _, _, _, _, _, _, _, _, _, _, rfl, by omega, p1.mod m17 (fun _ => by simp; omega), o17, Mod.ext p4 m17 (fun j hj => by omega)⟩, by simp [argI]; omega⟩
  · have i0' : ¬ (0 : Int) < i := by omega
    obtain ⟨p1, p2, p3, p4⟩ := fin (Mod.refl h15)
    simp [i0, i0', iB', p3, w1]
    refine st64o p2 (k := a) (by simp; omega) ?_
    intro h17 o17 m17
    rw [st1] at o17
    simp [wk]
    refine ⟨⟨k2 + 1, _, _, _, _, _, _, _, _, _, _, _, _, _, _, _, _, _, _, _, _, _, rfl, by omega, p1.mod m17 (fun _ => by simp; omega), o17, Mod.ext p4 m17 (fun j hj => by omega)⟩, by simp [argI]; omega⟩
end
end Go.Rm
