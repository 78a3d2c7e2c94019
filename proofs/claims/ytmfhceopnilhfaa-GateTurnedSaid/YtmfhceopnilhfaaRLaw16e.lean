import Derived.Test.YtmfhceopnilhfaaRLaw16e0

/- The laws of gates: GateTurned, the walk. -/
set_option linter.unusedSimpArgs false
set_option linter.unusedVariables false
namespace Go.Rm
def swF (i : Nat) (l : List Tri) : List Tri := (l.take i).map swT ++ l.drop i
theorem swF_len {i : Nat} {l : List Tri} : (swF i l).length = l.length := by simp [swF]; omega
theorem swF_zero {l : List Tri} : swF 0 l = l := by simp [swF]
theorem swF_all {l : List Tri} {i : Nat} (h : l.length ≤ i) : swF i l = l.map swT := by simp [swF, List.take_of_length_le h, List.drop_of_length_le h]
theorem swF_at {l : List Tri} {i : Nat} (hi : i < l.length) : nthT (swF i l) i = nthT l i := by
  rw [nthT_eq hi, nthT_eq (by rw [swF_len]; exact hi)]
  simp only [swF]
  rw [List.getElem_append_right (by simp; omega)]
  simp only [List.length_map, List.length_take, List.getElem_drop]
  congr 1
  omega
theorem swF_succ {l : List Tri} {i : Nat} (hi : i < l.length) : (swF i l).set i (swT (nthT l i)) = swF (i + 1) l := by
  have hlen : ((l.take i).map swT).length = i := by simp; omega
  have e := List.drop_eq_getElem_cons hi
  rw [nthT_eq hi]
  simp only [swF]
  rw [e, List.take_succ_eq_append_getElem hi, List.set_append, if_neg (by omega), hlen, Nat.sub_self, List.set_cons_zero]
  simp only [List.map_append, List.map_cons, List.map_nil, List.append_assoc, List.cons_append, List.nil_append]
theorem nthT_setS {l : List Tri} {i : Nat} {x : Tri} (hi : i < l.length) : nthT (l.set i x) i = x := by simp [nthT, hi]
theorem sw_cells {l : List Tri} {i : Nat} (hi : i < l.length) : ((cells3 ((swF i l).map triV)).set (i * 3) (.int .i64 (nthT l i).b)).set (i * 3 + 1) (.int .i64 (nthT l i).a) = cells3 ((swF (i + 1) l).map triV) := by
  have hl : i < (swF i l).length := by rw [swF_len]; exact hi
  rw [(tri_set hl).1, (tri_set (by simpa using hl)).2.1, List.set_set, nthT_setS hl, swF_at hi, ← swF_succ hi]
  rfl
def swQ (p : Tab × Sl) : Tab × Sl := (swB p.1, p.2)
def swP (i : Nat) (l : List (Tab × Sl)) : List (Tab × Sl) := (l.take i).map swQ ++ l.drop i
theorem swP_len {i : Nat} {l : List (Tab × Sl)} : (swP i l).length = l.length := by simp [swP]; omega
theorem swP_zero {l : List (Tab × Sl)} : swP 0 l = l := by simp [swP]
theorem swP_all {l : List (Tab × Sl)} {i : Nat} (h : l.length ≤ i) : swP i l = l.map swQ := by simp [swP, List.take_of_length_le h, List.drop_of_length_le h]
theorem swP_at {l : List (Tab × Sl)} {i : Nat} (hi : i < l.length) : (swP i l)[i]'(by rw [swP_len]; exact hi) = l[i] := by
  simp only [swP]
  rw [List.getElem_append_right (by simp; omega)]
  simp only [List.length_map, List.length_take, List.getElem_drop]
  congr 1
  omega
theorem swP_succ {l : List (Tab × Sl)} {i : Nat} (hi : i < l.length) : (swP i l).set i (swQ l[i]) = swP (i + 1) l := by
  have hlen : ((l.take i).map swQ).length = i := by simp; omega
  have e := List.drop_eq_getElem_cons hi
  simp only [swP]
  rw [e, List.take_succ_eq_append_getElem hi, List.set_append, if_neg (by omega), hlen, Nat.sub_self, List.set_cons_zero]
  simp only [List.map_append, List.map_cons, List.map_nil, List.append_assoc, List.cons_append, List.nil_append]

section
variable {Y : Sys} {h h' : Heap}

def TuI1 (B C M : Nat) (s2 : Sl) (as : List Tri) (h0 : Heap) (e : List Value) (h' : Heap) : Prop :=
  ∃ (i : Nat) (v0 v1 v4 v7 v8 v9 v10 v11 v12 v13 v14 v15 v16 v17 v18 v19 v20 v21 v22 v23 v24 v25 : Value), e = [v0, v1, .pointer (some ⟨B, 0, none⟩), .pointer (some ⟨C, 0, none⟩), v4, .pointer (some ⟨M, 0, none⟩), .int .i64 i, v7, v8, v9, v10, v11, v12, v13, v14, v15, v16, v17, v18, v19, v20, v21, v22, v23, v24, v25] ∧ i ≤ as.length ∧ Own h' 3 s2 (cells3 ((swF i as).map triV)) ∧ Mod (fun j => s2.nl = false ∧ j = s2.b) h0 h'
def TuI2 (B C M : Nat) (s3 : Sl) (P : List (Tab × Sl)) (h0 : Heap) (e : List Value) (h' : Heap) : Prop :=
  ∃ (i : Nat) (v0 v1 v4 v6 v8 v9 v10 v11 v12 v13 v14 v15 v16 v17 v18 v19 v20 v21 v22 v23 v24 v25 : Value), e = [v0, v1, .pointer (some ⟨B, 0, none⟩), .pointer (some ⟨C, 0, none⟩), v4, .pointer (some ⟨M, 0, none⟩), v6, .int .i64 i, v8, v9, v10, v11, v12, v13, v14, v15, v16, v17, v18, v19, v20, v21, v22, v23, v24, v25] ∧ i ≤ P.length ∧ Own h' 3 s3 (cells3 ((swP i P).map tabP)) ∧ Mod (fun j => s3.nl = false ∧ j = s3.b) h0 h'
def TuI3 (x y : Sl) (h0 : Heap) (e : List Value) (h' : Heap) : Prop :=
  ∃ (i : Nat) (v0 v1 v2 v3 v4 v5 v6 v7 v8 v9 v10 v11 v15 v16 v17 v18 v19 v20 v21 v22 v23 v24 v25 : Value), e = [v0, v1, v2, v3, v4, v5, v6, v7, v8, v9, v10, v11, x.v, y.v, .int .i64 i, v15, v16, v17, v18, v19, v20, v21, v22, v23, v24, v25] ∧ i ≤ x.n ∧ Ext h0 h'
def TuI4 (x y : Sl) (k n : Nat) (h0 : Heap) (e : List Value) (h' : Heap) : Prop :=
  ∃ (i : Nat) (v0 v1 v2 v3 v4 v5 v6 v7 v8 v9 v10 v11 v16 v17 v18 v19 v20 v21 v22 v23 v24 v25 : Value), e = [v0, v1, v2, v3, v4, v5, v6, v7, v8, v9, v10, v11, x.v, y.v, .int .i64 k, .int .i64 i, v16, v17, v18, v19, v20, v21, v22, v23, v24, v25] ∧ i ≤ n ∧ Ext h0 h'

theorem gateturned_spec (G : GateLaw Y) (HM : Y.Has F.rlaw16_GateTurned S_rlaw16_GateTurned) (HC : Y.Has F.rref6_CopyNet S_rref6_CopyNet) {sv sa st s : Sl} {N : NetD} {L : List (List Int)} (r : NetH h sv sa st N) (q : RowL h s L) (hmax : s.n ≤ 9223372036854775807)
    {R : Value → Heap → Prop} (hr : ∀ h', Ext h h' → R (.bool true) h') : CallP Y F.rlaw16_GateTurned [netV sv sa st, ptV s] h R := by
  refine .of_has HM rfl ?_
  simp [S_rlaw16_GateTurned, FnS.wp, netV, ptV]
  refine ef_new_box ?_
  intro B h1 g1 B1 e1
  simp
  refine ef_new_box ?_
  intro C h2 g2 C2 e2
  have x2 := e1.trans e2
  have B2 := B1.ext e2
  simp
  refine known16_spec G ?_
  intro h3 e3
  have x3 := x2.trans e3
  have B3 := B2.ext e3
  have C3 := C2.ext e3
  simp [rd_blk B3, rd_blk C3]
  refine may15_spec G.M (r.ext x3) (q.ext x3) hmax ?_
  intro h4 e4
  have x4 := x3.trans e4
  have B4 := B3.ext e4
  have C4 := C3.ext e4
  by_cases hm : may15 N L = true
  rotate_left
  · have hm' : may15 N L = false := by simpa using hm
    simp [hm']
    exact hr _ x4
  obtain ⟨hf, ok, pk, bv, ba⟩ := may15_facts hm
  have okT := turned_ok ok
  have cc := CellsOf.of ok pk
  have lq := q.len
  have bL := pk.bL
  simp [hm, rd_blk B4]
  refine rcopynet_spec HC (r.ext x4) ok.small ?_
  intro h5 s1 s2 s3 P e5 o1 o2 o3 hP hrow f1 f2 d12 f3
  have x5 := x4.trans e5
  have bT := ok.bt
  have lB := B4.lt
  have lC := C4.lt
  have n2 := o2.n3
  have n3 := o3.n3
  simp only [List.length_map] at n2 n3
  simp [netV]
  refine ef_new_box ?_
  intro M h6 g6 M6 e6
  simp
  refine ef_store_box M6 rfl rfl (by simp) ?_
  intro h7 M7 m7
  have e57 := Mod.toExtG e6 m7 g6
  have lM : s1.nl = false → s1.b < M := fun hn => by have := o1.lt hn; omega
  simp
  have o27 := o2.ext' e57
  refine wp_loop' (TuI1 B C M s2 N.as h7) (fun e _ => N.as.length - argI e 6) ⟨0, _, _, _, _, _, _, _, _, _, _, _, _, _, _, _, _, _, _, _, _, _, _, rfl, by omega, by rw [swF_zero]; exact o27, Mod.refl _⟩ ?_
  rintro e h8 ⟨i, v0, v1, v4, v7, v8, v9, v10, v11, v12, v13, v14, v15, v16, v17, v18, v19, v20, v21, v22, v23, v24, v25, rfl, hi, o28, m8⟩
  have M8 : Blk h8 M #[s1.v, s2.v, s3.v] := m8.blk M7 (fun q => by have := o2.lt q.1; have := q.2; omega)
  by_cases c : i < N.as.length
  · have c' : (i : Int) < s2.n := by omega
    have w1 : IntKind.i64.wrap ((i : Int) + 1) = (i : Int) + 1 := i64_wrap (by omega)
    have cs : i < s2.n := by omega
    have hl : i < (swF i N.as).length := by rw [swF_len]; exact c
    have g := o28.row3
    have v0 := g.v0 i hl
    have v1 := g.v1 i hl
    rw [swF_at c] at v0 v1
    simp [M8.hc, c', cs, sem_idxa o28.ok, v0, v1]
    refine stN o28 (k := i * 3) (by rw [cells3_len]; simp [swF_len]; omega) ?_
    intro h9 o29 m9
    obtain ⟨_, _, _, nl2⟩ := o28.blk (i := i * 3) (by rw [cells3_len]; simp [swF_len]; omega)
    have m9' : Mod (fun j => s2.nl = false ∧ j = s2.b) h8 h9 := m9.mono fun j _ hj => ⟨nl2, hj⟩
    have M9 : Blk h9 M #[s1.v, s2.v, s3.v] := m9'.blk M8 (fun q => by have := o2.lt q.1; have := q.2; omega)
    simp [M9.hc, cs, sem_idxa o28.ok]
    rw [Nat.add_assoc]
    refine stN o29 (k := i * 3 + 1) (by rw [List.length_set, cells3_len]; simp [swF_len]; omega) ?_
    intro h10 o30 m10
    rw [sw_cells c] at o30
    simp [w1]
    refine ⟨⟨i + 1, _, _, _, _, _, _, _, _, _, _, _, _, _, _, _, _, _, _, _, _, _, _, rfl, by omega, o30, (m8.trans m9').trans (m10.mono fun j _ hj => ⟨nl2, hj⟩)⟩, by simp [argI]; omega⟩
  have ci : N.as.length ≤ i := by omega
  have c' : ¬ (i : Int) < s2.n := by omega
  rw [swF_all ci] at o28
  simp [M8.hc, c']
  have o38 : Own h8 3 s3 (cells3 (P.map tabP)) := (o3.ext' e57).mod m8 (fun hn q => (f3 hn).2.2 q.2)
  have hPn : P.length = N.ts.length := by rw [← hP, List.length_map]
  refine wp_loop' (TuI2 B C M s3 P h8) (fun e _ => P.length - argI e 7) ⟨0, _, _, _, _, _, _, _, _, _, _, _, _, _, _, _, _, _, _, _, _, _, _, rfl, by omega, by rw [swP_zero]; exact o38, Mod.refl _⟩ ?_
  rintro e h11 ⟨i, v0, v1, v4, v6, v8, v9, v10, v11, v12, v13, v14, v15, v16, v17, v18, v19, v20, v21, v22, v23, v24, v25, rfl, hj, o311, m11⟩
  have M11 : Blk h11 M #[s1.v, s2.v, s3.v] := m11.blk M8 (fun q => by have := o3.lt q.1; have := q.2; omega)
  by_cases d : i < P.length
  · have d' : (i : Int) < s3.n := by omega
    have w1 : IntKind.i64.wrap ((i : Int) + 1) = (i : Int) + 1 := i64_wrap (by omega)
    have ds : i < s3.n := by omega
    have hl : i < (swP i P).length := by rw [swP_len]; exact d
    obtain ⟨v0, v1, v2⟩ := o311.get3 (i := i) (by simpa using hl)
    simp only [List.getElem_map, swP_at d, tabP] at v0 v1 v2
    have rr : rd h11 s3.b (s3.o + i * 3) 3 = some [.int .i64 P[i].1.i, .int .i64 P[i].1.o, P[i].2.v] := by
      refine rd_of (l := [.int .i64 P[i].1.i, .int .i64 P[i].1.o, P[i].2.v]) fun j v hj => ?_
      match j with
      | 0 => simp at hj; subst hj; exact v0
      | 1 => simp at hj; subst hj; exact v1
      | 2 => simp at hj; subst hj; exact v2
      | j + 3 => simp at hj
    simp [M11.hc, d', ds, sem_idxa o311.ok, rr]
    refine ef_new_box ?_
    intro T h12 g12 T12 e12
    simp
    refine ef_store_box T12 rfl rfl (by simp) ?_
    intro h13 T13 m13
    have e13 := Mod.toExtG e12 m13 g12
    have o313 := o311.ext' e13
    simp [T13.hc, (M11.ext e13).hc, ds, sem_idxa o313.ok]
    refine st3 o313 (i := i) (by simpa using hl) rfl rfl rfl ?_
    intro h14 o314 m14
    have eP : ((swP i P).map tabP).set i (.int .i64 P[i].1.o, .int .i64 P[i].1.i, P[i].2.v) = (swP (i + 1) P).map tabP := by
      rw [← swP_succ d, List.map_set]
      rfl
    rw [eP] at o314
    obtain ⟨_, _, _, nl3⟩ := o311.blk (i := i * 3) (by rw [cells3_len]; simp [swP_len]; omega)
    simp [w1]
    refine ⟨⟨i + 1, _, _, _, _, _, _, _, _, _, _, _, _, _, _, _, _, _, _, _, _, _, _, rfl, by omega, o314, (m11.trans (e13.mono fun _ _ hj => hj.elim)).trans (m14.mono fun j _ hj => ⟨nl3, hj⟩)⟩, by simp [argI]; omega⟩
  have ci : P.length ≤ i := by omega
  have d' : ¬ (i : Int) < s3.n := by omega
  rw [swP_all ci] at o311
  have e8 : Ext h4 h8 := Mod.ext (e5.trans e57) m8 (fun b q => by have := q.2; omega)
  have e11 : Ext h4 h11 := Mod.ext e8 m11 (fun b q => by have := (f3 q.1).1; have := q.2; omega)
  have x11 := x4.trans e11
  have o111 := ((o1.ext' e57).mod m8 (fun _ q => d12 q.2)).mod m11 (fun _ q => (f3 q.1).2.1 q.2.symm)
  have o211 := o28.mod m11 (fun _ q => (f3 q.1).2.2 q.2.symm)
  have nT : NetH h11 s1 s2 s3 (turned N) := by
    refine ⟨o111.row3, o211.row3, o311.rowT (by simp [turned, ← hP, swQ]) ?_⟩
    intro p hp
    obtain ⟨p0, hp0, rfl⟩ := List.mem_map.1 hp
    obtain ⟨r0, a0, a1, a2, a3⟩ := hrow p0 hp0
    exact ((r0.ext e57).mod m8 (fun _ q => a2 q.2)).mod m11 (fun _ q => a3 q.1 q.2)
  have B11 := B4.ext e11
  have C11 := C4.ext e11
  simp [M11.hc, d', rd_blk B11, rd_blk M11]
  refine made_spec G.MF (r.ext x11) hf ok ?_
  intro h12 p S e12 gp _
  simp [rd_blk (M11.ext e12)]
  refine made_spec G.MF (nT.ext e12) (turned_few hf) okT ?_
  intro h13 p' S' e13 gp' _
  have y13 := e12.trans e13
  simp [rd_blk (C11.ext y13)]
  refine cellto_spec G.CT (q.ext (x11.trans y13)) (by omega) (fun i hi => by have := cc.ln i hi; omega) ?_
  intro h14 s6 e14 q6 n6
  simp [ptV]
  refine ef_new_box ?_
  intro D h15 g15 D15 e15
  simp
  refine ef_store_box D15 rfl rfl (by simp) ?_
  intro h16 D16 m16
  have e146 := Mod.toExtG e15 m16 g15
  have y16 := e14.trans e146
  have x16 := (x11.trans y13).trans y16
  have q16 := q6.ext e146
  simp [rd_blk D16]
  refine gateof_spec G.GO (gp.ext (e13.trans y16)) q16 ok pk ?_
  intro h17 t e17 gt
  simp [rd_blk (D16.ext e17)]
  refine gateof_spec G.GO (gp'.ext (y16.trans e17)) (q16.ext e17) okT pk ?_
  intro h18 t' e18 gt'
  have gA := gt.ext e18
  have gB := gt'
  have x18 := x16.trans (e17.trans e18)
  have tn : t.n = L.length := gA.len.symm
  have tn' : t'.n = L.length := gB.len.symm
  simp [tn, tn']
  refine wp_loop' (TuI3 t t' h18) (fun e _ => t.n - argI e 14) ⟨0, _, _, _, _, _, _, _, _, _, _, _, _, _, _, _, _, _, _, _, _, _, _, _, rfl, by omega, Mod.refl _⟩ ?_
  rintro e h19 ⟨i, v0, v1, v2, v3, v4, v5, v6, v7, v8, v9, v10, v11, v15, v16, v17, v18, v19, v20, v21, v22, v23, v24, v25, rfl, hi3, e19⟩
  by_cases c : i < t.n
  rotate_left
  · have c' : ¬ (i : Int) < L.length := by omega
    simp [tn, c']
    exact hr _ (x18.trans e19)
  have c' : (i : Int) < L.length := by omega
  have ct' : i < t'.n := by omega
  have c2 : i < L.length := by omega
  have w1 : IntKind.i64.wrap ((i : Int) + 1) = (i : Int) + 1 := i64_wrap (by omega)
  obtain ⟨u, hu, cu⟩ := gates_at gA c
  obtain ⟨w, hw, cw⟩ := gates_at gB ct'
  have lu := cu.len
  have lw := cw.len
  obtain ⟨_, _, gn, _⟩ := cells_row pk c2
  simp [tn, tn', c', c2, sem_idxa gA.ok, sem_idxa gB.ok, hu, hw, e19, lu, lw]
  refine wp_loop' (TuI4 t t' i (gateN L i) h19) (fun e _ => gateN L i - argI e 15) ⟨0, _, _, _, _, _, _, _, _, _, _, _, _, _, _, _, _, _, _, _, _, _, _, rfl, by omega, Mod.refl _⟩ ?_
  rintro e h20 ⟨j, v0, v1, v2, v3, v4, v5, v6, v7, v8, v9, v10, v11, v16, v17, v18, v19, v20, v21, v22, v23, v24, v25, rfl, hj, e20⟩
  have e1920 := e19.trans e20
  by_cases d : j < gateN L i
  rotate_left
  · have d' : ¬ (j : Int) < gateN L i := by omega
    simp [tn, c', c2, sem_idxa gA.ok, hu, e1920, lu, d', w1]
    refine ⟨⟨i + 1, _, _, _, _, _, _, _, _, _, _, _, _, _, _, _, _, _, _, _, _, _, _, _, rfl, by omega, e1920⟩, by simp [argI]; omega⟩
  have d' : (j : Int) < gateN L i := by omega
  have w2 : IntKind.i64.wrap ((j : Int) + 1) = (j : Int) + 1 := i64_wrap (by omega)
  obtain ⟨a1, b1, v1, ra1, rb1⟩ := cells_at cu d
  obtain ⟨a2, b2, v2, ra2, rb2⟩ := cells_at cw d
  rw [gateD_sw] at ra2 rb2
  have n1 := ra1.len
  have n2' := rb1.len
  have gl := fun (b : Bool) => Nat.le_trans (gateC_len (N := N) (row := nthL L i) (l := crossL N L ((i : Int) + 1)) (b := b) (c := j)) crossL_len
  have gl1 := gl false
  have gl2 := gl true
  simp [tn, tn', c', c2, sem_idxa gA.ok, sem_idxa gB.ok, hu, hw, e1920, sem_idxa cu.ok, sem_idxa cw.ok, lu, lw, d, d', (v1 h20 e1920).1, (v1 h20 e1920).2.1, (v2 h20 e1920).1, (v2 h20 e1920).2.1]
  simp only [Bool.not_true, Bool.not_false] at ra2 rb2
  refine rsameints_spec G.SameInts (ra1.ext e1920) (rb2.ext e1920) (by unfold gateD at n1; omega) ?_
  simp [tn, tn', c', c2, sem_idxa gA.ok, sem_idxa gB.ok, hu, hw, e1920, sem_idxa cu.ok, sem_idxa cw.ok, lu, lw, d, d', (v1 h20 e1920).1, (v1 h20 e1920).2.1, (v2 h20 e1920).1, (v2 h20 e1920).2.1]
  refine rsameints_spec G.SameInts (rb1.ext e1920) (ra2.ext e1920) (by unfold gateD at n2'; omega) ?_
  simp [w2]
  refine ⟨⟨j + 1, _, _, _, _, _, _, _, _, _, _, _, _, _, _, _, _, _, _, _, _, _, _, rfl, by omega, e20⟩, by simp [argI]; omega⟩
end
end Go.Rm
