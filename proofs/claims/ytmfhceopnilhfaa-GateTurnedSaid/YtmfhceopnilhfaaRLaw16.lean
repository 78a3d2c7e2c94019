import Derived.Test.YtmfhceopnilhfaaRGate8

/- The laws of gates: the known net. -/
set_option linter.unusedSimpArgs false
set_option linter.unusedVariables false
namespace Go.Rm

structure GateLaw (Y : Sys) : Prop where
  M : May16 Y
  MF : MadeFns Y
  CT : CellTo Y
  GO : GateOf Y
  GF : GateFns Y
  GD : Gate16 Y
  Bs : BsFns Y
  Is : Y.Has F.rlaw16_Is S_rlaw16_Is
  known : Y.Has F.rlaw16_known S_rlaw16_known
  Ring : Y.Has F.rlaw6_Ring S_rlaw6_Ring
  Two : Y.Has F.rlaw15_Two S_rlaw15_Two
  SameInts : Y.Has F.rref6_SameInts S_rref6_SameInts

def twoL : List (List Int) := [[0, 0, 1], [0, 0, 0]]
theorem twoL_ok : PartOK 3 twoL := partOK_iff.1 (by decide +kernel)
theorem may15_facts {N : NetD} {L : List (List Int)} (h : may15 N L = true) : fewD N = true ∧ NetOK N ∧ PartOK N.vs.length L ∧ N.vs.length ≤ 24 ∧ N.as.length ≤ 90 := by
  simp [may15, may13, smallD] at h
  obtain ⟨⟨⟨h1, h2⟩, h3⟩, ⟨h4, h5⟩, h6⟩ := h
  have h7 := may_ok h3
  exact ⟨h7.1, h7.2, partOK_iff.1 h6, h1, h2⟩

section
variable {Y : Sys} {h h' : Heap}

theorem is_spec (G : GateLaw Y) {a b c d : Sl} {la lb lc ld : List Int} (ra : Row64 h a la) (rb : Row64 h b lb) (rc : Row64 h c lc) (rd' : Row64 h d ld) (ba : a.n ≤ 1000000) (bb : b.n ≤ 1000000) {R : Value → Heap → Prop}
    (hr : ∀ h', Ext h h' → R (.bool (decide (la = lc) && decide (lb = ld))) h') : CallP Y F.rlaw16_Is [.agg #[a.v, b.v], .agg #[c.v, d.v]] h R := by
  refine .of_has G.Is rfl ?_
  simp [S_rlaw16_Is, FnS.wp]
  refine ef_new_box ?_
  intro B h1 g1 B1 e1
  simp
  refine ef_new_box ?_
  intro C h2 g2 C2 e2
  have x2 := e1.trans e2
  have B2 := B1.ext e2
  simp [B2.hc, C2.hc]
  refine rsameints_spec G.SameInts (ra.ext x2) (rc.ext x2) ba ?_
  by_cases e : la = lc
  rotate_left
  · simp [e] at hr ⊢
    exact hr _ x2
  · simp [e] at hr ⊢
    simp [B2.hc, C2.hc]
    refine rsameints_spec G.SameInts (rb.ext x2) (rd'.ext x2) bb ?_
    simp
    exact hr _ x2

theorem Mod.toExtG {p : Nat} {h0 h h' : Heap} (x : Ext h0 h) (m : Mod (fun j => j = p) h h') (hp : h0.size ≤ p) : Ext h0 h' := Mod.ext x m (fun j hj => by omega)
theorem two_spec (G : GateLaw Y) {R : Value → Heap → Prop} (hr : ∀ h' s, Ext h h' → RowL h' s twoL → s.n = 2 → R (ptV s) h') : CallP Y F.rlaw15_Two [] h R := by
  refine .of_has G.Two rfl ?_
  simp [S_rlaw15_Two, FnS.wp]
  refine ef_new_box ?_
  intro B h1 g1 B1 e1
  simp
  refine ef_bslice_all rfl rfl rfl ?_ (by omega)
  intro b2 h2 g2 B2 e2 o2
  simp
  refine ef_bslice_all rfl rfl rfl ?_ (by omega)
  intro b3 h3 g3 B3 e3 o3
  simp
  refine ef_bslice_all rfl rfl rfl ?_ (by omega)
  intro b4 h4 g4 B4 e4 o4
  simp at o2 o3 o4
  have hb : ∀ g, IOp.sem Y g (.build #[.slice none 0 0] [(0, 1)] [0]) [.slice (some ⟨b4, 0, none⟩) 2 2] = some (.agg #[.slice (some ⟨b4, 0, none⟩) 2 2]) := fun g => by simp [IOp.sem, Instr.fill]
  simp [hb]
  have x4 := ((e1.trans e2).trans e3).trans e4
  refine ef_store_box ((((B1.ext e2).ext e3).ext e4)) rfl rfl (by simp) ?_
  intro h5 B5 m5
  simp
  refine resP_x rfl B5 rfl ?_
  have z1 := e1.size
  have z2 := e2.size
  have z3 := e3.size
  have lB := B1.lt
  have := hr h5 (Sl.at b4 2 2) (Mod.ext x4 m5 (fun j hj => by omega)) ?_ rfl
  · exact this
  · have o25 : Own h5 1 (Sl.at b2 3 3) (ints64 [0, 0, 1]) := (((o2.ext' e3).ext' e4).mod m5 (fun _ => by simp; omega))
    have o35 : Own h5 1 (Sl.at b3 3 3) (ints64 [0, 0, 0]) := ((o3.ext' e4).mod m5 (fun _ => by simp; omega))
    refine Own.rowL (P := [([0, 0, 1], Sl.at b2 3 3), ([0, 0, 0], Sl.at b3 3 3)]) (o4.mod m5 (fun _ => by simp; omega)) rfl (fun p hp => ?_)
    simp only [List.mem_cons, List.not_mem_nil, or_false] at hp
    rcases hp with rfl | rfl
    · exact o25.row64
    · exact o35.row64

theorem gates_at {s : Sl} {N : NetD} {L : List (List Int)} (g : GatesH h s N L) {i : Nat} (hi : i < s.n) : ∃ u : Sl, (∀ h', Ext h h' → hc h' s.b (s.o + i) = some u.v) ∧ CellsH h u (gateN L i) (gateD N L i) := by
  obtain ⟨u, a, b⟩ := g.val i (by rw [g.len]; exact hi)
  exact ⟨u, fun g e => e.hc a (fun h => h), b⟩
theorem cells_at {u : Sl} {n : Nat} {D : Bool → Nat → List Int} (g : CellsH h u n D) {c : Nat} (hc' : c < n) : ∃ a b : Sl, (∀ h', Ext h h' → hc h' u.b (u.o + c * 2) = some a.v ∧ hc h' u.b (u.o + c * 2 + 1) = some b.v ∧ rd h' u.b (u.o + c * 2) 2 = some [a.v, b.v]) ∧ Row64 h a (D false c) ∧ Row64 h b (D true c) := by
  obtain ⟨a, a1, a2⟩ := g.val false c hc'
  obtain ⟨b, b1, b2⟩ := g.val true c hc'
  simp [b2n] at a1 b1
  refine ⟨a, b, fun h' e => ?_, a2, b2⟩
  have q1 := e.hc a1 (fun h => h)
  have q2 := e.hc b1 (fun h => h)
  refine ⟨q1, q2, rd_of (l := [a.v, b.v]) (fun j v hj => ?_)⟩
  match j with
  | 0 => simp at hj; subst hj; exact q1
  | 1 => simp at hj; subst hj; exact q2
  | j + 2 => simp at hj

theorem row64_nil : Row64 h Sl.nil [] := ⟨Sl.nil_ok, rfl, fun i hi => by simp at hi⟩
theorem row_of {b n : Nat} {l : List Int} (o : Own h 1 (Sl.at b n n) (ints64 l)) : Row64 h (Sl.at b n n) l := o.row64
theorem known16_spec (G : GateLaw Y) {R : Value → Heap → Prop} (hr : ∀ h', Ext h h' → R (.bool true) h') : CallP Y F.rlaw16_known [] h R := by
  refine .of_has G.known rfl ?_
  simp [S_rlaw16_known, FnS.wp]
  refine ring6_spec G.Ring ?_
  intro h1 a1 a2 a3 e1 r1 _ _ _ _
  simp
  refine made_spec G.MF r1 (by decide) ringN_OK ?_
  intro h2 p S e2 g2 _
  have x2 := e1.trans e2
  simp
  refine two_spec G ?_
  intro h3 s3 e3 r3 n3
  simp
  refine cellto_spec G.CT r3 (by omega) (by decide) ?_
  intro h4 s4 e4 r4 n4
  simp [ptV]
  refine ef_new_box ?_
  intro B h5 g5 B5 e5
  simp
  refine ef_store_box B5 rfl rfl (by simp) ?_
  intro h6 B6 m6
  have e46 := Mod.toExtG e5 m6 g5
  have e26 := (e3.trans e4).trans e46
  have g6 := g2.ext e26
  have r6 := r4.ext e46
  have x6 := x2.trans e26
  have cc : CellsOf ringN twoL := CellsOf.of ringN_OK twoL_ok
  simp [rd_blk B6]
  refine gateof_spec G.GO g6 r6 ringN_OK twoL_ok ?_
  intro h7 t e7 gt7
  have x7 := x6.trans e7
  have tn : t.n = 2 := gt7.len.symm
  obtain ⟨u0, hu0, c0⟩ := gates_at gt7 (i := 0) (by omega)
  obtain ⟨u1, hu1, c1⟩ := gates_at gt7 (i := 1) (by omega)
  have n0 : gateN twoL 0 = 2 := by decide
  have n1 : gateN twoL 1 = 1 := by decide
  rw [n0] at c0
  rw [n1] at c1
  have l0 := c0.len
  have l1 := c1.len
  have d00 : gateD ringN twoL 0 false 0 = [2] ∧ gateD ringN twoL 0 true 0 = [1] ∧ gateD ringN twoL 0 false 1 = [1] ∧ gateD ringN twoL 0 true 1 = [2] ∧ gateD ringN twoL 1 false 0 = [] ∧ gateD ringN twoL 1 true 0 = [] := by decide
  obtain ⟨q1, q2, q3, q4, q5, q6⟩ := d00
  obtain ⟨a0, b0, v0, ra0, rb0⟩ := cells_at c0 (c := 0) (by omega)
  obtain ⟨a1, b1, v1, ra1, rb1⟩ := cells_at c0 (c := 1) (by omega)
  obtain ⟨a2, b2, v2, ra2, rb2⟩ := cells_at c1 (c := 0) (by omega)
  rw [q1] at ra0
  rw [q2] at rb0
  rw [q3] at ra1
  rw [q4] at rb1
  rw [q5] at ra2
  rw [q6] at rb2
  have hb : ∀ (g : Heap) (x y : Option Addr) (n c n' c' : Nat), IOp.sem Y g (.build #[.slice none 0 0, .slice none 0 0] [(0, 1), (1, 1)] [0, 1]) [.slice x n c, .slice y n' c'] = some (.agg #[.slice x n c, .slice y n' c']) := fun g x y n c n' c' => sem_build2 rfl rfl
  have T0 : ∀ g, IOp.sem Y g (.idxa 1) [t.v, .int .i64 0] = some (.pointer (some ⟨t.b, t.o, none⟩)) := fun g => by have := sem_idxa (Y := Y) (h := g) (s := t) (sz := 1) (k := .i64) (i := 0) gt7.ok (by omega) (by omega); simpa using this
  have T1 : ∀ g, IOp.sem Y g (.idxa 1) [t.v, .int .i64 1] = some (.pointer (some ⟨t.b, t.o + 1, none⟩)) := fun g => by have := sem_idxa (Y := Y) (h := g) (s := t) (sz := 1) (k := .i64) (i := 1) gt7.ok (by omega) (by omega); simpa using this
  have U00 : ∀ g, IOp.sem Y g (.idxa 2) [u0.v, .int .i64 0] = some (.pointer (some ⟨u0.b, u0.o, none⟩)) := fun g => by have := sem_idxa (Y := Y) (h := g) (s := u0) (sz := 2) (k := .i64) (i := 0) c0.ok (by omega) (by omega); simpa using this
  have U01 : ∀ g, IOp.sem Y g (.idxa 2) [u0.v, .int .i64 1] = some (.pointer (some ⟨u0.b, u0.o + 2, none⟩)) := fun g => by have := sem_idxa (Y := Y) (h := g) (s := u0) (sz := 2) (k := .i64) (i := 1) c0.ok (by omega) (by omega); simpa using this
  have U10 : ∀ g, IOp.sem Y g (.idxa 2) [u1.v, .int .i64 0] = some (.pointer (some ⟨u1.b, u1.o, none⟩)) := fun g => by have := sem_idxa (Y := Y) (h := g) (s := u1) (sz := 2) (k := .i64) (i := 0) c1.ok (by omega) (by omega); simpa using this
  simp at hu0 v0 v1 v2
  simp [tn, T0, T1, hu0, hu1, l0, l1, U00, (v0 h7 (Mod.refl h7)).2.2]
  refine ef_bslice_all rfl rfl rfl ?_ (by omega)
  intro b8 h8 g8 _ e8 o8
  simp
  refine ef_bslice_all rfl rfl rfl ?_ (by omega)
  intro b9 h9 g9 _ e9 o9
  simp at o8 o9
  have x9 := e8.trans e9
  simp [hb]
  refine is_spec G (c := Sl.at b8 1 1) (d := Sl.at b9 1 1) (ra0.ext x9) (rb0.ext x9) (row_of (l := [2]) (o8.ext' e9)) (row_of (l := [1]) o9) (by have := ra0.len; simp at this; omega) (by have := rb0.len; simp at this; omega) ?_
  intro h10 e10
  have x10 := x9.trans e10
  simp [T0, hu0, x10, U01, (v1 h10 x10).2.2]
  refine ef_bslice_all rfl rfl rfl ?_ (by omega)
  intro b11 h11 g11 _ e11 o11
  simp
  refine ef_bslice_all rfl rfl rfl ?_ (by omega)
  intro b12 h12 g12 _ e12 o12
  simp at o11 o12
  have x12 := (x10.trans e11).trans e12
  simp [hb]
  refine is_spec G (c := Sl.at b11 1 1) (d := Sl.at b12 1 1) (ra1.ext x12) (rb1.ext x12) (row_of (l := [1]) (o11.ext' e12)) (row_of (l := [2]) o12) (by have := ra1.len; simp at this; omega) (by have := rb1.len; simp at this; omega) ?_
  intro h13 e13
  have x13 := x12.trans e13
  simp [T1, hu1, x13, U10, (v2 h13 x13).2.2]
  refine is_spec G (c := Sl.nil) (d := Sl.nil) (ra2.ext x13) (rb2.ext x13) row64_nil row64_nil (by have := ra2.len; simp at this; omega) (by have := rb2.len; simp at this; omega) ?_
  intro h14 e14
  have x14 := x13.trans e14
  have B14 := B6.ext (e7.trans x14)
  have g14 := g6.ext (e7.trans x14)
  have r14 := r6.ext (e7.trans x14)
  simp [rd_blk B14]
  refine genters_spec G.GF g14 r14 cc ?_
  intro h15 e15
  rw [show (endsV ringN twoL 1 1).2 = 1 by decide]
  simp [rd_blk (B14.ext e15)]
  refine gleaves_spec G.GF (g14.ext e15) (r14.ext e15) cc ?_
  intro h16 e16
  rw [show (endsV ringN twoL 1 1).1 = 0 by decide]
  have y16 := e15.trans e16
  simp [rd_blk (B14.ext y16)]
  refine genters_spec G.GF (g14.ext y16) (r14.ext y16) cc ?_
  intro h17 e17
  rw [show (endsV ringN twoL 1 0).2 = -1 by decide]
  have y17 := y16.trans e17
  simp [rd_blk (B14.ext y17)]
  refine genters_spec G.GF (g14.ext y17) (r14.ext y17) cc ?_
  intro h18 e18
  rw [show (endsV ringN twoL 2 1).2 = -1 by decide]
  have y18 := y17.trans e18
  simp
  refine ef_bslice_all rfl rfl rfl ?_ (by omega)
  intro b19 h19 g19 _ e19 o19
  simp at o19
  have ris : Rises [2, 5, 9] := by
    intro i j hij hj
    simp at hj
    match i, j, hij, hj with
    | 0, 1, _, _ => decide
    | 0, 2, _, _ => decide
    | 1, 2, _, _ => decide
    | _, 0, h, _ => omega
    | i + 2, 2, h, _ => omega
    | i + 1, 1, h, _ => omega
    | _, j + 3, _, h => omega
  simp
  refine gaplace_spec G.Bs (s := Sl.at b19 3 3) (row_of (l := [2, 5, 9]) o19) (by simp) ris ?_
  rw [show placeF 0 [2, 5, 9] 5 = 1 by decide]
  simp
  refine ef_bslice_all rfl rfl rfl ?_ (by omega)
  intro b20 h20 g20 _ e20 o20
  simp at o20
  simp
  refine gaplace_spec G.Bs (s := Sl.at b20 3 3) (row_of (l := [2, 5, 9]) o20) (by simp) ris ?_
  rw [show placeF 0 [2, 5, 9] 4 = -1 by decide]
  simp
  exact hr h20 ((x7.trans x14).trans ((y18.trans e19).trans e20))
end
end Go.Rm

/- The laws of gates: GateTells, GatePlace. -/
set_option linter.unusedSimpArgs false
set_option linter.unusedVariables false
namespace Go.Rm
section
variable {Y : Sys} {h h' : Heap}

def GtI1 (v0 v1 v2 v3 v7 : Value) (x y : Sl) (h0 : Heap) (e : List Value) (h' : Heap) : Prop :=
  ∃ (i : Nat) (v4 v5 v6 v8 v12 v13 v14 v15 v16 v17 v18 v19 v20 : Value), e = [v0, v1, v2, v3, v4, v5, v6, v7, v8, x.v, y.v, .int .i64 i, v12, v13, v14, v15, v16, v17, v18, v19, v20] ∧ i ≤ x.n ∧ Ext h0 h'
def GtI2 (v0 v1 v2 v3 v7 : Value) (x y : Sl) (k n : Nat) (h0 : Heap) (e : List Value) (h' : Heap) : Prop :=
  ∃ (i : Nat) (v4 v5 v6 v8 v13 v14 v15 v16 v17 v18 v19 v20 : Value), e = [v0, v1, v2, v3, v4, v5, v6, v7, v8, x.v, y.v, .int .i64 k, .int .i64 i, v13, v14, v15, v16, v17, v18, v19, v20] ∧ i ≤ n ∧ Ext h0 h'

theorem gatetells_spec (G : GateLaw Y) (HM : Y.Has F.rlaw16_GateTells S_rlaw16_GateTells) {sv sa st s : Sl} {N : NetD} {L : List (List Int)} (r : NetH h sv sa st N) (q : RowL h s L) (hmax : s.n ≤ 9223372036854775807) {l a : Int}
    {R : Value → Heap → Prop} (hr : ∀ h', Ext h h' → R (.bool true) h') : CallP Y F.rlaw16_GateTells [netV sv sa st, ptV s, .int .i64 l, .int .i64 a] h R := by
  refine .of_has HM rfl ?_
  simp [S_rlaw16_GateTells, FnS.wp, netV, ptV]
  refine ef_new_box ?_
  intro B h1 g1 B1 e1
  simp
  refine ef_new_box ?_
  intro C h2 g2 C2 e2
  have x2 := e1.trans e2
  have B2 := B1.ext e2
  simp
  refine known16_spec G ?_
  intro h3 e3
  have x3 := x2.trans e3
  have B3 := B2.ext e3
  have C3 := C2.ext e3
  simp [rd_blk B3, rd_blk C3]
  refine may15_spec G.M (r.ext x3) (q.ext x3) hmax ?_
  intro h4 e4
  have x4 := x3.trans e4
  have B4 := B3.ext e4
  have C4 := C3.ext e4
  by_cases hm : may15 N L = true
  rotate_left
  · have hm' : may15 N L = false := by simpa using hm
    simp [hm']
    exact hr _ x4
  obtain ⟨hf, ok, pk, bv, ba⟩ := may15_facts hm
  have cc := CellsOf.of ok pk
  have lq := q.len
  have bL := pk.bL
  simp [hm, rd_blk B4]
  refine made_spec G.MF (r.ext x4) hf ok ?_
  intro h5 p S e5 g5 _
  have x5 := x4.trans e5
  have C5 := C4.ext e5
  simp [rd_blk C5]
  refine cellto_spec G.CT (q.ext x5) (by omega) (fun i hi => by have := cc.ln i hi; omega) ?_
  intro h6 s6 e6 q6 n6
  have x6 := x5.trans e6
  simp [ptV]
  refine ef_new_box ?_
  intro D h7 g7 D7 e7
  simp
  refine ef_store_box D7 rfl rfl (by simp) ?_
  intro h8 D8 m8
  have e68 := Mod.toExtG e7 m8 g7
  have x8 := x6.trans e68
  have y8 := ((e4.trans e5).trans e6).trans e68
  have q8 := q6.ext e68
  have g8 := g5.ext (e6.trans e68)
  simp [rd_blk D8, rd_blk (B3.ext y8), rd_blk (C3.ext y8)]
  refine gateof_spec G.GO g8 q8 ok pk ?_
  intro h9 t e9 gt
  have x9 := x8.trans e9
  have y9 := y8.trans e9
  simp [rd_blk (B3.ext y9), rd_blk (C3.ext y9)]
  refine gates_spec G.GD (r.ext x9) (q.ext x9) ok pk ?_
  intro h10 t' e10 gt'
  have x10 := x9.trans e10
  have y10 := y9.trans e10
  have gt10 := gt.ext e10
  have q10 := q8.ext (e9.trans e10)
  have g10 := g8.ext (e9.trans e10)
  have D10 := D8.ext (e9.trans e10)
  have tn : t.n = L.length := gt.len.symm
  have tn' : t'.n = L.length := gt'.len.symm
  simp [tn, tn', rd_blk D10, rd_blk (B3.ext y10), rd_blk (C3.ext y10)]
  refine genters_spec G.GF g10 q10 cc ?_
  intro h11 e11
  simp [rd_blk (B3.ext (y10.trans e11)), rd_blk (C3.ext (y10.trans e11))]
  refine denters_spec G.GD.R (r.ext (x10.trans e11)) (q.ext (x10.trans e11)) cc ?_
  intro h12 e12
  have z12 := e11.trans e12
  have y12 := y10.trans z12
  simp [rd_blk (D10.ext z12), rd_blk (B3.ext y12), rd_blk (C3.ext y12)]
  refine gleaves_spec G.GF (g10.ext z12) (q10.ext z12) cc ?_
  intro h13 e13
  simp [rd_blk (B3.ext (y12.trans e13)), rd_blk (C3.ext (y12.trans e13))]
  refine dleaves_spec G.GD.R (r.ext ((x10.trans z12).trans e13)) (q.ext ((x10.trans z12).trans e13)) cc ?_
  intro h14 e14
  have z14 := (z12.trans e13).trans e14
  have x14 := x10.trans z14
  have gA := gt10.ext z14
  have gB := gt'.ext z14
  simp
  refine wp_loop' (GtI1 (.agg #[sv.v, sa.v, st.v]) (.agg #[s.v]) (.int .i64 l) (.int .i64 a) (.pointer (some ⟨p, 0, none⟩)) t t' h14) (fun e _ => t.n - argI e 11) ⟨0, _, _, _, _, _, _, _, _, _, _, _, _, _, rfl, by omega, Mod.refl _⟩ ?_
  rintro e h15 ⟨i, v4, v5, v6, v8, v12, v13, v14, v15, v16, v17, v18, v19, v20, rfl, hi, e15⟩
  by_cases c : i < t.n
  rotate_left
  · have c' : ¬ (i : Int) < L.length := by omega
    simp [tn, c']
    exact hr _ (x14.trans e15)
  have c' : (i : Int) < L.length := by omega
  have ct' : i < t'.n := by omega
  have c2 : i < L.length := by omega
  have w1 : IntKind.i64.wrap ((i : Int) + 1) = (i : Int) + 1 := i64_wrap (by omega)
  obtain ⟨u, hu, cu⟩ := gates_at gA c
  obtain ⟨w, hw, cw⟩ := gates_at gB ct'
  have lu := cu.len
  have lw := cw.len
  obtain ⟨_, _, gn, _⟩ := cells_row pk c2
  simp [tn, tn', c', c2, sem_idxa gA.ok, sem_idxa gB.ok, hu, hw, e15, lu, lw]
  refine wp_loop' (GtI2 (.agg #[sv.v, sa.v, st.v]) (.agg #[s.v]) (.int .i64 l) (.int .i64 a) (.pointer (some ⟨p, 0, none⟩)) t t' i (gateN L i) h15) (fun e _ => gateN L i - argI e 12) ⟨0, _, _, _, _, _, _, _, _, _, _, _, _, rfl, by omega, Mod.refl _⟩ ?_
  rintro e h16 ⟨j, v4, v5, v6, v8, v13, v14, v15, v16, v17, v18, v19, v20, rfl, hj, e16⟩
  have e1416 := e15.trans e16
  by_cases d : j < gateN L i
  rotate_left
  · have d' : ¬ (j : Int) < gateN L i := by omega
    simp [tn, c', c2, sem_idxa gA.ok, hu, e1416, lu, d', w1]
    refine ⟨⟨i + 1, _, _, _, _, _, _, _, _, _, _, _, _, _, rfl, by omega, e1416⟩, by simp [argI]; omega⟩
  have d' : (j : Int) < gateN L i := by omega
  have w2 : IntKind.i64.wrap ((j : Int) + 1) = (j : Int) + 1 := i64_wrap (by omega)
  obtain ⟨a1, b1, v1, ra1, rb1⟩ := cells_at cu d
  obtain ⟨a2, b2, v2, ra2, rb2⟩ := cells_at cw d
  have n1 := ra1.len
  have n2 := rb1.len
  have gl := fun (b : Bool) => Nat.le_trans (gateC_len (N := N) (row := nthL L i) (l := crossL N L ((i : Int) + 1)) (b := b) (c := j)) crossL_len
  have gl1 := gl false
  have gl2 := gl true
  simp [tn, tn', c', c2, sem_idxa gA.ok, sem_idxa gB.ok, hu, hw, e1416, sem_idxa cu.ok, sem_idxa cw.ok, lu, lw, d, d', (v1 h16 e1416).2.2, (v2 h16 e1416).2.2]
  refine is_spec G (ra1.ext e1416) (rb1.ext e1416) (ra2.ext e1416) (rb2.ext e1416) (by unfold gateD at n1; omega) (by unfold gateD at n2; omega) ?_
  intro h17 e17
  simp [w2]
  refine ⟨⟨j + 1, _, _, _, _, _, _, _, _, _, _, _, _, rfl, by omega, e16.trans e17⟩, by simp [argI]; omega⟩
end
end Go.Rm

/- The laws of gates: GatePlace. -/
set_option linter.unusedSimpArgs false
set_option linter.unusedVariables false
namespace Go.Rm
section
variable {Y : Sys} {h h' : Heap}

def GpI1 (v0 v2 : Value) (s : Sl) (f0 : Int) (h0 : Heap) (e : List Value) (h' : Heap) : Prop :=
  ∃ (i : Nat) (t : Sl) (cs : List Int) (v3 v6 v7 v8 v9 v10 v11 : Value), e = [v0, s.v, v2, v3, t.v, .int .i64 i, v6, v7, v8, v9, v10, v11] ∧ i ≤ s.n ∧ Own h' 1 t (ints64 cs) ∧ cs.length = i + 1 ∧ Rises cs ∧ (∀ k, k < cs.length → f0 ≤ nthI cs k ∧ nthI cs k ≤ f0 + 8 * k) ∧ h0.size ≤ t.b ∧ Ext h0 h'
def GpI2 (v0 v1 v2 : Value) (t : Sl) (h0 : Heap) (e : List Value) (h' : Heap) : Prop :=
  ∃ (i : Nat) (v3 v5 v7 v8 v9 v10 v11 : Value), e = [v0, v1, v2, v3, t.v, v5, .int .i64 i, v7, v8, v9, v10, v11] ∧ i ≤ t.n ∧ h' = h0

theorem rises_snoc {l : List Int} {x : Int} (h : Rises l) (hx : ∀ i, i < l.length → nthI l i < x) : Rises (l ++ [x]) := by
  intro i j hij hj
  simp at hj
  have e1 : ∀ k, k < l.length → nthI (l ++ [x]) k = nthI l k := fun k hk => by simp [nthI, List.getElem?_append_left hk]
  rcases Nat.lt_or_ge j l.length with g | g
  · rw [e1 i (by omega), e1 j g]; exact h i j hij g
  · obtain rfl : j = l.length := by omega
    rw [e1 i (by omega), show nthI (l ++ [x]) l.length = x by simp [nthI]]
    exact hx i (by omega)

theorem gateplace_spec (G : GateLaw Y) (HM : Y.Has F.rlaw16_GatePlace S_rlaw16_GatePlace) {s : Sl} {f : Nat → Int} (q : IntsAt h s .u16 f) (hf : ∀ i, i < s.n → 0 ≤ f i ∧ f i ≤ 65535) {f0 a : Int} (hf0 : -2147483648 ≤ f0 ∧ f0 ≤ 2147483647)
    {R : Value → Heap → Prop} (hr : ∀ h', Ext h h' → R (.bool true) h') : CallP Y F.rlaw16_GatePlace [.int .i32 f0, s.v, .int .i64 a] h R := by
  refine .of_has HM rfl ?_
  simp [S_rlaw16_GatePlace, FnS.wp]
  refine known16_spec G ?_
  intro h1 e1
  by_cases c : 200 < s.n
  · have c' : (200 : Int) < s.n := by omega
    simp [c']
    exact hr _ e1
  have c' : ¬ (200 : Int) < s.n := by omega
  have w0 : IntKind.i64.wrap f0 = f0 := i64_wrap (by omega)
  simp [c', w0]
  refine ef_bslice_all rfl rfl rfl ?_ (by omega)
  intro b2 h2 g2 _ e2 o2
  simp at o2
  have x2 := e1.trans e2
  have z2 := e2.size
  have o2' : Own h2 1 (Sl.at b2 1 1) (ints64 [f0]) := o2
  simp
  refine wp_loop' (GpI1 (.int .i32 f0) (.int .i64 a) s f0 h1) (fun e _ => s.n - argI e 5) ⟨0, Sl.at b2 1 1, [f0], _, _, _, _, _, _, _, rfl, by omega, o2', rfl, by intro i j hij hj; simp at hj; omega, by intro k hk; simp at hk; subst hk; simp [nthI], by simpa using g2, e2⟩ ?_
  rintro e h3 ⟨i, t, cs, v3, v6, v7, v8, v9, v10, v11, rfl, hi, o3, hl, hris, hb, htb, e3⟩
  have x3 := e1.trans e3
  have tn := o3.1
  simp at tn
  have r3 := o3.row64
  by_cases d : i < s.n
  · have d' : (i : Int) < s.n := by omega
    have w1 : IntKind.i64.wrap ((i : Int) + 1) = (i : Int) + 1 := i64_wrap (by omega)
    obtain ⟨f1, f2⟩ := hf i d
    obtain ⟨b1, b3⟩ := hb i (by omega)
    have hv := q.val i d
    have hv3 := x3.hc hv (fun h => h)
    have h7 : (7 : Int) ≠ 0 := by decide
    obtain ⟨m, hm⟩ : ∃ m, m = (f i).tmod 7 := ⟨_, rfl⟩
    have hm1 : 0 ≤ m ∧ m < 7 := by rw [hm, Int.tmod_eq_emod_of_nonneg f1]; omega
    have w2 : IntKind.i64.wrap (nthI cs i + 1) = nthI cs i + 1 := i64_wrap (by omega)
    have w3 : IntKind.i64.wrap m = m := i64_wrap (by omega)
    have w4 : IntKind.i64.wrap (nthI cs i + 1 + m) = nthI cs i + 1 + m := i64_wrap (by omega)
    have it : i < t.n := by omega
    simp [d', sem_idxa r3.ok, it, r3.at it, w2, sem_idxa q.ok, d, hv3, ib_rem h7, ← hm, w3, w4]
    refine ef_bslice1_bx rfl ?_
    intro b4 h4 g4 V4 e4
    simp
    refine ef_append1b (bytes := 8) rfl (o3.ext' e4) V4 (by omega) (by omega) ?_
    intro t5 h5 o5 hn5 m5 ht5
    have z4 := e4.size
    have z3 := e3.size
    have e5 : Ext h1 h5 := Mod.ext (e3.trans e4) m5 (fun j hj => by rw [hj.2]; exact htb)
    have htb5 : h1.size ≤ t5.b := by rcases ht5 with ⟨k1, _⟩ | ⟨k1, _⟩ <;> omega
    have ris5 : Rises (cs ++ [nthI cs i + 1 + m]) := by
      refine rises_snoc hris (fun j hj => ?_)
      rcases Nat.lt_or_ge j i with g | g
      · have := hris j i g (by omega); omega
      · obtain rfl : j = i := by omega
        omega
    have hb5 : ∀ k, k < (cs ++ [nthI cs i + 1 + m]).length → f0 ≤ nthI (cs ++ [nthI cs i + 1 + m]) k ∧ nthI (cs ++ [nthI cs i + 1 + m]) k ≤ f0 + 8 * k := by
      intro k hk
      simp at hk
      rcases Nat.lt_or_ge k cs.length with g | g
      · rw [show nthI (cs ++ [nthI cs i + 1 + m]) k = nthI cs k by simp [nthI, List.getElem?_append_left g]]
        exact hb k g
      · obtain rfl : k = cs.length := by omega
        rw [show nthI (cs ++ [nthI cs i + 1 + m]) cs.length = nthI cs i + 1 + m by simp [nthI]]
        omega
    simp [w1]
    refine ⟨⟨i + 1, t5, cs ++ [nthI cs i + 1 + m], _, _, _, _, _, _, _, rfl, by omega, by simpa [ints64] using o5, by simp [hl], ris5, hb5, htb5, e5⟩, by simp [argI]; omega⟩
  have d' : ¬ (i : Int) < s.n := by omega
  simp [d']
  have tpos : 0 < t.n := by omega
  refine wp_loop' (GpI2 (.int .i32 f0) s.v (.int .i64 a) t h3) (fun e _ => t.n - argI e 6) ⟨0, _, _, _, _, _, _, _, rfl, by omega, rfl⟩ ?_
  rintro e h4 ⟨j, v3, v5, v7, v8, v9, v10, v11, rfl, hj, hh⟩
  subst hh
  by_cases d2 : j < t.n
  · have d2' : (j : Int) < t.n := by omega
    have w1 : IntKind.i64.wrap ((j : Int) + 1) = (j : Int) + 1 := i64_wrap (by omega)
    have hp : placeF 0 cs (nthI cs j) = (j : Int) := by rw [placeF_eq (i := j) (by omega) rfl (fun k hk => by have := hris k j hk (by omega); omega)]; simp
    simp [d2', d2, sem_idxa r3.ok, r3.at d2]
    refine gaplace_spec G.Bs r3 (by omega) hris ?_
    rw [hp]
    simp [w1]
    refine ⟨⟨j + 1, _, _, _, _, _, _, _, rfl, by omega, rfl⟩, by simp [argI]; omega⟩
  have d2' : ¬ (j : Int) < t.n := by omega
  simp [d2']
  refine gaplace_spec G.Bs r3 (by omega) hris ?_
  simp
  refine rplace_spec G.GD.R.Place r3 (by omega) ?_
  have rz : Row64 h4 { t with n := 0 } [] := ⟨⟨fun h => by have := r3.ok.nil h; simp; omega, by simp, r3.ok.spot⟩, rfl, fun i hi => by simp at hi⟩
  have sl := sem_slc_hi (Y := Y) (h := h4) (s := t) (sz := 1) (k := .i64) (j := 0) r3.ok (by omega) (by omega)
  simp at sl
  simp [sl]
  refine gaplace_spec G.Bs rz (by simp) (fun i j hij hj => by simp at hj) ?_
  rw [show placeF 0 [] a = -1 by rfl]
  obtain ⟨p1, p2⟩ := hb 0 (by omega)
  have w5 : IntKind.i64.wrap (nthI cs 0 - 1) = nthI cs 0 - 1 := i64_wrap (by omega)
  have at0 := r3.at tpos
  simp at at0
  simp [sem_idxa r3.ok, tpos, at0, w5]
  refine gaplace_spec G.Bs r3 (by omega) hris ?_
  rw [show placeF 0 cs (nthI cs 0 - 1) = -1 by
    refine placeF_not (fun k hk => ?_)
    rcases Nat.eq_zero_or_pos k with g | g
    · subst g; omega
    · have := hris 0 k g hk; omega]
  have tl : t.n - 1 < t.n := by omega
  obtain ⟨m, hm⟩ : ∃ m, m = t.n - 1 := ⟨_, rfl⟩
  rw [← hm] at tl
  have w6 : IntKind.i64.wrap ((t.n : Int) - 1) = (m : Int) := by rw [i64_wrap (by omega)]; omega
  obtain ⟨y1, y2⟩ := hb m (by omega)
  have w7 : IntKind.i64.wrap (nthI cs m + 1) = nthI cs m + 1 := i64_wrap (by omega)
  simp [w6, sem_idxa r3.ok, tl, r3.at tl, w7]
  refine gaplace_spec G.Bs r3 (by omega) hris ?_
  rw [show placeF 0 cs (nthI cs m + 1) = -1 by
    refine placeF_not (fun k hk => ?_)
    rcases Nat.lt_or_ge k m with g | g
    · have := hris k m g (by omega); omega
    · obtain rfl : k = m := by omega
      omega]
  simp
  exact hr _ x3
end
end Go.Rm
