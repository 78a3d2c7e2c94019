import Derived.Test.YtgmbpmnbpakhbaaGreatDoorRLaw19

/- The laws of batches: BatchWhole. -/
set_option linter.unusedSimpArgs false
set_option linter.unusedVariables false
namespace Go.Rm
theorem nthA_app_l {l m : List Act5} {i : Nat} (h : i < l.length) : nthA (l ++ m) i = nthA l i := by simp [nthA, List.getElem?_append_left h]
theorem nthA_app_r {l : List Act5} {c : Act5} : nthA (l ++ [c]) l.length = c := by simp [nthA]
theorem twice_app {l : List Act5} {c : Act5} {i : Nat} (h : i < l.length) : twiceB (l ++ [c]) i = twiceB l i := by
  rw [Bool.eq_iff_iff, twice_iff, twice_iff]
  constructor
  · rintro ⟨k, hk, hs⟩
    rw [nthA_app_l (by omega), nthA_app_l h] at hs
    exact ⟨k, hk, hs⟩
  · rintro ⟨k, hk, hs⟩
    refine ⟨k, hk, ?_⟩
    rw [nthA_app_l (by omega), nthA_app_l h]
    exact hs
theorem bad_app {N : NetD} {l : List Act5} {c : Act5} {i : Nat} (h : i < l.length) : badC N (l ++ [c]) i = badC N l i := by
  unfold badC
  rw [nthA_app_l h, twice_app h]
theorem batchF_first {N : NetD} {l : List Act5} {r : Nat} : ∀ {m k : Nat}, (∀ j, k ≤ j → j < k + m → badC N l j = 0) → badC N l (k + m) ≠ 0 → batchF N l k (m + 1 + r) = atW wChange ((k + m : Nat) : Int) (badC N l (k + m)) := by
  intro m
  induction m with
  | zero =>
    intro k _ h
    rw [show 0 + 1 + r = r + 1 by omega, batchF, if_pos (by simpa using h)]
    simp
  | succ m ih =>
    intro k hz h
    rw [show m + 1 + 1 + r = (m + 1 + r) + 1 by omega, batchF, if_neg (by simp [hz k (by omega) (by omega)])]
    have := ih (k := k + 1) (fun j h1 h2 => hz j (by omega) (by omega)) (by rw [show k + 1 + m = k + (m + 1) by omega]; exact h)
    rw [this, show k + 1 + m = k + (m + 1) by omega]
theorem batch_snoc {N : NetD} {l : List Act5} {c : Act5} {e : Int} (hz : (batchW N l).2 = 0) (hl : l.length < 256) (hb : badC N (l ++ [c]) l.length = e) (he : e ≠ 0) : batchW N (l ++ [c]) = atW wChange l.length e := by
  have h0 := (batch_ok hz).2
  have hf : batchF N (l ++ [c]) 0 (l.length + 1 + 0) = _ := batchF_first (r := 0) (m := l.length) (k := 0) (fun j _ hj => by rw [bad_app (by omega)]; exact h0 j (by omega)) (by simp only [Nat.zero_add]; rw [hb]; exact he)
  unfold batchW
  rw [if_neg (by simp; omega), List.length_append, List.length_singleton]
  simp only [Nat.add_zero, Nat.zero_add, hb] at hf
  exact hf
/-- one change more, and what is wrong with it -/
def wholeC (N : NetD) (l : List Act5) (w b : Nat) : Act5 :=
  if w % 4 = 0 then ⟨3 + b, 0, 0, 0, 0⟩ else if w % 4 = 1 then ⟨2, N.ts.length + b, 0, 0, 0⟩ else if w % 4 = 2 then nthA l (b % l.length) else ⟨1, N.as.length + b, 0, 0, 0⟩
def wholeE (w : Nat) : Int := if w % 4 = 0 then 1 else if w % 4 = 2 then 6 else 5
theorem whole_bad {N : NetD} {l : List Act5} {w b : Nat} (hz : (batchW N l).2 = 0) (h2 : w % 4 = 2 → 0 < l.length) : badC N (l ++ [wholeC N l w b]) l.length = wholeE w := by
  unfold badC
  rw [nthA_app_r]
  unfold wholeC wholeE
  by_cases c0 : w % 4 = 0
  · have k1 : ¬ (3 + (b : Int)) = 1 := by omega
    have k2 : ¬ (3 + (b : Int)) = 2 := by omega
    simp [c0, oneC, k1, k2]
  by_cases c1 : w % 4 = 1
  · have k1 : isTurnB N ⟨2, (N.ts.length : Int) + b, 0, 0, 0⟩ = false := by
      simp [isTurnB]
      intro _ h
      omega
    simp [c1, oneC, k1]
  by_cases c2 : w % 4 = 2
  · have hl := h2 c2
    have hj : b % l.length < l.length := Nat.mod_lt _ hl
    have h0 := bad_one ((batch_ok hz).2 _ hj)
    have ht : twiceB (l ++ [nthA l (b % l.length)]) l.length = true := by
      rw [twice_iff]
      refine ⟨b % l.length, hj, ?_⟩
      rw [nthA_app_l hj, nthA_app_r]
      simp [sameKey]
    simp [c2, h0, ht]
  · have k1 : vtxB N.as.length ((N.as.length : Int) + b) = false := by
      simp [vtxB]
      intro h
      omega
    simp [c0, c1, c2, oneC, k1]
section
variable {Y : Sys} {h g : Heap}
set_option maxHeartbeats 2000000 in
theorem bw_end (B : BatchLaw Y) (E : ErrSys Y) (hg : hc h E.gb 0 = some E.hv) {sv sa st s u : Sl} {N : NetD} {l : List Act5} {c : Act5} {e : Int} {A p : Nat} {S : Nat → Prop}
    (r : NetH h sv sa st N) (q : Row5 h s l) (ok : NetOK N) (hz : (batchW N l).2 = 0) (hl : l.length < 256) (hb : badC N (l ++ [c]) l.length = e) (he : e ≠ 0)
    (x : Ext h g) (A1 : Blk g A #[sv.v, sa.v, st.v]) (hA : ¬ S A) (g1 : GraphA g p N S) (gS : ∀ j, S j → h.size ≤ j) (ou : Own g 5 u (cells5 (l ++ [c]))) (hu : u.nl = false → ¬ S u.b)
    {R : Value → Heap → Prop} (hr : ∀ h', Ext h h' → R (.bool true) h') (v0 v2 v3 v5 v7 v10 v11 v12 v13 v14 v15 v16 v17 : Value) :
    Stmt.wp Y S_rlaw19_BatchWhole.body.rest.rest.rest.rest.rest.rest.rest.rest.rest (resP S_rlaw19_BatchWhole.res R) (fun _ _ _ => False) (resP S_rlaw19_BatchWhole.res R)
      [v0, s.v, v2, v3, .pointer (some ⟨A, 0, none⟩), v5, .pointer (some ⟨p, 0, none⟩), v7, .int .i64 e, u.v, v10, v11, v12, v13, v14, v15, v16, v17] g := by
  have lq := q.len
  have hW : batchW N (l ++ [c]) = ([(wChange, (s.n : Int))], e) := by rw [batch_snoc hz hl hb he, lq]; rfl
  have ne : (batchW N (l ++ [c])).2 ≠ 0 := by rw [hW]; exact he
  simp [S_rlaw19_BatchWhole, Stmt.rest]
  refine bapply_spec B.TF.A g1 ok ou.row5 hu ?_ ?_
  rotate_left
  · intro h' S' h0
    exact absurd h0 ne
  intro h1 v1 _ e1 fv1
  rw [hW] at fv1
  simp
  refine rat_spec B.R20.At ?_
  intro h2 wv e2 hwv
  simp
  refine tells_spec (ps := [(wChange, (s.n : Int))]) (c := e) B.Tells E (((x.trans e1).trans e2).hc hg (fun h => h)) hwv.here (fv1 h2 (e2.mono fun _ _ h => h.elim)) (by simp) (by simp) ?_
  intro h3 e3
  have y3 : Ext g h3 := (e1.trans e2).trans e3
  have x3 := x.trans y3
  have A3 := A1.ext y3
  have g3 := g1.ext y3
  simp [rd_blk A3]
  rw [show (Value.agg #[sv.v, sa.v, st.v]) = netV sv sa st from rfl]
  refine same6s_spec B.GS g3 ok.small (r.ext x3) ?_
  intro h4 e4
  have x4 := x3.trans e4
  simp
  refine to19_spec B.To (q.ext' x4) (by omega) ?_
  intro h5 w e5 ow fw
  have x5 := x4.trans e5
  have A5 := (A3.ext e4).ext e5
  have g4 := g3.ext e4
  simp
  refine bapply_spec B.TF.A (g4.ext e5) ok ow.row5 (fun hn hS => by have := fw hn; have := g4.lt _ hS; omega) ?_ ?_
  · intro _ _ hne
    exact absurd hz hne
  intro h6 S' _ m6 g6 fS'
  have A6 := m6.blk A5 hA
  have x6 : Ext h h6 := Mod.ext x5 m6 (fun j hj => gS j hj)
  simp [rd_blk A6]
  refine gnet_spec B.GS.Net B.GS.Cl g6 (applyN_ok ok).small ?_
  intro h7 s1 s2 s3 e7 f7
  obtain ⟨b1, b2, b3, b4⟩ := (applyN_ok (l := l) ok).small
  simp [rd_blk (A6.ext e7)]
  refine of3_spec B.GS.Of3 B.GS.Of2 (f7 h7 (Mod.refl _)) b1 b2 b3 b4 ?_
  intro h8 t1 t2 t3 e8 r8
  have x8 := (x6.trans e7).trans e8
  simp [rd_blk ((A6.ext e7).ext e8)]
  rw [show (Value.agg #[sv.v, sa.v, st.v]) = netV sv sa st from rfl]
  refine rapply_spec B.Ap (r.ext x8) ok (q.ext' x8) hz ?_
  intro h9 z1 z2 z3 e9 r9
  simp
  refine rsamenet_spec B.GS.SameNet B.GS.RT (r8.ext e9) (r9 h9 (Mod.refl _)) ⟨b1, b2, b3, b4⟩ ?_
  intro h10 e10
  simp
  exact hr h10 ((x8.trans e9).trans e10)
set_option maxHeartbeats 2000000 in
theorem bw_all (B : BatchLaw Y) (E : ErrSys Y) (hg : hc h E.gb 0 = some E.hv) {sv sa st s : Sl} {N : NetD} {l : List Act5} {c : Act5} {e : Int} {A C p : Nat} {S : Nat → Prop}
    (r : NetH h sv sa st N) (q : Row5 h s l) (ok : NetOK N) (hz : (batchW N l).2 = 0) (hl : l.length < 256) (hb : badC N (l ++ [c]) l.length = e) (he : e ≠ 0)
    (x : Ext h g) (A1 : Blk g A #[sv.v, sa.v, st.v]) (hA : ¬ S A) (C1 : Blk g C #[.int .i64 c.kd, .int .i64 c.a, .int .i64 c.i, .int .i64 c.o, .int .i64 c.w]) (g1 : GraphA g p N S) (gS : ∀ j, S j → h.size ≤ j)
    {R : Value → Heap → Prop} (hr : ∀ h', Ext h h' → R (.bool true) h') (v0 v2 v3 v5 v9 v10 v11 v12 v13 v14 v15 v16 v17 : Value) :
    Stmt.wp Y S_rlaw19_BatchWhole.body.rest.rest.rest.rest.rest.rest.rest.rest (resP S_rlaw19_BatchWhole.res R) (fun _ _ _ => False) (resP S_rlaw19_BatchWhole.res R)
      [v0, s.v, v2, v3, .pointer (some ⟨A, 0, none⟩), v5, .pointer (some ⟨p, 0, none⟩), .pointer (some ⟨C, 0, none⟩), .int .i64 e, v9, v10, v11, v12, v13, v14, v15, v16, v17] g := by
  have lq := q.len
  have cont : ∀ (h' : Heap) (u : Sl), Ext g h' → Own h' 5 u (cells5 (l ++ [c])) → (u.nl = false → g.size ≤ u.b) → Stmt.wp Y S_rlaw19_BatchWhole.body.rest.rest.rest.rest.rest.rest.rest.rest.rest (resP S_rlaw19_BatchWhole.res R) (fun _ _ _ => False) (resP S_rlaw19_BatchWhole.res R)
      [v0, s.v, v2, v3, .pointer (some ⟨A, 0, none⟩), v5, .pointer (some ⟨p, 0, none⟩), .pointer (some ⟨C, 0, none⟩), .int .i64 e, u.v, v10, v11, v12, v13, v14, v15, v16, v17] h' := fun h' u e' o' f' =>
    bw_end B E hg r q ok hz hl hb he (x.trans e') (A1.ext e') hA (g1.ext e') gS o' (fun hn hS => by have := f' hn; have := g1.lt _ hS; omega) hr ..
  have hb : ∀ (g : Heap) (x1 x2 x3 x4 x5 : Int), IOp.sem Y g (.build #[.int .i64 0, .int .i64 0, .int .i64 0, .int .i64 0, .int .i64 0] [(0, 1), (1, 1), (2, 1), (3, 1), (4, 1)] [0, 1, 2, 3, 4]) [.int .i64 x1, .int .i64 x2, .int .i64 x3, .int .i64 x4, .int .i64 x5] = some (.agg #[.int .i64 x1, .int .i64 x2, .int .i64 x3, .int .i64 x4, .int .i64 x5]) := fun g x1 x2 x3 x4 x5 => by simp [IOp.sem, Instr.fill]
  simp [S_rlaw19_BatchWhole, Stmt.rest] at cont
  simp [S_rlaw19_BatchWhole, Stmt.rest, C1.hc, hb, -SeqK_ap]
  refine ⟨?_, ?_⟩
  · refine to19_spec B.To (q.ext' x) (by omega) ?_
    intro h1 u e1 ou fu
    simp [(C1.ext e1).hc, -SeqK_ap]
    refine ef_bslice5 (c := c) ?_
    intro b2 h2 g2 B2 e2
    have un := ou.1
    have := ou.row5.len
    simp [-SeqK_ap]
    refine ef_append5 rfl (ou.ext' e2) B2 (by omega) (by omega) ?_
    intro s3 h3 o3 n3 m3 hs3
    have e23 : Ext g h3 := Mod.ext (e1.trans e2) m3 (fun j hj => by rw [hj.2]; exact fu hj.1)
    simp [-SeqK_ap]
    rw [SeqK_ap]
    exact cont h3 s3 e23 o3 (fun hn => by rcases hs3 with ⟨k1, k2⟩ | ⟨k1, k2⟩; (rw [k1]; exact fu (by rw [← k2]; exact hn)); (have := (e1.trans e2).size; omega))
  · refine ef_bslice5 (c := c) ?_
    intro b1 h1 g1' B1 e1
    simp [-SeqK_ap]
    refine to19_spec B.To (q.ext' (x.trans e1)) (by omega) ?_
    intro h2 u e2 ou fu
    have := ou.row5.len
    simp [-SeqK_ap]
    refine ef_append5 rfl ou (B1.ext e2) (by omega) (by omega) ?_
    intro s3 h3 o3 n3 m3 hs3
    have z1 := e1.size
    have e23 : Ext g h3 := Mod.ext (e1.trans e2) m3 (fun j hj => by rw [hj.2]; have := fu hj.1; omega)
    simp [-SeqK_ap]
    rw [SeqK_ap]
    exact cont h3 s3 e23 o3 (fun hn => by rcases hs3 with ⟨k1, k2⟩ | ⟨k1, k2⟩; (rw [k1]; have := fu (by rw [← k2]; exact hn); omega); (have := (e1.trans e2).size; omega))
set_option maxHeartbeats 2000000 in
theorem batchwhole_law (B : BatchLaw Y) (H : Y.Has F.rlaw19_BatchWhole S_rlaw19_BatchWhole) (E : ErrSys Y) (hg : hc h E.gb 0 = some E.hv) {sv sa st s : Sl} {N : NetD} {l : List Act5} {w b : Nat} (r : NetH h sv sa st N) (q : Row5 h s l) (hw : w < 256) (hb : b < 65536) {R : Value → Heap → Prop}
    (hr : ∀ h', Ext h h' → R (.bool true) h') : CallP Y F.rlaw19_BatchWhole [netV sv sa st, s.v, .int .u8 w, .int .u16 b] h R := by
  have lgb := hg_lt hg
  have ll := q.len
  refine .of_has H rfl ?_
  simp [S_rlaw19_BatchWhole, FnS.wp, netV]
  refine ef_new_box ?_
  intro A h1 g1 A1 e1
  simp
  refine known19_spec B E (e1.hc hg (fun h => h)) ?_
  intro h2 e2
  have x2 := e1.trans e2
  simp [rd_blk (A1.ext e2)]
  rw [show (Value.agg #[sv.v, sa.v, st.v]) = netV sv sa st from rfl]
  refine small_spec B.M (r.ext x2) ?_
  intro h3 e3
  have x3 := x2.trans e3
  have A3 := (A1.ext e2).ext e3
  by_cases c0 : smallD N = true
  rotate_left
  · have c0' : smallD N = false := by simpa using c0
    simp [c0']
    exact hr h3 x3
  by_cases c1 : 256 ≤ s.n
  · have c1' : (256 : Int) ≤ s.n := by omega
    simp [c0, c1, c1']
    exact hr h3 x3
  have c1' : ¬ (256 : Int) ≤ s.n := by omega
  obtain ⟨fw, ok, _, _⟩ := small_facts c0
  simp [c0, c1, c1', rd_blk A3]
  rw [show (Value.agg #[sv.v, sa.v, st.v]) = netV sv sa st from rfl]
  refine checkbatch_spec B.R20 (r.ext x3) (q.ext' x3) ?_
  intro h4 wv e4 fw4
  have x4 := x3.trans e4
  have A4 := A3.ext e4
  obtain ⟨s4, rfl⟩ := fw4.here.shape
  by_cases hz : (batchW N l).2 = 0
  rotate_left
  · simp [hz]
    exact hr h4 x4
  simp [hz, rd_blk A4]
  rw [show (Value.agg #[sv.v, sa.v, st.v]) = netV sv sa st from rfl]
  refine made_spec B.X.MF (r.ext x4) fw ok ?_
  intro h5 p S e5 g5 f5
  have x5 := x4.trans e5
  have A5 := A4.ext e5
  have la := r.ra.len
  have lt := r.rt.len
  simp [-SeqK_ap]
  rw [SeqK_ap]
  simp [-SeqK_ap]
  rw [SeqK_ap]
  simp [-SeqK_ap]
  rw [SeqK_ap]
  have hb2 : ∀ (g : Heap) (x1 x2 : Int), IOp.sem Y g (.build #[.int .i64 0, .int .i64 0, .int .i64 0, .int .i64 0, .int .i64 0] [(0, 1), (1, 1), (2, 1), (3, 1), (4, 1)] [0, 1]) [.int .i64 x1, .int .i64 x2] = some (.agg #[.int .i64 x1, .int .i64 x2, .int .i64 0, .int .i64 0, .int .i64 0]) := fun g x1 x2 => by simp [IOp.sem, Instr.fill]
  have hb1 : ∀ (g : Heap) (x1 : Int), IOp.sem Y g (.build #[.int .i64 0, .int .i64 0, .int .i64 0, .int .i64 0, .int .i64 0] [(0, 1), (1, 1), (2, 1), (3, 1), (4, 1)] [0]) [.int .i64 x1] = some (.agg #[.int .i64 x1, .int .i64 0, .int .i64 0, .int .i64 0, .int .i64 0]) := fun g x1 => by simp [IOp.sem, Instr.fill]
  have wb : IntKind.i64.wrap (b : Int) = (b : Int) := i64_wrap (by omega)
  have wa : IntKind.i64.wrap ((N.as.length : Int) + b) = (N.as.length : Int) + b := i64_wrap (by have := ok.ba; omega)
  have wt : IntKind.i64.wrap ((N.ts.length : Int) + b) = (N.ts.length : Int) + b := i64_wrap (by have := ok.bt; omega)
  have w3 : IntKind.i64.wrap (3 + (b : Int)) = 3 + (b : Int) := i64_wrap (by omega)
  have tm : (w : Int).tmod 4 = ((w % 4 : Nat) : Int) := (Int.ofNat_tmod w 4).symm
  have n4 : (4 : Int) ≠ 0 := by decide
  obtain ⟨k, hk⟩ : ∃ k, w % 4 = k := ⟨_, rfl⟩
  have hk4 : k < 4 := by rw [← hk]; exact Nat.mod_lt _ (by omega)
  rw [hk] at tm
  rw [la] at wa
  rw [lt] at wt
  simp [A5.hc, wb, wa, hb2, -SeqK_ap]
  refine new_store (vs := #[.int .i64 1, .int .i64 ((sa.n : Int) + b), .int .i64 0, .int .i64 0, .int .i64 0]) rfl rfl (by simp) ?_
  intro C hCp gC bCp eCp stC
  simp [-SeqK_ap]
  refine stC _ ?_
  intro h6 C6 e6
  clear stC bCp eCp
  have x6 := x5.trans e6
  have A6 := A5.ext e6
  have g6 := g5.ext e6
  have hA : ¬ S A := fun hS => by have := f5 _ hS; have := A4.lt; omega
  have gS : ∀ j, S j → h.size ≤ j := fun j hj => by have := f5 j hj; have := x4.size; omega
  have hC : ¬ S C := fun hS => by have := g5.lt _ hS; omega
  have hlC : h.size ≤ C := by have := x5.size; omega
  simp [-SeqK_ap]
  rw [SeqK_ap]
  simp [-SeqK_ap]
  rw [SeqK_ap]
  simp [ib_rem n4, tm, -SeqK_ap]
  rw [SeqK_ap]
  simp [-SeqK_ap]
  rw [SeqK_ap]
  simp [-SeqK_ap]
  by_cases c0' : k = 0
  · simp [c0', wb, w3, hb1, -SeqK_ap]
    have hc' : wholeC N l w b = ⟨3 + b, 0, 0, 0, 0⟩ := by simp [wholeC, hk, c0']
    have he' : wholeE w = 1 := by simp [wholeE, hk, c0']
    have hb' := whole_bad (w := w) (b := b) hz (fun h => by omega)
    rw [hc', he'] at hb'
    refine ef_store_box C6 rfl rfl (by simp) ?_
    intro h7 C7 m7
    have x7 : Ext h h7 := Mod.ext x6 m7 (fun j hj => by rw [hj]; exact hlC)
    have A7 := m7.blk A6 (fun e => by have := A5.lt; omega)
    have g7 := g6.mod m7 (fun j hj e => hC (e ▸ hj))
    simp [-SeqK_ap]
    rw [SeqK_ap]
    simp [-SeqK_ap]
    rw [SeqK_ap]
    exact bw_all B E hg r q ok hz (by omega) hb' (by decide) x7 A7 hA C7 g7 gS hr ..
  have c0'' : ¬ (k : Int) = 0 := by omega
  simp [c0'', c0', -SeqK_ap]
  rw [SeqK_ap]
  simp [-SeqK_ap]
  by_cases c1'' : k = 1
  · simp [c1'', A6.hc, wb, wt, hb2, -SeqK_ap]
    have hc' : wholeC N l w b = ⟨2, (N.ts.length : Int) + b, 0, 0, 0⟩ := by simp [wholeC, hk, c1'']
    have he' : wholeE w = 5 := by simp [wholeE, hk, c1'']
    have hb' := whole_bad (w := w) (b := b) hz (fun h => by omega)
    rw [hc', he'] at hb'
    rw [lt] at hb'
    refine ef_store_box C6 rfl rfl (by simp) ?_
    intro h7 C7 m7
    have x7 : Ext h h7 := Mod.ext x6 m7 (fun j hj => by rw [hj]; exact hlC)
    have A7 := m7.blk A6 (fun e => by have := A5.lt; omega)
    have g7 := g6.mod m7 (fun j hj e => hC (e ▸ hj))
    simp [-SeqK_ap]
    rw [SeqK_ap]
    exact bw_all B E hg r q ok hz (by omega) hb' (by decide) x7 A7 hA C7 g7 gS hr ..
  have c1''' : ¬ (k : Int) = 1 := by omega
  simp [c1'', c1''', -SeqK_ap]
  rw [SeqK_ap]
  simp [-SeqK_ap]
  by_cases c2' : k = 2
  · simp [c2', -SeqK_ap]
    by_cases cl : s.n = 0
    · simp [cl]
      exact hr h6 x6
    have cl' : ¬ (s.n : Int) = 0 := by omega
    simp [cl, cl', -SeqK_ap]
    rw [SeqK_ap]
    have lm : b % s.n < s.n := Nat.mod_lt _ (by omega)
    have hc' : wholeC N l w b = nthA l (b % s.n) := by simp [wholeC, hk, c2', ll]
    have he' : wholeE w = 6 := by simp [wholeE, hk, c2']
    have hb' := whole_bad (w := w) (b := b) hz (fun _ => by omega)
    rw [hc', he'] at hb'
    have tb : (b : Int).tmod (s.n : Int) = ((b % s.n : Nat) : Int) := (Int.ofNat_tmod b s.n).symm
    obtain ⟨j, hj⟩ : ∃ j, b % s.n = j := ⟨_, rfl⟩
    rw [hj] at tb lm hb'
    have kd := (q.ext' x6).val j (by omega)
    have lmi : (j : Int) < s.n := by omega
    simp [-SeqK_ap]
    rw [SeqK_ap]
    simp [wb, ib_rem cl', tb, sem_idxa q.ok, lm, lmi, kd, -SeqK_ap]
    refine ef_store_box C6 rfl rfl (by simp) ?_
    intro h7 C7 m7
    have x7 : Ext h h7 := Mod.ext x6 m7 (fun j hj => by rw [hj]; exact hlC)
    have A7 := m7.blk A6 (fun e => by have := A5.lt; omega)
    have g7 := g6.mod m7 (fun j hj e => hC (e ▸ hj))
    simp [-SeqK_ap]
    rw [SeqK_ap]
    simp [-SeqK_ap]
    rw [SeqK_ap]
    exact bw_all B E hg r q ok hz (by omega) hb' (by decide) x7 A7 hA C7 g7 gS hr ..
  have c2'' : ¬ (k : Int) = 2 := by omega
  simp [c2'', c2', -SeqK_ap]
  rw [SeqK_ap]
  have hc' : wholeC N l w b = ⟨1, (N.as.length : Int) + b, 0, 0, 0⟩ := by simp [wholeC, hk, c0', c1'', c2']
  have he' : wholeE w = 5 := by simp [wholeE, hk, c0', c1'', c2']
  have hb' := whole_bad (w := w) (b := b) hz (fun h => by omega)
  rw [hc', he'] at hb'
  rw [la] at hb'
  exact bw_all B E hg r q ok hz (by omega) hb' (by decide) x6 A6 hA C6 g6 gS hr ..

end
end Go.Rm

/- The laws of batches: BatchNone. -/
set_option linter.unusedSimpArgs false
set_option linter.unusedVariables false
namespace Go.Rm
theorem batchF_all {N : NetD} {l : List Act5} : ∀ {m k : Nat}, (∀ j, k ≤ j → j < k + m → badC N l j = 0) → batchF N l k m = wOK := by
  intro m
  induction m with
  | zero => intro k _; rfl
  | succ m ih =>
    intro k h
    rw [batchF, if_neg (by simp [h k (by omega) (by omega)])]
    exact ih fun j h1 h2 => h j (by omega) (by omega)
theorem batchW_all {N : NetD} {l : List Act5} (hl : l.length ≤ 256) (h : ∀ j, j < l.length → badC N l j = 0) : (batchW N l).2 = 0 := by
  unfold batchW
  rw [if_neg (by omega), batchF_all (fun j _ hj => h j (by omega))]
  rfl
/-- each arc set to what it weighs -/
def sameL (N : NetD) : List Act5 := (List.range N.as.length).map fun (a : Nat) => ⟨1, a, 0, 0, (nthT N.as a).c⟩
theorem sameL_len {N : NetD} : (sameL N).length = N.as.length := by simp [sameL]
theorem sameL_at {N : NetD} {j : Nat} (hj : j < N.as.length) : nthA (sameL N) j = ⟨1, j, 0, 0, (nthT N.as j).c⟩ := by simp [nthA, sameL, hj]
theorem sameL_ok {N : NetD} (ok : NetOK N) (hl : N.as.length ≤ 256) : (batchW N (sameL N)).2 = 0 := by
  apply batchW_all (by rw [sameL_len]; exact hl)
  intro j hj
  rw [sameL_len] at hj
  unfold badC
  rw [sameL_at hj]
  have h1 : oneC N ⟨1, j, 0, 0, (nthT N.as j).c⟩ = 0 := by
    have hv : vtxB N.as.length (j : Int) = true := by simp [vtxB]; omega
    simp [oneC, hv, ok.w j hj]
  have h2 : twiceB (sameL N) j = false := by
    cases q : twiceB (sameL N) j with
    | false => rfl
    | true =>
      rw [twice_iff] at q
      obtain ⟨k, hk, hs⟩ := q
      rw [sameL_at hj, sameL_at (by omega)] at hs
      simp [sameKey] at hs
      omega
  simp [h1, h2]
theorem sameL_none {N : NetD} {L : List (List Int)} {i k : Nat} : touchL N L (sameL N) i k = false := by
  unfold touchL
  rw [List.any_eq_false]
  intro c hc
  simp only [sameL, List.mem_map, List.mem_range] at hc
  obtain ⟨a, _, rfl⟩ := hc
  simp [touch1]
theorem again_bad {N : NetD} (ok : NetOK N) {l : List Act5} (hz : (batchW N l).2 = 0) : (batchW (applyN N l) l).2 = 0 := by
  have hb := batch_ok hz
  have d := apply_dim ok (fun c hc => batch_one hz hc)
  apply batchW_all hb.1
  intro j hj
  have := hb.2 j hj
  unfold badC at this ⊢
  rw [d.one]
  exact this
theorem again_none {N : NetD} (ok : NetOK N) {l : List Act5} (hz : (batchW N l).2 = 0) {L : List (List Int)} {i k : Nat} : touchL (applyN N l) L l i k = false := by
  have hb := (batch_ok hz).2
  have d := apply_dim ok (fun c hc => batch_one hz hc)
  unfold touchL
  rw [List.any_eq_false]
  intro c hc
  obtain ⟨j, hj, rfl⟩ := mem_nthA hc
  have h1 := bad_one (hb j hj)
  have ht : l.take l.length = l := List.take_length
  by_cases hk : (nthA l j).kd = 1
  · obtain ⟨a, ha, hal, _⟩ := ch_set h1 hk
    have := (apply_arc ok hb hal l.length (Nat.le_refl _)).2 j hj hk (by rw [ha])
    rw [ht] at this
    simp [touch1, hk, ha, this]
  · obtain ⟨t, A, B, o, e1, e2, e3, htl, ho, hB, hp, _, _, _, hat⟩ := bend_pos (applyN_ok (l := l) ok) (by rw [d.one]; exact h1) hk
    have e5 : posC N (nthA l j) = posC (applyN N l) (nthA l j) := by
      unfold posC
      rw [(d.tb _).2]
    have := (apply_tab ok hb (t := t) (by rw [← d.tl]; exact htl) l.length (Nat.le_refl _)).2.1 j hj hk e1
    rw [ht, e5, hp] at this
    have e1' : (nthA l j).a.toNat = t := by rw [e1]; simp
    simp only [touch1, if_neg hk, e1']
    rw [hat, this]
    simp
section
variable {Y : Sys} {h : Heap}
def BnI (A P : Nat) (v0 v1 : Value) (s : Sl) (v6 v7 : Value) (N : NetD) (h0 : Heap) (e : List Value) (h' : Heap) : Prop :=
  ∃ (j : Nat) (u : Sl) (v5 v10 v11 v12 v13 v14 v15 v16 v17 v18 : Value), e = [v0, v1, s.v, .pointer (some ⟨A, 0, none⟩), .pointer (some ⟨P, 0, none⟩), v5, v6, v7, u.v, .int .i64 j, v10, v11, v12, v13, v14, v15, v16, v17, v18] ∧ j ≤ N.as.length ∧ Own h' 5 u (cells5 ((sameL N).take j)) ∧ (u.nl = false → h0.size ≤ u.b) ∧ Ext h0 h'
set_option maxHeartbeats 2000000 in
theorem batchnone_law (B : BatchLaw Y) (H : Y.Has F.rlaw19_BatchNone S_rlaw19_BatchNone) (E : ErrSys Y) (hg : hc h E.gb 0 = some E.hv) {sv sa st s sp : Sl} {N : NetD} {L : List (List Int)} {l : List Act5} (r : NetH h sv sa st N) (rl : RowL h sp L) (hmax : sp.n ≤ 9223372036854775807) (q : Row5 h s l) {R : Value → Heap → Prop}
    (hr : ∀ h', Ext h h' → R (.bool true) h') : CallP Y F.rlaw19_BatchNone [netV sv sa st, ptV sp, s.v] h R := by
  have lgb := hg_lt hg
  have ll := q.len
  have lp := rl.len
  refine .of_has H rfl ?_
  simp [S_rlaw19_BatchNone, FnS.wp, netV, ptV]
  refine ef_new_box ?_
  intro A h1 g1 A1 e1
  simp
  refine ef_new_box ?_
  intro P h2 g2 P2 e2
  have x2 := e1.trans e2
  have A2 := A1.ext e2
  simp
  refine known19_spec B E (x2.hc hg (fun h => h)) ?_
  intro h3 e3
  have x3 := x2.trans e3
  have A3 := A2.ext e3
  have P3 := P2.ext e3
  simp [rd_blk A3, rd_blk P3]
  rw [show (Value.agg #[sv.v, sa.v, st.v]) = netV sv sa st from rfl, show (Value.agg #[sp.v]) = ptV sp from rfl]
  refine may15_spec B.M (r.ext x3) (rl.ext x3) hmax ?_
  intro h4 e4
  have x4 := x3.trans e4
  have A4 := A3.ext e4
  have P4 := P3.ext e4
  by_cases c0 : may15 N L = true
  rotate_left
  · have c0' : may15 N L = false := by simpa using c0
    simp [c0']
    exact hr h4 x4
  obtain ⟨fw, ok, pk, bv, ba⟩ := may15_facts c0
  simp [c0, rd_blk A4]
  rw [show (Value.agg #[sv.v, sa.v, st.v]) = netV sv sa st from rfl]
  refine checkbatch_spec B.R20 (r.ext x4) (q.ext' x4) ?_
  intro h5 wv e5 fw5
  have x5 := x4.trans e5
  have A5 := A4.ext e5
  have P5 := P4.ext e5
  obtain ⟨s5, rfl⟩ := fw5.here.shape
  by_cases hz : (batchW N l).2 = 0
  rotate_left
  · simp [hz]
    exact hr h5 x5
  have bl := (batch_ok hz).1
  simp [hz, rd_blk A5, rd_blk P5]
  rw [show (Value.agg #[sv.v, sa.v, st.v]) = netV sv sa st from rfl, show (Value.agg #[sp.v]) = ptV sp from rfl]
  refine made_spec B.X.MF (r.ext x5) fw ok ?_
  intro h6 p S e6 g6 f6
  have x6 := x5.trans e6
  have A6 := A5.ext e6
  have P6 := P5.ext e6
  simp [rd_blk A6, rd_blk P6, netV, ptV]
  rw [show (Value.agg #[sv.v, sa.v, st.v]) = netV sv sa st from rfl, show (Value.agg #[sp.v]) = ptV sp from rfl]
  refine made17_spec B.X (r.ext x6) (rl.ext x6) fw ok pk ?_
  intro h7 op e7 gop fo
  have x7 := x6.trans e7
  have A7 := A6.ext e7
  have P7 := P6.ext e7
  have g7 := g6.ext e7
  have la := r.ra.len
  simp
  refine wp_loop' (BnI A P (netV sv sa st) (ptV sp) s (.pointer (some ⟨p, 0, none⟩)) (.pointer (some ⟨op, 0, none⟩)) N h7) (fun e _ => N.as.length - argI e 9) ⟨0, Sl.nil, _, _, _, _, _, _, _, _, _, _, rfl, by omega, Own.nil, fun h => (by cases h), Mod.refl _⟩ ?_
  rintro e h8 ⟨j, u, v5, v10, v11, v12, v13, v14, v15, v16, v17, v18, rfl, hj, ou, fu, e8⟩
  have x8 := x7.trans e8
  have A8 := A7.ext e8
  have P8 := P7.ext e8
  by_cases c : j < N.as.length
  · have c1 : (j : Int) < sa.n := by omega
    have c2 : j < sa.n := by omega
    have w1 : IntKind.i64.wrap ((j : Int) + 1) = (j : Int) + 1 := i64_wrap (by omega)
    have k0 := (r.ext x8).ra.v2 j c
    have hb : ∀ (g : Heap) (x1 x2 x5 : Int), IOp.sem Y g (.build #[.int .i64 0, .int .i64 0, .int .i64 0, .int .i64 0, .int .i64 0] [(0, 1), (1, 1), (2, 1), (3, 1), (4, 1)] [0, 1, 4]) [.int .i64 x1, .int .i64 x2, .int .i64 x5] = some (.agg #[.int .i64 x1, .int .i64 x2, .int .i64 0, .int .i64 0, .int .i64 x5]) := fun g x1 x2 x5 => by simp [IOp.sem, Instr.fill]
    simp [A8.hc, c1, c2, sem_idxa r.ra.ok, k0, hb]
    refine ef_bslice5 (c := ⟨1, j, 0, 0, (nthT N.as j).c⟩) ?_
    intro b9 h9 g9 B9 e9
    simp
    have hn := ou.1
    have hs := ou.row5.len
    simp [sameL_len] at hs
    refine ef_append5 rfl (ou.ext' e9) B9 (by omega) (by omega) ?_
    intro u' h10 o10 n10 m10 hs10
    have z8 := e8.size
    have z9 := e9.size
    simp [w1]
    have ht : (sameL N).take (j + 1) = (sameL N).take j ++ [⟨1, j, 0, 0, (nthT N.as j).c⟩] := by
      rw [List.take_succ_eq_append_getElem (by rw [sameL_len]; exact c)]
      have := sameL_at c
      simp [nthA, sameL_len, c] at this
      rw [this]
    rw [← ht] at o10
    refine ⟨⟨j + 1, u', _, _, _, _, _, _, _, _, _, _, rfl, by omega, o10, fun hn => ?_, Mod.ext (e8.trans e9) m10 (fun j hj => by have := fu hj.1; have := hj.2; omega)⟩, by simp [argI]; omega⟩
    rcases hs10 with ⟨k1, k2⟩ | ⟨k1, _⟩
    · rw [k1]; exact fu (by rw [← k2]; exact hn)
    · omega
  have c1 : ¬ (j : Int) < sa.n := by omega
  have hj' : (sameL N).take j = sameL N := List.take_of_length_le (by rw [sameL_len]; omega)
  rw [hj'] at ou
  have g8 := g7.ext e8
  have gS : ∀ j, S j → h6.size ≤ j + (h6.size - h5.size) ∧ h5.size ≤ j ∧ j < h6.size := fun j hj => by have := f6 j hj; have := g6.lt j hj; omega
  have z67 := e7.size
  have z78 := e8.size
  have lA := A4.lt
  have lP := P4.lt
  have z45 := e5.size
  simp [A8.hc, c1]
  refine touched_spec B.TF g8 ok ((fo h7 (Mod.refl _)).ext e8) pk ou.row5 ?_ ?_
  · intro h9 v9 hne
    exact absurd (sameL_ok ok (by omega)) hne
  intro h9 up tb bt _ e9 t9
  have x9 := x8.trans e9
  have z89 := e9.size
  simp
  refine to19_spec B.To (q.ext' x9) (by omega) ?_
  intro h10 w e10 ow fw10
  have x10 := x9.trans e10
  have g10 := (g8.ext e9).ext e10
  simp
  refine bapply_spec B.TF.A g10 ok ow.row5 (fun hn hS => by have := fw10 hn; have := gS _ hS; omega) ?_ ?_
  · intro _ _ hne
    exact absurd hz hne
  intro h11 S' _ m11 g11 fS'
  have x11 : Ext h h11 := Mod.ext x10 m11 (fun j hj => by have := gS _ hj; have := x5.size; omega)
  have A11 := m11.blk (((A8.ext e9).ext e10)) (fun hS => by have := gS _ hS; omega)
  have P11 := m11.blk (((P8.ext e9).ext e10)) (fun hS => by have := gS _ hS; omega)
  have t11 := (t9.ext e10).mod m11 (fun j hj => .inl (by have := gS j hj; omega))
  have z1011 := m11.size
  simp
  refine to19_spec B.To (q.ext' x11) (by omega) ?_
  intro h12 w' e12 ow' fw12
  have x12 := x11.trans e12
  have z12 := e12.size
  have z10 := e10.size
  have d := apply_dim ok (fun c hc => batch_one hz hc)
  have ov12 : OverH h12 op N L := fo h12 ((((e8.mono fun _ _ h => h.elim).trans (e9.mono fun _ _ h => h.elim)).trans (e10.mono fun _ _ h => h.elim)).trans ((m11.mono fun j _ hj => by have := gS j hj; omega).trans (e12.mono fun _ _ h => h.elim)))
  simp
  refine touched_spec B.TF (g11.ext e12) (applyN_ok ok) ov12 (by rw [d.vs]; exact pk) ow'.row5 ?_ ?_
  · intro _ _ hne
    exact absurd (again_bad ok hz) hne
  intro h13 up' tb' bt' _ e13 t13
  have x13 := x12.trans e13
  have A13 := (A11.ext e12).ext e13
  have P13 := (P11.ext e12).ext e13
  have bL := pk.bL
  have r1 := ((t11.ext e12).ext e13).rows
  have r2 := t13.rows
  have gb : ∀ i, i < L.length → gateN L i ≤ 4096 := fun i hi => (cells_row pk hi).2.2.1
  simp
  rw [show Value.slice (some ⟨tb, 0, none⟩) L.length L.length = (Sl.at tb L.length L.length).v from rfl, show Value.slice (some ⟨tb', 0, none⟩) L.length L.length = (Sl.at tb' L.length L.length).v from rfl]
  refine how_spec B.How r1 (by simp; omega) (fun i hi => ?_) (fun i hi k hk => ?_) ?_
  · have hi : i < L.length := by simpa using hi
    rw [nthML_map hi, mk1_len]
    have := gb i hi
    omega
  · have hi : i < L.length := by simpa using hi
    rw [nthML_map hi, mk1_len] at hk
    rw [nthML_map hi, nthM_mk1 hk, sameL_none]
  simp
  refine how_spec B.How r2 (by simp; omega) (fun i hi => ?_) (fun i hi k hk => ?_) ?_
  · have hi : i < L.length := by simpa using hi
    rw [nthML_map hi, mk1_len]
    have := gb i hi
    omega
  · have hi : i < L.length := by simpa using hi
    rw [nthML_map hi, mk1_len] at hk
    rw [nthML_map hi, nthM_mk1 hk, again_none ok hz]
  simp [P13.hc, lp]
  exact hr h13 x13
end
end Go.Rm

/- The laws of batches: BatchOne. -/
set_option linter.unusedSimpArgs false
set_option linter.unusedVariables false
namespace Go.Rm
/-- at how many levels two vertices are apart, the last one that is so -/
def topF (L : List (List Int)) (a b : Nat) : Nat → Nat
  | 0 => 0
  | j + 1 => if nthI (nthL L j) a ≠ nthI (nthL L j) b then j + 1 else topF L a b j
theorem topF_le {L : List (List Int)} {a b : Nat} : ∀ {j : Nat}, topF L a b j ≤ j := by
  intro j
  induction j with
  | zero => exact Nat.le_refl _
  | succ j ih => rw [topF]; split <;> omega
theorem topF_mono {L : List (List Int)} {a b : Nat} : ∀ {d j : Nat}, topF L a b j ≤ topF L a b (j + d) := by
  intro d
  induction d with
  | zero => intro j; exact Nat.le_refl _
  | succ d ih =>
    intro j
    rw [show j + (d + 1) = (j + d) + 1 by omega, topF]
    split
    · have := topF_le (L := L) (a := a) (b := b) (j := j); omega
    · exact ih
theorem same_up {n : Nat} {L : List (List Int)} (pk : PartOK n L) {a b : Nat} (ha : a < n) (hb : b < n) : ∀ {d i : Nat}, i + d < L.length → nthI (nthL L i) a = nthI (nthL L i) b → nthI (nthL L (i + d)) a = nthI (nthL L (i + d)) b := by
  intro d
  induction d with
  | zero => intro i _ h; exact h
  | succ d ih =>
    intro i hi h
    have h1 := ih (i := i) (by omega) h
    obtain ⟨_, _, _, z⟩ := lvE_zero (pk.lv (i + (d + 1)) hi)
    rw [show i + (d + 1) - 1 = i + d by omega] at z
    have := z (by omega) a ha b hb (by omega)
    have := z (by omega) b hb a ha (by omega)
    omega
theorem topF_iff {n : Nat} {L : List (List Int)} (pk : PartOK n L) {a b : Nat} (ha : a < n) (hb : b < n) {i : Nat} (hi : i < L.length) : topF L a b L.length < i + 1 ↔ nthI (nthL L i) a = nthI (nthL L i) b := by
  constructor
  · intro h
    apply Classical.byContradiction
    intro hn
    have h1 : topF L a b (i + 1) = i + 1 := by rw [topF, if_pos hn]
    have h2 := topF_mono (L := L) (a := a) (b := b) (j := i + 1) (d := L.length - (i + 1))
    rw [show i + 1 + (L.length - (i + 1)) = L.length by omega] at h2
    omega
  · intro h
    have key : ∀ d, i + d ≤ L.length → topF L a b (i + d) ≤ i := by
      intro d
      induction d with
      | zero => intro _; exact topF_le
      | succ d ih =>
        intro hd
        have := same_up pk ha hb (d := d) (i := i) (by omega) h
        rw [show i + (d + 1) = (i + d) + 1 by omega, topF, if_neg (by simp [this])]
        exact ih (by omega)
    have := key (L.length - i) (by omega)
    rw [show i + (L.length - i) = L.length by omega] at this
    omega
section
variable {Y : Sys} {h : Heap}
def TpI (A B : Nat) (a : Int) (x y : Nat) (L : List (List Int)) (h0 : Heap) (e : List Value) (h' : Heap) : Prop :=
  ∃ (i : Nat) (v0 v1 v8 v9 : Value), e = [v0, v1, .int .i64 a, .pointer (some ⟨A, 0, none⟩), .pointer (some ⟨B, 0, none⟩), .int .i64 0, .int .i64 (topF L x y i), .int .i64 ((i : Int) + 1), v8, v9] ∧ i ≤ L.length ∧ Ext h0 h'
theorem top16_spec (H : Y.Has F.rref16_Top S_rref16_Top) (HT : Y.Has F.rref6_There S_rref6_There) {sv sa st s : Sl} {N : NetD} {L : List (List Int)} (r : NetH h sv sa st N) (rl : RowL h s L) (pk : PartOK N.vs.length L) {a x y : Nat} (ha : a < N.as.length) (hx : (nthT N.as a).a = x) (hy : (nthT N.as a).b = y) (lx : x < N.vs.length) (ly : y < N.vs.length) {R : Value → Heap → Prop}
    (hr : ∀ h', Ext h h' → R (.int .i64 (topF L x y L.length)) h') : CallP Y F.rref16_Top [netV sv sa st, ptV s, .int .i64 a] h R := by
  have la := r.ra.len
  have ll := rl.len
  have bL := pk.bL
  refine .of_has H rfl ?_
  simp [S_rref16_Top, FnS.wp, netV, ptV]
  refine ef_new_box ?_
  intro A h1 g1 A1 e1
  simp
  refine ef_new_box ?_
  intro B h2 g2 B2 e2
  have x2 := e1.trans e2
  have A2 := A1.ext e2
  simp
  refine wp_loop' (TpI A B a x y L h2) (fun e _ => L.length + 1 - argI e 7) ⟨0, _, _, _, _, rfl, by omega, Mod.refl _⟩ ?_
  rintro e h3 ⟨i, v0, v1, v8, v9, rfl, hi, e3⟩
  have x3 := x2.trans e3
  have A3 := A2.ext e3
  have B3 := B2.ext e3
  by_cases c : i < L.length
  rotate_left
  · have c1 : ¬ ((i : Int) + 1 ≤ s.n) := by omega
    have hi' : i = L.length := by omega
    subst hi'
    simp [B3.hc, c1]
    exact hr h3 x3
  have c1 : (i : Int) + 1 ≤ s.n := by omega
  have c2 : i < s.n := by omega
  have c3 : (i : Int) < s.n := by omega
  have hv : vtxB N.as.length (a : Int) = true := by simp [vtxB]; omega
  simp [B3.hc, c1, rd_blk A3]
  rw [show (Value.agg #[sv.v, sa.v, st.v]) = netV sv sa st from rfl]
  refine there_spec HT la ?_
  intro h4 e4
  have x4 := x3.trans e4
  have A4 := A3.ext e4
  have B4 := B3.ext e4
  have w0 : IntKind.i64.wrap ((i : Int) + 1 - 1) = (i : Int) := by rw [show (i : Int) + 1 - 1 = i by omega]; exact i64_wrap (by omega)
  have w0' : IntKind.i64.wrap (i : Int) = (i : Int) := i64_wrap (by omega)
  have w1 : IntKind.i64.wrap ((i : Int) + 1 + 1) = (i : Int) + 1 + 1 := i64_wrap (by omega)
  obtain ⟨u, ku, mu⟩ := (rl.ext x4).val i c
  have lu := mu.len
  have lrow := (cells_row pk c).1
  have la1 : (a : Int) < sa.n := by omega
  have la2 : a < sa.n := by omega
  have k0 := (r.ext x4).ra.v0 a ha
  have k1 := (r.ext x4).ra.v1 a ha
  rw [hx] at k0
  rw [hy] at k1
  have lx1 : (x : Int) < u.n := by omega
  have ly1 : (y : Int) < u.n := by omega
  have lx2 : x < u.n := by omega
  have ly2 : y < u.n := by omega
  have kx := mu.at lx2
  have ky := mu.at ly2
  simp [hv, A4.hc, B4.hc, w0, w0', sem_idxa rl.ok, c2, c3, ku, sem_idxa r.ra.ok, la1, la2, k0, k1, sem_idxa mu.ok, lx1, lx2, ly1, ly2, kx, ky]
  by_cases d : nthI (nthL L i) x = nthI (nthL L i) y
  · have tt : topF L x y (i + 1) = topF L x y i := by rw [topF, if_neg (by simp [d])]
    simp [d, w1]
    refine ⟨⟨i + 1, _, _, _, _, by rw [tt]; rfl, by omega, e3.trans e4⟩, by simp [argI]; omega⟩
  · have tt : topF L x y (i + 1) = i + 1 := by rw [topF, if_pos d]
    simp [d, w1]
    refine ⟨⟨i + 1, _, _, _, _, by rw [tt]; rfl, by omega, e3.trans e4⟩, by simp [argI]; omega⟩
def BoI3 (A P x q tb : Nat) (w : Int) (L : List (List Int)) (h0 : Heap) (e : List Value) (h' : Heap) : Prop :=
  ∃ (l : Nat) (v0 v1 v2 v3 v4 v9 v10 v11 v12 v13 v14 v15 v16 v20 v22 v23 v24 v25 v26 v27 v28 v29 v30 v31 v32 v33 v34 v35 v36 v37 v38 v39 : Value), e = [v0, v1, v2, v3, v4, .int .i64 w, .pointer (some ⟨A, 0, none⟩), .pointer (some ⟨P, 0, none⟩), .bool false, v9, v10, v11, v12, v13, v14, v15, v16, .int .i64 x, .int .i64 q, (Sl.at tb L.length L.length).v, v20, .int .i64 l, v22, v23, v24, v25, v26, v27, v28, v29, v30, v31, v32, v33, v34, v35, v36, v37, v38, v39] ∧ l ≤ L.length ∧ Ext h0 h'
def BoI4 (A P x q tb U n l : Nat) (w : Int) (L : List (List Int)) (m : Nat) (D : Nat → Nat → Bool) (h0 : Heap) (e : List Value) (h' : Heap) : Prop :=
  ∃ (v : Nat) (T : Nat → Bool) (v0 v1 v2 v3 v4 v9 v10 v11 v12 v13 v14 v15 v16 v20 v24 v25 v26 v27 v28 v29 v30 v31 v32 v33 v34 v35 v36 v37 v38 v39 : Value), e = [v0, v1, v2, v3, v4, .int .i64 w, .pointer (some ⟨A, 0, none⟩), .pointer (some ⟨P, 0, none⟩), .bool false, v9, v10, v11, v12, v13, v14, v15, v16, .int .i64 x, .int .i64 q, (Sl.at tb L.length L.length).v, v20, .int .i64 l, .slice (some ⟨U, 0, none⟩) n n, .int .i64 v, v24, v25, v26, v27, v28, v29, v30, v31, v32, v33, v34, v35, v36, v37, v38, v39] ∧ v ≤ m ∧ Own h' 1 (Sl.at U n n) (boolsM (mk1 n T)) ∧ (∀ d, d < n → T d = (List.range v).any fun u => D u d) ∧ Mod (fun j => j = U) h0 h'
def BoI5 (A P x q tb U n l : Nat) (w : Int) (L : List (List Int)) (h0 : Heap) (e : List Value) (h' : Heap) : Prop :=
  ∃ (c : Nat) (v0 v1 v2 v3 v4 v9 v10 v11 v12 v13 v14 v15 v16 v20 v23 v24 v26 v27 v28 v29 v30 v31 v32 v33 v34 v35 v36 v37 v38 v39 : Value), e = [v0, v1, v2, v3, v4, .int .i64 w, .pointer (some ⟨A, 0, none⟩), .pointer (some ⟨P, 0, none⟩), .bool false, v9, v10, v11, v12, v13, v14, v15, v16, .int .i64 x, .int .i64 q, (Sl.at tb L.length L.length).v, v20, .int .i64 l, .slice (some ⟨U, 0, none⟩) n n, v23, v24, .int .i64 c, v26, v27, v28, v29, v30, v31, v32, v33, v34, v35, v36, v37, v38, v39] ∧ c ≤ n ∧ h' = h0
theorem any_snoc {v : Nat} {q : Nat → Bool} : (List.range (v + 1)).any q = ((List.range v).any q || q v) := by
  rw [List.range_succ, List.any_append]
  simp
def bendD (N : NetD) (row : List Int) (x q : Nat) (w : Int) (v c : Nat) : Bool := decide (nthI row v = (c : Int)) && (decide ((nthT N.vs v).c = (x : Int)) && decide (nthI (nthB N.ts x).cs q ≠ w))
set_option maxHeartbeats 4000000 in
theorem bo_three (B : BatchLaw Y) {g : Heap} {sv sa st sp : Sl} {N : NetD} {L : List (List Int)} {A P x q tb : Nat} {w : Int}
    (r : NetH h sv sa st N) (rl : RowL h sp L) (ok : NetOK N) (pk : PartOK N.vs.length L) (x0 : Ext h g) (A1 : Blk g A #[sv.v, sa.v, st.v]) (P1 : Blk g P #[sp.v])
    (hx : x < N.ts.length) (hq : q < (nthB N.ts x).cs.length) {T : Nat → Nat → Bool} (tt : RowLM g (Sl.at tb L.length L.length) ((List.range L.length).map fun i => mk1 (gateN L i) (T i)))
    (hT : ∀ i k, i < L.length → k < gateN L i → T i k = (List.range N.vs.length).any fun v => bendD N (nthL L i) x q w v k)
    {R : Value → Heap → Prop} (hr : ∀ h', Ext h h' → R (.bool true) h') (v0 v1 v2 v3 v4 v9 v10 v11 v12 v13 v14 v15 v16 v20 v21 v22 v23 v24 v25 v26 v27 v28 v29 v30 v31 v32 v33 v34 v35 v36 v37 v38 v39 : Value) :
    Stmt.wp Y S_rlaw19_BatchOne.body.rest.rest.rest.rest.rest.rest.rest.rest.rest.rest.rest.rest.rest.rest.rest (resP S_rlaw19_BatchOne.res R) (fun _ _ _ => False) (resP S_rlaw19_BatchOne.res R)
      [v0, v1, v2, v3, v4, .int .i64 w, .pointer (some ⟨A, 0, none⟩), .pointer (some ⟨P, 0, none⟩), .bool false, v9, v10, v11, v12, v13, v14, v15, v16, .int .i64 x, .int .i64 q, (Sl.at tb L.length L.length).v, v20, v21, v22, v23, v24, v25, v26, v27, v28, v29, v30, v31, v32, v33, v34, v35, v36, v37, v38, v39] g := by
  have la := r.ra.len
  have lv := r.rv.len
  have lt := r.rt.len
  have ll := rl.len
  have bL := pk.bL
  have bV := ok.bv
  have hb16 : ∀ i, i < L.length → (nthL L i).length ≤ 1000000 ∧ ∀ j, j < (nthL L i).length → -1 ≤ nthI (nthL L i) j ∧ nthI (nthL L i) j < 4611686018427387904 := fun i hi => by
    obtain ⟨y1, y2, _, _⟩ := lvE_zero (pk.lv i hi)
    exact ⟨by omega, fun j hj => by have := y2 j (by omega); omega⟩
  simp [S_rlaw19_BatchOne, Stmt.rest]
  refine wp_loop' (BoI3 A P x q tb w L g) (fun e _ => L.length - argI e 21) ⟨0, _, _, _, _, _, _, _, _, _, _, _, _, _, _, _, _, _, _, _, _, _, _, _, _, _, _, _, _, _, _, _, _, rfl, by omega, Mod.refl _⟩ ?_
  rintro e h1 ⟨l, v0, v1, v2, v3, v4, v9, v10, v11, v12, v13, v14, v15, v16, v20, v22, v23, v24, v25, v26, v27, v28, v29, v30, v31, v32, v33, v34, v35, v36, v37, v38, v39, rfl, hl, e1⟩
  have x1 := x0.trans e1
  have A2 := A1.ext e1
  have P2 := P1.ext e1
  by_cases c : l < L.length
  rotate_left
  · have c1 : ¬ (l : Int) < L.length := by omega
    simp [c1, c]
    exact hr h1 x1
  have c1 : (l : Int) < L.length := by omega
  simp [c, c1, rd_blk P2]
  have wl : IntKind.i64.wrap ((l : Int) + 1) = (l : Int) + 1 := i64_wrap (by omega)
  simp [wl]
  rw [show (Value.agg #[sp.v]) = ptV sp from rfl]
  refine count16_spec B.RT.In.P (rl.ext x1) (by omega) hb16 ?_
  intro h2 e2
  have x2 := x1.trans e2
  rw [lvl_at c, (cells_row pk c).2.1]
  have gb := (cells_row pk c).2.2.1
  have lrow := (cells_row pk c).1
  have crow := (cells_row pk c).2.2.2
  obtain ⟨n, hn⟩ : ∃ n, gateN L l = n := ⟨_, rfl⟩
  rw [hn] at gb crow ⊢
  simp
  refine ef_makeM (n := n) (by omega) rfl ?_
  intro U h3 gU o3 e3 lU
  have x3 := x2.trans e3
  have z1 := e1.size
  have z2 := e2.size
  have z3 := e3.size
  have A3 := (A2.ext e2).ext e3
  have P3 := (P2.ext e2).ext e3
  rw [mk1_none] at o3
  have lA := A2.lt
  have lP := P2.lt
  obtain ⟨u, ku, mu⟩ := rl.val l c
  have lu := mu.len
  simp
  refine wp_loop' (BoI4 A P x q tb U n l w L N.vs.length (bendD N (nthL L l) x q w) h3) (fun e _ => N.vs.length - argI e 23) ⟨0, _, _, _, _, _, _, _, _, _, _, _, _, _, _, _, _, _, _, _, _, _, _, _, _, _, _, _, _, _, _, _, rfl, by omega, o3, fun d hd => by simp, Mod.refl _⟩ ?_
  rintro e h4 ⟨v, T4, v0, v1, v2, v3, v4, v9, v10, v11, v12, v13, v14, v15, v16, v20, v24, v25, v26, v27, v28, v29, v30, v31, v32, v33, v34, v35, v36, v37, v38, v39, rfl, hv, o4, hT4, m4⟩
  have x4 : Ext h h4 := Mod.ext x3 m4 (fun j hj => by have := x2.size; omega)
  have A4 := m4.blk A3 (by omega)
  have P4 := m4.blk P3 (by omega)
  by_cases d : v < N.vs.length
  · have d1 : (v : Int) < sv.n := by omega
    have d2 : v < sv.n := by omega
    have d3 : (v : Int) < u.n := by omega
    have d4 : v < u.n := by omega
    have d5 : l < sp.n := by omega
    have d6 : (l : Int) < sp.n := by omega
    have d7 : (x : Int) < st.n := by omega
    have d8 : x < st.n := by omega
    obtain ⟨k, hk, hkn⟩ := crow v d
    have q1 : (k : Int) < n := by omega
    have mu4 := mu.ext x4
    have kv := mu4.at d4
    rw [hk] at kv
    have ku4 := x4.hc ku (fun h => h)
    have kt := (r.ext x4).rv.v2 v d
    obtain ⟨tc, tk0, tk1, tk2, tk3⟩ := (r.ext x4).rt.val x hx
    have q2 : (q : Int) < tc.n := by have := tk3.len; omega
    have q3 : q < tc.n := by have := tk3.len; omega
    have kq := tk3.at q3
    have w1 : IntKind.i64.wrap ((v : Int) + 1) = (v : Int) + 1 := i64_wrap (by omega)
    have kT : hc h4 U k = some (.bool (T4 k)) := by
      have := o4.cell (i := k) (v := .bool (T4 k)) (by simp [boolsM, mk1, hkn])
      simpa using this
    have sU : (Sl.at U n n).ok := o4.ok
    have iU := sem_idxa (Y := Y) (h := h4) (sz := 1) (k := .i64) (i := (k : Int)) sU (by omega) (by simpa using q1)
    rw [show (Sl.at U n n).v = .slice (some ⟨U, 0, none⟩) n n from rfl] at iU
    simp at iU
    have fin : ∀ z : Bool, z = (T4 k || (decide ((nthT N.vs v).c = (x : Int)) && decide (nthI (nthB N.ts x).cs q ≠ w))) → StoreP h4 U k (.bool z) (fun _ h' => ∃ (T' : Nat → Bool), Own h' 1 (Sl.at U n n) (boolsM (mk1 n T')) ∧
        (∀ d, d < n → T' d = (List.range (v + 1)).any fun u => bendD N (nthL L l) x q w u d) ∧ Mod (fun j => j = U) h3 h') := fun z hz => by
      refine st_mark o4 hkn ?_
      intro h' hT' m'
      refine ⟨_, hT' (fun d => if d = k then z else T4 d) (fun d hd => rfl), fun d hd => ?_, m4.trans m'⟩
      simp only [any_snoc]
      rw [← hT4 d hd]
      by_cases e : d = k
      · subst e
        simp [hz, bendD, hk]
      · have : ¬ (k : Int) = d := by omega
        simp [e, bendD, hk, this]
    have done : ∀ (h5 : Heap) (T' : Nat → Bool), Own h5 1 (Sl.at U n n) (boolsM (mk1 n T')) → (∀ d, d < n → T' d = (List.range (v + 1)).any fun u => bendD N (nthL L l) x q w u d) → Mod (fun j => j = U) h3 h5 → ∀ (v0 v1 v2 v3 v4 v9 v10 v11 v12 v13 v14 v15 v16 v20 v24 v25 v26 v27 v28 v29 v30 v31 v32 v33 v34 v35 v36 v37 v38 v39 : Value),
        BoI4 A P x q tb U n l w L N.vs.length (bendD N (nthL L l) x q w) h3 [v0, v1, v2, v3, v4, .int .i64 w, .pointer (some ⟨A, 0, none⟩), .pointer (some ⟨P, 0, none⟩), .bool false, v9, v10, v11, v12, v13, v14, v15, v16, .int .i64 x, .int .i64 q, (Sl.at tb L.length L.length).v, v20, .int .i64 l, .slice (some ⟨U, 0, none⟩) n n, .int .i64 ((v : Int) + 1), v24, v25, v26, v27, v28, v29, v30, v31, v32, v33, v34, v35, v36, v37, v38, v39] h5 ∧ N.vs.length - (v + 1) < N.vs.length - v := by
      intro h5 T' o5 hT5 m5 v0 v1 v2 v3 v4 v9 v10 v11 v12 v13 v14 v15 v16 v20 v24 v25 v26 v27 v28 v29 v30 v31 v32 v33 v34 v35 v36 v37 v38 v39
      exact ⟨⟨v + 1, T', _, _, _, _, _, _, _, _, _, _, _, _, _, _, _, _, _, _, _, _, _, _, _, _, _, _, _, _, _, _, rfl, by omega, o5, hT5, m5⟩, by omega⟩
    cases hv' : T4 k with
    | true =>
      simp [A4.hc, P4.hc, d1, d2, d3, d4, d5, d6, sem_idxa rl.ok, ku4, sem_idxa mu.ok, kv, iU, kT, hv']
      refine (fin true (by rw [hv']; rfl)).mono ?_
      rintro u5 h5 ⟨T', o5, hT5, m5⟩
      simp [w1]
      exact done h5 T' o5 hT5 m5 ..
    | false =>
      by_cases d9 : (nthT N.vs v).c = (x : Int)
      rotate_left
      · simp [A4.hc, P4.hc, d1, d2, d3, d4, d5, d6, sem_idxa rl.ok, ku4, sem_idxa mu.ok, kv, iU, kT, hv', sem_idxa r.rv.ok, kt, d9]
        refine (fin false (by rw [hv']; simp [d9])).mono ?_
        rintro u5 h5 ⟨T', o5, hT5, m5⟩
        simp [w1]
        exact done h5 T' o5 hT5 m5 ..
      simp [A4.hc, P4.hc, d1, d2, d3, d4, d5, d6, d7, d8, q2, q3, sem_idxa rl.ok, ku4, sem_idxa mu.ok, kv, iU, kT, hv', sem_idxa r.rv.ok, kt, d9, sem_idxa r.rt.ok, tk0, tk1, tk2, sem_idxa tk3.ok, kq]
      refine (fin (!decide (nthI (nthB N.ts x).cs q = w)) (by rw [hv']; simp [d9])).mono ?_
      rintro u5 h5 ⟨T', o5, hT5, m5⟩
      simp [w1]
      exact done h5 T' o5 hT5 m5 ..
  have d1 : ¬ (v : Int) < sv.n := by omega
  obtain rfl : v = N.vs.length := by omega
  obtain ⟨u2, ku2, mu2⟩ := tt.val l (by simpa using c)
  have tlen := mu2.len
  rw [nthML_map c, mk1_len, hn] at tlen
  have x34 : Ext g h4 := Mod.ext ((e1.trans e2).trans e3) m4 (fun j hj => by have := x0.size; omega)
  have ku5 := x34.hc ku2 (fun h => h)
  have mu5 := mu2.ext x34
  have t1 : (l : Int) < L.length := by omega
  have ib := sem_idxa (Y := Y) (h := h4) (sz := 1) (k := .i64) (i := (l : Int)) tt.ok (by omega) (by simpa using t1)
  rw [show (Sl.at tb L.length L.length).v = .slice (some ⟨tb, 0, none⟩) L.length L.length from rfl] at ib
  simp at ib ku5
  have tn1 : ((n : Int) = u2.n) = True := by simp; omega
  simp [A4.hc, P4.hc, d1, ib, ku5, tn1]
  refine wp_loop' (BoI5 A P x q tb U n l w L h4) (fun e _ => n - argI e 25) ⟨0, _, _, _, _, _, _, _, _, _, _, _, _, _, _, _, _, _, _, _, _, _, _, _, _, _, _, _, _, _, _, rfl, by omega, rfl⟩ ?_
  rintro e h5 ⟨c6, v0, v1, v2, v3, v4, v9, v10, v11, v12, v13, v14, v15, v16, v20, v23, v24, v26, v27, v28, v29, v30, v31, v32, v33, v34, v35, v36, v37, v38, v39, rfl, hc6, rfl⟩
  by_cases e6 : c6 < n
  rotate_left
  · have e6' : ¬ (c6 : Int) < n := by omega
    simp [e6, e6', wl]
    refine ⟨⟨l + 1, _, _, _, _, _, _, _, _, _, _, _, _, _, _, _, _, _, _, _, _, _, _, _, _, _, _, _, _, _, _, _, _, rfl, by omega, e1.trans (Mod.ext (e2.trans e3) m4 (fun j hj => by omega))⟩, by simp [argI]; omega⟩
  have e6' : (c6 : Int) < n := by omega
  have e7 : c6 < u2.n := by omega
  have e7' : (c6 : Int) < u2.n := by omega
  have k4 : hc h5 U c6 = some (.bool (T4 c6)) := by
    have := o4.cell (i := c6) (v := .bool (T4 c6)) (by simp [boolsM, mk1, e6])
    simpa using this
  have k5 := mu5.val c6 (by rw [nthML_map c, mk1_len, hn]; exact e6)
  rw [nthML_map c, nthM_mk1 (by rw [hn]; exact e6), hT l c6 c (by rw [hn]; exact e6), ← hT4 c6 e6] at k5
  have iU := sem_idxa (Y := Y) (h := h5) (sz := 1) (k := .i64) (i := (c6 : Int)) o4.ok (by omega) (by simpa using e6')
  rw [show (Sl.at U n n).v = .slice (some ⟨U, 0, none⟩) n n from rfl] at iU
  simp at iU
  have w6 : IntKind.i64.wrap ((c6 : Int) + 1) = (c6 : Int) + 1 := i64_wrap (by omega)
  simp [e6, e6', iU, k4, ib, ku5, sem_idxa mu5.ok, e7, e7', k5, w6]
  exact ⟨⟨c6 + 1, _, _, _, _, _, _, _, _, _, _, _, _, _, _, _, _, _, _, _, _, _, _, _, _, _, _, _, _, _, _, rfl, by omega, rfl⟩, by simp [argI]; omega⟩
theorem touch_bend {N : NetD} {L : List (List Int)} {x A B q : Nat} {w : Int} (hq : atV (nthB N.ts x).i (nthB N.ts x).o (nthB N.ts x).cs A B = nthI (nthB N.ts x).cs q) {i k : Nat} :
    touchL N L [⟨2, x, A, B, w⟩] i k = (List.range N.vs.length).any fun v => bendD N (nthL L i) x q w v k := by
  simp only [touchL, List.any_cons, List.any_nil, Bool.or_false, touch1]
  rw [if_neg (by decide)]
  simp only [Int.toNat_natCast, hq]
  by_cases d : nthI (nthB N.ts x).cs q = w
  · simp [d, bendD]
  · simp [d, bendD, Bool.and_comm]
theorem oneC_bend {N : NetD} {x A B : Nat} {w : Int} (hx : x < N.ts.length) (hA : (A : Int) < (nthB N.ts x).i) (hB : (B : Int) < (nthB N.ts x).o) (hw : weightB w = true) : (batchW N [⟨2, x, A, B, w⟩]).2 = 0 := by
  apply batchW_all (by simp)
  intro j hj
  have hj : j = 0 := by simpa using hj
  subst hj
  have : isTurnB N ⟨2, x, A, B, w⟩ = true := by simp [isTurnB]; omega
  simp [badC, nthA, oneC, this, hw, twiceB]
theorem oneC_set {N : NetD} {a : Nat} {w : Int} (ha : a < N.as.length) (hw : weightB w = true) : (batchW N [⟨1, a, 0, 0, w⟩]).2 = 0 := by
  apply batchW_all (by simp)
  intro j hj
  have hj : j = 0 := by simpa using hj
  subst hj
  have : vtxB N.as.length (a : Int) = true := by simp [vtxB]; omega
  simp [badC, nthA, oneC, this, hw, twiceB]
set_option maxHeartbeats 4000000 in
theorem bo_two (B : BatchLaw Y) {g : Heap} {sv sa st sp : Sl} {N : NetD} {L : List (List Int)} {A P p op y z : Nat} {S : Nat → Prop} {w : Int}
    (r : NetH h sv sa st N) (rl : RowL h sp L) (ok : NetOK N) (pk : PartOK N.vs.length L) (hn0 : 0 < N.ts.length) (hy : y < 65536) (hz : z < 65536) (hw : weightB w = true) (x0 : Ext h g) (A1 : Blk g A #[sv.v, sa.v, st.v]) (P1 : Blk g P #[sp.v])
    (gr : GraphA g p N S) (ov : OverH g op N L)
    {R : Value → Heap → Prop} (hr : ∀ h', Ext h h' → R (.bool true) h') (v0 v1 v2 v11 v12 v13 v14 v15 v16 v17 v18 v19 v20 v21 v22 v23 v24 v25 v26 v27 v28 v29 v30 v31 v32 v33 v34 v35 v36 v37 v38 v39 : Value) :
    Stmt.wp Y S_rlaw19_BatchOne.body.rest.rest.rest.rest.rest.rest.rest.rest.rest.rest (resP S_rlaw19_BatchOne.res R) (fun _ _ _ => False) (resP S_rlaw19_BatchOne.res R)
      [v0, v1, v2, .int .u16 y, .int .u16 z, .int .i64 w, .pointer (some ⟨A, 0, none⟩), .pointer (some ⟨P, 0, none⟩), .bool false, .pointer (some ⟨p, 0, none⟩), .pointer (some ⟨op, 0, none⟩), v11, v12, v13, v14, v15, v16, v17, v18, v19, v20, v21, v22, v23, v24, v25, v26, v27, v28, v29, v30, v31, v32, v33, v34, v35, v36, v37, v38, v39] g := by
  have lt := r.rt.len
  have ll := rl.len
  have bT := ok.bt
  obtain ⟨x, hx⟩ : ∃ x, y % st.n = x := ⟨_, rfl⟩
  have lx : x < st.n := by rw [← hx]; exact Nat.mod_lt _ (by omega)
  have lxt : x < N.ts.length := by omega
  have n0 : ¬ (st.n : Int) = 0 := by omega
  have wy : IntKind.i64.wrap (y : Int) = (y : Int) := i64_wrap (by omega)
  have wz : IntKind.i64.wrap (z : Int) = (z : Int) := i64_wrap (by omega)
  have ty : (y : Int).tmod (st.n : Int) = (x : Int) := by rw [← hx]; exact (Int.ofNat_tmod y st.n).symm
  have lx1 : (x : Int) < st.n := by omega
  obtain ⟨tc, tk0, tk1, tk2, tk3⟩ := (r.ext x0).rt.val x lxt
  have ltc := tk3.len
  by_cases c0 : (nthB N.ts x).cs.length = 0
  · have c0' : tc.n = 0 := by omega
    simp [S_rlaw19_BatchOne, Stmt.rest, A1.hc, wy, ib_rem n0, ty, lx, lx1, sem_idxa r.rt.ok, tk2, c0']
    exact hr g x0
  have c0' : ¬ tc.n = 0 := by omega
  have n1 : ¬ (tc.n : Int) = 0 := by omega
  obtain ⟨q, hq⟩ : ∃ q, z % tc.n = q := ⟨_, rfl⟩
  have lq : q < tc.n := by rw [← hq]; exact Nat.mod_lt _ (by omega)
  have tz : (z : Int).tmod (tc.n : Int) = (q : Int) := by rw [← hq]; exact (Int.ofNat_tmod z tc.n).symm
  obtain ⟨i, o, Ai, Bi, hi, ho, o0, lA, lB, hp, td, tm, _, _⟩ := tab_place (ok.tab x lxt) (p := q) (by omega)
  have wA : IntKind.i64.wrap (Ai : Int) = (Ai : Int) := by
    refine i64_wrap ?_
    have := (tab_ok (ins := (nthB N.ts x).i) (outs := (nthB N.ts x).o) (cs := (nthB N.ts x).cs) (ok.tab x lxt)).2.1
    omega
  have n2 : ¬ (o : Int) = 0 := by omega
  rw [ho] at td tm
  rw [ho] at tk1
  have hb5 : ∀ (g : Heap) (x1 x2 x3 x4 x5 : Int), IOp.sem Y g (.build #[.int .i64 0, .int .i64 0, .int .i64 0, .int .i64 0, .int .i64 0] [(0, 1), (1, 1), (2, 1), (3, 1), (4, 1)] [0, 1, 2, 3, 4]) [.int .i64 x1, .int .i64 x2, .int .i64 x3, .int .i64 x4, .int .i64 x5] = some (.agg #[.int .i64 x1, .int .i64 x2, .int .i64 x3, .int .i64 x4, .int .i64 x5]) := fun g x1 x2 x3 x4 x5 => by simp [IOp.sem, Instr.fill]
  have hat : atV (nthB N.ts x).i (nthB N.ts x).o (nthB N.ts x).cs Ai Bi = nthI (nthB N.ts x).cs q := by
    obtain ⟨t', A', B', o', f1, f2, f3, _, f5, _, _, _, _, _, f10⟩ := bend_pos ok (batch_one (oneC_bend lxt (by omega) (by omega) hw) (List.mem_singleton.2 rfl)) (show (Act5.mk 2 x Ai Bi w).kd ≠ 1 from fun e => by cases e)
    simp only at f1 f2 f3 f10
    have g1 : t' = x := by omega
    have g2 : A' = Ai := by omega
    have g3 : B' = Bi := by omega
    subst g1 g2 g3
    have g4 : o' = o := by omega
    rw [f10, g4, hp]
  have cont := fun (h' : Heap) (tb : Nat) (x' : Ext g h') (T : RowLM h' (Sl.at tb L.length L.length) ((List.range L.length).map fun i => mk1 (gateN L i) (touchL N L [⟨2, x, Ai, Bi, w⟩] i))) => bo_three B r rl ok pk (x0.trans x') (A1.ext x') (P1.ext x') lxt (q := q) (by omega) T
    (fun i k _ _ => touch_bend hat) hr
  simp [S_rlaw19_BatchOne, Stmt.rest] at cont
  simp [S_rlaw19_BatchOne, Stmt.rest, A1.hc, wy, wz, ib_rem n0, ib_rem n1, ib_rem n2, ib_quo n2, ty, tz, lx, lx1, sem_idxa r.rt.ok, tk1, tk2, c0', n1, td, tm, wA, hb5]
  refine ef_bslice_all rfl rfl rfl ?_ (by omega)
  intro b2 h2 g2 B2 e2 o2
  have q2 : Row5 h2 (Sl.at b2 1 1) [⟨2, x, Ai, Bi, w⟩] := Own.row5 (by simpa [cells5, chL] using o2)
  simp
  rw [show Value.slice (some ⟨b2, 0, none⟩) 1 1 = (Sl.at b2 1 1).v from rfl]
  refine touched_spec B.TF (gr.ext e2) ok (ov.ext e2) pk q2 ?_ ?_
  · intro _ _ hne
    exact absurd (oneC_bend lxt (by omega) (by omega) hw) hne
  intro h3 up tb bt _ e3 t3
  have lle : ((L.length : Int) = sp.n) = True := by simp; omega
  simp [((P1.ext e2).ext e3).hc, lle]
  exact cont h3 tb (e2.trans e3) t3.rows ..
def BoI1 (A P p op y z k tb xa xb : Nat) (w : Int) (L : List (List Int)) (h0 : Heap) (e : List Value) (h' : Heap) : Prop :=
  ∃ (i : Nat) (v0 v1 v2 v13 v16 v17 v18 v19 v20 v21 v22 v23 v24 v25 v26 v27 v28 v29 v30 v31 v32 v33 v34 v35 v36 v37 v38 v39 : Value), e = [v0, v1, v2, .int .u16 y, .int .u16 z, .int .i64 w, .pointer (some ⟨A, 0, none⟩), .pointer (some ⟨P, 0, none⟩), .bool false, .pointer (some ⟨p, 0, none⟩), .pointer (some ⟨op, 0, none⟩), .int .i64 k, (Sl.at tb L.length L.length).v, v13, .int .i64 (topF L xa xb L.length), .int .i64 i, v16, v17, v18, v19, v20, v21, v22, v23, v24, v25, v26, v27, v28, v29, v30, v31, v32, v33, v34, v35, v36, v37, v38, v39] ∧ i ≤ L.length ∧ h' = h0
def BoI2 (A P p op y z k tb xa xb i n : Nat) (w : Int) (L : List (List Int)) (h0 : Heap) (e : List Value) (h' : Heap) : Prop :=
  ∃ (c : Nat) (v0 v1 v2 v13 v17 v18 v19 v20 v21 v22 v23 v24 v25 v26 v27 v28 v29 v30 v31 v32 v33 v34 v35 v36 v37 v38 v39 : Value), e = [v0, v1, v2, .int .u16 y, .int .u16 z, .int .i64 w, .pointer (some ⟨A, 0, none⟩), .pointer (some ⟨P, 0, none⟩), .bool false, .pointer (some ⟨p, 0, none⟩), .pointer (some ⟨op, 0, none⟩), .int .i64 k, (Sl.at tb L.length L.length).v, v13, .int .i64 (topF L xa xb L.length), .int .i64 i, .int .i64 c, v17, v18, v19, v20, v21, v22, v23, v24, v25, v26, v27, v28, v29, v30, v31, v32, v33, v34, v35, v36, v37, v38, v39] ∧ c ≤ n ∧ h' = h0
theorem touch_set {N : NetD} {L : List (List Int)} {a xa xb : Nat} {w : Int} (hx : (nthT N.as a).a = xa) (hy : (nthT N.as a).b = xb) {i k : Nat} :
    touchL N L [⟨1, a, 0, 0, w⟩] i k = (decide ((nthT N.as a).c ≠ w) && decide (nthI (nthL L i) xa = (k : Int) ∧ nthI (nthL L i) xb = (k : Int))) := by
  simp only [touchL, List.any_cons, List.any_nil, Bool.or_false, touch1]
  rw [if_pos trivial]
  simp only [Int.toNat_natCast, hx, hy]
set_option maxHeartbeats 4000000 in
theorem bo_one (B : BatchLaw Y) {g : Heap} {sv sa st sp : Sl} {N : NetD} {L : List (List Int)} {A P p op y z k tb xa xb : Nat} {S : Nat → Prop} {w : Int}
    (r : NetH h sv sa st N) (rl : RowL h sp L) (ok : NetOK N) (pk : PartOK N.vs.length L) (hn0 : 0 < N.ts.length) (hy : y < 65536) (hz : z < 65536) (hw : weightB w = true) (x0 : Ext h g) (A1 : Blk g A #[sv.v, sa.v, st.v]) (P1 : Blk g P #[sp.v])
    (gr : GraphA g p N S) (ov : OverH g op N L) (hk : k < N.as.length) (ha : (nthT N.as k).a = xa) (hb : (nthT N.as k).b = xb) (lxa : xa < N.vs.length) (lxb : xb < N.vs.length)
    (tt : RowLM g (Sl.at tb L.length L.length) ((List.range L.length).map fun i => mk1 (gateN L i) (touchL N L [⟨1, k, 0, 0, w⟩] i)))
    {R : Value → Heap → Prop} (hr : ∀ h', Ext h h' → R (.bool true) h') (v0 v1 v2 v13 v15 v16 v17 v18 v19 v20 v21 v22 v23 v24 v25 v26 v27 v28 v29 v30 v31 v32 v33 v34 v35 v36 v37 v38 v39 : Value) :
    Stmt.wp Y S_rlaw19_BatchOne.body.rest.rest.rest.rest.rest.rest.rest.rest.rest (resP S_rlaw19_BatchOne.res R) (fun _ _ _ => False) (resP S_rlaw19_BatchOne.res R)
      [v0, v1, v2, .int .u16 y, .int .u16 z, .int .i64 w, .pointer (some ⟨A, 0, none⟩), .pointer (some ⟨P, 0, none⟩), .bool false, .pointer (some ⟨p, 0, none⟩), .pointer (some ⟨op, 0, none⟩), .int .i64 k, (Sl.at tb L.length L.length).v, v13, .int .i64 (topF L xa xb L.length), v15, v16, v17, v18, v19, v20, v21, v22, v23, v24, v25, v26, v27, v28, v29, v30, v31, v32, v33, v34, v35, v36, v37, v38, v39] g := by
  have la := r.ra.len
  have ll := rl.len
  have bL := pk.bL
  have cont := fun (e : List Value) => bo_two B r rl ok pk hn0 hy hz hw x0 A1 P1 gr ov hr
  simp [S_rlaw19_BatchOne, Stmt.rest] at cont
  simp [S_rlaw19_BatchOne, Stmt.rest]
  refine wp_loop' (BoI1 A P p op y z k tb xa xb w L g) (fun e _ => L.length - argI e 15) ⟨0, _, _, _, _, _, _, _, _, _, _, _, _, _, _, _, _, _, _, _, _, _, _, _, _, _, _, _, _, rfl, by omega, rfl⟩ ?_
  rintro e h1 ⟨i, v0, v1, v2, v13, v16, v17, v18, v19, v20, v21, v22, v23, v24, v25, v26, v27, v28, v29, v30, v31, v32, v33, v34, v35, v36, v37, v38, v39, rfl, hi, rfl⟩
  by_cases c : i < L.length
  rotate_left
  · have c1 : ¬ (i : Int) < L.length := by omega
    have cc := bo_two B r rl ok pk hn0 hy hz hw x0 A1 P1 gr ov hr v0 v1 v2 (.int .i64 k) (Sl.at tb L.length L.length).v v13 (.int .i64 (topF L xa xb L.length)) (.int .i64 i) v16 v17 v18 v19 v20 v21 v22 v23 v24 v25 v26 v27 v28 v29 (.bool false) v31 v32 v33 v34 v35 v36 v37 v38 v39
    simp [S_rlaw19_BatchOne, Stmt.rest] at cc
    simp [c1, c]
    exact cc
  have c1 : (i : Int) < L.length := by omega
  obtain ⟨u2, ku2, mu2⟩ := tt.val i (by simpa using c)
  have tlen := mu2.len
  obtain ⟨n, hn⟩ : ∃ n, gateN L i = n := ⟨_, rfl⟩
  have gb := (cells_row pk c).2.2.1
  have lrow := (cells_row pk c).1
  rw [nthML_map c, mk1_len, hn] at tlen
  rw [hn] at gb
  have ib := sem_idxa (Y := Y) (h := h1) (sz := 1) (k := .i64) (i := (i : Int)) tt.ok (by omega) (by simpa using c1)
  rw [show (Sl.at tb L.length L.length).v = .slice (some ⟨tb, 0, none⟩) L.length L.length from rfl] at ib
  simp at ib ku2
  have wi : IntKind.i64.wrap ((i : Int) + 1) = (i : Int) + 1 := i64_wrap (by omega)
  simp [c, c1]
  refine wp_loop' (BoI2 A P p op y z k tb xa xb i n w L h1) (fun e _ => n - argI e 16) ⟨0, _, _, _, _, _, _, _, _, _, _, _, _, _, _, _, _, _, _, _, _, _, _, _, _, _, _, _, rfl, by omega, rfl⟩ ?_
  rintro e h2 ⟨c2, v0, v1, v2, v13, v17, v18, v19, v20, v21, v22, v23, v24, v25, v26, v27, v28, v29, v30, v31, v32, v33, v34, v35, v36, v37, v38, v39, rfl, hc2, rfl⟩
  by_cases d : c2 < n
  rotate_left
  · have d1 : ¬ (c2 : Int) < u2.n := by omega
    simp [c, c1, ib, ku2, d1, wi]
    exact ⟨⟨i + 1, _, _, _, _, _, _, _, _, _, _, _, _, _, _, _, _, _, _, _, _, _, _, _, _, _, _, _, _, rfl, by omega, rfl⟩, by simp [argI]; omega⟩
  have d1 : (c2 : Int) < u2.n := by omega
  have d2 : c2 < u2.n := by omega
  have wc : IntKind.i64.wrap ((c2 : Int) + 1) = (c2 : Int) + 1 := i64_wrap (by omega)
  have k5 := mu2.val c2 (by rw [nthML_map c, mk1_len, hn]; exact d)
  rw [nthML_map c, nthM_mk1 (by rw [hn]; exact d), touch_set ha hb] at k5
  obtain ⟨u, ku, mu⟩ := (rl.ext x0).val i c
  have lu := mu.len
  have d5 : i < sp.n := by omega
  have d6 : (i : Int) < sp.n := by omega
  have a1 : (k : Int) < sa.n := by omega
  have a2 : k < sa.n := by omega
  have b1 : (xb : Int) < u.n := by omega
  have b2 : xb < u.n := by omega
  have kb := mu.at b2
  have k1 := (r.ext x0).ra.v1 k hk
  have k2 := (r.ext x0).ra.v2 k hk
  rw [hb] at k1
  have done : ∀ (v0 v1 v2 v13 v17 v18 v19 v20 v21 v22 v23 v24 v25 v26 v27 v28 v29 v30 v31 v32 v33 v34 v35 v36 v37 v38 v39 : Value), BoI2 A P p op y z k tb xa xb i n w L h2 [v0, v1, v2, .int .u16 y, .int .u16 z, .int .i64 w, .pointer (some ⟨A, 0, none⟩), .pointer (some ⟨P, 0, none⟩), .bool false, .pointer (some ⟨p, 0, none⟩), .pointer (some ⟨op, 0, none⟩), .int .i64 k, (Sl.at tb L.length L.length).v, v13, .int .i64 (topF L xa xb L.length), .int .i64 i, .int .i64 ((c2 : Int) + 1), v17, v18, v19, v20, v21, v22, v23, v24, v25, v26, v27, v28, v29, v30, v31, v32, v33, v34, v35, v36, v37, v38, v39] h2 := by
    intro v0 v1 v2 v13 v17 v18 v19 v20 v21 v22 v23 v24 v25 v26 v27 v28 v29 v30 v31 v32 v33 v34 v35 v36 v37 v38 v39
    exact ⟨c2 + 1, _, _, _, _, _, _, _, _, _, _, _, _, _, _, _, _, _, _, _, _, _, _, _, _, _, _, _, rfl, by omega, rfl⟩
  have lt : n - (c2 + 1) < n - c2 := by omega
  have ti := topF_iff pk lxa lxb c
  by_cases f1 : w = (nthT N.as k).c
  · have f1' : (nthT N.as k).c = w := f1.symm
    simp [f1'] at k5
    simp [c, c1, ib, ku2, d1, d2, sem_idxa mu2.ok, k5, A1.hc, sem_idxa r.ra.ok, a1, a2, k2, f1', wc]
    exact ⟨done .., lt⟩
  have f1' : ¬ (nthT N.as k).c = w := fun e => f1 e.symm
  by_cases f2 : nthI (nthL L i) xa = nthI (nthL L i) xb
  rotate_left
  · have f3 : ¬ topF L xa xb L.length < i + 1 := fun e => f2 (ti.1 e)
    have f4 : ¬ (topF L xa xb L.length : Int) < (i : Int) + 1 := by omega
    have f5 : (decide (nthI (nthL L i) xa = (c2 : Int) ∧ nthI (nthL L i) xb = (c2 : Int))) = false := by
      simp
      intro e1 e2
      exact f2 (by rw [e1, e2])
    rw [f5] at k5
    simp at k5
    simp [c, c1, ib, ku2, d1, d2, sem_idxa mu2.ok, k5, A1.hc, sem_idxa r.ra.ok, a1, a2, k2, f1, wi, f4, wc]
    exact ⟨done .., lt⟩
  have f3 : topF L xa xb L.length < i + 1 := ti.2 f2
  have f4 : (topF L xa xb L.length : Int) < (i : Int) + 1 := by omega
  by_cases f5 : nthI (nthL L i) xb = (c2 : Int)
  · simp [f1', f2, f5] at k5
    simp [c, c1, ib, ku2, d1, d2, sem_idxa mu2.ok, k5, A1.hc, P1.hc, sem_idxa r.ra.ok, a1, a2, k1, k2, f1, wi, f4, sem_idxa rl.ok, d5, d6, ku, sem_idxa mu.ok, b1, b2, kb, f5, wc]
    exact ⟨done .., lt⟩
  · simp [f2, f5] at k5
    simp [c, c1, ib, ku2, d1, d2, sem_idxa mu2.ok, k5, A1.hc, P1.hc, sem_idxa r.ra.ok, a1, a2, k1, k2, f1, wi, f4, sem_idxa rl.ok, d5, d6, ku, sem_idxa mu.ok, b1, b2, kb, f5, wc]
    exact ⟨done .., lt⟩
set_option maxHeartbeats 4000000 in
theorem batchone_law (B : BatchLaw Y) (H : Y.Has F.rlaw19_BatchOne S_rlaw19_BatchOne) (HT : Y.Has F.rref16_Top S_rref16_Top) (E : ErrSys Y) (hg : hc h E.gb 0 = some E.hv) {sv sa st sp : Sl} {N : NetD} {L : List (List Int)} {a y z : Nat} {w : Int} (r : NetH h sv sa st N) (rl : RowL h sp L) (hmax : sp.n ≤ 9223372036854775807)
    (ha : a < 65536) (hy : y < 65536) (hz : z < 65536) {R : Value → Heap → Prop}
    (hr : ∀ h', Ext h h' → R (.bool true) h') : CallP Y F.rlaw19_BatchOne [netV sv sa st, ptV sp, .int .u16 a, .int .u16 y, .int .u16 z, .int .i64 w] h R := by
  have lgb := hg_lt hg
  have la := r.ra.len
  have lp := rl.len
  refine .of_has H rfl ?_
  simp [S_rlaw19_BatchOne, FnS.wp, netV, ptV]
  refine ef_new_box ?_
  intro A h1 g1 A1 e1
  simp
  refine ef_new_box ?_
  intro P h2 g2 P2 e2
  have x2 := e1.trans e2
  have A2 := A1.ext e2
  simp
  refine known19_spec B E (x2.hc hg (fun h => h)) ?_
  intro h3 e3
  have x3 := x2.trans e3
  have A3 := A2.ext e3
  have P3 := P2.ext e3
  simp [rd_blk A3, rd_blk P3]
  rw [show (Value.agg #[sv.v, sa.v, st.v]) = netV sv sa st from rfl, show (Value.agg #[sp.v]) = ptV sp from rfl]
  refine may15_spec B.M (r.ext x3) (rl.ext x3) hmax ?_
  intro h4 e4
  have x4 := x3.trans e4
  have A4 := A3.ext e4
  have P4 := P3.ext e4
  by_cases c0 : may15 N L = true
  rotate_left
  · have c0' : may15 N L = false := by simpa using c0
    simp [c0']
    exact hr h4 x4
  obtain ⟨fw, ok, pk, bv, ba⟩ := may15_facts c0
  by_cases cz : sa.n = 0
  · simp [c0, A4.hc, cz]
    exact hr h4 x4
  have cz' : ¬ (sa.n : Int) = 0 := by omega
  simp [c0, A4.hc, cz, cz']
  refine rweight_spec B.R20.Weight ?_
  by_cases cw : weightB w = true
  rotate_left
  · have cw' : weightB w = false := by simpa using cw
    simp [cw']
    exact hr h4 x4
  simp [cw, rd_blk A4, rd_blk P4]
  rw [show (Value.agg #[sv.v, sa.v, st.v]) = netV sv sa st from rfl, show (Value.agg #[sp.v]) = ptV sp from rfl]
  refine made_spec B.X.MF (r.ext x4) fw ok ?_
  intro h5 p S e5 g5 f5
  have x5 := x4.trans e5
  have A5 := A4.ext e5
  have P5 := P4.ext e5
  simp [rd_blk A5, rd_blk P5, netV, ptV]
  rw [show (Value.agg #[sv.v, sa.v, st.v]) = netV sv sa st from rfl, show (Value.agg #[sp.v]) = ptV sp from rfl]
  refine made17_spec B.X (r.ext x5) (rl.ext x5) fw ok pk ?_
  intro h6 op e6 gop fo
  have x6 := x5.trans e6
  have A6 := A5.ext e6
  have P6 := P5.ext e6
  have g6 := g5.ext e6
  obtain ⟨k, hk⟩ : ∃ k, a % sa.n = k := ⟨_, rfl⟩
  have lk : k < sa.n := by rw [← hk]; exact Nat.mod_lt _ (by omega)
  have lkN : k < N.as.length := by omega
  have wa : IntKind.i64.wrap (a : Int) = (a : Int) := i64_wrap (by omega)
  have ta : (a : Int).tmod (sa.n : Int) = (k : Int) := by rw [← hk]; exact (Int.ofNat_tmod a sa.n).symm
  obtain ⟨xa, xb, hxa, hxb, lxa, lxb⟩ := (CellsOf.of ok pk).arc lkN
  have hn0 : 0 < N.ts.length := by
    have := ok.vt xa lxa
    simp [vtxB] at this
    omega
  have hb3 : ∀ (g : Heap) (x1 x2 x5 : Int), IOp.sem Y g (.build #[.int .i64 0, .int .i64 0, .int .i64 0, .int .i64 0, .int .i64 0] [(0, 1), (1, 1), (2, 1), (3, 1), (4, 1)] [0, 1, 4]) [.int .i64 x1, .int .i64 x2, .int .i64 x5] = some (.agg #[.int .i64 x1, .int .i64 x2, .int .i64 0, .int .i64 0, .int .i64 x5]) := fun g x1 x2 x5 => by simp [IOp.sem, Instr.fill]
  simp [A6.hc, wa, ib_rem cz', ta, hb3]
  refine ef_bslice_all rfl rfl rfl ?_ (by omega)
  intro b7 h7 g7 B7 e7 o7
  have q7 : Row5 h7 (Sl.at b7 1 1) [⟨1, k, 0, 0, w⟩] := Own.row5 (by simpa [cells5, chL] using o7)
  have x7 := x6.trans e7
  simp
  rw [show Value.slice (some ⟨b7, 0, none⟩) 1 1 = (Sl.at b7 1 1).v from rfl]
  refine touched_spec B.TF (g6.ext e7) ok ((fo h6 (Mod.refl _)).ext e7) pk q7 ?_ ?_
  · intro _ _ hne
    exact absurd (oneC_set lkN cw) hne
  intro h8 up tb bt _ e8 t8
  have x8 := x7.trans e8
  have A8 := (A6.ext e7).ext e8
  have P8 := (P6.ext e7).ext e8
  have lle : ((L.length : Int) = sp.n) = True := by simp; omega
  simp [P8.hc, lle, rd_blk A8, rd_blk P8]
  rw [show (Value.agg #[sv.v, sa.v, st.v]) = netV sv sa st from rfl, show (Value.agg #[sp.v]) = ptV sp from rfl]
  refine top16_spec HT B.R20.There (r.ext x8) (rl.ext x8) pk lkN hxa hxb lxa lxb ?_
  intro h9 e9
  have x9 := x8.trans e9
  have cont := bo_one B r rl ok pk hn0 hy hz cw x9 (A8.ext e9) (P8.ext e9) (((g6.ext e7).ext e8).ext e9) ((((fo h6 (Mod.refl _)).ext e7).ext e8).ext e9) lkN hxa hxb lxa lxb (t8.rows.ext e9) hr
  simp [S_rlaw19_BatchOne, Stmt.rest] at cont
  simp
  exact cont ..
end
end Go.Rm

/- The laws of batches: BatchMany. -/
set_option linter.unusedSimpArgs false
set_option linter.unusedVariables false
namespace Go.Rm
/-- one vertex, sixteen arcs from it to itself, each turn free -/
def bigA (n : Nat) : List Tri := List.replicate n ⟨0, 0, 1⟩
def bigN : NetD := ⟨[⟨0, 0, 0⟩], bigA 16, [⟨16, 16, List.replicate 256 0⟩]⟩
theorem bigN_few : fewD bigN = true := by decide +kernel
theorem bigN_OK : NetOK bigN := netOK_iff.1 (by decide +kernel)
def manyC (i : Nat) : Act5 := if 256 ≤ i then ⟨9, 0, 0, 0, 0⟩ else ⟨2, 0, ((i / 16 : Nat) : Int), ((i % 16 : Nat) : Int), 5⟩
def manyL (m : Nat) : List Act5 := (List.range m).map manyC
theorem manyL_len {m : Nat} : (manyL m).length = m := by simp [manyL]
theorem manyL_at {m j : Nat} (hj : j < m) : nthA (manyL m) j = manyC j := by simp [nthA, manyL, hj]
theorem manyL_snoc {m : Nat} : manyL (m + 1) = manyL m ++ [manyC m] := by simp [manyL, List.range_succ]
theorem manyC_one {i : Nat} (hi : i < 256) : oneC bigN (manyC i) = 0 := by
  have b1 : (nthB bigN.ts 0).i = 16 := rfl
  have b2 : (nthB bigN.ts 0).o = 16 := rfl
  have b3 : bigN.ts.length = 1 := rfl
  have : isTurnB bigN ⟨2, 0, ((i / 16 : Nat) : Int), ((i % 16 : Nat) : Int), 5⟩ = true := by
    simp only [isTurnB, Int.toNat_zero, b1, b2, b3]
    rw [decide_eq_true_eq]
    omega
  have w : weightB 5 = true := by decide
  rw [manyC, if_neg (by omega)]
  simp only [oneC, this, w]
  rfl
theorem many_ok {m : Nat} (hm : m ≤ 256) : (batchW bigN (manyL m)).2 = 0 := by
  apply batchW_all (by rw [manyL_len]; exact hm)
  intro j hj
  rw [manyL_len] at hj
  unfold badC
  rw [manyL_at hj, manyC_one (by omega)]
  have h2 : twiceB (manyL m) j = false := by
    cases q : twiceB (manyL m) j with
    | false => rfl
    | true =>
      rw [twice_iff] at q
      obtain ⟨k, hk, hs⟩ := q
      rw [manyL_at hj, manyL_at (by omega), manyC, manyC, if_neg (by omega), if_neg (by omega)] at hs
      simp [sameKey] at hs
      omega
  simp [h2]
theorem many_bad {m : Nat} (hm : 256 < m) : batchW bigN (manyL m) = atW wBatch 0 4 := by
  unfold batchW
  rw [if_pos (by rw [manyL_len]; exact hm)]
theorem apply_as {l : List Act5} : ∀ {N : NetD}, (∀ c, c ∈ l → c.kd ≠ 1) → (applyN N l).as = N.as := by
  induction l with
  | nil => intro N _; rfl
  | cons c r ih =>
    intro N h
    have h1 : (chN N c).as = N.as := by
      unfold chN
      rw [if_neg (h c (List.mem_cons_self ..))]
      unfold bendN
      split <;> rfl
    rw [← h1]
    exact ih fun d hd => h d (List.mem_cons_of_mem _ hd)
theorem apply_at {N : NetD} (ok : NetOK N) {l : List Act5} (hz : (batchW N l).2 = 0) {j : Nat} (hj : j < l.length) (hk : (nthA l j).kd ≠ 1) {t : Nat} (ht : (nthA l j).a = t) :
    atV (nthB (applyN N l).ts t).i (nthB (applyN N l).ts t).o (nthB (applyN N l).ts t).cs (nthA l j).i (nthA l j).o = (nthA l j).w := by
  have hb := (batch_ok hz).2
  have d := apply_dim ok (fun c hc => batch_one hz hc)
  have h1 := bad_one (hb j hj)
  have htl : l.take l.length = l := List.take_length
  obtain ⟨t', A, B, o, e1, e2, e3, hl, ho, hB, hp, _, _, _, hat⟩ := bend_pos (applyN_ok (l := l) ok) (by rw [d.one]; exact h1) hk
  have e5 : posC N (nthA l j) = posC (applyN N l) (nthA l j) := by
    unfold posC
    rw [(d.tb _).2]
  have := (apply_tab ok hb (t := t') (by rw [← d.tl]; exact hl) l.length (Nat.le_refl _)).2.1 j hj hk e1
  rw [htl, e5, hp] at this
  have : t' = t := by omega
  subst this
  rw [hat]
  assumption
theorem big_b {n : Nat} : ∀ {t : Tri}, t ∈ bigA n → t = ⟨0, 0, 1⟩ := fun h => (List.mem_replicate.1 h).2
theorem many_turn {m a b : Nat} (hm : m ≤ 256) (ha : a < 16) (hb : b < 16) (hj : a * 16 + b < m) : turnV (applyN bigN (manyL m)) a b = 5 := by
  have hz := many_ok hm
  have d := apply_dim bigN_OK (fun c hc => batch_one hz hc)
  have has : (applyN bigN (manyL m)).as = bigA 16 := by
    rw [apply_as]
    · rfl
    · intro c hc
      obtain ⟨j, hj, rfl⟩ := mem_nthA hc
      rw [manyL_len] at hj
      rw [manyL_at hj, manyC, if_neg (by omega)]
      intro e
      cases e
  have hat := apply_at bigN_OK hz (j := a * 16 + b) (t := 0) (by rw [manyL_len]; exact hj) (by rw [manyL_at hj, manyC, if_neg (by omega)]; intro e; cases e) (by rw [manyL_at hj, manyC, if_neg (by omega)]; rfl)
  rw [manyL_at hj, manyC, if_neg (by omega)] at hat
  simp only [show (a * 16 + b) / 16 = a by omega, show (a * 16 + b) % 16 = b by omega] at hat
  have hl : (bigA 16).length = 16 := List.length_replicate
  have n0 : ∀ k, k < 16 → nthT (bigA 16) k = ⟨0, 0, 1⟩ := fun k hk => by
    rw [nthT_eq (by rw [hl]; exact hk)]
    exact big_b (List.getElem_mem _)
  have cB : ∀ k, k < 16 → cntB (bigA 16) k k = k := fun k hk => by
    unfold cntB
    rw [List.filter_eq_self.2]
    · rw [List.length_take, hl]; omega
    · intro t ht
      rw [big_b (List.mem_of_mem_take ht), n0 k hk]
      rfl
  have cA : ∀ k, k < 16 → cntA (bigA 16) k k = k := fun k hk => by
    unfold cntA
    rw [List.filter_eq_self.2]
    · rw [List.length_take, hl]; omega
    · intro t ht
      rw [big_b (List.mem_of_mem_take ht), n0 k hk]
      rfl
  unfold turnV
  rw [has, hl, if_neg (by simp [vtxB]; omega)]
  unfold bendV
  simp only [has, Int.toNat_natCast, n0 a ha, n0 b hb, cB a ha, cA b hb, d.vs]
  rw [if_neg (by decide)]
  have hv : (nthT bigN.vs (Int.toNat 0)).c = 0 := rfl
  rw [hv, if_neg (by rw [d.tl]; decide)]
  exact hat
section
variable {Y : Sys} {h : Heap}
theorem ef_bslice3_bx {K : Value → Heap → Prop} {z0 z1 z2 x y z : Value} (hk : ∀ (b : Nat) (h' : Heap), h.size ≤ b → Blk h' b #[x, y, z] → Ext h h' → K (.slice (some ⟨b, 0, none⟩) 1 1) h') :
    Ef.wp h K (.bslice 1 3 #[z0, z1, z2] [0]) [.agg #[x, y, z]] := by
  rw [ef_bslice3]
  exact fun t => hk _ _ (Nat.le_refl _) Blk.new Mod.push
def BmI1 (k D : Nat) (V T : Value) (h0 : Heap) (e : List Value) (h' : Heap) : Prop :=
  ∃ (i : Nat) (u : Sl) (v4 v5 v6 v7 v8 v9 v10 v11 v12 v13 v14 : Value), e = [.int .u8 k, .bool false, .pointer (some ⟨D, 0, none⟩), .int .i64 i, v4, v5, v6, v7, v8, v9, v10, v11, v12, v13, v14] ∧ i ≤ 16 ∧ Blk h' D #[V, u.v, T] ∧ Own h' 3 u (cells3 ((bigA i).map triV)) ∧ (u.nl = false → h0.size ≤ u.b) ∧ Mod (fun j => j = D) h0 h'
def BmI2 (k D p m : Nat) (h0 : Heap) (e : List Value) (h' : Heap) : Prop :=
  ∃ (i : Nat) (u : Sl) (v3 v8 v9 v10 v11 v12 v13 v14 : Value), e = [.int .u8 k, .bool false, .pointer (some ⟨D, 0, none⟩), v3, .pointer (some ⟨p, 0, none⟩), u.v, .int .i64 m, .int .i64 i, v8, v9, v10, v11, v12, v13, v14] ∧ i ≤ m ∧ Own h' 5 u (cells5 (manyL i)) ∧ (u.nl = false → h0.size ≤ u.b) ∧ Ext h0 h'
set_option maxHeartbeats 4000000 in
theorem batchmany_law (B : BatchLaw Y) (H : Y.Has F.rlaw19_BatchMany S_rlaw19_BatchMany) (HT : Y.Has F.graph_Graph_Turn S_graph_Graph_Turn) (TT : TurnFns Y) (E : ErrSys Y) (hg : hc h E.gb 0 = some E.hv) {k : Nat} (hk : k < 256) {R : Value → Heap → Prop}
    (hr : ∀ h', Ext h h' → R (.bool true) h') : CallP Y F.rlaw19_BatchMany [.int .u8 k] h R := by
  have lgb := hg_lt hg
  refine .of_has H rfl ?_
  simp [S_rlaw19_BatchMany, FnS.wp]
  refine known19_spec B E hg ?_
  intro h1 e1
  have hb0 : ∀ (g : Heap), IOp.sem Y g (.build #[.int .i64 0, .int .i64 0, .int .i64 0] [(0, 1), (1, 1), (2, 1)] []) [] = some (.agg #[.int .i64 0, .int .i64 0, .int .i64 0]) := fun g => by simp [IOp.sem, Instr.fill]
  have hb1 : ∀ (g : Heap), IOp.sem Y g (.build #[.int .i64 0, .int .i64 0, .int .i64 0] [(0, 1), (1, 1), (2, 1)] [2]) [.int .i64 1] = some (.agg #[.int .i64 0, .int .i64 0, .int .i64 1]) := fun g => by simp [IOp.sem, Instr.fill]
  simp [hb0]
  refine ef_bslice3_bx ?_
  intro v h2 g2 V2 e2
  simp
  refine ef_make64 (n := 256) (by omega) rfl ?_
  intro c h3 g3 o3 e3 l3
  simp [sem_build3]
  refine ef_bslice3_bx ?_
  intro t h4 g4 T4 e4
  have hb2 : ∀ (g : Heap) (x y : Nat), IOp.sem Y g (.build #[.slice none 0 0, .slice none 0 0, .slice none 0 0] [(0, 1), (1, 1), (2, 1)] [0, 2]) [.slice (some ⟨x, 0, none⟩) 1 1, .slice (some ⟨y, 0, none⟩) 1 1] = some (.agg #[.slice (some ⟨x, 0, none⟩) 1 1, .slice none 0 0, .slice (some ⟨y, 0, none⟩) 1 1]) := fun g x y => by
    have a1 : (Value.slice (some ⟨x, 0, none⟩) 1 1).cells = #[.slice (some ⟨x, 0, none⟩) 1 1] := rfl
    have a2 : (Value.slice (some ⟨y, 0, none⟩) 1 1).cells = #[.slice (some ⟨y, 0, none⟩) 1 1] := rfl
    simp [IOp.sem, Instr.fill, a1, a2]
  simp [hb2]
  refine new_store (vs := #[.slice (some ⟨v, 0, none⟩) 1 1, .slice none 0 0, .slice (some ⟨t, 0, none⟩) 1 1]) rfl rfl (by simp) ?_
  intro D hDp gD bDp eDp stD
  simp
  refine stD _ ?_
  intro h5 D5 e5
  clear stD bDp eDp
  have x4 : Ext h h4 := ((e1.trans e2).trans e3).trans e4
  have x5 := x4.trans e5
  have z2 := e2.size
  have z3 := e3.size
  have z4 := e4.size
  have z5 := e5.size
  have lD := D5.lt
  have lV := V2.lt
  have lT := T4.lt
  simp
  refine wp_loop' (BmI1 k D (.slice (some ⟨v, 0, none⟩) 1 1) (.slice (some ⟨t, 0, none⟩) 1 1) h5) (fun e _ => 16 - argI e 3) ⟨0, Sl.nil, _, _, _, _, _, _, _, _, _, _, _, rfl, by omega, D5, Own.nil, fun h => (by cases h), Mod.refl _⟩ ?_
  rintro e h6 ⟨i, u, v4, v5, v6, v7, v8, v9, v10, v11, v12, v13, v14, rfl, hi, D6, o6, f6, m6⟩
  have z6 := m6.size
  have un := o6.1
  rw [cells3_len] at un
  simp [bigA] at un
  have x6 : Ext h h6 := Mod.ext x5 m6 (fun j hj => by have := x4.size; omega)
  by_cases c1 : i < 16
  · have c1' : (i : Int) < 16 := by omega
    have w1 : IntKind.i64.wrap ((i : Int) + 1) = (i : Int) + 1 := i64_wrap (by omega)
    simp [c1, c1', D6.hc, hb1]
    refine ef_bslice3_bx ?_
    intro b7 h7 g7 B7 e7
    have z7 := e7.size
    have D7 := D6.ext e7
    have lu := fun hn : u.nl = false => f6 hn
    simp
    refine ef_append3 rfl (o6.ext' e7) B7 rfl rfl rfl (by omega) (by omega) ?_
    intro u' h8 o8 m8 hs8
    have z8 := m8.size
    have D8 := m8.blk D7 (fun hj => by have := f6 hj.1; have := hj.2; omega)
    have f8 : u'.nl = false → h5.size ≤ u'.b := fun hn => by
      rcases hs8 with ⟨k1, k2⟩ | ⟨k1, _⟩
      · rw [k1]; exact f6 (by rw [← k2]; exact hn)
      · omega
    simp
    refine stB D8 (o := 1) (by simp) ?_
    intro h9 D9 m9
    have D9 : Blk h9 D #[.slice (some ⟨v, 0, none⟩) 1 1, u'.v, .slice (some ⟨t, 0, none⟩) 1 1] := D9
    have o9 := o8.mod m9 (fun hn hj => by have := f8 hn; omega)
    have m59 : Mod (fun j => j = D) h5 h9 := ((m6.trans (e7.mono fun _ _ h => h.elim)).then m8 (fun j hj hb => by have := f6 hb.1; have := hb.2; omega)).trans m9
    have hA : (bigA (i + 1)).map triV = (bigA i).map triV ++ [(.int .i64 0, .int .i64 0, .int .i64 1)] := by
      rw [bigA, List.replicate_succ', List.map_append]
      rfl
    simp [w1]
    exact ⟨⟨i + 1, u', _, _, _, _, _, _, _, _, _, _, _, rfl, by omega, D9, by rw [hA]; exact o9, f8, m59⟩, by simp [argI]; omega⟩
  have c1' : ¬ (i : Int) < 16 := by omega
  obtain rfl : i = 16 := by omega
  have rn : NetH h6 (Sl.at v 1 1) u (Sl.at t 1 1) bigN := by
    have V6 : Blk h6 v #[.int .i64 0, .int .i64 0, .int .i64 0] := m6.blk (((V2.ext e3).ext e4).ext e5) (by omega)
    have T6 : Blk h6 t #[.int .i64 16, .int .i64 16, .slice (some ⟨c, 0, none⟩) 256 256] := m6.blk (T4.ext e5) (by omega)
    have o6c : Own h6 1 (Sl.at c 256 256) (ints64 (List.replicate 256 0)) := ((o3.ext' e4).ext' e5).mod m6 (fun _ hj => by simp at hj; omega)
    have oV : Own h6 3 (Sl.at v 1 1) (cells3 ([⟨0, 0, 0⟩].map triV)) := ⟨rfl, .inr ⟨rfl, rfl, rfl, by simp, by simp, _, V6, rfl, rfl⟩⟩
    have oT : Own h6 3 (Sl.at t 1 1) (cells3 ([((⟨16, 16, List.replicate 256 0⟩ : Tab), Sl.at c 256 256)].map tabP)) := ⟨rfl, .inr ⟨rfl, rfl, rfl, by simp, by simp, _, T6, rfl, rfl⟩⟩
    refine ⟨oV.row3, o6.row3, oT.rowT rfl ?_⟩
    intro p hp
    simp only [List.mem_cons, List.not_mem_nil, or_false] at hp
    subst hp
    exact o6c.row64
  simp [c1', rd_blk D6]
  rw [show (Value.agg #[.slice (some ⟨v, 0, none⟩) 1 1, u.v, .slice (some ⟨t, 0, none⟩) 1 1]) = netV (Sl.at v 1 1) u (Sl.at t 1 1) from rfl]
  refine made_spec B.X.MF rn bigN_few bigN_OK ?_
  intro h7 p S e7 g7 f7
  have x7 := x6.trans e7
  have z7 := e7.size
  have D7 := D6.ext e7
  have lD6 := D6.lt
  have n12 : (12 : Int) ≠ 0 := by decide
  have t12 : (k : Int).tmod 12 = ((k % 12 : Nat) : Int) := (Int.ofNat_tmod k 12).symm
  obtain ⟨rr, hrr⟩ : ∃ rr, k % 12 = rr := ⟨_, rfl⟩
  have lrr : rr < 12 := by rw [← hrr]; exact Nat.mod_lt _ (by omega)
  rw [hrr] at t12
  obtain ⟨m, hm⟩ : ∃ m, 250 + rr = m := ⟨_, rfl⟩
  have w12 : IntKind.i64.wrap (rr : Int) = (rr : Int) := i64_wrap (by omega)
  have wm : IntKind.i64.wrap (250 + (rr : Int)) = (m : Int) := by rw [i64_wrap (by omega)]; omega
  have mb : m ≤ 261 := by omega
  have n16 : (16 : Int) ≠ 0 := by decide
  have hb4 : ∀ (g : Heap) (x3 x4 : Int), IOp.sem Y g (.build #[.int .i64 0, .int .i64 0, .int .i64 0, .int .i64 0, .int .i64 0] [(0, 1), (1, 1), (2, 1), (3, 1), (4, 1)] [0, 2, 3, 4]) [.int .i64 2, .int .i64 x3, .int .i64 x4, .int .i64 5] = some (.agg #[.int .i64 2, .int .i64 0, .int .i64 x3, .int .i64 x4, .int .i64 5]) := fun g x3 x4 => by simp [IOp.sem, Instr.fill]
  have hb9 : ∀ (g : Heap) (x1 : Int), IOp.sem Y g (.build #[.int .i64 0, .int .i64 0, .int .i64 0, .int .i64 0, .int .i64 0] [(0, 1), (1, 1), (2, 1), (3, 1), (4, 1)] [0]) [.int .i64 x1] = some (.agg #[.int .i64 x1, .int .i64 0, .int .i64 0, .int .i64 0, .int .i64 0]) := fun g x1 => by simp [IOp.sem, Instr.fill]
  simp [ib_rem n12, t12, w12, wm]
  refine wp_loop' (BmI2 k D p m h7) (fun e _ => m - argI e 7) ⟨0, Sl.nil, _, _, _, _, _, _, _, _, rfl, by omega, Own.nil, fun h => (by cases h), Mod.refl _⟩ ?_
  rintro e h8 ⟨i, w, v3, v8, v9, v10, v11, v12, v13, v14, rfl, hi, o8, f8, e8⟩
  have z8 := e8.size
  have wn := o8.row5.len
  rw [manyL_len] at wn
  have x8 := x7.trans e8
  by_cases c1 : i < m
  · have c1' : (i : Int) < m := by omega
    have w1 : IntKind.i64.wrap ((i : Int) + 1) = (i : Int) + 1 := i64_wrap (by omega)
    have tq : (i : Int).tdiv 16 = ((i / 16 : Nat) : Int) := (Int.ofNat_tdiv i 16).symm
    have tr : (i : Int).tmod 16 = ((i % 16 : Nat) : Int) := (Int.ofNat_tmod i 16).symm
    have hmC : manyC i = if 256 ≤ i then ⟨9, 0, 0, 0, 0⟩ else ⟨2, 0, ((i / 16 : Nat) : Int), ((i % 16 : Nat) : Int), 5⟩ := rfl
    obtain ⟨qq, hqq⟩ : ∃ qq, i / 16 = qq := ⟨_, rfl⟩
    obtain ⟨rm, hrm⟩ : ∃ rm, i % 16 = rm := ⟨_, rfl⟩
    have lqq : qq ≤ i := by rw [← hqq]; exact Nat.div_le_self ..
    rw [hqq] at tq hmC
    rw [hrm] at tr hmC
    have wq : IntKind.i64.wrap (qq : Int) = (qq : Int) := i64_wrap (by omega)
    simp [c1, c1', ib_quo n16, ib_rem n16, tq, tr, wq, hb4]
    refine new_store (vs := #[.int .i64 2, .int .i64 0, .int .i64 (qq : Int), .int .i64 (rm : Int), .int .i64 5]) rfl rfl (by simp) ?_
    intro C hCp gC bCp eCp stC
    simp
    refine stC _ ?_
    intro h9 C9 e9
    clear stC bCp eCp
    have z9 := e9.size
    have lC := C9.lt
    have tail : ∀ (h10 : Heap), Mod (fun j => j = C) h9 h10 → Blk h10 C (chL (manyC i)).toArray → ∀ (b11 : Nat) (h11 : Heap), h10.size ≤ b11 → Blk h11 b11 (chL (manyC i)).toArray → Ext h10 h11 → ∀ K : Value → Heap → Prop,
        (∀ (w' : Sl) (h' : Heap), Own h' 5 w' (cells5 (manyL (i + 1))) → (w'.nl = false → h7.size ≤ w'.b) → Ext h7 h' → K w'.v h') → Ef.wp h11 K (.append 5 40 #[.int .i64 0, .int .i64 0, .int .i64 0, .int .i64 0, .int .i64 0]) [w.v, .slice (some ⟨b11, 0, none⟩) 1 1] := by
      intro h10 m10 C10 b11 h11 g11 B11 e11 K hK
      have z10 := m10.size
      have z11 := e11.size
      have x10 : Ext h8 h10 := Mod.ext e9 m10 (fun j hj => by omega)
      refine ef_append5 rfl ((o8.ext' x10).ext' e11) B11 (by omega) (by omega) ?_
      intro w' h12 o12 n12 m12 hs12
      rw [← manyL_snoc] at o12
      refine hK w' h12 o12 (fun hn => ?_) (Mod.ext ((e8.trans x10).trans e11) m12 (fun j hj => by have := f8 hj.1; have := hj.2; omega))
      rcases hs12 with ⟨k1, k2⟩ | ⟨k1, _⟩
      · rw [k1]; exact f8 (by rw [← k2]; exact hn)
      · omega
    have done : ∀ (w' : Sl) (h' : Heap), Own h' 5 w' (cells5 (manyL (i + 1))) → (w'.nl = false → h7.size ≤ w'.b) → Ext h7 h' → ∀ (v3 v8 v9 v10 v11 v12 v13 v14 : Value), BmI2 k D p m h7 [.int .u8 k, .bool false, .pointer (some ⟨D, 0, none⟩), v3, .pointer (some ⟨p, 0, none⟩), w'.v, .int .i64 m, .int .i64 ((i : Int) + 1), v8, v9, v10, v11, v12, v13, v14] h' ∧ m - (i + 1) < m - i := by
      intro w' h' o' f' e' v3 v8 v9 v10 v11 v12 v13 v14
      exact ⟨⟨i + 1, w', _, _, _, _, _, _, _, _, rfl, by omega, o', f', e'⟩, by omega⟩
    by_cases c2 : 256 ≤ i
    · have c2' : (256 : Int) ≤ i := by omega
      have hc9 : (chL (manyC i)).toArray = #[.int .i64 9, .int .i64 0, .int .i64 0, .int .i64 0, .int .i64 0] := by rw [hmC, if_pos c2]; rfl
      simp [c2, c2', hb9]
      refine ef_store_box C9 rfl rfl (by simp) ?_
      intro h10 C10 m10
      simp [rd_blk C10]
      refine ef_bslice5 (c := ⟨9, 0, 0, 0, 0⟩) ?_
      intro b11 h11 g11 B11 e11
      simp
      refine tail h10 m10 (by rw [hc9]; exact C10) b11 h11 g11 (by rw [hc9]; exact B11) e11 _ ?_
      intro w' h' o' f' e'
      simp [w1]
      exact done w' h' o' f' e' ..
    · have c2' : ¬ (256 : Int) ≤ i := by omega
      have hc9 : (chL (manyC i)).toArray = #[.int .i64 2, .int .i64 0, .int .i64 (qq : Int), .int .i64 (rm : Int), .int .i64 5] := by rw [hmC, if_neg c2]; rfl
      simp [c2, c2', rd_blk C9]
      refine ef_bslice5 (c := ⟨2, 0, qq, rm, 5⟩) ?_
      intro b11 h11 g11 B11 e11
      simp
      refine tail h9 (Mod.refl _) (by rw [hc9]; exact C9) b11 h11 g11 (by rw [hc9]; exact B11) e11 _ ?_
      intro w' h' o' f' e'
      simp [w1]
      exact done w' h' o' f' e' ..
  have c1' : ¬ (i : Int) < m := by omega
  obtain rfl : i = m := by omega
  have g8 := g7.ext e8
  have gS : ∀ j, S j → h6.size ≤ j ∧ j < h7.size := fun j hj => ⟨f7 j hj, g7.lt j hj⟩
  by_cases c3 : 256 < i
  · have c3' : (256 : Int) < i := by omega
    have hW := many_bad c3
    simp [c1', c3, c3']
    refine bapply_spec B.TF.A g8 bigN_OK o8.row5 (fun hn hS => by have := f8 hn; have := gS _ hS; omega) ?_ ?_
    rotate_left
    · intro _ _ h0
      rw [hW] at h0
      cases h0
    intro h9 v9 _ e9 fv9
    rw [hW] at fv9
    simp
    refine rat_spec B.R20.At ?_
    intro h10 wv e10 hwv
    simp
    refine tells_spec (ps := [(wBatch, 0)]) (c := 4) B.Tells E (((x8.trans e9).trans e10).hc hg (fun h => h)) hwv.here (fv9 h10 (e10.mono fun _ _ h => h.elim)) (by simp) (by simp) ?_
    intro h11 e11
    have x11 := ((x8.trans e9).trans e10).trans e11
    have D11 := (((D7.ext e8).ext e9).ext e10).ext e11
    simp [rd_blk D11]
    rw [show (Value.agg #[.slice (some ⟨v, 0, none⟩) 1 1, u.v, .slice (some ⟨t, 0, none⟩) 1 1]) = netV (Sl.at v 1 1) u (Sl.at t 1 1) from rfl]
    refine same6s_spec B.GS (((g8.ext e9).ext e10).ext e11) bigN_OK.small ((((((rn.ext e7).ext e8).ext e9).ext e10)).ext e11) ?_
    intro h12 e12
    simp
    exact hr h12 (x11.trans e12)
  · have c3' : ¬ (256 : Int) < i := by omega
    simp [c1', c3, c3']
    refine bapply_spec B.TF.A g8 bigN_OK o8.row5 (fun hn hS => by have := f8 hn; have := gS _ hS; omega) ?_ ?_
    · intro _ _ hne
      exact absurd (many_ok (by omega)) hne
    intro h9 S' _ m9 g9 fS'
    have x9 : Ext h h9 := Mod.ext x8 m9 (fun j hj => by have := gS j hj; have := x6.size; omega)
    have ok9 := applyN_ok (l := manyL i) bigN_OK
    have t0 := many_turn (m := i) (a := 0) (b := 0) (by omega) (by omega) (by omega) (by omega)
    have t1 := many_turn (m := i) (a := 15) (b := 9) (by omega) (by omega) (by omega) (by omega)
    simp
    refine gturn_spec HT B.GS.arc TT g9 ok9 ?_
    intro h10 e10
    rw [show turnV (applyN bigN (manyL i)) 0 0 = 5 from t0]
    simp
    refine gturn_spec HT B.GS.arc TT (g9.ext e10) ok9 ?_
    intro h11 e11
    rw [show turnV (applyN bigN (manyL i)) 15 9 = 5 from t1]
    simp
    exact hr h11 ((x9.trans e10).trans e11)
end
end Go.Rm
