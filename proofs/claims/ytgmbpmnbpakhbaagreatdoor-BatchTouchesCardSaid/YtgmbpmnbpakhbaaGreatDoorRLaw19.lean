import Derived.Test.YtgmbpmnbpakhbaaGreatDoorRBatch6

/- The laws of batches: the known net. -/
set_option linter.unusedSimpArgs false
set_option linter.unusedVariables false
namespace Go.Rm
structure BatchLaw (Y : Sys) : Prop where
  M : May16 Y
  X : Over17 Y
  TF : TouchFns Y
  R20 : Ref20 Y
  Ap : RefAp Y
  RT : RefTo Y
  GS : GrSame Y
  To : Y.Has F.rlaw19_To S_rlaw19_To
  Tells : Y.Has F.rlaw1_Tells S_rlaw1_Tells
  Ring : Y.Has F.rlaw6_Ring S_rlaw6_Ring
  Two : Y.Has F.rlaw15_Two S_rlaw15_Two
  SR : Y.Has F.rref20_SameRows S_rref20_SameRows
  SB : Y.Has F.rref11_SameBools S_rref11_SameBools
  How : Y.Has F.rref20_How S_rref20_How
  known : Y.Has F.rlaw19_known S_rlaw19_known
def knA : List Act5 := [⟨1, 0, 0, 0, 11⟩, ⟨2, 0, 0, 0, 2⟩]
def knB : List Act5 := [⟨1, 0, 0, 0, 11⟩, ⟨2, 0, 0, 0, 2⟩, ⟨1, 0, 0, 0, 1⟩]
theorem knA_ok : batchW ringN knA = wOK := by decide +kernel
theorem knB_bad : batchW ringN knB = atW wChange 2 6 := by decide +kernel
theorem knA_rows : ((List.range twoL.length).map fun i => mk1 (gateN twoL i) (touchL ringN twoL knA i)) = [[true, false], [true]] := by decide +kernel
section
variable {Y : Sys} {h h' : Heap}
theorem RowLM.mod {S : Nat → Prop} {s : Sl} {l : List (List Bool)} (k : ∀ i, i < l.length → ∃ u : Sl, hc h s.b (s.o + i) = some u.v ∧ RowM h u (nthML l i) ∧ (u.nl = false → ¬ S u.b)) (hs : ¬ S s.b) (ok : s.ok) (len : l.length = s.n) (m : Mod S h h') : RowLM h' s l :=
  ⟨ok, len, fun i hi => by
    obtain ⟨u, a, b, c⟩ := k i hi
    refine ⟨u, m.hc a hs, b.ok, b.len, fun j hj => m.hc (b.val j hj) (c ?_)⟩
    cases q : u.nl with
    | false => rfl
    | true => have := (b.ok.nil q).1; have := b.len; omega⟩
theorem srcOf_row5 {s : Sl} {l : List Act5} (q : Row5 h s l) : srcOf h 5 s.n s.v = some (cells5 l) := by
  have ll := q.len
  cases hnl : s.nl with
  | true =>
    have : l = [] := List.eq_nil_of_length_eq_zero (by rw [ll]; exact (q.ok.nil hnl).1)
    subst this
    simp [Sl.v, hnl, srcOf, cells5]
  | false =>
    cases hsp : s.sp with
    | some w =>
      have h0 : s.n = 0 := by
        have := q.ok.spot.resolve_left (by rw [hsp]; simp)
        have := q.ok.le; omega
      have : l = [] := List.eq_nil_of_length_eq_zero (by omega)
      subst this
      simp [Sl.v, hnl, hsp, srcOf, h0, cells5]
    | none =>
      simp only [Sl.v, hnl, hsp, Bool.false_eq_true, if_false, srcOf]
      have := rd_of (h := h) (b := s.b) (l := cells5 l) (o := s.o) fun i v hi => by
        have hlt : i < l.length * 5 := by
          have := (List.getElem?_eq_some_iff.1 hi).1
          rwa [cells5_len] at this
        obtain ⟨a, k, hk, rfl⟩ : ∃ a k, k < 5 ∧ i = a * 5 + k := ⟨i / 5, i % 5, Nat.mod_lt _ (by omega), by omega⟩
        have ha : a < l.length := by omega
        rw [cells5_at ha hk] at hi
        obtain ⟨c0, c1, c2, c3, c4⟩ := q.cell ha
        match k, hk with
        | 0, _ => simp [chL] at hi; subst hi; exact c0
        | 1, _ => simp [chL] at hi; subst hi; exact c1
        | 2, _ => simp [chL] at hi; subst hi; exact c2
        | 3, _ => simp [chL] at hi; subst hi; exact c3
        | 4, _ => simp [chL] at hi; subst hi; exact c4
      rw [cells5_len, ll] at this
      exact this
theorem cells5_one {l : List Act5} : ∀ v ∈ cells5 l, v.oneCell' = true := by
  intro v hv
  simp only [cells5, List.mem_flatMap, chL] at hv
  obtain ⟨c, _, hv⟩ := hv
  simp only [List.mem_cons, List.not_mem_nil, or_false] at hv
  rcases hv with rfl | rfl | rfl | rfl | rfl <;> rfl
/-- changes are copied behind an empty row laid for them -/
theorem ef_clone5 {K : Value → Heap → Prop} {z : Array Value} {bytes b : Nat} {s : Sl} {l : List Act5} (q : Row5 h s l) (hz : z.size = 5) (hn : s.n ≤ 1000) (hby : bytes ≤ 1000) (o : Own h 5 (Sl.at b 0 0) [])
    (hk : ∀ (s' : Sl) (h' : Heap), Own h' 5 s' (cells5 l) → Mod (fun j => j = b) h h' → (s'.b = b ∨ h.size ≤ s'.b) → K s'.v h') :
    Ef.wp h K (.append 5 bytes z) [.slice (some ⟨b, 0, none⟩) 0 0, s.v] := by
  have hm : s.n * bytes ≤ 1000 * 1000 := Nat.mul_le_mul hn hby
  refine ef_append_own (s := Sl.at b 0 0) o (m := s.n) (nw := cells5 l) lenV_slv (srcOf_row5 q) (by rw [cells5_len, q.len]) cells5_one hz (by simp; omega) (by simp; omega) ?_
  intro s' h' o' hn' hm hs'
  refine hk s' h' (by simpa using o') (hm.mono fun j _ hj => hj.2) ?_
  rcases hs' with ⟨k, _⟩ | ⟨k, _⟩
  · exact .inl k
  · exact .inr k
set_option maxHeartbeats 2000000 in
theorem known19_spec (B : BatchLaw Y) (E : ErrSys Y) (hg : hc h E.gb 0 = some E.hv) {R : Value → Heap → Prop} (hr : ∀ h', Ext h h' → R (.bool true) h') : CallP Y F.rlaw19_known [] h R := by
  have lgb := hg_lt hg
  refine .of_has B.known rfl ?_
  simp [S_rlaw19_known, FnS.wp]
  refine ring6_spec B.Ring ?_
  intro h1 a1 a2 a3 e1 r1 _ _ _ _
  simp [netV]
  refine new_store (vs := #[a1.v, a2.v, a3.v]) rfl rfl (by simp) ?_
  intro W hWp gW bWp eWp stW
  simp
  refine stW _ ?_
  intro h2 W2 e2
  clear stW bWp eWp
  have x2 := e1.trans e2
  simp [rd_blk W2]
  rw [show (Value.agg #[a1.v, a2.v, a3.v]) = netV a1 a2 a3 from rfl]
  refine made_spec B.X.MF (r1.ext e2) (by decide) ringN_OK ?_
  intro h3 p S e3 g3 f3
  have x3 := x2.trans e3
  have z3 := x3.size
  simp [rd_blk (W2.ext e3), netV]
  refine two15_spec B.Two ?_
  intro h4 s4 e4 r4 n4
  have x4 := x3.trans e4
  simp [rd_blk ((W2.ext e3).ext e4), netV]
  rw [show (Value.agg #[a1.v, a2.v, a3.v]) = netV a1 a2 a3 from rfl]
  refine made17_spec B.X ((r1.ext e2).ext (e3.trans e4)) r4 (by decide) ringN_OK twoL_ok ?_
  intro h5 op e5 gop fo
  have x5 := x4.trans e5
  have g5 := g3.ext (e4.trans e5)
  simp
  have hb : ∀ (g : Heap) (x1 x2 x5 : Int), IOp.sem Y g (.build #[.int .i64 0, .int .i64 0, .int .i64 0, .int .i64 0, .int .i64 0] [(0, 1), (1, 1), (2, 1), (3, 1), (4, 1)] [0, 1, 4]) [.int .i64 x1, .int .i64 x2, .int .i64 x5] = some (.agg #[.int .i64 x1, .int .i64 x2, .int .i64 0, .int .i64 0, .int .i64 x5]) := fun g x1 x2 x5 => by simp [IOp.sem, Instr.fill]
  simp [hb]
  refine ef_bslice_all rfl rfl rfl ?_ (by omega)
  intro b6 h6 g6 B6 e6 o6
  have x6 := x5.trans e6
  have z5 := e5.size
  have z6 := e6.size
  have q6 : Row5 h6 (Sl.at b6 2 2) knA := Own.row5 (by simpa [knA, cells5, chL] using o6)
  have gS : ∀ j, S j → h.size ≤ j ∧ j < h5.size := fun j hj => by
    have := f3 j hj
    have := g5.lt j hj
    have := x2.size
    exact ⟨by omega, by omega⟩
  simp
  rw [show Value.slice (some ⟨b6, 0, none⟩) 2 2 = (Sl.at b6 2 2).v from rfl]
  refine touched_spec B.TF (g5.ext e6) ringN_OK ((fo h5 (Mod.refl _)).ext e6) twoL_ok q6 ?_ ?_
  · intro h7 v hne
    exact absurd (by rw [knA_ok]; rfl) hne
  intro h7 up tb bt _ e7 t7
  have x7 := x6.trans e7
  have z7 := e7.size
  have lb6 := B6.lt
  simp
  rw [ef_bslice0]
  intro tt
  have e8 : Ext h7 (h7.push (.cells #[] tt)) := Mod.push
  have o8 : Own (h7.push (.cells #[] tt)) 5 (Sl.at h7.size 0 0) [] := own_empty
  have q8 := q6.ext' (e7.trans e8)
  generalize hh8 : h7.push (.cells #[] tt) = h8 at e8 o8 q8
  simp
  refine ef_clone5 q8 rfl (by simp) (by omega) o8 ?_
  intro s9 h9 o9 m9 hs9
  have z8 := e8.size
  have e79 : Ext h7 h9 := Mod.ext e8 m9 (fun j hj => by omega)
  have x9 := x7.trans e79
  simp [hb]
  refine ef_bslice5 (c := ⟨1, 0, 0, 0, 1⟩) ?_
  intro b10 h10 g10 B10 e10
  simp
  have n9 := o9.1
  simp [cells5_len, knA] at n9
  have hn9 : s9.n = 2 := by omega
  refine ef_append5 rfl (o9.ext' e10) B10 (by omega) (by omega) ?_
  intro s11 h11 o11 n11 m11 hs11
  have z9 := m9.size
  have z10 := e10.size
  have hs9' : h7.size ≤ s9.b := by rcases hs9 with k | k <;> omega
  have e711 : Ext h7 h11 := Mod.ext (e79.trans e10) m11 (fun j hj => by omega)
  have x11 := x7.trans e711
  have hs11' : h7.size ≤ s11.b := by rcases hs11 with ⟨k, _⟩ | ⟨k, _⟩ <;> omega
  have q11 : Row5 h11 s11 knB := Own.row5 (by simpa [knA, knB, cells5, chL] using o11)
  have g11 := g5.ext (e6.trans (e7.trans e711))
  simp
  refine bapply_spec B.TF.A g11 ringN_OK q11 (fun _ hS => by have := gS _ hS; omega) ?_ ?_
  rotate_left
  · intro h' S' h0
    exact absurd h0 (by rw [knB_bad]; decide)
  intro h12 fe _ e12 hfe
  have x12 := x11.trans e12
  have g12 := g11.ext e12
  have z11 := e711.size
  have z12 := e12.size
  simp
  refine gweight_spec B.TF.Wt B.TF.A.GS.arc g12 ?_
  rw [show weightV ringN 0 = 10 by decide]
  simp
  rw [show Value.slice (some ⟨b6, 0, none⟩) 2 2 = (Sl.at b6 2 2).v from rfl]
  refine bapply_spec B.TF.A g12 ringN_OK ((q6.ext' (e7.trans e711)).ext' e12) (fun _ hS => by have := gS _ hS; simp at this; omega) ?_ ?_
  · intro h' v hne
    exact absurd (by rw [knA_ok]; rfl) hne
  intro h13 S' _ m13 g13 fS'
  have z13 := m13.size
  have x13 : Ext h h13 := Mod.ext x12 m13 (fun j hj => (gS j hj).1)
  have t13 := (t7.ext (e711.trans e12)).mod m13 (fun j hj => .inl (by have := gS j hj; omega))
  simp
  refine ef_bslice_all rfl rfl rfl ?_ (by omega)
  intro b14 h14 g14 _ e14 o14
  simp
  refine ef_bslice_all rfl rfl rfl ?_ (by omega)
  intro b15 h15 g15 _ e15 o15
  simp
  refine ef_bslice_all rfl rfl rfl ?_ (by omega)
  intro b16 h16 g16 _ e16 o16
  simp at o14 o15 o16
  have x16 := ((x13.trans e14).trans e15).trans e16
  have rw16 : RowLM h16 (Sl.at b16 2 2) [[true, false], [true]] := by
    refine ⟨o16.ok, rfl, fun i hi => ?_⟩
    have hi : i < 2 := hi
    have hi' : i = 0 ∨ i = 1 := by omega
    rcases hi' with rfl | rfl
    · exact ⟨Sl.at b14 2 2, o16.cell rfl, rowM_own (m := [true, false]) ((o14.ext' e15).ext' e16)⟩
    · exact ⟨Sl.at b15 1 1, o16.cell rfl, rowM_own (m := [true]) (o15.ext' e16)⟩
  have rt16 := (t13.rows).ext ((e14.trans e15).trans e16)
  rw [knA_rows] at rt16
  simp
  rw [show Value.slice (some ⟨tb, 0, none⟩) (twoL.length) (twoL.length) = (Sl.at tb twoL.length twoL.length).v from rfl, show Value.slice (some ⟨b16, 0, none⟩) 2 2 = (Sl.at b16 2 2).v from rfl]
  refine samerows_spec B.SR B.SB rt16 rw16 (by simp) (fun i hi => ?_) ?_
  · have hi : i < 2 := hi
    have hi' : i = 0 ∨ i = 1 := by omega
    rcases hi' with rfl | rfl <;> simp [nthML]
  simp
  refine rat_spec B.R20.At ?_
  intro h17 wv e17 hwv
  have x17 := x16.trans e17
  simp
  have hfe17 : Err Y h17 (atW wChange 2 6) fe := by
    rw [knB_bad] at hfe
    refine hfe h17 ?_
    exact (m13.mono fun j _ hj => by have := gS j hj; omega).trans ((((e14.trans e15).trans e16).trans e17).mono fun _ _ h => h.elim)
  refine tells_spec (ps := [(wChange, 2)]) (c := 6) B.Tells E (x17.hc hg (fun h => h)) hwv.here hfe17 (by simp) (by simp) ?_
  intro h18 e18
  have x18 := x17.trans e18
  simp
  refine gweight_spec B.TF.Wt B.TF.A.GS.arc (g13.ext ((((e14.trans e15).trans e16).trans e17).trans e18)) ?_
  rw [show weightV (applyN ringN knA) 0 = 11 by decide +kernel]
  simp
  exact hr h18 x18
end
end Go.Rm

/- The laws of batches: BatchAny, BatchTouches. -/
set_option linter.unusedSimpArgs false
set_option linter.unusedVariables false
namespace Go.Rm
theorem small_facts {N : NetD} (h : smallD N = true) : fewD N = true ∧ NetOK N ∧ N.vs.length ≤ 24 ∧ N.as.length ≤ 90 := by
  simp [smallD] at h
  obtain ⟨⟨h1, h2⟩, h3⟩ := h
  have h7 := may_ok h3
  exact ⟨h7.1, h7.2, h1, h2⟩
theorem wr_len {N : NetD} {l : List Act5} : ((batchW N l).2 ≠ 0 → 0 < (batchW N l).1.length) ∧ (batchW N l).1.length ≤ 4 := by
  have key : ∀ m k, ((batchF N l k m).2 ≠ 0 → 0 < (batchF N l k m).1.length) ∧ (batchF N l k m).1.length ≤ 4 := by
    intro m
    induction m with
    | zero => intro k; exact ⟨fun h => absurd rfl h, by simp [batchF, wOK]⟩
    | succ m ih =>
      intro k
      rw [batchF]
      split
      · simp [atW]
      · exact ih _
  unfold batchW
  split
  · simp [atW]
  · exact key _ _
section
variable {Y : Sys} {h h' : Heap}
set_option maxHeartbeats 2000000 in
theorem batchany_law (B : BatchLaw Y) (H : Y.Has F.rlaw19_BatchAny S_rlaw19_BatchAny) (E : ErrSys Y) (hg : hc h E.gb 0 = some E.hv) {sv sa st s : Sl} {N : NetD} {l : List Act5} (r : NetH h sv sa st N) (q : Row5 h s l) {R : Value → Heap → Prop}
    (hr : ∀ h', Ext h h' → R (.bool true) h') : CallP Y F.rlaw19_BatchAny [netV sv sa st, s.v] h R := by
  have lgb := hg_lt hg
  have ll := q.len
  refine .of_has H rfl ?_
  simp [S_rlaw19_BatchAny, FnS.wp, netV]
  refine ef_new_box ?_
  intro A h1 g1 A1 e1
  simp
  refine known19_spec B E (e1.hc hg (fun h => h)) ?_
  intro h2 e2
  have x2 := e1.trans e2
  simp [rd_blk (A1.ext e2)]
  rw [show (Value.agg #[sv.v, sa.v, st.v]) = netV sv sa st from rfl]
  refine small_spec B.M (r.ext x2) ?_
  intro h3 e3
  have x3 := x2.trans e3
  have A3 := (A1.ext e2).ext e3
  by_cases c0 : smallD N = true
  rotate_left
  · have c0' : smallD N = false := by simpa using c0
    simp [c0']
    exact hr h3 x3
  by_cases c1 : 300 < s.n
  · have c1' : (300 : Int) < s.n := by omega
    simp [c0, c1, c1']
    exact hr h3 x3
  have c1' : ¬ (300 : Int) < s.n := by omega
  obtain ⟨fw, ok, _, _⟩ := small_facts c0
  simp [c0, c1, c1', rd_blk A3]
  rw [show (Value.agg #[sv.v, sa.v, st.v]) = netV sv sa st from rfl]
  refine made_spec B.X.MF (r.ext x3) fw ok ?_
  intro h4 p S e4 g4 f4
  have x4 := x3.trans e4
  have A4 := A3.ext e4
  have z3 := x3.size
  simp [rd_blk A4]
  rw [show (Value.agg #[sv.v, sa.v, st.v]) = netV sv sa st from rfl]
  refine checkbatch_spec B.R20 (r.ext x4) (q.ext' x4) ?_
  intro h5 wv e5 fw5
  have x5 := x4.trans e5
  have A5 := A4.ext e5
  obtain ⟨s5, rfl⟩ := fw5.here.shape
  simp
  refine new_store (vs := #[s5.v, .int .i64 (batchW N l).2]) rfl rfl (by simp) ?_
  intro C hCp gC bCp eCp stC
  simp
  refine stC _ ?_
  intro h6 C6 e6
  clear stC bCp eCp
  have x6 := x5.trans e6
  have A6 := A5.ext e6
  have g6 := g4.ext (e5.trans e6)
  simp [rd_blk C6]
  refine to19_spec B.To (q.ext' x6) (by omega) ?_
  intro h7 u e7 ou fu
  have x7 := x6.trans e7
  have A7 := A6.ext e7
  have C7 := C6.ext e7
  have g7 := g6.ext e7
  simp [rd_blk C7]
  refine bcheck_spec B.TF.A.C g7 ok ou.row5 ?_
  intro h8 v8 e8 fv8
  have x8 := x7.trans e8
  have A8 := A7.ext e8
  have C8 := C7.ext e8
  simp [rd_blk C8]
  have fw8 : WrongV h8 (batchW N l).1 (batchW N l).2 (.agg #[s5.v, .int .i64 (batchW N l).2]) := (fw5.here.ext ((e6.trans e7).trans e8))
  refine tells_spec (ps := (batchW N l).1) (c := (batchW N l).2) B.Tells E (x8.hc hg (fun h => h)) fw8 fv8.here wr_len.1 wr_len.2 ?_
  intro h9 e9
  have x9 := x8.trans e9
  have A9 := A8.ext e9
  have C9 := C8.ext e9
  have g9 := g7.ext (e8.trans e9)
  simp [rd_blk A9]
  rw [show (Value.agg #[sv.v, sa.v, st.v]) = netV sv sa st from rfl]
  refine same6s_spec B.GS g9 ok.small (r.ext x9) ?_
  intro h10 e10
  have x10 := x9.trans e10
  have A10 := A9.ext e10
  have C10 := C9.ext e10
  have g10 := g9.ext e10
  simp [rd_blk C10]
  refine to19_spec B.To (q.ext' x10) (by omega) ?_
  intro h11 u' e11 ou' fu'
  have x11 := x10.trans e11
  have A11 := A10.ext e11
  have C11 := C10.ext e11
  have g11 := g10.ext e11
  have z34 := e4.size
  have gS : ∀ j, S j → h3.size ≤ j ∧ j < h4.size := fun j hj => ⟨f4 j hj, g4.lt j hj⟩
  have z410 : h4.size ≤ h10.size := (((((e5.trans e6).trans e7).trans e8).trans e9).trans e10).size
  have C6lt := C6.lt
  have zC : h5.size ≤ C := by omega
  have z45 := e5.size
  simp [rd_blk C11]
  refine bapply_spec B.TF.A g11 ok ou'.row5 (fun hn hS => by have := fu' hn; have := gS _ hS; omega) ?_ ?_
  · intro h12 v12 hne e12 hv12
    have x12 := x11.trans e12
    have A12 := A11.ext e12
    have C12 := C11.ext e12
    have g12 := g11.ext e12
    have fw12 : WrongV h12 (batchW N l).1 (batchW N l).2 (.agg #[s5.v, .int .i64 (batchW N l).2]) := fw8.ext (((e9.trans e10).trans e11).trans e12)
    simp [rd_blk C12]
    refine tells_spec (ps := (batchW N l).1) (c := (batchW N l).2) B.Tells E (x12.hc hg (fun h => h)) fw12 hv12.here wr_len.1 wr_len.2 ?_
    intro h13 e13
    have x13 := x12.trans e13
    have A13 := A12.ext e13
    have C13 := C12.ext e13
    have g13 := g12.ext e13
    simp [rd_blk A13]
    refine new_store (vs := #[sv.v, sa.v, st.v]) rfl rfl (by simp) ?_
    intro D hDp gD bDp eDp stD
    simp
    refine stD _ ?_
    intro h14 D14 e14
    clear stD bDp eDp
    have x14 := x13.trans e14
    simp [(C13.ext e14).hc, hne, rd_blk D14]
    rw [show (Value.agg #[sv.v, sa.v, st.v]) = netV sv sa st from rfl]
    refine same6s_spec B.GS (g13.ext e14) ok.small (r.ext x14) ?_
    intro h15 e15
    simp
    exact hr h15 (x14.trans e15)
  · intro h12 S' hz m12 g12 fS'
    have z12 := m12.size
    have x12 : Ext h h12 := Mod.ext x11 m12 (fun j hj => by have := gS j hj; omega)
    have A12 := m12.blk A11 (fun hS => by have := gS _ hS; have := A1.lt; have := (e2.trans e3).size; omega)
    have C12 := m12.blk C11 (fun hS => by have := gS _ hS; omega)
    have wk := batch_wOK hz
    have fw12 : WrongV h12 (batchW N l).1 (batchW N l).2 (.agg #[s5.v, .int .i64 (batchW N l).2]) := by
      refine fw5 h12 ?_
      have e : Ext h5 h11 := (((((e6.trans e7).trans e8).trans e9).trans e10).trans e11)
      exact (e.mono fun _ _ h => h.elim).trans (m12.mono fun j _ hj => (gS j hj).2)
    simp [rd_blk C12]
    refine tells_spec (ps := (batchW N l).1) (c := (batchW N l).2) B.Tells E (x12.hc hg (fun h => h)) fw12 (by rw [wk]; exact Err.ok) wr_len.1 wr_len.2 ?_
    intro h13 e13
    have x13 := x12.trans e13
    have A13 := A12.ext e13
    have C13 := C12.ext e13
    have g13 := g12.ext e13
    simp [rd_blk A13]
    refine new_store (vs := #[sv.v, sa.v, st.v]) rfl rfl (by simp) ?_
    intro D hDp gD bDp eDp stD
    simp
    refine stD _ ?_
    intro h14 D14 e14
    clear stD bDp eDp
    have x14 := x13.trans e14
    simp [(C13.ext e14).hc, hz, rd_blk (A13.ext e14)]
    rw [show (Value.agg #[sv.v, sa.v, st.v]) = netV sv sa st from rfl]
    refine rapply_spec B.Ap (r.ext x14) ok (q.ext' x14) hz ?_
    intro h15 t1 t2 t3 e15 r15
    simp [netV]
    have D15 := D14.ext e15
    refine ef_store_box D15 rfl rfl (by simp) ?_
    intro h16 D16 m16
    simp [rd_blk D16]
    rw [show (Value.agg #[t1.v, t2.v, t3.v]) = netV t1 t2 t3 from rfl]
    have zD := D14.lt
    have lok := applyN_ok (l := l) ok
    have g16 := (((g13.ext e14).ext e15).mod m16 (fun b hb => by
      have := g12.lt b hb
      have := e13.size
      omega))
    have x16 : Ext h h16 := Mod.ext (x14.trans e15) m16 (fun j hj => by have := x13.size; omega)
    refine same6s_spec B.GS g16 lok.small (r15 h16 (m16.mono fun j _ hj => by omega)) ?_
    intro h17 e17
    simp
    exact hr h17 (x16.trans e17)
set_option maxHeartbeats 2000000 in
theorem batchtouches_law (B : BatchLaw Y) (H : Y.Has F.rlaw19_BatchTouches S_rlaw19_BatchTouches) (E : ErrSys Y) (hg : hc h E.gb 0 = some E.hv) {sv sa st s sp : Sl} {N : NetD} {L : List (List Int)} {l : List Act5} (r : NetH h sv sa st N) (rl : RowL h sp L) (hmax : sp.n ≤ 9223372036854775807) (q : Row5 h s l) {R : Value → Heap → Prop}
    (hr : ∀ h', Ext h h' → R (.bool true) h') : CallP Y F.rlaw19_BatchTouches [netV sv sa st, ptV sp, s.v] h R := by
  have lgb := hg_lt hg
  have ll := q.len
  refine .of_has H rfl ?_
  simp [S_rlaw19_BatchTouches, FnS.wp, netV, ptV]
  refine ef_new_box ?_
  intro A h1 g1 A1 e1
  simp
  refine ef_new_box ?_
  intro P h2 g2 P2 e2
  have x2 := e1.trans e2
  have A2 := A1.ext e2
  simp
  refine known19_spec B E (x2.hc hg (fun h => h)) ?_
  intro h3 e3
  have x3 := x2.trans e3
  have A3 := A2.ext e3
  have P3 := P2.ext e3
  simp [rd_blk A3, rd_blk P3]
  rw [show (Value.agg #[sv.v, sa.v, st.v]) = netV sv sa st from rfl, show (Value.agg #[sp.v]) = ptV sp from rfl]
  refine may15_spec B.M (r.ext x3) (rl.ext x3) hmax ?_
  intro h4 e4
  have x4 := x3.trans e4
  have A4 := A3.ext e4
  have P4 := P3.ext e4
  by_cases c0 : may15 N L = true
  rotate_left
  · have c0' : may15 N L = false := by simpa using c0
    simp [c0']
    exact hr h4 x4
  by_cases c1 : 300 < s.n
  · have c1' : (300 : Int) < s.n := by omega
    simp [c0, c1, c1']
    exact hr h4 x4
  have c1' : ¬ (300 : Int) < s.n := by omega
  obtain ⟨fw, ok, pk, bv, _⟩ := may15_facts c0
  simp [c0, c1, c1', rd_blk A4, rd_blk P4]
  rw [show (Value.agg #[sv.v, sa.v, st.v]) = netV sv sa st from rfl, show (Value.agg #[sp.v]) = ptV sp from rfl]
  refine made_spec B.X.MF (r.ext x4) fw ok ?_
  intro h5 p S e5 g5 f5
  have x5 := x4.trans e5
  have A5 := A4.ext e5
  have P5 := P4.ext e5
  simp [rd_blk A5, rd_blk P5, netV, ptV]
  rw [show (Value.agg #[sv.v, sa.v, st.v]) = netV sv sa st from rfl, show (Value.agg #[sp.v]) = ptV sp from rfl]
  refine made17_spec B.X (r.ext x5) (rl.ext x5) fw ok pk ?_
  intro h6 op e6 gop fo
  have x6 := x5.trans e6
  have A6 := A5.ext e6
  have P6 := P5.ext e6
  have g6 := g5.ext e6
  simp
  refine to19_spec B.To (q.ext' x6) (by omega) ?_
  intro h7 u e7 ou fu
  have x7 := x6.trans e7
  have A7 := A6.ext e7
  have P7 := P6.ext e7
  have g7 := g6.ext e7
  simp
  refine touched_spec B.TF g7 ok ((fo h6 (Mod.refl _)).ext e7) pk ou.row5 ?_ ?_
  · intro h8 v8 hne e8 hv8
    have x8 := x7.trans e8
    have A8 := A7.ext e8
    have g8 := g7.ext e8
    simp [rd_blk A8]
    rw [show (Value.agg #[sv.v, sa.v, st.v]) = netV sv sa st from rfl]
    refine checkbatch_spec B.R20 (r.ext x8) (q.ext' x8) ?_
    intro h9 wv e9 fw9
    have x9 := x8.trans e9
    obtain ⟨s9, rfl⟩ := fw9.here.shape
    simp
    refine new_store (vs := #[s9.v, .int .i64 (batchW N l).2]) rfl rfl (by simp) ?_
    intro C hCp gC bCp eCp stC
    simp
    refine stC _ ?_
    intro h10 C10 e10
    clear stC bCp eCp
    have x10 := x9.trans e10
    have A10 := (A8.ext e9).ext e10
    simp [rd_blk C10]
    refine tells_spec (ps := (batchW N l).1) (c := (batchW N l).2) B.Tells E (x10.hc hg (fun h => h)) (fw9.here.ext e10) (hv8 h10 ((e9.trans e10).mono fun _ _ h => h.elim)) wr_len.1 wr_len.2 ?_
    intro h11 e11
    have x11 := x10.trans e11
    have A11 := A10.ext e11
    simp [rd_blk A11]
    rw [show (Value.agg #[sv.v, sa.v, st.v]) = netV sv sa st from rfl]
    refine same6s_spec B.GS (g8.ext ((e9.trans e10).trans e11)) ok.small (r.ext x11) ?_
    intro h12 e12
    simp [((C10.ext e11).ext e12).hc, hne]
    exact hr h12 (x11.trans e12)
  · intro h8 up tb bt hz e8 t8
    have x8 := x7.trans e8
    have A8 := A7.ext e8
    have P8 := P7.ext e8
    have g8 := g7.ext e8
    simp [rd_blk A8]
    rw [show (Value.agg #[sv.v, sa.v, st.v]) = netV sv sa st from rfl]
    refine checkbatch_spec B.R20 (r.ext x8) (q.ext' x8) ?_
    intro h9 wv e9 fw9
    have x9 := x8.trans e9
    obtain ⟨s9, rfl⟩ := fw9.here.shape
    simp
    refine new_store (vs := #[s9.v, .int .i64 (batchW N l).2]) rfl rfl (by simp) ?_
    intro C hCp gC bCp eCp stC
    simp
    refine stC _ ?_
    intro h10 C10 e10
    clear stC bCp eCp
    have x10 := x9.trans e10
    have A10 := (A8.ext e9).ext e10
    have P10 := (P8.ext e9).ext e10
    simp [rd_blk C10]
    refine tells_spec (ps := (batchW N l).1) (c := (batchW N l).2) B.Tells E (x10.hc hg (fun h => h)) (fw9.here.ext e10) (by rw [batch_wOK hz]; exact Err.ok) wr_len.1 wr_len.2 ?_
    intro h11 e11
    have x11 := x10.trans e11
    have A11 := A10.ext e11
    have P11 := P10.ext e11
    simp [rd_blk A11]
    rw [show (Value.agg #[sv.v, sa.v, st.v]) = netV sv sa st from rfl]
    refine same6s_spec B.GS (g8.ext ((e9.trans e10).trans e11)) ok.small (r.ext x11) ?_
    intro h12 e12
    have x12 := x11.trans e12
    have A12 := A11.ext e12
    have P12 := P11.ext e12
    simp [((C10.ext e11).ext e12).hc, hz, rd_blk A12, rd_blk P12]
    rw [show (Value.agg #[sv.v, sa.v, st.v]) = netV sv sa st from rfl, show (Value.agg #[sp.v]) = ptV sp from rfl]
    refine rapply_spec B.Ap (r.ext x12) ok (q.ext' x12) hz ?_
    intro h13 t1 t2 t3 e13 r13
    have x13 := x12.trans e13
    simp [rd_blk (A12.ext e13), rd_blk (P12.ext e13), netV, ptV]
    rw [show (Value.agg #[sv.v, sa.v, st.v]) = netV sv sa st from rfl, show (Value.agg #[sp.v]) = ptV sp from rfl, show (Value.agg #[t1.v, t2.v, t3.v]) = netV t1 t2 t3 from rfl]
    refine dtouched_spec B.RT (r.ext x13) (r13 h13 (Mod.refl _)) (rl.ext x13) ok pk (apply_dim ok (fun c hc => batch_one hz hc)) ?_
    intro h14 w e14 rw14
    have x14 := x13.trans e14
    simp
    have rt := (t8.ext (((((e9.trans e10).trans e11).trans e12).trans e13).trans e14)).rows
    have bL := pk.bL
    have eqr : ((List.range L.length).map fun i => mk1 (gateN L i) (touchL N L l i)) = (List.range L.length).map fun i => mk1 (gateN L i) (touchD N (applyN N l) L i) := by
      apply List.map_congr_left
      intro i _
      apply mk1_congr
      intro k _
      exact touch_eq ok hz
    rw [show Value.slice (some ⟨tb, 0, none⟩) L.length L.length = (Sl.at tb L.length L.length).v from rfl]
    refine samerows_spec B.SR B.SB rt rw14 (by simp; omega) (fun i hi => ?_) ?_
    · have hi : i < L.length := by simpa using hi
      rw [nthML_map hi, mk1_len]
      have := (cells_row pk hi).2.2.1
      omega
    rw [eqr]
    simp
    exact hr h14 x14
end
end Go.Rm
