import Derived.Test.YtegflpgpkbffkaaRWalk10

/- The laws of walks: WalkTells. -/
set_option linter.unusedSimpArgs false
set_option linter.unusedVariables false
namespace Go.Rm
structure WalkRoads (Y : Sys) : Prop where
  O : OfFns Y
  X : RoFns Y
  From : Y.Has F.rref11_Roads_From S_rref11_Roads_From
  To : Y.Has F.rref11_Roads_To S_rref11_Roads_To
section
variable {Y : Sys} {h h' : Heap}
def WtI (p B D c6 c7 n : Nat) (s : Int) (v0 : Value) (h0 : Heap) (e : List Value) (h' : Heap) : Prop :=
  ∃ (i : Nat) (v3 v9 v10 v11 v12 v13 v14 : Value), e = [v0, .int .i64 s, .pointer (some ⟨B, 0, none⟩), v3, .pointer (some ⟨p, 0, none⟩), .pointer (some ⟨D, 0, none⟩), .slice (some ⟨c6, 0, none⟩) n n, .slice (some ⟨c7, 0, none⟩) n n, .int .i64 i, v9, v10, v11, v12, v13, v14] ∧ i ≤ n ∧ h' = h0
theorem least_list {n : Nat} {I : Nat → Int → Prop} {E : Nat → Nat → Int → Prop} {L L' : List Int} (l1 : L.length = n) (l2 : L'.length = n) (h1 : ∀ b, b < n → LeastS I E b (nthI L b)) (h2 : ∀ b, b < n → LeastS I E b (nthI L' b)) : L = L' := by
  apply List.ext_getElem (by omega)
  intro j a1 a2
  have hj : j < n := by omega
  have := (h1 j hj).uniq (h2 j hj)
  rw [nthI_at a1, nthI_at a2] at this
  exact this
set_option maxHeartbeats 2000000 in
theorem walktells_law (L : WalkLaw Y) (W : WalkRoads Y) (H : Y.Has F.rlaw8_WalkTells S_rlaw8_WalkTells) {sv sa st : Sl} {N : NetD} (r : NetH h sv sa st N) {s : Int}
    {R : Value → Heap → Prop} (hr : ∀ h', Ext h h' → R (.bool true) h') : CallP Y F.rlaw8_WalkTells [netV sv sa st, .int .i64 s] h R := by
  have la := r.ra.len
  refine .of_has H rfl ?_
  simp [S_rlaw8_WalkTells, FnS.wp, netV]
  refine ef_new_box ?_
  intro B h1 g1 B1 e1
  simp
  refine wknown_spec L.K ?_
  intro h2 e2
  have x2 := e1.trans e2
  have B2 := B1.ext e2
  simp [rd_blk B2]
  refine wsmall_spec L (r.ext x2) ?_
  intro h3 e3
  have x3 := x2.trans e3
  have B3 := B2.ext e3
  by_cases c0 : smallD N = true
  rotate_left
  · have c0' : smallD N = false := by simpa using c0
    simp [c0']
    exact hr h3 x3
  simp [c0, rd_blk B3]
  refine made_spec L.K (r.ext x3) (small_may c0) ?_
  intro h4 p S e4 ok g f
  have x4 := x3.trans e4
  have B4 := B3.ext e4
  have bn := ok.ba
  simp [rd_blk B4]
  rw [show (Value.agg #[sv.v, sa.v, st.v]) = netV sv sa st from rfl]
  refine rof_spec W.O (r.ext x4) ok ?_
  intro h5 sn sw qn qw e5 q5
  have x5 := x4.trans e5
  simp [roadsV]
  refine new_store (vs := #[sv.v, sa.v, st.v, sn.v, sw.v]) rfl rfl (by simp) ?_
  intro D hDp gD bDp eDp stD
  simp
  refine stD _ ?_
  intro h6 bD e6
  clear stD bDp eDp
  have x6 := x5.trans e6
  have g6 := g.ext (e5.trans e6)
  have q6 := q5.ext e6
  simp [rd_blk bD]
  rw [show (Value.agg #[sv.v, sa.v, st.v, sn.v, sw.v]) = roadsV sv sa st sn sw from rfl]
  refine rfrom_spec W.X W.From q6 ok ?_
  intro h7 cb1 X1 e7 gg7 o7 lX1 hX1
  have x7 := x6.trans e7
  have g7 := g6.ext e7
  simp
  refine wreach_spec L.K.X g7 ok ?_
  intro h8 cb2 X2 m e8 gg8 o8 lX2 hX2 lm hm
  have x8 := x7.trans e8
  have g8 := g7.ext e8
  simp
  refine wfrom_spec L.K.X g8 ok ?_
  intro h9 cb3 X3 e9 gg9 o9 lX3 hX3
  have x9 := x8.trans e9
  have g9 := g8.ext e9
  obtain rfl := least_list lX2 lX1 hX2 hX1
  obtain rfl := least_list lX3 lX1 hX3 hX1
  have o79 := (o7.ext' e8).ext' e9
  simp
  refine samecosts_spec L.K.SC (s := Sl.at cb3 N.as.length N.as.length) (t := Sl.at cb1 N.as.length N.as.length) o9.row64 o79.row64 (by omega) ?_
  have bD9 := bD.ext ((e7.trans e8).trans e9)
  simp [rd_blk bD9]
  refine wto_spec L.K.X.W L.K.X.To g9 ok ?_
  intro h10 cb4 X4 e10 gg10 o10 lX4 hX4
  have x10 := x9.trans e10
  have bD10 := bD.ext (((e7.trans e8).trans e9).trans e10)
  have q10 := q6.ext (((e7.trans e8).trans e9).trans e10)
  simp [rd_blk bD10]
  rw [show (Value.agg #[sv.v, sa.v, st.v, sn.v, sw.v]) = roadsV sv sa st sn sw from rfl]
  refine rto_spec W.X W.To q10 ok ?_
  intro h11 cb5 X5 e11 gg11 o11 lX5 hX5
  have x11 := x10.trans e11
  obtain rfl := least_list lX5 lX4 hX5 hX4
  simp
  refine samecosts_spec L.K.SC (s := Sl.at cb4 N.as.length N.as.length) (t := Sl.at cb5 N.as.length N.as.length) (o10.ext' e11).row64 o11.row64 (by omega) ?_
  have o7b := (o79.ext' e10).ext' e11
  have o8b := ((o8.ext' e9).ext' e10).ext' e11
  simp
  refine wp_loop' (WtI p B D cb1 cb2 N.as.length s (.agg #[sv.v, sa.v, st.v]) h11) (fun e _ => N.as.length - argI e 8) ⟨0, _, _, _, _, _, _, _, rfl, by omega, rfl⟩ ?_
  rintro e h12 ⟨i, v3, v9, v10, v11, v12, v13, v14, rfl, hi, rfl⟩
  by_cases c : i < N.as.length
  · have c' : (i : Int) < N.as.length := by omega
    have w1 : IntKind.i64.wrap ((i : Int) + 1) = (i : Int) + 1 := i64_wrap (by omega)
    have hiF : ∀ g z, IOp.sem Y g (.idxa 1) [.slice (some ⟨z, 0, none⟩) N.as.length N.as.length, .int .i64 i] = some (.pointer (some ⟨z, i, none⟩)) := fun g z => by
      have := sem_idxF (Y := Y) (h := g) (b := z) (sz := 1) (show N.as.length ≤ 9223372036854775807 by omega) c (Nat.le_refl N.as.length)
      simpa using this
    have y1 := o7b.row64.val i (by omega)
    have li : i < m.length := by omega
    have y3 := hm i c
    have y2 := o8b.cell (i := i) (v := .bool (nthM m i)) (by simp [boolsM, nthM, List.getElem?_eq_getElem, li])
    have le := (hX1 i c).le
    rw [y3] at y2
    simp at y1 y2
    by_cases k : nthI X3 i = 1152921504606846976
    · simp [k] at y1 y2
      simp [c, c', hiF, y1, y2, w1]
      exact ⟨⟨i + 1, _, _, _, _, _, _, _, rfl, by omega, rfl⟩, by simp [argI]; omega⟩
    · have k' : nthI X3 i < 1152921504606846976 := by omega
      simp [k] at y2
      simp [c, c', hiF, y1, y2, k', w1]
      exact ⟨⟨i + 1, _, _, _, _, _, _, _, rfl, by omega, rfl⟩, by simp [argI]; omega⟩
  · have c' : ¬ (i : Int) < N.as.length := by omega
    simp [c, c']
    exact hr h12 x11
end
end Go.Rm
