import Derived.Test.YtegflpgpkbffkaaRLaw8e
import Derived.Test.YtegflpgpkbffkaaRLaw8g

/- The laws of walks: WalkPaths. -/
set_option linter.unusedSimpArgs false
set_option linter.unusedVariables false
namespace Go.Rm
section
variable {N : NetD} {s : Int} {L : List Int}
theorem chain_last {l : List Nat} {b : Nat} (h : ChainW N s L l b) : ∃ r, l = r ++ [b] := by
  cases h with
  | one h => exact ⟨[], rfl⟩
  | more _ _ _ => exact ⟨_, rfl⟩
theorem chain_first {l : List Nat} {b : Nat} (h : ChainW N s L l b) : ∃ a r, l = a :: r ∧ (a : Int) = s := by
  induction h with
  | one h => exact ⟨_, _, rfl, h⟩
  | more _ _ _ ih =>
    obtain ⟨a, r, e, h⟩ := ih
    subst e
    exact ⟨a, _, rfl, h⟩
theorem natsI_len {l : List Nat} : (natsI l).length = l.length := by simp [natsI]
theorem natsI_at {l : List Nat} {i : Nat} (hi : i < l.length) : nthI (natsI l) i = (l[i] : Nat) := by
  rw [nthI_at (by rw [natsI_len]; exact hi)]
  simp [natsI]
theorem live_of {N : NetD} {b : Nat} (hb : b < N.as.length) {d : Int} (h : LeastS (FromI N s) (EdW N) b d) (hd : d ≠ 1152921504606846976) : weightV N b ≠ 1152921504606846976 := fun e => hd (shut_least h e)
theorem arcC_w {b : Nat} (hb : b < N.as.length) : arcC N b = weightV N b := by
  rw [arc_w hb]
  simp [arcC]
theorem cost_one {b : Nat} (hb : b < N.as.length) (hw : weightV N b ≠ 1152921504606846976) : costV N [(b : Int)] = 0 := by
  have hv : vtxB N.as.length (b : Int) = true := by simp [vtxB]; omega
  have hk : walkB N [(b : Int)] = true := by
    rw [walkB_iff]
    refine ⟨by simp, fun i hi => ?_⟩
    have : i = 0 := by simpa using hi
    subst this
    have : arcC N (b : Int) ≠ InfI := by rw [arcC_w hb]; exact hw
    simp [stepOk, nthI, hv, this]
  unfold costV
  rw [if_pos hk]
  simp [costTo]
theorem cost_two (ok : NetOK N) {a b : Nat} {w : Int} (ha : a < N.as.length) (hw : weightV N a ≠ 1152921504606846976) (he : EdW N a b w) : costV N [(a : Int), (b : Int)] = w := by
  obtain ⟨h1, h2, h3⟩ := he
  have hb : b < N.as.length := ((from_costs ok (s := 0)).e0 a b w ⟨h1, h2, h3⟩).1
  have hva : vtxB N.as.length (a : Int) = true := by simp [vtxB]; omega
  have hvb : vtxB N.as.length (b : Int) = true := by simp [vtxB]; omega
  have hca : arcC N (a : Int) ≠ InfI := by rw [arcC_w ha]; exact hw
  have hcb : arcC N (b : Int) ≠ InfI := by rw [arcC_w hb]; exact h2
  have hk : walkB N [(a : Int), (b : Int)] = true := by
    rw [walkB_iff]
    refine ⟨by simp, fun i hi => ?_⟩
    simp at hi
    match i, hi with
    | 0, _ => simp [stepOk, nthI, hva, hca]
    | 1, _ => simp [stepOk, nthI, hvb, hcb]; exact h1
    | i + 2, h => omega
  unfold costV
  rw [if_pos hk]
  have ct := (turn_cases ok (a := (a : Int)) (b := (b : Int))).resolve_left h1
  have cw := (arc_cases ok (a := (b : Int))).resolve_left h2
  simp [costTo, nthI]
  rw [arcC_w hb, add_step (x := 0) (by omega) (by omega) ct.1 ct.2 (.inr cw), if_pos (by omega)]
  omega
theorem chain_cost (ok : NetOK N) (hL : ∀ b, b < N.as.length → LeastS (FromI N s) (EdW N) b (nthI L b)) {l : List Nat} {b : Nat} (h : ChainW N s L l b) (hb : b < N.as.length) (hd : nthI L b ≠ 1152921504606846976) : costV N (natsI l) = nthI L b := by
  induction h with
  | one h =>
    rename_i b'
    have hw := live_of hb (hL b' hb) hd
    have := hL b' hb
    rw [← h] at this
    have h0 := least_self ok this
    rw [if_neg hw] at h0
    show costV N [(b' : Int)] = _
    rw [cost_one hb hw, h0]
  | more hc he hs ih =>
    rename_i l' a b' w
    have ce := (from_costs ok (s := s)).e0 a b' w he
    have ha : a < N.as.length := by
      by_cases c : a < N.as.length
      · exact c
      · exfalso
        apply he.1
        unfold turnV
        rw [if_pos]
        · rfl
        · left; simp [vtxB]; omega
    have leb := (hL b' hb).le
    have pa := least_pos ok (hL a ha)
    have hda : nthI L a ≠ 1152921504606846976 := by omega
    have ih := ih ha hda
    obtain ⟨r, hr⟩ := chain_last hc
    have hlen : l'.length = r.length + 1 := by rw [hr]; simp
    have e0 : natsI (l' ++ [b']) = natsI l' ++ [(b' : Int)] := by simp [natsI]
    have e1 : (natsI (l' ++ [b'])).take (r.length + 1) = natsI l' := by
      rw [e0, List.take_append_of_le_length (by rw [natsI_len]; omega), List.take_of_length_le (by rw [natsI_len]; omega)]
    have e2 : (natsI (l' ++ [b'])).drop r.length = [(a : Int), (b' : Int)] := by
      rw [hr]
      simp [natsI]
    rw [cost_parts (k := r.length) (by rw [natsI_len]; simp; omega), e1, e2, ih, cost_two ok ha (live_of ha (hL a ha) hda) he, addI_min pa ce.2.1 (by omega) (by omega), if_pos (by omega)]
    omega
end
section
variable {Y : Sys} {h h' : Heap}
theorem rdist_spec (W : WalkRoads Y) (HD : Y.Has F.rref11_Roads_Dist S_rref11_Roads_Dist) {sv sa st sn sw : Sl} {qn qw : Nat → Sl} {N : NetD} (r : RoadsH h sv sa st sn sw qn qw N) (ok : NetOK N) {s t : Int}
    {R : Value → Heap → Prop} (hr : ∀ h' d, Ext h h' → (∀ b : Nat, t = b → b < N.as.length → LeastS (FromI N s) (EdW N) b d) → (vtxB N.as.length t = false → d = 1152921504606846976) → R (.int .i64 d) h') :
    CallP Y F.rref11_Roads_Dist [roadsV sv sa st sn sw, .int .i64 s, .int .i64 t] h R := by
  have bn := ok.ba
  have la := r.net.ra.len
  refine .of_has HD rfl ?_
  simp [S_rref11_Roads_Dist, FnS.wp, roadsV]
  refine ef_new_box ?_
  intro B hB gB bB eB
  simp [rd_pre3 bB]
  rw [show (Value.agg #[sv.v, sa.v, st.v]) = netV sv sa st from rfl]
  refine there_spec W.X.There la ?_
  intro h2 e2
  have x2 := eB.trans e2
  have B2 := bB.ext e2
  by_cases c0 : vtxB N.as.length t = true
  · simp [c0, rd_blk B2]
    rw [show (Value.agg #[sv.v, sa.v, st.v, sn.v, sw.v]) = roadsV sv sa st sn sw from rfl]
    refine rfrom_spec W.X W.From (r.ext x2) ok ?_
    intro h3 cb L e3 g3 o3 lL hL
    have hv := c0
    simp [vtxB] at c0
    obtain ⟨k, rfl⟩ : ∃ k : Nat, t = k := ⟨t.toNat, by omega⟩
    have lk : k < N.as.length := by omega
    have hiF : ∀ g z, IOp.sem Y g (.idxa 1) [.slice (some ⟨z, 0, none⟩) N.as.length N.as.length, .int .i64 k] = some (.pointer (some ⟨z, k, none⟩)) := fun g z => by
      have := sem_idxF (Y := Y) (h := g) (b := z) (sz := 1) (show N.as.length ≤ 9223372036854775807 by omega) lk (Nat.le_refl N.as.length)
      simpa using this
    have y := o3.row64.val k (by omega)
    simp at y
    have := hr h3 (nthI L k) (x2.trans e3) (fun b hb hlt => by
      have : b = k := by omega
      subst this; exact hL b hlt) (fun h => by rw [hv] at h; cases h)
    simp [hiF, y]
    exact this
  · have c0' : vtxB N.as.length t = false := by simpa using c0
    simp [c0', rd_blk B2]
    refine hr h2 _ x2 (fun b hb hlt => ?_) (fun _ => rfl)
    exfalso
    apply c0
    simp [vtxB]; omega
theorem placeF_absent {a : Int} : ∀ {l : List Int} {k : Nat}, (∀ x ∈ l, x ≠ a) → placeF k l a = -1 := by
  intro l
  induction l with
  | nil => intro k _; rfl
  | cons x r ih =>
    intro k h
    simp only [placeF]
    rw [if_neg (h x (by simp)), ih (fun y hy => h y (by simp [hy]))]
def WqI (p B : Nat) (s t c : Int) (u : Sl) (v0 : Value) (h0 : Heap) (e : List Value) (h' : Heap) : Prop :=
  ∃ (i : Nat) (v4 v9 v10 v11 v12 v13 v14 v15 v16 : Value), e = [v0, .int .i64 s, .int .i64 t, .pointer (some ⟨B, 0, none⟩), v4, .pointer (some ⟨p, 0, none⟩), u.v, .int .i64 c, .int .i64 i, v9, v10, v11, v12, v13, v14, v15, v16] ∧ i ≤ u.n ∧ h' = h0
set_option maxHeartbeats 2000000 in
theorem walkpaths_law (L : WalkLaw Y) (W : WalkRoads Y) (HD : Y.Has F.rref11_Roads_Dist S_rref11_Roads_Dist) (RN : RefNet2 Y) (RW : RefWalk Y) (H : Y.Has F.rlaw8_WalkPaths S_rlaw8_WalkPaths) {sv sa st : Sl} {N : NetD} (r : NetH h sv sa st N) {s t : Int}
    {R : Value → Heap → Prop} (hr : ∀ h', Ext h h' → R (.bool true) h') : CallP Y F.rlaw8_WalkPaths [netV sv sa st, .int .i64 s, .int .i64 t] h R := by
  have la := r.ra.len
  refine .of_has H rfl ?_
  simp [S_rlaw8_WalkPaths, FnS.wp, netV]
  refine ef_new_box ?_
  intro B h1 g1 B1 e1
  simp
  refine wknown_spec L.K ?_
  intro h2 e2
  have x2 := e1.trans e2
  have B2 := B1.ext e2
  simp [rd_blk B2]
  refine wsmall_spec L (r.ext x2) ?_
  intro h3 e3
  have x3 := x2.trans e3
  have B3 := B2.ext e3
  by_cases c0 : smallD N = true
  rotate_left
  · have c0' : smallD N = false := by simpa using c0
    simp [c0']
    exact hr h3 x3
  simp [c0, rd_blk B3]
  refine made_spec L.K (r.ext x3) (small_may c0) ?_
  intro h4 p S e4 ok g f
  have x4 := x3.trans e4
  have B4 := B3.ext e4
  have bn := ok.ba
  simp [rd_blk B4]
  refine wpath_spec L.K.X g ok ?_
  intro h5 u X l c e5 ou lX hX hc
  have x5 := x4.trans e5
  have B5 := B4.ext e5
  simp [rd_blk B5]
  rw [show (Value.agg #[sv.v, sa.v, st.v]) = netV sv sa st from rfl]
  refine rof_spec W.O (r.ext x5) ok ?_
  intro h6 sn sw qn qw e6 q6
  have x6 := x5.trans e6
  simp
  refine rdist_spec W HD q6 ok ?_
  intro h7 d e7 d1 d2
  have x7 := x6.trans e7
  have hcd : c = d := by
    rcases hc with ⟨c1, c2, c3⟩ | ⟨b, c1, c2, c3, c4, _⟩
    · cases q : vtxB N.as.length t with
      | false => rw [d2 q]; exact c1
      | true =>
        simp [vtxB] at q
        have hb : t = (t.toNat : Nat) := by omega
        have h1 := (d1 _ hb (by omega)).uniq (hX t.toNat (by omega))
        rw [c3 _ hb (by omega)] at h1
        omega
    · rw [c3]
      exact ((d1 b c1 c2).uniq (hX b c2)).symm
  subst hcd
  have ou7 := (ou.ext' e6).ext' e7
  have lu := ou7.row64.len
  rw [natsI_len] at lu
  rcases hc with ⟨rfl, rfl, _⟩ | ⟨b, rfl, lb, hcb, cInf, pk⟩
  · have un : u.n = 0 := by simpa using lu.symm
    simp [un]
    exact hr h7 x7
  obtain ⟨⟨b', hb', _, hne, ch⟩, nd, lt⟩ := pk
  have : b' = b := by omega
  subst this
  have g7 := (g.ext e5).ext (e6.trans e7)
  have B7 := B5.ext (e6.trans e7)
  have hcost := chain_cost ok hX ch lb hne
  obtain ⟨a, r1, hl1, ha⟩ := chain_first ch
  obtain ⟨r2, hl2⟩ := chain_last ch
  have l1 : l.length = r1.length + 1 := by rw [hl1]; simp
  have l2 : l.length = r2.length + 1 := by rw [hl2]; simp
  have llen : l.length ≤ N.as.length := nodup_len nd lt
  have un : u.n ≠ 0 := by omega
  have un0 : ¬ (u.n : Int) = 0 := by omega
  have f0 := ou7.row64.val 0 (by rw [natsI_len]; omega)
  have f1 := ou7.row64.val r2.length (by rw [natsI_len]; omega)
  have n0 : nthI (natsI l) 0 = s := by rw [natsI_at (by omega)]; simp [hl1]; omega
  have n1 : nthI (natsI l) r2.length = (b' : Int) := by rw [natsI_at (by omega)]; simp [hl2]
  rw [n0] at f0
  rw [n1] at f1
  simp at f0
  have ws : IntKind.i64.wrap ((u.n : Int) - 1) = (r2.length : Nat) := by rw [i64_wrap (by omega)]; omega
  have lt0 : (0 : Int) < u.n := by omega
  have lt0' : 0 < u.n := by omega
  have lt1 : ((r2.length : Nat) : Int) < u.n := by omega
  simp [cInf, un, un0, sem_idxa ou7.ok, lt0, lt0', f0, ws, lt1, f1, rd_blk B7]
  rw [show (Value.agg #[sv.v, sa.v, st.v]) = netV sv sa st from rfl]
  refine rcost_spec RN RW W.O.T W.X.C (r.ext x7) ou7.row64 (by omega) ok ?_
  intro h8 e8
  have x8 := x7.trans e8
  have ou8 := ou7.ext' e8
  simp [hcost, ← hcb]
  refine wcost_spec L.K.X (g7.ext e8) ok ou8.row64 (by rw [natsI_len]; omega) ?_
  intro h9 e9
  have x9 := x8.trans e9
  have ou9 := ou8.ext' e9
  simp [hcost, ← hcb]
  refine wp_loop' (WqI p B s b' c u (netV sv sa st) h9) (fun e _ => u.n - argI e 8) ⟨0, _, _, _, _, _, _, _, _, _, rfl, by omega, rfl⟩ ?_
  rintro e h10 ⟨i, v4, v9, v10, v11, v12, v13, v14, v15, v16, rfl, hi, rfl⟩
  by_cases k : i < u.n
  · have k' : (i : Int) < u.n := by omega
    have w1 : IntKind.i64.wrap ((i : Int) + 1) = (i : Int) + 1 := i64_wrap (by omega)
    have le := ou9.ok.le
    have hs := sem_slc_hi (Y := Y) (h := h10) (sz := 1) (k := .i64) (j := (i : Int)) ou9.ok (by omega) (by omega)
    have vi := ou9.row64.val i (by rw [natsI_len]; omega)
    simp at hs
    simp [k, k', hs, sem_idxa ou9.ok, vi]
    refine rplace_spec RN.Place (ou9.row64.take (j := i) (by omega)) (by simp; omega) ?_
    have hp : placeF 0 ((natsI l).take i) (nthI (natsI l) i) = -1 := by
      refine placeF_absent fun x hx e => ?_
      obtain ⟨j, hj, ej⟩ := mem_pos hx
      simp [natsI_len] at hj
      rw [nthI_take (by omega), e] at ej
      rw [natsI_at (by omega), natsI_at (by omega)] at ej
      have : l[j] = l[i] := by omega
      have := (List.getElem_inj nd).1 this
      omega
    rw [hp]
    simp [w1]
    exact ⟨⟨i + 1, _, _, _, _, _, _, _, _, _, rfl, by omega, rfl⟩, by simp [argI]; omega⟩
  · have k' : ¬ (i : Int) < u.n := by omega
    simp [k, k']
    exact hr h10 x9
end
end Go.Rm
