import Derived.Test.YtojpokpdfbgelaaDoorRHeap
import Derived.Test.YtojpokpdfbgelaaDoorRNet

/- Package net: arc, Ins, Outs, bend, Turn. -/
set_option linter.unusedSimpArgs false
set_option linter.unusedVariables false
namespace Go.Rm

/-- the numbers of the arcs that are so -/
def idxF (p : Tri → Bool) : Nat → List Tri → List Int
  | _, [] => []
  | k, t :: r => if p t then (k : Int) :: idxF p (k + 1) r else idxF p (k + 1) r
theorem idxF_app {p : Tri → Bool} {a b : List Tri} : ∀ {k : Nat}, idxF p k (a ++ b) = idxF p k a ++ idxF p (k + a.length) b := by
  induction a with
  | nil => intro k; rfl
  | cons t r ih =>
    intro k
    have e : k + 1 + r.length = k + (t :: r).length := by simp; omega
    rw [List.cons_append, idxF, idxF, ih, e]
    split <;> rfl
theorem idxF_snoc {p : Tri → Bool} {l : List Tri} {i : Nat} (hi : i < l.length) : idxF p 0 (l.take (i + 1)) = idxF p 0 (l.take i) ++ if p (nthT l i) then [(i : Int)] else [] := by
  rw [List.take_succ_eq_append_getElem hi, idxF_app, nthT_eq hi]
  congr 1
  simp [idxF, List.length_take, Nat.min_eq_left (Nat.le_of_lt hi)]
theorem idxF_len {p : Tri → Bool} {l : List Tri} : ∀ {k : Nat}, (idxF p k l).length = (l.filter p).length := by
  induction l with
  | nil => intro k; rfl
  | cons t r ih =>
    intro k
    rw [idxF]
    by_cases c : p t = true
    · simp [c, ih]
    · simp [c, ih]
def insO (as : List Tri) (v : Int) : List Int := idxF (fun t => decide (t.b = v)) 0 as
def outsO (as : List Tri) (v : Int) : List Int := idxF (fun t => decide (t.a = v)) 0 as
def InfI : Int := 1152921504606846976
/-- what it costs to turn, of places that are told -/
def bendV (N : NetD) (a b i o : Int) : Int :=
  let v := (nthT N.as a.toNat).b
  if v ≠ (nthT N.as b.toNat).a ∨ vtxB N.vs.length v = false then InfI
  else
    let t := (nthT N.vs v.toNat).c
    if vtxB N.ts.length t = false then InfI else atV (nthB N.ts t.toNat).i (nthB N.ts t.toNat).o (nthB N.ts t.toNat).cs i o
def cntB (as : List Tri) (a : Nat) (n : Nat) : Nat := ((as.take n).filter fun t => decide (t.b = (nthT as a).b)).length
def cntA (as : List Tri) (a : Nat) (n : Nat) : Nat := ((as.take n).filter fun t => decide (t.a = (nthT as a).a)).length
theorem cntB_succ {as : List Tri} {a n : Nat} (hn : n < as.length) : cntB as a (n + 1) = cntB as a n + if (nthT as n).b = (nthT as a).b then 1 else 0 := by
  unfold cntB
  rw [List.take_succ_eq_append_getElem hn, nthT_eq hn, List.filter_append, List.length_append]
  congr 1
  by_cases c : as[n].b = (nthT as a).b <;> simp [c]
theorem cntA_succ {as : List Tri} {a n : Nat} (hn : n < as.length) : cntA as a (n + 1) = cntA as a n + if (nthT as n).a = (nthT as a).a then 1 else 0 := by
  unfold cntA
  rw [List.take_succ_eq_append_getElem hn, nthT_eq hn, List.filter_append, List.length_append]
  congr 1
  by_cases c : as[n].a = (nthT as a).a <;> simp [c]
theorem cntB_le {as : List Tri} {a n : Nat} : cntB as a n ≤ as.length := Nat.le_trans (List.length_filter_le ..) (by simp; omega)
theorem cntA_le {as : List Tri} {a n : Nat} : cntA as a n ≤ as.length := Nat.le_trans (List.length_filter_le ..) (by simp; omega)
/-- what it costs to turn from an arc into another one -/
def turnV (N : NetD) (a b : Int) : Int :=
  if vtxB N.as.length a = false ∨ vtxB N.as.length b = false then InfI
  else bendV N a b (cntB N.as a.toNat a.toNat) (cntA N.as b.toNat b.toNat)

structure NetFns2 (Y : Sys) : Prop where
  arc : Y.Has F.net_arc S_net_arc
  vertex : Y.Has F.net_vertex S_net_vertex
  Ins : Y.Has F.net_Ins S_net_Ins
  Outs : Y.Has F.net_Outs S_net_Outs
  bend : Y.Has F.net_bend S_net_bend
  Turn : Y.Has F.net_Turn S_net_Turn
  places : Y.Has F.net_places S_net_places
  over : Y.Has F.net_over S_net_over
  Walk : Y.Has F.net_Walk S_net_Walk
  Cost : Y.Has F.net_Cost S_net_Cost

section
variable {Y : Sys} {h : Heap}

theorem narc_spec (H : Y.Has F.net_arc S_net_arc) {sv sa st : Sl} {N : NetD} (la : N.as.length = sa.n) {v : Int} {R : Value → Heap → Prop} (hr : ∀ h', Ext h h' → R (.bool (vtxB N.as.length v)) h') : CallP Y F.net_arc [netV sv sa st, .int .i64 v] h R := by
  refine .of_has H rfl ?_
  simp [S_net_arc, FnS.wp, netV]
  refine ef_new_box ?_
  intro B hB gB bB eB
  have cB : ∀ g, Ext g h → Ext g hB := fun g e => Mod.trans e eB
  rw [la] at hr
  by_cases c : 0 ≤ v
  · have : vtxB sa.n v = decide (v < sa.n) := by simp [vtxB, c]
    rw [this] at hr
    simp (config := { maxDischargeDepth := 60 }) [cB, bB.sk, bB.rk, c]
    exact hr _ eB
  · have : vtxB sa.n v = false := by simp [vtxB, c]
    rw [this] at hr
    simp (config := { maxDischargeDepth := 60 }) [cB, bB.sk, bB.rk, c]
    exact hr _ eB

def NInsI (v0 : Value) (B : Nat) (v : Int) (sa : Sl) (as : List Tri) (h0 : Heap) (e : List Value) (h' : Heap) : Prop :=
  ∃ (i : Nat) (s : Sl) (v5 v6 v7 v11 v12 : Value), e = [v0, .int .i64 v, .pointer (some ⟨B, 0, none⟩), .slice none 0 0, s.v, v5, v6, v7, sa.v, .int .i64 sa.n, .int .i64 i, v11, v12] ∧ i ≤ sa.n ∧ Own h' 1 s (ints64 (insO (as.take i) v)) ∧ (s.nl = true ∨ h0.size ≤ s.b) ∧ Ext h0 h'

theorem nins_spec (NF : NetFns2 Y) {sv sa st : Sl} {N : NetD} (r : NetH h sv sa st N) (ba : N.as.length ≤ 16384) {v : Int} {R : Value → Heap → Prop}
    (hr : ∀ h' s, Ext h h' → Own h' 1 s (ints64 (if vtxB N.vs.length v then insO N.as v else [])) → (s.nl = true ∨ h.size ≤ s.b) → R s.v h') : CallP Y F.net_Ins [netV sv sa st, .int .i64 v] h R := by
  have lv := r.rv.len
  have la := r.ra.len
  refine .of_has NF.Ins rfl ?_
  simp [S_net_Ins, FnS.wp, netV]
  refine ef_new_box ?_
  intro B hB gB bB eB
  have cB : ∀ g, Ext g h → Ext g hB := fun g e => Mod.trans e eB
  simp (config := { maxDischargeDepth := 60 }) [cB, bB.sk, bB.rk]
  refine vertex_spec NF.vertex lv ?_
  intro h1 e1
  have c_h1 : ∀ g, Ext g hB → Ext g h1 := fun g e => Mod.trans e e1
  by_cases c1 : vtxB N.vs.length v = true
  rotate_left
  · simp only [c1] at hr
    simp (config := { maxDischargeDepth := 60 }) [cB, bB.sk, bB.rk, c_h1, c1]
    exact hr h1 Sl.nil (eB.trans e1) Own.nil (.inl rfl)
  rw [if_pos c1] at hr
  simp (config := { maxDischargeDepth := 60 }) [cB, bB.sk, bB.rk, c_h1, c1]
  refine wp_loop' (NInsI (netV sv sa st) B v sa N.as h1) (fun e _ => sa.n - argI e 10) ⟨0, Sl.nil, _, _, _, _, _, rfl, by omega, Own.nil, .inl rfl, Mod.refl _⟩ ?_
  rintro e h2 ⟨i, s, v5, v6, v7, v11, v12, rfl, hi, o2, hs2, x2⟩
  have c_h2 : ∀ g, Ext g h1 → Ext g h2 := fun g e => Mod.trans e x2
  have rA := r.ra
  by_cases c : i < sa.n
  · have c' : (i : Int) < sa.n := by omega
    have ci : i < N.as.length := by omega
    have w1 : IntKind.i64.wrap ((i : Int) + 1) = (i : Int) + 1 := i64_wrap (by omega)
    simp (config := { maxDischargeDepth := 60 }) [cB, bB.sk, bB.rk, c_h1, c_h2, c', ci, w1, sem_idxa r.ra.ok, r.ra.s0, r.ra.s1, r.ra.s2, r.ra.sr]
    refine new_store (vs := #[.int .i64 (nthT N.as i).a, .int .i64 (nthT N.as i).b, .int .i64 (nthT N.as i).c]) rfl rfl (by simp) ?_
    intro C hCp gC bCp eCp stC
    have cCp : ∀ g, Ext g h2 → Ext g hCp := fun g e => Mod.trans e eCp
    simp (config := { maxDischargeDepth := 60 }) [cB, bB.sk, bB.rk, c_h1, c_h2, c', ci, w1, sem_idxa r.ra.ok, r.ra.s0, r.ra.s1, r.ra.s2, r.ra.sr, cCp]
    refine stC _ ?_
    intro hC bC eC
    clear cCp stC bCp eCp
    have cC : ∀ g, Ext g h2 → Ext g hC := fun g e => Mod.trans e eC
    have sn := idxF_snoc (p := fun t => decide (t.b = v)) ci
    have x3 := Mod.trans x2 eC
    have nS : s.n ≤ i := by
      have := o2.1
      rw [ints64_len, insO, idxF_len, Nat.mul_one] at this
      have := List.length_filter_le (fun t : Tri => decide (t.b = v)) (N.as.take i)
      simp at this; omega
    by_cases q : (nthT N.as i).b = v
    · have q' : ((nthT N.as i).b = v) = True := by simp [q]
      simp only [q', decide_true, if_true] at sn
      simp (config := { maxDischargeDepth := 60 }) [cB, bB.sk, bB.rk, c_h1, c_h2, c', ci, w1, sem_idxa r.ra.ok, r.ra.s0, r.ra.s1, r.ra.s2, r.ra.sr, cC, bC.sk, bC.rk, q', ef_bslice1_int]
      intro t
      have o3 := o2.mod eC (fun _ h => h)
      refine ef_append1 rfl o3 (by omega) (by omega) ?_
      intro s' h3 o4 hn4 m4 hs4
      have x4 : Ext h1 h3 := Mod.ext x3 m4 (fun j hj => by have := hs2.resolve_left (by rw [hj.1]; simp); omega)
      rw [show ints64 (insO (N.as.take i) v) ++ [Value.int .i64 i] = ints64 (insO (N.as.take (i + 1)) v) by rw [insO, insO, sn]; simp [ints64]] at o4
      simp [w1]
      refine ⟨⟨i + 1, s', _, _, _, _, _, rfl, by omega, o4, ?_, x4⟩, by simp [argI]; omega⟩
      have := x3.size
      rcases hs4 with ⟨q1, q2⟩ | ⟨q1, q2⟩
      · rw [q1, q2]; exact hs2
      · exact .inr (by omega)
    · have q' : ((nthT N.as i).b = v) = False := by simp [q]
      simp only [q', decide_false, Bool.false_eq_true, if_false, List.append_nil] at sn
      simp (config := { maxDischargeDepth := 60 }) [cB, bB.sk, bB.rk, c_h1, c_h2, c', ci, w1, sem_idxa r.ra.ok, r.ra.s0, r.ra.s1, r.ra.s2, r.ra.sr, cC, bC.sk, bC.rk, q']
      refine ⟨⟨i + 1, s, _, _, _, _, _, rfl, by omega, ?_, hs2, x3⟩, by simp [argI]; omega⟩
      have o3 := o2.mod eC (fun _ h => h)
      rw [insO, ← sn] at o3
      exact o3
  have c' : ¬ (i : Int) < sa.n := by omega
  rw [List.take_of_length_le (by omega)] at o2
  simp [c']
  refine hr h2 s ((eB.trans e1).trans x2) o2 (hs2.imp_right fun q => ?_)
  have := (eB.trans e1).size
  omega
def NOutsI (v0 : Value) (B : Nat) (v : Int) (sa : Sl) (as : List Tri) (h0 : Heap) (e : List Value) (h' : Heap) : Prop :=
  ∃ (i : Nat) (s : Sl) (v5 v6 v7 v11 v12 : Value), e = [v0, .int .i64 v, .pointer (some ⟨B, 0, none⟩), .slice none 0 0, s.v, v5, v6, v7, sa.v, .int .i64 sa.n, .int .i64 i, v11, v12] ∧ i ≤ sa.n ∧ Own h' 1 s (ints64 (outsO (as.take i) v)) ∧ (s.nl = true ∨ h0.size ≤ s.b) ∧ Ext h0 h'

theorem nouts_spec (NF : NetFns2 Y) {sv sa st : Sl} {N : NetD} (r : NetH h sv sa st N) (ba : N.as.length ≤ 16384) {v : Int} {R : Value → Heap → Prop}
    (hr : ∀ h' s, Ext h h' → Own h' 1 s (ints64 (if vtxB N.vs.length v then outsO N.as v else [])) → (s.nl = true ∨ h.size ≤ s.b) → R s.v h') : CallP Y F.net_Outs [netV sv sa st, .int .i64 v] h R := by
  have lv := r.rv.len
  have la := r.ra.len
  refine .of_has NF.Outs rfl ?_
  simp [S_net_Outs, FnS.wp, netV]
  refine ef_new_box ?_
  intro B hB gB bB eB
  have cB : ∀ g, Ext g h → Ext g hB := fun g e => Mod.trans e eB
  simp (config := { maxDischargeDepth := 60 }) [cB, bB.sk, bB.rk]
  refine vertex_spec NF.vertex lv ?_
  intro h1 e1
  have c_h1 : ∀ g, Ext g hB → Ext g h1 := fun g e => Mod.trans e e1
  by_cases c1 : vtxB N.vs.length v = true
  rotate_left
  · simp only [c1] at hr
    simp (config := { maxDischargeDepth := 60 }) [cB, bB.sk, bB.rk, c_h1, c1]
    exact hr h1 Sl.nil (eB.trans e1) Own.nil (.inl rfl)
  rw [if_pos c1] at hr
  simp (config := { maxDischargeDepth := 60 }) [cB, bB.sk, bB.rk, c_h1, c1]
  refine wp_loop' (NOutsI (netV sv sa st) B v sa N.as h1) (fun e _ => sa.n - argI e 10) ⟨0, Sl.nil, _, _, _, _, _, rfl, by omega, Own.nil, .inl rfl, Mod.refl _⟩ ?_
  rintro e h2 ⟨i, s, v5, v6, v7, v11, v12, rfl, hi, o2, hs2, x2⟩
  have c_h2 : ∀ g, Ext g h1 → Ext g h2 := fun g e => Mod.trans e x2
  have rA := r.ra
  by_cases c : i < sa.n
  · have c' : (i : Int) < sa.n := by omega
    have ci : i < N.as.length := by omega
    have w1 : IntKind.i64.wrap ((i : Int) + 1) = (i : Int) + 1 := i64_wrap (by omega)
    simp (config := { maxDischargeDepth := 60 }) [cB, bB.sk, bB.rk, c_h1, c_h2, c', ci, w1, sem_idxa r.ra.ok, r.ra.s0, r.ra.s1, r.ra.s2, r.ra.sr]
    refine new_store (vs := #[.int .i64 (nthT N.as i).a, .int .i64 (nthT N.as i).b, .int .i64 (nthT N.as i).c]) rfl rfl (by simp) ?_
    intro C hCp gC bCp eCp stC
    have cCp : ∀ g, Ext g h2 → Ext g hCp := fun g e => Mod.trans e eCp
    simp (config := { maxDischargeDepth := 60 }) [cB, bB.sk, bB.rk, c_h1, c_h2, c', ci, w1, sem_idxa r.ra.ok, r.ra.s0, r.ra.s1, r.ra.s2, r.ra.sr, cCp]
    refine stC _ ?_
    intro hC bC eC
    clear cCp stC bCp eCp
    have cC : ∀ g, Ext g h2 → Ext g hC := fun g e => Mod.trans e eC
    have sn := idxF_snoc (p := fun t => decide (t.a = v)) ci
    have x3 := Mod.trans x2 eC
    have nS : s.n ≤ i := by
      have := o2.1
      rw [ints64_len, outsO, idxF_len, Nat.mul_one] at this
      have := List.length_filter_le (fun t : Tri => decide (t.a = v)) (N.as.take i)
      simp at this; omega
    by_cases q : (nthT N.as i).a = v
    · have q' : ((nthT N.as i).a = v) = True := by simp [q]
      simp only [q', decide_true, if_true] at sn
      simp (config := { maxDischargeDepth := 60 }) [cB, bB.sk, bB.rk, c_h1, c_h2, c', ci, w1, sem_idxa r.ra.ok, r.ra.s0, r.ra.s1, r.ra.s2, r.ra.sr, cC, bC.sk, bC.rk, q', ef_bslice1_int]
      intro t
      have o3 := o2.mod eC (fun _ h => h)
      refine ef_append1 rfl o3 (by omega) (by omega) ?_
      intro s' h3 o4 hn4 m4 hs4
      have x4 : Ext h1 h3 := Mod.ext x3 m4 (fun j hj => by have := hs2.resolve_left (by rw [hj.1]; simp); omega)
      rw [show ints64 (outsO (N.as.take i) v) ++ [Value.int .i64 i] = ints64 (outsO (N.as.take (i + 1)) v) by rw [outsO, outsO, sn]; simp [ints64]] at o4
      simp [w1]
      refine ⟨⟨i + 1, s', _, _, _, _, _, rfl, by omega, o4, ?_, x4⟩, by simp [argI]; omega⟩
      have := x3.size
      rcases hs4 with ⟨q1, q2⟩ | ⟨q1, q2⟩
      · rw [q1, q2]; exact hs2
      · exact .inr (by omega)
    · have q' : ((nthT N.as i).a = v) = False := by simp [q]
      simp only [q', decide_false, Bool.false_eq_true, if_false, List.append_nil] at sn
      simp (config := { maxDischargeDepth := 60 }) [cB, bB.sk, bB.rk, c_h1, c_h2, c', ci, w1, sem_idxa r.ra.ok, r.ra.s0, r.ra.s1, r.ra.s2, r.ra.sr, cC, bC.sk, bC.rk, q']
      refine ⟨⟨i + 1, s, _, _, _, _, _, rfl, by omega, ?_, hs2, x3⟩, by simp [argI]; omega⟩
      have o3 := o2.mod eC (fun _ h => h)
      rw [outsO, ← sn] at o3
      exact o3
  have c' : ¬ (i : Int) < sa.n := by omega
  rw [List.take_of_length_le (by omega)] at o2
  simp [c']
  refine hr h2 s ((eB.trans e1).trans x2) o2 (hs2.imp_right fun q => ?_)
  have := (eB.trans e1).size
  omega

theorem nbend_spec (NF : NetFns2 Y) (T : TurnFns Y) {sv sa st : Sl} {N : NetD} (r : NetH h sv sa st N) {a b : Nat} (ha : a < N.as.length) (hb : b < N.as.length) {i o : Int} {R : Value → Heap → Prop}
    (hr : ∀ h', Ext h h' → R (.int .i64 (bendV N a b i o)) h') : CallP Y F.net_bend [netV sv sa st, .int .i64 a, .int .i64 b, .int .i64 i, .int .i64 o] h R := by
  have lv := r.rv.len
  have la := r.ra.len
  have lt := r.rt.len
  have ha' : (a : Int) < sa.n := by omega
  have hb' : (b : Int) < sa.n := by omega
  have hx : bendV N a b i o = if (nthT N.as a).b ≠ (nthT N.as b).a ∨ vtxB N.vs.length (nthT N.as a).b = false then InfI else
      if vtxB N.ts.length (nthT N.vs (nthT N.as a).b.toNat).c = false then InfI else
        atV (nthB N.ts (nthT N.vs (nthT N.as a).b.toNat).c.toNat).i (nthB N.ts (nthT N.vs (nthT N.as a).b.toNat).c.toNat).o (nthB N.ts (nthT N.vs (nthT N.as a).b.toNat).c.toNat).cs i o := by simp [bendV]
  rw [hx] at hr
  clear hx
  refine .of_has NF.bend rfl ?_
  simp [S_net_bend, FnS.wp, netV]
  refine ef_new_box ?_
  intro B hB gB bB eB
  have cB : ∀ g, Ext g h → Ext g hB := fun g e => Mod.trans e eB
  generalize hv : (nthT N.as a).b = v at *
  by_cases c1 : v = (nthT N.as b).a
  rotate_left
  · have c1' : (v = (nthT N.as b).a) = False := by simp [c1]
    rw [if_pos (.inl c1)] at hr
    simp (config := { maxDischargeDepth := 60 }) [cB, bB.sk, bB.rk, ha, hb, ha', hb', sem_idxa r.ra.ok, sem_idxa r.rv.ok, sem_idxa r.rt.ok, r.ra.s0, r.ra.s1, r.ra.s2, r.ra.sr, r.rv.s2, c1', hv]
    exact hr _ eB
  have c1' : (v = (nthT N.as b).a) = True := by simp [c1]
  simp (config := { maxDischargeDepth := 60 }) [cB, bB.sk, bB.rk, ha, hb, ha', hb', sem_idxa r.ra.ok, sem_idxa r.rv.ok, sem_idxa r.rt.ok, r.ra.s0, r.ra.s1, r.ra.s2, r.ra.sr, r.rv.s2, c1', hv]
  refine vertex_spec NF.vertex lv ?_
  intro h1 e1
  have c_h1 : ∀ g, Ext g hB → Ext g h1 := fun g e => Mod.trans e e1
  have x1 := Mod.trans eB e1
  by_cases c2 : vtxB N.vs.length v = true
  rotate_left
  · have c2' : vtxB N.vs.length v = false := by simpa using c2
    rw [if_pos (.inr c2')] at hr
    simp (config := { maxDischargeDepth := 60 }) [cB, bB.sk, bB.rk, ha, hb, ha', hb', sem_idxa r.ra.ok, sem_idxa r.rv.ok, sem_idxa r.rt.ok, r.ra.s0, r.ra.s1, r.ra.s2, r.ra.sr, r.rv.s2, c_h1, c2']
    exact hr _ x1
  rw [if_neg (by simp [c1', c2])] at hr
  have d2 := c2
  simp only [vtxB, decide_eq_true_eq] at d2
  have v0 : 0 ≤ v := d2.1
  have v1 : v < sv.n := by omega
  have v2 : v.toNat < N.vs.length := by omega
  simp (config := { maxDischargeDepth := 60 }) [cB, bB.sk, bB.rk, ha, hb, ha', hb', sem_idxa r.ra.ok, sem_idxa r.rv.ok, sem_idxa r.rt.ok, r.ra.s0, r.ra.s1, r.ra.s2, r.ra.sr, r.rv.s2, c_h1, v0, v1, v2, c2]
  generalize ht : (nthT N.vs v.toNat).c = t at *
  by_cases c3 : t < 0
  · have : vtxB N.ts.length t = false := by simp [vtxB]; omega
    rw [if_pos this] at hr
    simp (config := { maxDischargeDepth := 60 }) [cB, bB.sk, bB.rk, ha, hb, ha', hb', sem_idxa r.ra.ok, sem_idxa r.rv.ok, sem_idxa r.rt.ok, r.ra.s0, r.ra.s1, r.ra.s2, r.ra.sr, r.rv.s2, c_h1, v0, v1, v2, c3]
    exact hr _ x1
  by_cases c4 : (st.n : Int) ≤ t
  · have : vtxB N.ts.length t = false := by simp [vtxB]; omega
    rw [if_pos this] at hr
    simp (config := { maxDischargeDepth := 60 }) [cB, bB.sk, bB.rk, ha, hb, ha', hb', sem_idxa r.ra.ok, sem_idxa r.rv.ok, sem_idxa r.rt.ok, r.ra.s0, r.ra.s1, r.ra.s2, r.ra.sr, r.rv.s2, c_h1, v0, v1, v2, c3, c4, Int.not_lt.1 c3]
    exact hr _ x1
  have : vtxB N.ts.length t = true := by simp [vtxB]; omega
  rw [if_neg (by simp [this])] at hr
  have t0 : 0 ≤ t := by omega
  have t1 : t < st.n := by omega
  obtain ⟨u, rdt, _, ru⟩ := (r.ext x1).rt.rd (i := t.toNat) (by omega)
  simp (config := { maxDischargeDepth := 60 }) [cB, bB.sk, bB.rk, ha, hb, ha', hb', sem_idxa r.ra.ok, sem_idxa r.rv.ok, sem_idxa r.rt.ok, r.ra.s0, r.ra.s1, r.ra.s2, r.ra.sr, r.rv.s2, c_h1, v0, v1, v2, c3, c4, t0, t1, rdt, Int.not_le.1 c4]
  refine at_spec T ru ?_
  intro h2 e2
  simp
  exact hr _ (x1.trans e2)

def NTurnI (v0 : Value) (B : Nat) (a b : Nat) (sa : Sl) (as : List Tri) (h0 : Heap) (e : List Value) (h' : Heap) : Prop :=
  ∃ (i : Nat) (p q : Int) (v4 v7 v8 v9 v13 v14 v15 : Value), e = [v0, .int .i64 a, .int .i64 b, .pointer (some ⟨B, 0, none⟩), v4, .int .i64 p, .int .i64 q, v7, v8, v9, sa.v, .int .i64 sa.n, .int .i64 i, v13, v14, v15] ∧ i ≤ sa.n ∧ p = cntB as a (min i a) ∧ q = cntA as b (min i b) ∧ Ext h0 h'

theorem nturn_spec (NF : NetFns2 Y) (T : TurnFns Y) {sv sa st : Sl} {N : NetD} (r : NetH h sv sa st N) (ba : N.as.length ≤ 16384) {a b : Int} {R : Value → Heap → Prop}
    (hr : ∀ h', Ext h h' → R (.int .i64 (turnV N a b)) h') : CallP Y F.net_Turn [netV sv sa st, .int .i64 a, .int .i64 b] h R := by
  have lv := r.rv.len
  have la := r.ra.len
  refine .of_has NF.Turn rfl ?_
  simp [S_net_Turn, FnS.wp, netV]
  refine ef_new_box ?_
  intro B hB gB bB eB
  have cB : ∀ g, Ext g h → Ext g hB := fun g e => Mod.trans e eB
  simp (config := { maxDischargeDepth := 60 }) [cB, bB.sk, bB.rk]
  refine narc_spec NF.arc la ?_
  intro h1 e1
  have c_h1 : ∀ g, Ext g hB → Ext g h1 := fun g e => Mod.trans e e1
  have x1 := Mod.trans eB e1
  by_cases c1 : vtxB N.as.length a = true
  rotate_left
  · have c1' : vtxB N.as.length a = false := by simpa using c1
    rw [turnV, if_pos (.inl c1')] at hr
    simp (config := { maxDischargeDepth := 60 }) [cB, bB.sk, bB.rk, c_h1, c1']
    exact hr _ x1
  simp (config := { maxDischargeDepth := 60 }) [cB, bB.sk, bB.rk, c_h1, c1]
  refine narc_spec NF.arc la ?_
  intro h2 e2
  have c_h2 : ∀ g, Ext g h1 → Ext g h2 := fun g e => Mod.trans e e2
  have x2 := Mod.trans x1 e2
  by_cases c2 : vtxB N.as.length b = true
  rotate_left
  · have c2' : vtxB N.as.length b = false := by simpa using c2
    rw [turnV, if_pos (.inr c2')] at hr
    simp (config := { maxDischargeDepth := 60 }) [cB, bB.sk, bB.rk, c_h1, c_h2, c2']
    exact hr _ x2
  rw [turnV, if_neg (by simp [c1, c2])] at hr
  have d1 := c1
  have d2 := c2
  simp only [vtxB, decide_eq_true_eq] at d1 d2
  obtain ⟨a, rfl⟩ : ∃ n : Nat, a = n := ⟨a.toNat, by omega⟩
  obtain ⟨b, rfl⟩ : ∃ n : Nat, b = n := ⟨b.toNat, by omega⟩
  simp only [Int.toNat_natCast] at hr
  have ha : a < N.as.length := by omega
  have hb : b < N.as.length := by omega
  have ha' : (a : Int) < sa.n := by omega
  have hb' : (b : Int) < sa.n := by omega
  simp (config := { maxDischargeDepth := 60 }) [cB, bB.sk, bB.rk, c_h1, c_h2, c2]
  refine wp_loop' (NTurnI (netV sv sa st) B a b sa N.as h2) (fun e _ => sa.n - argI e 12) ⟨0, 0, 0, _, _, _, _, _, _, _, rfl, by omega, by simp [cntB], by simp [cntA], Mod.refl _⟩ ?_
  rintro e h3 ⟨i, p, q, v4, v7, v8, v9, v13, v14, v15, rfl, hi, hp, hq, x3⟩
  have c_h3 : ∀ g, Ext g h2 → Ext g h3 := fun g e => Mod.trans e x3
  by_cases c : i < sa.n
  · have c' : (i : Int) < sa.n := by omega
    have ci : i < N.as.length := by omega
    have w1 : IntKind.i64.wrap ((i : Int) + 1) = (i : Int) + 1 := i64_wrap (by omega)
    have lB := cntB_le (as := N.as) (a := a) (n := min i a)
    have lA := cntA_le (as := N.as) (a := b) (n := min i b)
    have w2 : IntKind.i64.wrap (p + 1) = p + 1 := i64_wrap (by omega)
    have w3 : IntKind.i64.wrap (q + 1) = q + 1 := i64_wrap (by omega)
    simp (config := { maxDischargeDepth := 60 }) [cB, bB.sk, bB.rk, c_h1, c_h2, c_h3, ha, hb, ha', hb', sem_idxa r.ra.ok, r.ra.s0, r.ra.s1, r.ra.s2, r.ra.sr, c', ci, w1, w2, w3]
    refine new_store (vs := #[.int .i64 (nthT N.as i).a, .int .i64 (nthT N.as i).b, .int .i64 (nthT N.as i).c]) rfl rfl (by simp) ?_
    intro C hCp gC bCp eCp stC
    have cCp : ∀ g, Ext g h3 → Ext g hCp := fun g e => Mod.trans e eCp
    simp (config := { maxDischargeDepth := 60 }) [cB, bB.sk, bB.rk, c_h1, c_h2, c_h3, ha, hb, ha', hb', sem_idxa r.ra.ok, r.ra.s0, r.ra.s1, r.ra.s2, r.ra.sr, c', ci, w1, w2, w3, cCp]
    refine stC _ ?_
    intro hC bC eC
    clear cCp stC bCp eCp
    have cC : ∀ g, Ext g h3 → Ext g hC := fun g e => Mod.trans e eC
    have x4 := Mod.trans x3 eC
    have sB : cntB N.as a (min (i + 1) a) = cntB N.as a (min i a) + if i < a ∧ (nthT N.as i).b = (nthT N.as a).b then 1 else 0 := by
      by_cases q : i < a
      · rw [Nat.min_eq_left (by omega), Nat.min_eq_left (by omega), cntB_succ ci]; simp [q]
      · rw [Nat.min_eq_right (by omega), Nat.min_eq_right (by omega)]; simp [q]
    have sA : cntA N.as b (min (i + 1) b) = cntA N.as b (min i b) + if i < b ∧ (nthT N.as i).a = (nthT N.as b).a then 1 else 0 := by
      by_cases q : i < b
      · rw [Nat.min_eq_left (by omega), Nat.min_eq_left (by omega), cntA_succ ci]; simp [q]
      · rw [Nat.min_eq_right (by omega), Nat.min_eq_right (by omega)]; simp [q]
    have finB : ∀ {p' : Int}, p' = p + (if i < a ∧ (nthT N.as i).b = (nthT N.as a).b then 1 else 0) → p' = cntB N.as a (min (i + 1) a) := by
      intro p' h1
      rw [sB, h1, hp]
      split <;> simp
    have finA : ∀ {q' : Int}, q' = q + (if i < b ∧ (nthT N.as i).a = (nthT N.as b).a then 1 else 0) → q' = cntA N.as b (min (i + 1) b) := by
      intro q' h1
      rw [sA, h1, hq]
      split <;> simp
    clear sA sB
    generalize hX : (nthT N.as i).b = X at *
    generalize hY : (nthT N.as a).b = X' at *
    generalize hZ : (nthT N.as i).a = Z at *
    generalize hW : (nthT N.as b).a = Z' at *
    by_cases p1 : i < a <;> by_cases p2 : X = X' <;> by_cases p3 : i < b <;> by_cases p4 : Z = Z'
    all_goals
      simp (config := { maxDischargeDepth := 60 }) [cB, bB.sk, bB.rk, c_h1, c_h2, c_h3, ha, hb, ha', hb', sem_idxa r.ra.ok, r.ra.s0, r.ra.s1, r.ra.s2, r.ra.sr, c', ci, w1, w2, w3, cC, bC.sk, bC.rk, hX, hY, hZ, hW, p1, p2, p3, p4]
      refine ⟨⟨i + 1, _, _, _, _, _, _, _, _, _, rfl, by omega, ?_, ?_, x4⟩, by simp [argI]; omega⟩
      · exact finB (by simp [p1, p2])
      · exact finA (by simp [p3, p4])
  have c' : ¬ (i : Int) < sa.n := by omega
  rw [Nat.min_eq_right (by omega)] at hp hq
  simp (config := { maxDischargeDepth := 60 }) [cB, bB.sk, bB.rk, c_h1, c_h2, c_h3, ha, hb, ha', hb', sem_idxa r.ra.ok, r.ra.s0, r.ra.s1, r.ra.s2, r.ra.sr, c']
  rw [hp, hq]
  refine nbend_spec NF T (r.ext (x2.trans x3)) ha hb ?_
  intro h4 e4
  simp
  exact hr _ ((x2.trans x3).trans e4)
end
end Go.Rm

/- Package net: places, over, Walk, Cost; sums of costs. -/
set_option linter.unusedSimpArgs false
set_option linter.unusedVariables false
namespace Go.Rm

def addI (a b : Int) : Int := held (held a + held b)
def sumI (l : List Int) : Int := l.foldl addI 0
theorem held_range {a : Int} : 0 ≤ held a ∧ held a ≤ InfI := by
  unfold held InfI
  repeat' split
  all_goals omega
theorem held_id {a : Int} (h : 0 ≤ a ∧ a ≤ InfI) : held a = a := by
  unfold held InfI at *
  repeat' split
  all_goals omega
theorem addI_range {a b : Int} : 0 ≤ addI a b ∧ addI a b ≤ InfI := held_range
theorem addI_assoc {a b c : Int} : addI (addI a b) c = addI a (addI b c) := by
  unfold addI
  have ha := held_range (a := a)
  have hb := held_range (a := b)
  have hc := held_range (a := c)
  rw [held_id (held_range), held_id (held_range)]
  generalize held a = x at *
  generalize held b = y at *
  generalize held c = z at *
  unfold held InfI at *
  repeat' split
  all_goals omega
theorem addI_zero {a : Int} : addI 0 a = held a := by
  unfold addI
  have h0 : held 0 = 0 := rfl
  rw [h0, Int.zero_add, held_id held_range]

def insP (as : List Tri) (i : Nat) : List Int := (List.range as.length).map fun j => if j < i then (cntB as j j : Int) else 0
def outsP (as : List Tri) (i : Nat) : List Int := (List.range as.length).map fun j => if j < i then (cntA as j j : Int) else 0
@[simp] theorem insP_len {as : List Tri} {i : Nat} : (insP as i).length = as.length := by simp [insP]
@[simp] theorem outsP_len {as : List Tri} {i : Nat} : (outsP as i).length = as.length := by simp [outsP]
theorem insP_at {as : List Tri} {i j : Nat} (hj : j < as.length) (hi : j < i) : nthI (insP as i) j = cntB as j j := by simp [nthI, insP, hj, hi]
theorem outsP_at {as : List Tri} {i j : Nat} (hj : j < as.length) (hi : j < i) : nthI (outsP as i) j = cntA as j j := by simp [nthI, outsP, hj, hi]
theorem insP_zero {as : List Tri} : insP as 0 = List.replicate as.length 0 := by
  apply List.ext_getElem (by simp)
  intro j h1 h2
  simp [insP]
theorem outsP_zero {as : List Tri} : outsP as 0 = List.replicate as.length 0 := by
  apply List.ext_getElem (by simp)
  intro j h1 h2
  simp [outsP]
theorem insP_step {as : List Tri} {i : Nat} {y : Int} (hi : i < as.length) (hy : y = cntB as i i) : (insP as i).set i y = insP as (i + 1) := by
  apply List.ext_getElem (by simp)
  intro j h1 h2
  rw [List.getElem_set]
  simp only [insP, List.getElem_map, List.getElem_range]
  by_cases c : i = j
  · subst c; simp [hy]
  · have : (j < i + 1) = (j < i) := by simp; omega
    simp only [if_neg c, this]
theorem outsP_step {as : List Tri} {i : Nat} {y : Int} (hi : i < as.length) (hy : y = cntA as i i) : (outsP as i).set i y = outsP as (i + 1) := by
  apply List.ext_getElem (by simp)
  intro j h1 h2
  rw [List.getElem_set]
  simp only [outsP, List.getElem_map, List.getElem_range]
  by_cases c : i = j
  · subst c; simp [hy]
  · have : (j < i + 1) = (j < i) := by simp; omega
    simp only [if_neg c, this]
theorem cntB_insN {as : List Tri} {i g : Nat} (hg : (nthT as i).b = (g : Int)) : cntB as i i = insN (as.take i) g := by
  unfold cntB insN
  rw [hg]
theorem cntA_outsN {as : List Tri} {i g : Nat} (hg : (nthT as i).a = (g : Int)) : cntA as i i = outsN (as.take i) g := by
  unfold cntA outsN
  rw [hg]
/-- all arcs go from a vertex to one -/
def ArcsIn (N : NetD) : Prop := ∀ i, i < N.as.length → vtxB N.vs.length (nthT N.as i).a = true ∧ vtxB N.vs.length (nthT N.as i).b = true

structure CostFns (Y : Sys) : Prop where
  Held : Y.Has F.cost_Held S_cost_Held
  Add : Y.Has F.cost_Add S_cost_Add
  Sum : Y.Has F.cost_Sum S_cost_Sum
structure RefCost (Y : Sys) : Prop where
  Held : Y.Has F.rref6_Held S_rref6_Held
  Add : Y.Has F.rref6_Add S_rref6_Add

section
variable {Y : Sys} {h : Heap}

theorem add_spec (C : CostFns Y) {a b : Int} {R : Value → Heap → Prop} (hr : R (.int .i64 (addI a b)) h) : CallP Y F.cost_Add [.int .i64 a, .int .i64 b] h R := by
  refine .of_has C.Add rfl ?_
  simp [S_cost_Add, FnS.wp]
  refine held_spec C.Held ?_
  simp
  refine held_spec C.Held ?_
  have ha := held_range (a := a)
  have hb := held_range (a := b)
  have w : IntKind.i64.wrap (held a + held b) = held a + held b := i64_wrap (by unfold InfI at *; omega)
  simp [w]
  refine held_spec C.Held ?_
  simp
  exact hr
theorem nrheld_spec (H : Y.Has F.rref6_Held S_rref6_Held) {a : Int} {h : Heap} {R : Value → Heap → Prop} (hr : R (.int .i64 (held a)) h) : CallP Y F.rref6_Held [.int .i64 a] h R := by
  refine .of_has H rfl ?_
  simp [S_rref6_Held, FnS.wp]
  unfold held at hr
  split
  · rename_i h0; rw [if_pos h0] at hr; exact hr
  · rename_i h0; rw [if_neg h0] at hr
    split
    · rename_i h1; rw [if_pos h1] at hr; exact hr
    · rename_i h1; rw [if_neg h1] at hr; exact hr
theorem radd_spec (C : RefCost Y) {a b : Int} {R : Value → Heap → Prop} (hr : R (.int .i64 (addI a b)) h) : CallP Y F.rref6_Add [.int .i64 a, .int .i64 b] h R := by
  refine .of_has C.Add rfl ?_
  simp [S_rref6_Add, FnS.wp]
  refine nrheld_spec C.Held ?_
  simp
  refine nrheld_spec C.Held ?_
  have ha := held_range (a := a)
  have hb := held_range (a := b)
  have w : IntKind.i64.wrap (held a + held b) = held a + held b := i64_wrap (by unfold InfI at *; omega)
  simp [w]
  refine nrheld_spec C.Held ?_
  simp
  exact hr

def SumI (s : Sl) (cs : List Int) (h0 : Heap) (e : List Value) (h' : Heap) : Prop :=
  ∃ (i : Nat) (p : Int) (v1 v3 v7 : Value), e = [s.v, v1, .int .i64 p, v3, s.v, .int .i64 s.n, .int .i64 i, v7] ∧ i ≤ s.n ∧ p = sumI (cs.take i) ∧ h' = h0

theorem sum_spec (C : CostFns Y) {s : Sl} {cs : List Int} (r : Row64 h s cs) (hbig : s.n ≤ 1000000) {R : Value → Heap → Prop} (hr : R (.int .i64 (sumI cs)) h) : CallP Y F.cost_Sum [s.v] h R := by
  have hl := r.len
  refine .of_has C.Sum rfl ?_
  simp [S_cost_Sum, FnS.wp]
  refine wp_loop' (SumI s cs h) (fun e _ => s.n - argI e 6) ⟨0, 0, _, _, _, rfl, by omega, by simp [sumI], rfl⟩ ?_
  rintro e h1 ⟨i, p, v1, v3, v7, rfl, hi, hp, rfl⟩
  by_cases c : i < s.n
  · have c' : (i : Int) < s.n := by omega
    have w1 : IntKind.i64.wrap ((i : Int) + 1) = (i : Int) + 1 := i64_wrap (by omega)
    simp [c', sem_idxa r.ok, r.at c]
    refine add_spec C ?_
    simp [w1]
    refine ⟨⟨i + 1, _, _, _, _, rfl, by omega, ?_, rfl⟩, by simp [argI]; omega⟩
    rw [hp, sumI, sumI, List.take_succ_eq_append_getElem (by omega), List.foldl_append]
    simp [nthI, show i < cs.length by omega]
  · have c' : ¬ (i : Int) < s.n := by omega
    rw [List.take_of_length_le (by omega)] at hp
    simp [c']
    rw [hp]
    exact hr

def NPlI (v0 : Value) (B n : Nat) (sE sB sI sO sa : Sl) (as : List Tri) (h0 : Heap) (e : List Value) (h' : Heap) : Prop :=
  ∃ (i : Nat) (v6 v7 v11 v12 v13 : Value), e = [v0, .pointer (some ⟨B, 0, none⟩), sI.v, sO.v, sE.v, sB.v, v6, v7, sa.v, .int .i64 sa.n, .int .i64 i, v11, v12, v13] ∧ i ≤ sa.n ∧ Own h' 1 sE (ints64 (insL n (as.take i))) ∧ Own h' 1 sB (ints64 (outsL n (as.take i))) ∧ Own h' 1 sI (ints64 (insP as i)) ∧ Own h' 1 sO (ints64 (outsP as i)) ∧ Ext h0 h'

theorem nplaces_spec (NF : NetFns2 Y) {sv sa st : Sl} {N : NetD} (r : NetH h sv sa st N) (bv : N.vs.length ≤ 4096) (ba : N.as.length ≤ 16384) (hA : ArcsIn N) {R : Value → Heap → Prop}
    (hr : ∀ h' s1 s2, Ext h h' → Row64 h' s1 (insP N.as N.as.length) → Row64 h' s2 (outsP N.as N.as.length) → R (.tuple #[s1.v, s2.v]) h') : CallP Y F.net_places [netV sv sa st] h R := by
  have lv := r.rv.len
  have la := r.ra.len
  refine .of_has NF.places rfl ?_
  simp [S_net_places, FnS.wp, netV]
  refine ef_new_box ?_
  intro B hB gB bB eB
  have cB : ∀ g, Ext g h → Ext g hB := fun g e => Mod.trans e eB
  simp (config := { maxDischargeDepth := 60 }) [cB, bB.sk, bB.rk]
  refine ef_make64 (n := sv.n) (by omega) rfl ?_
  intro bE h1 gE oE e1 lE
  have c_h1 : ∀ g, Ext g hB → Ext g h1 := fun g e => Mod.trans e e1
  simp (config := { maxDischargeDepth := 60 }) [cB, bB.sk, bB.rk, c_h1]
  refine ef_make64 (n := sv.n) (by omega) rfl ?_
  intro bG h2 gG oG e2 lG
  have c_h2 : ∀ g, Ext g h1 → Ext g h2 := fun g e => Mod.trans e e2
  simp (config := { maxDischargeDepth := 60 }) [cB, bB.sk, bB.rk, c_h1, c_h2]
  refine ef_make64 (n := sa.n) (by omega) rfl ?_
  intro bI h3 gI oI e3 lI
  have c_h3 : ∀ g, Ext g h2 → Ext g h3 := fun g e => Mod.trans e e3
  simp (config := { maxDischargeDepth := 60 }) [cB, bB.sk, bB.rk, c_h1, c_h2, c_h3]
  refine ef_make64 (n := sa.n) (by omega) rfl ?_
  intro bO h4 gO oO e4 lO
  have c_h4 : ∀ g, Ext g h3 → Ext g h4 := fun g e => Mod.trans e e4
  simp (config := { maxDischargeDepth := 60 }) [cB, bB.sk, bB.rk, c_h1, c_h2, c_h3, c_h4]
  have zB := bB.lt
  have z1 := e1.size
  have z2 := e2.size
  have z3 := e3.size
  have z4 := e4.size
  have oE4 := ((oE.mod e2 (fun _ h => h)).mod e3 (fun _ h => h)).mod e4 (fun _ h => h)
  have oG4 := (oG.mod e3 (fun _ h => h)).mod e4 (fun _ h => h)
  have oI4 := oI.mod e4 (fun _ h => h)
  have x4 := ((e1.trans e2).trans e3).trans e4
  clear oE oG oI
  simp only [← Sl.at_v]
  have tE : (Sl.at bE sv.n sv.n).b = bE ∧ (Sl.at bE sv.n sv.n).n = sv.n ∧ (Sl.at bE sv.n sv.n).nl = false := ⟨rfl, rfl, rfl⟩
  have tG : (Sl.at bG sv.n sv.n).b = bG ∧ (Sl.at bG sv.n sv.n).n = sv.n ∧ (Sl.at bG sv.n sv.n).nl = false := ⟨rfl, rfl, rfl⟩
  have tI : (Sl.at bI sa.n sa.n).b = bI ∧ (Sl.at bI sa.n sa.n).n = sa.n ∧ (Sl.at bI sa.n sa.n).nl = false := ⟨rfl, rfl, rfl⟩
  have tO : (Sl.at bO sa.n sa.n).b = bO ∧ (Sl.at bO sa.n sa.n).n = sa.n ∧ (Sl.at bO sa.n sa.n).nl = false := ⟨rfl, rfl, rfl⟩
  generalize Sl.at bE sv.n sv.n = sE at *
  generalize Sl.at bG sv.n sv.n = sG at *
  generalize Sl.at bI sa.n sa.n = sI at *
  generalize Sl.at bO sa.n sa.n = sO at *
  obtain ⟨tE, nE, lE'⟩ := tE
  obtain ⟨tG, nG, lG'⟩ := tG
  obtain ⟨tI, nI, lI'⟩ := tI
  obtain ⟨tO, nO, lO'⟩ := tO
  refine wp_loop' (NPlI (netV sv sa st) B sv.n sE sG sI sO sa N.as hB) (fun e _ => sa.n - argI e 10) ⟨0, _, _, _, _, _, rfl, by omega, by simpa [insL_nil] using oE4, by simpa [outsL_nil] using oG4, by rw [insP_zero, la]; exact oI4, by rw [outsP_zero, la]; exact oO, x4⟩ ?_
  clear oE4 oG4 oI4 oO
  rintro e h5 ⟨i, v6, v7, v11, v12, v13, rfl, hi, pE, pG, pI, pO, x5⟩
  by_cases c : i < sa.n
  · have c' : (i : Int) < sa.n := by omega
    have ci : i < N.as.length := by omega
    have w1 : IntKind.i64.wrap ((i : Int) + 1) = (i : Int) + 1 := i64_wrap (by omega)
    obtain ⟨d1, d2⟩ := hA i ci
    have d1' := d1
    have d2' := d2
    simp only [vtxB, decide_eq_true_eq] at d1 d2
    obtain ⟨f, hf⟩ : ∃ f : Nat, (nthT N.as i).a = f := ⟨(nthT N.as i).a.toNat, by omega⟩
    obtain ⟨g, hg⟩ : ∃ g : Nat, (nthT N.as i).b = g := ⟨(nthT N.as i).b.toNat, by omega⟩
    rw [hf] at d1 d1'
    rw [hg] at d2 d2'
    have k5 : ∀ g, Ext g hB → Ext g h5 := fun g e => Mod.trans e x5
    simp (config := { maxDischargeDepth := 60 }) [cB, k5, bB.sk, bB.rk, c', ci, w1, hf, hg, sem_idxa r.ra.ok, r.ra.s0, r.ra.s1, r.ra.s2, r.ra.sr]
    refine new_store (vs := #[.int .i64 f, .int .i64 g, .int .i64 (nthT N.as i).c]) rfl rfl (by simp) ?_
    intro C hCp gC bCp eCp stC
    have cCp : ∀ g, Ext g h5 → Ext g hCp := fun g e => Mod.trans e eCp
    simp (config := { maxDischargeDepth := 60 }) [cB, bB.sk, bB.rk, c_h1, c_h2, c_h3, c_h4, c', ci, w1, hf, hg, sem_idxa r.ra.ok, r.ra.s0, r.ra.s1, r.ra.s2, r.ra.sr, cCp]
    refine stC _ ?_
    intro hC bC eC
    clear cCp stC bCp eCp
    have cC : ∀ g, Ext g h5 → Ext g hC := fun g e => Mod.trans e eC
    have zC := eC.size
    have lC := bC.lt
    have x6 := x5.trans eC
    have z5 := x5.size
    have lt5 : sE.b < h5.size ∧ sG.b < h5.size ∧ sI.b < h5.size ∧ sO.b < h5.size := ⟨pE.lt lE', pG.lt lG', pI.lt lI', pO.lt lO'⟩
    have pE := pE.mod eC (fun _ h => h)
    have pG := pG.mod eC (fun _ h => h)
    have pI := pI.mod eC (fun _ h => h)
    have pO := pO.mod eC (fun _ h => h)
    have leI := insN_le (as := N.as.take i) (v := g)
    have leO := outsN_le (as := N.as.take i) (v := f)
    have hti : (N.as.take i).length ≤ 16384 := by rw [List.length_take]; omega
    have wI : IntKind.i64.wrap ((insN (N.as.take i) g : Int) + 1) = (insN (N.as.take i) g : Int) + 1 := i64_wrap (by omega)
    have wO : IntKind.i64.wrap ((outsN (N.as.take i) f : Int) + 1) = (outsN (N.as.take i) f : Int) + 1 := i64_wrap (by omega)
    have stI := insL_step (n := sv.n) (t := g) ci hg (by omega)
    have stO := outsL_step (n := sv.n) (t := f) ci hf (by omega)
    have spI := insP_step ci (y := (insN (N.as.take i) g : Int)) (by rw [cntB_insN hg])
    have spO := outsP_step ci (y := (outsN (N.as.take i) f : Int)) (by rw [cntA_outsN hf])
    have gE' : (g : Int) < sE.n := by omega
    have fG' : (f : Int) < sG.n := by omega
    have iI' : (i : Int) < sI.n := by omega
    have iO' : (i : Int) < sO.n := by omega
    have gL : g < (insL sv.n (N.as.take i)).length := by simp; omega
    have fL : f < (outsL sv.n (N.as.take i)).length := by simp; omega
    have aI : nthI (insL sv.n (N.as.take i)) g = (insN (N.as.take i) g : Int) := insL_at (by omega)
    have aO : nthI (outsL sv.n (N.as.take i)) f = (outsN (N.as.take i) f : Int) := outsL_at (by omega)
    simp (config := { maxDischargeDepth := 60 }) [bC.sk, bC.rk, (bB.ext x6).hc, rd_blk (bB.ext x6)]
    refine vertex_spec NF.vertex lv ?_
    intro h6 e6
    have z6 := e6.size
    have pE := pE.mod e6 (fun _ h => h)
    have pG := pG.mod e6 (fun _ h => h)
    have pI := pI.mod e6 (fun _ h => h)
    have pO := pO.mod e6 (fun _ h => h)
    have C6 := bC.ext e6
    have x7 := x6.trans e6
    simp [d2', C6.hc, sem_idxa pE.ok, sem_idxa pI.ok, gE', iI', pE.row64.val g gL, aI]
    refine st64 pI (by simpa using ci) ?_
    intro h7 pI m7
    rw [spI] at pI
    have C7 := m7.blk C6 (by omega)
    have pE := pE.mod m7 (fun _ hj => by omega)
    have pG := pG.mod m7 (fun _ hj => by omega)
    have pO := pO.mod m7 (fun _ hj => by omega)
    have x8 := Mod.ext x7 m7 (fun j hj => by omega)
    simp [C7.hc, sem_idxa pE.ok, gE', pE.row64.val g gL, aI, wI]
    refine st64 pE gL ?_
    intro h8 pE m8
    rw [stI] at pE
    have C8 := m8.blk C7 (by omega)
    have pI := pI.mod m8 (fun _ hj => by omega)
    have pG := pG.mod m8 (fun _ hj => by omega)
    have pO := pO.mod m8 (fun _ hj => by omega)
    have x9 := Mod.ext x8 m8 (fun j hj => by omega)
    simp [C8.hc, (bB.ext x9).hc, rd_blk (bB.ext x9)]
    refine vertex_spec NF.vertex lv ?_
    intro h9 e9
    have pE := pE.mod e9 (fun _ h => h)
    have pG := pG.mod e9 (fun _ h => h)
    have pI := pI.mod e9 (fun _ h => h)
    have pO := pO.mod e9 (fun _ h => h)
    have C9 := C8.ext e9
    have x10 := x9.trans e9
    simp [d1', C9.hc, sem_idxa pG.ok, sem_idxa pO.ok, fG', iO', pG.row64.val f fL, aO]
    refine st64 pO (by simpa using ci) ?_
    intro h10 pO m10
    rw [spO] at pO
    have C10 := m10.blk C9 (by omega)
    have pE := pE.mod m10 (fun _ hj => by omega)
    have pG := pG.mod m10 (fun _ hj => by omega)
    have pI := pI.mod m10 (fun _ hj => by omega)
    have x11 := Mod.ext x10 m10 (fun j hj => by omega)
    simp [C10.hc, sem_idxa pG.ok, fG', pG.row64.val f fL, aO, wO]
    refine st64 pG fL ?_
    intro h11 pG m11
    rw [stO] at pG
    have pE := pE.mod m11 (fun _ hj => by omega)
    have pI := pI.mod m11 (fun _ hj => by omega)
    have pO := pO.mod m11 (fun _ hj => by omega)
    have x12 := Mod.ext x11 m11 (fun j hj => by omega)
    simp [w1]
    refine ⟨⟨i + 1, _, _, _, _, _, rfl, by omega, pE, pG, pI, pO, x12⟩, by simp [argI]; omega⟩
  have c' : ¬ (i : Int) < sa.n := by omega
  obtain rfl : i = sa.n := by omega
  simp [c']
  rw [← la] at pI pO
  exact hr h5 sI sO (eB.trans x5) pI.row64 pO.row64
end
end Go.Rm

/- Package net: over, Walk, Cost. -/
set_option linter.unusedSimpArgs false
set_option linter.unusedVariables false
namespace Go.Rm

def arcC (N : NetD) (a : Int) : Int := (nthT N.as a.toNat).c
def stepOk (N : NetD) (l : List Int) (i : Nat) : Bool :=
  vtxB N.as.length (nthI l i) && decide (arcC N (nthI l i) ≠ InfI) && (decide (i = 0) || decide (turnV N (nthI l (i - 1)) (nthI l i) ≠ InfI))
def walkB (N : NetD) (l : List Int) : Bool := decide (l ≠ []) && (List.range l.length).all (stepOk N l)
theorem walkB_iff {N : NetD} {l : List Int} : walkB N l = true ↔ l ≠ [] ∧ ∀ i, i < l.length → stepOk N l i = true := by simp [walkB, List.all_eq_true]
def costTo (N : NetD) (l : List Int) : Nat → Int
  | 0 => 0
  | i + 1 => if i = 0 then 0 else addI (addI (costTo N l i) (turnV N (nthI l (i - 1)) (nthI l i))) (arcC N (nthI l i))
def costV (N : NetD) (l : List Int) : Int := if walkB N l then costTo N l l.length else InfI
theorem costTo_range {N : NetD} {l : List Int} {i : Nat} : 0 ≤ costTo N l i ∧ costTo N l i ≤ InfI := by
  cases i with
  | zero => simp [costTo, InfI]
  | succ i =>
    rw [costTo]
    split
    · simp [InfI]
    · exact addI_range
theorem turnV_in {N : NetD} {a b : Nat} (ha : a < N.as.length) (hb : b < N.as.length) : turnV N a b = bendV N a b (cntB N.as a a) (cntA N.as b b) := by
  unfold turnV
  rw [if_neg]
  · simp
  · simp [vtxB]; omega

section
variable {Y : Sys} {h : Heap}

def NOverI (v0 : Value) (B : Nat) (s sI sO : Sl) (N : NetD) (cs : List Int) (h0 : Heap) (e : List Value) (h' : Heap) : Prop :=
  ∃ (i : Nat) (p : Int) (v3 v4 v8 v9 v10 v11 v12 v16 v17 v18 v19 : Value), e = [v0, s.v, .pointer (some ⟨B, 0, none⟩), v3, v4, sI.v, sO.v, .int .i64 p, v8, v9, v10, v11, v12, s.v, .int .i64 s.n, .int .i64 i, v16, v17, v18, v19] ∧ i ≤ s.n ∧ p = costTo N cs i ∧ (∀ j, j < i → stepOk N cs j = true) ∧ Ext h0 h'

theorem nover_spec (NF : NetFns2 Y) (T : TurnFns Y) (C : CostFns Y) {sv sa st s : Sl} {N : NetD} {cs : List Int} (r : NetH h sv sa st N) (rl : Row64 h s cs) (hbig : s.n ≤ 1000000) (bv : N.vs.length ≤ 4096) (ba : N.as.length ≤ 16384) (hA : ArcsIn N)
    {R : Value → Heap → Prop} (hr : ∀ h', Ext h h' → R (.tuple #[.int .i64 (costV N cs), .bool (walkB N cs)]) h') : CallP Y F.net_over [netV sv sa st, s.v] h R := by
  have lv := r.rv.len
  have la := r.ra.len
  have ll := rl.len
  refine .of_has NF.over rfl ?_
  simp [S_net_over, FnS.wp, netV]
  refine ef_new_box ?_
  intro B hB gB bB eB
  have cB : ∀ g, Ext g h → Ext g hB := fun g e => Mod.trans e eB
  have no : walkB N cs = false → ∀ h', Ext h h' → R (.tuple #[.int .i64 InfI, .bool false]) h' := fun hw h' e => by
    have := hr h' e
    rw [costV, hw, if_neg (by simp)] at this
    exact this
  by_cases c0 : s.n = 0
  · have hw : walkB N cs = false := by
      rw [Bool.eq_false_iff]
      intro hw
      exact (walkB_iff.1 hw).1 (List.eq_nil_of_length_eq_zero (by omega))
    simp [c0]
    exact no hw _ eB
  simp (config := { maxDischargeDepth := 60 }) [cB, bB.sk, bB.rk, c0]
  refine nplaces_spec NF (r.ext eB) bv ba hA ?_
  intro h1 sI sO e1 rI rO
  have c_h1 : ∀ g, Ext g hB → Ext g h1 := fun g e => Mod.trans e e1
  have lI := rI.len
  have lO := rO.len
  simp only [insP_len, outsP_len] at lI lO
  have x1 := eB.trans e1
  simp
  refine wp_loop' (NOverI (netV sv sa st) B s sI sO N cs h1) (fun e _ => s.n - argI e 15) ⟨0, 0, _, _, _, _, _, _, _, _, _, _, _, rfl, by omega, by simp [costTo], fun j hj => by omega, Mod.refl _⟩ ?_
  rintro e h2 ⟨i, p, v3, v4, v8, v9, v10, v11, v12, v16, v17, v18, v19, rfl, hi, hp, hall, x2⟩
  have c_h2 : ∀ g, Ext g h1 → Ext g h2 := fun g e => Mod.trans e x2
  have x12 := x1.trans x2
  by_cases c : i < s.n
  · have c' : (i : Int) < s.n := by omega
    have ci : i < cs.length := by omega
    have w1 : IntKind.i64.wrap ((i : Int) + 1) = (i : Int) + 1 := i64_wrap (by omega)
    have bad : stepOk N cs i = false → walkB N cs = false := by
      intro hb
      rw [Bool.eq_false_iff]
      intro hw
      have := (walkB_iff.1 hw).2 i ci
      rw [hb] at this
      cases this
    simp (config := { maxDischargeDepth := 60 }) [cB, bB.sk, bB.rk, c_h1, c_h2, sem_idxa rl.ok, rl.sk, sem_idxa r.ra.ok, r.ra.s0, r.ra.s1, r.ra.s2, r.ra.sr, sem_idxa rI.ok, rI.sk, sem_idxa rO.ok, rO.sk, c', ci, w1]
    refine narc_spec NF.arc la ?_
    intro h3 e3
    have c_h3 : ∀ g, Ext g h2 → Ext g h3 := fun g e => Mod.trans e e3
    have x13 := x12.trans e3
    by_cases f1 : vtxB N.as.length (nthI cs i) = true
    rotate_left
    · have f1' : vtxB N.as.length (nthI cs i) = false := by simpa using f1
      simp (config := { maxDischargeDepth := 60 }) [cB, bB.sk, bB.rk, c_h1, c_h2, sem_idxa rl.ok, rl.sk, sem_idxa r.ra.ok, r.ra.s0, r.ra.s1, r.ra.s2, r.ra.sr, sem_idxa rI.ok, rI.sk, sem_idxa rO.ok, rO.sk, c', ci, w1, c_h3, f1']
      exact no (bad (by simp [stepOk, f1'])) _ x13
    have d1 := f1
    simp only [vtxB, decide_eq_true_eq] at d1
    obtain ⟨b, hb⟩ : ∃ b : Nat, nthI cs i = b := ⟨(nthI cs i).toNat, by omega⟩
    have b1 : b < N.as.length := by omega
    have b2 : (b : Int) < sa.n := by omega
    have b3 : (b : Int) < sO.n := by omega
    rw [hb] at f1
    by_cases f2 : (nthT N.as b).c = 1152921504606846976
    · simp (config := { maxDischargeDepth := 60 }) [cB, bB.sk, bB.rk, c_h1, c_h2, sem_idxa rl.ok, rl.sk, sem_idxa r.ra.ok, r.ra.s0, r.ra.s1, r.ra.s2, r.ra.sr, sem_idxa rI.ok, rI.sk, sem_idxa rO.ok, rO.sk, c', ci, w1, c_h3, hb, b1, b2, b3, f1, f2]
      exact no (bad (by simp [stepOk, hb, arcC, f2, InfI])) _ x13
    by_cases f3 : i = 0
    · have i0 : (i = 0) = True := by simp [f3]
      simp (config := { maxDischargeDepth := 60 }) [cB, bB.sk, bB.rk, c_h1, c_h2, sem_idxa rl.ok, rl.sk, sem_idxa r.ra.ok, r.ra.s0, r.ra.s1, r.ra.s2, r.ra.sr, sem_idxa rI.ok, rI.sk, sem_idxa rO.ok, rO.sk, c', ci, w1, c_h3, hb, b1, b2, b3, f1, f2, i0]
      refine ⟨⟨i + 1, p, _, _, _, _, _, _, _, _, _, _, _, rfl, by omega, by rw [hp, f3]; simp [costTo], fun j hj => ?_, x2.trans e3⟩, by simp [argI]; omega⟩
      obtain rfl : j = i := by omega
      simp [stepOk, hb, f1, arcC, InfI, i0]
      exact f2
    have i0 : ((i : Int) = 0) = False := by simp; omega
    have w2 : IntKind.i64.wrap ((i : Int) - 1) = ((i - 1 : Nat) : Int) := by rw [i64_wrap (by omega)]; omega
    have i1 : ((i - 1 : Nat) : Int) < s.n := by omega
    have i2 : i - 1 < cs.length := by omega
    have ha0 := hall (i - 1) (by omega)
    simp only [stepOk, Bool.and_eq_true] at ha0
    have d2 := ha0.1.1
    simp only [vtxB, decide_eq_true_eq] at d2
    obtain ⟨a, ha⟩ : ∃ a : Nat, nthI cs (i - 1) = a := ⟨(nthI cs (i - 1)).toNat, by omega⟩
    have a1 : a < N.as.length := by omega
    have a2 : (a : Int) < sa.n := by omega
    have a3 : (a : Int) < sI.n := by omega
    simp (config := { maxDischargeDepth := 60 }) [cB, bB.sk, bB.rk, c_h1, c_h2, sem_idxa rl.ok, rl.sk, sem_idxa r.ra.ok, r.ra.s0, r.ra.s1, r.ra.s2, r.ra.sr, sem_idxa rI.ok, rI.sk, sem_idxa rO.ok, rO.sk, c', ci, w1, c_h3, hb, b1, b2, b3, f1, f2, i0, w2, i1, i2, ha, a1, a2, a3, f3, insP_at a1 a1, outsP_at b1 b1]
    refine nbend_spec NF T (r.ext x13) a1 b1 ?_
    intro h4 e4
    have c_h4 : ∀ g, Ext g h3 → Ext g h4 := fun g e => Mod.trans e e4
    have x14 := x13.trans e4
    rw [← turnV_in a1 b1]
    by_cases f4 : turnV N a b = 1152921504606846976
    · simp (config := { maxDischargeDepth := 60 }) [cB, bB.sk, bB.rk, c_h1, c_h2, sem_idxa rl.ok, rl.sk, sem_idxa r.ra.ok, r.ra.s0, r.ra.s1, r.ra.s2, r.ra.sr, sem_idxa rI.ok, rI.sk, sem_idxa rO.ok, rO.sk, c', ci, w1, c_h3, hb, b1, b2, b3, c_h4, f4]
      exact no (bad (by simp [stepOk, hb, ha, f4, f3, InfI])) _ x14
    simp (config := { maxDischargeDepth := 60 }) [cB, bB.sk, bB.rk, c_h1, c_h2, sem_idxa rl.ok, rl.sk, sem_idxa r.ra.ok, r.ra.s0, r.ra.s1, r.ra.s2, r.ra.sr, sem_idxa rI.ok, rI.sk, sem_idxa rO.ok, rO.sk, c', ci, w1, c_h3, hb, b1, b2, b3, c_h4, f4]
    refine ef_bslice_all rfl rfl rfl ?_ (by omega)
    intro b5 h5 g5 B5 e5 o5
    have c_h5 : ∀ g, Ext g h4 → Ext g h5 := fun g e => Mod.trans e e5
    simp only [List.flatMap_cons, List.flatMap_nil, cells_intV, List.append_nil, List.cons_append, List.nil_append] at o5
    have r5 : Row64 h5 (Sl.at b5 3 3) [p, turnV N a b, (nthT N.as b).c] := Own.row64 (by simpa [ints64] using o5)
    simp only [← Sl.at_v]
    simp
    rw [← Sl.at_v]
    refine sum_spec C r5 (by simp) ?_
    simp [w1]
    refine ⟨⟨i + 1, _, _, _, _, _, _, _, _, _, _, _, _, rfl, by omega, ?_, fun j hj => ?_, ((x2.trans e3).trans e4).trans e5⟩, by simp [argI]; omega⟩
    · rw [costTo, if_neg f3, hb, ha, arcC, Int.toNat_natCast, ← hp]
      simp only [sumI, List.foldl_cons, List.foldl_nil]
      rw [addI_zero, held_id]
      rw [hp]; exact costTo_range
    · rcases Nat.lt_or_ge j i with q | q
      · exact hall j q
      · obtain rfl : j = i := by omega
        simp [stepOk, hb, ha, f1, arcC, InfI, f4]
        exact f2
  have c' : ¬ (i : Int) < s.n := by omega
  obtain rfl : i = s.n := by omega
  have hw : walkB N cs = true := walkB_iff.2 ⟨fun hn => by rw [hn] at ll; simp at ll; omega, fun i hi => hall i (by omega)⟩
  have := hr h2 x12
  rw [costV, hw, if_pos rfl, ll, ← hp] at this
  simp [c']
  exact this

theorem nwalk_spec (NF : NetFns2 Y) (T : TurnFns Y) (C : CostFns Y) {sv sa st s : Sl} {N : NetD} {cs : List Int} (r : NetH h sv sa st N) (rl : Row64 h s cs) (hbig : s.n ≤ 1000000) (bv : N.vs.length ≤ 4096) (ba : N.as.length ≤ 16384) (hA : ArcsIn N)
    {R : Value → Heap → Prop} (hr : ∀ h', Ext h h' → R (.bool (walkB N cs)) h') : CallP Y F.net_Walk [netV sv sa st, s.v] h R := by
  refine .of_has NF.Walk rfl ?_
  simp [S_net_Walk, FnS.wp, netV]
  refine ef_new_box ?_
  intro B hB gB bB eB
  have cB : ∀ g, Ext g h → Ext g hB := fun g e => Mod.trans e eB
  simp (config := { maxDischargeDepth := 60 }) [cB, bB.sk, bB.rk]
  refine nover_spec NF T C (r.ext eB) (rl.ext eB) hbig bv ba hA ?_
  intro h1 e1
  simp
  exact hr _ (eB.trans e1)
theorem ncost_spec (NF : NetFns2 Y) (T : TurnFns Y) (C : CostFns Y) {sv sa st s : Sl} {N : NetD} {cs : List Int} (r : NetH h sv sa st N) (rl : Row64 h s cs) (hbig : s.n ≤ 1000000) (bv : N.vs.length ≤ 4096) (ba : N.as.length ≤ 16384) (hA : ArcsIn N)
    {R : Value → Heap → Prop} (hr : ∀ h', Ext h h' → R (.int .i64 (costV N cs)) h') : CallP Y F.net_Cost [netV sv sa st, s.v] h R := by
  refine .of_has NF.Cost rfl ?_
  simp [S_net_Cost, FnS.wp, netV]
  refine ef_new_box ?_
  intro B hB gB bB eB
  have cB : ∀ g, Ext g h → Ext g hB := fun g e => Mod.trans e eB
  simp (config := { maxDischargeDepth := 60 }) [cB, bB.sk, bB.rk]
  refine nover_spec NF T C (r.ext eB) (rl.ext eB) hbig bv ba hA ?_
  intro h1 e1
  simp
  exact hr _ (eB.trans e1)
end
end Go.Rm

/- Nets that are alike: slices.Equal, slices.EqualFunc, net.Same, SameNet, SameInts. -/
set_option linter.unusedSimpArgs false
set_option linter.unusedVariables false
namespace Go.Rm

theorem nthT_ext {a b : List Tri} (hl : a.length = b.length) (h : ∀ j, j < a.length → nthT a j = nthT b j) : a = b := by
  apply List.ext_getElem hl
  intro j h1 h2
  have := h j h1
  rwa [nthT_eq h1, nthT_eq h2] at this
theorem nthB_ext {a b : List Tab} (hl : a.length = b.length) (h : ∀ j, j < a.length → nthB a j = nthB b j) : a = b := by
  apply List.ext_getElem hl
  intro j h1 h2
  have := h j h1
  rwa [nthB_eq h1, nthB_eq h2] at this
theorem decide_nets {N M : NetD} : decide (N = M) = (decide (N.vs = M.vs) && (decide (N.as = M.as) && decide (N.ts = M.ts))) := by
  obtain ⟨a, b, c⟩ := N
  obtain ⟨a', b', c'⟩ := M
  rw [Bool.eq_iff_iff]
  simp
theorem decide_tab {t u : Tab} : decide (t.i = u.i ∧ t.o = u.o ∧ t.cs = u.cs) = decide (t = u) := by
  obtain ⟨a, b, c⟩ := t
  obtain ⟨a', b', c'⟩ := u
  simp

section
variable {Y : Sys} {h : Heap}

def CallvP (Y : Sys) (x : Value) (xs : List Value) (h : Heap) (R : Value → Heap → Prop) : Prop :=
  match x with
  | .func (.func f) first cap => Y.able f ∧ Y.C f (first.toList ++ xs ++ cap.toList) h R
  | _ => False
@[simp] theorem il_callv {K : Kont} {e T : List Value} {x : Arg} {xs : List Arg} {d : Dst} {k : IL} : IL.wp Y K (.op (.callv x xs d) k) e T h = CallvP Y (x.ev Y e T) (xs.map (Arg.ev Y e T)) h (EfK Y K k d e T) := (rfl)
@[simp] theorem CallvP_func {j : Nat} {xs : List Value} {R : Value → Heap → Prop} : CallvP Y (.func (.func (Y.fid j)) #[] #[]) xs h R = (Y.able (Y.fid j) ∧ CallP Y j xs h R) := by
  simp [CallvP, CallP]

theorem sem_eqa3 {neg : Bool} {t u : Tri} : IOp.sem Y h (.eqa neg 3) [.agg #[.int .i64 t.a, .int .i64 t.b, .int .i64 t.c], .agg #[.int .i64 u.a, .int .i64 u.b, .int .i64 u.c]] = some (.bool (if neg then !decide (t = u) else decide (t = u))) := by
  have e : decide (t = u) = ((t.a == u.a) && ((t.b == u.b) && (t.c == u.c))) := by
    obtain ⟨a, b, c⟩ := t
    obtain ⟨a', b', c'⟩ := u
    rw [Bool.eq_iff_iff]
    simp
  rw [e]
  simp [IOp.sem, intsEq, eqOf]

def EqTI (s t : Sl) (a b : List Tri) (h0 : Heap) (e : List Value) (h' : Heap) : Prop :=
  ∃ (i : Nat) (v2 v3 v4 v7 v8 : Value), e = [s.v, t.v, v2, v3, v4, .int .i64 s.n, .int .i64 i, v7, v8] ∧ i ≤ s.n ∧ (∀ j, j < i → nthT a j = nthT b j) ∧ h' = h0

theorem equalV_spec (HE : Y.Has F.slices_Equal_net_Vert_net_Vert S_slices_Equal_net_Vert_net_Vert) {s t : Sl} {a b : List Tri} (ra : Row3 h s a) (rb : Row3 h t b) (hbig : a.length ≤ 1000000) {R : Value → Heap → Prop} (hr : R (.bool (decide (a = b))) h) : CallP Y F.slices_Equal_net_Vert_net_Vert [s.v, t.v] h R := by
  have la := ra.len
  have lb := rb.len
  refine .of_has HE rfl ?_
  simp [S_slices_Equal_net_Vert_net_Vert, FnS.wp]
  by_cases hn : s.n = t.n
  rotate_left
  · have : decide (a = b) = false := by
      rw [decide_eq_false_iff_not]
      intro e; rw [e] at la; omega
    rw [this] at hr
    have hn' : ¬ (s.n : Int) = t.n := by omega
    simp [hn', hr]
  have hn' : ((s.n : Int) = t.n) = True := by simp; omega
  simp [hn']
  refine wp_loop' (EqTI s t a b h) (fun e _ => s.n - argI e 6) ⟨0, _, _, _, _, _, rfl, by omega, fun j hj => by omega, rfl⟩ ?_
  rintro e h1 ⟨i, v2, v3, v4, v7, v8, rfl, hi, hall, rfl⟩
  by_cases c : i < s.n
  · have c' : (i : Int) < s.n := by omega
    have c'' : (i : Int) < t.n := by omega
    have ci : i < a.length := by omega
    have cj : i < b.length := by omega
    have w1 : IntKind.i64.wrap ((i : Int) + 1) = (i : Int) + 1 := i64_wrap (by omega)
    simp [c', c'', sem_idxa ra.ok, sem_idxa rb.ok, ra.rd ci, rb.rd cj, sem_eqa3]
    by_cases q : nthT a i = nthT b i
    · have q' : (nthT a i = nthT b i) = True := by simp [q]
      simp [q', w1]
      refine ⟨⟨i + 1, _, _, _, _, _, rfl, by omega, fun j hj => ?_, rfl⟩, by simp [argI]; omega⟩
      rcases Nat.lt_or_ge j i with g | g
      · exact hall j g
      · obtain rfl : j = i := by omega
        exact q
    · have : decide (a = b) = false := by
        rw [decide_eq_false_iff_not]
        intro e; exact q (by rw [e])
      rw [this] at hr
      simp [q, hr]
  · have c' : ¬ (i : Int) < s.n := by omega
    have : decide (a = b) = true := by
      rw [decide_eq_true_eq]
      exact nthT_ext (by omega) fun j hj => hall j (by omega)
    rw [this] at hr
    simp [c', hr]
theorem equalA_spec (HE : Y.Has F.slices_Equal_net_Arc_net_Arc S_slices_Equal_net_Arc_net_Arc) {s t : Sl} {a b : List Tri} (ra : Row3 h s a) (rb : Row3 h t b) (hbig : a.length ≤ 1000000) {R : Value → Heap → Prop} (hr : R (.bool (decide (a = b))) h) : CallP Y F.slices_Equal_net_Arc_net_Arc [s.v, t.v] h R := by
  have la := ra.len
  have lb := rb.len
  refine .of_has HE rfl ?_
  simp [S_slices_Equal_net_Arc_net_Arc, FnS.wp]
  by_cases hn : s.n = t.n
  rotate_left
  · have : decide (a = b) = false := by
      rw [decide_eq_false_iff_not]
      intro e; rw [e] at la; omega
    rw [this] at hr
    have hn' : ¬ (s.n : Int) = t.n := by omega
    simp [hn', hr]
  have hn' : ((s.n : Int) = t.n) = True := by simp; omega
  simp [hn']
  refine wp_loop' (EqTI s t a b h) (fun e _ => s.n - argI e 6) ⟨0, _, _, _, _, _, rfl, by omega, fun j hj => by omega, rfl⟩ ?_
  rintro e h1 ⟨i, v2, v3, v4, v7, v8, rfl, hi, hall, rfl⟩
  by_cases c : i < s.n
  · have c' : (i : Int) < s.n := by omega
    have c'' : (i : Int) < t.n := by omega
    have ci : i < a.length := by omega
    have cj : i < b.length := by omega
    have w1 : IntKind.i64.wrap ((i : Int) + 1) = (i : Int) + 1 := i64_wrap (by omega)
    simp [c', c'', sem_idxa ra.ok, sem_idxa rb.ok, ra.rd ci, rb.rd cj, sem_eqa3]
    by_cases q : nthT a i = nthT b i
    · have q' : (nthT a i = nthT b i) = True := by simp [q]
      simp [q', w1]
      refine ⟨⟨i + 1, _, _, _, _, _, rfl, by omega, fun j hj => ?_, rfl⟩, by simp [argI]; omega⟩
      rcases Nat.lt_or_ge j i with g | g
      · exact hall j g
      · obtain rfl : j = i := by omega
        exact q
    · have : decide (a = b) = false := by
        rw [decide_eq_false_iff_not]
        intro e; exact q (by rw [e])
      rw [this] at hr
      simp [q, hr]
  · have c' : ¬ (i : Int) < s.n := by omega
    have : decide (a = b) = true := by
      rw [decide_eq_true_eq]
      exact nthT_ext (by omega) fun j hj => hall j (by omega)
    rw [this] at hr
    simp [c', hr]

def EqFI (s t : Sl) (vf : Value) (a b : List Tab) (h0 : Heap) (e : List Value) (h' : Heap) : Prop :=
  ∃ (i : Nat) (v3 v4 v5 v6 v7 v11 v12 : Value), e = [s.v, t.v, vf, v3, v4, v5, v6, v7, s.v, .int .i64 s.n, .int .i64 i, v11, v12] ∧ i ≤ s.n ∧ (∀ j, j < i → nthB a j = nthB b j) ∧ Ext h0 h'

theorem equalT_spec (HE : Y.Has F.slices_EqualFunc_turn_Table_turn_Table_turn_Table_turn_Table S_slices_EqualFunc_turn_Table_turn_Table_turn_Table_turn_Table) (T : TurnEq Y) {s t : Sl} {a b : List Tab} (ra : RowT h s a) (rb : RowT h t b) (hbig : a.length ≤ 1000000)
    (hcs : ∀ i, i < a.length → (nthB a i).cs.length ≤ 1000000) {R : Value → Heap → Prop} (hr : ∀ h', Ext h h' → R (.bool (decide (a = b))) h') :
    CallP Y F.slices_EqualFunc_turn_Table_turn_Table_turn_Table_turn_Table [s.v, t.v, .func (.func (Y.fid F.turn_Same)) #[] #[]] h R := by
  have la := ra.len
  have lb := rb.len
  refine .of_has HE rfl ?_
  simp [S_slices_EqualFunc_turn_Table_turn_Table_turn_Table_turn_Table, FnS.wp]
  by_cases hn : s.n = t.n
  rotate_left
  · have : decide (a = b) = false := by
      rw [decide_eq_false_iff_not]
      intro e; rw [e] at la; omega
    rw [this] at hr
    have hn' : ¬ (s.n : Int) = t.n := by omega
    simp [hn', hr _ (Mod.refl h)]
  have hn' : ((s.n : Int) = t.n) = True := by simp; omega
  simp [hn']
  refine wp_loop' (EqFI s t (.func (.func (Y.fid F.turn_Same)) #[] #[]) a b h) (fun e _ => s.n - argI e 10) ⟨0, _, _, _, _, _, _, _, rfl, by omega, fun j hj => by omega, Mod.refl _⟩ ?_
  rintro e h1 ⟨i, v3, v4, v5, v6, v7, v11, v12, rfl, hi, hall, x1⟩
  have c_h1 : ∀ g, Ext g h → Ext g h1 := fun g e => Mod.trans e x1
  by_cases c : i < s.n
  · have c' : (i : Int) < s.n := by omega
    have c'' : (i : Int) < t.n := by omega
    have w1 : IntKind.i64.wrap ((i : Int) + 1) = (i : Int) + 1 := i64_wrap (by omega)
    obtain ⟨u, rdu, _, ru⟩ := (ra.ext x1).rd (i := i) (by omega)
    simp (config := { maxDischargeDepth := 60 }) [c_h1, c', c'', w1, sem_idxa ra.ok, sem_idxa rb.ok, rdu]
    refine new_store (vs := #[.int .i64 (nthB a i).i, .int .i64 (nthB a i).o, u.v]) rfl rfl (by simp) ?_
    intro C hCp gC bCp eCp stC
    have cCp : ∀ g, Ext g h1 → Ext g hCp := fun g e => Mod.trans e eCp
    simp (config := { maxDischargeDepth := 60 }) [c_h1, c', c'', w1, sem_idxa ra.ok, sem_idxa rb.ok, cCp]
    refine stC _ ?_
    intro hC bC eC
    clear cCp stC bCp eCp
    have cC : ∀ g, Ext g h1 → Ext g hC := fun g e => Mod.trans e eC
    have x2 := x1.trans eC
    obtain ⟨w, rdw, _, rw'⟩ := (rb.ext x2).rd (i := i) (by omega)
    simp (config := { maxDischargeDepth := 60 }) [c_h1, c', c'', w1, sem_idxa ra.ok, sem_idxa rb.ok, cC, bC.sk, bC.rk, rdw]
    refine new_store (vs := #[.int .i64 (nthB b i).i, .int .i64 (nthB b i).o, w.v]) rfl rfl (by simp) ?_
    intro D hDp gD bDp eDp stD
    have cDp : ∀ g, Ext g hC → Ext g hDp := fun g e => Mod.trans e eDp
    simp (config := { maxDischargeDepth := 60 }) [c_h1, c', c'', w1, sem_idxa ra.ok, sem_idxa rb.ok, cC, bC.sk, bC.rk, cDp]
    refine stD _ ?_
    intro hD bD eD
    clear cDp stD bDp eDp
    have cD : ∀ g, Ext g hC → Ext g hD := fun g e => Mod.trans e eD
    have x3 := x2.trans eD
    simp (config := { maxDischargeDepth := 60 }) [c_h1, c', c'', w1, sem_idxa ra.ok, sem_idxa rb.ok, cC, bC.sk, bC.rk, cD, bD.sk, bD.rk]
    refine ⟨T.Same.1, same_spec' T ((ru.ext eC).ext eD) (rw'.ext eD) (by have := hcs i (by omega); have := ru.len; omega) ?_⟩
    intro h2 e2
    rw [decide_tab]
    have x4 := x3.trans e2
    by_cases q : nthB a i = nthB b i
    · have q' : (nthB a i = nthB b i) = True := by simp [q]
      simp [q', w1]
      refine ⟨⟨i + 1, _, _, _, _, _, _, _, rfl, by omega, fun j hj => ?_, x4⟩, by simp [argI]; omega⟩
      rcases Nat.lt_or_ge j i with g | g
      · exact hall j g
      · obtain rfl : j = i := by omega
        exact q
    · have : decide (a = b) = false := by
        rw [decide_eq_false_iff_not]
        intro e; exact q (by rw [e])
      rw [this] at hr
      simp [q, hr _ x4]
  · have c' : ¬ (i : Int) < s.n := by omega
    have : decide (a = b) = true := by
      rw [decide_eq_true_eq]
      exact nthB_ext (by omega) fun j hj => hall j (by omega)
    rw [this] at hr
    simp [c', hr _ x1]

structure NetSame (Y : Sys) : Prop where
  Same : Y.Has F.net_Same S_net_Same
  V : Y.Has F.slices_Equal_net_Vert_net_Vert S_slices_Equal_net_Vert_net_Vert
  A : Y.Has F.slices_Equal_net_Arc_net_Arc S_slices_Equal_net_Arc_net_Arc
  T : Y.Has F.slices_EqualFunc_turn_Table_turn_Table_turn_Table_turn_Table S_slices_EqualFunc_turn_Table_turn_Table_turn_Table_turn_Table

/-- no row of a net is very long -/
structure NetSmall (N : NetD) : Prop where
  bv : N.vs.length ≤ 20000
  ba : N.as.length ≤ 20000
  bt : N.ts.length ≤ 20000
  bc : ∀ i, i < N.ts.length → (nthB N.ts i).cs.length ≤ 1000000

theorem nsame_spec (NS : NetSame Y) (T : TurnEq Y) {sv sa st sv' sa' st' : Sl} {N M : NetD} (r : NetH h sv sa st N) (r' : NetH h sv' sa' st' M) (b : NetSmall N) {R : Value → Heap → Prop}
    (hr : ∀ h', Ext h h' → R (.bool (decide (N = M))) h') : CallP Y F.net_Same [netV sv sa st, netV sv' sa' st'] h R := by
  rw [decide_nets] at hr
  refine .of_has NS.Same rfl ?_
  simp [S_net_Same, FnS.wp, netV]
  refine ef_new_box ?_
  intro B hB gB bB eB
  have cB : ∀ g, Ext g h → Ext g hB := fun g e => Mod.trans e eB
  simp (config := { maxDischargeDepth := 60 }) [cB, bB.sk, bB.rk]
  refine ef_new_box ?_
  intro C hC gC bC eC
  have cC : ∀ g, Ext g hB → Ext g hC := fun g e => Mod.trans e eC
  have x1 := eB.trans eC
  simp (config := { maxDischargeDepth := 60 }) [cB, bB.sk, bB.rk, cC, bC.sk, bC.rk]
  refine equalV_spec NS.V (r.rv.ext x1) (r'.rv.ext x1) (Nat.le_trans b.bv (by omega)) ?_
  by_cases c1 : N.vs = M.vs
  rotate_left
  · simp [c1] at hr
    simp [c1]
    exact hr _ x1
  have c1' : (N.vs = M.vs) = True := by simp [c1]
  simp [c1'] at hr
  simp (config := { maxDischargeDepth := 60 }) [cB, bB.sk, bB.rk, cC, bC.sk, bC.rk, c1']
  refine equalA_spec NS.A (r.ra.ext x1) (r'.ra.ext x1) (Nat.le_trans b.ba (by omega)) ?_
  by_cases c2 : N.as = M.as
  rotate_left
  · simp [c2] at hr
    simp [c2]
    exact hr _ x1
  have c2' : (N.as = M.as) = True := by simp [c2]
  simp [c2'] at hr
  simp (config := { maxDischargeDepth := 60 }) [cB, bB.sk, bB.rk, cC, bC.sk, bC.rk, c2']
  refine equalT_spec NS.T T (r.rt.ext x1) (r'.rt.ext x1) (Nat.le_trans b.bt (by omega)) b.bc ?_
  intro h1 e1
  simp
  exact hr _ (x1.trans e1)

def RSn1 (v0 v1 : Value) (B C : Nat) (n : Nat) (a b : List Tri) (h0 : Heap) (e : List Value) (h' : Heap) : Prop :=
  ∃ (i : Nat) (v4 v6 v7 v8 v9 v10 v11 v12 v13 v14 : Value), e = [v0, v1, .pointer (some ⟨B, 0, none⟩), .pointer (some ⟨C, 0, none⟩), v4, .int .i64 i, v6, v7, v8, v9, v10, v11, v12, v13, v14] ∧ i ≤ n ∧ (∀ j, j < i → nthT a j = nthT b j) ∧ h' = h0
def RSn2 (v0 v1 : Value) (B C : Nat) (n : Nat) (a b : List Tri) (h0 : Heap) (e : List Value) (h' : Heap) : Prop :=
  ∃ (i : Nat) (v4 v5 v7 v8 v9 v10 v11 v12 v13 v14 : Value), e = [v0, v1, .pointer (some ⟨B, 0, none⟩), .pointer (some ⟨C, 0, none⟩), v4, v5, .int .i64 i, v7, v8, v9, v10, v11, v12, v13, v14] ∧ i ≤ n ∧ (∀ j, j < i → nthT a j = nthT b j) ∧ h' = h0
def RSn3 (v0 v1 : Value) (B C : Nat) (n : Nat) (a b : List Tab) (h0 : Heap) (e : List Value) (h' : Heap) : Prop :=
  ∃ (i : Nat) (v4 v5 v6 v8 v9 v10 v11 v12 v13 v14 : Value), e = [v0, v1, .pointer (some ⟨B, 0, none⟩), .pointer (some ⟨C, 0, none⟩), v4, v5, v6, .int .i64 i, v8, v9, v10, v11, v12, v13, v14] ∧ i ≤ n ∧ (∀ j, j < i → nthB a j = nthB b j) ∧ Ext h0 h'

theorem rsamenet_spec (HS : Y.Has F.rref6_SameNet S_rref6_SameNet) (T : RefTab Y) {sv sa st sv' sa' st' : Sl} {N M : NetD} (r : NetH h sv sa st N) (r' : NetH h sv' sa' st' M) (b : NetSmall N) {R : Value → Heap → Prop}
    (hr : ∀ h', Ext h h' → R (.bool (decide (N = M))) h') : CallP Y F.rref6_SameNet [netV sv sa st, netV sv' sa' st'] h R := by
  have lv := r.rv.len
  have la := r.ra.len
  have lt := r.rt.len
  have lv' := r'.rv.len
  have la' := r'.ra.len
  have lt' := r'.rt.len
  obtain ⟨b1, b2, b3, b4⟩ := b
  refine .of_has HS rfl ?_
  simp [S_rref6_SameNet, FnS.wp, netV]
  refine ef_new_box ?_
  intro B hB gB bB eB
  have cB : ∀ g, Ext g h → Ext g hB := fun g e => Mod.trans e eB
  simp (config := { maxDischargeDepth := 60 }) [cB, bB.sk, bB.rk]
  refine ef_new_box ?_
  intro C hC gC bC eC
  have cC : ∀ g, Ext g hB → Ext g hC := fun g e => Mod.trans e eC
  have x1 := eB.trans eC
  have no : N ≠ M → ∀ h', Ext h h' → R (.bool false) h' := fun hn h' e => by
    have := hr h' e
    rwa [decide_eq_false hn] at this
  by_cases c1 : sv.n = sv'.n
  rotate_left
  · have c1' : ¬ (sv.n : Int) = sv'.n := by omega
    simp (config := { maxDischargeDepth := 60 }) [cB, bB.sk, bB.rk, cC, bC.sk, bC.rk, c1']
    exact no (fun e => by rw [e] at lv; omega) _ x1
  have c1' : ((sv.n : Int) = sv'.n) = True := by simp; omega
  by_cases c2 : sa.n = sa'.n
  rotate_left
  · have c2' : ¬ (sa.n : Int) = sa'.n := by omega
    simp (config := { maxDischargeDepth := 60 }) [cB, bB.sk, bB.rk, cC, bC.sk, bC.rk, c1', c2']
    exact no (fun e => by rw [e] at la; omega) _ x1
  have c2' : ((sa.n : Int) = sa'.n) = True := by simp; omega
  by_cases c3 : st.n = st'.n
  rotate_left
  · have c3' : ¬ (st.n : Int) = st'.n := by omega
    simp (config := { maxDischargeDepth := 60 }) [cB, bB.sk, bB.rk, cC, bC.sk, bC.rk, c1', c2', c3']
    exact no (fun e => by rw [e] at lt; omega) _ x1
  have c3' : ((st.n : Int) = st'.n) = True := by simp; omega
  simp (config := { maxDischargeDepth := 60 }) [cB, bB.sk, bB.rk, cC, bC.sk, bC.rk, c1', c2', c3']
  refine wp_loop' (RSn1 (netV sv sa st) (netV sv' sa' st') B C sv.n N.vs M.vs hC) (fun e _ => sv.n - argI e 5) ⟨0, _, _, _, _, _, _, _, _, _, _, rfl, by omega, fun j hj => by omega, rfl⟩ ?_
  rintro e h1 ⟨i, v4, v6, v7, v8, v9, v10, v11, v12, v13, v14, rfl, hi, hall, rfl⟩
  by_cases c : i < sv.n
  · have c' : (i : Int) < sv.n := by omega
    have c'' : (i : Int) < sv'.n := by omega
    have ci : i < N.vs.length := by omega
    have cj : i < M.vs.length := by omega
    have w1 : IntKind.i64.wrap ((i : Int) + 1) = (i : Int) + 1 := i64_wrap (by omega)
    simp (config := { maxDischargeDepth := 60 }) [cB, bB.sk, bB.rk, cC, bC.sk, bC.rk, sem_idxa r.rv.ok, sem_idxa r'.rv.ok, sem_idxa r.ra.ok, sem_idxa r'.ra.ok, sem_idxa r.rt.ok, sem_idxa r'.rt.ok, r.rv.sr, r'.rv.sr, r.ra.sr, r'.ra.sr, c', c'', ci, cj, sem_eqa3]
    by_cases q : nthT N.vs i = nthT M.vs i
    · have q' : (nthT N.vs i = nthT M.vs i) = True := by simp [q]
      simp [q', w1]
      refine ⟨⟨i + 1, _, _, _, _, _, _, _, _, _, _, rfl, by omega, fun j hj => ?_, rfl⟩, by simp [argI]; omega⟩
      rcases Nat.lt_or_ge j i with g | g
      · exact hall j g
      · obtain rfl : j = i := by omega
        exact q
    · simp [q]
      exact no (fun e => q (by rw [e])) _ x1
  have c' : ¬ (i : Int) < sv.n := by omega
  have ev : N.vs = M.vs := nthT_ext (by omega) fun j hj => hall j (by omega)
  clear hall hi c
  simp (config := { maxDischargeDepth := 60 }) [cB, bB.sk, bB.rk, cC, bC.sk, bC.rk, sem_idxa r.rv.ok, sem_idxa r'.rv.ok, sem_idxa r.ra.ok, sem_idxa r'.ra.ok, sem_idxa r.rt.ok, sem_idxa r'.rt.ok, r.rv.sr, r'.rv.sr, r.ra.sr, r'.ra.sr, c']
  clear c'
  refine wp_loop' (RSn2 (netV sv sa st) (netV sv' sa' st') B C sa.n N.as M.as h1) (fun e _ => sa.n - argI e 6) ⟨0, _, _, _, _, _, _, _, _, _, _, rfl, by omega, fun j hj => by omega, rfl⟩ ?_
  rintro e h1 ⟨i, v4, v5, v7, v8, v9, v10, v11, v12, v13, v14, rfl, hi, hall, rfl⟩
  by_cases c : i < sa.n
  · have c' : (i : Int) < sa.n := by omega
    have c'' : (i : Int) < sa'.n := by omega
    have ci : i < N.as.length := by omega
    have cj : i < M.as.length := by omega
    have w1 : IntKind.i64.wrap ((i : Int) + 1) = (i : Int) + 1 := i64_wrap (by omega)
    simp (config := { maxDischargeDepth := 60 }) [cB, bB.sk, bB.rk, cC, bC.sk, bC.rk, sem_idxa r.rv.ok, sem_idxa r'.rv.ok, sem_idxa r.ra.ok, sem_idxa r'.ra.ok, sem_idxa r.rt.ok, sem_idxa r'.rt.ok, r.rv.sr, r'.rv.sr, r.ra.sr, r'.ra.sr, c', c'', ci, cj, sem_eqa3]
    by_cases q : nthT N.as i = nthT M.as i
    · have q' : (nthT N.as i = nthT M.as i) = True := by simp [q]
      simp [q', w1]
      refine ⟨⟨i + 1, _, _, _, _, _, _, _, _, _, _, rfl, by omega, fun j hj => ?_, rfl⟩, by simp [argI]; omega⟩
      rcases Nat.lt_or_ge j i with g | g
      · exact hall j g
      · obtain rfl : j = i := by omega
        exact q
    · simp [q]
      exact no (fun e => q (by rw [e])) _ x1
  have c' : ¬ (i : Int) < sa.n := by omega
  have ea : N.as = M.as := nthT_ext (by omega) fun j hj => hall j (by omega)
  clear hall hi c
  simp (config := { maxDischargeDepth := 60 }) [cB, bB.sk, bB.rk, cC, bC.sk, bC.rk, sem_idxa r.rv.ok, sem_idxa r'.rv.ok, sem_idxa r.ra.ok, sem_idxa r'.ra.ok, sem_idxa r.rt.ok, sem_idxa r'.rt.ok, r.rv.sr, r'.rv.sr, r.ra.sr, r'.ra.sr, c']
  clear c'
  refine wp_loop' (RSn3 (netV sv sa st) (netV sv' sa' st') B C st.n N.ts M.ts h1) (fun e _ => st.n - argI e 7) ⟨0, _, _, _, _, _, _, _, _, _, _, rfl, by omega, fun j hj => by omega, Mod.refl _⟩ ?_
  rintro e h2 ⟨i, v4, v5, v6, v8, v9, v10, v11, v12, v13, v14, rfl, hi, hall, x2⟩
  have x12 := x1.trans x2
  have k2 : ∀ g, Ext g h1 → Ext g h2 := fun g e => Mod.trans e x2
  by_cases c : i < st.n
  · have c' : (i : Int) < st.n := by omega
    have c'' : (i : Int) < st'.n := by omega
    have w1 : IntKind.i64.wrap ((i : Int) + 1) = (i : Int) + 1 := i64_wrap (by omega)
    obtain ⟨u, rdu, _, ru⟩ := (r.rt.ext x12).rd (i := i) (by omega)
    obtain ⟨w, rdw, _, rw'⟩ := (r'.rt.ext x12).rd (i := i) (by omega)
    simp (config := { maxDischargeDepth := 60 }) [cB, bB.sk, bB.rk, cC, bC.sk, bC.rk, sem_idxa r.rv.ok, sem_idxa r'.rv.ok, sem_idxa r.ra.ok, sem_idxa r'.ra.ok, sem_idxa r.rt.ok, sem_idxa r'.rt.ok, r.rv.sr, r'.rv.sr, r.ra.sr, r'.ra.sr, c', c'', k2, rdu, rdw]
    refine rsamet_spec T ru rw' (by have := b4 i (by omega); have := ru.len; omega) ?_
    intro h3 e3
    rw [decide_tab]
    have x3 := x12.trans e3
    by_cases q : nthB N.ts i = nthB M.ts i
    · have q' : (nthB N.ts i = nthB M.ts i) = True := by simp [q]
      simp [q', w1]
      refine ⟨⟨i + 1, _, _, _, _, _, _, _, _, _, _, rfl, by omega, fun j hj => ?_, x2.trans e3⟩, by simp [argI]; omega⟩
      rcases Nat.lt_or_ge j i with g | g
      · exact hall j g
      · obtain rfl : j = i := by omega
        exact q
    · simp [q]
      exact no (fun e => q (by rw [e])) _ x3
  have c' : ¬ (i : Int) < st.n := by omega
  have et : N.ts = M.ts := nthB_ext (by omega) fun j hj => hall j (by omega)
  have e : N = M := by
    obtain ⟨a, b, c⟩ := N
    obtain ⟨a', b', c'⟩ := M
    simp only at ev ea et
    rw [ev, ea, et]
  have := hr h2 x12
  rw [decide_eq_true e] at this
  simp (config := { maxDischargeDepth := 60 }) [cB, bB.sk, bB.rk, cC, bC.sk, bC.rk, sem_idxa r.rv.ok, sem_idxa r'.rv.ok, sem_idxa r.ra.ok, sem_idxa r'.ra.ok, sem_idxa r.rt.ok, sem_idxa r'.rt.ok, r.rv.sr, r'.rv.sr, r.ra.sr, r'.ra.sr, c', k2]
  exact this

def SIntI (s t : Sl) (a b : List Int) (h0 : Heap) (e : List Value) (h' : Heap) : Prop :=
  ∃ (i : Nat) (v2 v4 v5 v6 : Value), e = [s.v, t.v, v2, .int .i64 i, v4, v5, v6] ∧ i ≤ s.n ∧ (∀ j, j < i → nthI a j = nthI b j) ∧ h' = h0

theorem rsameints_spec (HE : Y.Has F.rref6_SameInts S_rref6_SameInts) {s t : Sl} {a b : List Int} (ra : Row64 h s a) (rb : Row64 h t b) (hbig : s.n ≤ 1000000) {R : Value → Heap → Prop} (hr : R (.bool (decide (a = b))) h) : CallP Y F.rref6_SameInts [s.v, t.v] h R := by
  have la := ra.len
  have lb := rb.len
  refine .of_has HE rfl ?_
  simp [S_rref6_SameInts, FnS.wp]
  by_cases hn : s.n = t.n
  rotate_left
  · have : decide (a = b) = false := by
      rw [decide_eq_false_iff_not]
      intro e; rw [e] at la; omega
    rw [this] at hr
    have hn' : ¬ (s.n : Int) = t.n := by omega
    simp [hn', hr]
  have hn' : ((s.n : Int) = t.n) = True := by simp; omega
  simp [hn']
  refine wp_loop' (SIntI s t a b h) (fun e _ => s.n - argI e 3) ⟨0, _, _, _, _, rfl, by omega, fun j hj => by omega, rfl⟩ ?_
  rintro e h1 ⟨i, v2, v4, v5, v6, rfl, hi, hall, rfl⟩
  by_cases c : i < s.n
  · have c' : (i : Int) < s.n := by omega
    have c'' : (i : Int) < t.n := by omega
    have ci : i < a.length := by omega
    have cj : i < b.length := by omega
    have w1 : IntKind.i64.wrap ((i : Int) + 1) = (i : Int) + 1 := i64_wrap (by omega)
    simp [c', c'', sem_idxa ra.ok, sem_idxa rb.ok, ra.val i ci, rb.val i cj]
    by_cases q : nthI a i = nthI b i
    · have q' : (nthI a i = nthI b i) = True := by simp [q]
      simp [q', w1]
      refine ⟨⟨i + 1, _, _, _, _, rfl, by omega, fun j hj => ?_, rfl⟩, by simp [argI]; omega⟩
      rcases Nat.lt_or_ge j i with g | g
      · exact hall j g
      · obtain rfl : j = i := by omega
        exact q
    · have : decide (a = b) = false := by
        rw [decide_eq_false_iff_not]
        intro e; exact q (by rw [e])
      rw [this] at hr
      simp [q, hr]
  · have c' : ¬ (i : Int) < s.n := by omega
    have : decide (a = b) = true := by
      rw [decide_eq_true_eq]
      exact nthI_ext (by omega) fun j hj => hall j (by omega)
    rw [this] at hr
    simp [c', hr]
end
end Go.Rm

/- The document's nets: Ins, Outs, Turn, Walk, Cost. -/
set_option linter.unusedSimpArgs false
set_option linter.unusedVariables false
namespace Go.Rm

/-- a net that may be -/
structure NetOK (N : NetD) : Prop where
  bv : N.vs.length ≤ 4096
  ba : N.as.length ≤ 16384
  bt : N.ts.length ≤ 256
  tab : ∀ i, i < N.ts.length → (tabWr (nthB N.ts i)).2 = 0
  vx : ∀ i, i < N.vs.length → farB (nthT N.vs i).a = false ∧ farB (nthT N.vs i).b = false
  vt : ∀ i, i < N.vs.length → vtxB N.ts.length (nthT N.vs i).c = true
  arcs : ArcsIn N
  w : ∀ i, i < N.as.length → weightB (nthT N.as i).c = true
  meet : ∀ i, i < N.vs.length → insN N.as i ≤ 16 ∧ outsN N.as i ≤ 16 ∧ (nthB N.ts (nthT N.vs i).c.toNat).i = insN N.as i ∧ (nthB N.ts (nthT N.vs i).c.toNat).o = outsN N.as i

theorem orW_zero {a b : Wr} : (orW a b).2 = 0 ↔ a.2 = 0 ∧ b.2 = 0 := by
  unfold orW
  split
  · rename_i h; simp [h]
  · rename_i h
    have : a.2 = 0 := by simpa using h
    simp [this]
theorem typesW_zero : ∀ {l : List Tab} {k : Nat}, (typesW k l).2 = 0 ↔ ∀ i, i < l.length → (tabWr (nthB l i)).2 = 0 := by
  intro l
  induction l with
  | nil => intro k; simp [typesW, wOK]
  | cons t r ih =>
    intro k
    rw [typesW]
    split
    · rename_i c
      constructor
      · intro h0
        unfold withinW at h0
        rw [if_neg c] at h0
        exact absurd h0 c
      · intro h
        exact absurd (h 0 (by simp)) (by simpa [nthB] using c)
    · rename_i c
      rw [ih]
      constructor
      · intro h i hi
        cases i with
        | zero => simpa [nthB] using c
        | succ i => exact h i (by simpa using hi)
      · intro h i hi
        exact h (i + 1) (by simpa using hi)
theorem vertW_zero {nt k : Nat} {v : Tri} : (vertW nt k v).2 = 0 ↔ farB v.a = false ∧ farB v.b = false ∧ vtxB nt v.c = true := by
  unfold vertW
  cases farB v.a <;> cases farB v.b <;> cases vtxB nt v.c <;> simp [atW, wOK]
theorem vertsW_zero {nt : Nat} : ∀ {l : List Tri} {k : Nat}, (vertsW nt k l).2 = 0 ↔ ∀ i, i < l.length → farB (nthT l i).a = false ∧ farB (nthT l i).b = false ∧ vtxB nt (nthT l i).c = true := by
  intro l
  induction l with
  | nil => intro k; simp [vertsW, wOK]
  | cons t r ih =>
    intro k
    rw [vertsW]
    split
    · rename_i c
      constructor
      · intro h0
        exact absurd h0 c
      · intro h
        exact absurd (vertW_zero.2 (h 0 (by simp))) (by simpa [nthT] using c)
    · rename_i c
      rw [ih]
      constructor
      · intro h i hi
        cases i with
        | zero => exact (vertW_zero (k := k) (v := t)).1 (by simpa using c)
        | succ i => exact h i (by simpa using hi)
      · intro h i hi
        exact h (i + 1) (by simpa using hi)
theorem arcW_zero {nv k : Nat} {a : Tri} : (arcW nv k a).2 = 0 ↔ vtxB nv a.a = true ∧ vtxB nv a.b = true ∧ weightB a.c = true := by
  unfold arcW
  cases vtxB nv a.a <;> cases vtxB nv a.b <;> cases weightB a.c <;> simp [atW, wOK]
theorem arcsW_zero {nv : Nat} : ∀ {l : List Tri} {k : Nat}, (arcsW nv k l).2 = 0 ↔ ∀ i, i < l.length → vtxB nv (nthT l i).a = true ∧ vtxB nv (nthT l i).b = true ∧ weightB (nthT l i).c = true := by
  intro l
  induction l with
  | nil => intro k; simp [arcsW, wOK]
  | cons t r ih =>
    intro k
    rw [arcsW]
    split
    · rename_i c
      constructor
      · intro h0
        exact absurd h0 c
      · intro h
        exact absurd (arcW_zero.2 (h 0 (by simp))) (by simpa [nthT] using c)
    · rename_i c
      rw [ih]
      constructor
      · intro h i hi
        cases i with
        | zero => exact (arcW_zero (k := k) (a := t)).1 (by simpa using c)
        | succ i => exact h i (by simpa using hi)
      · intro h i hi
        exact h (i + 1) (by simpa using hi)
theorem meet1_zero {N : NetD} {k : Nat} {v : Tri} : (meet1 N k v).2 = 0 ↔ insN N.as k ≤ 16 ∧ outsN N.as k ≤ 16 ∧ (nthB N.ts v.c.toNat).i = insN N.as k ∧ (nthB N.ts v.c.toNat).o = outsN N.as k := by
  unfold meet1
  split
  · rename_i c
    simp [atW]
    omega
  · rename_i c
    split
    · rename_i d
      simp [atW]
      omega
    · rename_i d
      simp [wOK]
      omega
theorem meetW_zero {N : NetD} : ∀ {l : List Tri} {k : Nat}, (meetW N k l).2 = 0 ↔ ∀ i, i < l.length → insN N.as (k + i) ≤ 16 ∧ outsN N.as (k + i) ≤ 16 ∧ (nthB N.ts (nthT l i).c.toNat).i = insN N.as (k + i) ∧ (nthB N.ts (nthT l i).c.toNat).o = outsN N.as (k + i) := by
  intro l
  induction l with
  | nil => intro k; simp [meetW, wOK]
  | cons t r ih =>
    intro k
    rw [meetW]
    split
    · rename_i c
      constructor
      · intro h0
        exact absurd h0 c
      · intro h
        exact absurd (meet1_zero.2 (h 0 (by simp))) (by simpa [nthT] using c)
    · rename_i c
      rw [ih]
      constructor
      · intro h i hi
        cases i with
        | zero => exact (meet1_zero (k := k) (v := t)).1 (by simpa using c)
        | succ i =>
          have := h i (by simpa using hi)
          rw [show k + 1 + i = k + (i + 1) by omega] at this
          exact this
      · intro h i hi
        have := h (i + 1) (by simpa using hi)
        rw [show k + (i + 1) = k + 1 + i by omega] at this
        exact this
theorem sizeW_zero {N : NetD} : (sizeW N).2 = 0 ↔ N.vs.length ≤ 4096 ∧ N.as.length ≤ 16384 ∧ N.ts.length ≤ 256 := by
  unfold sizeW
  split
  · simp [atW]; omega
  · split
    · simp [atW]; omega
    · split
      · simp [atW]; omega
      · simp [wOK]; omega
theorem netOK_iff {N : NetD} : (netW N).2 = 0 ↔ NetOK N := by
  unfold netW
  rw [orW_zero, orW_zero, orW_zero, orW_zero, sizeW_zero, typesW_zero, vertsW_zero, arcsW_zero, meetW_zero]
  constructor
  · rintro ⟨⟨a, b, c⟩, d, e, f, g⟩
    exact ⟨a, b, c, d, fun i hi => ⟨(e i hi).1, (e i hi).2.1⟩, fun i hi => (e i hi).2.2, fun i hi => ⟨(f i hi).1, (f i hi).2.1⟩, fun i hi => (f i hi).2.2, fun i hi => by have := g i hi; rwa [Nat.zero_add] at this⟩
  · rintro ⟨a, b, c, d, e1, e2, f1, f2, g⟩
    exact ⟨⟨a, b, c⟩, d, fun i hi => ⟨(e1 i hi).1, (e1 i hi).2, e2 i hi⟩, fun i hi => ⟨(f1 i hi).1, (f1 i hi).2, f2 i hi⟩, fun i hi => by rw [Nat.zero_add]; exact g i hi⟩
theorem tabWr_ok {t : Tab} (h : (tabWr t).2 = 0) : tabWr t = wOK := by
  obtain ⟨_, _, _, _, _, _, h⟩ := tab_ok (ins := t.i) (outs := t.o) (cs := t.cs) h
  exact h
theorem netW_ok {N : NetD} (h : NetOK N) : netW N = wOK := by
  have hs : sizeW N = wOK := by
    obtain ⟨a, b, c⟩ := (⟨h.bv, h.ba, h.bt⟩ : _ ∧ _ ∧ _)
    unfold sizeW
    rw [if_neg (by omega), if_neg (by omega), if_neg (by omega)]
  have ht : ∀ {l : List Tab} {k : Nat}, (typesW k l).2 = 0 → typesW k l = wOK := by
    intro l
    induction l with
    | nil => intro k _; rfl
    | cons t r ih =>
      intro k h0
      rw [typesW] at h0 ⊢
      split at h0
      · rename_i c
        unfold withinW at h0
        rw [if_neg c] at h0
        exact absurd h0 c
      · rename_i c
        rw [if_neg c]
        exact ih h0
  have hv : ∀ {l : List Tri} {k : Nat}, (vertsW N.ts.length k l).2 = 0 → vertsW N.ts.length k l = wOK := by
    intro l
    induction l with
    | nil => intro k _; rfl
    | cons t r ih =>
      intro k h0
      rw [vertsW] at h0 ⊢
      split at h0
      · rename_i c
        exact absurd h0 c
      · rename_i c
        rw [if_neg c]
        exact ih h0
  have ha : ∀ {l : List Tri} {k : Nat}, (arcsW N.vs.length k l).2 = 0 → arcsW N.vs.length k l = wOK := by
    intro l
    induction l with
    | nil => intro k _; rfl
    | cons t r ih =>
      intro k h0
      rw [arcsW] at h0 ⊢
      split at h0
      · rename_i c
        exact absurd h0 c
      · rename_i c
        rw [if_neg c]
        exact ih h0
  have hm : ∀ {l : List Tri} {k : Nat}, (meetW N k l).2 = 0 → meetW N k l = wOK := by
    intro l
    induction l with
    | nil => intro k _; rfl
    | cons t r ih =>
      intro k h0
      rw [meetW] at h0 ⊢
      split at h0
      · rename_i c
        exact absurd h0 c
      · rename_i c
        rw [if_neg c]
        exact ih h0
  have h0 := netOK_iff.2 h
  unfold netW at h0 ⊢
  rw [orW_zero, orW_zero, orW_zero, orW_zero] at h0
  obtain ⟨h1, h2, h3, h4, h5⟩ := h0
  rw [orW_r h1, orW_r h2, orW_r h3, orW_r h4, hm h5]

/-- the place of a number among the numbers of those that are so -/
theorem placeF_idxF {p : Tri → Bool} : ∀ {l : List Tri} {k q a : Nat}, a < l.length → p (nthT l a) = true → placeF q (idxF p k l) ((k + a : Nat) : Int) = ((q + ((l.take a).filter p).length : Nat) : Int) := by
  intro l
  induction l with
  | nil => intro k q a ha; simp at ha
  | cons t r ih =>
    intro k q a ha hp
    rw [idxF]
    cases a with
    | zero =>
      have : p t = true := by simpa [nthT] using hp
      rw [if_pos this]
      simp [placeF]
    | succ a =>
      have ha' : a < r.length := by simpa using ha
      have hp' : p (nthT r a) = true := by simpa [nthT] using hp
      by_cases c : p t = true
      · rw [if_pos c, placeF, if_neg (by omega)]
        have := ih (k := k + 1) (q := q + 1) ha' hp'
        rw [show k + 1 + a = k + (a + 1) by omega] at this
        rw [this]
        simp [c]
        omega
      · rw [if_neg c]
        have := ih (k := k + 1) (q := q) ha' hp'
        rw [show k + 1 + a = k + (a + 1) by omega] at this
        rw [this]
        simp [c]
theorem placeF_ins {as : List Tri} {a : Nat} (ha : a < as.length) : placeF 0 (insO as (nthT as a).b) a = cntB as a a := by
  have := placeF_idxF (p := fun t => decide (t.b = (nthT as a).b)) (l := as) (k := 0) (q := 0) ha (by simp)
  rw [Nat.zero_add, Nat.zero_add] at this
  exact this
theorem placeF_outs {as : List Tri} {a : Nat} (ha : a < as.length) : placeF 0 (outsO as (nthT as a).a) a = cntA as a a := by
  have := placeF_idxF (p := fun t => decide (t.a = (nthT as a).a)) (l := as) (k := 0) (q := 0) ha (by simp)
  rw [Nat.zero_add, Nat.zero_add] at this
  exact this
/-- no arc ends (begins) where there is no vertex -/
theorem insO_none {N : NetD} (hA : ArcsIn N) {v : Int} (hv : vtxB N.vs.length v = false) : insO N.as v = [] := by
  apply List.eq_nil_of_length_eq_zero
  rw [insO, idxF_len]
  apply List.length_eq_zero_iff.2
  rw [List.filter_eq_nil_iff]
  intro t ht
  obtain ⟨i, hi, rfl⟩ := List.getElem_of_mem ht
  have := (hA i hi).2
  rw [nthT_eq hi] at this
  simp only [decide_eq_true_eq]
  intro e
  rw [e, hv] at this
  cases this
theorem outsO_none {N : NetD} (hA : ArcsIn N) {v : Int} (hv : vtxB N.vs.length v = false) : outsO N.as v = [] := by
  apply List.eq_nil_of_length_eq_zero
  rw [outsO, idxF_len]
  apply List.length_eq_zero_iff.2
  rw [List.filter_eq_nil_iff]
  intro t ht
  obtain ⟨i, hi, rfl⟩ := List.getElem_of_mem ht
  have := (hA i hi).1
  rw [nthT_eq hi] at this
  simp only [decide_eq_true_eq]
  intro e
  rw [e, hv] at this
  cases this

structure RefNet2 (Y : Sys) : Prop where
  There : Y.Has F.rref6_There S_rref6_There
  Place : Y.Has F.rref6_Place S_rref6_Place
  Ins : Y.Has F.rref6_Ins S_rref6_Ins
  Outs : Y.Has F.rref6_Outs S_rref6_Outs
  Turn : Y.Has F.rref6_Turn S_rref6_Turn
structure RefWalk (Y : Sys) : Prop where
  Walk : Y.Has F.rref6_Walk S_rref6_Walk
  Cost : Y.Has F.rref6_Cost S_rref6_Cost

section
variable {Y : Sys} {h : Heap}

def RInsI (v0 : Value) (B : Nat) (v : Int) (n : Nat) (as : List Tri) (h0 : Heap) (e : List Value) (h' : Heap) : Prop :=
  ∃ (i : Nat) (s : Sl) (v6 v7 : Value), e = [v0, .int .i64 v, .pointer (some ⟨B, 0, none⟩), .slice none 0 0, s.v, .int .i64 i, v6, v7] ∧ i ≤ n ∧ Own h' 1 s (ints64 (insO (as.take i) v)) ∧ (s.nl = true ∨ h0.size ≤ s.b) ∧ Ext h0 h'

theorem rins_spec (RN : RefNet2 Y) {sv sa st : Sl} {N : NetD} (r : NetH h sv sa st N) (ba : N.as.length ≤ 16384) {v : Int} {R : Value → Heap → Prop}
    (hr : ∀ h' s, Ext h h' → Own h' 1 s (ints64 (insO N.as v)) → (s.nl = true ∨ h.size ≤ s.b) → R s.v h') : CallP Y F.rref6_Ins [netV sv sa st, .int .i64 v] h R := by
  have la := r.ra.len
  refine .of_has RN.Ins rfl ?_
  simp [S_rref6_Ins, FnS.wp, netV]
  refine ef_new_box ?_
  intro B hB gB bB eB
  have cB : ∀ g, Ext g h → Ext g hB := fun g e => Mod.trans e eB
  simp
  refine wp_loop' (RInsI (netV sv sa st) B v sa.n N.as hB) (fun e _ => sa.n - argI e 5) ⟨0, Sl.nil, _, _, rfl, by omega, Own.nil, .inl rfl, Mod.refl _⟩ ?_
  rintro e h2 ⟨i, s, v6, v7, rfl, hi, o2, hs2, x2⟩
  have c_h2 : ∀ g, Ext g hB → Ext g h2 := fun g e => Mod.trans e x2
  by_cases c : i < sa.n
  · have c' : (i : Int) < sa.n := by omega
    have ci : i < N.as.length := by omega
    have w1 : IntKind.i64.wrap ((i : Int) + 1) = (i : Int) + 1 := i64_wrap (by omega)
    have sn := idxF_snoc (p := fun t => decide (t.b = v)) ci
    have nS : s.n ≤ i := by
      have := o2.1
      rw [ints64_len, insO, idxF_len, Nat.mul_one] at this
      have := List.length_filter_le (fun t : Tri => decide (t.b = v)) (N.as.take i)
      simp at this; omega
    by_cases q : (nthT N.as i).b = v
    · have q' : ((nthT N.as i).b = v) = True := by simp [q]
      simp only [q', decide_true, if_true] at sn
      simp (config := { maxDischargeDepth := 60 }) [cB, bB.sk, bB.rk, c_h2, c', ci, w1, sem_idxa r.ra.ok, r.ra.s0, r.ra.s1, r.ra.s2, q', ef_bslice1_int]
      intro t
      refine ef_append1 rfl o2 (by omega) (by omega) ?_
      intro s' h3 o4 hn4 m4 hs4
      have x4 : Ext hB h3 := Mod.ext x2 m4 (fun j hj => by have := hs2.resolve_left (by rw [hj.1]; simp); omega)
      rw [show ints64 (insO (N.as.take i) v) ++ [Value.int .i64 i] = ints64 (insO (N.as.take (i + 1)) v) by rw [insO, insO, sn]; simp [ints64]] at o4
      simp [w1]
      refine ⟨⟨i + 1, s', _, _, rfl, by omega, o4, ?_, x4⟩, by simp [argI]; omega⟩
      have := x2.size
      rcases hs4 with ⟨q1, q2⟩ | ⟨q1, q2⟩
      · rw [q1, q2]; exact hs2
      · exact .inr (by omega)
    · have q' : ((nthT N.as i).b = v) = False := by simp [q]
      simp only [q', decide_false, Bool.false_eq_true, if_false, List.append_nil] at sn
      simp (config := { maxDischargeDepth := 60 }) [cB, bB.sk, bB.rk, c_h2, c', ci, w1, sem_idxa r.ra.ok, r.ra.s0, r.ra.s1, r.ra.s2, q']
      refine ⟨⟨i + 1, s, _, _, rfl, by omega, ?_, hs2, x2⟩, by simp [argI]; omega⟩
      have o3 := o2
      rw [insO, ← sn] at o3
      exact o3
  have c' : ¬ (i : Int) < sa.n := by omega
  rw [List.take_of_length_le (by omega)] at o2
  simp (config := { maxDischargeDepth := 60 }) [cB, bB.sk, bB.rk, c_h2, c']
  refine hr h2 s (eB.trans x2) o2 (hs2.imp_right fun q => ?_)
  have := eB.size
  omega
def ROutsI (v0 : Value) (B : Nat) (v : Int) (n : Nat) (as : List Tri) (h0 : Heap) (e : List Value) (h' : Heap) : Prop :=
  ∃ (i : Nat) (s : Sl) (v6 v7 : Value), e = [v0, .int .i64 v, .pointer (some ⟨B, 0, none⟩), .slice none 0 0, s.v, .int .i64 i, v6, v7] ∧ i ≤ n ∧ Own h' 1 s (ints64 (outsO (as.take i) v)) ∧ (s.nl = true ∨ h0.size ≤ s.b) ∧ Ext h0 h'

theorem routs_spec (RN : RefNet2 Y) {sv sa st : Sl} {N : NetD} (r : NetH h sv sa st N) (ba : N.as.length ≤ 16384) {v : Int} {R : Value → Heap → Prop}
    (hr : ∀ h' s, Ext h h' → Own h' 1 s (ints64 (outsO N.as v)) → (s.nl = true ∨ h.size ≤ s.b) → R s.v h') : CallP Y F.rref6_Outs [netV sv sa st, .int .i64 v] h R := by
  have la := r.ra.len
  refine .of_has RN.Outs rfl ?_
  simp [S_rref6_Outs, FnS.wp, netV]
  refine ef_new_box ?_
  intro B hB gB bB eB
  have cB : ∀ g, Ext g h → Ext g hB := fun g e => Mod.trans e eB
  simp
  refine wp_loop' (ROutsI (netV sv sa st) B v sa.n N.as hB) (fun e _ => sa.n - argI e 5) ⟨0, Sl.nil, _, _, rfl, by omega, Own.nil, .inl rfl, Mod.refl _⟩ ?_
  rintro e h2 ⟨i, s, v6, v7, rfl, hi, o2, hs2, x2⟩
  have c_h2 : ∀ g, Ext g hB → Ext g h2 := fun g e => Mod.trans e x2
  by_cases c : i < sa.n
  · have c' : (i : Int) < sa.n := by omega
    have ci : i < N.as.length := by omega
    have w1 : IntKind.i64.wrap ((i : Int) + 1) = (i : Int) + 1 := i64_wrap (by omega)
    have sn := idxF_snoc (p := fun t => decide (t.a = v)) ci
    have nS : s.n ≤ i := by
      have := o2.1
      rw [ints64_len, outsO, idxF_len, Nat.mul_one] at this
      have := List.length_filter_le (fun t : Tri => decide (t.a = v)) (N.as.take i)
      simp at this; omega
    by_cases q : (nthT N.as i).a = v
    · have q' : ((nthT N.as i).a = v) = True := by simp [q]
      simp only [q', decide_true, if_true] at sn
      simp (config := { maxDischargeDepth := 60 }) [cB, bB.sk, bB.rk, c_h2, c', ci, w1, sem_idxa r.ra.ok, r.ra.s0, r.ra.s1, r.ra.s2, q', ef_bslice1_int]
      intro t
      refine ef_append1 rfl o2 (by omega) (by omega) ?_
      intro s' h3 o4 hn4 m4 hs4
      have x4 : Ext hB h3 := Mod.ext x2 m4 (fun j hj => by have := hs2.resolve_left (by rw [hj.1]; simp); omega)
      rw [show ints64 (outsO (N.as.take i) v) ++ [Value.int .i64 i] = ints64 (outsO (N.as.take (i + 1)) v) by rw [outsO, outsO, sn]; simp [ints64]] at o4
      simp [w1]
      refine ⟨⟨i + 1, s', _, _, rfl, by omega, o4, ?_, x4⟩, by simp [argI]; omega⟩
      have := x2.size
      rcases hs4 with ⟨q1, q2⟩ | ⟨q1, q2⟩
      · rw [q1, q2]; exact hs2
      · exact .inr (by omega)
    · have q' : ((nthT N.as i).a = v) = False := by simp [q]
      simp only [q', decide_false, Bool.false_eq_true, if_false, List.append_nil] at sn
      simp (config := { maxDischargeDepth := 60 }) [cB, bB.sk, bB.rk, c_h2, c', ci, w1, sem_idxa r.ra.ok, r.ra.s0, r.ra.s1, r.ra.s2, q']
      refine ⟨⟨i + 1, s, _, _, rfl, by omega, ?_, hs2, x2⟩, by simp [argI]; omega⟩
      have o3 := o2
      rw [outsO, ← sn] at o3
      exact o3
  have c' : ¬ (i : Int) < sa.n := by omega
  rw [List.take_of_length_le (by omega)] at o2
  simp (config := { maxDischargeDepth := 60 }) [cB, bB.sk, bB.rk, c_h2, c']
  refine hr h2 s (eB.trans x2) o2 (hs2.imp_right fun q => ?_)
  have := eB.size
  omega

theorem insO_len {as : List Tri} {v : Int} : (insO as v).length ≤ as.length := by rw [insO, idxF_len]; exact List.length_filter_le ..
theorem outsO_len {as : List Tri} {v : Int} : (outsO as v).length ≤ as.length := by rw [outsO, idxF_len]; exact List.length_filter_le ..

theorem rturn_spec (RN : RefNet2 Y) (T : RefTab Y) {sv sa st : Sl} {N : NetD} (r : NetH h sv sa st N) (ok : NetOK N) {a b : Int} {R : Value → Heap → Prop}
    (hr : ∀ h', Ext h h' → R (.int .i64 (turnV N a b)) h') : CallP Y F.rref6_Turn [netV sv sa st, .int .i64 a, .int .i64 b] h R := by
  have lv := r.rv.len
  have la := r.ra.len
  have lt := r.rt.len
  have ba := ok.ba
  refine .of_has RN.Turn rfl ?_
  simp [S_rref6_Turn, FnS.wp, netV]
  refine ef_new_box ?_
  intro B hB gB bB eB
  have cB : ∀ g, Ext g h → Ext g hB := fun g e => Mod.trans e eB
  simp (config := { maxDischargeDepth := 60 }) [cB, bB.sk, bB.rk]
  refine there_spec RN.There la ?_
  intro h1 e1
  have c_h1 : ∀ g, Ext g hB → Ext g h1 := fun g e => Mod.trans e e1
  have x1 := Mod.trans eB e1
  by_cases c1 : vtxB N.as.length a = true
  rotate_left
  · have c1' : vtxB N.as.length a = false := by simpa using c1
    rw [turnV, if_pos (.inl c1')] at hr
    simp (config := { maxDischargeDepth := 60 }) [cB, bB.sk, bB.rk, c_h1, c1']
    exact hr _ x1
  simp (config := { maxDischargeDepth := 60 }) [cB, bB.sk, bB.rk, c_h1, c1]
  refine there_spec RN.There la ?_
  intro h2 e2
  have c_h2 : ∀ g, Ext g h1 → Ext g h2 := fun g e => Mod.trans e e2
  have x2 := Mod.trans x1 e2
  by_cases c2 : vtxB N.as.length b = true
  rotate_left
  · have c2' : vtxB N.as.length b = false := by simpa using c2
    rw [turnV, if_pos (.inr c2')] at hr
    simp (config := { maxDischargeDepth := 60 }) [cB, bB.sk, bB.rk, c_h1, c_h2, c2']
    exact hr _ x2
  have d1 := c1
  have d2 := c2
  simp only [vtxB, decide_eq_true_eq] at d1 d2
  obtain ⟨a, rfl⟩ : ∃ n : Nat, a = n := ⟨a.toNat, by omega⟩
  obtain ⟨b, rfl⟩ : ∃ n : Nat, b = n := ⟨b.toNat, by omega⟩
  have ha : a < N.as.length := by omega
  have hb : b < N.as.length := by omega
  have ha' : (a : Int) < sa.n := by omega
  have hb' : (b : Int) < sa.n := by omega
  rw [turnV_in ha hb] at hr
  by_cases c3 : (nthT N.as a).b = (nthT N.as b).a
  rotate_left
  · have c3' : ((nthT N.as a).b = (nthT N.as b).a) = False := by simp [c3]
    rw [bendV] at hr
    simp only [Int.toNat_natCast] at hr
    rw [if_pos (.inl c3)] at hr
    simp (config := { maxDischargeDepth := 60 }) [cB, bB.sk, bB.rk, c_h1, c_h2, ha, hb, ha', hb', sem_idxa r.ra.ok, sem_idxa r.rv.ok, sem_idxa r.rt.ok, r.ra.s0, r.ra.s1, r.ra.s2, r.ra.sr, r.rv.s2, c2, c3']
    exact hr _ x2
  have hpI := placeF_ins ha
  have hpO := placeF_outs hb
  rw [← c3] at hpO
  have hx : bendV N a b (cntB N.as a a) (cntA N.as b b) = atV (nthB N.ts (nthT N.vs (nthT N.as a).b.toNat).c.toNat).i (nthB N.ts (nthT N.vs (nthT N.as a).b.toNat).c.toNat).o (nthB N.ts (nthT N.vs (nthT N.as a).b.toNat).c.toNat).cs (cntB N.as a a) (cntA N.as b b) := by
    have h1 := (ok.arcs a ha).2
    have hv : (nthT N.as a).b.toNat < N.vs.length := by simp only [vtxB, decide_eq_true_eq] at h1; omega
    have h2 := ok.vt _ hv
    rw [bendV]
    simp only [Int.toNat_natCast]
    rw [if_neg (by rw [h1]; simp [c3]), if_neg (by simp [h2])]
  rw [hx] at hr
  clear hx
  have g1 := (ok.arcs a ha).2
  generalize hv : (nthT N.as a).b = v at *
  have c3' : (v = (nthT N.as b).a) = True := by simp [c3]
  simp only [vtxB, decide_eq_true_eq] at g1
  have v0 : 0 ≤ v := g1.1
  have v1 : v < sv.n := by omega
  have v2 : v.toNat < N.vs.length := by omega
  have g2 := ok.vt _ v2
  generalize ht : (nthT N.vs v.toNat).c = t at *
  simp only [vtxB, decide_eq_true_eq] at g2
  have t0 : 0 ≤ t := g2.1
  have t1 : t < st.n := by omega
  have t2 : t.toNat < N.ts.length := by omega
  obtain ⟨u, rdt, _, ru⟩ := (r.ext x2).rt.rd (i := t.toNat) t2
  have sr : ∀ h', Ext h2 h' → rd h' st.b (st.o + t.toNat * 3) 3 = some [.int .i64 (nthB N.ts t.toNat).i, .int .i64 (nthB N.ts t.toNat).o, u.v] := fun h' e => e.rd rdt (fun h => h)
  simp (config := { maxDischargeDepth := 60 }) [cB, bB.sk, bB.rk, c_h1, c_h2, ha, hb, ha', hb', sem_idxa r.ra.ok, sem_idxa r.rv.ok, sem_idxa r.rt.ok, r.ra.s0, r.ra.s1, r.ra.s2, r.ra.sr, r.rv.s2, v0, v1, v2, t0, t1, hv, ht, sr, c2, c3']
  refine rins_spec RN (r.ext x2) ba ?_
  intro h3 s3 e3 o3 hs3
  have c_h3 : ∀ g, Ext g h2 → Ext g h3 := fun g e => Mod.trans e e3
  have x3 := x2.trans e3
  have r3 := o3.row64
  have l3 := r3.len
  have k3 := insO_len (as := N.as) (v := v)
  simp (config := { maxDischargeDepth := 60 }) [cB, bB.sk, bB.rk, c_h1, c_h2, ha, hb, ha', hb', sem_idxa r.ra.ok, sem_idxa r.rv.ok, sem_idxa r.rt.ok, r.ra.s0, r.ra.s1, r.ra.s2, r.ra.sr, r.rv.s2, v0, v1, v2, t0, t1, hv, ht, sr, c_h3]
  refine rplace_spec RN.Place r3 (by omega) ?_
  rw [hpI]
  simp (config := { maxDischargeDepth := 60 }) [cB, bB.sk, bB.rk, c_h1, c_h2, ha, hb, ha', hb', sem_idxa r.ra.ok, sem_idxa r.rv.ok, sem_idxa r.rt.ok, r.ra.s0, r.ra.s1, r.ra.s2, r.ra.sr, r.rv.s2, v0, v1, v2, t0, t1, hv, ht, sr, c_h3]
  refine routs_spec RN (r.ext x3) ba ?_
  intro h4 s4 e4 o4 hs4
  have c_h4 : ∀ g, Ext g h3 → Ext g h4 := fun g e => Mod.trans e e4
  have x4 := x3.trans e4
  have r4 := o4.row64
  have l4 := r4.len
  have k4 := outsO_len (as := N.as) (v := v)
  simp (config := { maxDischargeDepth := 60 }) [cB, bB.sk, bB.rk, c_h1, c_h2, ha, hb, ha', hb', sem_idxa r.ra.ok, sem_idxa r.rv.ok, sem_idxa r.rt.ok, r.ra.s0, r.ra.s1, r.ra.s2, r.ra.sr, r.rv.s2, v0, v1, v2, t0, t1, hv, ht, sr, c_h3, c_h4]
  refine rplace_spec RN.Place r4 (by omega) ?_
  rw [hpO]
  simp (config := { maxDischargeDepth := 60 }) [cB, bB.sk, bB.rk, c_h1, c_h2, ha, hb, ha', hb', sem_idxa r.ra.ok, sem_idxa r.rv.ok, sem_idxa r.rt.ok, r.ra.s0, r.ra.s1, r.ra.s2, r.ra.sr, r.rv.s2, v0, v1, v2, t0, t1, hv, ht, sr, c_h3, c_h4]
  refine rturnat_spec T (ru.ext (e3.trans e4)) (ok.tab _ t2) ?_
  intro h5 e5
  simp
  exact hr _ (x4.trans e5)

def RWalkI (v0 : Value) (B : Nat) (s : Sl) (N : NetD) (cs : List Int) (h0 : Heap) (e : List Value) (h' : Heap) : Prop :=
  ∃ (i : Nat) (v3 v5 v6 : Value), e = [v0, s.v, .pointer (some ⟨B, 0, none⟩), v3, .int .i64 i, v5, v6] ∧ i ≤ s.n ∧ (∀ j, j < i → stepOk N cs j = true) ∧ Ext h0 h'

theorem rwalk_spec (RN : RefNet2 Y) (RW : RefWalk Y) (T : RefTab Y) {sv sa st s : Sl} {N : NetD} {cs : List Int} (r : NetH h sv sa st N) (rl : Row64 h s cs) (hbig : s.n ≤ 1000000) (ok : NetOK N)
    {R : Value → Heap → Prop} (hr : ∀ h', Ext h h' → R (.bool (walkB N cs)) h') : CallP Y F.rref6_Walk [netV sv sa st, s.v] h R := by
  have la := r.ra.len
  have ll := rl.len
  refine .of_has RW.Walk rfl ?_
  simp [S_rref6_Walk, FnS.wp, netV]
  refine ef_new_box ?_
  intro B hB gB bB eB
  have cB : ∀ g, Ext g h → Ext g hB := fun g e => Mod.trans e eB
  simp
  refine wp_loop' (RWalkI (netV sv sa st) B s N cs hB) (fun e _ => s.n - argI e 4) ⟨0, _, _, _, rfl, by omega, fun j hj => by omega, Mod.refl _⟩ ?_
  rintro e h2 ⟨i, v3, v5, v6, rfl, hi, hall, x2⟩
  have c_h2 : ∀ g, Ext g hB → Ext g h2 := fun g e => Mod.trans e x2
  have x12 := eB.trans x2
  by_cases c : i < s.n
  · have c' : (i : Int) < s.n := by omega
    have ci : i < cs.length := by omega
    have w1 : IntKind.i64.wrap ((i : Int) + 1) = (i : Int) + 1 := i64_wrap (by omega)
    have bad : stepOk N cs i = false → ∀ h', Ext h h' → R (.bool false) h' := by
      intro hb h' e
      have := hr h' e
      rwa [show walkB N cs = false by
        rw [Bool.eq_false_iff]
        intro hw
        have := (walkB_iff.1 hw).2 i ci
        rw [hb] at this
        cases this] at this
    simp (config := { maxDischargeDepth := 60 }) [cB, bB.sk, bB.rk, c_h2, sem_idxa rl.ok, rl.sk, sem_idxa r.ra.ok, r.ra.s0, r.ra.s1, r.ra.s2, c', ci, w1]
    refine there_spec RN.There la ?_
    intro h3 e3
    have c_h3 : ∀ g, Ext g h2 → Ext g h3 := fun g e => Mod.trans e e3
    have x3 := x12.trans e3
    by_cases f1 : vtxB N.as.length (nthI cs i) = true
    rotate_left
    · have f1' : vtxB N.as.length (nthI cs i) = false := by simpa using f1
      simp (config := { maxDischargeDepth := 60 }) [cB, bB.sk, bB.rk, c_h2, sem_idxa rl.ok, rl.sk, sem_idxa r.ra.ok, r.ra.s0, r.ra.s1, r.ra.s2, c', ci, w1, c_h3, f1']
      exact bad (by simp [stepOk, f1']) _ x3
    have d1 := f1
    simp only [vtxB, decide_eq_true_eq] at d1
    obtain ⟨b, hb⟩ : ∃ b : Nat, nthI cs i = b := ⟨(nthI cs i).toNat, by omega⟩
    have b1 : b < N.as.length := by omega
    have b2 : (b : Int) < sa.n := by omega
    rw [hb] at f1
    by_cases f2 : (nthT N.as b).c = 1152921504606846976
    · simp (config := { maxDischargeDepth := 60 }) [cB, bB.sk, bB.rk, c_h2, sem_idxa rl.ok, rl.sk, sem_idxa r.ra.ok, r.ra.s0, r.ra.s1, r.ra.s2, c', ci, w1, c_h3, hb, b1, b2, f1, f2]
      exact bad (by simp [stepOk, hb, arcC, f2, InfI]) _ x3
    by_cases f3 : i = 0
    · have i0 : (0 < i) = False := by simp [f3]
      simp (config := { maxDischargeDepth := 60 }) [cB, bB.sk, bB.rk, c_h2, sem_idxa rl.ok, rl.sk, sem_idxa r.ra.ok, r.ra.s0, r.ra.s1, r.ra.s2, c', ci, w1, c_h3, hb, b1, b2, f1, f2, i0]
      refine ⟨⟨i + 1, _, _, _, rfl, by omega, fun j hj => ?_, x2.trans e3⟩, by simp [argI]; omega⟩
      obtain rfl : j = i := by omega
      have i0 : (j = 0) = True := by simp [f3]
      simp [stepOk, hb, f1, arcC, InfI, i0]
      exact f2
    have i0 : (0 < i) = True := by simp; omega
    have w2 : IntKind.i64.wrap ((i : Int) - 1) = ((i - 1 : Nat) : Int) := by rw [i64_wrap (by omega)]; omega
    have i1 : ((i - 1 : Nat) : Int) < s.n := by omega
    have i2 : i - 1 < cs.length := by omega
    simp (config := { maxDischargeDepth := 60 }) [cB, bB.sk, bB.rk, c_h2, sem_idxa rl.ok, rl.sk, sem_idxa r.ra.ok, r.ra.s0, r.ra.s1, r.ra.s2, c', ci, w1, c_h3, hb, b1, b2, f1, f2, i0, w2, i1, i2]
    refine rturn_spec RN T (r.ext x3) ok ?_
    intro h4 e4
    have x4 := x3.trans e4
    by_cases f4 : turnV N (nthI cs (i - 1)) b = 1152921504606846976
    · simp (config := { maxDischargeDepth := 60 }) [cB, bB.sk, bB.rk, c_h2, sem_idxa rl.ok, rl.sk, sem_idxa r.ra.ok, r.ra.s0, r.ra.s1, r.ra.s2, c', ci, w1, c_h3, hb, b1, b2, f4]
      exact bad (by simp [stepOk, hb, f4, f3, InfI]) _ x4
    simp (config := { maxDischargeDepth := 60 }) [cB, bB.sk, bB.rk, c_h2, sem_idxa rl.ok, rl.sk, sem_idxa r.ra.ok, r.ra.s0, r.ra.s1, r.ra.s2, c', ci, w1, c_h3, hb, b1, b2, f4]
    refine ⟨⟨i + 1, _, _, _, rfl, by omega, fun j hj => ?_, (x2.trans e3).trans e4⟩, by simp [argI]; omega⟩
    rcases Nat.lt_or_ge j i with q | q
    · exact hall j q
    · obtain rfl : j = i := by omega
      simp [stepOk, hb, f1, arcC, InfI, f4]
      exact f2
  have c' : ¬ (i : Int) < s.n := by omega
  obtain rfl : i = s.n := by omega
  have hw : walkB N cs = decide (0 < s.n) := by
    by_cases q : 0 < s.n
    · rw [decide_eq_true q]
      exact walkB_iff.2 ⟨fun hn => by rw [hn] at ll; simp at ll; omega, fun i hi => hall i (by omega)⟩
    · rw [decide_eq_false q, Bool.eq_false_iff]
      intro hw
      exact (walkB_iff.1 hw).1 (List.eq_nil_of_length_eq_zero (by omega))
  rw [hw] at hr
  simp [c']
  exact hr _ x12

def RCostI (v0 : Value) (B : Nat) (s : Sl) (N : NetD) (cs : List Int) (h0 : Heap) (e : List Value) (h' : Heap) : Prop :=
  ∃ (i : Nat) (p : Int) (v3 v6 v7 : Value), e = [v0, s.v, .pointer (some ⟨B, 0, none⟩), v3, .int .i64 p, .int .i64 (i + 1), v6, v7] ∧ i + 1 ≤ s.n ∧ p = costTo N cs (i + 1) ∧ Ext h0 h'

theorem rcost_spec (RN : RefNet2 Y) (RW : RefWalk Y) (T : RefTab Y) (C : RefCost Y) {sv sa st s : Sl} {N : NetD} {cs : List Int} (r : NetH h sv sa st N) (rl : Row64 h s cs) (hbig : s.n ≤ 1000000) (ok : NetOK N)
    {R : Value → Heap → Prop} (hr : ∀ h', Ext h h' → R (.int .i64 (costV N cs)) h') : CallP Y F.rref6_Cost [netV sv sa st, s.v] h R := by
  have la := r.ra.len
  have ll := rl.len
  refine .of_has RW.Cost rfl ?_
  simp [S_rref6_Cost, FnS.wp, netV]
  refine ef_new_box ?_
  intro B hB gB bB eB
  have cB : ∀ g, Ext g h → Ext g hB := fun g e => Mod.trans e eB
  simp (config := { maxDischargeDepth := 60 }) [cB, bB.sk, bB.rk]
  refine rwalk_spec RN RW T (r.ext eB) (rl.ext eB) hbig ok ?_
  intro h1 e1
  have c_h1 : ∀ g, Ext g hB → Ext g h1 := fun g e => Mod.trans e e1
  have x1 := eB.trans e1
  by_cases hw : walkB N cs = true
  rotate_left
  · have hw' : walkB N cs = false := by simpa using hw
    rw [costV, hw', if_neg (by simp)] at hr
    simp (config := { maxDischargeDepth := 60 }) [cB, bB.sk, bB.rk, c_h1, hw']
    exact hr _ x1
  rw [costV, if_pos hw] at hr
  obtain ⟨hne, hall⟩ := walkB_iff.1 hw
  have hpos : 0 < s.n := by rw [← ll]; exact List.length_pos_iff.2 hne
  simp (config := { maxDischargeDepth := 60 }) [cB, bB.sk, bB.rk, c_h1, hw]
  refine wp_loop' (RCostI (netV sv sa st) B s N cs h1) (fun e _ => s.n - argI e 5) ⟨0, 0, _, _, _, rfl, by omega, by simp [costTo], Mod.refl _⟩ ?_
  rintro e h2 ⟨i, p, v3, v6, v7, rfl, hi, hp, x2⟩
  have c_h2 : ∀ g, Ext g h1 → Ext g h2 := fun g e => Mod.trans e x2
  have x12 := x1.trans x2
  by_cases c : i + 1 < s.n
  · have c' : (i : Int) + 1 < s.n := by omega
    have c'' : (i : Int) < s.n := by omega
    have ci : i + 1 < cs.length := by omega
    have ci' : i < cs.length := by omega
    have i0 : (0 : Int) ≤ (i : Int) + 1 := by omega
    have i1 : ((i : Int) + 1).toNat = i + 1 := by omega
    have w1 : IntKind.i64.wrap ((i : Int) + 1 + 1) = (i : Int) + 1 + 1 := i64_wrap (by omega)
    have w2 : IntKind.i64.wrap (i : Int) = (i : Int) := i64_wrap (by omega)
    have s1 := hall (i + 1) ci
    simp only [stepOk, Bool.and_eq_true] at s1
    have d1 := s1.1.1
    simp only [vtxB, decide_eq_true_eq] at d1
    obtain ⟨b, hb⟩ : ∃ b : Nat, nthI cs (i + 1) = b := ⟨(nthI cs (i + 1)).toNat, by omega⟩
    have b1 : b < N.as.length := by omega
    have b2 : (b : Int) < sa.n := by omega
    simp (config := { maxDischargeDepth := 60 }) [cB, bB.sk, bB.rk, c_h1, c_h2, sem_idxa rl.ok, rl.sk, sem_idxa r.ra.ok, r.ra.s0, r.ra.s1, r.ra.s2, c', c'', ci, ci', i0, i1, w1, w2, hb, b1, b2]
    refine rturn_spec RN T (r.ext x12) ok ?_
    intro h3 e3
    have c_h3 : ∀ g, Ext g h2 → Ext g h3 := fun g e => Mod.trans e e3
    simp (config := { maxDischargeDepth := 60 }) [cB, bB.sk, bB.rk, c_h1, c_h2, sem_idxa rl.ok, rl.sk, sem_idxa r.ra.ok, r.ra.s0, r.ra.s1, r.ra.s2, c', c'', ci, ci', i0, i1, w1, w2, hb, b1, b2, c_h3]
    refine radd_spec C ?_
    simp
    refine radd_spec C ?_
    simp [w1]
    refine ⟨⟨i + 1, _, _, _, _, rfl, by omega, ?_, x2.trans e3⟩, by simp [argI]; omega⟩
    rw [costTo, if_neg (by omega), ← hp, addI_assoc, hb, arcC]
    simp
  have c' : ¬ (i : Int) + 1 < s.n := by omega
  have e : i + 1 = cs.length := by omega
  rw [e] at hp
  rw [← hp] at hr
  simp (config := { maxDischargeDepth := 60 }) [cB, bB.sk, bB.rk, c_h1, c_h2, sem_idxa rl.ok, rl.sk, sem_idxa r.ra.ok, r.ra.s0, r.ra.s1, r.ra.s2, c']
  exact hr _ x12
end
end Go.Rm

/- The laws of nets: May, ring, known. -/
set_option linter.unusedSimpArgs false
set_option linter.unusedVariables false
namespace Go.Rm

structure NetLaw (Y : Sys) : Prop where
  N1 : NetFns Y
  N2 : NetFns2 Y
  NS : NetSame Y
  T : TurnFns Y
  TE : TurnEq Y
  C : CostFns Y
  R1 : RefNet Y
  R2 : RefNet2 Y
  RW : RefWalk Y
  RT : RefTab Y
  RC : RefCost Y
  SameNet : Y.Has F.rref6_SameNet S_rref6_SameNet
  SameInts : Y.Has F.rref6_SameInts S_rref6_SameInts
  To3 : Y.Has F.rlaw3_To S_rlaw3_To
  To2 : Y.Has F.rlaw2_To S_rlaw2_To
  Few : Y.Has F.rlaw3_Few S_rlaw3_Few
  May : Y.Has F.rlaw3_May S_rlaw3_May
  ring : Y.Has F.rlaw3_ring S_rlaw3_ring
  known : Y.Has F.rlaw3_known S_rlaw3_known
  Tells : Y.Has F.rlaw1_Tells S_rlaw1_Tells

def mayD (N : NetD) : Bool := fewD N && decide ((netW N).2 = 0)

def ringN : NetD := ⟨[⟨0, 0, 1⟩, ⟨10, 0, 2⟩, ⟨5, 8, 0⟩], [⟨0, 1, 10⟩, ⟨1, 2, 20⟩, ⟨2, 0, 30⟩, ⟨1, 0, 40⟩], [⟨1, 1, [2]⟩, ⟨2, 1, [0, 1152921504606846976]⟩, ⟨1, 2, [1, 5]⟩]⟩
def ringM : NetD := { ringN with vs := [⟨0, 0, 1⟩, ⟨10, 0, 2⟩, ⟨5, 8, 1⟩] }
theorem ringN_ok : netW ringN = wOK := by rfl
theorem ringM_bad : netW ringM = atW wVert 2 9 := by rfl
theorem ringN_OK : NetOK ringN := netOK_iff.1 (by rw [ringN_ok]; rfl)

section
variable {Y : Sys} {h : Heap}

theorem may_spec (L : NetLaw Y) {sv sa st : Sl} {N : NetD} (r : NetH h sv sa st N) {R : Value → Heap → Prop} (hr : ∀ h', Ext h h' → R (.bool (mayD N)) h') : CallP Y F.rlaw3_May [netV sv sa st] h R := by
  refine .of_has L.May rfl ?_
  simp [S_rlaw3_May, FnS.wp, netV]
  refine ef_new_box ?_
  intro B hB gB bB eB
  have cB : ∀ g, Ext g h → Ext g hB := fun g e => Mod.trans e eB
  simp (config := { maxDischargeDepth := 60 }) [cB, bB.sk, bB.rk]
  refine few_spec L.Few (r.ext eB) ?_
  intro h1 e1
  have c_h1 : ∀ g, Ext g hB → Ext g h1 := fun g e => Mod.trans e e1
  have x1 := eB.trans e1
  by_cases c : fewD N = true
  rotate_left
  · have c' : fewD N = false := by simpa using c
    simp [mayD, c'] at hr
    simp (config := { maxDischargeDepth := 60 }) [cB, bB.sk, bB.rk, c_h1, c']
    exact hr _ x1
  simp [mayD, c] at hr
  simp (config := { maxDischargeDepth := 60 }) [cB, bB.sk, bB.rk, c_h1, c]
  refine rchecknet_spec L.R1 L.RT (r.ext x1) ?_
  intro h2 v e2 hv
  obtain ⟨ps, rfl⟩ := hv.here.shape
  simp
  exact hr _ (x1.trans e2)

set_option maxHeartbeats 1000000 in
theorem ring_spec (L : NetLaw Y) {R : Value → Heap → Prop} (hr : ∀ h' s1 s2 s3, Ext h h' → NetH h' s1 s2 s3 ringN → Own h' 3 s1 (cells3 (ringN.vs.map triV)) → h.size ≤ s1.b → s2.b ≠ s1.b → (∀ h'', Mod (fun j => j = s1.b) h' h'' → RowT h'' s3 ringN.ts) → R (netV s1 s2 s3) h') :
    CallP Y F.rlaw3_ring [] h R := by
  refine .of_has L.ring rfl ?_
  simp [S_rlaw3_ring, FnS.wp]
  refine ef_new_box ?_
  intro A hA gA bA eA
  have cA : ∀ g, Ext g h → Ext g hA := fun g e => Mod.trans e eA
  simp
  refine ef_bslice_all rfl rfl rfl ?_ (by omega)
  intro T1 hT1 gT1 bT1 eT1 oT1
  have cT1 : ∀ g, Ext g hA → Ext g hT1 := fun g e => Mod.trans e eT1
  simp at oT1
  simp
  refine new_store (vs := #[.int .i64 1, .int .i64 1, .slice (some ⟨T1, 0, none⟩) 1 1]) rfl rfl (by simp) ?_
  intro B1 hB1p gB1 bB1p eB1p stB1
  have cB1p : ∀ g, Ext g hT1 → Ext g hB1p := fun g e => Mod.trans e eB1p
  simp (config := { maxDischargeDepth := 60 }) [cA, bA.sk, bA.rk, cT1, cB1p]
  refine stB1 _ ?_
  intro hB1 bB1 eB1
  clear cB1p stB1 bB1p eB1p
  have cB1 : ∀ g, Ext g hT1 → Ext g hB1 := fun g e => Mod.trans e eB1
  simp
  refine ef_bslice_all rfl rfl rfl ?_ (by omega)
  intro T2 hT2 gT2 bT2 eT2 oT2
  have cT2 : ∀ g, Ext g hB1 → Ext g hT2 := fun g e => Mod.trans e eT2
  simp at oT2
  simp
  refine new_store (vs := #[.int .i64 2, .int .i64 1, .slice (some ⟨T2, 0, none⟩) 2 2]) rfl rfl (by simp) ?_
  intro B2 hB2p gB2 bB2p eB2p stB2
  have cB2p : ∀ g, Ext g hT2 → Ext g hB2p := fun g e => Mod.trans e eB2p
  simp (config := { maxDischargeDepth := 60 }) [cA, bA.sk, bA.rk, cT1, cB1, bB1.sk, bB1.rk, cT2, cB2p]
  refine stB2 _ ?_
  intro hB2 bB2 eB2
  clear cB2p stB2 bB2p eB2p
  have cB2 : ∀ g, Ext g hT2 → Ext g hB2 := fun g e => Mod.trans e eB2
  simp
  refine ef_bslice_all rfl rfl rfl ?_ (by omega)
  intro T3 hT3 gT3 bT3 eT3 oT3
  have cT3 : ∀ g, Ext g hB2 → Ext g hT3 := fun g e => Mod.trans e eT3
  simp at oT3
  simp
  refine new_store (vs := #[.int .i64 1, .int .i64 2, .slice (some ⟨T3, 0, none⟩) 2 2]) rfl rfl (by simp) ?_
  intro B3 hB3p gB3 bB3p eB3p stB3
  have cB3p : ∀ g, Ext g hT3 → Ext g hB3p := fun g e => Mod.trans e eB3p
  simp (config := { maxDischargeDepth := 60 }) [cA, bA.sk, bA.rk, cT1, cB1, bB1.sk, bB1.rk, cT2, cB2, bB2.sk, bB2.rk, cT3, cB3p]
  refine stB3 _ ?_
  intro hB3 bB3 eB3
  clear cB3p stB3 bB3p eB3p
  have cB3 : ∀ g, Ext g hT3 → Ext g hB3 := fun g e => Mod.trans e eB3
  simp [sem_build_ints3]
  refine ef_bslice_all rfl rfl rfl ?_ (by omega)
  intro V hV gV bV eV oV
  have cV : ∀ g, Ext g hB3 → Ext g hV := fun g e => Mod.trans e eV
  simp at oV
  simp [sem_build_ints3]
  refine ef_bslice_all rfl rfl rfl ?_ (by omega)
  intro W hW gW bW eW oW
  have cW : ∀ g, Ext g hV → Ext g hW := fun g e => Mod.trans e eW
  simp at oW
  simp (config := { maxDischargeDepth := 60 }) [cA, bA.sk, bA.rk, cT1, cB1, bB1.sk, bB1.rk, cT2, cB2, bB2.sk, bB2.rk, cT3, cB3, bB3.sk, bB3.rk, cV, cW]
  refine ef_bslice_all rfl rfl rfl ?_ (by omega)
  intro U hU gU bU eU oU
  have cU : ∀ g, Ext g hW → Ext g hU := fun g e => Mod.trans e eU
  simp at oU
  have zA := bA.lt
  have z1 := eT1.size
  have z2 := eB1.size
  have z3 := eT2.size
  have z4 := eB2.size
  have z5 := eT3.size
  have z6 := eB3.size
  have z7 := eV.size
  have z8 := eW.size
  have z9 := eU.size
  have y1 := bT1.lt
  have y2 := bT2.lt
  have y3 := bT3.lt
  have y4 := bV.lt
  have y5 := bW.lt
  have y6 := bU.lt
  have e8 := eW.trans eU
  have e7 := eV.trans e8
  have e6 := eB3.trans e7
  have e5 := eT3.trans e6
  have e4 := eB2.trans e5
  have e3 := eT2.trans e4
  have e2 := eB1.trans e3
  have e1 := eT1.trans e2
  simp [sem_build3]
  refine ef_store_box (bA.ext e1) rfl rfl (by simp) ?_
  intro hZ bZ mZ
  simp
  refine resP_x rfl bZ rfl ?_
  have qV := ((oV.mod e8 (fun _ h => h)).mod mZ (fun _ hj => by simp at hj; omega) : Own hZ 3 (Sl.at V 3 3) (cells3 (ringN.vs.map triV)))
  have qW := ((oW.mod eU (fun _ h => h)).mod mZ (fun _ hj => by simp at hj; omega) : Own hZ 3 (Sl.at W 4 4) (cells3 (ringN.as.map triV)))
  have q1 := ((oT1.mod e2 (fun _ h => h)).mod mZ (fun _ hj => by simp at hj; omega) : Own hZ 1 (Sl.at T1 1 1) (ints64 [2]))
  have q2 := ((oT2.mod e4 (fun _ h => h)).mod mZ (fun _ hj => by simp at hj; omega) : Own hZ 1 (Sl.at T2 2 2) (ints64 [0, 1152921504606846976]))
  have q3 := ((oT3.mod e6 (fun _ h => h)).mod mZ (fun _ hj => by simp at hj; omega) : Own hZ 1 (Sl.at T3 2 2) (ints64 [1, 5]))
  have qU := (oU.mod mZ (fun _ hj => by simp at hj; omega) : Own hZ 3 (Sl.at U 3 3) (cells3 ([((⟨1, 1, [2]⟩ : Tab), Sl.at T1 1 1), (⟨2, 1, [0, 1152921504606846976]⟩, Sl.at T2 2 2), (⟨1, 2, [1, 5]⟩, Sl.at T3 2 2)].map tabP)))
  have qT : ∀ h'', Mod (fun j => j = V) hZ h'' → RowT h'' (Sl.at U 3 3) ringN.ts := by
    intro h'' m
    have q1 := q1.mod m (fun _ hj => by simp at hj; omega)
    have q2 := q2.mod m (fun _ hj => by simp at hj; omega)
    have q3 := q3.mod m (fun _ hj => by simp at hj; omega)
    refine Own.rowT (P := [((⟨1, 1, [2]⟩ : Tab), Sl.at T1 1 1), (⟨2, 1, [0, 1152921504606846976]⟩, Sl.at T2 2 2), (⟨1, 2, [1, 5]⟩, Sl.at T3 2 2)]) (qU.mod m (fun _ hj => by simp at hj; omega)) rfl ?_
    intro p hp
    simp only [List.mem_cons, List.not_mem_nil, or_false] at hp
    rcases hp with rfl | rfl | rfl
    · exact q1.row64
    · exact q2.row64
    · exact q3.row64
  exact hr hZ (Sl.at V 3 3) (Sl.at W 4 4) (Sl.at U 3 3) (Mod.ext (eA.trans e1) mZ (fun j hj => by omega)) ⟨qV.row3, qW.row3, qT _ (Mod.refl _)⟩ qV (by simp; omega) (by simp; omega) qT
end
end Go.Rm

/- The laws of nets: known. -/
set_option linter.unusedSimpArgs false
set_option linter.unusedVariables false
namespace Go.Rm

section
variable {Y : Sys} {h : Heap}

theorem Own.setN {sz : Nat} {s : Sl} {cells : List Value} (ho : Own h sz s cells) {i : Nat} {v : Value} (hi : i < cells.length) : Own (hset h s.b (s.o + i) v) sz s (cells.set i v) := by
  refine ⟨by simp [ho.1], ?_⟩
  rcases ho.2 with ⟨_, rfl⟩ | ⟨h1, h2, hsp, h3, h4, arr, hb, h5, h6⟩
  · simp at hi
  · refine .inr ⟨h1, h2, hsp, h3, h4, arr.setIfInBounds (s.o + i) v, hb.set, by simp [h5], ?_⟩
    rw [h2, Nat.zero_add, Array.toList_setIfInBounds, ← h6, List.take_set]
/-- a cell is stored into a row of one's own -/
theorem stN {K : Value → Heap → Prop} {sz : Nat} {s : Sl} {cells : List Value} (o : Own h sz s cells) {k : Nat} {v : Value} (hk : k < cells.length)
    (hr : ∀ h', Own h' sz s (cells.set k v) → Mod (fun j => j = s.b) h h' → K undef h') : StoreP h s.b (s.o + k) v K := by
  have h1 := o.setN (v := v) hk
  obtain ⟨arr, hb, hlt, hnl⟩ := o.blk hk
  rw [StoreP.open]
  refine ⟨?_, hb.hfz, hr _ h1 (Mod.set rfl)⟩
  rw [hb.hc]
  simp [hlt]
theorem row64_at {b n : Nat} {l : List Int} (o : Own h 1 (Sl.at b n n) (ints64 l)) : Row64 h (Sl.at b n n) l := o.row64

theorem ring_t1 : turnV ringN 0 3 = 5 := by rfl
theorem ring_t2 : turnV ringN 3 0 = 1152921504606846976 := by rfl
theorem ring_t3 : turnV ringN 0 2 = 1152921504606846976 := by rfl
theorem ring_w1 : walkB ringN [0, 1, 2, 0] = true := by rfl
theorem ring_w2 : walkB ringN [0, 3, 0] = false := by rfl
theorem ring_w3 : walkB ringN [] = false := by rfl
theorem ring_c1 : costV ringN [0, 1, 2] = 53 := by rfl
theorem ring_c2 : costV ringN [2] = 0 := by rfl
theorem ring_i : insO ringN.as 0 = [2, 3] := by rfl
theorem ring_o : outsO ringN.as 1 = [1, 3] := by rfl
theorem ring_v0 : vtxB ringN.vs.length 0 = true := by rfl
theorem ring_v1 : vtxB ringN.vs.length 1 = true := by rfl
theorem ring_small : NetSmall ringN := by
  refine ⟨by decide, by decide, by decide, fun i hi => ?_⟩
  match i, hi with
  | 0, _ => decide
  | 1, _ => decide
  | 2, _ => decide
  | i + 3, hi => exact absurd hi (by simp [ringN])
theorem ring_bc : ∀ i, i < ringN.ts.length → (nthB ringN.ts i).cs.length ≤ 1000000 := ring_small.bc
theorem ringM_bc : ∀ i, i < ringM.ts.length → (nthB ringM.ts i).cs.length ≤ 1000000 := ring_small.bc

set_option maxHeartbeats 2000000 in
theorem known3_spec (L : NetLaw Y) (RA : Y.Has F.rref6_At S_rref6_At) (E : ErrSys Y) (hg : hc h E.gb 0 = some E.hv) {R : Value → Heap → Prop} (hr : ∀ h', Ext h h' → R (.bool true) h') :
    CallP Y F.rlaw3_known [] h R := by
  refine .of_has L.known rfl ?_
  simp [S_rlaw3_known, FnS.wp]
  refine ring_spec L ?_
  intro h1 a1 a2 a3 e1 r1 _ _ _ _
  simp
  refine to3_spec L.To3 L.To2 r1 (by decide) (by decide) (by decide) ring_bc ?_
  intro h2 b1 b2 b3 e2 r2
  simp [netV]
  have c_h1 : ∀ g, Ext g h → Ext g h1 := fun g e => Mod.trans e e1
  have c_h2 : ∀ g, Ext g h1 → Ext g h2 := fun g e => Mod.trans e e2
  refine new_store (vs := #[b1.v, b2.v, b3.v]) rfl rfl (by simp) ?_
  intro N hNp gN bNp eNp stN
  have cNp : ∀ g, Ext g h2 → Ext g hNp := fun g e => Mod.trans e eNp
  simp (config := { maxDischargeDepth := 60 }) [c_h1, c_h2, cNp]
  refine stN _ ?_
  intro hN bN eN
  clear cNp stN bNp eNp
  have cN : ∀ g, Ext g h2 → Ext g hN := fun g e => Mod.trans e eN
  simp
  refine ring_spec L ?_
  intro h3 c1 c2 c3 e3 r3 o3 g3 n3 q3
  simp [netV]
  have c_h3 : ∀ g, Ext g hN → Ext g h3 := fun g e => Mod.trans e e3
  refine new_store (vs := #[c1.v, c2.v, c3.v]) rfl rfl (by simp) ?_
  intro M hMp gM bMp eMp stM
  have cMp : ∀ g, Ext g h3 → Ext g hMp := fun g e => Mod.trans e eMp
  simp (config := { maxDischargeDepth := 60 }) [c_h1, c_h2, cN, bN.sk, bN.rk, c_h3, cMp]
  refine stM _ ?_
  intro hM bM eM
  clear cMp stM bMp eMp
  have cM : ∀ g, Ext g h3 → Ext g hM := fun g e => Mod.trans e eM
  have lM : c1.b < hM.size := by
    obtain ⟨arr, hb, _⟩ := o3.blk (i := 0) (by decide)
    have := hb.lt
    have := eM.size
    omega
  have gM' : h3.size ≤ M := gM
  have lc : c1.b < h3.size := by
    obtain ⟨arr, hb, _⟩ := o3.blk (i := 0) (by decide)
    exact hb.lt
  have oM := o3.mod eM (fun _ h => h)
  have k1 : (2 : Int) < c1.n := by have := r3.rv.len; simp [ringN] at this; omega
  simp [(bM).hc, sem_idxa r3.rv.ok, k1]
  have sto := fun (K : Value → Heap → Prop) => stN (K := K) oM (k := 8) (v := .int .i64 1) (by decide)
  rw [show c1.o + 2 * 3 + 2 = c1.o + 8 from rfl]
  refine sto _ ?_
  clear sto
  intro hS oS mS
  have oS' : Own hS 3 c1 (cells3 (ringM.vs.map triV)) := oS
  have eS : Ext hN hS := Mod.ext (e3.trans eM) mS (fun j hj => by omega)
  have xN : Ext h hN := (e1.trans e2).trans eN
  have xS : Ext h hS := xN.trans eS
  have rS : NetH hS b1 b2 b3 ringN := r2.ext (eN.trans eS)
  have BN := bN.ext eS
  have BM := mS.blk bM (by omega)
  have rM : NetH hS c1 c2 c3 ringM := ⟨oS'.row3, (r3.ra.ext eM).mod mS (fun _ hj => n3 hj), q3 hS ((eM.mono fun _ _ h => h.elim).trans mS)⟩
  clear bN bM r2 oS oM k1 r3 o3 q3 e3 eM eN e1 e2 r1 oS' mS
  simp [rd_blk BN]
  refine ncheck_spec L.N1 L.T rS ?_
  intro v h4 e4 hv
  rw [ringN_ok] at hv
  have := hv.here.nil rfl
  subst this
  have x4 : Ext hS h4 := e4
  simp [rd_blk (BM.ext x4)]
  refine to3_spec L.To3 L.To2 (rM.ext x4) (by decide) (by decide) (by decide) ringM_bc ?_
  intro h5 d1 d2 d3 e5 r5
  have x5 := x4.trans e5
  simp
  refine ncheck_spec L.N1 L.T r5 ?_
  intro v h6 e6 hv
  rw [ringM_bad] at hv
  have x6 := x5.trans e6
  simp
  refine rat_spec RA ?_
  intro h7 w e7 hw
  have x7 := x6.trans e7
  simp
  refine tells_spec (ps := [(wVert, 2)]) (c := 9) L.Tells E ((xS.trans x7).hc hg (fun h => h)) hw.here ((hv.ext e7).here : Err _ _ _ _) (by simp) (by simp) ?_
  intro h8 e8
  have x8 := x7.trans e8
  simp [rd_blk (BN.ext x8)]
  refine nturn_spec L.N2 L.T (rS.ext x8) (by decide) ?_
  intro h9 e9
  have x9 := x8.trans e9
  simp [rd_blk (BN.ext x9), ring_t1]
  refine nturn_spec L.N2 L.T (rS.ext x9) (by decide) ?_
  intro h10 e10
  have x10 := x9.trans e10
  simp [rd_blk (BN.ext x10), ring_t2]
  refine nturn_spec L.N2 L.T (rS.ext x10) (by decide) ?_
  intro h11 e11
  have x11 := x10.trans e11
  simp [rd_blk (BN.ext x11), ring_t3]
  refine ef_bslice_all rfl rfl rfl ?_ (by omega)
  intro l1 hl1 gl1 bl1 el1 ol1
  have cl1 : ∀ g, Ext g h11 → Ext g hl1 := fun g e => Mod.trans e el1
  simp at ol1
  have y1 := x11.trans el1
  simp [rd_blk (BN.ext y1)]
  refine nwalk_spec L.N2 L.T L.C (rS.ext y1) (row64_at (l := [0, 1, 2, 0]) ol1) (by simp) (by decide) (by decide) ringN_OK.arcs ?_
  intro h12 e12
  have x12 := y1.trans e12
  simp [rd_blk (BN.ext x12), ring_w1]
  refine ef_bslice_all rfl rfl rfl ?_ (by omega)
  intro l2 hl2 gl2 bl2 el2 ol2
  have cl2 : ∀ g, Ext g h12 → Ext g hl2 := fun g e => Mod.trans e el2
  simp at ol2
  have y2 := x12.trans el2
  simp [rd_blk (BN.ext y2)]
  refine nwalk_spec L.N2 L.T L.C (rS.ext y2) (row64_at (l := [0, 3, 0]) ol2) (by simp) (by decide) (by decide) ringN_OK.arcs ?_
  intro h13 e13
  have x13 := y2.trans e13
  simp [rd_blk (BN.ext x13), ring_w2]
  refine nwalk_spec L.N2 L.T L.C (rS.ext x13) (s := Sl.nil) Row64.nil (by decide) (by decide) (by decide) ringN_OK.arcs ?_
  intro h14 e14
  have x14 := x13.trans e14
  simp [rd_blk (BN.ext x14), ring_w3]
  refine ef_bslice_all rfl rfl rfl ?_ (by omega)
  intro l3 hl3 gl3 bl3 el3 ol3
  have cl3 : ∀ g, Ext g h14 → Ext g hl3 := fun g e => Mod.trans e el3
  simp at ol3
  have y3 := x14.trans el3
  simp [rd_blk (BN.ext y3)]
  refine ncost_spec L.N2 L.T L.C (rS.ext y3) (row64_at (l := [0, 1, 2]) ol3) (by simp) (by decide) (by decide) ringN_OK.arcs ?_
  intro h15 e15
  have x15 := y3.trans e15
  simp [rd_blk (BN.ext x15), ring_c1]
  refine ef_bslice_all rfl rfl rfl ?_ (by omega)
  intro l4 hl4 gl4 bl4 el4 ol4
  have cl4 : ∀ g, Ext g h15 → Ext g hl4 := fun g e => Mod.trans e el4
  simp at ol4
  have y4 := x15.trans el4
  simp [rd_blk (BN.ext y4)]
  refine ncost_spec L.N2 L.T L.C (rS.ext y4) (row64_at (l := [2]) ol4) (by simp) (by decide) (by decide) ringN_OK.arcs ?_
  intro h16 e16
  have x16 := y4.trans e16
  simp [rd_blk (BN.ext x16), ring_c2]
  have tail : ∀ h', Ext hS h' → ∀ (s : Sl), Row64 h' s [1, 3] → ∀ (b : Nat), Own h' 1 (Sl.at b 2 2) (ints64 [1, 3]) → True := fun _ _ _ _ _ _ => trivial
  refine ⟨?_, ?_⟩
  · refine nins_spec L.N2 (rS.ext x16) (by decide) ?_
    intro h17 s17 e17 o17 _
    rw [if_pos ring_v0, ring_i] at o17
    have x17 := x16.trans e17
    simp
    refine ef_bslice_all rfl rfl rfl ?_ (by omega)
    intro l5 hl5 gl5 bl5 el5 ol5
    have cl5 : ∀ g, Ext g h17 → Ext g hl5 := fun g e => Mod.trans e el5
    simp at ol5
    have y5 := x17.trans el5
    simp
    refine rsameints_spec L.SameInts (o17.row64.ext el5) (row64_at (l := [2, 3]) ol5) (by have := o17.row64.len; simp at this; omega) ?_
    simp [rd_blk (BN.ext y5)]
    have x18 := y5
    refine ⟨?_, ?_⟩
    · refine nouts_spec L.N2 (rS.ext x18) (by decide) ?_
      intro h19 s19 e19 o19 _
      rw [if_pos ring_v1, ring_o] at o19
      have x19 := x18.trans e19
      simp
      refine ef_bslice_all rfl rfl rfl ?_ (by omega)
      intro l6 hl6 gl6 bl6 el6 ol6
      have cl6 : ∀ g, Ext g h19 → Ext g hl6 := fun g e => Mod.trans e el6
      simp at ol6
      have y6 := x19.trans el6
      simp
      refine rsameints_spec L.SameInts (o19.row64.ext el6) (row64_at (l := [1, 3]) ol6) (by have := o19.row64.len; simp at this; omega) ?_
      simp [rd_blk (BN.ext y6)]
      refine ring_spec L ?_
      intro h20 f1 f2 f3 e20 r20 _ _ _ _
      have x20 := y6.trans e20
      simp [rd_blk (BN.ext x20)]
      refine to3_spec L.To3 L.To2 r20 (by decide) (by decide) (by decide) ring_bc ?_
      intro h21 g1 g2 g3 e21 r21
      have x21 := x20.trans e21
      simp [rd_blk (BN.ext x21)]
      refine nsame_spec L.NS L.TE (rS.ext x21) r21 ring_small ?_
      intro h22 e22
      simp
      exact hr _ ((xS.trans x21).trans e22)
    · refine ef_bslice_all rfl rfl rfl ?_ (by omega)
      intro l6 hl6 gl6 bl6 el6 ol6
      have cl6 : ∀ g, Ext g hl5 → Ext g hl6 := fun g e => Mod.trans e el6
      simp at ol6
      have x19 := x18.trans el6
      simp [rd_blk (BN.ext x19)]
      refine nouts_spec L.N2 (rS.ext x19) (by decide) ?_
      intro h19 s19 e19 o19 _
      rw [if_pos ring_v1, ring_o] at o19
      have y6 := x19.trans e19
      simp
      refine rsameints_spec L.SameInts o19.row64 ((row64_at (l := [1, 3]) ol6).ext e19) (by have := o19.row64.len; simp at this; omega) ?_
      simp [rd_blk (BN.ext y6)]
      refine ring_spec L ?_
      intro h20 f1 f2 f3 e20 r20 _ _ _ _
      have x20 := y6.trans e20
      simp [rd_blk (BN.ext x20)]
      refine to3_spec L.To3 L.To2 r20 (by decide) (by decide) (by decide) ring_bc ?_
      intro h21 g1 g2 g3 e21 r21
      have x21 := x20.trans e21
      simp [rd_blk (BN.ext x21)]
      refine nsame_spec L.NS L.TE (rS.ext x21) r21 ring_small ?_
      intro h22 e22
      simp
      exact hr _ ((xS.trans x21).trans e22)
  · refine id ?_
    refine ef_bslice_all rfl rfl rfl ?_ (by omega)
    intro l5 hl5 gl5 bl5 el5 ol5
    have cl5 : ∀ g, Ext g h16 → Ext g hl5 := fun g e => Mod.trans e el5
    simp at ol5
    have x17 := x16.trans el5
    simp [rd_blk (BN.ext x17)]
    refine nins_spec L.N2 (rS.ext x17) (by decide) ?_
    intro h17 s17 e17 o17 _
    rw [if_pos ring_v0, ring_i] at o17
    have x18 := x17.trans e17
    simp
    refine rsameints_spec L.SameInts o17.row64 ((row64_at (l := [2, 3]) ol5).ext e17) (by have := o17.row64.len; simp at this; omega) ?_
    simp [rd_blk (BN.ext x18)]
    refine ⟨?_, ?_⟩
    · refine nouts_spec L.N2 (rS.ext x18) (by decide) ?_
      intro h19 s19 e19 o19 _
      rw [if_pos ring_v1, ring_o] at o19
      have x19 := x18.trans e19
      simp
      refine ef_bslice_all rfl rfl rfl ?_ (by omega)
      intro l6 hl6 gl6 bl6 el6 ol6
      have cl6 : ∀ g, Ext g h19 → Ext g hl6 := fun g e => Mod.trans e el6
      simp at ol6
      have y6 := x19.trans el6
      simp
      refine rsameints_spec L.SameInts (o19.row64.ext el6) (row64_at (l := [1, 3]) ol6) (by have := o19.row64.len; simp at this; omega) ?_
      simp [rd_blk (BN.ext y6)]
      refine ring_spec L ?_
      intro h20 f1 f2 f3 e20 r20 _ _ _ _
      have x20 := y6.trans e20
      simp [rd_blk (BN.ext x20)]
      refine to3_spec L.To3 L.To2 r20 (by decide) (by decide) (by decide) ring_bc ?_
      intro h21 g1 g2 g3 e21 r21
      have x21 := x20.trans e21
      simp [rd_blk (BN.ext x21)]
      refine nsame_spec L.NS L.TE (rS.ext x21) r21 ring_small ?_
      intro h22 e22
      simp
      exact hr _ ((xS.trans x21).trans e22)
    · refine ef_bslice_all rfl rfl rfl ?_ (by omega)
      intro l6 hl6 gl6 bl6 el6 ol6
      have cl6 : ∀ g, Ext g h17 → Ext g hl6 := fun g e => Mod.trans e el6
      simp at ol6
      have x19 := x18.trans el6
      simp [rd_blk (BN.ext x19)]
      refine nouts_spec L.N2 (rS.ext x19) (by decide) ?_
      intro h19 s19 e19 o19 _
      rw [if_pos ring_v1, ring_o] at o19
      have y6 := x19.trans e19
      simp
      refine rsameints_spec L.SameInts o19.row64 ((row64_at (l := [1, 3]) ol6).ext e19) (by have := o19.row64.len; simp at this; omega) ?_
      simp [rd_blk (BN.ext y6)]
      refine ring_spec L ?_
      intro h20 f1 f2 f3 e20 r20 _ _ _ _
      have x20 := y6.trans e20
      simp [rd_blk (BN.ext x20)]
      refine to3_spec L.To3 L.To2 r20 (by decide) (by decide) (by decide) ring_bc ?_
      intro h21 g1 g2 g3 e21 r21
      have x21 := x20.trans e21
      simp [rd_blk (BN.ext x21)]
      refine nsame_spec L.NS L.TE (rS.ext x21) r21 ring_small ?_
      intro h22 e22
      simp
      exact hr _ ((xS.trans x21).trans e22)
end
end Go.Rm
