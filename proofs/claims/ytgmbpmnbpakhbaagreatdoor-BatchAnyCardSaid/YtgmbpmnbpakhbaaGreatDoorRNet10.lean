import Derived.Test.YtgmbpmnbpakhbaaGreatDoorRHeap
import Derived.Test.YtgmbpmnbpakhbaaGreatDoorRNet

/- Package net: arc, Ins, Outs, bend, Turn. -/
set_option linter.unusedSimpArgs false
set_option linter.unusedVariables false
namespace Go.Rm

/-- the numbers of the arcs that are so -/
def idxF (p : Tri → Bool) : Nat → List Tri → List Int
  | _, [] => []
  | k, t :: r => if p t then (k : Int) :: idxF p (k + 1) r else idxF p (k + 1) r
theorem idxF_app {p : Tri → Bool} {a b : List Tri} : ∀ {k : Nat}, idxF p k (a ++ b) = idxF p k a ++ idxF p (k + a.length) b := by
  induction a with
  | nil => intro k; rfl
  | cons t r ih =>
    intro k
    have e : k + 1 + r.length = k + (t :: r).length := by simp; omega
    rw [List.cons_append, idxF, idxF, ih, e]
    split <;> rfl
theorem idxF_snoc {p : Tri → Bool} {l : List Tri} {i : Nat} (hi : i < l.length) : idxF p 0 (l.take (i + 1)) = idxF p 0 (l.take i) ++ if p (nthT l i) then [(i : Int)] else [] := by
  rw [List.take_succ_eq_append_getElem hi, idxF_app, nthT_eq hi]
  congr 1
  simp [idxF, List.length_take, Nat.min_eq_left (Nat.le_of_lt hi)]
theorem idxF_len {p : Tri → Bool} {l : List Tri} : ∀ {k : Nat}, (idxF p k l).length = (l.filter p).length := by
  induction l with
  | nil => intro k; rfl
  | cons t r ih =>
    intro k
    rw [idxF]
    by_cases c : p t = true
    · simp [c, ih]
    · simp [c, ih]
def insO (as : List Tri) (v : Int) : List Int := idxF (fun t => decide (t.b = v)) 0 as
def outsO (as : List Tri) (v : Int) : List Int := idxF (fun t => decide (t.a = v)) 0 as
def InfI : Int := 1152921504606846976
/-- what it costs to turn, of places that are told -/
def bendV (N : NetD) (a b i o : Int) : Int :=
  let v := (nthT N.as a.toNat).b
  if v ≠ (nthT N.as b.toNat).a ∨ vtxB N.vs.length v = false then InfI
  else
    let t := (nthT N.vs v.toNat).c
    if vtxB N.ts.length t = false then InfI else atV (nthB N.ts t.toNat).i (nthB N.ts t.toNat).o (nthB N.ts t.toNat).cs i o
def cntB (as : List Tri) (a : Nat) (n : Nat) : Nat := ((as.take n).filter fun t => decide (t.b = (nthT as a).b)).length
def cntA (as : List Tri) (a : Nat) (n : Nat) : Nat := ((as.take n).filter fun t => decide (t.a = (nthT as a).a)).length
theorem cntB_succ {as : List Tri} {a n : Nat} (hn : n < as.length) : cntB as a (n + 1) = cntB as a n + if (nthT as n).b = (nthT as a).b then 1 else 0 := by
  unfold cntB
  rw [List.take_succ_eq_append_getElem hn, nthT_eq hn, List.filter_append, List.length_append]
  congr 1
  by_cases c : as[n].b = (nthT as a).b <;> simp [c]
theorem cntA_succ {as : List Tri} {a n : Nat} (hn : n < as.length) : cntA as a (n + 1) = cntA as a n + if (nthT as n).a = (nthT as a).a then 1 else 0 := by
  unfold cntA
  rw [List.take_succ_eq_append_getElem hn, nthT_eq hn, List.filter_append, List.length_append]
  congr 1
  by_cases c : as[n].a = (nthT as a).a <;> simp [c]
theorem cntB_le {as : List Tri} {a n : Nat} : cntB as a n ≤ as.length := Nat.le_trans (List.length_filter_le ..) (by simp; omega)
theorem cntA_le {as : List Tri} {a n : Nat} : cntA as a n ≤ as.length := Nat.le_trans (List.length_filter_le ..) (by simp; omega)
/-- what it costs to turn from an arc into another one -/
def turnV (N : NetD) (a b : Int) : Int :=
  if vtxB N.as.length a = false ∨ vtxB N.as.length b = false then InfI
  else bendV N a b (cntB N.as a.toNat a.toNat) (cntA N.as b.toNat b.toNat)

section
variable {Y : Sys} {h : Heap}

end
end Go.Rm

/- Package net: places, over, Walk, Cost; sums of costs. -/
set_option linter.unusedSimpArgs false
set_option linter.unusedVariables false
namespace Go.Rm

def insP (as : List Tri) (i : Nat) : List Int := (List.range as.length).map fun j => if j < i then (cntB as j j : Int) else 0
def outsP (as : List Tri) (i : Nat) : List Int := (List.range as.length).map fun j => if j < i then (cntA as j j : Int) else 0
@[simp] theorem insP_len {as : List Tri} {i : Nat} : (insP as i).length = as.length := by simp [insP]
@[simp] theorem outsP_len {as : List Tri} {i : Nat} : (outsP as i).length = as.length := by simp [outsP]
theorem cntB_insN {as : List Tri} {i g : Nat} (hg : (nthT as i).b = (g : Int)) : cntB as i i = insN (as.take i) g := by
  unfold cntB insN
  rw [hg]
theorem cntA_outsN {as : List Tri} {i g : Nat} (hg : (nthT as i).a = (g : Int)) : cntA as i i = outsN (as.take i) g := by
  unfold cntA outsN
  rw [hg]
/-- all arcs go from a vertex to one -/
def ArcsIn (N : NetD) : Prop := ∀ i, i < N.as.length → vtxB N.vs.length (nthT N.as i).a = true ∧ vtxB N.vs.length (nthT N.as i).b = true

section
variable {Y : Sys} {h : Heap}

end
end Go.Rm

/- Package net: over, Walk, Cost. -/
set_option linter.unusedSimpArgs false
set_option linter.unusedVariables false
namespace Go.Rm

theorem turnV_in {N : NetD} {a b : Nat} (ha : a < N.as.length) (hb : b < N.as.length) : turnV N a b = bendV N a b (cntB N.as a a) (cntA N.as b b) := by
  unfold turnV
  rw [if_neg]
  · simp
  · simp [vtxB]; omega

section
variable {Y : Sys} {h : Heap}

end
end Go.Rm

/- Nets that are alike: slices.Equal, slices.EqualFunc, net.Same, SameNet, SameInts. -/
set_option linter.unusedSimpArgs false
set_option linter.unusedVariables false
namespace Go.Rm

theorem nthT_ext {a b : List Tri} (hl : a.length = b.length) (h : ∀ j, j < a.length → nthT a j = nthT b j) : a = b := by
  apply List.ext_getElem hl
  intro j h1 h2
  have := h j h1
  rwa [nthT_eq h1, nthT_eq h2] at this
theorem nthB_ext {a b : List Tab} (hl : a.length = b.length) (h : ∀ j, j < a.length → nthB a j = nthB b j) : a = b := by
  apply List.ext_getElem hl
  intro j h1 h2
  have := h j h1
  rwa [nthB_eq h1, nthB_eq h2] at this
theorem decide_tab {t u : Tab} : decide (t.i = u.i ∧ t.o = u.o ∧ t.cs = u.cs) = decide (t = u) := by
  obtain ⟨a, b, c⟩ := t
  obtain ⟨a', b', c'⟩ := u
  simp

section
variable {Y : Sys} {h : Heap}

def CallvP (Y : Sys) (x : Value) (xs : List Value) (h : Heap) (R : Value → Heap → Prop) : Prop :=
  match x with
  | .func (.func f) first cap => Y.able f ∧ Y.C f (first.toList ++ xs ++ cap.toList) h R
  | _ => False
@[simp] theorem il_callv {K : Kont} {e T : List Value} {x : Arg} {xs : List Arg} {d : Dst} {k : IL} : IL.wp Y K (.op (.callv x xs d) k) e T h = CallvP Y (x.ev Y e T) (xs.map (Arg.ev Y e T)) h (EfK Y K k d e T) := (rfl)
@[simp] theorem CallvP_func {j : Nat} {xs : List Value} {R : Value → Heap → Prop} : CallvP Y (.func (.func (Y.fid j)) #[] #[]) xs h R = (Y.able (Y.fid j) ∧ CallP Y j xs h R) := by
  simp [CallvP, CallP]

theorem sem_eqa3 {neg : Bool} {t u : Tri} : IOp.sem Y h (.eqa neg 3) [.agg #[.int .i64 t.a, .int .i64 t.b, .int .i64 t.c], .agg #[.int .i64 u.a, .int .i64 u.b, .int .i64 u.c]] = some (.bool (if neg then !decide (t = u) else decide (t = u))) := by
  have e : decide (t = u) = ((t.a == u.a) && ((t.b == u.b) && (t.c == u.c))) := by
    obtain ⟨a, b, c⟩ := t
    obtain ⟨a', b', c'⟩ := u
    rw [Bool.eq_iff_iff]
    simp
  rw [e]
  simp [IOp.sem, intsEq, eqOf]

/-- no row of a net is very long -/
structure NetSmall (N : NetD) : Prop where
  bv : N.vs.length ≤ 20000
  ba : N.as.length ≤ 20000
  bt : N.ts.length ≤ 20000
  bc : ∀ i, i < N.ts.length → (nthB N.ts i).cs.length ≤ 1000000

def RSn1 (v0 v1 : Value) (B C : Nat) (n : Nat) (a b : List Tri) (h0 : Heap) (e : List Value) (h' : Heap) : Prop :=
  ∃ (i : Nat) (v4 v6 v7 v8 v9 v10 v11 v12 v13 v14 : Value), e = [v0, v1, .pointer (some ⟨B, 0, none⟩), .pointer (some ⟨C, 0, none⟩), v4, .int .i64 i, v6, v7, v8, v9, v10, v11, v12, v13, v14] ∧ i ≤ n ∧ (∀ j, j < i → nthT a j = nthT b j) ∧ h' = h0
def RSn2 (v0 v1 : Value) (B C : Nat) (n : Nat) (a b : List Tri) (h0 : Heap) (e : List Value) (h' : Heap) : Prop :=
  ∃ (i : Nat) (v4 v5 v7 v8 v9 v10 v11 v12 v13 v14 : Value), e = [v0, v1, .pointer (some ⟨B, 0, none⟩), .pointer (some ⟨C, 0, none⟩), v4, v5, .int .i64 i, v7, v8, v9, v10, v11, v12, v13, v14] ∧ i ≤ n ∧ (∀ j, j < i → nthT a j = nthT b j) ∧ h' = h0
def RSn3 (v0 v1 : Value) (B C : Nat) (n : Nat) (a b : List Tab) (h0 : Heap) (e : List Value) (h' : Heap) : Prop :=
  ∃ (i : Nat) (v4 v5 v6 v8 v9 v10 v11 v12 v13 v14 : Value), e = [v0, v1, .pointer (some ⟨B, 0, none⟩), .pointer (some ⟨C, 0, none⟩), v4, v5, v6, .int .i64 i, v8, v9, v10, v11, v12, v13, v14] ∧ i ≤ n ∧ (∀ j, j < i → nthB a j = nthB b j) ∧ Ext h0 h'

theorem rsamenet_spec (HS : Y.Has F.rref6_SameNet S_rref6_SameNet) (T : RefSame Y) {sv sa st sv' sa' st' : Sl} {N M : NetD} (r : NetH h sv sa st N) (r' : NetH h sv' sa' st' M) (b : NetSmall N) {R : Value → Heap → Prop}
    (hr : ∀ h', Ext h h' → R (.bool (decide (N = M))) h') : CallP Y F.rref6_SameNet [netV sv sa st, netV sv' sa' st'] h R := by
  have lv := r.rv.len
  have la := r.ra.len
  have lt := r.rt.len
  have lv' := r'.rv.len
  have la' := r'.ra.len
  have lt' := r'.rt.len
  obtain ⟨b1, b2, b3, b4⟩ := b
  refine .of_has HS rfl ?_
  simp [S_rref6_SameNet, FnS.wp, netV]
  refine ef_new_box ?_
  intro B hB gB bB eB
  have cB : ∀ g, Ext g h → Ext g hB := fun g e => Mod.trans e eB
  simp (config := { maxDischargeDepth := 60 }) [cB, bB.sk, bB.rk]
  refine ef_new_box ?_
  intro C hC gC bC eC
  have cC : ∀ g, Ext g hB → Ext g hC := fun g e => Mod.trans e eC
  have x1 := eB.trans eC
  have no : N ≠ M → ∀ h', Ext h h' → R (.bool false) h' := fun hn h' e => by
    have := hr h' e
    rwa [decide_eq_false hn] at this
  by_cases c1 : sv.n = sv'.n
  rotate_left
  · have c1' : ¬ (sv.n : Int) = sv'.n := by omega
    simp (config := { maxDischargeDepth := 60 }) [cB, bB.sk, bB.rk, cC, bC.sk, bC.rk, c1']
    exact no (fun e => by rw [e] at lv; omega) _ x1
  have c1' : ((sv.n : Int) = sv'.n) = True := by simp; omega
  by_cases c2 : sa.n = sa'.n
  rotate_left
  · have c2' : ¬ (sa.n : Int) = sa'.n := by omega
    simp (config := { maxDischargeDepth := 60 }) [cB, bB.sk, bB.rk, cC, bC.sk, bC.rk, c1', c2']
    exact no (fun e => by rw [e] at la; omega) _ x1
  have c2' : ((sa.n : Int) = sa'.n) = True := by simp; omega
  by_cases c3 : st.n = st'.n
  rotate_left
  · have c3' : ¬ (st.n : Int) = st'.n := by omega
    simp (config := { maxDischargeDepth := 60 }) [cB, bB.sk, bB.rk, cC, bC.sk, bC.rk, c1', c2', c3']
    exact no (fun e => by rw [e] at lt; omega) _ x1
  have c3' : ((st.n : Int) = st'.n) = True := by simp; omega
  simp (config := { maxDischargeDepth := 60 }) [cB, bB.sk, bB.rk, cC, bC.sk, bC.rk, c1', c2', c3']
  refine wp_loop' (RSn1 (netV sv sa st) (netV sv' sa' st') B C sv.n N.vs M.vs hC) (fun e _ => sv.n - argI e 5) ⟨0, _, _, _, _, _, _, _, _, _, _, rfl, by omega, fun j hj => by omega, rfl⟩ ?_
  rintro e h1 ⟨i, v4, v6, v7, v8, v9, v10, v11, v12, v13, v14, rfl, hi, hall, rfl⟩
  by_cases c : i < sv.n
  · have c' : (i : Int) < sv.n := by omega
    have c'' : (i : Int) < sv'.n := by omega
    have ci : i < N.vs.length := by omega
    have cj : i < M.vs.length := by omega
    have w1 : IntKind.i64.wrap ((i : Int) + 1) = (i : Int) + 1 := i64_wrap (by omega)
    simp (config := { maxDischargeDepth := 60 }) [cB, bB.sk, bB.rk, cC, bC.sk, bC.rk, sem_idxa r.rv.ok, sem_idxa r'.rv.ok, sem_idxa r.ra.ok, sem_idxa r'.ra.ok, sem_idxa r.rt.ok, sem_idxa r'.rt.ok, r.rv.sr, r'.rv.sr, r.ra.sr, r'.ra.sr, c', c'', ci, cj, sem_eqa3]
    by_cases q : nthT N.vs i = nthT M.vs i
    · have q' : (nthT N.vs i = nthT M.vs i) = True := by simp [q]
      simp [q', w1]
      refine ⟨⟨i + 1, _, _, _, _, _, _, _, _, _, _, rfl, by omega, fun j hj => ?_, rfl⟩, by simp [argI]; omega⟩
      rcases Nat.lt_or_ge j i with g | g
      · exact hall j g
      · obtain rfl : j = i := by omega
        exact q
    · simp [q]
      exact no (fun e => q (by rw [e])) _ x1
  have c' : ¬ (i : Int) < sv.n := by omega
  have ev : N.vs = M.vs := nthT_ext (by omega) fun j hj => hall j (by omega)
  clear hall hi c
  simp (config := { maxDischargeDepth := 60 }) [cB, bB.sk, bB.rk, cC, bC.sk, bC.rk, sem_idxa r.rv.ok, sem_idxa r'.rv.ok, sem_idxa r.ra.ok, sem_idxa r'.ra.ok, sem_idxa r.rt.ok, sem_idxa r'.rt.ok, r.rv.sr, r'.rv.sr, r.ra.sr, r'.ra.sr, c']
  clear c'
  refine wp_loop' (RSn2 (netV sv sa st) (netV sv' sa' st') B C sa.n N.as M.as h1) (fun e _ => sa.n - argI e 6) ⟨0, _, _, _, _, _, _, _, _, _, _, rfl, by omega, fun j hj => by omega, rfl⟩ ?_
  rintro e h1 ⟨i, v4, v5, v7, v8, v9, v10, v11, v12, v13, v14, rfl, hi, hall, rfl⟩
  by_cases c : i < sa.n
  · have c' : (i : Int) < sa.n := by omega
    have c'' : (i : Int) < sa'.n := by omega
    have ci : i < N.as.length := by omega
    have cj : i < M.as.length := by omega
    have w1 : IntKind.i64.wrap ((i : Int) + 1) = (i : Int) + 1 := i64_wrap (by omega)
    simp (config := { maxDischargeDepth := 60 }) [cB, bB.sk, bB.rk, cC, bC.sk, bC.rk, sem_idxa r.rv.ok, sem_idxa r'.rv.ok, sem_idxa r.ra.ok, sem_idxa r'.ra.ok, sem_idxa r.rt.ok, sem_idxa r'.rt.ok, r.rv.sr, r'.rv.sr, r.ra.sr, r'.ra.sr, c', c'', ci, cj, sem_eqa3]
    by_cases q : nthT N.as i = nthT M.as i
    · have q' : (nthT N.as i = nthT M.as i) = True := by simp [q]
      simp [q', w1]
      refine ⟨⟨i + 1, _, _, _, _, _, _, _, _, _, _, rfl, by omega, fun j hj => ?_, rfl⟩, by simp [argI]; omega⟩
      rcases Nat.lt_or_ge j i with g | g
      · exact hall j g
      · obtain rfl : j = i := by omega
        exact q
    · simp [q]
      exact no (fun e => q (by rw [e])) _ x1
  have c' : ¬ (i : Int) < sa.n := by omega
  have ea : N.as = M.as := nthT_ext (by omega) fun j hj => hall j (by omega)
  clear hall hi c
  simp (config := { maxDischargeDepth := 60 }) [cB, bB.sk, bB.rk, cC, bC.sk, bC.rk, sem_idxa r.rv.ok, sem_idxa r'.rv.ok, sem_idxa r.ra.ok, sem_idxa r'.ra.ok, sem_idxa r.rt.ok, sem_idxa r'.rt.ok, r.rv.sr, r'.rv.sr, r.ra.sr, r'.ra.sr, c']
  clear c'
  refine wp_loop' (RSn3 (netV sv sa st) (netV sv' sa' st') B C st.n N.ts M.ts h1) (fun e _ => st.n - argI e 7) ⟨0, _, _, _, _, _, _, _, _, _, _, rfl, by omega, fun j hj => by omega, Mod.refl _⟩ ?_
  rintro e h2 ⟨i, v4, v5, v6, v8, v9, v10, v11, v12, v13, v14, rfl, hi, hall, x2⟩
  have x12 := x1.trans x2
  have k2 : ∀ g, Ext g h1 → Ext g h2 := fun g e => Mod.trans e x2
  by_cases c : i < st.n
  · have c' : (i : Int) < st.n := by omega
    have c'' : (i : Int) < st'.n := by omega
    have w1 : IntKind.i64.wrap ((i : Int) + 1) = (i : Int) + 1 := i64_wrap (by omega)
    obtain ⟨u, rdu, _, ru⟩ := (r.rt.ext x12).rd (i := i) (by omega)
    obtain ⟨w, rdw, _, rw'⟩ := (r'.rt.ext x12).rd (i := i) (by omega)
    simp (config := { maxDischargeDepth := 60 }) [cB, bB.sk, bB.rk, cC, bC.sk, bC.rk, sem_idxa r.rv.ok, sem_idxa r'.rv.ok, sem_idxa r.ra.ok, sem_idxa r'.ra.ok, sem_idxa r.rt.ok, sem_idxa r'.rt.ok, r.rv.sr, r'.rv.sr, r.ra.sr, r'.ra.sr, c', c'', k2, rdu, rdw]
    refine rsamet_spec T ru rw' (by have := b4 i (by omega); have := ru.len; omega) ?_
    intro h3 e3
    rw [decide_tab]
    have x3 := x12.trans e3
    by_cases q : nthB N.ts i = nthB M.ts i
    · have q' : (nthB N.ts i = nthB M.ts i) = True := by simp [q]
      simp [q', w1]
      refine ⟨⟨i + 1, _, _, _, _, _, _, _, _, _, _, rfl, by omega, fun j hj => ?_, x2.trans e3⟩, by simp [argI]; omega⟩
      rcases Nat.lt_or_ge j i with g | g
      · exact hall j g
      · obtain rfl : j = i := by omega
        exact q
    · simp [q]
      exact no (fun e => q (by rw [e])) _ x3
  have c' : ¬ (i : Int) < st.n := by omega
  have et : N.ts = M.ts := nthB_ext (by omega) fun j hj => hall j (by omega)
  have e : N = M := by
    obtain ⟨a, b, c⟩ := N
    obtain ⟨a', b', c'⟩ := M
    simp only at ev ea et
    rw [ev, ea, et]
  have := hr h2 x12
  rw [decide_eq_true e] at this
  simp (config := { maxDischargeDepth := 60 }) [cB, bB.sk, bB.rk, cC, bC.sk, bC.rk, sem_idxa r.rv.ok, sem_idxa r'.rv.ok, sem_idxa r.ra.ok, sem_idxa r'.ra.ok, sem_idxa r.rt.ok, sem_idxa r'.rt.ok, r.rv.sr, r'.rv.sr, r.ra.sr, r'.ra.sr, c', k2]
  exact this

end
end Go.Rm

/- The document's nets: Ins, Outs, Turn, Walk, Cost. -/
set_option linter.unusedSimpArgs false
set_option linter.unusedVariables false
namespace Go.Rm

/-- a net that may be -/
structure NetOK (N : NetD) : Prop where
  bv : N.vs.length ≤ 4096
  ba : N.as.length ≤ 16384
  bt : N.ts.length ≤ 256
  tab : ∀ i, i < N.ts.length → (tabWr (nthB N.ts i)).2 = 0
  vx : ∀ i, i < N.vs.length → farB (nthT N.vs i).a = false ∧ farB (nthT N.vs i).b = false
  vt : ∀ i, i < N.vs.length → vtxB N.ts.length (nthT N.vs i).c = true
  arcs : ArcsIn N
  w : ∀ i, i < N.as.length → weightB (nthT N.as i).c = true
  meet : ∀ i, i < N.vs.length → insN N.as i ≤ 16 ∧ outsN N.as i ≤ 16 ∧ (nthB N.ts (nthT N.vs i).c.toNat).i = insN N.as i ∧ (nthB N.ts (nthT N.vs i).c.toNat).o = outsN N.as i

theorem orW_zero {a b : Wr} : (orW a b).2 = 0 ↔ a.2 = 0 ∧ b.2 = 0 := by
  unfold orW
  split
  · rename_i h; simp [h]
  · rename_i h
    have : a.2 = 0 := by simpa using h
    simp [this]
theorem typesW_zero : ∀ {l : List Tab} {k : Nat}, (typesW k l).2 = 0 ↔ ∀ i, i < l.length → (tabWr (nthB l i)).2 = 0 := by
  intro l
  induction l with
  | nil => intro k; simp [typesW, wOK]
  | cons t r ih =>
    intro k
    rw [typesW]
    split
    · rename_i c
      constructor
      · intro h0
        unfold withinW at h0
        rw [if_neg c] at h0
        exact absurd h0 c
      · intro h
        exact absurd (h 0 (by simp)) (by simpa [nthB] using c)
    · rename_i c
      rw [ih]
      constructor
      · intro h i hi
        cases i with
        | zero => simpa [nthB] using c
        | succ i => exact h i (by simpa using hi)
      · intro h i hi
        exact h (i + 1) (by simpa using hi)
theorem vertW_zero {nt k : Nat} {v : Tri} : (vertW nt k v).2 = 0 ↔ farB v.a = false ∧ farB v.b = false ∧ vtxB nt v.c = true := by
  unfold vertW
  cases farB v.a <;> cases farB v.b <;> cases vtxB nt v.c <;> simp [atW, wOK]
theorem vertsW_zero {nt : Nat} : ∀ {l : List Tri} {k : Nat}, (vertsW nt k l).2 = 0 ↔ ∀ i, i < l.length → farB (nthT l i).a = false ∧ farB (nthT l i).b = false ∧ vtxB nt (nthT l i).c = true := by
  intro l
  induction l with
  | nil => intro k; simp [vertsW, wOK]
  | cons t r ih =>
    intro k
    rw [vertsW]
    split
    · rename_i c
      constructor
      · intro h0
        exact absurd h0 c
      · intro h
        exact absurd (vertW_zero.2 (h 0 (by simp))) (by simpa [nthT] using c)
    · rename_i c
      rw [ih]
      constructor
      · intro h i hi
        cases i with
        | zero => exact (vertW_zero (k := k) (v := t)).1 (by simpa using c)
        | succ i => exact h i (by simpa using hi)
      · intro h i hi
        exact h (i + 1) (by simpa using hi)
theorem arcW_zero {nv k : Nat} {a : Tri} : (arcW nv k a).2 = 0 ↔ vtxB nv a.a = true ∧ vtxB nv a.b = true ∧ weightB a.c = true := by
  unfold arcW
  cases vtxB nv a.a <;> cases vtxB nv a.b <;> cases weightB a.c <;> simp [atW, wOK]
theorem arcsW_zero {nv : Nat} : ∀ {l : List Tri} {k : Nat}, (arcsW nv k l).2 = 0 ↔ ∀ i, i < l.length → vtxB nv (nthT l i).a = true ∧ vtxB nv (nthT l i).b = true ∧ weightB (nthT l i).c = true := by
  intro l
  induction l with
  | nil => intro k; simp [arcsW, wOK]
  | cons t r ih =>
    intro k
    rw [arcsW]
    split
    · rename_i c
      constructor
      · intro h0
        exact absurd h0 c
      · intro h
        exact absurd (arcW_zero.2 (h 0 (by simp))) (by simpa [nthT] using c)
    · rename_i c
      rw [ih]
      constructor
      · intro h i hi
        cases i with
        | zero => exact (arcW_zero (k := k) (a := t)).1 (by simpa using c)
        | succ i => exact h i (by simpa using hi)
      · intro h i hi
        exact h (i + 1) (by simpa using hi)
theorem meet1_zero {N : NetD} {k : Nat} {v : Tri} : (meet1 N k v).2 = 0 ↔ insN N.as k ≤ 16 ∧ outsN N.as k ≤ 16 ∧ (nthB N.ts v.c.toNat).i = insN N.as k ∧ (nthB N.ts v.c.toNat).o = outsN N.as k := by
  unfold meet1
  split
  · rename_i c
    simp [atW]
    omega
  · rename_i c
    split
    · rename_i d
      simp [atW]
      omega
    · rename_i d
      simp [wOK]
      omega
theorem meetW_zero {N : NetD} : ∀ {l : List Tri} {k : Nat}, (meetW N k l).2 = 0 ↔ ∀ i, i < l.length → insN N.as (k + i) ≤ 16 ∧ outsN N.as (k + i) ≤ 16 ∧ (nthB N.ts (nthT l i).c.toNat).i = insN N.as (k + i) ∧ (nthB N.ts (nthT l i).c.toNat).o = outsN N.as (k + i) := by
  intro l
  induction l with
  | nil => intro k; simp [meetW, wOK]
  | cons t r ih =>
    intro k
    rw [meetW]
    split
    · rename_i c
      constructor
      · intro h0
        exact absurd h0 c
      · intro h
        exact absurd (meet1_zero.2 (h 0 (by simp))) (by simpa [nthT] using c)
    · rename_i c
      rw [ih]
      constructor
      · intro h i hi
        cases i with
        | zero => exact (meet1_zero (k := k) (v := t)).1 (by simpa using c)
        | succ i =>
          have := h i (by simpa using hi)
          rw [show k + 1 + i = k + (i + 1) by omega] at this
          exact this
      · intro h i hi
        have := h (i + 1) (by simpa using hi)
        rw [show k + (i + 1) = k + 1 + i by omega] at this
        exact this
theorem sizeW_zero {N : NetD} : (sizeW N).2 = 0 ↔ N.vs.length ≤ 4096 ∧ N.as.length ≤ 16384 ∧ N.ts.length ≤ 256 := by
  unfold sizeW
  split
  · simp [atW]; omega
  · split
    · simp [atW]; omega
    · split
      · simp [atW]; omega
      · simp [wOK]; omega
theorem netOK_iff {N : NetD} : (netW N).2 = 0 ↔ NetOK N := by
  unfold netW
  rw [orW_zero, orW_zero, orW_zero, orW_zero, sizeW_zero, typesW_zero, vertsW_zero, arcsW_zero, meetW_zero]
  constructor
  · rintro ⟨⟨a, b, c⟩, d, e, f, g⟩
    exact ⟨a, b, c, d, fun i hi => ⟨(e i hi).1, (e i hi).2.1⟩, fun i hi => (e i hi).2.2, fun i hi => ⟨(f i hi).1, (f i hi).2.1⟩, fun i hi => (f i hi).2.2, fun i hi => by have := g i hi; rwa [Nat.zero_add] at this⟩
  · rintro ⟨a, b, c, d, e1, e2, f1, f2, g⟩
    exact ⟨⟨a, b, c⟩, d, fun i hi => ⟨(e1 i hi).1, (e1 i hi).2, e2 i hi⟩, fun i hi => ⟨(f1 i hi).1, (f1 i hi).2, f2 i hi⟩, fun i hi => by rw [Nat.zero_add]; exact g i hi⟩
theorem tabWr_ok {t : Tab} (h : (tabWr t).2 = 0) : tabWr t = wOK := by
  obtain ⟨_, _, _, _, _, _, h⟩ := tab_ok (ins := t.i) (outs := t.o) (cs := t.cs) h
  exact h
theorem netW_ok {N : NetD} (h : NetOK N) : netW N = wOK := by
  have hs : sizeW N = wOK := by
    obtain ⟨a, b, c⟩ := (⟨h.bv, h.ba, h.bt⟩ : _ ∧ _ ∧ _)
    unfold sizeW
    rw [if_neg (by omega), if_neg (by omega), if_neg (by omega)]
  have ht : ∀ {l : List Tab} {k : Nat}, (typesW k l).2 = 0 → typesW k l = wOK := by
    intro l
    induction l with
    | nil => intro k _; rfl
    | cons t r ih =>
      intro k h0
      rw [typesW] at h0 ⊢
      split at h0
      · rename_i c
        unfold withinW at h0
        rw [if_neg c] at h0
        exact absurd h0 c
      · rename_i c
        rw [if_neg c]
        exact ih h0
  have hv : ∀ {l : List Tri} {k : Nat}, (vertsW N.ts.length k l).2 = 0 → vertsW N.ts.length k l = wOK := by
    intro l
    induction l with
    | nil => intro k _; rfl
    | cons t r ih =>
      intro k h0
      rw [vertsW] at h0 ⊢
      split at h0
      · rename_i c
        exact absurd h0 c
      · rename_i c
        rw [if_neg c]
        exact ih h0
  have ha : ∀ {l : List Tri} {k : Nat}, (arcsW N.vs.length k l).2 = 0 → arcsW N.vs.length k l = wOK := by
    intro l
    induction l with
    | nil => intro k _; rfl
    | cons t r ih =>
      intro k h0
      rw [arcsW] at h0 ⊢
      split at h0
      · rename_i c
        exact absurd h0 c
      · rename_i c
        rw [if_neg c]
        exact ih h0
  have hm : ∀ {l : List Tri} {k : Nat}, (meetW N k l).2 = 0 → meetW N k l = wOK := by
    intro l
    induction l with
    | nil => intro k _; rfl
    | cons t r ih =>
      intro k h0
      rw [meetW] at h0 ⊢
      split at h0
      · rename_i c
        exact absurd h0 c
      · rename_i c
        rw [if_neg c]
        exact ih h0
  have h0 := netOK_iff.2 h
  unfold netW at h0 ⊢
  rw [orW_zero, orW_zero, orW_zero, orW_zero] at h0
  obtain ⟨h1, h2, h3, h4, h5⟩ := h0
  rw [orW_r h1, orW_r h2, orW_r h3, orW_r h4, hm h5]

section
variable {Y : Sys} {h : Heap}

end
end Go.Rm

/- The laws of nets: May, ring, known. -/
set_option linter.unusedSimpArgs false
set_option linter.unusedVariables false
namespace Go.Rm

def mayD (N : NetD) : Bool := fewD N && decide ((netW N).2 = 0)

def ringN : NetD := ⟨[⟨0, 0, 1⟩, ⟨10, 0, 2⟩, ⟨5, 8, 0⟩], [⟨0, 1, 10⟩, ⟨1, 2, 20⟩, ⟨2, 0, 30⟩, ⟨1, 0, 40⟩], [⟨1, 1, [2]⟩, ⟨2, 1, [0, 1152921504606846976]⟩, ⟨1, 2, [1, 5]⟩]⟩
theorem ringN_ok : netW ringN = wOK := by rfl
theorem ringN_OK : NetOK ringN := netOK_iff.1 (by rw [ringN_ok]; rfl)

section
variable {Y : Sys} {h : Heap}

end
end Go.Rm

/- The laws of nets: known. -/
set_option linter.unusedSimpArgs false
set_option linter.unusedVariables false
namespace Go.Rm

section
variable {Y : Sys} {h : Heap}

theorem Own.setN {sz : Nat} {s : Sl} {cells : List Value} (ho : Own h sz s cells) {i : Nat} {v : Value} (hi : i < cells.length) : Own (hset h s.b (s.o + i) v) sz s (cells.set i v) := by
  refine ⟨by simp [ho.1], ?_⟩
  rcases ho.2 with ⟨_, rfl⟩ | ⟨h1, h2, hsp, h3, h4, arr, hb, h5, h6⟩
  · simp at hi
  · refine .inr ⟨h1, h2, hsp, h3, h4, arr.setIfInBounds (s.o + i) v, hb.set, by simp [h5], ?_⟩
    rw [h2, Nat.zero_add, Array.toList_setIfInBounds, ← h6, List.take_set]
/-- a cell is stored into a row of one's own -/
theorem stN {K : Value → Heap → Prop} {sz : Nat} {s : Sl} {cells : List Value} (o : Own h sz s cells) {k : Nat} {v : Value} (hk : k < cells.length)
    (hr : ∀ h', Own h' sz s (cells.set k v) → Mod (fun j => j = s.b) h h' → K undef h') : StoreP h s.b (s.o + k) v K := by
  have h1 := o.setN (v := v) hk
  obtain ⟨arr, hb, hlt, hnl⟩ := o.blk hk
  rw [StoreP.open]
  refine ⟨?_, hb.hfz, hr _ h1 (Mod.set rfl)⟩
  rw [hb.hc]
  simp [hlt]
end
end Go.Rm
