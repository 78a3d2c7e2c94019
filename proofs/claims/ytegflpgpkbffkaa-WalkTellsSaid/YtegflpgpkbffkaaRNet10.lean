import Derived.Test.YtegflpgpkbffkaaRHeap
import Derived.Test.YtegflpgpkbffkaaRNet

/- Package net: arc, Ins, Outs, bend, Turn. -/
set_option linter.unusedSimpArgs false
set_option linter.unusedVariables false
namespace Go.Rm

/-- the numbers of the arcs that are so -/
def idxF (p : Tri → Bool) : Nat → List Tri → List Int
  | _, [] => []
  | k, t :: r => if p t then (k : Int) :: idxF p (k + 1) r else idxF p (k + 1) r
theorem idxF_app {p : Tri → Bool} {a b : List Tri} : ∀ {k : Nat}, idxF p k (a ++ b) = idxF p k a ++ idxF p (k + a.length) b := by
  induction a with
  | nil => intro k; rfl
  | cons t r ih =>
    intro k
    have e : k + 1 + r.length = k + (t :: r).length := by simp; omega
    rw [List.cons_append, idxF, idxF, ih, e]
    split <;> rfl
theorem idxF_snoc {p : Tri → Bool} {l : List Tri} {i : Nat} (hi : i < l.length) : idxF p 0 (l.take (i + 1)) = idxF p 0 (l.take i) ++ if p (nthT l i) then [(i : Int)] else [] := by
  rw [List.take_succ_eq_append_getElem hi, idxF_app, nthT_eq hi]
  congr 1
  simp [idxF, List.length_take, Nat.min_eq_left (Nat.le_of_lt hi)]
theorem idxF_len {p : Tri → Bool} {l : List Tri} : ∀ {k : Nat}, (idxF p k l).length = (l.filter p).length := by
  induction l with
  | nil => intro k; rfl
  | cons t r ih =>
    intro k
    rw [idxF]
    by_cases c : p t = true
    · simp [c, ih]
    · simp [c, ih]
def insO (as : List Tri) (v : Int) : List Int := idxF (fun t => decide (t.b = v)) 0 as
def outsO (as : List Tri) (v : Int) : List Int := idxF (fun t => decide (t.a = v)) 0 as
def InfI : Int := 1152921504606846976
/-- what it costs to turn, of places that are told -/
def bendV (N : NetD) (a b i o : Int) : Int :=
  let v := (nthT N.as a.toNat).b
  if v ≠ (nthT N.as b.toNat).a ∨ vtxB N.vs.length v = false then InfI
  else
    let t := (nthT N.vs v.toNat).c
    if vtxB N.ts.length t = false then InfI else atV (nthB N.ts t.toNat).i (nthB N.ts t.toNat).o (nthB N.ts t.toNat).cs i o
def cntB (as : List Tri) (a : Nat) (n : Nat) : Nat := ((as.take n).filter fun t => decide (t.b = (nthT as a).b)).length
def cntA (as : List Tri) (a : Nat) (n : Nat) : Nat := ((as.take n).filter fun t => decide (t.a = (nthT as a).a)).length
theorem cntB_succ {as : List Tri} {a n : Nat} (hn : n < as.length) : cntB as a (n + 1) = cntB as a n + if (nthT as n).b = (nthT as a).b then 1 else 0 := by
  unfold cntB
  rw [List.take_succ_eq_append_getElem hn, nthT_eq hn, List.filter_append, List.length_append]
  congr 1
  by_cases c : as[n].b = (nthT as a).b <;> simp [c]
theorem cntA_succ {as : List Tri} {a n : Nat} (hn : n < as.length) : cntA as a (n + 1) = cntA as a n + if (nthT as n).a = (nthT as a).a then 1 else 0 := by
  unfold cntA
  rw [List.take_succ_eq_append_getElem hn, nthT_eq hn, List.filter_append, List.length_append]
  congr 1
  by_cases c : as[n].a = (nthT as a).a <;> simp [c]
theorem cntB_le {as : List Tri} {a n : Nat} : cntB as a n ≤ as.length := Nat.le_trans (List.length_filter_le ..) (by simp; omega)
theorem cntA_le {as : List Tri} {a n : Nat} : cntA as a n ≤ as.length := Nat.le_trans (List.length_filter_le ..) (by simp; omega)
/-- what it costs to turn from an arc into another one -/
def turnV (N : NetD) (a b : Int) : Int :=
  if vtxB N.as.length a = false ∨ vtxB N.as.length b = false then InfI
  else bendV N a b (cntB N.as a.toNat a.toNat) (cntA N.as b.toNat b.toNat)

section
variable {Y : Sys} {h : Heap}

end
end Go.Rm

/- Package net: places, over, Walk, Cost; sums of costs. -/
set_option linter.unusedSimpArgs false
set_option linter.unusedVariables false
namespace Go.Rm

def addI (a b : Int) : Int := held (held a + held b)
def sumI (l : List Int) : Int := l.foldl addI 0
theorem held_range {a : Int} : 0 ≤ held a ∧ held a ≤ InfI := by
  unfold held InfI
  repeat' split
  all_goals omega
theorem held_id {a : Int} (h : 0 ≤ a ∧ a ≤ InfI) : held a = a := by
  unfold held InfI at *
  repeat' split
  all_goals omega
theorem addI_range {a b : Int} : 0 ≤ addI a b ∧ addI a b ≤ InfI := held_range
theorem addI_assoc {a b c : Int} : addI (addI a b) c = addI a (addI b c) := by
  unfold addI
  have ha := held_range (a := a)
  have hb := held_range (a := b)
  have hc := held_range (a := c)
  rw [held_id (held_range), held_id (held_range)]
  generalize held a = x at *
  generalize held b = y at *
  generalize held c = z at *
  unfold held InfI at *
  repeat' split
  all_goals omega
theorem addI_zero {a : Int} : addI 0 a = held a := by
  unfold addI
  have h0 : held 0 = 0 := rfl
  rw [h0, Int.zero_add, held_id held_range]

def insP (as : List Tri) (i : Nat) : List Int := (List.range as.length).map fun j => if j < i then (cntB as j j : Int) else 0
def outsP (as : List Tri) (i : Nat) : List Int := (List.range as.length).map fun j => if j < i then (cntA as j j : Int) else 0
@[simp] theorem insP_len {as : List Tri} {i : Nat} : (insP as i).length = as.length := by simp [insP]
@[simp] theorem outsP_len {as : List Tri} {i : Nat} : (outsP as i).length = as.length := by simp [outsP]
theorem cntB_insN {as : List Tri} {i g : Nat} (hg : (nthT as i).b = (g : Int)) : cntB as i i = insN (as.take i) g := by
  unfold cntB insN
  rw [hg]
theorem cntA_outsN {as : List Tri} {i g : Nat} (hg : (nthT as i).a = (g : Int)) : cntA as i i = outsN (as.take i) g := by
  unfold cntA outsN
  rw [hg]
/-- all arcs go from a vertex to one -/
def ArcsIn (N : NetD) : Prop := ∀ i, i < N.as.length → vtxB N.vs.length (nthT N.as i).a = true ∧ vtxB N.vs.length (nthT N.as i).b = true

structure CostFns (Y : Sys) : Prop where
  Held : Y.Has F.cost_Held S_cost_Held
  Add : Y.Has F.cost_Add S_cost_Add
  Sum : Y.Has F.cost_Sum S_cost_Sum
structure RefCost (Y : Sys) : Prop where
  Held : Y.Has F.rref6_Held S_rref6_Held
  Add : Y.Has F.rref6_Add S_rref6_Add

section
variable {Y : Sys} {h : Heap}

theorem add_spec (C : CostFns Y) {a b : Int} {R : Value → Heap → Prop} (hr : R (.int .i64 (addI a b)) h) : CallP Y F.cost_Add [.int .i64 a, .int .i64 b] h R := by
  refine .of_has C.Add rfl ?_
  simp [S_cost_Add, FnS.wp]
  refine held_spec C.Held ?_
  simp
  refine held_spec C.Held ?_
  have ha := held_range (a := a)
  have hb := held_range (a := b)
  have w : IntKind.i64.wrap (held a + held b) = held a + held b := i64_wrap (by unfold InfI at *; omega)
  simp [w]
  refine held_spec C.Held ?_
  simp
  exact hr
theorem nrheld_spec (H : Y.Has F.rref6_Held S_rref6_Held) {a : Int} {h : Heap} {R : Value → Heap → Prop} (hr : R (.int .i64 (held a)) h) : CallP Y F.rref6_Held [.int .i64 a] h R := by
  refine .of_has H rfl ?_
  simp [S_rref6_Held, FnS.wp]
  unfold held at hr
  split
  · rename_i h0; rw [if_pos h0] at hr; exact hr
  · rename_i h0; rw [if_neg h0] at hr
    split
    · rename_i h1; rw [if_pos h1] at hr; exact hr
    · rename_i h1; rw [if_neg h1] at hr; exact hr
theorem radd_spec (C : RefCost Y) {a b : Int} {R : Value → Heap → Prop} (hr : R (.int .i64 (addI a b)) h) : CallP Y F.rref6_Add [.int .i64 a, .int .i64 b] h R := by
  refine .of_has C.Add rfl ?_
  simp [S_rref6_Add, FnS.wp]
  refine nrheld_spec C.Held ?_
  simp
  refine nrheld_spec C.Held ?_
  have ha := held_range (a := a)
  have hb := held_range (a := b)
  have w : IntKind.i64.wrap (held a + held b) = held a + held b := i64_wrap (by unfold InfI at *; omega)
  simp [w]
  refine nrheld_spec C.Held ?_
  simp
  exact hr

def SumI (s : Sl) (cs : List Int) (h0 : Heap) (e : List Value) (h' : Heap) : Prop :=
  ∃ (i : Nat) (p : Int) (v1 v3 v7 : Value), e = [s.v, v1, .int .i64 p, v3, s.v, .int .i64 s.n, .int .i64 i, v7] ∧ i ≤ s.n ∧ p = sumI (cs.take i) ∧ h' = h0

theorem sum_spec (C : CostFns Y) {s : Sl} {cs : List Int} (r : Row64 h s cs) (hbig : s.n ≤ 1000000) {R : Value → Heap → Prop} (hr : R (.int .i64 (sumI cs)) h) : CallP Y F.cost_Sum [s.v] h R := by
  have hl := r.len
  refine .of_has C.Sum rfl ?_
  simp [S_cost_Sum, FnS.wp]
  refine wp_loop' (SumI s cs h) (fun e _ => s.n - argI e 6) ⟨0, 0, _, _, _, rfl, by omega, by simp [sumI], rfl⟩ ?_
  rintro e h1 ⟨i, p, v1, v3, v7, rfl, hi, hp, rfl⟩
  by_cases c : i < s.n
  · have c' : (i : Int) < s.n := by omega
    have w1 : IntKind.i64.wrap ((i : Int) + 1) = (i : Int) + 1 := i64_wrap (by omega)
    simp [c', sem_idxa r.ok, r.at c]
    refine add_spec C ?_
    simp [w1]
    refine ⟨⟨i + 1, _, _, _, _, rfl, by omega, ?_, rfl⟩, by simp [argI]; omega⟩
    rw [hp, sumI, sumI, List.take_succ_eq_append_getElem (by omega), List.foldl_append]
    simp [nthI, show i < cs.length by omega]
  · have c' : ¬ (i : Int) < s.n := by omega
    rw [List.take_of_length_le (by omega)] at hp
    simp [c']
    rw [hp]
    exact hr

end
end Go.Rm

/- Package net: over, Walk, Cost. -/
set_option linter.unusedSimpArgs false
set_option linter.unusedVariables false
namespace Go.Rm

def arcC (N : NetD) (a : Int) : Int := (nthT N.as a.toNat).c
def stepOk (N : NetD) (l : List Int) (i : Nat) : Bool :=
  vtxB N.as.length (nthI l i) && decide (arcC N (nthI l i) ≠ InfI) && (decide (i = 0) || decide (turnV N (nthI l (i - 1)) (nthI l i) ≠ InfI))
def walkB (N : NetD) (l : List Int) : Bool := decide (l ≠ []) && (List.range l.length).all (stepOk N l)
theorem walkB_iff {N : NetD} {l : List Int} : walkB N l = true ↔ l ≠ [] ∧ ∀ i, i < l.length → stepOk N l i = true := by simp [walkB, List.all_eq_true]
def costTo (N : NetD) (l : List Int) : Nat → Int
  | 0 => 0
  | i + 1 => if i = 0 then 0 else addI (addI (costTo N l i) (turnV N (nthI l (i - 1)) (nthI l i))) (arcC N (nthI l i))
def costV (N : NetD) (l : List Int) : Int := if walkB N l then costTo N l l.length else InfI
theorem costTo_range {N : NetD} {l : List Int} {i : Nat} : 0 ≤ costTo N l i ∧ costTo N l i ≤ InfI := by
  cases i with
  | zero => simp [costTo, InfI]
  | succ i =>
    rw [costTo]
    split
    · simp [InfI]
    · exact addI_range
theorem turnV_in {N : NetD} {a b : Nat} (ha : a < N.as.length) (hb : b < N.as.length) : turnV N a b = bendV N a b (cntB N.as a a) (cntA N.as b b) := by
  unfold turnV
  rw [if_neg]
  · simp
  · simp [vtxB]; omega

section
variable {Y : Sys} {h : Heap}

end
end Go.Rm

/- Nets that are alike: slices.Equal, slices.EqualFunc, net.Same, SameNet, SameInts. -/
set_option linter.unusedSimpArgs false
set_option linter.unusedVariables false
namespace Go.Rm

section
variable {Y : Sys} {h : Heap}

def CallvP (Y : Sys) (x : Value) (xs : List Value) (h : Heap) (R : Value → Heap → Prop) : Prop :=
  match x with
  | .func (.func f) first cap => Y.able f ∧ Y.C f (first.toList ++ xs ++ cap.toList) h R
  | _ => False
@[simp] theorem il_callv {K : Kont} {e T : List Value} {x : Arg} {xs : List Arg} {d : Dst} {k : IL} : IL.wp Y K (.op (.callv x xs d) k) e T h = CallvP Y (x.ev Y e T) (xs.map (Arg.ev Y e T)) h (EfK Y K k d e T) := (rfl)
@[simp] theorem CallvP_func {j : Nat} {xs : List Value} {R : Value → Heap → Prop} : CallvP Y (.func (.func (Y.fid j)) #[] #[]) xs h R = (Y.able (Y.fid j) ∧ CallP Y j xs h R) := by
  simp [CallvP, CallP]

/-- no row of a net is very long -/
structure NetSmall (N : NetD) : Prop where
  bv : N.vs.length ≤ 20000
  ba : N.as.length ≤ 20000
  bt : N.ts.length ≤ 20000
  bc : ∀ i, i < N.ts.length → (nthB N.ts i).cs.length ≤ 1000000

def SIntI (s t : Sl) (a b : List Int) (h0 : Heap) (e : List Value) (h' : Heap) : Prop :=
  ∃ (i : Nat) (v2 v4 v5 v6 : Value), e = [s.v, t.v, v2, .int .i64 i, v4, v5, v6] ∧ i ≤ s.n ∧ (∀ j, j < i → nthI a j = nthI b j) ∧ h' = h0

theorem rsameints_spec (HE : Y.Has F.rref6_SameInts S_rref6_SameInts) {s t : Sl} {a b : List Int} (ra : Row64 h s a) (rb : Row64 h t b) (hbig : s.n ≤ 1000000) {R : Value → Heap → Prop} (hr : R (.bool (decide (a = b))) h) : CallP Y F.rref6_SameInts [s.v, t.v] h R := by
  have la := ra.len
  have lb := rb.len
  refine .of_has HE rfl ?_
  simp [S_rref6_SameInts, FnS.wp]
  by_cases hn : s.n = t.n
  rotate_left
  · have : decide (a = b) = false := by
      rw [decide_eq_false_iff_not]
      intro e; rw [e] at la; omega
    rw [this] at hr
    have hn' : ¬ (s.n : Int) = t.n := by omega
    simp [hn', hr]
  have hn' : ((s.n : Int) = t.n) = True := by simp; omega
  simp [hn']
  refine wp_loop' (SIntI s t a b h) (fun e _ => s.n - argI e 3) ⟨0, _, _, _, _, rfl, by omega, fun j hj => by omega, rfl⟩ ?_
  rintro e h1 ⟨i, v2, v4, v5, v6, rfl, hi, hall, rfl⟩
  by_cases c : i < s.n
  · have c' : (i : Int) < s.n := by omega
    have c'' : (i : Int) < t.n := by omega
    have ci : i < a.length := by omega
    have cj : i < b.length := by omega
    have w1 : IntKind.i64.wrap ((i : Int) + 1) = (i : Int) + 1 := i64_wrap (by omega)
    simp [c', c'', sem_idxa ra.ok, sem_idxa rb.ok, ra.val i ci, rb.val i cj]
    by_cases q : nthI a i = nthI b i
    · have q' : (nthI a i = nthI b i) = True := by simp [q]
      simp [q', w1]
      refine ⟨⟨i + 1, _, _, _, _, rfl, by omega, fun j hj => ?_, rfl⟩, by simp [argI]; omega⟩
      rcases Nat.lt_or_ge j i with g | g
      · exact hall j g
      · obtain rfl : j = i := by omega
        exact q
    · have : decide (a = b) = false := by
        rw [decide_eq_false_iff_not]
        intro e; exact q (by rw [e])
      rw [this] at hr
      simp [q, hr]
  · have c' : ¬ (i : Int) < s.n := by omega
    have : decide (a = b) = true := by
      rw [decide_eq_true_eq]
      exact nthI_ext (by omega) fun j hj => hall j (by omega)
    rw [this] at hr
    simp [c', hr]
end
end Go.Rm

/- The document's nets: Ins, Outs, Turn, Walk, Cost. -/
set_option linter.unusedSimpArgs false
set_option linter.unusedVariables false
namespace Go.Rm

/-- a net that may be -/
structure NetOK (N : NetD) : Prop where
  bv : N.vs.length ≤ 4096
  ba : N.as.length ≤ 16384
  bt : N.ts.length ≤ 256
  tab : ∀ i, i < N.ts.length → (tabWr (nthB N.ts i)).2 = 0
  vx : ∀ i, i < N.vs.length → farB (nthT N.vs i).a = false ∧ farB (nthT N.vs i).b = false
  vt : ∀ i, i < N.vs.length → vtxB N.ts.length (nthT N.vs i).c = true
  arcs : ArcsIn N
  w : ∀ i, i < N.as.length → weightB (nthT N.as i).c = true
  meet : ∀ i, i < N.vs.length → insN N.as i ≤ 16 ∧ outsN N.as i ≤ 16 ∧ (nthB N.ts (nthT N.vs i).c.toNat).i = insN N.as i ∧ (nthB N.ts (nthT N.vs i).c.toNat).o = outsN N.as i

theorem orW_zero {a b : Wr} : (orW a b).2 = 0 ↔ a.2 = 0 ∧ b.2 = 0 := by
  unfold orW
  split
  · rename_i h; simp [h]
  · rename_i h
    have : a.2 = 0 := by simpa using h
    simp [this]
theorem typesW_zero : ∀ {l : List Tab} {k : Nat}, (typesW k l).2 = 0 ↔ ∀ i, i < l.length → (tabWr (nthB l i)).2 = 0 := by
  intro l
  induction l with
  | nil => intro k; simp [typesW, wOK]
  | cons t r ih =>
    intro k
    rw [typesW]
    split
    · rename_i c
      constructor
      · intro h0
        unfold withinW at h0
        rw [if_neg c] at h0
        exact absurd h0 c
      · intro h
        exact absurd (h 0 (by simp)) (by simpa [nthB] using c)
    · rename_i c
      rw [ih]
      constructor
      · intro h i hi
        cases i with
        | zero => simpa [nthB] using c
        | succ i => exact h i (by simpa using hi)
      · intro h i hi
        exact h (i + 1) (by simpa using hi)
theorem vertW_zero {nt k : Nat} {v : Tri} : (vertW nt k v).2 = 0 ↔ farB v.a = false ∧ farB v.b = false ∧ vtxB nt v.c = true := by
  unfold vertW
  cases farB v.a <;> cases farB v.b <;> cases vtxB nt v.c <;> simp [atW, wOK]
theorem vertsW_zero {nt : Nat} : ∀ {l : List Tri} {k : Nat}, (vertsW nt k l).2 = 0 ↔ ∀ i, i < l.length → farB (nthT l i).a = false ∧ farB (nthT l i).b = false ∧ vtxB nt (nthT l i).c = true := by
  intro l
  induction l with
  | nil => intro k; simp [vertsW, wOK]
  | cons t r ih =>
    intro k
    rw [vertsW]
    split
    · rename_i c
      constructor
      · intro h0
        exact absurd h0 c
      · intro h
        exact absurd (vertW_zero.2 (h 0 (by simp))) (by simpa [nthT] using c)
    · rename_i c
      rw [ih]
      constructor
      · intro h i hi
        cases i with
        | zero => exact (vertW_zero (k := k) (v := t)).1 (by simpa using c)
        | succ i => exact h i (by simpa using hi)
      · intro h i hi
        exact h (i + 1) (by simpa using hi)
theorem arcW_zero {nv k : Nat} {a : Tri} : (arcW nv k a).2 = 0 ↔ vtxB nv a.a = true ∧ vtxB nv a.b = true ∧ weightB a.c = true := by
  unfold arcW
  cases vtxB nv a.a <;> cases vtxB nv a.b <;> cases weightB a.c <;> simp [atW, wOK]
theorem arcsW_zero {nv : Nat} : ∀ {l : List Tri} {k : Nat}, (arcsW nv k l).2 = 0 ↔ ∀ i, i < l.length → vtxB nv (nthT l i).a = true ∧ vtxB nv (nthT l i).b = true ∧ weightB (nthT l i).c = true := by
  intro l
  induction l with
  | nil => intro k; simp [arcsW, wOK]
  | cons t r ih =>
    intro k
    rw [arcsW]
    split
    · rename_i c
      constructor
      · intro h0
        exact absurd h0 c
      · intro h
        exact absurd (arcW_zero.2 (h 0 (by simp))) (by simpa [nthT] using c)
    · rename_i c
      rw [ih]
      constructor
      · intro h i hi
        cases i with
        | zero => exact (arcW_zero (k := k) (a := t)).1 (by simpa using c)
        | succ i => exact h i (by simpa using hi)
      · intro h i hi
        exact h (i + 1) (by simpa using hi)
theorem meet1_zero {N : NetD} {k : Nat} {v : Tri} : (meet1 N k v).2 = 0 ↔ insN N.as k ≤ 16 ∧ outsN N.as k ≤ 16 ∧ (nthB N.ts v.c.toNat).i = insN N.as k ∧ (nthB N.ts v.c.toNat).o = outsN N.as k := by
  unfold meet1
  split
  · rename_i c
    simp [atW]
    omega
  · rename_i c
    split
    · rename_i d
      simp [atW]
      omega
    · rename_i d
      simp [wOK]
      omega
theorem meetW_zero {N : NetD} : ∀ {l : List Tri} {k : Nat}, (meetW N k l).2 = 0 ↔ ∀ i, i < l.length → insN N.as (k + i) ≤ 16 ∧ outsN N.as (k + i) ≤ 16 ∧ (nthB N.ts (nthT l i).c.toNat).i = insN N.as (k + i) ∧ (nthB N.ts (nthT l i).c.toNat).o = outsN N.as (k + i) := by
  intro l
  induction l with
  | nil => intro k; simp [meetW, wOK]
  | cons t r ih =>
    intro k
    rw [meetW]
    split
    · rename_i c
      constructor
      · intro h0
        exact absurd h0 c
      · intro h
        exact absurd (meet1_zero.2 (h 0 (by simp))) (by simpa [nthT] using c)
    · rename_i c
      rw [ih]
      constructor
      · intro h i hi
        cases i with
        | zero => exact (meet1_zero (k := k) (v := t)).1 (by simpa using c)
        | succ i =>
          have := h i (by simpa using hi)
          rw [show k + 1 + i = k + (i + 1) by omega] at this
          exact this
      · intro h i hi
        have := h (i + 1) (by simpa using hi)
        rw [show k + (i + 1) = k + 1 + i by omega] at this
        exact this
theorem sizeW_zero {N : NetD} : (sizeW N).2 = 0 ↔ N.vs.length ≤ 4096 ∧ N.as.length ≤ 16384 ∧ N.ts.length ≤ 256 := by
  unfold sizeW
  split
  · simp [atW]; omega
  · split
    · simp [atW]; omega
    · split
      · simp [atW]; omega
      · simp [wOK]; omega
theorem netOK_iff {N : NetD} : (netW N).2 = 0 ↔ NetOK N := by
  unfold netW
  rw [orW_zero, orW_zero, orW_zero, orW_zero, sizeW_zero, typesW_zero, vertsW_zero, arcsW_zero, meetW_zero]
  constructor
  · rintro ⟨⟨a, b, c⟩, d, e, f, g⟩
    exact ⟨a, b, c, d, fun i hi => ⟨(e i hi).1, (e i hi).2.1⟩, fun i hi => (e i hi).2.2, fun i hi => ⟨(f i hi).1, (f i hi).2.1⟩, fun i hi => (f i hi).2.2, fun i hi => by have := g i hi; rwa [Nat.zero_add] at this⟩
  · rintro ⟨a, b, c, d, e1, e2, f1, f2, g⟩
    exact ⟨⟨a, b, c⟩, d, fun i hi => ⟨(e1 i hi).1, (e1 i hi).2, e2 i hi⟩, fun i hi => ⟨(f1 i hi).1, (f1 i hi).2, f2 i hi⟩, fun i hi => by rw [Nat.zero_add]; exact g i hi⟩
/-- the place of a number among the numbers of those that are so -/
theorem placeF_idxF {p : Tri → Bool} : ∀ {l : List Tri} {k q a : Nat}, a < l.length → p (nthT l a) = true → placeF q (idxF p k l) ((k + a : Nat) : Int) = ((q + ((l.take a).filter p).length : Nat) : Int) := by
  intro l
  induction l with
  | nil => intro k q a ha; simp at ha
  | cons t r ih =>
    intro k q a ha hp
    rw [idxF]
    cases a with
    | zero =>
      have : p t = true := by simpa [nthT] using hp
      rw [if_pos this]
      simp [placeF]
    | succ a =>
      have ha' : a < r.length := by simpa using ha
      have hp' : p (nthT r a) = true := by simpa [nthT] using hp
      by_cases c : p t = true
      · rw [if_pos c, placeF, if_neg (by omega)]
        have := ih (k := k + 1) (q := q + 1) ha' hp'
        rw [show k + 1 + a = k + (a + 1) by omega] at this
        rw [this]
        simp [c]
        omega
      · rw [if_neg c]
        have := ih (k := k + 1) (q := q) ha' hp'
        rw [show k + 1 + a = k + (a + 1) by omega] at this
        rw [this]
        simp [c]
theorem placeF_ins {as : List Tri} {a : Nat} (ha : a < as.length) : placeF 0 (insO as (nthT as a).b) a = cntB as a a := by
  have := placeF_idxF (p := fun t => decide (t.b = (nthT as a).b)) (l := as) (k := 0) (q := 0) ha (by simp)
  rw [Nat.zero_add, Nat.zero_add] at this
  exact this
theorem placeF_outs {as : List Tri} {a : Nat} (ha : a < as.length) : placeF 0 (outsO as (nthT as a).a) a = cntA as a a := by
  have := placeF_idxF (p := fun t => decide (t.a = (nthT as a).a)) (l := as) (k := 0) (q := 0) ha (by simp)
  rw [Nat.zero_add, Nat.zero_add] at this
  exact this
structure RefNet2 (Y : Sys) : Prop where
  There : Y.Has F.rref6_There S_rref6_There
  Place : Y.Has F.rref6_Place S_rref6_Place
  Ins : Y.Has F.rref6_Ins S_rref6_Ins
  Outs : Y.Has F.rref6_Outs S_rref6_Outs
  Turn : Y.Has F.rref6_Turn S_rref6_Turn
structure RefWalk (Y : Sys) : Prop where
  Walk : Y.Has F.rref6_Walk S_rref6_Walk
  Cost : Y.Has F.rref6_Cost S_rref6_Cost

section
variable {Y : Sys} {h : Heap}

def RInsI (v0 : Value) (B : Nat) (v : Int) (n : Nat) (as : List Tri) (h0 : Heap) (e : List Value) (h' : Heap) : Prop :=
  ∃ (i : Nat) (s : Sl) (v6 v7 : Value), e = [v0, .int .i64 v, .pointer (some ⟨B, 0, none⟩), .slice none 0 0, s.v, .int .i64 i, v6, v7] ∧ i ≤ n ∧ Own h' 1 s (ints64 (insO (as.take i) v)) ∧ (s.nl = true ∨ h0.size ≤ s.b) ∧ Ext h0 h'

theorem rins_spec (RN : RefNet2 Y) {sv sa st : Sl} {N : NetD} (r : NetH h sv sa st N) (ba : N.as.length ≤ 16384) {v : Int} {R : Value → Heap → Prop}
    (hr : ∀ h' s, Ext h h' → Own h' 1 s (ints64 (insO N.as v)) → (s.nl = true ∨ h.size ≤ s.b) → R s.v h') : CallP Y F.rref6_Ins [netV sv sa st, .int .i64 v] h R := by
  have la := r.ra.len
  refine .of_has RN.Ins rfl ?_
  simp [S_rref6_Ins, FnS.wp, netV]
  refine ef_new_box ?_
  intro B hB gB bB eB
  have cB : ∀ g, Ext g h → Ext g hB := fun g e => Mod.trans e eB
  simp
  refine wp_loop' (RInsI (netV sv sa st) B v sa.n N.as hB) (fun e _ => sa.n - argI e 5) ⟨0, Sl.nil, _, _, rfl, by omega, Own.nil, .inl rfl, Mod.refl _⟩ ?_
  rintro e h2 ⟨i, s, v6, v7, rfl, hi, o2, hs2, x2⟩
  have c_h2 : ∀ g, Ext g hB → Ext g h2 := fun g e => Mod.trans e x2
  by_cases c : i < sa.n
  · have c' : (i : Int) < sa.n := by omega
    have ci : i < N.as.length := by omega
    have w1 : IntKind.i64.wrap ((i : Int) + 1) = (i : Int) + 1 := i64_wrap (by omega)
    have sn := idxF_snoc (p := fun t => decide (t.b = v)) ci
    have nS : s.n ≤ i := by
      have := o2.1
      rw [ints64_len, insO, idxF_len, Nat.mul_one] at this
      have := List.length_filter_le (fun t : Tri => decide (t.b = v)) (N.as.take i)
      simp at this; omega
    by_cases q : (nthT N.as i).b = v
    · have q' : ((nthT N.as i).b = v) = True := by simp [q]
      simp only [q', decide_true, if_true] at sn
      simp (config := { maxDischargeDepth := 60 }) [cB, bB.sk, bB.rk, c_h2, c', ci, w1, sem_idxa r.ra.ok, r.ra.s0, r.ra.s1, r.ra.s2, q', ef_bslice1_int]
      intro t
      refine ef_append1 rfl o2 (by omega) (by omega) ?_
      intro s' h3 o4 hn4 m4 hs4
      have x4 : Ext hB h3 := Mod.ext x2 m4 (fun j hj => by have := hs2.resolve_left (by rw [hj.1]; simp); omega)
      rw [show ints64 (insO (N.as.take i) v) ++ [Value.int .i64 i] = ints64 (insO (N.as.take (i + 1)) v) by rw [insO, insO, sn]; simp [ints64]] at o4
      simp [w1]
      refine ⟨⟨i + 1, s', _, _, rfl, by omega, o4, ?_, x4⟩, by simp [argI]; omega⟩
      have := x2.size
      rcases hs4 with ⟨q1, q2⟩ | ⟨q1, q2⟩
      · rw [q1, q2]; exact hs2
      · exact .inr (by omega)
    · have q' : ((nthT N.as i).b = v) = False := by simp [q]
      simp only [q', decide_false, Bool.false_eq_true, if_false, List.append_nil] at sn
      simp (config := { maxDischargeDepth := 60 }) [cB, bB.sk, bB.rk, c_h2, c', ci, w1, sem_idxa r.ra.ok, r.ra.s0, r.ra.s1, r.ra.s2, q']
      refine ⟨⟨i + 1, s, _, _, rfl, by omega, ?_, hs2, x2⟩, by simp [argI]; omega⟩
      have o3 := o2
      rw [insO, ← sn] at o3
      exact o3
  have c' : ¬ (i : Int) < sa.n := by omega
  rw [List.take_of_length_le (by omega)] at o2
  simp (config := { maxDischargeDepth := 60 }) [cB, bB.sk, bB.rk, c_h2, c']
  refine hr h2 s (eB.trans x2) o2 (hs2.imp_right fun q => ?_)
  have := eB.size
  omega
def ROutsI (v0 : Value) (B : Nat) (v : Int) (n : Nat) (as : List Tri) (h0 : Heap) (e : List Value) (h' : Heap) : Prop :=
  ∃ (i : Nat) (s : Sl) (v6 v7 : Value), e = [v0, .int .i64 v, .pointer (some ⟨B, 0, none⟩), .slice none 0 0, s.v, .int .i64 i, v6, v7] ∧ i ≤ n ∧ Own h' 1 s (ints64 (outsO (as.take i) v)) ∧ (s.nl = true ∨ h0.size ≤ s.b) ∧ Ext h0 h'

theorem routs_spec (RN : RefNet2 Y) {sv sa st : Sl} {N : NetD} (r : NetH h sv sa st N) (ba : N.as.length ≤ 16384) {v : Int} {R : Value → Heap → Prop}
    (hr : ∀ h' s, Ext h h' → Own h' 1 s (ints64 (outsO N.as v)) → (s.nl = true ∨ h.size ≤ s.b) → R s.v h') : CallP Y F.rref6_Outs [netV sv sa st, .int .i64 v] h R := by
  have la := r.ra.len
  refine .of_has RN.Outs rfl ?_
  simp [S_rref6_Outs, FnS.wp, netV]
  refine ef_new_box ?_
  intro B hB gB bB eB
  have cB : ∀ g, Ext g h → Ext g hB := fun g e => Mod.trans e eB
  simp
  refine wp_loop' (ROutsI (netV sv sa st) B v sa.n N.as hB) (fun e _ => sa.n - argI e 5) ⟨0, Sl.nil, _, _, rfl, by omega, Own.nil, .inl rfl, Mod.refl _⟩ ?_
  rintro e h2 ⟨i, s, v6, v7, rfl, hi, o2, hs2, x2⟩
  have c_h2 : ∀ g, Ext g hB → Ext g h2 := fun g e => Mod.trans e x2
  by_cases c : i < sa.n
  · have c' : (i : Int) < sa.n := by omega
    have ci : i < N.as.length := by omega
    have w1 : IntKind.i64.wrap ((i : Int) + 1) = (i : Int) + 1 := i64_wrap (by omega)
    have sn := idxF_snoc (p := fun t => decide (t.a = v)) ci
    have nS : s.n ≤ i := by
      have := o2.1
      rw [ints64_len, outsO, idxF_len, Nat.mul_one] at this
      have := List.length_filter_le (fun t : Tri => decide (t.a = v)) (N.as.take i)
      simp at this; omega
    by_cases q : (nthT N.as i).a = v
    · have q' : ((nthT N.as i).a = v) = True := by simp [q]
      simp only [q', decide_true, if_true] at sn
      simp (config := { maxDischargeDepth := 60 }) [cB, bB.sk, bB.rk, c_h2, c', ci, w1, sem_idxa r.ra.ok, r.ra.s0, r.ra.s1, r.ra.s2, q', ef_bslice1_int]
      intro t
      refine ef_append1 rfl o2 (by omega) (by omega) ?_
      intro s' h3 o4 hn4 m4 hs4
      have x4 : Ext hB h3 := Mod.ext x2 m4 (fun j hj => by have := hs2.resolve_left (by rw [hj.1]; simp); omega)
      rw [show ints64 (outsO (N.as.take i) v) ++ [Value.int .i64 i] = ints64 (outsO (N.as.take (i + 1)) v) by rw [outsO, outsO, sn]; simp [ints64]] at o4
      simp [w1]
      refine ⟨⟨i + 1, s', _, _, rfl, by omega, o4, ?_, x4⟩, by simp [argI]; omega⟩
      have := x2.size
      rcases hs4 with ⟨q1, q2⟩ | ⟨q1, q2⟩
      · rw [q1, q2]; exact hs2
      · exact .inr (by omega)
    · have q' : ((nthT N.as i).a = v) = False := by simp [q]
      simp only [q', decide_false, Bool.false_eq_true, if_false, List.append_nil] at sn
      simp (config := { maxDischargeDepth := 60 }) [cB, bB.sk, bB.rk, c_h2, c', ci, w1, sem_idxa r.ra.ok, r.ra.s0, r.ra.s1, r.ra.s2, q']
      refine ⟨⟨i + 1, s, _, _, rfl, by omega, ?_, hs2, x2⟩, by simp [argI]; omega⟩
      have o3 := o2
      rw [outsO, ← sn] at o3
      exact o3
  have c' : ¬ (i : Int) < sa.n := by omega
  rw [List.take_of_length_le (by omega)] at o2
  simp (config := { maxDischargeDepth := 60 }) [cB, bB.sk, bB.rk, c_h2, c']
  refine hr h2 s (eB.trans x2) o2 (hs2.imp_right fun q => ?_)
  have := eB.size
  omega

theorem insO_len {as : List Tri} {v : Int} : (insO as v).length ≤ as.length := by rw [insO, idxF_len]; exact List.length_filter_le ..
theorem outsO_len {as : List Tri} {v : Int} : (outsO as v).length ≤ as.length := by rw [outsO, idxF_len]; exact List.length_filter_le ..

theorem rturn_spec (RN : RefNet2 Y) (T : RefTabC Y) {sv sa st : Sl} {N : NetD} (r : NetH h sv sa st N) (ok : NetOK N) {a b : Int} {R : Value → Heap → Prop}
    (hr : ∀ h', Ext h h' → R (.int .i64 (turnV N a b)) h') : CallP Y F.rref6_Turn [netV sv sa st, .int .i64 a, .int .i64 b] h R := by
  have lv := r.rv.len
  have la := r.ra.len
  have lt := r.rt.len
  have ba := ok.ba
  refine .of_has RN.Turn rfl ?_
  simp [S_rref6_Turn, FnS.wp, netV]
  refine ef_new_box ?_
  intro B hB gB bB eB
  have cB : ∀ g, Ext g h → Ext g hB := fun g e => Mod.trans e eB
  simp (config := { maxDischargeDepth := 60 }) [cB, bB.sk, bB.rk]
  refine there_spec RN.There la ?_
  intro h1 e1
  have c_h1 : ∀ g, Ext g hB → Ext g h1 := fun g e => Mod.trans e e1
  have x1 := Mod.trans eB e1
  by_cases c1 : vtxB N.as.length a = true
  rotate_left
  · have c1' : vtxB N.as.length a = false := by simpa using c1
    rw [turnV, if_pos (.inl c1')] at hr
    simp (config := { maxDischargeDepth := 60 }) [cB, bB.sk, bB.rk, c_h1, c1']
    exact hr _ x1
  simp (config := { maxDischargeDepth := 60 }) [cB, bB.sk, bB.rk, c_h1, c1]
  refine there_spec RN.There la ?_
  intro h2 e2
  have c_h2 : ∀ g, Ext g h1 → Ext g h2 := fun g e => Mod.trans e e2
  have x2 := Mod.trans x1 e2
  by_cases c2 : vtxB N.as.length b = true
  rotate_left
  · have c2' : vtxB N.as.length b = false := by simpa using c2
    rw [turnV, if_pos (.inr c2')] at hr
    simp (config := { maxDischargeDepth := 60 }) [cB, bB.sk, bB.rk, c_h1, c_h2, c2']
    exact hr _ x2
  have d1 := c1
  have d2 := c2
  simp only [vtxB, decide_eq_true_eq] at d1 d2
  obtain ⟨a, rfl⟩ : ∃ n : Nat, a = n := ⟨a.toNat, by omega⟩
  obtain ⟨b, rfl⟩ : ∃ n : Nat, b = n := ⟨b.toNat, by omega⟩
  have ha : a < N.as.length := by omega
  have hb : b < N.as.length := by omega
  have ha' : (a : Int) < sa.n := by omega
  have hb' : (b : Int) < sa.n := by omega
  rw [turnV_in ha hb] at hr
  by_cases c3 : (nthT N.as a).b = (nthT N.as b).a
  rotate_left
  · have c3' : ((nthT N.as a).b = (nthT N.as b).a) = False := by simp [c3]
    rw [bendV] at hr
    simp only [Int.toNat_natCast] at hr
    rw [if_pos (.inl c3)] at hr
    simp (config := { maxDischargeDepth := 60 }) [cB, bB.sk, bB.rk, c_h1, c_h2, ha, hb, ha', hb', sem_idxa r.ra.ok, sem_idxa r.rv.ok, sem_idxa r.rt.ok, r.ra.s0, r.ra.s1, r.ra.s2, r.ra.sr, r.rv.s2, c2, c3']
    exact hr _ x2
  have hpI := placeF_ins ha
  have hpO := placeF_outs hb
  rw [← c3] at hpO
  have hx : bendV N a b (cntB N.as a a) (cntA N.as b b) = atV (nthB N.ts (nthT N.vs (nthT N.as a).b.toNat).c.toNat).i (nthB N.ts (nthT N.vs (nthT N.as a).b.toNat).c.toNat).o (nthB N.ts (nthT N.vs (nthT N.as a).b.toNat).c.toNat).cs (cntB N.as a a) (cntA N.as b b) := by
    have h1 := (ok.arcs a ha).2
    have hv : (nthT N.as a).b.toNat < N.vs.length := by simp only [vtxB, decide_eq_true_eq] at h1; omega
    have h2 := ok.vt _ hv
    rw [bendV]
    simp only [Int.toNat_natCast]
    rw [if_neg (by rw [h1]; simp [c3]), if_neg (by simp [h2])]
  rw [hx] at hr
  clear hx
  have g1 := (ok.arcs a ha).2
  generalize hv : (nthT N.as a).b = v at *
  have c3' : (v = (nthT N.as b).a) = True := by simp [c3]
  simp only [vtxB, decide_eq_true_eq] at g1
  have v0 : 0 ≤ v := g1.1
  have v1 : v < sv.n := by omega
  have v2 : v.toNat < N.vs.length := by omega
  have g2 := ok.vt _ v2
  generalize ht : (nthT N.vs v.toNat).c = t at *
  simp only [vtxB, decide_eq_true_eq] at g2
  have t0 : 0 ≤ t := g2.1
  have t1 : t < st.n := by omega
  have t2 : t.toNat < N.ts.length := by omega
  obtain ⟨u, rdt, _, ru⟩ := (r.ext x2).rt.rd (i := t.toNat) t2
  have sr : ∀ h', Ext h2 h' → rd h' st.b (st.o + t.toNat * 3) 3 = some [.int .i64 (nthB N.ts t.toNat).i, .int .i64 (nthB N.ts t.toNat).o, u.v] := fun h' e => e.rd rdt (fun h => h)
  simp (config := { maxDischargeDepth := 60 }) [cB, bB.sk, bB.rk, c_h1, c_h2, ha, hb, ha', hb', sem_idxa r.ra.ok, sem_idxa r.rv.ok, sem_idxa r.rt.ok, r.ra.s0, r.ra.s1, r.ra.s2, r.ra.sr, r.rv.s2, v0, v1, v2, t0, t1, hv, ht, sr, c2, c3']
  refine rins_spec RN (r.ext x2) ba ?_
  intro h3 s3 e3 o3 hs3
  have c_h3 : ∀ g, Ext g h2 → Ext g h3 := fun g e => Mod.trans e e3
  have x3 := x2.trans e3
  have r3 := o3.row64
  have l3 := r3.len
  have k3 := insO_len (as := N.as) (v := v)
  simp (config := { maxDischargeDepth := 60 }) [cB, bB.sk, bB.rk, c_h1, c_h2, ha, hb, ha', hb', sem_idxa r.ra.ok, sem_idxa r.rv.ok, sem_idxa r.rt.ok, r.ra.s0, r.ra.s1, r.ra.s2, r.ra.sr, r.rv.s2, v0, v1, v2, t0, t1, hv, ht, sr, c_h3]
  refine rplace_spec RN.Place r3 (by omega) ?_
  rw [hpI]
  simp (config := { maxDischargeDepth := 60 }) [cB, bB.sk, bB.rk, c_h1, c_h2, ha, hb, ha', hb', sem_idxa r.ra.ok, sem_idxa r.rv.ok, sem_idxa r.rt.ok, r.ra.s0, r.ra.s1, r.ra.s2, r.ra.sr, r.rv.s2, v0, v1, v2, t0, t1, hv, ht, sr, c_h3]
  refine routs_spec RN (r.ext x3) ba ?_
  intro h4 s4 e4 o4 hs4
  have c_h4 : ∀ g, Ext g h3 → Ext g h4 := fun g e => Mod.trans e e4
  have x4 := x3.trans e4
  have r4 := o4.row64
  have l4 := r4.len
  have k4 := outsO_len (as := N.as) (v := v)
  simp (config := { maxDischargeDepth := 60 }) [cB, bB.sk, bB.rk, c_h1, c_h2, ha, hb, ha', hb', sem_idxa r.ra.ok, sem_idxa r.rv.ok, sem_idxa r.rt.ok, r.ra.s0, r.ra.s1, r.ra.s2, r.ra.sr, r.rv.s2, v0, v1, v2, t0, t1, hv, ht, sr, c_h3, c_h4]
  refine rplace_spec RN.Place r4 (by omega) ?_
  rw [hpO]
  simp (config := { maxDischargeDepth := 60 }) [cB, bB.sk, bB.rk, c_h1, c_h2, ha, hb, ha', hb', sem_idxa r.ra.ok, sem_idxa r.rv.ok, sem_idxa r.rt.ok, r.ra.s0, r.ra.s1, r.ra.s2, r.ra.sr, r.rv.s2, v0, v1, v2, t0, t1, hv, ht, sr, c_h3, c_h4]
  refine rturnat_spec T (ru.ext (e3.trans e4)) (ok.tab _ t2) ?_
  intro h5 e5
  simp
  exact hr _ (x4.trans e5)

def RWalkI (v0 : Value) (B : Nat) (s : Sl) (N : NetD) (cs : List Int) (h0 : Heap) (e : List Value) (h' : Heap) : Prop :=
  ∃ (i : Nat) (v3 v5 v6 : Value), e = [v0, s.v, .pointer (some ⟨B, 0, none⟩), v3, .int .i64 i, v5, v6] ∧ i ≤ s.n ∧ (∀ j, j < i → stepOk N cs j = true) ∧ Ext h0 h'

theorem rwalk_spec (RN : RefNet2 Y) (RW : RefWalk Y) (T : RefTabC Y) {sv sa st s : Sl} {N : NetD} {cs : List Int} (r : NetH h sv sa st N) (rl : Row64 h s cs) (hbig : s.n ≤ 1000000) (ok : NetOK N)
    {R : Value → Heap → Prop} (hr : ∀ h', Ext h h' → R (.bool (walkB N cs)) h') : CallP Y F.rref6_Walk [netV sv sa st, s.v] h R := by
  have la := r.ra.len
  have ll := rl.len
  refine .of_has RW.Walk rfl ?_
  simp [S_rref6_Walk, FnS.wp, netV]
  refine ef_new_box ?_
  intro B hB gB bB eB
  have cB : ∀ g, Ext g h → Ext g hB := fun g e => Mod.trans e eB
  simp
  refine wp_loop' (RWalkI (netV sv sa st) B s N cs hB) (fun e _ => s.n - argI e 4) ⟨0, _, _, _, rfl, by omega, fun j hj => by omega, Mod.refl _⟩ ?_
  rintro e h2 ⟨i, v3, v5, v6, rfl, hi, hall, x2⟩
  have c_h2 : ∀ g, Ext g hB → Ext g h2 := fun g e => Mod.trans e x2
  have x12 := eB.trans x2
  by_cases c : i < s.n
  · have c' : (i : Int) < s.n := by omega
    have ci : i < cs.length := by omega
    have w1 : IntKind.i64.wrap ((i : Int) + 1) = (i : Int) + 1 := i64_wrap (by omega)
    have bad : stepOk N cs i = false → ∀ h', Ext h h' → R (.bool false) h' := by
      intro hb h' e
      have := hr h' e
      rwa [show walkB N cs = false by
        rw [Bool.eq_false_iff]
        intro hw
        have := (walkB_iff.1 hw).2 i ci
        rw [hb] at this
        cases this] at this
    simp (config := { maxDischargeDepth := 60 }) [cB, bB.sk, bB.rk, c_h2, sem_idxa rl.ok, rl.sk, sem_idxa r.ra.ok, r.ra.s0, r.ra.s1, r.ra.s2, c', ci, w1]
    refine there_spec RN.There la ?_
    intro h3 e3
    have c_h3 : ∀ g, Ext g h2 → Ext g h3 := fun g e => Mod.trans e e3
    have x3 := x12.trans e3
    by_cases f1 : vtxB N.as.length (nthI cs i) = true
    rotate_left
    · have f1' : vtxB N.as.length (nthI cs i) = false := by simpa using f1
      simp (config := { maxDischargeDepth := 60 }) [cB, bB.sk, bB.rk, c_h2, sem_idxa rl.ok, rl.sk, sem_idxa r.ra.ok, r.ra.s0, r.ra.s1, r.ra.s2, c', ci, w1, c_h3, f1']
      exact bad (by simp [stepOk, f1']) _ x3
    have d1 := f1
    simp only [vtxB, decide_eq_true_eq] at d1
    obtain ⟨b, hb⟩ : ∃ b : Nat, nthI cs i = b := ⟨(nthI cs i).toNat, by omega⟩
    have b1 : b < N.as.length := by omega
    have b2 : (b : Int) < sa.n := by omega
    rw [hb] at f1
    by_cases f2 : (nthT N.as b).c = 1152921504606846976
    · simp (config := { maxDischargeDepth := 60 }) [cB, bB.sk, bB.rk, c_h2, sem_idxa rl.ok, rl.sk, sem_idxa r.ra.ok, r.ra.s0, r.ra.s1, r.ra.s2, c', ci, w1, c_h3, hb, b1, b2, f1, f2]
      exact bad (by simp [stepOk, hb, arcC, f2, InfI]) _ x3
    by_cases f3 : i = 0
    · have i0 : (0 < i) = False := by simp [f3]
      simp (config := { maxDischargeDepth := 60 }) [cB, bB.sk, bB.rk, c_h2, sem_idxa rl.ok, rl.sk, sem_idxa r.ra.ok, r.ra.s0, r.ra.s1, r.ra.s2, c', ci, w1, c_h3, hb, b1, b2, f1, f2, i0]
      refine ⟨⟨i + 1, _, _, _, rfl, by omega, fun j hj => ?_, x2.trans e3⟩, by simp [argI]; omega⟩
      obtain rfl : j = i := by omega
      have i0 : (j = 0) = True := by simp [f3]
      simp [stepOk, hb, f1, arcC, InfI, i0]
      exact f2
    have i0 : (0 < i) = True := by simp; omega
    have w2 : IntKind.i64.wrap ((i : Int) - 1) = ((i - 1 : Nat) : Int) := by rw [i64_wrap (by omega)]; omega
    have i1 : ((i - 1 : Nat) : Int) < s.n := by omega
    have i2 : i - 1 < cs.length := by omega
    simp (config := { maxDischargeDepth := 60 }) [cB, bB.sk, bB.rk, c_h2, sem_idxa rl.ok, rl.sk, sem_idxa r.ra.ok, r.ra.s0, r.ra.s1, r.ra.s2, c', ci, w1, c_h3, hb, b1, b2, f1, f2, i0, w2, i1, i2]
    refine rturn_spec RN T (r.ext x3) ok ?_
    intro h4 e4
    have x4 := x3.trans e4
    by_cases f4 : turnV N (nthI cs (i - 1)) b = 1152921504606846976
    · simp (config := { maxDischargeDepth := 60 }) [cB, bB.sk, bB.rk, c_h2, sem_idxa rl.ok, rl.sk, sem_idxa r.ra.ok, r.ra.s0, r.ra.s1, r.ra.s2, c', ci, w1, c_h3, hb, b1, b2, f4]
      exact bad (by simp [stepOk, hb, f4, f3, InfI]) _ x4
    simp (config := { maxDischargeDepth := 60 }) [cB, bB.sk, bB.rk, c_h2, sem_idxa rl.ok, rl.sk, sem_idxa r.ra.ok, r.ra.s0, r.ra.s1, r.ra.s2, c', ci, w1, c_h3, hb, b1, b2, f4]
    refine ⟨⟨i + 1, _, _, _, rfl, by omega, fun j hj => ?_, (x2.trans e3).trans e4⟩, by simp [argI]; omega⟩
    rcases Nat.lt_or_ge j i with q | q
    · exact hall j q
    · obtain rfl : j = i := by omega
      simp [stepOk, hb, f1, arcC, InfI, f4]
      exact f2
  have c' : ¬ (i : Int) < s.n := by omega
  obtain rfl : i = s.n := by omega
  have hw : walkB N cs = decide (0 < s.n) := by
    by_cases q : 0 < s.n
    · rw [decide_eq_true q]
      exact walkB_iff.2 ⟨fun hn => by rw [hn] at ll; simp at ll; omega, fun i hi => hall i (by omega)⟩
    · rw [decide_eq_false q, Bool.eq_false_iff]
      intro hw
      exact (walkB_iff.1 hw).1 (List.eq_nil_of_length_eq_zero (by omega))
  rw [hw] at hr
  simp [c']
  exact hr _ x12

def RCostI (v0 : Value) (B : Nat) (s : Sl) (N : NetD) (cs : List Int) (h0 : Heap) (e : List Value) (h' : Heap) : Prop :=
  ∃ (i : Nat) (p : Int) (v3 v6 v7 : Value), e = [v0, s.v, .pointer (some ⟨B, 0, none⟩), v3, .int .i64 p, .int .i64 (i + 1), v6, v7] ∧ i + 1 ≤ s.n ∧ p = costTo N cs (i + 1) ∧ Ext h0 h'

theorem rcost_spec (RN : RefNet2 Y) (RW : RefWalk Y) (T : RefTabC Y) (C : RefCost Y) {sv sa st s : Sl} {N : NetD} {cs : List Int} (r : NetH h sv sa st N) (rl : Row64 h s cs) (hbig : s.n ≤ 1000000) (ok : NetOK N)
    {R : Value → Heap → Prop} (hr : ∀ h', Ext h h' → R (.int .i64 (costV N cs)) h') : CallP Y F.rref6_Cost [netV sv sa st, s.v] h R := by
  have la := r.ra.len
  have ll := rl.len
  refine .of_has RW.Cost rfl ?_
  simp [S_rref6_Cost, FnS.wp, netV]
  refine ef_new_box ?_
  intro B hB gB bB eB
  have cB : ∀ g, Ext g h → Ext g hB := fun g e => Mod.trans e eB
  simp (config := { maxDischargeDepth := 60 }) [cB, bB.sk, bB.rk]
  refine rwalk_spec RN RW T (r.ext eB) (rl.ext eB) hbig ok ?_
  intro h1 e1
  have c_h1 : ∀ g, Ext g hB → Ext g h1 := fun g e => Mod.trans e e1
  have x1 := eB.trans e1
  by_cases hw : walkB N cs = true
  rotate_left
  · have hw' : walkB N cs = false := by simpa using hw
    rw [costV, hw', if_neg (by simp)] at hr
    simp (config := { maxDischargeDepth := 60 }) [cB, bB.sk, bB.rk, c_h1, hw']
    exact hr _ x1
  rw [costV, if_pos hw] at hr
  obtain ⟨hne, hall⟩ := walkB_iff.1 hw
  have hpos : 0 < s.n := by rw [← ll]; exact List.length_pos_iff.2 hne
  simp (config := { maxDischargeDepth := 60 }) [cB, bB.sk, bB.rk, c_h1, hw]
  refine wp_loop' (RCostI (netV sv sa st) B s N cs h1) (fun e _ => s.n - argI e 5) ⟨0, 0, _, _, _, rfl, by omega, by simp [costTo], Mod.refl _⟩ ?_
  rintro e h2 ⟨i, p, v3, v6, v7, rfl, hi, hp, x2⟩
  have c_h2 : ∀ g, Ext g h1 → Ext g h2 := fun g e => Mod.trans e x2
  have x12 := x1.trans x2
  by_cases c : i + 1 < s.n
  · have c' : (i : Int) + 1 < s.n := by omega
    have c'' : (i : Int) < s.n := by omega
    have ci : i + 1 < cs.length := by omega
    have ci' : i < cs.length := by omega
    have i0 : (0 : Int) ≤ (i : Int) + 1 := by omega
    have i1 : ((i : Int) + 1).toNat = i + 1 := by omega
    have w1 : IntKind.i64.wrap ((i : Int) + 1 + 1) = (i : Int) + 1 + 1 := i64_wrap (by omega)
    have w2 : IntKind.i64.wrap (i : Int) = (i : Int) := i64_wrap (by omega)
    have s1 := hall (i + 1) ci
    simp only [stepOk, Bool.and_eq_true] at s1
    have d1 := s1.1.1
    simp only [vtxB, decide_eq_true_eq] at d1
    obtain ⟨b, hb⟩ : ∃ b : Nat, nthI cs (i + 1) = b := ⟨(nthI cs (i + 1)).toNat, by omega⟩
    have b1 : b < N.as.length := by omega
    have b2 : (b : Int) < sa.n := by omega
    simp (config := { maxDischargeDepth := 60 }) [cB, bB.sk, bB.rk, c_h1, c_h2, sem_idxa rl.ok, rl.sk, sem_idxa r.ra.ok, r.ra.s0, r.ra.s1, r.ra.s2, c', c'', ci, ci', i0, i1, w1, w2, hb, b1, b2]
    refine rturn_spec RN T (r.ext x12) ok ?_
    intro h3 e3
    have c_h3 : ∀ g, Ext g h2 → Ext g h3 := fun g e => Mod.trans e e3
    simp (config := { maxDischargeDepth := 60 }) [cB, bB.sk, bB.rk, c_h1, c_h2, sem_idxa rl.ok, rl.sk, sem_idxa r.ra.ok, r.ra.s0, r.ra.s1, r.ra.s2, c', c'', ci, ci', i0, i1, w1, w2, hb, b1, b2, c_h3]
    refine radd_spec C ?_
    simp
    refine radd_spec C ?_
    simp [w1]
    refine ⟨⟨i + 1, _, _, _, _, rfl, by omega, ?_, x2.trans e3⟩, by simp [argI]; omega⟩
    rw [costTo, if_neg (by omega), ← hp, addI_assoc, hb, arcC]
    simp
  have c' : ¬ (i : Int) + 1 < s.n := by omega
  have e : i + 1 = cs.length := by omega
  rw [e] at hp
  rw [← hp] at hr
  simp (config := { maxDischargeDepth := 60 }) [cB, bB.sk, bB.rk, c_h1, c_h2, sem_idxa rl.ok, rl.sk, sem_idxa r.ra.ok, r.ra.s0, r.ra.s1, r.ra.s2, c']
  exact hr _ x12
end
end Go.Rm

/- The laws of nets: May, ring, known. -/
set_option linter.unusedSimpArgs false
set_option linter.unusedVariables false
namespace Go.Rm

def mayD (N : NetD) : Bool := fewD N && decide ((netW N).2 = 0)

def ringN : NetD := ⟨[⟨0, 0, 1⟩, ⟨10, 0, 2⟩, ⟨5, 8, 0⟩], [⟨0, 1, 10⟩, ⟨1, 2, 20⟩, ⟨2, 0, 30⟩, ⟨1, 0, 40⟩], [⟨1, 1, [2]⟩, ⟨2, 1, [0, 1152921504606846976]⟩, ⟨1, 2, [1, 5]⟩]⟩
section
variable {Y : Sys} {h : Heap}

end
end Go.Rm

/- The laws of nets: known. -/
set_option linter.unusedSimpArgs false
set_option linter.unusedVariables false
namespace Go.Rm

section
variable {Y : Sys} {h : Heap}

theorem Own.setN {sz : Nat} {s : Sl} {cells : List Value} (ho : Own h sz s cells) {i : Nat} {v : Value} (hi : i < cells.length) : Own (hset h s.b (s.o + i) v) sz s (cells.set i v) := by
  refine ⟨by simp [ho.1], ?_⟩
  rcases ho.2 with ⟨_, rfl⟩ | ⟨h1, h2, hsp, h3, h4, arr, hb, h5, h6⟩
  · simp at hi
  · refine .inr ⟨h1, h2, hsp, h3, h4, arr.setIfInBounds (s.o + i) v, hb.set, by simp [h5], ?_⟩
    rw [h2, Nat.zero_add, Array.toList_setIfInBounds, ← h6, List.take_set]
/-- a cell is stored into a row of one's own -/
theorem stN {K : Value → Heap → Prop} {sz : Nat} {s : Sl} {cells : List Value} (o : Own h sz s cells) {k : Nat} {v : Value} (hk : k < cells.length)
    (hr : ∀ h', Own h' sz s (cells.set k v) → Mod (fun j => j = s.b) h h' → K undef h') : StoreP h s.b (s.o + k) v K := by
  have h1 := o.setN (v := v) hk
  obtain ⟨arr, hb, hlt, hnl⟩ := o.blk hk
  rw [StoreP.open]
  refine ⟨?_, hb.hfz, hr _ h1 (Mod.set rfl)⟩
  rw [hb.hc]
  simp [hlt]
end
end Go.Rm
