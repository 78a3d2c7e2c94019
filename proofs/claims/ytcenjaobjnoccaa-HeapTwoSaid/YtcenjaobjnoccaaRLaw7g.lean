/- The laws of the heap: HeapTwo, its walk. -/
import Derived.Test.YtcenjaobjnoccaaRLaw7f
set_option linter.unusedSimpArgs false
set_option linter.unusedVariables false
namespace Go.Rm
section
variable {Y : Sys} {h h0 : Heap} {p q n : Nat} {A : KMap} {S S' : Nat → Prop}

def Two1 (av bv cv : Value) (an : Nat) (p q r : Nat) (h0 : Heap) (e : List Value) (h' : Heap) : Prop :=
  ∃ (i : Nat) (A : KMap) (v8 v9 v10 v11 v12 v13 v14 v15 v16 v17 v18 v19 v20 v21 v22 v23 : Value),
    e = [av, bv, cv, .bool false, .pointer (some ⟨p, 0, none⟩), .pointer (some ⟨q, 0, none⟩), .pointer (some ⟨r, 0, none⟩), .int .i64 i, v8, v9, v10, v11, v12, v13, v14, v15, v16, v17, v18, v19, v20, v21, v22, v23] ∧
    i ≤ an ∧ Three h0 h' p q r 256 A (fun _ => none) (fun _ => none)
def Two2 (av bv cv : Value) (bn : Nat) (kf cf : Nat → Int) (p q r : Nat) (h0 : Heap) (e : List Value) (h' : Heap) : Prop :=
  ∃ (i : Nat) (A : KMap) (v7 v9 v10 v11 v12 v13 v14 v15 v16 v17 v18 v19 v20 v21 v22 v23 : Value),
    e = [av, bv, cv, .bool false, .pointer (some ⟨p, 0, none⟩), .pointer (some ⟨q, 0, none⟩), .pointer (some ⟨r, 0, none⟩), v7, .int .i64 i, v9, v10, v11, v12, v13, v14, v15, v16, v17, v18, v19, v20, v21, v22, v23] ∧
    i ≤ bn ∧ Three h0 h' p q r 256 (manyM kf cf i) (manyM kf cf i) A
def Two3 (av bv cv : Value) (p q r : Nat) (A : KMap) (h0 : Heap) (e : List Value) (h' : Heap) : Prop :=
  ∃ (C : KMap) (v7 v8 v9 v10 v11 v12 v13 v14 v15 v16 v17 v18 v19 v20 v21 v22 v23 : Value),
    e = [av, bv, cv, .bool false, .pointer (some ⟨p, 0, none⟩), .pointer (some ⟨q, 0, none⟩), .pointer (some ⟨r, 0, none⟩), v7, v8, v9, v10, v11, v12, v13, v14, v15, v16, v17, v18, v19, v20, v21, v22, v23] ∧
    Three h0 h' p q r 256 A A C

theorem HeapR.row0 (O : HeapR h p n A S) : ∃ rs : Sl, hc h p 0 = some rs.v ∧ rs.n = cntA n A := by
  obtain ⟨row, costs, seats, rs, cs, ss, O, V, hc, hO, hcnt, hn, hA, hS⟩ := O
  exact ⟨rs, O.p0, by rw [O.rowN, hcnt]; exact cntA_congr fun k hk => by rw [hA k hk]⟩
def lenAt (h : Heap) (p : Nat) : Nat :=
  match hc h p 0 with
  | some (.slice _ n _) => n
  | _ => 0
theorem Three.lenAt {r : Nat} {A B C : KMap} (T : Three h0 h p q r n A B C) : lenAt h p = cntA n A := by
  obtain ⟨S, T, U, a, _⟩ := T
  obtain ⟨rs, h1, h2⟩ := a.row0
  simp [Rm.lenAt, h1, Sl.v, h2]

theorem two_spec (HP : Y.Has F.rlaw7_HeapTwo S_rlaw7_HeapTwo) (HK : Y.Has F.rlaw7_known S_rlaw7_known) (HF : Y.Has F.rlaw7_first S_rlaw7_first) (H : HeapFns Y) (Hh : Y.Has F.rref6_Held S_rref6_Held)
    {a b c : Sl} {af bf cf : Nat → Int} (ha : IntsAt h a .u8 af) (hb : IntsAt h b .u8 bf) (hc : IntsAt h c .i64 cf) (hbr : ∀ i, 0 ≤ bf i ∧ bf i < 256) (har : ∀ i, 0 ≤ af i ∧ af i < 256) {R : Value → Heap → Prop} (hr : ∀ h', Ext h h' → R (.bool true) h') :
    CallP Y F.rlaw7_HeapTwo [a.v, b.v, c.v] h R := by
  refine .of_has HP rfl ?_
  simp [S_rlaw7_HeapTwo, FnS.wp]
  refine known_spec HK H ?_
  intro h1 e1
  by_cases c1 : 80 < a.n
  · have c1' : (80 : Int) < a.n := by omega
    simp [c1']; exact hr _ e1
  have c1' : ¬ (80 : Int) < a.n := by omega
  by_cases c2 : 80 < b.n
  · have c2' : (80 : Int) < b.n := by omega
    simp [c1', c2']; exact hr _ e1
  have c2' : ¬ (80 : Int) < b.n := by omega
  by_cases c3 : c.n < a.n
  · have c3' : (c.n : Int) < a.n := by omega
    simp [c1', c2', c3']; exact hr _ e1
  have c3' : ¬ (c.n : Int) < a.n := by omega
  by_cases c4 : c.n < b.n
  · have c4' : (c.n : Int) < b.n := by omega
    simp [c1', c2', c3', c4']; exact hr _ e1
  have c4' : ¬ (c.n : Int) < b.n := by omega
  simp [c1', c2', c3', c4']
  refine new_spec H.New ?_
  intro h2 p S O hS e2
  simp
  refine new_spec H.New ?_
  intro h3 q T Q hT e3
  simp
  refine new_spec H.New ?_
  intro h4 r U X hU e4
  rw [show keysN 256 = 256 from rfl] at O Q X
  simp
  have T0 : Three h h4 p q r 256 (fun _ => none) (fun _ => none) (fun _ => none) := by
    have z1 := e1.size
    have z2 := e2.size
    have z3 := e3.size
    refine ⟨S, T, U, (O.mod e3 (fun _ _ h => h)).mod e4 (fun _ _ h => h), Q.mod e4 (fun _ _ h => h), X, ?_, ?_, ?_, ?_, ?_, ?_, ((e1.trans e2).trans e3).trans e4⟩
    · intro i hi ht; have := O.lt hi; have := hT i ht; omega
    · intro i hi ht; have := O.lt hi; have := hU i ht; omega
    · intro i hi ht; have := Q.lt hi; have := hU i ht; omega
    · intro i hi; have := hS i hi; omega
    · intro i hi; have := hT i hi; omega
    · intro i hi; have := hU i hi; omega
  clear O Q X hS hT hU e1 e2 e3 e4
  refine wp_loop' (Two1 a.v b.v c.v a.n p q r h) (fun e _ => a.n - argI e 7) ⟨0, _, _, _, _, _, _, _, _, _, _, _, _, _, _, _, _, _, rfl, by omega, T0⟩ ?_
  rintro e h5 ⟨i, A, v8, v9, v10, v11, v12, v13, v14, v15, v16, v17, v18, v19, v20, v21, v22, v23, rfl, hi, T1⟩
  have ha5 := ha.ext T1.ext
  have hb5 := hb.ext T1.ext
  have hc5 := hc.ext T1.ext
  by_cases hlt : i < a.n
  · have hlt' : (i : Int) < a.n := by omega
    have hci : (i : Int) < c.n := by omega
    have w1 : IntKind.i64.wrap ((i : Int) + 1) = (i : Int) + 1 := i64_wrap (by omega)
    have w2 : IntKind.i64.wrap (af i) = af i := i64_wrap (by have := har i; omega)
    simp [hlt', sem_idxa ha5.ok, sem_idxa hc5.ok, ha5.val i hlt, hc5.val i (by omega), hci, w2]
    refine T1.put H ?_
    intro h6 T6
    simp [w1]
    exact ⟨⟨i + 1, _, _, _, _, _, _, _, _, _, _, _, _, _, _, _, _, _, rfl, by omega, T6⟩, by simp [argI]; omega⟩
  have hlt' : ¬ (i : Int) < a.n := by omega
  simp [hlt']
  refine T1.clear H ?_
  intro h6 T6
  have hc0 : cntA 256 (fun _ => (none : Option Int)) = 0 := cntA_none
  simp
  refine T6.len H ?_
  simp [hc0]
  clear ha5 hb5 hc5 T1
  refine wp_loop' (Two2 a.v b.v c.v b.n bf cf p q r h) (fun e _ => b.n - argI e 8) ⟨0, _, _, _, _, _, _, _, _, _, _, _, _, _, _, _, _, _, rfl, by omega, T6⟩ ?_
  clear T6
  rintro e h7 ⟨i, A, v7, v9, v10, v11, v12, v13, v14, v15, v16, v17, v18, v19, v20, v21, v22, v23, rfl, hi, T1⟩
  have hb7 := hb.ext T1.ext
  have hc7 := hc.ext T1.ext
  by_cases hlt : i < b.n
  · have hlt' : (i : Int) < b.n := by omega
    have hci : (i : Int) < c.n := by omega
    have w1 : IntKind.i64.wrap ((i : Int) + 1) = (i : Int) + 1 := i64_wrap (by omega)
    have w2 : IntKind.i64.wrap (bf i) = bf i := i64_wrap (by have := hbr i; omega)
    have hd2 : 0 ≤ (bf i).tdiv 2 ∧ (bf i).tdiv 2 ≤ 255 := by have := hbr i; rw [Int.tdiv_eq_ediv_of_nonneg (by omega)]; omega
    have w3 : IntKind.i64.wrap ((bf i).tdiv 2) = (bf i).tdiv 2 := i64_wrap (by omega)
    simp [hlt', sem_idxa hb7.ok, sem_idxa hc7.ok, hb7.val i hlt, hc7.val i (by omega), hci, w2]
    refine T1.rot.put H ?_
    intro h8 T8
    have hb8 := hb.ext T8.ext
    have hc8 := hc.ext T8.ext
    simp [hlt', sem_idxa hb8.ok, sem_idxa hc8.ok, hb8.val i hlt, hc8.val i (by omega), hci, w2, w3, ib_quo]
    refine T8.rot.put H ?_
    intro h9 T9
    have hb9 := hb.ext T9.ext
    have hc9 := hc.ext T9.ext
    simp [hlt', sem_idxa hb9.ok, sem_idxa hc9.ok, hb9.val i hlt, hc9.val i (by omega), hci, w2]
    refine T9.rot.put H ?_
    intro h10 T10
    have hb10 := hb.ext T10.ext
    have hc10 := hc.ext T10.ext
    have hfi := manyM_first (cf := cf) hbr i
    rw [hfi]
    by_cases h0 : i = 0
    · have f0 : firstB bf cf (bf i) (cf i) i = true := by subst h0; simp [firstB]
      rw [f0]
      have hz : (i = 0) = True := by simp [h0]
      clear h0
      simp [w1, hz]
      refine ⟨⟨i + 1, _, _, _, _, _, _, _, _, _, _, _, _, _, _, _, _, _, rfl, by omega, T10⟩, by simp [argI]; omega⟩
    · have h0' : ¬ (i : Int) = 0 := by omega
      have hbi : (i : Int) ≤ b.c := by have := hb.ok.le; omega
      have hcc : (i : Int) ≤ c.c := by have := hc.ok.le; omega
      simp [h0, h0', hlt', hci, sem_idxa hb10.ok, sem_idxa hc10.ok, hb10.val i hlt, hc10.val i (by omega), sem_slc_hi hb10.ok, sem_slc_hi hc10.ok, hbi, hcc]
      have hbS : IntsAt h10 { b with n := i } .u8 bf := ⟨⟨fun h => by have := hb.ok.nil h; simp; omega, by have := hb.ok.le; simp; omega, hb.ok.spot⟩, fun j hj => hb10.val j (by simp at hj; omega)⟩
      have hcS : IntsAt h10 { c with n := i } .i64 cf := ⟨⟨fun h => by have := hc.ok.nil h; simp; omega, by have := hc.ok.le; simp; omega, hc.ok.spot⟩, fun j hj => hc10.val j (by simp at hj; omega)⟩
      refine first_spec HF Hh (l := { b with n := i }) (c := { c with n := i }) hbS hcS (by simp) (by simp; omega) ?_
      simp [w1]
      refine ⟨⟨i + 1, _, _, _, _, _, _, _, _, _, _, _, _, _, _, _, _, _, rfl, by omega, T10⟩, by simp [argI]; omega⟩
  have hlt' : ¬ (i : Int) < b.n := by omega
  simp [hlt']
  generalize manyM bf cf i = M at *
  refine wp_loop' (fun e h' => ∃ M, Two3 a.v b.v c.v p q r M h e h') (fun e h' => Rm.lenAt h' p) ⟨M, ⟨A, _, _, _, _, _, _, _, _, _, _, _, _, _, _, _, _, _, rfl, T1⟩⟩ ?_
  clear T1 hb7 hc7 hlt hlt' hi
  rintro e h8 ⟨M, C, v7, v8, v9, v10, v11, v12, v13, v14, v15, v16, v17, v18, v19, v20, v21, v22, v23, rfl, T1⟩
  have hcn := T1.lenAt
  simp
  refine T1.pop H ?_ ?_
  · intro hno
    simp
    refine T1.rot.popNo H hno ?_
    simp
    exact hr _ T1.ext
  · intro h9 k d hk T9
    simp
    refine T9.rot.rot.rot.rot.popAt H hk ?_
    intro h10 T10
    simp
    refine ⟨⟨popM M k, C, _, _, _, _, _, _, _, _, _, _, _, _, _, _, _, _, _, rfl, T10.rot.rot⟩, ?_⟩
    rw [hcn, T10.rot.rot.lenAt]
    have := cntA_split (n := 256) (A := popM M k) (B := M) (k := k) hk.1 (fun j _ hj => by simp [popM, hj]) (by simp [popM]) (by rw [hk.2.1]; rfl)
    omega
end
end Go.Rm
