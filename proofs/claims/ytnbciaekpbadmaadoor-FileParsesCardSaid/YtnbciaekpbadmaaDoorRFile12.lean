import Derived.Test.YtnbciaekpbadmaaDoorRFile7
import Derived.Test.YtnbciaekpbadmaaDoorRLaw2d
import Derived.Test.YtnbciaekpbadmaaDoorRNet

/- Nets in bytes: what is written (plain); rows of bytes that grow. -/
set_option linter.unusedSimpArgs false
set_option linter.unusedVariables false
namespace Go.Rm

def priceU (c : Int) : Nat := if c = 1152921504606846976 then 0 else (c + 1).toNat
def tabB (t : Tab) : List Nat := encU t.i.toNat ++ encU t.o.toNat ++ t.cs.flatMap fun c => encU (priceU c)
def vertsB : Int → Int → List Tri → List Nat
  | _, _, [] => []
  | x, y, v :: r => encU (zz (v.a - x)) ++ encU (zz (v.b - y)) ++ encU v.c.toNat ++ vertsB v.a v.b r
def arcB (a : Tri) : List Nat := encU a.a.toNat ++ encU a.b.toNat ++ encU (priceU a.c)
def lensB (N : NetD) : List Nat := [N.ts.length, N.vs.length, N.as.length]
def bodyB (N : NetD) : List Nat := encL (lensB N) ++ (N.ts.flatMap tabB ++ (vertsB 0 0 N.vs ++ N.as.flatMap arcB))
def encB (N : NetD) : List Nat := (hdB ++ bodyB N) ++ sumB (hdB ++ bodyB N)
def encR (N : NetD) : List Nat × Wr := if (netW N).2 ≠ 0 then ([], netW N) else if 65536 < (encB N).length then ([], atW wFile 0 4) else (encB N, wOK)

theorem weightB_cases {c : Int} (h : weightB c = true) : (0 ≤ c ∧ c ≤ 2147483648) ∨ c = 1152921504606846976 := by simpa [weightB] using h
theorem priceU_le {c : Int} (h : weightB c = true) : priceU c ≤ 2147483649 := by
  unfold priceU
  rcases weightB_cases h with g | g
  · split <;> omega
  · rw [if_pos g]; omega
theorem costU_price {c : Int} (h : weightB c = true) : costU (priceU c) = c := by
  unfold costU priceU
  rcases weightB_cases h with g | g
  · have g' : ¬ c = 1152921504606846976 := by omega
    simp only [g', if_false]
    rw [if_neg (by omega)]; omega
  · simp [g]

theorem encF_len : ∀ {k m v : Nat}, v < 2 ^ (7 * (m + 1)) → (encF k v).length ≤ m + 1 := by
  intro k
  induction k with
  | zero => intro m v _; simp [encF]
  | succ k ih =>
    intro m v hv
    simp only [encF]
    split
    · simp
    · cases m with
      | zero => omega
      | succ m =>
        have : v / 128 < 2 ^ (7 * (m + 1)) := by
          rw [Nat.div_lt_iff_lt_mul (by omega)]
          rw [show (2 : Nat) ^ (7 * (m + 1)) * 128 = 2 ^ (7 * (m + 1 + 1)) by rw [show 7 * (m + 1 + 1) = 7 * (m + 1) + 7 by omega, Nat.pow_add]]
          exact hv
        have := ih this
        simp; omega
theorem encU_len {m v : Nat} (hv : v < 2 ^ (7 * (m + 1))) : (encU v).length ≤ m + 1 := encF_len hv
theorem encU_ne {v : Nat} : encU v ≠ [] := List.length_pos_iff.1 encF_pos

theorem flatMap_le {α : Type} {f : α → List Nat} {m : Nat} : ∀ {l : List α}, (∀ x ∈ l, (f x).length ≤ m) → (l.flatMap f).length ≤ l.length * m := by
  intro l
  induction l with
  | nil => simp
  | cons x r ih =>
    intro h
    have := ih (fun y hy => h y (by simp [hy]))
    have := h x (by simp)
    simp only [List.flatMap_cons, List.length_append, List.length_cons, Nat.succ_mul]
    omega
theorem flatMap_lt {α : Type} {f : α → List Nat} {l : List α} (h : ∀ x ∈ l, ∀ y ∈ f x, y < 256) : ∀ y ∈ l.flatMap f, y < 256 := by
  intro y hy
  obtain ⟨x, h1, h2⟩ := List.mem_flatMap.1 hy
  exact h x h1 y h2

theorem tabs_ok {N : NetD} (ok : NetOK N) {t : Tab} (ht : t ∈ N.ts) : 0 ≤ t.i ∧ t.i ≤ 16 ∧ 0 ≤ t.o ∧ t.o ≤ 16 ∧ (t.cs.length : Int) = t.i * t.o ∧ t.cs.length ≤ 256 ∧ ∀ c ∈ t.cs, weightB c = true := by
  obtain ⟨i, hi, rfl⟩ := List.getElem_of_mem ht
  have h := ok.tab i hi
  rw [nthB_eq hi] at h
  obtain ⟨a, b, c, d, e, f⟩ := tab_ok_iff.1 h
  refine ⟨a, b, c, d, e, ?_, ?_⟩
  · have : N.ts[i].i * N.ts[i].o ≤ 16 * 16 := Int.mul_le_mul b d c (by decide)
    omega
  · intro x hx
    obtain ⟨j, hj, rfl⟩ := List.getElem_of_mem hx
    have := f j hj
    rwa [show nthI N.ts[i].cs j = N.ts[i].cs[j] by simp [nthI, hj]] at this
theorem verts_ok {N : NetD} (ok : NetOK N) {v : Tri} (hv : v ∈ N.vs) : (-1048576 ≤ v.a ∧ v.a ≤ 1048576) ∧ (-1048576 ≤ v.b ∧ v.b ≤ 1048576) ∧ 0 ≤ v.c ∧ v.c < 256 := by
  obtain ⟨i, hi, rfl⟩ := List.getElem_of_mem hv
  have h := ok.vx i hi
  have g := ok.vt i hi
  have := ok.bt
  rw [nthT_eq hi] at h g
  simp [farB] at h
  simp [vtxB] at g
  omega
theorem arcs_ok {N : NetD} (ok : NetOK N) {a : Tri} (ha : a ∈ N.as) : (0 ≤ a.a ∧ a.a < 4096) ∧ (0 ≤ a.b ∧ a.b < 4096) ∧ weightB a.c = true := by
  obtain ⟨i, hi, rfl⟩ := List.getElem_of_mem ha
  have h := ok.arcs i hi
  have g := ok.w i hi
  have := ok.bv
  rw [nthT_eq hi] at h g
  simp [vtxB] at h
  exact ⟨by omega, by omega, g⟩

theorem zz_lt28 {x : Int} (h : -2097152 ≤ x ∧ x ≤ 2097152) : zz x < 2 ^ 28 := by unfold zz; split <;> omega
theorem tabB_facts {N : NetD} (ok : NetOK N) {t : Tab} (ht : t ∈ N.ts) : (tabB t).length ≤ 1290 ∧ ∀ y ∈ tabB t, y < 256 := by
  obtain ⟨a, b, c, d, e, f, g⟩ := tabs_ok ok ht
  have p : ∀ x ∈ t.cs, (encU (priceU x)).length ≤ 5 := fun x hx => encU_len (m := 4) (by have := priceU_le (g x hx); omega)
  have l1 := encU_len (m := 0) (v := t.i.toNat) (by omega)
  have l2 := encU_len (m := 0) (v := t.o.toNat) (by omega)
  have l3 := flatMap_le p
  refine ⟨?_, ?_⟩
  · simp only [tabB, List.length_append]
    omega
  · intro y hy
    simp only [tabB, List.mem_append] at hy
    rcases hy with (hy | hy) | hy
    · exact encU_lt (by omega) y hy
    · exact encU_lt (by omega) y hy
    · exact flatMap_lt (fun x hx => encU_lt (by have := priceU_le (g x hx); omega)) y hy
theorem arcB_facts {N : NetD} (ok : NetOK N) {a : Tri} (ha : a ∈ N.as) : (arcB a).length ≤ 9 ∧ ∀ y ∈ arcB a, y < 256 := by
  obtain ⟨⟨a1, a2⟩, ⟨b1, b2⟩, g⟩ := arcs_ok ok ha
  have l1 := encU_len (m := 1) (v := a.a.toNat) (by omega)
  have l2 := encU_len (m := 1) (v := a.b.toNat) (by omega)
  have l3 := encU_len (m := 4) (v := priceU a.c) (by have := priceU_le g; omega)
  refine ⟨?_, ?_⟩
  · simp only [arcB, List.length_append]
    omega
  · intro y hy
    simp only [arcB, List.mem_append] at hy
    rcases hy with (hy | hy) | hy
    · exact encU_lt (by omega) y hy
    · exact encU_lt (by omega) y hy
    · exact encU_lt (by have := priceU_le g; omega) y hy
theorem vertsB_facts : ∀ {l : List Tri} {x y : Int}, (∀ v ∈ l, (-1048576 ≤ v.a ∧ v.a ≤ 1048576) ∧ (-1048576 ≤ v.b ∧ v.b ≤ 1048576) ∧ 0 ≤ v.c ∧ v.c < 256) → (-1048576 ≤ x ∧ x ≤ 1048576) → (-1048576 ≤ y ∧ y ≤ 1048576) → (vertsB x y l).length ≤ l.length * 10 ∧ ∀ b ∈ vertsB x y l, b < 256 := by
  intro l
  induction l with
  | nil => intro x y _ _ _; simp [vertsB]
  | cons v r ih =>
    intro x y h hx hy
    obtain ⟨v1, v2, v3⟩ := h v (by simp)
    obtain ⟨i1, i2⟩ := ih (x := v.a) (y := v.b) (fun u hu => h u (by simp [hu])) v1 v2
    have q1 := zz_lt28 (x := v.a - x) (by omega)
    have q2 := zz_lt28 (x := v.b - y) (by omega)
    have l1 := encU_len (m := 3) (v := zz (v.a - x)) (by omega)
    have l2 := encU_len (m := 3) (v := zz (v.b - y)) (by omega)
    have l3 := encU_len (m := 1) (v := v.c.toNat) (by omega)
    refine ⟨?_, ?_⟩
    · simp only [vertsB, List.length_append, List.length_cons]
      omega
    · intro b hb
      simp only [vertsB, List.mem_append] at hb
      rcases hb with ((hb | hb) | hb) | hb
      · exact encU_lt (by omega) b hb
      · exact encU_lt (by omega) b hb
      · exact encU_lt (by omega) b hb
      · exact i2 b hb
theorem body_facts {N : NetD} (ok : NetOK N) : (hdB ++ bodyB N).length ≤ 600000 ∧ ∀ y ∈ hdB ++ bodyB N, y < 256 := by
  have b1 := ok.bt
  have b2 := ok.bv
  have b3 := ok.ba
  have l1 := encL_len (L := lensB N) (by intro x hx; simp [lensB] at hx; omega)
  have l2 := flatMap_le (f := tabB) (fun t ht => (tabB_facts ok ht).1)
  have l3 := flatMap_le (f := arcB) (fun t ht => (arcB_facts ok ht).1)
  obtain ⟨l4, l5⟩ := vertsB_facts (l := N.vs) (x := 0) (y := 0) (fun v hv => verts_ok ok hv) (by omega) (by omega)
  have l6 : (lensB N).length = 3 := rfl
  refine ⟨?_, ?_⟩
  · simp only [bodyB, List.length_append]
    have : hdB.length = 4 := rfl
    omega
  · intro y hy
    simp only [bodyB, List.mem_append] at hy
    rcases hy with hy | hy | hy | hy | hy
    · exact (show ∀ x ∈ hdB, x < 256 by decide) y hy
    · exact encL_lt (L := lensB N) (by intro x hx; simp [lensB] at hx; omega) y hy
    · exact flatMap_lt (fun t ht => (tabB_facts ok ht).2) y hy
    · exact l5 y hy
    · exact flatMap_lt (fun t ht => (arcB_facts ok ht).2) y hy

section
variable {Y : Sys} {h h' : Heap}

/-- a row of bytes that can grow: owned, or as long as its room -/
structure AppB (lo : Nat) (h : Heap) (s : Sl) (l : List Nat) : Prop where
  row : RowB h s l
  sp : s.sp = none
  nl : s.nl = false
  lo : lo ≤ s.b
  lt : s.b < h.size
  own : Own h 1 s (bytesL l) ∨ s.n = s.c
theorem AppB.mod {S : Nat → Prop} {lo : Nat} {s : Sl} {l : List Nat} (a : AppB lo h s l) (m : Mod S h h') (hs : ¬ S s.b) : AppB lo h' s l :=
  ⟨a.row.mod m (fun _ => hs), a.sp, a.nl, a.lo, Nat.lt_of_lt_of_le a.lt m.size, a.own.imp (fun o => o.mod m (fun _ => hs)) id⟩
theorem AppB.ext {lo : Nat} {s : Sl} {l : List Nat} (a : AppB lo h s l) (m : Ext h h') : AppB lo h' s l := a.mod m (fun h => h)

/-- append(row, bytes...) -/
theorem ef_appendA {K : Value → Heap → Prop} {lo : Nat} {s0 s : Sl} {cs bs : List Nat} (a : AppB lo h s0 cs) (r : RowB h s bs) (hne : bs ≠ []) (hn : (cs ++ bs).length ≤ 1000000)
    (hk : ∀ (s' : Sl) (h' : Heap), AppB lo h' s' (cs ++ bs) → Mod (fun j => j = s0.b) h h' → (s'.b = s0.b ∨ h.size ≤ s'.b) → K s'.v h') : Ef.wp h K (.append 1 1 #[.int .u8 0]) [s0.v, s.v] := by
  have l0 := a.row.len
  have l1 := r.len
  simp only [List.length_append] at hn
  have hlt : ∀ x ∈ cs ++ bs, x < 256 := by
    intro x hx
    rcases List.mem_append.1 hx with g | g
    · exact mem_lt a.row.lt x g
    · exact mem_lt r.lt x g
  rcases a.own with o | o
  · refine ef_append_own o (m := s.n) (nw := bytesL bs) lenV_slv (srcOf_rowB r) (by simp [r.len]) bytesL_one rfl (by omega) (by omega) ?_
    intro s' h' o' hn' hm hs'
    have o2 : Own h' 1 s' (bytesL (cs ++ bs)) := by simpa [bytesL] using o'
    have hnl : s'.nl = false := by
      rcases hs' with ⟨_, e2⟩ | ⟨_, e2⟩
      · rw [e2]; exact a.nl
      · exact e2
    refine hk s' h' ⟨o2.rowB (lt_mem hlt), o2.sp, hnl, ?_, o2.lt hnl, .inl o2⟩ (hm.mono (fun j _ hj => hj.2)) (hs'.imp (fun q => q.1) (fun q => q.1))
    have := a.lo
    have := a.lt
    rcases hs' with ⟨e1, _⟩ | ⟨e1, _⟩ <;> omega
  · have hv : s0.v = .slice (some ⟨s0.b, s0.o, none⟩) s0.n s0.c := by simp [Sl.v, a.nl, a.sp]
    have hsrc := srcOf_rowB a.row
    rw [hv] at hsrc
    rw [hv]
    have hp : 0 < bs.length := List.length_pos_iff.2 hne
    simp only [Ef.wp, lenV_slv, srcOf_rowB r]
    rw [if_neg (by omega)]
    refine ⟨by omega, by omega, ?_⟩
    rw [hsrc]
    simp only
    intro t nc h1 h2
    have o2 : Own (h.push (.cells ((bytesL cs).toArray ++ (bytesL bs).toArray ++ Builtin.zeroCells #[.int .u8 0] (nc - (s0.n + s.n))) t)) 1 (Sl.at h.size (s0.n + s.n) nc) (bytesL (cs ++ bs)) := by
      refine ⟨by simp; omega, .inr ⟨rfl, rfl, rfl, h1, h2, _, Blk.new, ?_, ?_⟩⟩
      · simp [size_zeroCells']; omega
      · have : s0.n + s.n = (bytesL (cs ++ bs)).length := by simp; omega
        simp only [Sl.at_n, Nat.mul_one, this]
        have e : ((bytesL cs).toArray ++ (bytesL bs).toArray ++ Builtin.zeroCells #[.int .u8 0] (nc - (s0.n + s.n))).toList = bytesL (cs ++ bs) ++ (Builtin.zeroCells #[.int .u8 0] (nc - (s0.n + s.n))).toList := by simp [bytesL]
        rw [← this, e, this]
        exact List.take_left
    have := hk (Sl.at h.size (s0.n + s.n) nc) _ ⟨o2.rowB (lt_mem hlt), rfl, rfl, by have := a.lo; have := a.lt; simp; omega, by simp, .inl o2⟩ Mod.push (.inr (by simp))
    exact this

theorem ef_appendA0 {K : Value → Heap → Prop} {lo : Nat} {s0 s : Sl} {cs bs : List Nat} (a : AppB lo h s0 cs) (r : RowB h s bs) (hn : (cs ++ bs).length ≤ 1000000)
    (hk : ∀ (s' : Sl) (h' : Heap), AppB lo h' s' (cs ++ bs) → Mod (fun j => j = s0.b) h h' → (s'.b = s0.b ∨ h.size ≤ s'.b) → K s'.v h') : Ef.wp h K (.append 1 1 #[.int .u8 0]) [s0.v, s.v] := by
  by_cases hne : bs = []
  rotate_left
  · exact ef_appendA a r hne hn hk
  subst hne
  have l1 := r.len
  have h0 : s.n = 0 := by simpa using l1.symm
  have hv : s0.v = .slice (some ⟨s0.b, s0.o, none⟩) s0.n s0.c := by simp [Sl.v, a.nl, a.sp]
  have hle := a.row.ok.le
  have hs : srcOf h 1 0 s.v = some (bytesL []) := by have := srcOf_rowB r; rwa [h0] at this
  have := hk s0 h (by simpa using a) (Mod.refl h) (.inl rfl)
  rw [hv] at this ⊢
  simp only [Ef.wp, lenV_slv, hs, h0, Nat.add_zero]
  rw [if_pos (by omega)]
  simpa [bytesL, hst] using this

/-- a constant's bytes -/
theorem ef_b2b_laid {K : Value → Heap → Prop} {l : List Nat} {t : TypeId} (hl : ∀ x ∈ l, x < 256) (hk : ∀ h', Ext h h' → AppB h.size h' (Sl.at h.size l.length l.length) l → K (.slice (some ⟨h.size, 0, none⟩) l.length l.length) h') :
    Ef.wp (h.push (.cells (bytesL l).toArray t)) K .b2b [.slice (some ⟨h.size, 0, none⟩) l.length l.length] := by
  have e : (h.push (.cells (bytesL l).toArray t))[h.size]? = some (.cells (bytesL l).toArray t (0, 0)) := by simp
  simp only [Ef.wp, e]
  have gt : ((h.push (.cells (bytesL l).toArray t)).modify h.size fun _ => .cells (bytesL l).toArray t ((bytesL l).toArray.size, (bytesL l).toArray.size + 1))[h.size]? = some (.cells (bytesL l).toArray t ((bytesL l).toArray.size, (bytesL l).toArray.size + 1)) := by
    rw [Array.getElem?_modify, if_pos rfl, e]; rfl
  refine hk _ ⟨by simp, fun b hb _ => ?_⟩ ⟨⟨⟨fun h => (by cases h), Nat.le_refl _, .inl rfl⟩, rfl, fun i hi => ?_, lt_mem hl⟩, rfl, rfl, Nat.le_refl _, by simp, .inr rfl⟩
  · rw [Array.getElem?_modify, if_neg (by omega), Array.getElem?_push_lt hb]
    exact (Array.getElem?_eq_getElem hb).symm
  · simp only [hc, Sl.at_b, Sl.at_o, gt]
    simp only [List.getElem?_toArray, Nat.zero_add]
    exact bytesL_get hi
end
end Go.Rm

/- Nets in bytes: the program's Encode: its end, arcs, vertices. -/
set_option linter.unusedSimpArgs false
set_option linter.unusedVariables false
namespace Go.Rm
section
variable {Y : Sys} {h h' : Heap}

structure FileEn (Y : Sys) : Prop where
  Encode : Y.Has F.file_Encode S_file_Encode
  price : Y.Has F.file_price S_file_price
  fault : Y.Has F.file_fault S_file_fault
  Uint : Y.Has F.wire_Uint S_wire_Uint
  Int : Y.Has F.wire_Int S_wire_Int
  Sum : Y.Has F.wire_Sum S_wire_Sum

theorem fprice_spec (P : FileEn Y) {c : Int} (hc : weightB c = true) {R : Value → Heap → Prop}
    (hr : ∀ h' s', Ext h h' → Own h' 1 s' (bytesL (encU (priceU c))) → (s'.nl = true ∨ h.size ≤ s'.b) → R s'.v h') : CallP Y F.file_price [.int .i64 c] h R := by
  refine .of_has P.price rfl ?_
  simp [S_file_price, FnS.wp]
  by_cases g : c = 1152921504606846976
  · have hp : priceU c = 0 := by unfold priceU; rw [if_pos g]
    rw [hp] at hr
    simp [g]
    refine wuint_spec P.Uint (v := 0) (by decide) ?_
    intro h' s' e o hs
    simp
    exact hr h' s' e o hs
  · have g' := (weightB_cases hc).resolve_right g
    obtain ⟨k, hk⟩ : ∃ k : Nat, k = priceU c := ⟨_, rfl⟩
    have hk' : (k : Int) = c + 1 := by rw [hk]; unfold priceU; rw [if_neg g]; omega
    have w1 : IntKind.u64.wrap c = c := u64_wrap (by omega)
    have w2 : IntKind.u64.wrap (c + 1) = (k : Int) := by rw [u64_wrap (by omega)]; omega
    rw [← hk] at hr
    simp [g, w1, w2]
    refine wuint_spec P.Uint (v := k) (by omega) ?_
    intro h' s' e o hs
    simp
    exact hr h' s' e o hs

/-- what Encode leaves -/
def EncOut (Y : Sys) (hA : Heap) (N : NetD) (R : Value → Heap → Prop) : Prop :=
  ∀ h' s v, Ext hA h' → RowB h' s (encR N).1 → s.sp = none → ((encR N).1 ≠ [] → hA.size ≤ s.b ∧ s.b < h'.size) → FErr Y hA.size h' (encR N).2 v → R (.tuple #[s.v, v]) h'

theorem fe_tail (P : FileEn Y) {N : NetD} (ok : NetOK N) {hA : Heap} {s : Sl} (x : Ext hA h) (a : AppB hA.size h s (hdB ++ bodyB N)) {R : Value → Heap → Prop} (hr : EncOut Y hA N R)
    (v0 v1 v4 v6 v7 v8 v9 v10 v11 v12 v13 v14 v15 v16 v17 v18 v19 v20 v21 v22 v23 v24 v25 v26 v27 v28 v29 v30 v31 v32 v33 v34 : Value) : Stmt.wp Y S_file_Encode.body.rest.rest.rest.rest.rest.rest.rest.rest (resP S_file_Encode.res R) (fun _ _ _ => False) (resP S_file_Encode.res R)
      [v0, v1, .slice none 0 0, .nilIface, v4, s.v, v6, v7, v8, v9, v10, v11, v12, v13, v14, v15, v16, v17, v18, v19, v20, v21, v22, v23, v24, v25, v26, v27, v28, v29, v30, v31, v32, v33, v34] h := by
  obtain ⟨bf1, bf2⟩ := body_facts ok
  have hl := a.row.len
  have hw : netW N = wOK := netW_ok ok
  simp [S_file_Encode, Stmt.rest]
  refine wsum_spec P.Sum a.row (by omega) ?_
  intro h1 s1 e1 o1 n1 b1
  simp
  have hsl : (sumB (hdB ++ bodyB N)).length = 4 := rfl
  refine ef_appendA (a.ext e1) (o1.rowB (lt_mem sumB_lt)) (by simp [sumB]) (by rw [List.length_append]; omega) ?_
  intro s2 h2 a2 m2 hs2
  have hE : hdB ++ bodyB N ++ sumB (hdB ++ bodyB N) = encB N := rfl
  rw [hE] at a2
  have l2 := a2.row.len
  have x2 : Ext hA h2 := Mod.ext (x.trans e1) m2 (fun j hj => by rw [hj]; exact a.lo)
  unfold EncOut at hr
  by_cases c : 65536 < s2.n
  · have c' : (65536 : Int) < s2.n := by omega
    have he : encR N = ([], atW wFile 0 4) := by unfold encR; rw [if_neg (by rw [hw]; simp [wOK]), if_pos (by omega)]
    rw [he] at hr
    simp [c']
    refine ffault_spec P.fault (by decide) ?_
    intro v h3 e3 hv hi
    simp
    have z2 := x2.size
    refine hr h3 Sl.nil v (x2.trans e3) ⟨Sl.nil_ok, rfl, fun i hi => by simp at hi, fun i hi => by simp at hi⟩ rfl (fun h => absurd rfl h) (hv.mono (by omega))
  · have c' : ¬ (65536 : Int) < s2.n := by omega
    have he : encR N = (encB N, wOK) := by unfold encR; rw [if_neg (by rw [hw]; simp [wOK]), if_neg (by omega)]
    rw [he] at hr
    simp [c']
    exact hr h2 s2 _ x2 a2.row a2.sp (fun _ => ⟨a2.lo, a2.lt⟩) FErr.ok

def FeI4 (B : Nat) (hA : Heap) (sa : Sl) (N : NetD) (h0 : Heap) (e : List Value) (h' : Heap) : Prop :=
  ∃ (i : Nat) (s : Sl) (acc : List Nat) (v0 v4 v6 v7 v8 v9 v10 v11 v12 v13 v14 v15 v16 v17 v18 v19 v20 v21 v22 v23 v24 v25 v26 v27 v28 v29 v33 v34 : Value), e = [v0, .pointer (some ⟨B, 0, none⟩), .slice none 0 0, .nilIface, v4, s.v, v6, v7, v8, v9, v10, v11, v12, v13, v14, v15, v16, v17, v18, v19, v20, v21, v22, v23, v24, v25, v26, v27, v28, v29, sa.v, .int .i64 sa.n, .int .i64 i, v33, v34] ∧ i ≤ sa.n ∧ acc ++ (N.as.drop i).flatMap arcB = hdB ++ bodyB N ∧ AppB hA.size h' s acc ∧ Ext hA h'

theorem fe_arcs (P : FileEn Y) {N : NetD} (ok : NetOK N) {hA : Heap} {B : Nat} {sv sa st s : Sl} {acc : List Nat} (rB : Blk hA B #[sv.v, sa.v, st.v]) (r : NetH hA sv sa st N) (x : Ext hA h) (a : AppB hA.size h s acc) (hacc : acc ++ N.as.flatMap arcB = hdB ++ bodyB N)
    {R : Value → Heap → Prop} (hr : EncOut Y hA N R)
    (v0 v4 v6 v7 v8 v9 v10 v11 v12 v13 v14 v15 v16 v17 v18 v19 v20 v21 v22 v23 v24 v25 v26 v27 v28 v29 v30 v31 v32 v33 v34 : Value) : Stmt.wp Y S_file_Encode.body.rest.rest.rest.rest.rest.rest.rest (resP S_file_Encode.res R) (fun _ _ _ => False) (resP S_file_Encode.res R)
      [v0, .pointer (some ⟨B, 0, none⟩), .slice none 0 0, .nilIface, v4, s.v, v6, v7, v8, v9, v10, v11, v12, v13, v14, v15, v16, v17, v18, v19, v20, v21, v22, v23, v24, v25, v26, v27, v28, v29, v30, v31, v32, v33, v34] h := by
  obtain ⟨bf1, bf2⟩ := body_facts ok
  have la := r.ra.len
  have ba := ok.ba
  simp [S_file_Encode, Stmt.rest, rB.sk, x]
  refine wp_loop' (FeI4 B hA sa N h) (fun e _ => sa.n - argI e 32) ⟨0, s, acc, _, _, _, _, _, _, _, _, _, _, _, _, _, _, _, _, _, _, _, _, _, _, _, _, _, _, _, _, rfl, by omega, by simpa using hacc, a, x⟩ ?_
  rintro e h1 ⟨i, s, acc, v0, v4, v6, v7, v8, v9, v10, v11, v12, v13, v14, v15, v16, v17, v18, v19, v20, v21, v22, v23, v24, v25, v26, v27, v28, v29, v33, v34, rfl, hi, hacc, a, x⟩
  by_cases c : i < sa.n
  rotate_left
  · have c' : ¬ (i : Int) < sa.n := by omega
    rw [List.drop_eq_nil_of_le (by omega)] at hacc
    simp at hacc
    rw [hacc] at a
    have tt := fe_tail P ok x a hr v0 (.pointer (some ⟨B, 0, none⟩)) v4 v6 v7 v8 v9 v10 v11 v12 v13 v14 v15 v16 v17 v18 v19 v20 v21 v22 v23 v24 v25 v26 v27 v28 v29 sa.v (.int .i64 sa.n) (.int .i64 i) (.bool false) v34
    simp [S_file_Encode, Stmt.rest] at tt
    simp [c']
    exact tt
  have c' : (i : Int) < sa.n := by omega
  have hi' : i < N.as.length := by omega
  have w1 : IntKind.i64.wrap ((i : Int) + 1) = (i : Int) + 1 := i64_wrap (by omega)
  have hd : (N.as.drop i).flatMap arcB = arcB (nthT N.as i) ++ (N.as.drop (i + 1)).flatMap arcB := by rw [List.drop_eq_getElem_cons hi', nthT_eq hi']; rfl
  rw [hd] at hacc
  obtain ⟨f, hf⟩ : ∃ f, f = nthT N.as i := ⟨_, rfl⟩
  have hmem : f ∈ N.as := by rw [hf, nthT_eq hi']; exact List.getElem_mem hi'
  obtain ⟨⟨a1, a2⟩, ⟨b1, b2⟩, hg⟩ := arcs_ok ok hmem
  have hfl := congrArg List.length hacc
  rw [← hf] at hacc hfl
  simp only [arcB, List.length_append] at hfl bf1
  obtain ⟨A, hA1⟩ : ∃ A : Nat, f.a = A := ⟨f.a.toNat, by omega⟩
  obtain ⟨Bn, hB1⟩ : ∃ A : Nat, f.b = A := ⟨f.b.toNat, by omega⟩
  have w2 : IntKind.u64.wrap (A : Int) = (A : Int) := u64_wrap (by omega)
  have w3 : IntKind.u64.wrap (Bn : Int) = (Bn : Int) := u64_wrap (by omega)
  have e1 : arcB f = encU A ++ encU Bn ++ encU (priceU f.c) := by simp [arcB, hA1, hB1]
  rw [hA1, hB1] at hfl
  simp only [Int.toNat_natCast] at hfl
  rw [e1] at hacc
  have rr := (r.ext x).ra.rd hi'
  rw [← hf, hA1, hB1] at rr
  simp [c', sem_idxa r.ra.ok, rr]
  refine ef_new_box ?_
  intro C h2 g2 C2 e2
  simp
  refine ef_store_box C2 rfl rfl (by simp) ?_
  intro h3 C3 m3
  have e13 := e2.toExt m3 g2
  have cne : s.b ≠ C := by have := a.lt; omega
  have a3 := a.ext e13
  have x3 := x.trans e13
  simp [C3.hc, w2]
  refine wuint_spec P.Uint (v := A) (by omega) ?_
  intro h4 s4 e4 o4 hs4
  simp
  refine ef_appendA (a3.ext e4) (o4.rowB (lt_mem (encU_lt (by omega)))) encU_ne (by rw [List.length_append]; omega) ?_
  intro s5 h5 a5 m5 hs5
  have C5 := m5.blk (C3.ext e4) (Ne.symm cne)
  have x5 : Ext hA h5 := Mod.ext (x3.trans e4) m5 (fun j hj => by rw [hj]; exact a.lo)
  have z3 := e13.size
  have z4 := e4.size
  have lC := C3.lt
  have cne5 : s5.b ≠ C := by rcases hs5 with q | q <;> omega
  simp [C5.hc, w3]
  refine wuint_spec P.Uint (v := Bn) (by omega) ?_
  intro h6 s6 e6 o6 hs6
  simp
  refine ef_appendA (a5.ext e6) (o6.rowB (lt_mem (encU_lt (by omega)))) encU_ne (by simp only [List.length_append]; omega) ?_
  intro s7 h7 a7 m7 hs7
  have C7 := m7.blk (C5.ext e6) (Ne.symm cne5)
  have x7 : Ext hA h7 := Mod.ext (x5.trans e6) m7 (fun j hj => by rw [hj]; exact a5.lo)
  simp [C7.hc]
  refine fprice_spec P hg ?_
  intro h8 s8 e8 o8 hs8
  simp
  refine ef_appendA (a7.ext e8) (o8.rowB (lt_mem (encU_lt (by have := priceU_le hg; omega)))) encU_ne (by simp only [List.length_append]; omega) ?_
  intro s9 h9 a9 m9 hs9
  have x9 : Ext hA h9 := Mod.ext (x7.trans e8) m9 (fun j hj => by rw [hj]; exact a7.lo)
  simp [w1]
  refine ⟨⟨i + 1, s9, acc ++ encU A ++ encU Bn ++ encU (priceU f.c), _, _, _, _, _, _, _, _, _, _, _, _, _, _, _, _, _, _, _, _, _, _, _, _, _, _, _, _, rfl, by omega, by rw [← hacc]; simp, a9, x9⟩, by simp [argI]; omega⟩
end
end Go.Rm

/- Nets in bytes: the program's Encode: vertices, tables. -/
set_option linter.unusedSimpArgs false
set_option linter.unusedVariables false
namespace Go.Rm
section
variable {Y : Sys} {h h' : Heap}

def FeI3 (B : Nat) (hA : Heap) (sv : Sl) (N : NetD) (h0 : Heap) (e : List Value) (h' : Heap) : Prop :=
  ∃ (i : Nat) (s : Sl) (acc : List Nat) (x y : Int) (v0 v4 v6 v7 v8 v11 v12 v13 v14 v15 v16 v17 v18 v19 v20 v21 v22 v23 v24 v25 v29 v30 v31 v32 v33 v34 : Value), e = [v0, .pointer (some ⟨B, 0, none⟩), .slice none 0 0, .nilIface, v4, s.v, v6, v7, v8, .int .i64 x, .int .i64 y, v11, v12, v13, v14, v15, v16, v17, v18, v19, v20, v21, v22, v23, v24, v25, sv.v, .int .i64 sv.n, .int .i64 i, v29, v30, v31, v32, v33, v34] ∧ i ≤ sv.n ∧ acc ++ (vertsB x y (N.vs.drop i) ++ N.as.flatMap arcB) = hdB ++ bodyB N ∧ AppB hA.size h' s acc ∧ Ext hA h' ∧ (-1048576 ≤ x ∧ x ≤ 1048576) ∧ (-1048576 ≤ y ∧ y ≤ 1048576)

theorem fe_verts (P : FileEn Y) {N : NetD} (ok : NetOK N) {hA : Heap} {B : Nat} {sv sa st s : Sl} {acc : List Nat} (rB : Blk hA B #[sv.v, sa.v, st.v]) (r : NetH hA sv sa st N) (x : Ext hA h) (a : AppB hA.size h s acc) (hacc : acc ++ (vertsB 0 0 N.vs ++ N.as.flatMap arcB) = hdB ++ bodyB N)
    {R : Value → Heap → Prop} (hr : EncOut Y hA N R)
    (v0 v4 v6 v7 v8 v9 v10 v11 v12 v13 v14 v15 v16 v17 v18 v19 v20 v21 v22 v23 v24 v25 v26 v27 v28 v29 v30 v31 v32 v33 v34 : Value) : Stmt.wp Y S_file_Encode.body.rest.rest.rest.rest.rest (resP S_file_Encode.res R) (fun _ _ _ => False) (resP S_file_Encode.res R)
      [v0, .pointer (some ⟨B, 0, none⟩), .slice none 0 0, .nilIface, v4, s.v, v6, v7, v8, v9, v10, v11, v12, v13, v14, v15, v16, v17, v18, v19, v20, v21, v22, v23, v24, v25, v26, v27, v28, v29, v30, v31, v32, v33, v34] h := by
  obtain ⟨bf1, bf2⟩ := body_facts ok
  have la := r.rv.len
  have ba := ok.bv
  simp [S_file_Encode, Stmt.rest, rB.sk, x]
  refine wp_loop' (FeI3 B hA sv N h) (fun e _ => sv.n - argI e 28) ⟨0, s, acc, 0, 0, _, _, _, _, _, _, _, _, _, _, _, _, _, _, _, _, _, _, _, _, _, _, _, _, _, _, rfl, by omega, by simpa using hacc, a, x, by omega, by omega⟩ ?_
  rintro e h1 ⟨i, s, acc, x', y', v0, v4, v6, v7, v8, v11, v12, v13, v14, v15, v16, v17, v18, v19, v20, v21, v22, v23, v24, v25, v29, v30, v31, v32, v33, v34, rfl, hi, hacc, a, x, hx', hy'⟩
  by_cases c : i < sv.n
  rotate_left
  · have c' : ¬ (i : Int) < sv.n := by omega
    rw [List.drop_eq_nil_of_le (by omega)] at hacc
    simp [vertsB] at hacc
    have tt := fe_arcs P ok rB r x a (by simpa using hacc) hr v0 v4 v6 v7 v8 (.int .i64 x') (.int .i64 y') v11 v12 v13 v14 v15 v16 v17 v18 v19 v20 v21 v22 v23 v24 v25 sv.v (.int .i64 sv.n) (.int .i64 i) (.bool false) v30 v31 v32 v33 v34
    simp [S_file_Encode, Stmt.rest] at tt
    simp [c']
    exact tt
  have c' : (i : Int) < sv.n := by omega
  have hi' : i < N.vs.length := by omega
  have w1 : IntKind.i64.wrap ((i : Int) + 1) = (i : Int) + 1 := i64_wrap (by omega)
  have hd : N.vs.drop i = nthT N.vs i :: N.vs.drop (i + 1) := by rw [List.drop_eq_getElem_cons hi', nthT_eq hi']
  rw [hd] at hacc
  obtain ⟨f, hf⟩ : ∃ f, f = nthT N.vs i := ⟨_, rfl⟩
  have hmem : f ∈ N.vs := by rw [hf, nthT_eq hi']; exact List.getElem_mem hi'
  obtain ⟨⟨a1, a2⟩, ⟨b1, b2⟩, hg1, hg2⟩ := verts_ok ok hmem
  rw [← hf] at hacc
  simp only [vertsB] at hacc
  have hfl := congrArg List.length hacc
  simp only [List.length_append] at hfl bf1
  obtain ⟨Cn, hC1⟩ : ∃ A : Nat, f.c = A := ⟨f.c.toNat, by omega⟩
  have w3 : IntKind.u64.wrap (Cn : Int) = (Cn : Int) := u64_wrap (by omega)
  have wx : IntKind.i64.wrap (f.a - x') = f.a - x' := i64_wrap (by omega)
  have wy : IntKind.i64.wrap (f.b - y') = f.b - y' := i64_wrap (by omega)
  have zx := zz_lt28 (x := f.a - x') (by omega)
  have zy := zz_lt28 (x := f.b - y') (by omega)
  rw [hC1] at hfl hacc
  simp only [Int.toNat_natCast] at hfl hacc
  have rr := (r.ext x).rv.rd hi'
  rw [← hf, hC1] at rr
  simp [c', sem_idxa r.rv.ok, rr]
  refine ef_new_box ?_
  intro C h2 g2 C2 e2
  simp
  refine ef_store_box C2 rfl rfl (by simp) ?_
  intro h3 C3 m3
  have e13 := e2.toExt m3 g2
  have cne : s.b ≠ C := by have := a.lt; omega
  have a3 := a.ext e13
  have x3 := x.trans e13
  simp [C3.hc, wx]
  refine wint_spec P.Int P.Uint (by omega) ?_
  intro h4 s4 e4 o4 hs4
  simp
  refine ef_appendA (a3.ext e4) (o4.rowB (lt_mem (encU_lt (by omega)))) encU_ne (by rw [List.length_append]; omega) ?_
  intro s5 h5 a5 m5 hs5
  have C5 := m5.blk (C3.ext e4) (Ne.symm cne)
  have x5 : Ext hA h5 := Mod.ext (x3.trans e4) m5 (fun j hj => by rw [hj]; exact a.lo)
  have z3 := e13.size
  have z4 := e4.size
  have lC := C3.lt
  have cne5 : s5.b ≠ C := by rcases hs5 with q | q <;> omega
  simp [C5.hc, wy]
  refine wint_spec P.Int P.Uint (by omega) ?_
  intro h6 s6 e6 o6 hs6
  simp
  refine ef_appendA (a5.ext e6) (o6.rowB (lt_mem (encU_lt (by omega)))) encU_ne (by simp only [List.length_append]; omega) ?_
  intro s7 h7 a7 m7 hs7
  have C7 := m7.blk (C5.ext e6) (Ne.symm cne5)
  have x7 : Ext hA h7 := Mod.ext (x5.trans e6) m7 (fun j hj => by rw [hj]; exact a5.lo)
  have z6 := e6.size
  have z5 := m5.size
  have cne7 : s7.b ≠ C := by rcases hs7 with q | q <;> omega
  simp [C7.hc, w3]
  refine wuint_spec P.Uint (v := Cn) (by omega) ?_
  intro h8 s8 e8 o8 hs8
  simp
  refine ef_appendA (a7.ext e8) (o8.rowB (lt_mem (encU_lt (by omega)))) encU_ne (by simp only [List.length_append]; omega) ?_
  intro s9 h9 a9 m9 hs9
  have C9 := m9.blk (C7.ext e8) (Ne.symm cne7)
  have x9 : Ext hA h9 := Mod.ext (x7.trans e8) m9 (fun j hj => by rw [hj]; exact a7.lo)
  simp [C9.hc, w1]
  refine ⟨⟨i + 1, s9, acc ++ encU (zz (f.a - x')) ++ encU (zz (f.b - y')) ++ encU Cn, f.a, f.b, _, _, _, _, _, _, _, _, _, _, _, _, _, _, _, _, _, _, _, _, _, _, _, _, _, _, rfl, by omega, by rw [← hacc]; simp, a9, x9, ⟨a1, a2⟩, ⟨b1, b2⟩⟩, by simp [argI]; omega⟩

def FeI2 (B : Nat) (hA : Heap) (st : Sl) (N : NetD) (h0 : Heap) (e : List Value) (h' : Heap) : Prop :=
  ∃ (i : Nat) (s : Sl) (acc : List Nat) (v0 v4 v6 v7 v8 v9 v10 v11 v12 v13 v14 v15 v16 v17 v21 v22 v23 v24 v25 v26 v27 v28 v29 v30 v31 v32 v33 v34 : Value), e = [v0, .pointer (some ⟨B, 0, none⟩), .slice none 0 0, .nilIface, v4, s.v, v6, v7, v8, v9, v10, v11, v12, v13, v14, v15, v16, v17, st.v, .int .i64 st.n, .int .i64 i, v21, v22, v23, v24, v25, v26, v27, v28, v29, v30, v31, v32, v33, v34] ∧ i ≤ st.n ∧ acc ++ ((N.ts.drop i).flatMap tabB ++ (vertsB 0 0 N.vs ++ N.as.flatMap arcB)) = hdB ++ bodyB N ∧ AppB hA.size h' s acc ∧ Ext hA h'
def FeI1 (B C : Nat) (hA : Heap) (st u : Sl) (k : Nat) (N : NetD) (t : Tab) (h0 : Heap) (e : List Value) (h' : Heap) : Prop :=
  ∃ (i : Nat) (s : Sl) (acc : List Nat) (v0 v4 v6 v8 v9 v10 v11 v12 v13 v14 v15 v16 v17 v21 v25 v26 v27 v28 v29 v30 v31 v32 v33 v34 : Value), e = [v0, .pointer (some ⟨B, 0, none⟩), .slice none 0 0, .nilIface, v4, s.v, v6, .pointer (some ⟨C, 0, none⟩), v8, v9, v10, v11, v12, v13, v14, v15, v16, v17, st.v, .int .i64 st.n, .int .i64 k, v21, u.v, .int .i64 u.n, .int .i64 i, v25, v26, v27, v28, v29, v30, v31, v32, v33, v34] ∧ i ≤ u.n ∧ acc ++ ((t.cs.drop i).flatMap (fun c => encU (priceU c)) ++ ((N.ts.drop (k + 1)).flatMap tabB ++ (vertsB 0 0 N.vs ++ N.as.flatMap arcB))) = hdB ++ bodyB N ∧ AppB hA.size h' s acc ∧ Ext hA h'

theorem fe_types (P : FileEn Y) {N : NetD} (ok : NetOK N) {hA : Heap} {B : Nat} {sv sa st s : Sl} {acc : List Nat} (rB : Blk hA B #[sv.v, sa.v, st.v]) (r : NetH hA sv sa st N) (x : Ext hA h) (a : AppB hA.size h s acc) (hacc : acc ++ (N.ts.flatMap tabB ++ (vertsB 0 0 N.vs ++ N.as.flatMap arcB)) = hdB ++ bodyB N)
    {R : Value → Heap → Prop} (hr : EncOut Y hA N R)
    (v0 v4 v6 v7 v8 v9 v10 v11 v12 v13 v14 v15 v16 v17 v18 v19 v20 v21 v22 v23 v24 v25 v26 v27 v28 v29 v30 v31 v32 v33 v34 : Value) : Stmt.wp Y S_file_Encode.body.rest.rest.rest.rest (resP S_file_Encode.res R) (fun _ _ _ => False) (resP S_file_Encode.res R)
      [v0, .pointer (some ⟨B, 0, none⟩), .slice none 0 0, .nilIface, v4, s.v, v6, v7, v8, v9, v10, v11, v12, v13, v14, v15, v16, v17, v18, v19, v20, v21, v22, v23, v24, v25, v26, v27, v28, v29, v30, v31, v32, v33, v34] h := by
  obtain ⟨bf1, bf2⟩ := body_facts ok
  have la := r.rt.len
  have ba := ok.bt
  simp [S_file_Encode, Stmt.rest, rB.sk, x]
  refine wp_loop' (FeI2 B hA st N h) (fun e _ => st.n - argI e 20) ⟨0, s, acc, _, _, _, _, _, _, _, _, _, _, _, _, _, _, _, _, _, _, _, _, _, _, _, _, _, _, _, _, rfl, by omega, by simpa using hacc, a, x⟩ ?_
  rintro e h1 ⟨i, s, acc, v0, v4, v6, v7, v8, v9, v10, v11, v12, v13, v14, v15, v16, v17, v21, v22, v23, v24, v25, v26, v27, v28, v29, v30, v31, v32, v33, v34, rfl, hi, hacc, a, x⟩
  by_cases c : i < st.n
  rotate_left
  · have c' : ¬ (i : Int) < st.n := by omega
    rw [List.drop_eq_nil_of_le (by omega)] at hacc
    simp at hacc
    have tt := fe_verts P ok rB r x a (by simpa using hacc) hr v0 v4 v6 v7 v8 v9 v10 v11 v12 v13 v14 v15 v16 v17 st.v (.int .i64 st.n) (.int .i64 i) (.bool false) v22 v23 v24 v25 v26 v27 v28 v29 v30 v31 v32 v33 v34
    simp [S_file_Encode, Stmt.rest] at tt
    simp [c']
    exact tt
  have c' : (i : Int) < st.n := by omega
  have hi' : i < N.ts.length := by omega
  have w1 : IntKind.i64.wrap ((i : Int) + 1) = (i : Int) + 1 := i64_wrap (by omega)
  have hd : (N.ts.drop i).flatMap tabB = tabB (nthB N.ts i) ++ (N.ts.drop (i + 1)).flatMap tabB := by rw [List.drop_eq_getElem_cons hi', nthB_eq hi']; rfl
  rw [hd] at hacc
  obtain ⟨f, hf⟩ : ∃ f, f = nthB N.ts i := ⟨_, rfl⟩
  have hmem : f ∈ N.ts := by rw [hf, nthB_eq hi']; exact List.getElem_mem hi'
  obtain ⟨a1, a2, b1, b2, hc1, hc2, hg⟩ := tabs_ok ok hmem
  have hfl := congrArg List.length hacc
  rw [← hf] at hacc hfl
  simp only [tabB, List.length_append] at hfl bf1
  obtain ⟨A, hA1⟩ : ∃ A : Nat, f.i = A := ⟨f.i.toNat, by omega⟩
  obtain ⟨Bn, hB1⟩ : ∃ A : Nat, f.o = A := ⟨f.o.toNat, by omega⟩
  have w2 : IntKind.u64.wrap (A : Int) = (A : Int) := u64_wrap (by omega)
  have w3 : IntKind.u64.wrap (Bn : Int) = (Bn : Int) := u64_wrap (by omega)
  have e1 : tabB f = encU A ++ encU Bn ++ f.cs.flatMap (fun c => encU (priceU c)) := by simp [tabB, hA1, hB1]
  rw [hA1, hB1] at hfl
  simp only [Int.toNat_natCast] at hfl
  rw [e1] at hacc
  obtain ⟨u, rr, _, ru⟩ := r.rt.rd hi'
  replace rr := x.rd rr (fun h => h)
  rw [← hf] at rr ru
  rw [hA1, hB1] at rr
  have lu := ru.len
  simp [c', sem_idxa r.rt.ok, rr]
  refine ef_new_box ?_
  intro C h2 g2 C2 e2
  simp
  refine ef_store_box C2 rfl rfl (by simp) ?_
  intro h3 C3 m3
  have e13 := e2.toExt m3 g2
  have cne : s.b ≠ C := by have := a.lt; omega
  have a3 := a.ext e13
  have x3 := x.trans e13
  simp [C3.hc, w2]
  refine wuint_spec P.Uint (v := A) (by omega) ?_
  intro h4 s4 e4 o4 hs4
  simp
  refine ef_appendA (a3.ext e4) (o4.rowB (lt_mem (encU_lt (by omega)))) encU_ne (by rw [List.length_append]; omega) ?_
  intro s5 h5 a5 m5 hs5
  have C5 := m5.blk (C3.ext e4) (Ne.symm cne)
  have x5 : Ext hA h5 := Mod.ext (x3.trans e4) m5 (fun j hj => by rw [hj]; exact a.lo)
  have z3 := e13.size
  have z4 := e4.size
  have lC := C3.lt
  have cne5 : s5.b ≠ C := by rcases hs5 with q | q <;> omega
  simp [C5.hc, w3]
  refine wuint_spec P.Uint (v := Bn) (by omega) ?_
  intro h6 s6 e6 o6 hs6
  simp
  refine ef_appendA (a5.ext e6) (o6.rowB (lt_mem (encU_lt (by omega)))) encU_ne (by simp only [List.length_append]; omega) ?_
  intro s7 h7 a7 m7 hs7
  have C7 := m7.blk (C5.ext e6) (Ne.symm cne5)
  have x7 : Ext hA h7 := Mod.ext (x5.trans e6) m7 (fun j hj => by rw [hj]; exact a5.lo)
  simp [C7.hc]
  have z5 := m5.size
  have z6 := e6.size
  have hacc7 : acc ++ encU A ++ encU Bn ++ (f.cs.flatMap (fun c => encU (priceU c)) ++ ((N.ts.drop (i + 1)).flatMap tabB ++ (vertsB 0 0 N.vs ++ N.as.flatMap arcB))) = hdB ++ bodyB N := by rw [← hacc]; simp
  clear hacc hfl
  refine wp_loop' (FeI1 B C hA st u i N f h7) (fun e _ => u.n - argI e 24) ⟨0, s7, acc ++ encU A ++ encU Bn, _, _, _, _, _, _, _, _, _, _, _, _, _, _, _, _, _, _, _, _, _, _, _, _, rfl, by omega, by simpa using hacc7, a7, x7⟩ ?_
  rintro e g1 ⟨j, s, acc, v0, v4, v6, v8, v9, v10, v11, v12, v13, v14, v15, v16, v17, v21, v25, v26, v27, v28, v29, v30, v31, v32, v33, v34, rfl, hj, hacc, a, x⟩
  by_cases d : j < u.n
  rotate_left
  · have d' : ¬ (j : Int) < u.n := by omega
    rw [List.drop_eq_nil_of_le (by omega)] at hacc
    simp [d', w1]
    refine ⟨⟨i + 1, s, acc, _, _, _, _, _, _, _, _, _, _, _, _, _, _, _, _, _, _, _, _, _, _, _, _, _, _, _, _, rfl, by omega, by rw [← hacc]; simp, a, x⟩, by simp [argI]; omega⟩
  have d' : (j : Int) < u.n := by omega
  have hj' : j < f.cs.length := by omega
  have w4 : IntKind.i64.wrap ((j : Int) + 1) = (j : Int) + 1 := i64_wrap (by omega)
  have hcj : weightB (nthI f.cs j) = true := hg _ (by rw [show nthI f.cs j = f.cs[j] by simp [nthI, hj']]; exact List.getElem_mem hj')
  have hd : (f.cs.drop j).flatMap (fun c => encU (priceU c)) = encU (priceU (nthI f.cs j)) ++ (f.cs.drop (j + 1)).flatMap (fun c => encU (priceU c)) := by rw [List.drop_eq_getElem_cons hj', show nthI f.cs j = f.cs[j] by simp [nthI, hj']]; rfl
  rw [hd] at hacc
  have hfl := congrArg List.length hacc
  simp only [List.length_append] at hfl
  simp [d', sem_idxa ru.ok, ru.sk, x, hj']
  refine fprice_spec P hcj ?_
  intro g2 s8 e8 o8 hs8
  simp
  refine ef_appendA (a.ext e8) (o8.rowB (lt_mem (encU_lt (by have := priceU_le hcj; omega)))) encU_ne (by simp only [List.length_append]; omega) ?_
  intro s9 g3 a9 m9 hs9
  have x9 : Ext hA g3 := Mod.ext (x.trans e8) m9 (fun j hj => by rw [hj]; exact a.lo)
  simp [w4]
  refine ⟨⟨j + 1, s9, acc ++ encU (priceU (nthI f.cs j)), _, _, _, _, _, _, _, _, _, _, _, _, _, _, _, _, _, _, _, _, _, _, _, _, rfl, by omega, by rw [← hacc]; simp, a9, x9⟩, by simp [argI]; omega⟩
end
end Go.Rm

/- Nets in bytes: the program's Encode. -/
set_option linter.unusedSimpArgs false
set_option linter.unusedVariables false
namespace Go.Rm
section
variable {Y : Sys} {h h' : Heap}

theorem ef_bslice3i {K : Value → Heap → Prop} {z : Value} {k : IntKind} {a b c : Int} :
    Ef.wp h K (.bslice 3 1 #[z] [0, 1, 2]) [.int k a, .int k b, .int k c] = ∀ t : TypeId, K (.slice (some ⟨h.size, 0, none⟩) 3 3) (h.push (.cells #[.int k a, .int k b, .int k c] t)) := by
  have e : Instr.fill (fun i => some (i * 1, 1)) (zeros #[z] (3 * 1)) ([0, 1, 2].zip [.int k a, .int k b, .int k c]) = some #[.int k a, .int k b, .int k c] := by
    simp [Instr.fill, zeros_one]
    rfl
  simp only [Ef.wp, e]

def FeI0 (B L : Nat) (hA : Heap) (N : NetD) (h0 : Heap) (e : List Value) (h' : Heap) : Prop :=
  ∃ (i : Nat) (s : Sl) (acc : List Nat) (v0 v4 v6 v7 v8 v9 v10 v11 v12 v13 v17 v18 v19 v20 v21 v22 v23 v24 v25 v26 v27 v28 v29 v30 v31 v32 v33 v34 : Value), e = [v0, .pointer (some ⟨B, 0, none⟩), .slice none 0 0, .nilIface, v4, s.v, v6, v7, v8, v9, v10, v11, v12, v13, .slice (some ⟨L, 0, none⟩) 3 3, .int .i64 3, .int .i64 i, v17, v18, v19, v20, v21, v22, v23, v24, v25, v26, v27, v28, v29, v30, v31, v32, v33, v34] ∧ i ≤ 3 ∧ acc ++ (encL ((lensB N).drop i) ++ (N.ts.flatMap tabB ++ (vertsB 0 0 N.vs ++ N.as.flatMap arcB))) = hdB ++ bodyB N ∧ AppB hA.size h' s acc ∧ Ext hA h' ∧ Blk h' L #[.int .i64 N.ts.length, .int .i64 N.vs.length, .int .i64 N.as.length] ∧ s.b ≠ L

theorem fencode_spec (P : FileEn Y) (NF : NetFns Y) (T : TurnCk Y) {N : NetD} {sv sa st : Sl} (r : NetH h sv sa st N) {R : Value → Heap → Prop} (hr : EncOut Y h N R) : CallP Y F.file_Encode [netV sv sa st] h R := by
  refine .of_has P.Encode rfl ?_
  have lv := r.rv.len
  have la := r.ra.len
  have lt := r.rt.len
  simp [S_file_Encode, FnS.wp, netV]
  refine ef_new_box ?_
  intro B h1 g1 B1 e1
  have z1 := e1.size
  simp [rd_blk B1]
  refine ncheck_spec NF T (r.ext e1) ?_
  intro v h2 e2 hv
  have z2 := e2.size
  have e02 := e1.trans e2
  by_cases hn : (netW N).2 = 0
  rotate_left
  · have he : encR N = ([], netW N) := by unfold encR; rw [if_pos hn]
    unfold EncOut at hr
    rw [he] at hr
    obtain ⟨t, q, hv'⟩ := hv.here.iface hn
    subst hv'
    simp
    exact hr h2 Sl.nil _ e02 ⟨Sl.nil_ok, rfl, fun i hi => by simp at hi, fun i hi => by simp at hi⟩ rfl (fun h => absurd rfl h) (hv.mono (by omega))
  have hvn := hv.here.nil hn
  subst hvn
  have ok := netOK_iff.1 hn
  obtain ⟨bf1, bf2⟩ := body_facts ok
  have b1 := ok.bt
  have b2 := ok.bv
  have b3 := ok.ba
  have B2 := B1.ext e2
  have r2 := r.ext e02
  have hr2 : EncOut Y h2 N R := by
    intro h' s v x q1 q2 q3 q4
    exact hr h' s v (e02.trans x) q1 q2 (fun hh => by have := q3 hh; have := e02.size; omega) (q4.mono (by have := e02.size; omega))
  simp [ef_bslice4]
  intro t
  refine ef_b2b_laid (l := hdB) (by decide) ?_
  intro h3 e3 a3
  have B3 := B2.ext e3
  simp [B3.hc, ef_bslice3i]
  intro t'
  have e4 : Ext h3 (h3.push (.cells #[.int .i64 st.n, .int .i64 sv.n, .int .i64 sa.n] t')) := Mod.push
  have L4 : Blk (h3.push (.cells #[.int .i64 st.n, .int .i64 sv.n, .int .i64 sa.n] t')) h3.size #[.int .i64 N.ts.length, .int .i64 N.vs.length, .int .i64 N.as.length] := by rw [lt, lv, la]; exact Blk.new
  have a4 := a3.ext e4
  have x4 := e3.trans e4
  generalize h3.push (.cells #[.int .i64 st.n, .int .i64 sv.n, .int .i64 sa.n] t') = h4 at *
  refine wp_loop' (FeI0 B h3.size h2 N h4) (fun e _ => 3 - argI e 16) ⟨0, Sl.at h2.size 4 4, hdB, _, _, _, _, _, _, _, _, _, _, _, _, _, _, _, _, _, _, _, _, _, _, _, _, _, _, _, _, rfl, by omega, rfl, a4, x4, L4, by have := a3.lt; simp at this ⊢; omega⟩ ?_
  rintro e h5 ⟨i, s, acc, v0, v4, v6, v7, v8, v9, v10, v11, v12, v13, v17, v18, v19, v20, v21, v22, v23, v24, v25, v26, v27, v28, v29, v30, v31, v32, v33, v34, rfl, hi, hacc, a, x, L5, hsL⟩
  by_cases c : i < 3
  rotate_left
  · have c' : ¬ (i : Int) < 3 := by omega
    obtain rfl : i = 3 := by omega
    have hacc' : acc ++ (N.ts.flatMap tabB ++ (vertsB 0 0 N.vs ++ N.as.flatMap arcB)) = hdB ++ bodyB N := by
      rw [← hacc]; simp [lensB, encL]
    have tt := fe_types P ok B2 r2 x a hacc' hr2 v0 v4 v6 v7 v8 v9 v10 v11 v12 v13 (.slice (some ⟨h3.size, 0, none⟩) 3 3) (.int .i64 3) (.int .i64 3) (.bool false) v18 v19 v20 v21 v22 v23 v24 v25 v26 v27 v28 v29 v30 v31 v32 v33 v34
    simp [S_file_Encode, Stmt.rest] at tt
    simp
    exact tt
  have c' : (i : Int) < 3 := by omega
  have w1 : IntKind.i64.wrap ((i : Int) + 1) = (i : Int) + 1 := i64_wrap (by omega)
  obtain ⟨k, hk⟩ : ∃ k, k = nth (lensB N) i := ⟨_, rfl⟩
  have hkb : k < 2 ^ 64 ∧ IntKind.u64.wrap (k : Int) = (k : Int) ∧ (#[Value.int .i64 N.ts.length, .int .i64 N.vs.length, .int .i64 N.as.length])[i]? = some (.int .i64 (k : Int)) ∧ encL ((lensB N).drop i) = encU k ++ encL ((lensB N).drop (i + 1)) := by
    match i, c with
    | 0, _ => subst hk; exact ⟨by simp [lensB, nth]; omega, u64_wrap (by simp [lensB, nth]; omega), by simp [lensB, nth], by simp [lensB, nth, encL]⟩
    | 1, _ => subst hk; exact ⟨by simp [lensB, nth]; omega, u64_wrap (by simp [lensB, nth]; omega), by simp [lensB, nth], by simp [lensB, nth, encL]⟩
    | 2, _ => subst hk; exact ⟨by simp [lensB, nth]; omega, u64_wrap (by simp [lensB, nth]; omega), by simp [lensB, nth], by simp [lensB, nth, encL]⟩
  obtain ⟨k1, k2, k3, k4⟩ := hkb
  have ix : IOp.sem Y h5 (.idxa 1) [.slice (some ⟨h3.size, 0, none⟩) 3 3, .int .i64 (i : Int)] = some (.pointer (some ⟨h3.size, 0 + i, none⟩)) := by
    have := sem_idxa (Y := Y) (h := h5) (s := Sl.at h3.size 3 3) (sz := 1) (k := .i64) (i := (i : Int)) ⟨fun h => (by cases h), by simp, .inl rfl⟩ (by omega) (by simp; omega)
    simpa using this
  rw [k4] at hacc
  have hfl := congrArg List.length hacc
  simp only [List.length_append] at hfl bf1
  simp [c', ix, L5.hc, k3, k2]
  refine wuint_spec P.Uint k1 ?_
  intro h6 s6 e6 o6 hs6
  simp
  refine ef_appendA (a.ext e6) (o6.rowB (lt_mem (encU_lt k1))) encU_ne (by rw [List.length_append]; omega) ?_
  intro s7 h7 a7 m7 hs7
  have x7 : Ext h2 h7 := Mod.ext (x.trans e6) m7 (fun j hj => by rw [hj]; exact a.lo)
  simp [w1]
  have lL := L5.lt
  have z6 := e6.size
  refine ⟨⟨i + 1, s7, acc ++ encU k, _, _, _, _, _, _, _, _, _, _, _, _, _, _, _, _, _, _, _, _, _, _, _, _, _, _, _, _, rfl, by omega, by rw [← hacc]; simp, a7, x7, m7.blk (L5.ext e6) (Ne.symm hsL), by have := hs7; omega⟩, by simp [argI]; omega⟩
end
end Go.Rm

/- Nets in bytes: the document's Encode: its end, arcs, vertices. -/
set_option linter.unusedSimpArgs false
set_option linter.unusedVariables false
namespace Go.Rm
section
variable {Y : Sys} {h h' : Heap}

theorem resP_nx {R : Value → Heap → Prop} {e : List Value} {i n b j : Nat} {vs : Array Value} (he : e.getD i undef = .pointer (some ⟨b, 0, none⟩)) (hb : Blk h b vs) (hn : vs.size = n) (hr : R (.tuple #[e.getD j undef, .agg vs]) h) :
    resP [.n j, .box i n true] R e h := by
  unfold resP
  simp only [resAll, Res.ev, he, rd_blk hb hn, if_true, Option.bind_some]
  simpa using hr

structure DocEn (Y : Sys) : Prop where
  Encode : Y.Has F.rref6_Encode S_rref6_Encode
  price : Y.Has F.rref6_price S_rref6_price
  At : Y.Has F.rref6_At S_rref6_At
  Uint : Y.Has F.rref6_Uint S_rref6_Uint
  Int : Y.Has F.rref6_Int S_rref6_Int
  Sum : Y.Has F.rref6_SumOf S_rref6_SumOf

theorem dprice_spec (P : DocEn Y) {c : Int} (hc : weightB c = true) {R : Value → Heap → Prop}
    (hr : ∀ h' s', Ext h h' → Own h' 1 s' (bytesL (encU (priceU c))) → (s'.nl = true ∨ h.size ≤ s'.b) → R s'.v h') : CallP Y F.rref6_price [.int .i64 c] h R := by
  refine .of_has P.price rfl ?_
  simp [S_rref6_price, FnS.wp]
  by_cases g : c = 1152921504606846976
  · have hp : priceU c = 0 := by unfold priceU; rw [if_pos g]
    rw [hp] at hr
    simp [g]
    refine wruint_spec P.Uint (v := 0) (by decide) ?_
    intro h' s' e o hs
    simp
    exact hr h' s' e o hs
  · have g' := (weightB_cases hc).resolve_right g
    obtain ⟨k, hk⟩ : ∃ k : Nat, k = priceU c := ⟨_, rfl⟩
    have hk' : (k : Int) = c + 1 := by rw [hk]; unfold priceU; rw [if_neg g]; omega
    have w1 : IntKind.u64.wrap c = c := u64_wrap (by omega)
    have w2 : IntKind.u64.wrap (c + 1) = (k : Int) := by rw [u64_wrap (by omega)]; omega
    rw [← hk] at hr
    simp [g, w1, w2]
    refine wruint_spec P.Uint (v := k) (by omega) ?_
    intro h' s' e o hs
    simp
    exact hr h' s' e o hs

/-- what the document's Encode leaves -/
def EncOutD (Y : Sys) (W : Nat) (hA : Heap) (N : NetD) (R : Value → Heap → Prop) : Prop :=
  ∀ h' s v, Mod (fun j => j = W) hA h' → RowB h' s (encR N).1 → s.sp = none → ((encR N).1 ≠ [] → hA.size ≤ s.b ∧ s.b < h'.size) → FWr hA.size h' (encR N).2 v → R (.tuple #[s.v, v]) h'

theorem de_tail (P : DocEn Y) {N : NetD} (ok : NetOK N) {W : Nat} {hA : Heap} {s : Sl} (rW : Blk hA W #[.slice none 0 0, .int .i64 0]) (x : Ext hA h) (a : AppB hA.size h s (hdB ++ bodyB N)) {R : Value → Heap → Prop} (hr : EncOutD Y W hA N R)
    (v0 v1 v4 v6 v7 v8 v9 v10 v11 v12 v13 v14 v15 v16 v17 v18 v19 v20 : Value) : Stmt.wp Y S_rref6_Encode.body.rest.rest.rest.rest.rest.rest.rest.rest.rest.rest.rest.rest (resP S_rref6_Encode.res R) (fun _ _ _ => False) (resP S_rref6_Encode.res R)
      [v0, v1, .slice none 0 0, .pointer (some ⟨W, 0, none⟩), v4, s.v, v6, v7, v8, v9, v10, v11, v12, v13, v14, v15, v16, v17, v18, v19, v20] h := by
  obtain ⟨bf1, bf2⟩ := body_facts ok
  have hl := a.row.len
  have hw : netW N = wOK := netW_ok ok
  have lW := rW.lt
  simp [S_rref6_Encode, Stmt.rest]
  refine wrsum_spec P.Sum a.row (by omega) ?_
  intro h1 s1 e1 o1 n1 b1
  simp
  have hsl : (sumB (hdB ++ bodyB N)).length = 4 := rfl
  refine ef_appendA (a.ext e1) (o1.rowB (lt_mem sumB_lt)) (by simp [sumB]) (by rw [List.length_append]; omega) ?_
  intro s2 h2 a2 m2 hs2
  have hE : hdB ++ bodyB N ++ sumB (hdB ++ bodyB N) = encB N := rfl
  rw [hE] at a2
  have l2 := a2.row.len
  have x2 : Ext hA h2 := Mod.ext (x.trans e1) m2 (fun j hj => by rw [hj]; exact a.lo)
  have z2 := x2.size
  unfold EncOutD at hr
  by_cases c : 65536 < s2.n
  · have c' : (65536 : Int) < s2.n := by omega
    have he : encR N = ([], atW wFile 0 4) := by unfold encR; rw [if_neg (by rw [hw]; simp [wOK]), if_pos (by omega)]
    rw [he] at hr
    simp [c']
    refine rat_spec P.At ?_
    intro h3 v e3 hv
    obtain ⟨s5, rfl⟩ := hv.here.shape
    simp
    refine ef_store_box (rW.ext (x2.trans e3)) rfl rfl (by simp) ?_
    intro h4 W4 m4
    simp
    refine resP_nx rfl W4 rfl ?_
    refine hr h4 Sl.nil _ (((x2.trans e3).mono (fun _ _ h => h.elim)).trans m4) ⟨Sl.nil_ok, rfl, fun i hi => by simp at hi, fun i hi => by simp at hi⟩ rfl (fun h => absurd rfl h) ((hv.step m4 (fun j hj => by omega)).mono (by omega))
  · have c' : ¬ (65536 : Int) < s2.n := by omega
    have he : encR N = (encB N, wOK) := by unfold encR; rw [if_neg (by rw [hw]; simp [wOK]), if_neg (by omega)]
    rw [he] at hr
    simp [c']
    refine ef_store_box (rW.ext x2) rfl rfl (by simp) ?_
    intro h4 W4 m4
    simp
    refine resP_nx rfl W4 rfl ?_
    have := a2.lo
    have := a2.lt
    have := m4.size
    exact hr h4 s2 _ ((x2.mono (fun _ _ h => h.elim)).trans m4) (a2.row.mod m4 (fun _ => by omega)) a2.sp (fun _ => by omega) FWr.ok

def DeI4 (B W : Nat) (hA : Heap) (N : NetD) (h0 : Heap) (e : List Value) (h' : Heap) : Prop :=
  ∃ (i : Nat) (s : Sl) (acc : List Nat) (v0 v4 v6 v7 v8 v9 v10 v11 v12 v14 v15 v16 v17 v18 v19 v20 : Value), e = [v0, .pointer (some ⟨B, 0, none⟩), .slice none 0 0, .pointer (some ⟨W, 0, none⟩), v4, s.v, v6, v7, v8, v9, v10, v11, v12, .int .i64 i, v14, v15, v16, v17, v18, v19, v20] ∧ i ≤ N.as.length ∧ acc ++ (N.as.drop i).flatMap arcB = hdB ++ bodyB N ∧ AppB hA.size h' s acc ∧ Ext hA h'

theorem de_arcs (P : DocEn Y) {N : NetD} (ok : NetOK N) {hA : Heap} {B W : Nat} {sv sa st s : Sl} {acc : List Nat} (rW : Blk hA W #[.slice none 0 0, .int .i64 0]) (rB : Blk hA B #[sv.v, sa.v, st.v]) (r : NetH hA sv sa st N) (x : Ext hA h) (a : AppB hA.size h s acc) (hacc : acc ++ N.as.flatMap arcB = hdB ++ bodyB N)
    {R : Value → Heap → Prop} (hr : EncOutD Y W hA N R)
    (v0 v4 v6 v7 v8 v9 v10 v11 v12 v13 v14 v15 v16 v17 v18 v19 v20 : Value) : Stmt.wp Y S_rref6_Encode.body.rest.rest.rest.rest.rest.rest.rest.rest.rest.rest.rest (resP S_rref6_Encode.res R) (fun _ _ _ => False) (resP S_rref6_Encode.res R)
      [v0, .pointer (some ⟨B, 0, none⟩), .slice none 0 0, .pointer (some ⟨W, 0, none⟩), v4, s.v, v6, v7, v8, v9, v10, v11, v12, v13, v14, v15, v16, v17, v18, v19, v20] h := by
  obtain ⟨bf1, bf2⟩ := body_facts ok
  have la := r.ra.len
  have ba := ok.ba
  simp [S_rref6_Encode, Stmt.rest]
  refine wp_loop' (DeI4 B W hA N h) (fun e _ => N.as.length - argI e 13) ⟨0, s, acc, _, _, _, _, _, _, _, _, _, _, _, _, _, _, _, _, rfl, by omega, by simpa using hacc, a, x⟩ ?_
  rintro e h1 ⟨i, s, acc, v0, v4, v6, v7, v8, v9, v10, v11, v12, v14, v15, v16, v17, v18, v19, v20, rfl, hi, hacc, a, x⟩
  by_cases c : i < sa.n
  rotate_left
  · have c' : ¬ (i : Int) < sa.n := by omega
    rw [List.drop_eq_nil_of_le (by omega)] at hacc
    simp at hacc
    rw [hacc] at a
    have tt := de_tail P ok rW x a hr v0 (.pointer (some ⟨B, 0, none⟩)) v4 v6 v7 v8 v9 v10 v11 v12 (.int .i64 i) v14 v15 v16 v17 v18 (.bool false) v20
    simp [S_rref6_Encode, Stmt.rest] at tt
    simp [c', rB.sk, x]
    exact tt
  have c' : (i : Int) < sa.n := by omega
  have hi' : i < N.as.length := by omega
  have w1 : IntKind.i64.wrap ((i : Int) + 1) = (i : Int) + 1 := i64_wrap (by omega)
  have hd : (N.as.drop i).flatMap arcB = arcB (nthT N.as i) ++ (N.as.drop (i + 1)).flatMap arcB := by rw [List.drop_eq_getElem_cons hi', nthT_eq hi']; rfl
  rw [hd] at hacc
  obtain ⟨f, hf⟩ : ∃ f, f = nthT N.as i := ⟨_, rfl⟩
  have hmem : f ∈ N.as := by rw [hf, nthT_eq hi']; exact List.getElem_mem hi'
  obtain ⟨⟨a1, a2⟩, ⟨b1, b2⟩, hg⟩ := arcs_ok ok hmem
  have hfl := congrArg List.length hacc
  rw [← hf] at hacc hfl
  simp only [arcB, List.length_append] at hfl bf1
  obtain ⟨A, hA1⟩ : ∃ A : Nat, f.a = A := ⟨f.a.toNat, by omega⟩
  obtain ⟨Bn, hB1⟩ : ∃ A : Nat, f.b = A := ⟨f.b.toNat, by omega⟩
  have w2 : IntKind.u64.wrap (A : Int) = (A : Int) := u64_wrap (by omega)
  have w3 : IntKind.u64.wrap (Bn : Int) = (Bn : Int) := u64_wrap (by omega)
  have e1 : arcB f = encU A ++ encU Bn ++ encU (priceU f.c) := by simp [arcB, hA1, hB1]
  rw [hA1, hB1] at hfl
  simp only [Int.toNat_natCast] at hfl
  rw [e1] at hacc
  have rr := (r.ext x).ra.rd hi'
  rw [← hf, hA1, hB1] at rr
  simp [rB.sk, x, c', sem_idxa r.ra.ok, rr]
  refine ef_new_box ?_
  intro C h2 g2 C2 e2
  simp
  refine ef_store_box C2 rfl rfl (by simp) ?_
  intro h3 C3 m3
  have e13 := e2.toExt m3 g2
  have cne : s.b ≠ C := by have := a.lt; omega
  have a3 := a.ext e13
  have x3 := x.trans e13
  simp [C3.hc, w2, w3]
  refine wruint_spec P.Uint (v := A) (by omega) ?_
  intro h4 s4 e4 o4 hs4
  have C4 := C3.ext e4
  simp [C4.hc]
  refine ef_appendA (a3.ext e4) (o4.rowB (lt_mem (encU_lt (by omega)))) encU_ne (by rw [List.length_append]; omega) ?_
  intro s5 h5 a5 m5 hs5
  have C5 := m5.blk C4 (Ne.symm cne)
  have x5 : Ext hA h5 := Mod.ext (x3.trans e4) m5 (fun j hj => by rw [hj]; exact a.lo)
  have z3 := e13.size
  have z4 := e4.size
  have lC := C3.lt
  have cne5 : s5.b ≠ C := by rcases hs5 with q | q <;> omega
  simp [C5.hc]
  refine wruint_spec P.Uint (v := Bn) (by omega) ?_
  intro h6 s6 e6 o6 hs6
  have C6 := C5.ext e6
  simp [C6.hc]
  refine ef_appendA (a5.ext e6) (o6.rowB (lt_mem (encU_lt (by omega)))) encU_ne (by simp only [List.length_append]; omega) ?_
  intro s7 h7 a7 m7 hs7
  have C7 := m7.blk C6 (Ne.symm cne5)
  have x7 : Ext hA h7 := Mod.ext (x5.trans e6) m7 (fun j hj => by rw [hj]; exact a5.lo)
  simp [C7.hc]
  refine dprice_spec P hg ?_
  intro h8 s8 e8 o8 hs8
  simp
  refine ef_appendA (a7.ext e8) (o8.rowB (lt_mem (encU_lt (by have := priceU_le hg; omega)))) encU_ne (by simp only [List.length_append]; omega) ?_
  intro s9 h9 a9 m9 hs9
  have x9 : Ext hA h9 := Mod.ext (x7.trans e8) m9 (fun j hj => by rw [hj]; exact a7.lo)
  simp [w1]
  refine ⟨⟨i + 1, s9, acc ++ encU A ++ encU Bn ++ encU (priceU f.c), _, _, _, _, _, _, _, _, _, _, _, _, _, _, _, _, rfl, by omega, by rw [← hacc]; simp, a9, x9⟩, by simp [argI]; omega⟩

def DeI3 (B W : Nat) (hA : Heap) (N : NetD) (h0 : Heap) (e : List Value) (h' : Heap) : Prop :=
  ∃ (i : Nat) (s : Sl) (acc : List Nat) (x y : Int) (v0 v4 v6 v7 v8 v12 v13 v14 v15 v16 v17 v18 v19 v20 : Value), e = [v0, .pointer (some ⟨B, 0, none⟩), .slice none 0 0, .pointer (some ⟨W, 0, none⟩), v4, s.v, v6, v7, v8, .int .i64 x, .int .i64 y, .int .i64 i, v12, v13, v14, v15, v16, v17, v18, v19, v20] ∧ i ≤ N.vs.length ∧ acc ++ (vertsB x y (N.vs.drop i) ++ N.as.flatMap arcB) = hdB ++ bodyB N ∧ AppB hA.size h' s acc ∧ Ext hA h' ∧ (-1048576 ≤ x ∧ x ≤ 1048576) ∧ (-1048576 ≤ y ∧ y ≤ 1048576)

theorem de_verts (P : DocEn Y) {N : NetD} (ok : NetOK N) {hA : Heap} {B W : Nat} {sv sa st s : Sl} {acc : List Nat} (rW : Blk hA W #[.slice none 0 0, .int .i64 0]) (rB : Blk hA B #[sv.v, sa.v, st.v]) (r : NetH hA sv sa st N) (x : Ext hA h) (a : AppB hA.size h s acc) (hacc : acc ++ (vertsB 0 0 N.vs ++ N.as.flatMap arcB) = hdB ++ bodyB N)
    {R : Value → Heap → Prop} (hr : EncOutD Y W hA N R)
    (v0 v4 v6 v7 v8 v9 v10 v11 v12 v13 v14 v15 v16 v17 v18 v19 v20 : Value) : Stmt.wp Y S_rref6_Encode.body.rest.rest.rest.rest.rest.rest.rest.rest (resP S_rref6_Encode.res R) (fun _ _ _ => False) (resP S_rref6_Encode.res R)
      [v0, .pointer (some ⟨B, 0, none⟩), .slice none 0 0, .pointer (some ⟨W, 0, none⟩), v4, s.v, v6, v7, v8, v9, v10, v11, v12, v13, v14, v15, v16, v17, v18, v19, v20] h := by
  obtain ⟨bf1, bf2⟩ := body_facts ok
  have la := r.rv.len
  have ba := ok.bv
  simp [S_rref6_Encode, Stmt.rest]
  refine wp_loop' (DeI3 B W hA N h) (fun e _ => N.vs.length - argI e 11) ⟨0, s, acc, 0, 0, _, _, _, _, _, _, _, _, _, _, _, _, _, _, rfl, by omega, by simpa using hacc, a, x, by omega, by omega⟩ ?_
  rintro e h1 ⟨i, s, acc, x', y', v0, v4, v6, v7, v8, v12, v13, v14, v15, v16, v17, v18, v19, v20, rfl, hi, hacc, a, x, hx', hy'⟩
  by_cases c : i < sv.n
  rotate_left
  · have c' : ¬ (i : Int) < sv.n := by omega
    rw [List.drop_eq_nil_of_le (by omega)] at hacc
    simp [vertsB] at hacc
    have tt := de_arcs P ok rW rB r x a (by simpa using hacc) hr v0 v4 v6 v7 v8 (.int .i64 x') (.int .i64 y') (.int .i64 i) v12 v13 v14 v15 v16 v17 (.bool false) v19 v20
    simp [S_rref6_Encode, Stmt.rest] at tt
    simp [c', rB.sk, x]
    exact tt
  have c' : (i : Int) < sv.n := by omega
  have hi' : i < N.vs.length := by omega
  have w1 : IntKind.i64.wrap ((i : Int) + 1) = (i : Int) + 1 := i64_wrap (by omega)
  have hd : N.vs.drop i = nthT N.vs i :: N.vs.drop (i + 1) := by rw [List.drop_eq_getElem_cons hi', nthT_eq hi']
  rw [hd] at hacc
  obtain ⟨f, hf⟩ : ∃ f, f = nthT N.vs i := ⟨_, rfl⟩
  have hmem : f ∈ N.vs := by rw [hf, nthT_eq hi']; exact List.getElem_mem hi'
  obtain ⟨⟨a1, a2⟩, ⟨b1, b2⟩, hg1, hg2⟩ := verts_ok ok hmem
  rw [← hf] at hacc
  simp only [vertsB] at hacc
  have hfl := congrArg List.length hacc
  simp only [List.length_append] at hfl bf1
  obtain ⟨Cn, hC1⟩ : ∃ A : Nat, f.c = A := ⟨f.c.toNat, by omega⟩
  have w3 : IntKind.u64.wrap (Cn : Int) = (Cn : Int) := u64_wrap (by omega)
  have wx : IntKind.i64.wrap (f.a - x') = f.a - x' := i64_wrap (by omega)
  have wy : IntKind.i64.wrap (f.b - y') = f.b - y' := i64_wrap (by omega)
  have zx := zz_lt28 (x := f.a - x') (by omega)
  have zy := zz_lt28 (x := f.b - y') (by omega)
  rw [hC1] at hfl hacc
  simp only [Int.toNat_natCast] at hfl hacc
  have rr := (r.ext x).rv.rd hi'
  rw [← hf, hC1] at rr
  simp [rB.sk, x, c', sem_idxa r.rv.ok, rr]
  refine ef_new_box ?_
  intro C h2 g2 C2 e2
  simp
  refine ef_store_box C2 rfl rfl (by simp) ?_
  intro h3 C3 m3
  have e13 := e2.toExt m3 g2
  have cne : s.b ≠ C := by have := a.lt; omega
  have a3 := a.ext e13
  have x3 := x.trans e13
  simp [C3.hc, wx, wy, w3]
  refine wrint_spec P.Int P.Uint (by omega) ?_
  intro h4 s4 e4 o4 hs4
  have C4 := C3.ext e4
  simp [C4.hc]
  refine ef_appendA (a3.ext e4) (o4.rowB (lt_mem (encU_lt (by omega)))) encU_ne (by rw [List.length_append]; omega) ?_
  intro s5 h5 a5 m5 hs5
  have C5 := m5.blk C4 (Ne.symm cne)
  have x5 : Ext hA h5 := Mod.ext (x3.trans e4) m5 (fun j hj => by rw [hj]; exact a.lo)
  have z3 := e13.size
  have z4 := e4.size
  have lC := C3.lt
  have cne5 : s5.b ≠ C := by rcases hs5 with q | q <;> omega
  simp [C5.hc]
  refine wrint_spec P.Int P.Uint (by omega) ?_
  intro h6 s6 e6 o6 hs6
  have C6 := C5.ext e6
  simp [C6.hc]
  refine ef_appendA (a5.ext e6) (o6.rowB (lt_mem (encU_lt (by omega)))) encU_ne (by simp only [List.length_append]; omega) ?_
  intro s7 h7 a7 m7 hs7
  have C7 := m7.blk C6 (Ne.symm cne5)
  have x7 : Ext hA h7 := Mod.ext (x5.trans e6) m7 (fun j hj => by rw [hj]; exact a5.lo)
  have z6 := e6.size
  have z5 := m5.size
  have cne7 : s7.b ≠ C := by rcases hs7 with q | q <;> omega
  simp [C7.hc]
  refine wruint_spec P.Uint (v := Cn) (by omega) ?_
  intro h8 s8 e8 o8 hs8
  simp
  refine ef_appendA (a7.ext e8) (o8.rowB (lt_mem (encU_lt (by omega)))) encU_ne (by simp only [List.length_append]; omega) ?_
  intro s9 h9 a9 m9 hs9
  have C9 := m9.blk (C7.ext e8) (Ne.symm cne7)
  have x9 : Ext hA h9 := Mod.ext (x7.trans e8) m9 (fun j hj => by rw [hj]; exact a7.lo)
  simp [C9.hc, w1]
  refine ⟨⟨i + 1, s9, acc ++ encU (zz (f.a - x')) ++ encU (zz (f.b - y')) ++ encU Cn, f.a, f.b, _, _, _, _, _, _, _, _, _, _, _, _, _, _, rfl, by omega, by rw [← hacc]; simp, a9, x9, ⟨a1, a2⟩, ⟨b1, b2⟩⟩, by simp [argI]; omega⟩
end
end Go.Rm

/- Nets in bytes: the document's Encode, whole. -/
set_option linter.unusedSimpArgs false
set_option linter.unusedVariables false
namespace Go.Rm
section
variable {Y : Sys} {h h' : Heap}

def DeI2 (B W : Nat) (hA : Heap) (N : NetD) (h0 : Heap) (e : List Value) (h' : Heap) : Prop :=
  ∃ (i : Nat) (s : Sl) (acc : List Nat) (v0 v4 v7 v8 v9 v10 v11 v12 v13 v14 v15 v16 v17 v18 v19 v20 : Value), e = [v0, .pointer (some ⟨B, 0, none⟩), .slice none 0 0, .pointer (some ⟨W, 0, none⟩), v4, s.v, .int .i64 i, v7, v8, v9, v10, v11, v12, v13, v14, v15, v16, v17, v18, v19, v20] ∧ i ≤ N.ts.length ∧ acc ++ ((N.ts.drop i).flatMap tabB ++ (vertsB 0 0 N.vs ++ N.as.flatMap arcB)) = hdB ++ bodyB N ∧ AppB hA.size h' s acc ∧ Ext hA h'
def DeI1 (B W C A Bn : Nat) (hA : Heap) (u : Sl) (k : Nat) (N : NetD) (t : Tab) (h0 : Heap) (e : List Value) (h' : Heap) : Prop :=
  ∃ (i : Nat) (s : Sl) (acc : List Nat) (v0 v4 v9 v10 v11 v12 v13 v14 v15 v16 v17 v18 v19 v20 : Value), e = [v0, .pointer (some ⟨B, 0, none⟩), .slice none 0 0, .pointer (some ⟨W, 0, none⟩), v4, s.v, .int .i64 k, .pointer (some ⟨C, 0, none⟩), .int .i64 i, v9, v10, v11, v12, v13, v14, v15, v16, v17, v18, v19, v20] ∧ i ≤ u.n ∧ acc ++ ((t.cs.drop i).flatMap (fun c => encU (priceU c)) ++ ((N.ts.drop (k + 1)).flatMap tabB ++ (vertsB 0 0 N.vs ++ N.as.flatMap arcB))) = hdB ++ bodyB N ∧ AppB hA.size h' s acc ∧ Ext hA h' ∧ Blk h' C #[.int .i64 A, .int .i64 Bn, u.v] ∧ s.b ≠ C

theorem de_types (P : DocEn Y) {N : NetD} (ok : NetOK N) {hA : Heap} {B W : Nat} {sv sa st s : Sl} {acc : List Nat} (rW : Blk hA W #[.slice none 0 0, .int .i64 0]) (rB : Blk hA B #[sv.v, sa.v, st.v]) (r : NetH hA sv sa st N) (x : Ext hA h) (a : AppB hA.size h s acc) (hacc : acc ++ (N.ts.flatMap tabB ++ (vertsB 0 0 N.vs ++ N.as.flatMap arcB)) = hdB ++ bodyB N)
    {R : Value → Heap → Prop} (hr : EncOutD Y W hA N R)
    (v0 v4 v6 v7 v8 v9 v10 v11 v12 v13 v14 v15 v16 v17 v18 v19 v20 : Value) : Stmt.wp Y S_rref6_Encode.body.rest.rest.rest.rest.rest.rest.rest (resP S_rref6_Encode.res R) (fun _ _ _ => False) (resP S_rref6_Encode.res R)
      [v0, .pointer (some ⟨B, 0, none⟩), .slice none 0 0, .pointer (some ⟨W, 0, none⟩), v4, s.v, v6, v7, v8, v9, v10, v11, v12, v13, v14, v15, v16, v17, v18, v19, v20] h := by
  obtain ⟨bf1, bf2⟩ := body_facts ok
  have la := r.rt.len
  have ba := ok.bt
  simp [S_rref6_Encode, Stmt.rest]
  refine wp_loop' (DeI2 B W hA N h) (fun e _ => N.ts.length - argI e 6) ⟨0, s, acc, _, _, _, _, _, _, _, _, _, _, _, _, _, _, _, _, rfl, by omega, by simpa using hacc, a, x⟩ ?_
  rintro e h1 ⟨i, s, acc, v0, v4, v7, v8, v9, v10, v11, v12, v13, v14, v15, v16, v17, v18, v19, v20, rfl, hi, hacc, a, x⟩
  by_cases c : i < st.n
  rotate_left
  · have c' : ¬ (i : Int) < st.n := by omega
    rw [List.drop_eq_nil_of_le (by omega)] at hacc
    simp at hacc
    have tt := de_verts P ok rW rB r x a (by simpa using hacc) hr v0 v4 (.int .i64 i) v7 v8 v9 v10 v11 v12 v13 v14 v15 (.bool false) v17 v18 v19 v20
    simp [S_rref6_Encode, Stmt.rest] at tt
    simp [c', rB.sk, x]
    exact tt
  have c' : (i : Int) < st.n := by omega
  have hi' : i < N.ts.length := by omega
  have w1 : IntKind.i64.wrap ((i : Int) + 1) = (i : Int) + 1 := i64_wrap (by omega)
  have hd : (N.ts.drop i).flatMap tabB = tabB (nthB N.ts i) ++ (N.ts.drop (i + 1)).flatMap tabB := by rw [List.drop_eq_getElem_cons hi', nthB_eq hi']; rfl
  rw [hd] at hacc
  obtain ⟨f, hf⟩ : ∃ f, f = nthB N.ts i := ⟨_, rfl⟩
  have hmem : f ∈ N.ts := by rw [hf, nthB_eq hi']; exact List.getElem_mem hi'
  obtain ⟨a1, a2, b1, b2, hc1, hc2, hg⟩ := tabs_ok ok hmem
  have hfl := congrArg List.length hacc
  rw [← hf] at hacc hfl
  simp only [tabB, List.length_append] at hfl bf1
  obtain ⟨A, hA1⟩ : ∃ A : Nat, f.i = A := ⟨f.i.toNat, by omega⟩
  obtain ⟨Bn, hB1⟩ : ∃ A : Nat, f.o = A := ⟨f.o.toNat, by omega⟩
  have w2 : IntKind.u64.wrap (A : Int) = (A : Int) := u64_wrap (by omega)
  have w3 : IntKind.u64.wrap (Bn : Int) = (Bn : Int) := u64_wrap (by omega)
  have e1 : tabB f = encU A ++ encU Bn ++ f.cs.flatMap (fun c => encU (priceU c)) := by simp [tabB, hA1, hB1]
  rw [hA1, hB1] at hfl
  simp only [Int.toNat_natCast] at hfl
  rw [e1] at hacc
  obtain ⟨u, rr, _, ru⟩ := r.rt.rd hi'
  replace rr := x.rd rr (fun h => h)
  rw [← hf] at rr ru
  rw [hA1, hB1] at rr
  have lu := ru.len
  simp [rB.sk, x, c', sem_idxa r.rt.ok, rr]
  refine ef_new_box ?_
  intro C h2 g2 C2 e2
  simp
  refine ef_store_box C2 rfl rfl (by simp) ?_
  intro h3 C3 m3
  have e13 := e2.toExt m3 g2
  have cne : s.b ≠ C := by have := a.lt; omega
  have a3 := a.ext e13
  have x3 := x.trans e13
  simp [C3.hc, w2, w3]
  refine wruint_spec P.Uint (v := A) (by omega) ?_
  intro h4 s4 e4 o4 hs4
  have C4 := C3.ext e4
  simp [C4.hc]
  refine ef_appendA (a3.ext e4) (o4.rowB (lt_mem (encU_lt (by omega)))) encU_ne (by rw [List.length_append]; omega) ?_
  intro s5 h5 a5 m5 hs5
  have C5 := m5.blk C4 (Ne.symm cne)
  have x5 : Ext hA h5 := Mod.ext (x3.trans e4) m5 (fun j hj => by rw [hj]; exact a.lo)
  have z3 := e13.size
  have z4 := e4.size
  have lC := C3.lt
  have cne5 : s5.b ≠ C := by rcases hs5 with q | q <;> omega
  simp [C5.hc]
  refine wruint_spec P.Uint (v := Bn) (by omega) ?_
  intro h6 s6 e6 o6 hs6
  have C6 := C5.ext e6
  simp [C6.hc]
  refine ef_appendA (a5.ext e6) (o6.rowB (lt_mem (encU_lt (by omega)))) encU_ne (by simp only [List.length_append]; omega) ?_
  intro s7 h7 a7 m7 hs7
  have C7 := m7.blk C6 (Ne.symm cne5)
  have x7 : Ext hA h7 := Mod.ext (x5.trans e6) m7 (fun j hj => by rw [hj]; exact a5.lo)
  simp
  have z5 := m5.size
  have z6 := e6.size
  have z7 := m7.size
  have cne7 : s7.b ≠ C := by rcases hs7 with q | q <;> omega
  have hacc7 : acc ++ encU A ++ encU Bn ++ (f.cs.flatMap (fun c => encU (priceU c)) ++ ((N.ts.drop (i + 1)).flatMap tabB ++ (vertsB 0 0 N.vs ++ N.as.flatMap arcB))) = hdB ++ bodyB N := by rw [← hacc]; simp
  clear hacc hfl
  refine wp_loop' (DeI1 B W C A Bn hA u i N f h7) (fun e _ => u.n - argI e 8) ⟨0, s7, acc ++ encU A ++ encU Bn, _, _, _, _, _, _, _, _, _, _, _, _, _, _, rfl, by omega, by simpa using hacc7, a7, x7, C7, cne7⟩ ?_
  rintro e g1 ⟨j, s, acc, v0, v4, v9, v10, v11, v12, v13, v14, v15, v16, v17, v18, v19, v20, rfl, hj, hacc, a, x, Cg, sC⟩
  by_cases d : j < u.n
  rotate_left
  · have d' : ¬ (j : Int) < u.n := by omega
    rw [List.drop_eq_nil_of_le (by omega)] at hacc
    simp [Cg.hc, d', w1]
    refine ⟨⟨i + 1, s, acc, _, _, _, _, _, _, _, _, _, _, _, _, _, _, _, _, rfl, by omega, by rw [← hacc]; simp, a, x⟩, by simp [argI]; omega⟩
  have d' : (j : Int) < u.n := by omega
  have hj' : j < f.cs.length := by omega
  have w4 : IntKind.i64.wrap ((j : Int) + 1) = (j : Int) + 1 := i64_wrap (by omega)
  have hcj : weightB (nthI f.cs j) = true := hg _ (by rw [show nthI f.cs j = f.cs[j] by simp [nthI, hj']]; exact List.getElem_mem hj')
  have hd : (f.cs.drop j).flatMap (fun c => encU (priceU c)) = encU (priceU (nthI f.cs j)) ++ (f.cs.drop (j + 1)).flatMap (fun c => encU (priceU c)) := by rw [List.drop_eq_getElem_cons hj', show nthI f.cs j = f.cs[j] by simp [nthI, hj']]; rfl
  rw [hd] at hacc
  have hfl := congrArg List.length hacc
  simp only [List.length_append] at hfl
  simp [Cg.hc, d', sem_idxa ru.ok, ru.sk, x, hj']
  refine dprice_spec P hcj ?_
  intro g2 s8 e8 o8 hs8
  simp
  refine ef_appendA (a.ext e8) (o8.rowB (lt_mem (encU_lt (by have := priceU_le hcj; omega)))) encU_ne (by simp only [List.length_append]; omega) ?_
  intro s9 g3 a9 m9 hs9
  have x9 : Ext hA g3 := Mod.ext (x.trans e8) m9 (fun j hj => by rw [hj]; exact a.lo)
  have y8 := e8.size
  have lCg := Cg.lt
  simp [w4]
  refine ⟨⟨j + 1, s9, acc ++ encU (priceU (nthI f.cs j)), _, _, _, _, _, _, _, _, _, _, _, _, _, _, rfl, by omega, by rw [← hacc]; simp, a9, x9, m9.blk (Cg.ext e8) (Ne.symm sC), by have := hs9; omega⟩, by simp [argI]; omega⟩

theorem dencode_spec (P : DocEn Y) (RN : RefNet Y) (T : RefCk Y) {N : NetD} {sv sa st : Sl} (r : NetH h sv sa st N) {R : Value → Heap → Prop}
    (hr : ∀ h' s v, Ext h h' → RowB h' s (encR N).1 → s.sp = none → ((encR N).1 ≠ [] → h.size ≤ s.b ∧ s.b < h'.size) → FWr h.size h' (encR N).2 v → R (.tuple #[s.v, v]) h') : CallP Y F.rref6_Encode [netV sv sa st] h R := by
  refine .of_has P.Encode rfl ?_
  have lv := r.rv.len
  have la := r.ra.len
  have lt := r.rt.len
  simp [S_rref6_Encode, FnS.wp, netV]
  refine ef_new_box ?_
  intro B h1 g1 B1 e1
  have z1 := e1.size
  simp
  refine ef_new_box ?_
  intro W h2 g2 W2 e2
  have z2 := e2.size
  have B2 := B1.ext e2
  simp [rd_blk B2]
  refine rchecknet_spec RN T (r.ext (e1.trans e2)) ?_
  intro h3 v e3 hv
  have z3 := e3.size
  obtain ⟨s5, rfl⟩ := hv.here.shape
  simp
  refine ef_new_box ?_
  intro V h4 g4 V4 e4
  simp
  refine ef_store_box V4 rfl rfl (by simp) ?_
  intro h5 V5 m5
  have e35 := e4.toExt m5 g4
  have z5 := e35.size
  have e25 := e3.trans e35
  have e05 := (e1.trans e2).trans e25
  have W5 := W2.ext e25
  have B5 := B2.ext e25
  have lW := W2.lt
  simp [V5.hc]
  by_cases hn : (netW N).2 = 0
  rotate_left
  · have he : encR N = ([], netW N) := by unfold encR; rw [if_pos hn]
    rw [he] at hr
    simp [hn, rd_blk V5]
    refine ef_store_box W5 rfl rfl (by simp) ?_
    intro h6 W6 m6
    simp
    refine resP_nx rfl W6 rfl ?_
    refine hr h6 Sl.nil _ (Mod.ext e05 m6 (fun j hj => by omega)) ⟨Sl.nil_ok, rfl, fun i hi => by simp at hi, fun i hi => by simp at hi⟩ rfl (fun h => absurd rfl h) (((hv.ext e35).step m6 (fun j hj => by omega)).mono (by omega))
  have ok := netOK_iff.1 hn
  obtain ⟨bf1, bf2⟩ := body_facts ok
  have b1 := ok.bt
  have b2 := ok.bv
  have b3 := ok.ba
  have r5 := r.ext e05
  have hr5 : EncOutD Y W h5 N R := by
    intro h' s v x q1 q2 q3 q4
    exact hr h' s v (Mod.ext e05 x (fun j hj => by omega)) q1 q2 (fun hh => by have := q3 hh; omega) (q4.mono (by omega))
  have wt : IntKind.u64.wrap (N.ts.length : Int) = (N.ts.length : Int) := u64_wrap (by omega)
  have wv : IntKind.u64.wrap (N.vs.length : Int) = (N.vs.length : Int) := u64_wrap (by omega)
  have wa : IntKind.u64.wrap (N.as.length : Int) = (N.as.length : Int) := u64_wrap (by omega)
  have hbl : bodyB N = encU N.ts.length ++ (encU N.vs.length ++ (encU N.as.length ++ (N.ts.flatMap tabB ++ (vertsB 0 0 N.vs ++ N.as.flatMap arcB)))) := by simp [bodyB, lensB, encL]
  have hfl := congrArg List.length hbl
  simp only [List.length_append] at hfl bf1
  simp [hn, ef_bslice4]
  intro t
  refine ef_b2b_laid (l := hdB) (by decide) ?_
  intro h6 e6 a6
  simp [B5.sk, e6, ← lt, wt]
  refine wruint_spec P.Uint (v := N.ts.length) (by omega) ?_
  intro h7 s7 e7 o7 hs7
  simp
  refine ef_appendA (s0 := Sl.at h5.size hdB.length hdB.length) (a6.ext e7) (o7.rowB (lt_mem (encU_lt (by omega)))) encU_ne (by rw [List.length_append]; omega) ?_
  intro s8 h8 a8 m8 hs8
  have x8 : Ext h5 h8 := Mod.ext (e6.trans e7) m8 (fun j hj => by rw [hj]; exact a6.lo)
  simp [B5.sk, x8, ← lv, wv]
  refine wruint_spec P.Uint (v := N.vs.length) (by omega) ?_
  intro h9 s9 e9 o9 hs9
  simp
  refine ef_appendA (a8.ext e9) (o9.rowB (lt_mem (encU_lt (by omega)))) encU_ne (by simp only [List.length_append]; omega) ?_
  intro s10 h10 a10 m10 hs10
  have x10 : Ext h5 h10 := Mod.ext (x8.trans e9) m10 (fun j hj => by rw [hj]; exact a8.lo)
  simp [B5.sk, x10, ← la, wa]
  refine wruint_spec P.Uint (v := N.as.length) (by omega) ?_
  intro h11 s11 e11 o11 hs11
  simp
  refine ef_appendA (a10.ext e11) (o11.rowB (lt_mem (encU_lt (by omega)))) encU_ne (by simp only [List.length_append]; omega) ?_
  intro s12 h12 a12 m12 hs12
  have x12 : Ext h5 h12 := Mod.ext (x10.trans e11) m12 (fun j hj => by rw [hj]; exact a10.lo)
  have tt := de_types P ok W5 B5 r5 x12 a12 (by rw [hbl]; simp) hr5 (.agg #[sv.v, sa.v, st.v]) (.pointer (some ⟨V, 0, none⟩)) undef undef undef undef undef undef undef undef undef (.bool false) undef undef undef undef undef
  simp [S_rref6_Encode, Stmt.rest] at tt
  simp
  exact tt
end
end Go.Rm

/- Nets in bytes: the few words of Hex and Unhex that the known net needs. -/
set_option linter.unusedSimpArgs false
set_option linter.unusedVariables false
namespace Go.Rm

def digV (c : Nat) : Int := if 48 ≤ c ∧ c ≤ 57 then (c : Int) - 48 else if 97 ≤ c ∧ c ≤ 102 then (c : Int) - 87 else -1

section
variable {Y : Sys} {h h' : Heap}

structure FileHx (Y : Sys) : Prop where
  Hex : Y.Has F.file_Hex S_file_Hex
  Unhex : Y.Has F.file_Unhex S_file_Unhex
  digit : Y.Has F.file_digit S_file_digit
  fault : Y.Has F.file_fault S_file_fault

theorem fdigit_spec (H : Y.Has F.file_digit S_file_digit) {c : Nat} {v : Int} (hv : (.int .u8 (c : Int) : Value) = .int .u8 v) (hc : c < 256) {R : Value → Heap → Prop} (hr : R (.int .i64 (digV c)) h) : CallP Y F.file_digit [.int .u8 v] h R := by
  rw [← hv]
  refine .of_has H rfl ?_
  unfold digV at hr
  by_cases a : 48 ≤ c ∧ c ≤ 57
  · rw [if_pos a] at hr
    have a1 : (48 : Int) ≤ c := by omega
    have a2 : (c : Int) ≤ 57 := by omega
    have w1 : IntKind.u8.wrap ((c : Int) - 48) = (c : Int) - 48 := u8_wrap (by omega)
    have w2 : IntKind.i64.wrap ((c : Int) - 48) = (c : Int) - 48 := i64_wrap (by omega)
    simp [S_file_digit, FnS.wp, a1, a2, w1, w2, hr]
  rw [if_neg a] at hr
  by_cases b : 97 ≤ c ∧ c ≤ 102
  · rw [if_pos b] at hr
    have a1 : (48 : Int) ≤ c := by omega
    have a2 : ¬ (c : Int) ≤ 57 := by omega
    have a3 : (97 : Int) ≤ c := by omega
    have a4 : (c : Int) ≤ 102 := by omega
    have w1 : IntKind.u8.wrap ((c : Int) - 97) = (c : Int) - 97 := u8_wrap (by omega)
    have w2 : IntKind.i64.wrap ((c : Int) - 97) = (c : Int) - 97 := i64_wrap (by omega)
    have w3 : IntKind.i64.wrap ((c : Int) - 97 + 10) = (c : Int) - 87 := by rw [i64_wrap (by omega)]; omega
    simp [S_file_digit, FnS.wp, a1, a2, a3, a4, w1, w2, w3, hr]
  · rw [if_neg b] at hr
    by_cases a1 : (48 : Int) ≤ c
    · have a2 : ¬ (c : Int) ≤ 57 := by omega
      by_cases a3 : (97 : Int) ≤ c
      · have a4 : ¬ (c : Int) ≤ 102 := by omega
        simp [S_file_digit, FnS.wp, a1, a2, a3, a4, hr]
      · simp [S_file_digit, FnS.wp, a1, a2, a3, hr]
    · have a3 : ¬ (97 : Int) ≤ c := by omega
      simp [S_file_digit, FnS.wp, a1, a3, hr]

def UxI (s : ByteArray) (m : Nat) (h0 : Heap) (e : List Value) (h' : Heap) : Prop :=
  ∃ (i : Nat) (v4 v5 v6 v7 v8 v9 v10 v11 : Value), e = [.string s, .slice none 0 0, .nilIface, .int .i64 i, v4, v5, v6, v7, v8, v9, v10, v11] ∧ i ≤ m ∧ h' = h0
def UxJ (s : ByteArray) (b k : Nat) (h0 : Heap) (e : List Value) (h' : Heap) : Prop :=
  ∃ (i : Nat) (v3 v5 v6 v7 v8 v11 : Value), e = [.string s, .slice none 0 0, .nilIface, v3, .slice (some ⟨b, 0, none⟩) 2 2, v5, v6, v7, v8, .int .i64 2, .int .i64 i, v11] ∧ i ≤ 2 ∧ Blk h' b #[.int .u8 (if 0 < i then 10 else 0), .int .u8 (if 1 < i then 255 else 0)] ∧ Ext h0 h'

theorem unhex3_spec (X : FileHx Y) {R : Value → Heap → Prop} (hr : ∀ h' v, Ext h h' → FErr Y h.size h' (atW wFile 2 2) v → (∃ t u, v = .iface t u) → R (.tuple #[.slice none 0 0, v]) h') :
    CallP Y F.file_Unhex [.string ⟨#[48, 97, 102]⟩] h R := by
  refine .of_has X.Unhex rfl ?_
  have hs : (ByteArray.size ⟨#[48, 97, 102]⟩ : Nat) = 3 := rfl
  simp [S_file_Unhex, FnS.wp]
  refine wp_loop' (UxI ⟨#[48, 97, 102]⟩ 3 h) (fun e _ => 3 - argI e 3) ⟨0, _, _, _, _, _, _, _, _, rfl, by omega, rfl⟩ ?_
  rintro e h1 ⟨i, v4, v5, v6, v7, v8, v9, v10, v11, rfl, hi, rfl⟩
  have x0 : IOp.sem Y h1 .idxS [.string ⟨#[48, 97, 102]⟩, .int .i64 0] = some (.int .u8 48) := rfl
  have x1 : IOp.sem Y h1 .idxS [.string ⟨#[48, 97, 102]⟩, .int .i64 1] = some (.int .u8 97) := rfl
  have x2 : IOp.sem Y h1 .idxS [.string ⟨#[48, 97, 102]⟩, .int .i64 2] = some (.int .u8 102) := rfl
  match i, hi with
  | 0, _ =>
    simp [hs, x0]
    refine fdigit_spec X.digit (c := 48) rfl (by decide) ?_
    have w1 : IntKind.i64.wrap ((0 : Int) + 1) = 1 := rfl
    simp [digV]
    exact ⟨⟨1, _, _, _, _, _, _, _, _, rfl, by omega, rfl⟩, by simp [argI] <;> decide⟩
  | 1, _ =>
    simp [hs, x1]
    refine fdigit_spec X.digit (c := 97) rfl (by decide) ?_
    have w1 : IntKind.i64.wrap ((1 : Int) + 1) = 2 := rfl
    simp [digV, w1]
    exact ⟨⟨2, _, _, _, _, _, _, _, _, rfl, by omega, rfl⟩, by simp [argI] <;> decide⟩
  | 2, _ =>
    simp [hs, x2]
    refine fdigit_spec X.digit (c := 102) rfl (by decide) ?_
    have w1 : IntKind.i64.wrap ((2 : Int) + 1) = 3 := rfl
    simp [digV, w1]
    exact ⟨⟨3, _, _, _, _, _, _, _, _, rfl, by omega, rfl⟩, by simp [argI] <;> decide⟩
  | 3, _ =>
    have r1 : ibin .rem .i64 3 .i64 2 = some (.int .i64 1) := rfl
    have w1 : IntKind.i64.wrap ((3 : Int) - 1) = 2 := rfl
    simp [hs, r1, w1]
    refine ffault_spec X.fault (by decide) ?_
    intro v h2 e2 hv hi
    simp
    exact hr h2 v e2 hv hi

theorem unhex4_spec (X : FileHx Y) {R : Value → Heap → Prop} (hr : ∀ h' b, Ext h h' → h.size ≤ b → Blk h' b #[.int .u8 10, .int .u8 255] → R (.tuple #[.slice (some ⟨b, 0, none⟩) 2 2, .nilIface]) h') :
    CallP Y F.file_Unhex [.string ⟨#[48, 97, 102, 102]⟩] h R := by
  refine .of_has X.Unhex rfl ?_
  have hs : (ByteArray.size ⟨#[48, 97, 102, 102]⟩ : Nat) = 4 := rfl
  simp [S_file_Unhex, FnS.wp]
  refine wp_loop' (UxI ⟨#[48, 97, 102, 102]⟩ 4 h) (fun e _ => 4 - argI e 3) ⟨0, _, _, _, _, _, _, _, _, rfl, by omega, rfl⟩ ?_
  rintro e h1 ⟨i, v4, v5, v6, v7, v8, v9, v10, v11, rfl, hi, rfl⟩
  have x0 : ∀ h, IOp.sem Y h .idxS [.string ⟨#[48, 97, 102, 102]⟩, .int .i64 0] = some (.int .u8 48) := fun _ => rfl
  have x1 : ∀ h, IOp.sem Y h .idxS [.string ⟨#[48, 97, 102, 102]⟩, .int .i64 1] = some (.int .u8 97) := fun _ => rfl
  have x2 : ∀ h, IOp.sem Y h .idxS [.string ⟨#[48, 97, 102, 102]⟩, .int .i64 2] = some (.int .u8 102) := fun _ => rfl
  have x3 : ∀ h, IOp.sem Y h .idxS [.string ⟨#[48, 97, 102, 102]⟩, .int .i64 3] = some (.int .u8 102) := fun _ => rfl
  have w1 : IntKind.i64.wrap ((0 : Int) + 1) = 1 := rfl
  have w2 : IntKind.i64.wrap ((1 : Int) + 1) = 2 := rfl
  have w3 : IntKind.i64.wrap ((2 : Int) + 1) = 3 := rfl
  have w4 : IntKind.i64.wrap ((3 : Int) + 1) = 4 := rfl
  match i, hi with
  | 0, _ =>
    simp [hs, x0]
    refine fdigit_spec X.digit (c := 48) rfl (by decide) ?_
    simp [digV]
    exact ⟨⟨1, _, _, _, _, _, _, _, _, rfl, by omega, rfl⟩, by simp [argI] <;> decide⟩
  | 1, _ =>
    simp [hs, x1]
    refine fdigit_spec X.digit (c := 97) rfl (by decide) ?_
    simp [digV, w2]
    exact ⟨⟨2, _, _, _, _, _, _, _, _, rfl, by omega, rfl⟩, by simp [argI] <;> decide⟩
  | 2, _ =>
    simp [hs, x2]
    refine fdigit_spec X.digit (c := 102) rfl (by decide) ?_
    simp [digV, w3]
    exact ⟨⟨3, _, _, _, _, _, _, _, _, rfl, by omega, rfl⟩, by simp [argI] <;> decide⟩
  | 3, _ =>
    simp [hs, x3]
    refine fdigit_spec X.digit (c := 102) rfl (by decide) ?_
    simp [digV, w4]
    exact ⟨⟨4, _, _, _, _, _, _, _, _, rfl, by omega, rfl⟩, by simp [argI] <;> decide⟩
  | 4, _ =>
    have r1 : ibin .rem .i64 4 .i64 2 = some (.int .i64 0) := rfl
    have r2 : ibin .quo .i64 4 .i64 2 = some (.int .i64 2) := rfl
    simp [hs, r1, r2, ef_mkslice, zeros_one]
    intro t
    have B2 : Blk (h1.push (.cells (Array.replicate 2 (.int .u8 0)) t)) h1.size #[.int .u8 0, .int .u8 0] := Blk.new
    have e2 : Ext h1 (h1.push (.cells (Array.replicate 2 (.int .u8 0)) t)) := Mod.push
    generalize h1.push (.cells (Array.replicate 2 (.int .u8 0)) t) = h2 at *
    refine wp_loop' (UxJ ⟨#[48, 97, 102, 102]⟩ h1.size 2 h1) (fun e _ => 2 - argI e 10) ⟨0, _, _, _, _, _, _, rfl, by omega, B2, e2⟩ ?_
    rintro e h3 ⟨j, v3, v5, v6, v7, v8, v11, rfl, hj, B3, e3⟩
    match j, hj with
    | 0, _ =>
      have ix : IOp.sem Y h3 (.idxa 1) [.slice (some ⟨h1.size, 0, none⟩) 2 2, .int .i64 0] = some (.pointer (some ⟨h1.size, 0, none⟩)) := rfl
      have q1 : ibin .shl .i64 0 .i64 4 = some (.int .i64 0) := rfl
      have q2 : ibin .or .i64 0 .i64 10 = some (.int .i64 10) := rfl
      have q3 : IntKind.u8.wrap 10 = 10 := rfl
      have q4 : IntKind.i64.wrap 0 = 0 := rfl
      have q5 : IntKind.i64.wrap 1 = 1 := rfl
      simp [x0, x1, q4, q5]
      refine fdigit_spec X.digit (c := 48) rfl (by decide) ?_
      simp [digV, q1]
      refine fdigit_spec X.digit (c := 97) rfl (by decide) ?_
      simp [digV, q4, q2, q3, ix]
      refine stB (o := 0) B3 (by simp) ?_
      intro h4 B4 m4
      simp
      exact ⟨⟨1, _, _, _, _, _, _, rfl, by omega, by simpa using B4, Mod.ext e3 m4 (fun j hj => by omega)⟩, by simp [argI] <;> decide⟩
    | 1, _ =>
      have ix : IOp.sem Y h3 (.idxa 1) [.slice (some ⟨h1.size, 0, none⟩) 2 2, .int .i64 1] = some (.pointer (some ⟨h1.size, 1, none⟩)) := rfl
      have q1 : ibin .shl .i64 15 .i64 4 = some (.int .i64 240) := rfl
      have q2 : ibin .or .i64 240 .i64 15 = some (.int .i64 255) := rfl
      have q3 : IntKind.u8.wrap 255 = 255 := rfl
      have q4 : IntKind.i64.wrap 2 = 2 := rfl
      have q5 : IntKind.i64.wrap 240 = 240 := rfl
      have q6 : IntKind.i64.wrap 3 = 3 := rfl
      have q7 : IntKind.i64.wrap (15 * 2 ^ min 4 IntKind.i64.bits) = 240 := rfl
      simp [q4, q6, w3, x2, x3]
      refine fdigit_spec X.digit (c := 102) rfl (by decide) ?_
      simp [digV, q1]
      refine fdigit_spec X.digit (c := 102) rfl (by decide) ?_
      simp [digV, q7, q2, q3, ix]
      refine stB (o := 1) B3 (by simp) ?_
      intro h4 B4 m4
      simp [w2]
      exact ⟨⟨2, _, _, _, _, _, _, rfl, by omega, by simpa using B4, Mod.ext e3 m4 (fun j hj => by omega)⟩, by simp [argI] <;> decide⟩
    | 2, _ =>
      simp
      exact hr h3 h1.size e3 (Nat.le_refl _) (by simpa using B3)

def HxI (b : Nat) (h0 : Heap) (e : List Value) (h' : Heap) : Prop :=
  ∃ (i : Nat) (s : Sl) (v3 v7 : Value), e = [.slice (some ⟨b, 0, none⟩) 2 2, .string ⟨#[]⟩, s.v, v3, .slice (some ⟨b, 0, none⟩) 2 2, .int .i64 2, .int .i64 i, v7] ∧ i ≤ 2 ∧ AppB h0.size h' s ([48, 97, 102, 102].take (2 * i)) ∧ Ext h0 h'

theorem hex2_spec (X : FileHx Y) {b : Nat} (B : Blk h b #[.int .u8 10, .int .u8 255]) {R : Value → Heap → Prop} (hr : ∀ h', Ext h h' → R (.string ⟨#[48, 97, 102, 102]⟩) h') :
    CallP Y F.file_Hex [.slice (some ⟨b, 0, none⟩) 2 2] h R := by
  refine .of_has X.Hex rfl ?_
  have w0 : IntKind.i64.wrap ((2 : Int) * 2) = 4 := rfl
  have w0' : IntKind.i64.wrap 4 = 4 := rfl
  simp [S_file_Hex, FnS.wp, w0, w0', ef_mkslice, zeros_one]
  intro t
  have B2 : Blk (h.push (.cells (Array.replicate 4 (.int .u8 0)) t)) h.size (Array.replicate 4 (.int .u8 0)) := Blk.new
  have e2 : Ext h (h.push (.cells (Array.replicate 4 (.int .u8 0)) t)) := Mod.push
  generalize h.push (.cells (Array.replicate 4 (.int .u8 0)) t) = h2 at *
  have o2 : Own h2 1 (Sl.at h.size 0 4) (bytesL []) := ⟨by simp [bytesL], .inr ⟨rfl, rfl, rfl, by simp, by simp, _, B2, by simp, by simp [bytesL]⟩⟩
  have a2 : AppB h.size h2 (Sl.at h.size 0 4) [] := ⟨o2.rowB (fun i hi => by simp at hi), rfl, rfl, Nat.le_refl _, B2.lt, .inl o2⟩
  refine wp_loop' (HxI b h) (fun e _ => 2 - argI e 6) ⟨0, Sl.at h.size 0 4, _, _, rfl, by omega, a2, e2⟩ ?_
  rintro e h3 ⟨i, s, v3, v7, rfl, hi, a3, e3⟩
  have B3 := B.ext e3
  have y0 : ∀ h, IOp.sem Y h .idxS [.string ⟨#[48, 49, 50, 51, 52, 53, 54, 55, 56, 57, 97, 98, 99, 100, 101, 102]⟩, .int .u8 0] = some (.int .u8 48) := fun _ => rfl
  have y10 : ∀ h, IOp.sem Y h .idxS [.string ⟨#[48, 49, 50, 51, 52, 53, 54, 55, 56, 57, 97, 98, 99, 100, 101, 102]⟩, .int .u8 10] = some (.int .u8 97) := fun _ => rfl
  have y15 : ∀ h, IOp.sem Y h .idxS [.string ⟨#[48, 49, 50, 51, 52, 53, 54, 55, 56, 57, 97, 98, 99, 100, 101, 102]⟩, .int .u8 15] = some (.int .u8 102) := fun _ => rfl
  match i, hi with
  | 0, _ =>
    have ix : IOp.sem Y h3 (.idxa 1) [.slice (some ⟨b, 0, none⟩) 2 2, .int .i64 0] = some (.pointer (some ⟨b, 0, none⟩)) := rfl
    have q1 : ∀ k, ibin .shr .u8 10 k 4 = some (.int .u8 0) := fun k => rfl
    have q2 : ibin .and .u8 10 .u8 15 = some (.int .u8 10) := rfl
    simp [ix, B3.hc, q1, q2, y0, y10, ef_bslice2]
    intro t
    have o4 : Own (h3.push (.cells (bytesL [48, 97]).toArray t)) 1 (Sl.at h3.size 2 2) (bytesL [48, 97]) := own_laid (bs := [48, 97]) (by decide)
    have e4 : Ext h3 (h3.push (.cells (bytesL [48, 97]).toArray t)) := Mod.push
    refine ef_appendA (s := Sl.at h3.size 2 2) (a3.ext e4) (o4.rowB (lt_mem (by decide))) (by decide) (by simp) ?_
    intro s5 h5 a5 m5 hs5
    simp
    exact ⟨⟨1, s5, _, _, rfl, by omega, a5, Mod.ext (e3.trans e4) m5 (fun j hj => by rw [hj]; exact a3.lo)⟩, by simp [argI] <;> decide⟩
  | 1, _ =>
    have ix : IOp.sem Y h3 (.idxa 1) [.slice (some ⟨b, 0, none⟩) 2 2, .int .i64 1] = some (.pointer (some ⟨b, 1, none⟩)) := rfl
    have q1 : ∀ k, ibin .shr .u8 255 k 4 = some (.int .u8 15) := fun k => rfl
    have q2 : ibin .and .u8 255 .u8 15 = some (.int .u8 15) := rfl
    have w2 : IntKind.i64.wrap ((1 : Int) + 1) = 2 := rfl
    simp [ix, B3.hc, q1, q2, y15, ef_bslice2]
    intro t
    have o4 : Own (h3.push (.cells (bytesL [102, 102]).toArray t)) 1 (Sl.at h3.size 2 2) (bytesL [102, 102]) := own_laid (bs := [102, 102]) (by decide)
    have e4 : Ext h3 (h3.push (.cells (bytesL [102, 102]).toArray t)) := Mod.push
    refine ef_appendA (s := Sl.at h3.size 2 2) (a3.ext e4) (o4.rowB (lt_mem (by decide))) (by decide) (by simp) ?_
    intro s5 h5 a5 m5 hs5
    simp [w2]
    exact ⟨⟨2, s5, _, _, rfl, by omega, a5, Mod.ext (e3.trans e4) m5 (fun j hj => by rw [hj]; exact a3.lo)⟩, by simp [argI] <;> decide⟩
  | 2, _ =>
    have q := sem_b2s (Y := Y) a3.row a3.sp
    simp [q]
    exact hr h3 e3
end
end Go.Rm
