/- The laws of numbers in bytes: WireNums, walked. -/
import Derived.Test.YtghpbaebbljppaaDoorRLaw4f
set_option linter.unusedSimpArgs false
set_option linter.unusedVariables false
namespace Go.Rm

theorem u64_of {h : Heap} {s : Sl} {f : Nat → Int} (hs : IntsAt h s .u64 f) (hf : ∀ i, i < s.n → IntKind.u64.min ≤ f i ∧ f i ≤ IntKind.u64.max) :
    IntsAt h s .u64 (fun i => (nth ((List.range s.n).map fun i => (f i).toNat) i : Int)) ∧ ((List.range s.n).map fun i => (f i).toNat).length = s.n ∧ ∀ x ∈ (List.range s.n).map (fun i => (f i).toNat), x < 2 ^ 64 := by
  have hf' : ∀ i, i < s.n → 0 ≤ f i ∧ f i ≤ 18446744073709551615 := fun i hi => by simpa [IntKind.min, IntKind.max, IntKind.signed, IntKind.bits] using hf i hi
  refine ⟨⟨hs.ok, fun i hi => ?_⟩, by simp, fun x hx => ?_⟩
  · have := hf' i hi
    rw [hs.val i hi]
    simp [nth, hi]
    omega
  · obtain ⟨i, hi, rfl⟩ := List.mem_map.1 hx
    have := hf' i (by simpa using hi)
    omega
theorem i64_of {h : Heap} {s : Sl} {f : Nat → Int} (hs : IntsAt h s .i64 f) (hf : ∀ i, i < s.n → IntKind.i64.min ≤ f i ∧ f i ≤ IntKind.i64.max) :
    IntsAt h s .i64 (nthI ((List.range s.n).map f)) ∧ ((List.range s.n).map f).length = s.n ∧ ∀ i, i < s.n → -9223372036854775808 ≤ nthI ((List.range s.n).map f) i ∧ nthI ((List.range s.n).map f) i ≤ 9223372036854775807 := by
  have hf' : ∀ i, i < s.n → -9223372036854775808 ≤ f i ∧ f i ≤ 9223372036854775807 := fun i hi => by simpa [IntKind.min, IntKind.max, IntKind.signed, IntKind.bits] using hf i hi
  refine ⟨⟨hs.ok, fun i hi => ?_⟩, by simp, fun i hi => ?_⟩
  · rw [hs.val i hi]
    simp [nthI, hi]
  · have := hf' i hi
    simpa [nthI, hi] using this

section
variable {Y : Sys} {h : Heap}

theorem RowB.take {s : Sl} {bs : List Nat} {k : Nat} (r : RowB h s bs) (hk : k ≤ bs.length) : RowB h { s with n := k } (bs.take k) := by
  have hl := r.len
  refine ⟨⟨fun h => by have := r.ok.nil h; simp; omega, by have := r.ok.le; simp; omega, r.ok.spot⟩, by simp; omega, fun i hi => ?_, fun i hi => ?_⟩
  · have hi' : i < k := by simp at hi; omega
    rw [nth_take hi']; exact r.val i (by omega)
  · have hi' : i < k := by simp at hi; omega
    rw [nth_take hi']; exact r.lt i (by omega)

def Nums1 (s t : Sl) (b n : Nat) (L : List Nat) (h0 : Heap) (e : List Value) (h' : Heap) : Prop :=
  ∃ (i : Nat) (s4 : Sl) (v6 v7 v8 v9 v10 v11 v12 v13 v14 v15 v16 v17 v18 v19 v20 v21 v22 v23 v24 v25 v26 v27 : Value),
    e = [s.v, t.v, .int .u16 b, .bool false, s4.v, .int .i64 i, v6, v7, v8, v9, v10, v11, v12, v13, v14, v15, v16, v17, v18, v19, v20, v21, v22, v23, v24, v25, v26, v27] ∧ i ≤ n ∧ Own h' 1 s4 (bytesL (encL (L.take i))) ∧ (s4.nl = true ∨ h0.size ≤ s4.b) ∧ Ext h0 h'
def Nums2 (s t : Sl) (b n m : Nat) (L : List Nat) (h0 : Heap) (e : List Value) (h' : Heap) : Prop :=
  ∃ (i : Nat) (s4 : Sl) (v5 v7 v8 v9 v10 v11 v12 v13 v14 v15 v16 v17 v18 v19 v20 v21 v22 v23 v24 v25 v26 v27 : Value),
    e = [s.v, t.v, .int .u16 b, .bool false, s4.v, v5, .int .i64 i, v7, v8, v9, v10, v11, v12, v13, v14, v15, v16, v17, v18, v19, v20, v21, v22, v23, v24, v25, v26, v27] ∧ i ≤ m ∧ Own h' 1 s4 (bytesL (encL (L.take (n + i)))) ∧ (s4.nl = true ∨ h0.size ≤ s4.b) ∧ Ext h0 h'
def Nums3 (s t s4 s7 : Sl) (b n p : Nat) (L : List Nat) (h0 : Heap) (e : List Value) (h' : Heap) : Prop :=
  ∃ (i : Nat) (v5 v6 v9 v10 v11 v12 v13 v14 v15 v16 v17 v18 v19 v20 v21 v22 v23 v24 v25 v26 v27 : Value),
    e = [s.v, t.v, .int .u16 b, .bool false, s4.v, v5, v6, .pointer (some ⟨p, 0, none⟩), .int .i64 i, v9, v10, v11, v12, v13, v14, v15, v16, v17, v18, v19, v20, v21, v22, v23, v24, v25, v26, v27] ∧ i ≤ n ∧ RdR h' p (encL L) (encL (L.take i)).length 0 s7 ∧ Ext h0 h'
def Nums4 (s t s4 s7 : Sl) (b n m p : Nat) (L : List Nat) (h0 : Heap) (e : List Value) (h' : Heap) : Prop :=
  ∃ (i : Nat) (v5 v6 v8 v10 v11 v12 v13 v14 v15 v16 v17 v18 v19 v20 v21 v22 v23 v24 v25 v26 v27 : Value),
    e = [s.v, t.v, .int .u16 b, .bool false, s4.v, v5, v6, .pointer (some ⟨p, 0, none⟩), v8, .int .i64 i, v10, v11, v12, v13, v14, v15, v16, v17, v18, v19, v20, v21, v22, v23, v24, v25, v26, v27] ∧ i ≤ m ∧ RdR h' p (encL L) (encL (L.take (n + i))).length 0 s7 ∧ Ext h0 h'
def Nums5 (s t s4 s10 : Sl) (b k q : Nat) (L : List Nat) (h0 : Heap) (e : List Value) (h' : Heap) : Prop :=
  ∃ (i at' : Nat) (bad : Int) (v5 v6 v7 v8 v9 v12 v13 v14 v15 v16 v17 v18 v19 v20 v21 v22 v23 v24 v25 v26 v27 : Value),
    e = [s.v, t.v, .int .u16 b, .bool false, s4.v, v5, v6, v7, v8, v9, .pointer (some ⟨q, 0, none⟩), .int .i64 i, v12, v13, v14, v15, v16, v17, v18, v19, v20, v21, v22, v23, v24, v25, v26, v27] ∧ i ≤ L.length ∧ RdR h' q ((encL L).take k) at' bad s10 ∧ ((bad = 0 ∧ at' = (encL (L.take i)).length ∧ at' ≤ k) ∨ bad = 3) ∧ Ext h0 h'

theorem nums_spec (HM : Y.Has F.rlaw4_WireNums S_rlaw4_WireNums) (HK : Y.Has F.rlaw4_known S_rlaw4_known) (W : WireFns Y) (RW : RefWire Y) (HT : Y.Has F.rlaw1_Tells S_rlaw1_Tells) (E : ErrSys Y) (hg : hc h E.gb 0 = some E.hv)
    {s t : Sl} {U : List Nat} {I : List Int} (aU : IntsAt h s .u64 fun i => (nth U i : Int)) (hU : U.length = s.n) (bU : ∀ x ∈ U, x < 2 ^ 64)
    (aI : IntsAt h t .i64 (nthI I)) (hI : I.length = t.n) (bI : ∀ i, i < t.n → -9223372036854775808 ≤ nthI I i ∧ nthI I i ≤ 9223372036854775807) {b : Nat} (hb : b < 65536)
    {R : Value → Heap → Prop} (hr : ∀ h', Ext h h' → R (.bool true) h') :
    CallP Y F.rlaw4_WireNums [s.v, t.v, .int .u16 b] h R := by
  obtain ⟨L, hL⟩ : ∃ L, L = U ++ I.map zz := ⟨_, rfl⟩
  have hLl : L.length = s.n + t.n := by rw [hL]; simp [hU, hI]
  have nU : ∀ i, i < s.n → nth L i = nth U i := fun i hi => by
    rw [hL]; simp [nth, List.getElem?_append_left (by omega : i < U.length)]
  have nI : ∀ i, i < t.n → nth L (s.n + i) = zz (nthI I i) := fun i hi => by
    rw [nth_eq (by omega)]
    subst hL
    rw [List.getElem_append_right (by omega)]
    simp [nthI, hU, (by omega : i < I.length)]
  have bL : ∀ x ∈ L, x < 2 ^ 64 := by
    intro x hx
    rw [hL] at hx
    rcases List.mem_append.1 hx with g | g
    · exact bU x g
    · obtain ⟨j, hj, rfl⟩ := List.mem_map.1 g
      obtain ⟨i, hi, rfl⟩ := List.getElem_of_mem hj
      have := bI i (by omega)
      simp [nthI, hi] at this
      exact zz_lt this
  have uL : ∀ i, i < s.n → nth U i < 2 ^ 64 := fun i hi => by rw [nth_eq (by omega)]; exact bU _ (List.getElem_mem _)
  clear hL
  refine .of_has HM rfl ?_
  simp [S_rlaw4_WireNums, FnS.wp]
  refine known4_spec HK W RW HT E hg ?_
  intro h1 e1
  simp
  by_cases big : 30 < s.n
  · have : (30 : Int) < s.n := by omega
    have this' : ¬ (s.n : Int) ≤ 30 := by omega
    simp [this, this']
    exact hr _ e1
  have b1 : ¬ (30 : Int) < s.n := by omega
  have b1' : (s.n : Int) ≤ 30 := by omega
  by_cases big2 : 30 < t.n
  · have : (30 : Int) < t.n := by omega
    simp [b1, b1', this]
    exact hr _ e1
  have b2 : ¬ (30 : Int) < t.n := by omega
  have hlen := encL_len bL
  have hlenT : ∀ i, (encL (L.take i)).length ≤ 600 := fun i => by
    have := encL_len (L := L.take i) (fun x hx => bL x (List.mem_of_mem_take hx))
    have h2 : (L.take i).length ≤ L.length := by rw [List.length_take]; omega
    omega
  simp [b1, b1', b2]
  refine wp_loop' (Nums1 s t b s.n L h) (fun e _ => s.n - argI e 5) ⟨0, Sl.nil, _, _, _, _, _, _, _, _, _, _, _, _, _, _, _, _, _, _, _, _, _, _, rfl, by omega, Own.nil, .inl rfl, e1⟩ ?_
  rintro e h2 ⟨i, s4, v6, v7, v8, v9, v10, v11, v12, v13, v14, v15, v16, v17, v18, v19, v20, v21, v22, v23, v24, v25, v26, v27, rfl, hi, o2, hs2, x2⟩
  by_cases c : i < s.n
  · have c' : (i : Int) < s.n := by omega
    have w1 : IntKind.i64.wrap ((i : Int) + 1) = (i : Int) + 1 := i64_wrap (by omega)
    have hx := uL i c
    have sn := encL_snoc (L := L) (i := i) (by omega)
    rw [nU i c] at sn
    have n2 := o2.1
    have l2 := hlenT i
    have le2 := enc_len hx
    have cell2 := (aU.ext x2).val i c
    simp [c', sem_idxa aU.ok, cell2]
    refine wuint_spec W.Uint hx ?_
    intro h3 s3 e3 o3 _
    have x3 := x2.trans e3
    have r3 := o3.rowB (lt_mem (encU_lt hx))
    have cell3 := (aU.ext x3).val i c
    simp [sem_idxa aU.ok, cell3, sem_b2s r3 o3.sp]
    refine wruint_spec RW.Uint hx ?_
    intro h4 s5 e4 o4 _
    have x4 := x3.trans e4
    have r4 := o4.rowB (lt_mem (encU_lt hx))
    have r34 := r3.ext e4
    have cell4 := (aU.ext x4).val i c
    simp [sem_b2s r34 o3.sp, sem_b2s r4 o4.sp, sb_ne (encU_lt hx) (encU_lt hx), sem_idxa aU.ok, c', cell4]
    refine wuint_spec W.Uint hx ?_
    intro h5 s6 e5 o5 _
    have r5 := o5.rowB (lt_mem (encU_lt hx))
    have n5 := r5.len
    have o25 := o2.mod ((e3.trans e4).trans e5) (fun _ h => h)
    have x5 := x4.trans e5
    simp
    refine ef_appendB r5 o25 (by simp at n2; omega) hs2 x5 ?_
    intro s8 h8 o8 hb8 e8 _
    rw [← sn] at o8
    simp [w1]
    exact ⟨⟨i + 1, s8, _, _, _, _, _, _, _, _, _, _, _, _, _, _, _, _, _, _, _, _, _, _, rfl, by omega, o8, hb8, e8⟩, by simp [argI]; omega⟩
  have c' : ¬ (i : Int) < s.n := by omega
  obtain rfl : i = s.n := by omega
  simp
  clear c c' hi
  refine wp_loop' (Nums2 s t b s.n t.n L h) (fun e _ => t.n - argI e 6) ⟨0, s4, _, _, _, _, _, _, _, _, _, _, _, _, _, _, _, _, _, _, _, _, _, _, rfl, by omega, o2, hs2, x2⟩ ?_
  clear o2 hs2 x2 s4 v6 v7 v8 v9 v10 v11 v12 v13 v14 v15 v16 v17 v18 v19 v20 v21 v22 v23 v24 v25 v26 v27 h2
  rintro e h2 ⟨i, s4, v5, v7, v8, v9, v10, v11, v12, v13, v14, v15, v16, v17, v18, v19, v20, v21, v22, v23, v24, v25, v26, v27, rfl, hi, o2, hs2, x2⟩
  by_cases c : i < t.n
  · have c' : (i : Int) < t.n := by omega
    have w1 : IntKind.i64.wrap ((i : Int) + 1) = (i : Int) + 1 := i64_wrap (by omega)
    have hx := bI i c
    have hz := zz_lt hx
    have sn := encL_snoc (L := L) (i := s.n + i) (by omega)
    rw [nI i c] at sn
    have n2 := o2.1
    have l2 := hlenT (s.n + i)
    have le2 := enc_len hz
    have cell2 := (aI.ext x2).val i c
    simp [c', sem_idxa aI.ok, cell2]
    refine wint_spec W.Int W.Uint hx ?_
    intro h3 s3 e3 o3 _
    have x3 := x2.trans e3
    have r3 := o3.rowB (lt_mem (encU_lt hz))
    have cell3 := (aI.ext x3).val i c
    simp [sem_idxa aI.ok, cell3, sem_b2s r3 o3.sp]
    refine wrint_spec RW.Int RW.Uint hx ?_
    intro h4 s5 e4 o4 _
    have x4 := x3.trans e4
    have r4 := o4.rowB (lt_mem (encU_lt hz))
    have r34 := r3.ext e4
    have cell4 := (aI.ext x4).val i c
    simp [sem_b2s r34 o3.sp, sem_b2s r4 o4.sp, sb_ne (encU_lt hz) (encU_lt hz), sem_idxa aI.ok, c', cell4]
    refine wint_spec W.Int W.Uint hx ?_
    intro h5 s6 e5 o5 _
    have r5 := o5.rowB (lt_mem (encU_lt hz))
    have n5 := r5.len
    have o25 := o2.mod ((e3.trans e4).trans e5) (fun _ h => h)
    have x5 := x4.trans e5
    simp
    refine ef_appendB r5 o25 (by simp at n2; omega) hs2 x5 ?_
    intro s8 h8 o8 hb8 e8 _
    rw [← sn] at o8
    simp [w1]
    exact ⟨⟨i + 1, s8, _, _, _, _, _, _, _, _, _, _, _, _, _, _, _, _, _, _, _, _, _, _, rfl, by omega, o8, hb8, e8⟩, by simp [argI]; omega⟩
  have c' : ¬ (i : Int) < t.n := by omega
  obtain rfl : i = t.n := by omega
  rw [List.take_of_length_le (by omega)] at o2
  have r2 := o2.rowB (lt_mem (encL_lt bL))
  have n2 := r2.len
  simp
  refine wnew_spec W r2 (by omega) ?_
  intro h3 p s7 e3 d3 hp hs3
  have x3 := x2.trans e3
  have r3 := r2.ext e3
  have z2 := x2.size
  have hp0 : h.size ≤ p := by omega
  have c3 : Ext h2 h3 := e3
  simp
  refine wp_loop' (Nums3 s t s4 s7 b s.n p L h2) (fun e _ => s.n - argI e 8) ⟨0, _, _, _, _, _, _, _, _, _, _, _, _, _, _, _, _, _, _, _, _, _, rfl, by omega, by simpa [encL] using d3, c3⟩ ?_
  clear c c' hi v5 v7 v8 v9 v10 v11 v12 v13 v14 v15 v16 v17 v18 v19 v20 v21 v22 v23 v24 v25 v26 v27 x3 r3 d3 hs3 e3 c3 h3
  rintro e h3 ⟨i, v5, v6, v9, v10, v11, v12, v13, v14, v15, v16, v17, v18, v19, v20, v21, v22, v23, v24, v25, v26, v27, rfl, hi, d3, y3⟩
  have x3 := x2.trans y3
  by_cases c : i < s.n
  · have c' : (i : Int) < s.n := by omega
    have w1 : IntKind.i64.wrap ((i : Int) + 1) = (i : Int) + 1 := i64_wrap (by omega)
    have hu := rdU_at (L := L) (i := i) (most := nth U i) (by omega) bL (by rw [nU i c]; exact Nat.le_refl _)
    rw [nU i c] at hu
    have cell3 := (aU.ext x3).val i c
    simp [c', sem_idxa aU.ok, cell3]
    refine ruint_spec W d3 (most := nth U i) ?_
    intro h4 m4 d4
    rw [hu] at d4 ⊢
    have y4 := Mod.toExt y3 m4 (by omega)
    have cell4 := (aU.ext (x2.trans y4)).val i c
    simp [sem_idxa aU.ok, cell4, w1]
    exact ⟨⟨i + 1, _, _, _, _, _, _, _, _, _, _, _, _, _, _, _, _, _, _, _, _, _, rfl, by omega, d4, y4⟩, by simp [argI]; omega⟩
  have c' : ¬ (i : Int) < s.n := by omega
  obtain rfl : i = s.n := by omega
  simp
  refine wp_loop' (Nums4 s t s4 s7 b s.n t.n p L h2) (fun e _ => t.n - argI e 9) ⟨0, _, _, _, _, _, _, _, _, _, _, _, _, _, _, _, _, _, _, _, _, _, rfl, by omega, d3, y3⟩ ?_
  clear c c' hi v5 v6 v9 v10 v11 v12 v13 v14 v15 v16 v17 v18 v19 v20 v21 v22 v23 v24 v25 v26 v27 x3 d3 y3 h3
  rintro e h3 ⟨i, v5, v6, v8, v10, v11, v12, v13, v14, v15, v16, v17, v18, v19, v20, v21, v22, v23, v24, v25, v26, v27, rfl, hi, d3, y3⟩
  have x3 := x2.trans y3
  by_cases c : i < t.n
  · have c' : (i : Int) < t.n := by omega
    have w1 : IntKind.i64.wrap ((i : Int) + 1) = (i : Int) + 1 := i64_wrap (by omega)
    have hu := rdI_at (L := L) (i := s.n + i) (by omega) bL (nI i c) (bI i c)
    have cell3 := (aI.ext x3).val i c
    simp [c', sem_idxa aI.ok, cell3]
    refine rint_spec W d3 (most := 9223372036854775808) ?_
    intro h4 m4 d4
    rw [hu] at d4 ⊢
    have y4 := Mod.toExt y3 m4 (by omega)
    have cell4 := (aI.ext (x2.trans y4)).val i c
    simp [sem_idxa aI.ok, cell4, w1]
    exact ⟨⟨i + 1, _, _, _, _, _, _, _, _, _, _, _, _, _, _, _, _, _, _, _, _, _, rfl, by omega, d4, y4⟩, by simp [argI]; omega⟩
  have c' : ¬ (i : Int) < t.n := by omega
  obtain rfl : i = t.n := by omega
  rw [List.take_of_length_le (by omega)] at d3
  simp
  refine rdone_spec W d3 ?_
  intro h4 v4 e4 hv4
  have := hv4.here.nil (by simp [doneW, wOK])
  subst this
  have d4 := d3.ext e4
  have y4 := y3.trans e4
  simp
  refine rat'_spec W d4 ?_
  simp [n2]
  have x4 := x2.trans y4
  have r24 := r2.ext y4
  by_cases hz : s4.n = 0
  · simp [hz]
    exact hr _ x4
  have hz' : ¬ (s4.n : Int) = 0 := by omega
  obtain ⟨k, hk⟩ : ∃ k, k = b % s4.n := ⟨_, rfl⟩
  have hks : k < s4.n := by rw [hk]; exact Nat.mod_lt _ (by omega)
  have w1 : IntKind.i64.wrap (b : Int) = (b : Int) := i64_wrap (by omega)
  have t1 : (b : Int).tmod s4.n = (k : Int) := by rw [Int.tmod_eq_emod_of_nonneg (by omega), hk]; rfl
  have hle := r2.ok.le
  have q1 : (k : Int) ≤ s4.c := by omega
  have rk := r24.take (k := k) (by omega)
  simp [hz, hz', w1, ib_rem, t1, sem_slc_hi r2.ok, q1]
  refine wnew_spec W rk (by simp; omega) ?_
  intro h5 q s10 e5 d5 hq hs10
  have x5 := x4.trans e5
  have z4 := x4.size
  have hq0 : h.size ≤ q := by omega
  simp
  refine wp_loop' (Nums5 s t s4 s10 b k q L h) (fun e _ => L.length - argI e 11) ⟨0, 0, 0, _, _, _, _, _, _, _, _, _, _, _, _, _, _, _, _, _, _, _, _, _, rfl, by omega, d5, .inl ⟨rfl, by simp [encL], by omega⟩, x5⟩ ?_
  clear c c' hi v5 v6 v8 v10 v11 v12 v13 v14 v15 v16 v17 v18 v19 v20 v21 v22 v23 v24 v25 v26 v27 x5 d5 e5 hs10 h5 q1 t1 w1
  rintro e h5 ⟨i, at', bad, v5, v6, v7, v8, v9, v12, v13, v14, v15, v16, v17, v18, v19, v20, v21, v22, v23, v24, v25, v26, v27, rfl, hi, d5, hst, x5⟩
  have w0 : IntKind.i64.wrap ((s.n : Int) + t.n) = (s.n : Int) + t.n := i64_wrap (by omega)
  by_cases c : i < L.length
  · have c' : (i : Int) < (s.n : Int) + t.n := by omega
    have w1 : IntKind.i64.wrap ((i : Int) + 1) = (i : Int) + 1 := i64_wrap (by omega)
    simp [w0, c']
    refine ruint_spec W d5 (most := 18446744073709551615) ?_
    intro h6 m6 d6
    have x6 := Mod.toExt x5 m6 hq0
    simp [w1]
    refine ⟨⟨i + 1, _, _, _, _, _, _, _, _, _, _, _, _, _, _, _, _, _, _, _, _, _, _, _, rfl, by omega, d6, ?_, x6⟩, by simp [argI]; omega⟩
    rcases hst with ⟨rfl, rfl, hat⟩ | rfl
    · rw [rdU_cut c bL hat]
      split
      · rename_i g
        exact .inl ⟨rfl, rfl, g⟩
      · exact .inr rfl
    · exact .inr (by simp [rdU])
  have c' : ¬ (i : Int) < (s.n : Int) + t.n := by omega
  obtain rfl : i = L.length := by omega
  have hbad : bad = 3 := by
    rcases hst with ⟨_, rfl, hat⟩ | h
    · rw [List.take_of_length_le (Nat.le_refl _)] at hat
      omega
    · exact h
  subst hbad
  simp [w0, c']
  refine rerr_spec W d5 ?_
  intro h6 v6' e6 hv6
  rw [show rdW at' 3 = byteW at' 3 from by simp [rdW]] at hv6
  obtain ⟨t6, u6, rfl⟩ := hv6.here.iface (by simp [byteW])
  have d6 := d5.ext e6
  simp
  refine rat'_spec W d6 ?_
  simp
  refine rat_spec RW.At ?_
  intro h7 v7' e7 hv7
  have x7 := (x5.trans e6).trans e7
  simp
  refine tellsB HT E (a := at') (e := 3) (by omega) (x7.hc hg (fun h => h)) hv7.here ((hv6.ext e7).here) ?_
  intro h8 e8
  simp
  exact hr _ (x7.trans e8)
end
end Go.Rm
