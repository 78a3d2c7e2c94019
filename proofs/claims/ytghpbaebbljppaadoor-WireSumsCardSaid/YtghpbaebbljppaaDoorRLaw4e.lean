/- The laws of numbers in bytes: WireSums. -/
import Derived.Test.YtghpbaebbljppaaDoorRLaw4d
set_option linter.unusedSimpArgs false
set_option linter.unusedVariables false
namespace Go.Rm

theorem sumF_ne1 : ∀ {l : List Nat} {a a' c c' : Nat}, a < 257 → a' < 257 → a ≠ a' → (sumF a c l).1 ≠ (sumF a' c' l).1 := by
  intro l
  induction l with
  | nil => intro a a' c c' _ _ h; exact h
  | cons x r ih => intro a a' c c' _ _ h; simp only [sumF]; exact ih (by omega) (by omega) (by omega)
theorem sumF_ne2 : ∀ {l : List Nat} {a c c' : Nat}, c < 257 → c' < 257 → c ≠ c' → (sumF a c l).2 ≠ (sumF a c' l).2 := by
  intro l
  induction l with
  | nil => intro a c c' _ _ h; exact h
  | cons x r ih => intro a c c' _ _ h; simp only [sumF]; exact ih (by omega) (by omega) (by omega)
theorem sumB_inj {l l' : List Nat} : sumB l = sumB l' ↔ sumF 0 0 l = sumF 0 0 l' := by
  constructor
  · intro h
    simp only [sumB, List.cons.injEq, and_true] at h
    obtain ⟨h1, h2, h3, h4⟩ := h
    apply Prod.ext
    · omega
    · omega
  · intro h
    simp only [sumB, h]
theorem sumF_set : ∀ {l : List Nat} {k y a c : Nat}, k < l.length → y < 256 → (∀ x ∈ l, x < 256) → a < 257 → c < 257 → (sumF a c (l.set k y) = sumF a c l ↔ y = nth l k) := by
  intro l
  induction l with
  | nil => intro k y a c hk; simp at hk
  | cons x r ih =>
    intro k y a c hk hy hl ha hc
    have hx := hl x (by simp)
    cases k with
    | zero =>
      simp only [List.set_cons_zero, sumF, nth, List.getD_cons_zero]
      constructor
      · intro h
        refine Classical.byContradiction fun hne => ?_
        exact sumF_ne1 (l := r) (a := (a + y) % 257) (a' := (a + x) % 257) (c := (c + (a + y) % 257) % 257) (c' := (c + (a + x) % 257) % 257) (by omega) (by omega) (by omega) (by rw [h])
      · rintro rfl; rfl
    | succ k =>
      simp only [List.set_cons_succ, sumF]
      have := ih (k := k) (y := y) (a := (a + x) % 257) (c := (c + (a + x) % 257) % 257) (by simpa using hk) hy (fun z hz => hl z (by simp [hz])) (by omega) (by omega)
      rw [this]
      simp [nth]
theorem sumF_swap : ∀ {l : List Nat} {k a c : Nat}, k + 1 < l.length → (∀ x ∈ l, x < 256) → a < 257 → c < 257 → (sumF a c ((l.set k (nth l (k + 1))).set (k + 1) (nth l k)) = sumF a c l ↔ nth l k = nth l (k + 1)) := by
  intro l
  induction l with
  | nil => intro k a c hk; simp at hk
  | cons x r ih =>
    intro k a c hk hl ha hc
    have hx := hl x (by simp)
    cases k with
    | zero =>
      cases r with
      | nil => simp at hk
      | cons y r =>
        have hy := hl y (by simp)
        simp only [List.set_cons_zero, List.set_cons_succ, sumF, nth, List.getD_cons_zero, List.getD_cons_succ]
        have e : ((a + y) % 257 + x) % 257 = ((a + x) % 257 + y) % 257 := by omega
        rw [e]
        constructor
        · intro h
          refine Classical.byContradiction fun hne => ?_
          refine sumF_ne2 (l := r) (a := ((a + x) % 257 + y) % 257) (c := ((c + (a + y) % 257) % 257 + ((a + x) % 257 + y) % 257) % 257) (c' := ((c + (a + x) % 257) % 257 + ((a + x) % 257 + y) % 257) % 257) (by omega) (by omega) (by omega) (by rw [h])
        · rintro rfl; rfl
    | succ k =>
      simp only [List.set_cons_succ, sumF]
      have := ih (k := k) (a := (a + x) % 257) (c := (c + (a + x) % 257) % 257) (by simpa using hk) (fun z hz => hl z (by simp [hz])) (by omega) (by omega)
      simp only [nth, List.getD_cons_succ] at this ⊢
      rw [this]
theorem sumB_set {l : List Nat} {k y : Nat} (hk : k < l.length) (hy : y < 256) (hl : ∀ x ∈ l, x < 256) : sumB (l.set k y) = sumB l ↔ y = nth l k := by
  rw [sumB_inj, sumF_set hk hy hl (by omega) (by omega)]
theorem sumB_swap {l : List Nat} {k : Nat} (hk : k + 1 < l.length) (hl : ∀ x ∈ l, x < 256) : sumB ((l.set k (nth l (k + 1))).set (k + 1) (nth l k)) = sumB l ↔ nth l k = nth l (k + 1) := by
  rw [sumB_inj, sumF_swap hk hl (by omega) (by omega)]

section
variable {Y : Sys} {h : Heap}

theorem bytesL_set {bs : List Nat} {k y : Nat} : (bytesL bs).set k (.int .u8 (y : Int)) = bytesL (bs.set k y) := by
  simp [bytesL, List.map_set]

theorem set_lt {bs : List Nat} {k y : Nat} (hb : ∀ x ∈ bs, x < 256) (hy : y < 256) : ∀ x ∈ bs.set k y, x < 256 := by
  intro x hx
  rcases List.mem_or_eq_of_mem_set hx with h | h
  · exact hb x h
  · omega

/-- bytes of one's own, one byte set -/
theorem own_set {s : Sl} {bs : List Nat} (o : Own h 1 s (bytesL bs)) {k y : Nat} (hk : k < bs.length) :
    Own (hset h s.b (s.o + k) (.int .u8 (y : Int))) 1 s (bytesL (bs.set k y)) ∧ (hc h s.b (s.o + k)).isSome = true ∧ hfz h s.b (s.o + k) = false ∧ Mod (fun j => j = s.b) h (hset h s.b (s.o + k) (.int .u8 (y : Int))) := by
  have h1 := o.set (i := k) (v := .int .u8 (y : Int)) (by simpa using hk)
  rw [bytesL_set] at h1
  obtain ⟨arr, hb, hlt, _⟩ := o.blk (i := k) (by simpa using hk)
  refine ⟨h1, ?_, hb.hfz, Mod.set rfl⟩
  rw [hb.hc]
  simp [hlt]

theorem sums_spec (HM : Y.Has F.rlaw4_WireSums S_rlaw4_WireSums) (HK : Y.Has F.rlaw4_known S_rlaw4_known) (W : WireFns Y) (RW : RefWire Y) (HT : Y.Has F.rlaw1_Tells S_rlaw1_Tells) (E : ErrSys Y) (hg : hc h E.gb 0 = some E.hv)
    {s : Sl} {bs : List Nat} (r : RowB h s bs) (sp : s.sp = none) {b y : Nat} (hb : b < 65536) (hy : y < 256) {R : Value → Heap → Prop} (hr : ∀ h', Ext h h' → R (.bool true) h') :
    CallP Y F.rlaw4_WireSums [s.v, .int .u16 b, .int .u8 y] h R := by
  have hl := r.len
  have hlt := mem_lt r.lt
  refine .of_has HM rfl ?_
  simp [S_rlaw4_WireSums, FnS.wp]
  refine known4_spec HK W RW HT E hg ?_
  intro h1 e1
  simp
  by_cases big : 400 < s.n
  · have : (400 : Int) < s.n := by omega
    simp [this]
    exact hr _ e1
  have b1 : ¬ (400 : Int) < s.n := by omega
  simp [b1, ef_bslice0]
  intro t
  have e2 : Ext h (h1.push (.cells #[] t)) := e1.trans Mod.push
  refine ef_appendB (r.ext e2) (cs := []) own_empty (by simp; omega) (.inr e1.size) e2 ?_
  intro s3 h3 o3 hb3 e3 _
  have r3 : RowB h3 s3 bs := (by simpa using o3 : Own h3 1 s3 (bytesL bs)).rowB r.lt
  simp
  refine wsum_spec W.Sum r3 (by have := r3.len; omega) ?_
  intro h4 s4 e4 o4 _ _
  have r4 := o4.rowB (lt_mem sumB_lt)
  have x4 := e3.trans e4
  simp [sem_b2s r4 o4.sp]
  refine wrsum_spec RW.SumOf (r.ext x4) (by omega) ?_
  intro h5 s5 e5 o5 _ _
  have r5 := o5.rowB (lt_mem sumB_lt)
  have r45 := r4.ext e5
  have x5 := x4.trans e5
  simp [sem_b2s r45 o4.sp, sem_b2s r5 o5.sp, sb_ne (sumB_lt (bs := bs)) (sumB_lt (bs := bs))]
  by_cases hz : s.n = 0
  · simp [hz]
    exact hr _ x5
  have hz' : ¬ (s.n : Int) = 0 := by omega
  obtain ⟨k, hk⟩ : ∃ k, k = b % s.n := ⟨_, rfl⟩
  have hks : k < s.n := by rw [hk]; exact Nat.mod_lt _ (by omega)
  have w1 : IntKind.i64.wrap (b : Int) = (b : Int) := i64_wrap (by omega)
  have t1 : (b : Int).tmod s.n = (k : Int) := by rw [Int.tmod_eq_emod_of_nonneg (by omega), hk]; rfl
  simp [hz, hz', w1, ib_rem, t1, ef_bslice0]
  intro t'
  have e6 : Ext h5 (h5.push (.cells #[] t')) := Mod.push
  have rr5 := r.ext x5
  refine ef_appendB (rr5.ext e6) (cs := []) own_empty (by simp; omega) (.inr (Nat.le_refl _)) e6 ?_
  intro s7 h7 o7 hb7 e7 _
  have o7 : Own h7 1 s7 (bytesL bs) := by simpa using o7
  have r7 := o7.rowB r.lt
  have hn7 := r7.len
  have hk7 : (k : Int) < s7.n := by omega
  obtain ⟨o8, is8, fz8, m8⟩ := own_set o7 (k := k) (y := y) (by omega)
  have hnl7 : s7.nl = false := (o7.blk (i := k) (by simp; omega)).elim fun _ h => h.2.2
  have hb7 := hb7.resolve_left (by rw [hnl7]; simp)
  have y8 : Ext h5 (hset h7 s7.b (s7.o + k) (.int .u8 (y : Int))) := Mod.ext e7 m8 (fun j hj => by omega)
  have hks' : (k : Int) < s.n := by omega
  simp [sem_idxa o7.ok, hk7, StoreP.open, is8, fz8]
  generalize hset h7 s7.b (s7.o + k) (.int .u8 (y : Int)) = h8 at *
  have rr8 := rr5.ext y8
  have r48 := r45.ext y8
  have r8 := o8.rowB (lt_mem (set_lt hlt hy))
  have c8 := rr8.at hks
  simp [sem_b2s r48 o4.sp, sem_idxa r.ok, hks', c8]
  refine wsum_spec W.Sum r8 (by omega) ?_
  intro h9 s9 e9 o9 _ _
  have r9 := o9.rowB (lt_mem sumB_lt)
  have y9 := y8.trans e9
  have rr9 := rr5.ext y9
  have r49 := r45.ext y9
  have c9 := rr9.at hks
  have q9 : sbin .eql (strB (sumB (bs.set k y))) (strB (sumB bs)) = some (.bool (decide ((y : Int) = (nth bs k : Int)))) := by
    rw [sb_eq sumB_lt sumB_lt, decide_eq_decide.2 ((sumB_set (l := bs) (k := k) (y := y) (by omega) hy hlt).trans (by omega : y = nth bs k ↔ (y : Int) = (nth bs k : Int)))]
  simp [sem_b2s r49 o4.sp, sem_b2s r9 o9.sp, c9, q9]
  have x9 := x5.trans y9
  by_cases hk0 : k = 0
  · simp [hk0]
    exact hr _ x9
  have hk0' : ¬ (k : Int) = 0 := by omega
  obtain ⟨j, hj⟩ : ∃ j, k = j + 1 := ⟨k - 1, by omega⟩
  have w2 : IntKind.i64.wrap ((k : Int) - 1) = (j : Int) := by rw [i64_wrap (by omega)]; omega
  simp [hk0, hk0', ef_bslice0]
  intro t''
  have e10 : Ext h9 (h9.push (.cells #[] t'')) := Mod.push
  refine ef_appendB (rr9.ext e10) (cs := []) own_empty (by simp; omega) (.inr (Nat.le_refl _)) e10 ?_
  intro s10 h10 o10 hb10 e10' _
  have o10 : Own h10 1 s10 (bytesL bs) := by simpa using o10
  have r10 := o10.rowB r.lt
  have hn10 := r10.len
  have hk10 : (k : Int) < s10.n := by omega
  have hj10 : (j : Int) < s10.n := by omega
  have hjs : (j : Int) < s.n := by omega
  have ck := r10.at (i := k) (by omega)
  have cj := r10.at (i := j) (by omega)
  obtain ⟨o11, is11, fz11, m11⟩ := own_set o10 (k := j) (y := nth bs k) (by omega)
  have hnl10 : s10.nl = false := (o10.blk (i := k) (by simp; omega)).elim fun _ h => h.2.2
  have hb10 := hb10.resolve_left (by rw [hnl10]; simp)
  have y11 : Ext h9 (hset h10 s10.b (s10.o + j) (.int .u8 (nth bs k : Int))) := Mod.ext e10' m11 (fun i hi => by omega)
  obtain ⟨o12, is12, fz12, m12⟩ := own_set o11 (k := k) (y := nth bs j) (by simp; omega)
  have y12 : Ext h9 (hset (hset h10 s10.b (s10.o + j) (.int .u8 (nth bs k : Int))) s10.b (s10.o + k) (.int .u8 (nth bs j : Int))) := Mod.ext y11 m12 (fun i hi => by omega)
  simp [w2, sem_idxa o10.ok, hk10, hj10, ck, cj, StoreP.open, is11, fz11, is12, fz12]
  generalize hset (hset h10 s10.b (s10.o + j) (.int .u8 (nth bs k : Int))) s10.b (s10.o + k) (.int .u8 (nth bs j : Int)) = h12 at *
  have rr12 := rr9.ext y12
  have r412 := r49.ext y12
  have r12 := o12.rowB (lt_mem (set_lt (set_lt hlt (r.lt k (by omega))) (r.lt j (by omega))))
  have ck12 := rr12.at (i := k) hks
  have cj12 := rr12.at (i := j) (by omega)
  simp [sem_b2s r412 o4.sp, sem_idxa r.ok, hks', hjs, ck12, cj12, w2]
  refine wsum_spec W.Sum r12 (by omega) ?_
  intro h13 s13 e13 o13 _ _
  have r13 := o13.rowB (lt_mem sumB_lt)
  have rr13 := rr12.ext e13
  have r413 := r412.ext e13
  have ck13 := rr13.at (i := k) hks
  have cj13 := rr13.at (i := j) (by omega)
  have q13 : sbin .eql (strB (sumB ((bs.set j (nth bs k)).set k (nth bs j)))) (strB (sumB bs)) = some (.bool (decide ((nth bs j : Int) = (nth bs k : Int)))) := by
    subst hj
    rw [sb_eq sumB_lt sumB_lt, decide_eq_decide.2 ((sumB_swap (l := bs) (k := j) (by omega) hlt).trans (by omega : nth bs j = nth bs (j + 1) ↔ (nth bs j : Int) = (nth bs (j + 1) : Int)))]
  simp [sem_b2s r413 o4.sp, sem_b2s r13 o13.sp, ck13, cj13, q13]
  exact hr _ ((x9.trans y12).trans e13)
end
end Go.Rm
