import Derived.Test.YtnbciaekpbadmaaDoorRFile12
import Derived.Test.YtnbciaekpbadmaaDoorRLaw4e

/- Nets in bytes: the plain law: what is written is read, what is read is written. -/
set_option linter.unusedSimpArgs false
set_option linter.unusedVariables false
namespace Go.Rm

/-- what is left of the bytes at a place -/
def Left (bs : List Nat) (a : Nat) (rest : List Nat) : Prop := bs.drop a = rest ∧ a + rest.length = bs.length
theorem Left.next {bs l rest : List Nat} {a : Nat} (h : Left bs a (l ++ rest)) : Left bs (a + l.length) rest := by
  obtain ⟨h1, h2⟩ := h
  refine ⟨?_, by simp at h2; omega⟩
  rw [← List.drop_drop, h1, List.drop_left]
theorem rdU_left {bs rest : List Nat} {a v most : Nat} (h : Left bs a (encU v ++ rest)) (hv : v < 2 ^ 64) (hm : v ≤ most) : rdU bs a 0 most = (v, a + (encU v).length, 0) := by
  unfold rdU
  rw [if_neg (by simp), h.1, scan_encU hv]
  simp
  omega
theorem rdI_left {bs rest : List Nat} {a most : Nat} {i : Int} (h : Left bs a (encU (zz i) ++ rest)) (hi : -4194304 ≤ i ∧ i ≤ 4194304) (hm : amt (zz i) ≤ most) : rdI bs a 0 most = (i, a + (encU (zz i)).length, 0) := by
  unfold rdI
  have hz : zz i < 2 ^ 64 := zz_lt (by omega)
  rw [rdU_left h hz (by omega)]
  simp only
  rw [if_neg (by simp), if_neg (by omega), (unz_zz (by omega)).1]

theorem itr_succ {α : Type} {f : α → α} {n : Nat} {a : α} : itr f (n + 1) a = f (itr f n a) := rfl

theorem itrC_left {bs : List Nat} {cs : List Int} (hw : ∀ c ∈ cs, weightB c = true) {a : Nat} {rest : List Nat} (h : Left bs a (cs.flatMap (fun c => encU (priceU c)) ++ rest)) : ∀ {i : Nat}, i ≤ cs.length →
    ∃ b, itr (stC bs) i ([], a, 0) = (cs.take i, b, 0) ∧ Left bs b ((cs.drop i).flatMap (fun c => encU (priceU c)) ++ rest) := by
  intro i
  induction i with
  | zero => intro _; exact ⟨a, rfl, by simpa using h⟩
  | succ i ih =>
    intro hi
    obtain ⟨b, h1, h2⟩ := ih (by omega)
    have hi' : i < cs.length := by omega
    have hc := hw cs[i] (List.getElem_mem hi')
    rw [List.drop_eq_getElem_cons hi', List.flatMap_cons, List.append_assoc] at h2
    have := priceU_le hc
    refine ⟨b + (encU (priceU cs[i])).length, ?_, h2.next⟩
    rw [itr_succ, h1, stC_go rfl]
    simp only
    rw [rdU_left h2 (by omega) (by omega), costU_price hc, List.take_succ_eq_append_getElem hi']
theorem rdT_left {bs rest : List Nat} {a : Nat} {t : Tab} (f : 0 ≤ t.i ∧ t.i ≤ 16 ∧ 0 ≤ t.o ∧ t.o ≤ 16 ∧ (t.cs.length : Int) = t.i * t.o ∧ t.cs.length ≤ 256 ∧ ∀ c ∈ t.cs, weightB c = true) (h : Left bs a (tabB t ++ rest)) :
    ∃ b, rdT bs a 0 = (t, b, 0) ∧ Left bs b rest := by
  obtain ⟨a1, a2, b1, b2, hc, hl, hw⟩ := f
  unfold tabB at h
  rw [List.append_assoc, List.append_assoc] at h
  have q1 := rdU_left (most := 16) h (by omega) (by omega)
  have h2 := h.next
  have q2 := rdU_left (most := 16) h2 (by omega) (by omega)
  have h3 := h2.next
  obtain ⟨b, q3, h4⟩ := itrC_left hw h3 (Nat.le_refl _)
  have hlen : t.i.toNat * t.o.toNat = t.cs.length := by
    obtain ⟨x, hx⟩ : ∃ x : Nat, t.i = x := ⟨t.i.toNat, by omega⟩
    obtain ⟨y, hy⟩ : ∃ y : Nat, t.o = y := ⟨t.o.toNat, by omega⟩
    rw [hx, hy] at hc ⊢
    simp only [Int.toNat_natCast]
    have : ((x * y : Nat) : Int) = (t.cs.length : Int) := by rw [hc]; simp
    omega
  refine ⟨b, ?_, by simpa using h4⟩
  unfold rdT
  simp only [q1, q2]
  rw [hlen, q3]
  obtain ⟨ti, to, tc⟩ := t
  simp only [List.take_length] at *
  rw [show ((ti.toNat : Nat) : Int) = ti by omega, show ((to.toNat : Nat) : Int) = to by omega]
theorem itrT_left {bs : List Nat} {N : NetD} (ok : NetOK N) {a : Nat} {rest : List Nat} (h : Left bs a (N.ts.flatMap tabB ++ rest)) : ∀ {i : Nat}, i ≤ N.ts.length →
    ∃ b, itr (stT bs) i ([], a, 0) = (N.ts.take i, b, 0) ∧ Left bs b ((N.ts.drop i).flatMap tabB ++ rest) := by
  intro i
  induction i with
  | zero => intro _; exact ⟨a, rfl, by simpa using h⟩
  | succ i ih =>
    intro hi
    obtain ⟨b, h1, h2⟩ := ih (by omega)
    have hi' : i < N.ts.length := by omega
    rw [List.drop_eq_getElem_cons hi', List.flatMap_cons, List.append_assoc] at h2
    obtain ⟨b', q1, q2⟩ := rdT_left (tabs_ok ok (List.getElem_mem hi')) h2
    refine ⟨b', ?_, q2⟩
    rw [itr_succ, h1, stT_go rfl]
    simp only
    rw [q1, List.take_succ_eq_append_getElem hi']
def lastX : Int × Int → List Tri → Int × Int
  | p, [] => p
  | _, v :: r => lastX (v.a, v.b) r
theorem lastX_snoc : ∀ {l : List Tri} {p : Int × Int} {v : Tri}, lastX p (l ++ [v]) = (v.a, v.b) := by
  intro l
  induction l with
  | nil => intro p v; rfl
  | cons u r ih => intro p v; exact ih
theorem lastX_in : ∀ {l : List Tri} {p : Int × Int}, (∀ v ∈ l, (-1048576 ≤ v.a ∧ v.a ≤ 1048576) ∧ (-1048576 ≤ v.b ∧ v.b ≤ 1048576) ∧ 0 ≤ v.c ∧ v.c < 256) → ((-1048576 ≤ p.1 ∧ p.1 ≤ 1048576) ∧ (-1048576 ≤ p.2 ∧ p.2 ≤ 1048576)) →
    ((-1048576 ≤ (lastX p l).1 ∧ (lastX p l).1 ≤ 1048576) ∧ (-1048576 ≤ (lastX p l).2 ∧ (lastX p l).2 ≤ 1048576)) := by
  intro l
  induction l with
  | nil => intro p _ h; exact h
  | cons u r ih => intro p h _; exact ih (fun v hv => h v (by simp [hv])) ⟨(h u (by simp)).1, (h u (by simp)).2.1⟩
theorem amt_zz {x : Int} (h : -2097152 ≤ x ∧ x ≤ 2097152) : amt (zz x) ≤ 2097152 := by
  have := (unz_zz (i := x) (by omega)).2
  split at this <;> omega
theorem itrV_left {bs : List Nat} {vs : List Tri} (ok : ∀ v ∈ vs, (-1048576 ≤ v.a ∧ v.a ≤ 1048576) ∧ (-1048576 ≤ v.b ∧ v.b ≤ 1048576) ∧ 0 ≤ v.c ∧ v.c < 256) {a : Nat} {rest : List Nat} (h : Left bs a (vertsB 0 0 vs ++ rest)) : ∀ {i : Nat}, i ≤ vs.length →
    ∃ b, itr (stV bs) i ((0, 0, []), a, 0) = (((lastX (0, 0) (vs.take i)).1, (lastX (0, 0) (vs.take i)).2, vs.take i), b, 0) ∧ Left bs b (vertsB (lastX (0, 0) (vs.take i)).1 (lastX (0, 0) (vs.take i)).2 (vs.drop i) ++ rest) := by
  intro i
  induction i with
  | zero => intro _; exact ⟨a, rfl, by simpa [lastX] using h⟩
  | succ i ih =>
    intro hi
    obtain ⟨b, h1, h2⟩ := ih (by omega)
    have hi' : i < vs.length := by omega
    obtain ⟨v1, v2, v3, v4⟩ := ok vs[i] (List.getElem_mem hi')
    have lx := lastX_in (l := vs.take i) (p := (0, 0)) (fun v hv => ok v (List.mem_of_mem_take hv)) (by simp)
    generalize lastX (0, 0) (vs.take i) = p at *
    rw [List.drop_eq_getElem_cons hi'] at h2
    simp only [vertsB, List.append_assoc] at h2
    have q1 := rdI_left (most := 2097152) h2 (by omega) (amt_zz (by omega))
    have h3 := h2.next
    have q2 := rdI_left (most := 2097152) h3 (by omega) (amt_zz (by omega))
    have h4 := h3.next
    have q3 := rdU_left (most := 16384) h4 (by omega) (by omega)
    refine ⟨_, ?_, by rw [List.take_succ_eq_append_getElem hi', lastX_snoc]; exact h4.next⟩
    rw [itr_succ, h1, stV_go rfl, List.take_succ_eq_append_getElem hi', lastX_snoc]
    simp only
    rw [q1]
    simp only
    rw [q2]
    simp only
    rw [q3]
    simp only
    rw [show p.1 + (vs[i].a - p.1) = vs[i].a by omega, show p.2 + (vs[i].b - p.2) = vs[i].b by omega, show ((vs[i].c.toNat : Nat) : Int) = vs[i].c by omega]
theorem itrA_left {bs : List Nat} {N : NetD} (ok : NetOK N) {a : Nat} {rest : List Nat} (h : Left bs a (N.as.flatMap arcB ++ rest)) : ∀ {i : Nat}, i ≤ N.as.length →
    ∃ b, itr (stA bs) i ([], a, 0) = (N.as.take i, b, 0) ∧ Left bs b ((N.as.drop i).flatMap arcB ++ rest) := by
  intro i
  induction i with
  | zero => intro _; exact ⟨a, rfl, by simpa using h⟩
  | succ i ih =>
    intro hi
    obtain ⟨b, h1, h2⟩ := ih (by omega)
    have hi' : i < N.as.length := by omega
    obtain ⟨⟨a1, a2⟩, ⟨b1, b2⟩, hg⟩ := arcs_ok ok (List.getElem_mem hi')
    have hp := priceU_le hg
    rw [List.drop_eq_getElem_cons hi', List.flatMap_cons, arcB] at h2
    simp only [List.append_assoc] at h2
    have q1 := rdU_left (most := 16384) h2 (by omega) (by omega)
    have h3 := h2.next
    have q2 := rdU_left (most := 16384) h3 (by omega) (by omega)
    have h4 := h3.next
    have q3 := rdU_left (most := 2147483649) h4 (by omega) (by omega)
    refine ⟨_, ?_, h4.next⟩
    rw [itr_succ, h1, stA_go rfl, List.take_succ_eq_append_getElem hi']
    simp only
    rw [q1]
    simp only
    rw [q2]
    simp only
    rw [q3]
    simp only
    rw [costU_price hg, show ((N.as[i].a.toNat : Nat) : Int) = N.as[i].a by omega, show ((N.as[i].b.toNat : Nat) : Int) = N.as[i].b by omega]

/-- what is written is read -/
theorem rdNet_body {N : NetD} (ok : NetOK N) : rdNet (bodyB N) = (N, (bodyB N).length, 0) := by
  have b1 := ok.bt
  have b2 := ok.bv
  have b3 := ok.ba
  have h0 : Left (bodyB N) 0 (encU N.ts.length ++ (encU N.vs.length ++ (encU N.as.length ++ (N.ts.flatMap tabB ++ (vertsB 0 0 N.vs ++ (N.as.flatMap arcB ++ [])))))) := by
    have : bodyB N = encU N.ts.length ++ (encU N.vs.length ++ (encU N.as.length ++ (N.ts.flatMap tabB ++ (vertsB 0 0 N.vs ++ (N.as.flatMap arcB ++ []))))) := by simp [bodyB, lensB, encL]
    exact ⟨by rw [List.drop_zero]; exact this, by rw [← this]; simp⟩
  have q1 := rdU_left (most := 256) h0 (by omega) (by omega)
  have h1 := h0.next
  have q2 := rdU_left (most := 4096) h1 (by omega) (by omega)
  have h2 := h1.next
  have q3 := rdU_left (most := 16384) h2 (by omega) (by omega)
  obtain ⟨a4, q4, h4⟩ := itrT_left ok h2.next (Nat.le_refl _)
  rw [List.drop_length] at h4
  obtain ⟨a5, q5, h5⟩ := itrV_left (fun v hv => verts_ok ok hv) (rest := N.as.flatMap arcB ++ []) h4 (Nat.le_refl _)
  rw [List.drop_length] at h5
  obtain ⟨a6, q6, h6⟩ := itrA_left ok (rest := []) h5 (Nat.le_refl _)
  rw [List.drop_length] at h6
  have h7 := h6.2
  simp at h7
  unfold rdNet
  simp only [q1, q2, q3, q4, q5, q6, List.take_length, h7]
end Go.Rm

/- Nets in bytes: the plain law, the other way: what is read is written; one byte turned. -/
set_option linter.unusedSimpArgs false
set_option linter.unusedVariables false
namespace Go.Rm

/-- the bytes up to a place -/
def Upto (bs : List Nat) (a : Nat) (l : List Nat) : Prop := bs.take a = l ∧ a ≤ bs.length

section
variable {bs : List Nat} (hb : ∀ x ∈ bs, x < 256)
include hb

theorem rdU_upto {a most : Nat} {bad : Int} {l : List Nat} (h : Upto bs a l) (h0 : (rdU bs a bad most).2.2 = 0) : bad = 0 ∧ (rdU bs a bad most).1 ≤ most ∧ (rdU bs a bad most).1 < 2 ^ 64 ∧ Upto bs (rdU bs a bad most).2.1 (l ++ encU (rdU bs a bad most).1) := by
  have hm := rdU_le (bs := bs) (at' := a) (most := most) (bad := bad)
  obtain ⟨f1, f2⟩ := rdU_facts (bs := bs) (at' := a) (bad := bad) (most := most) (lt_mem hb) h.2
  unfold rdU at *
  by_cases hbad : bad = 0
  rotate_left
  · simp [hbad] at h0
  by_cases hs : (scanR (bs.drop a)).2.2 = 0
  rotate_left
  · simp [hbad, hs] at h0
  by_cases hq : most < (scanR (bs.drop a)).1
  · simp [hbad, hs, hq] at h0
  rw [if_neg (by simp [hbad]), if_neg (by simp [hs]), if_neg hq] at *
  have e := encU_scan (bs := bs.drop a) (fun x hx => hb x (List.mem_of_mem_drop hx)) hs
  refine ⟨hbad, hm, f1, ?_, f2⟩
  simp only
  rw [e, ← h.1, List.take_add]
theorem rdI_upto {a most : Nat} {bad : Int} {l : List Nat} (h : Upto bs a l) (h0 : (rdI bs a bad most).2.2 = 0) : bad = 0 ∧ Upto bs (rdI bs a bad most).2.1 (l ++ encU (zz (rdI bs a bad most).1)) := by
  unfold rdI at *
  by_cases hbad : (rdU bs a bad 18446744073709551615).2.2 = 0
  rotate_left
  · simp [hbad] at h0
  by_cases hq : most < amt (rdU bs a bad 18446744073709551615).1
  · simp [hbad, hq] at h0
  rw [if_neg (by simp [hbad]), if_neg hq] at *
  obtain ⟨q1, q2, q3, q4⟩ := rdU_upto hb h hbad
  refine ⟨q1, ?_⟩
  simp only
  rw [(zz_unz q3).1]
  exact q4
omit hb in
theorem priceU_cost {u : Nat} (h : u ≤ 2147483649) : priceU (costU u) = u := by
  unfold priceU costU
  by_cases h0 : u = 0
  · simp [h0]
  · rw [if_neg h0, if_neg (by omega)]; omega

theorem itrC_upto {st : List Int × Nat × Int} {l : List Nat} (h : Upto bs st.2.1 l) : ∀ {n : Nat}, (itr (stC bs) n st).2.2 = 0 → ∃ new : List Int, (itr (stC bs) n st).1 = st.1 ++ new ∧ new.length = n ∧ st.2.2 = 0 ∧ Upto bs (itr (stC bs) n st).2.1 (l ++ new.flatMap (fun c => encU (priceU c))) := by
  intro n
  induction n with
  | zero => intro h0; exact ⟨[], by simp [itr], rfl, h0, by simpa [itr] using h⟩
  | succ n ih =>
    intro h0
    rw [itr_succ] at h0 ⊢
    by_cases hn : (itr (stC bs) n st).2.2 = 0
    rotate_left
    · rw [stC_stuck hn] at h0; exact absurd h0 hn
    obtain ⟨new, q1, q2, q3, q4⟩ := ih hn
    rw [stC_go hn] at h0 ⊢
    simp only at h0 ⊢
    obtain ⟨_, p1, p2, p3⟩ := rdU_upto hb q4 h0
    refine ⟨new ++ [costU (rdU bs (itr (stC bs) n st).2.1 0 2147483649).1], by rw [q1]; simp, by simp [q2], q3, ?_⟩
    rw [List.flatMap_append, ← List.append_assoc]
    simpa [priceU_cost p1] using p3
theorem rdT_upto {a : Nat} {l : List Nat} (h : Upto bs a l) {bad : Int} (h0 : (rdT bs a bad).2.2 = 0) : bad = 0 ∧ Upto bs (rdT bs a bad).2.1 (l ++ tabB (rdT bs a bad).1) := by
  unfold rdT at *
  simp only at *
  by_cases hst : (rdU bs (rdU bs a bad 16).2.1 (rdU bs a bad 16).2.2 16).2.2 = 0
  rotate_left
  · have := itrC_stuck (bs := bs) (st := ([], (rdU bs (rdU bs a bad 16).2.1 (rdU bs a bad 16).2.2 16).2)) (i := 0) hst (Nat.zero_le ((rdU bs a bad 16).1 * (rdU bs (rdU bs a bad 16).2.1 (rdU bs a bad 16).2.2 16).1))
    rw [this] at h0
    exact absurd h0 hst
  by_cases h1 : (rdU bs a bad 16).2.2 = 0
  rotate_left
  · rw [rdU_bad h1] at hst; exact absurd hst h1
  obtain ⟨p1, p2, p3, p4⟩ := rdU_upto hb h h1
  obtain ⟨_, r2, r3, r4⟩ := rdU_upto hb p4 hst
  obtain ⟨new, q1, q2, q3, q4⟩ := itrC_upto hb (st := ([], (rdU bs (rdU bs a bad 16).2.1 (rdU bs a bad 16).2.2 16).2)) r4 h0
  refine ⟨p1, ?_⟩
  rw [q1]
  simpa [tabB] using q4
theorem itrT_upto {st : List Tab × Nat × Int} {l : List Nat} (h : Upto bs st.2.1 l) : ∀ {n : Nat}, (itr (stT bs) n st).2.2 = 0 → ∃ new : List Tab, (itr (stT bs) n st).1 = st.1 ++ new ∧ new.length = n ∧ st.2.2 = 0 ∧ Upto bs (itr (stT bs) n st).2.1 (l ++ new.flatMap tabB) := by
  intro n
  induction n with
  | zero => intro h0; exact ⟨[], by simp [itr], rfl, h0, by simpa [itr] using h⟩
  | succ n ih =>
    intro h0
    rw [itr_succ] at h0 ⊢
    by_cases hn : (itr (stT bs) n st).2.2 = 0
    rotate_left
    · rw [stT_stuck hn] at h0; exact absurd h0 hn
    obtain ⟨new, q1, q2, q3, q4⟩ := ih hn
    rw [stT_go hn] at h0 ⊢
    simp only at h0 ⊢
    obtain ⟨_, p3⟩ := rdT_upto hb q4 h0
    refine ⟨new ++ [(rdT bs (itr (stT bs) n st).2.1 0).1], by rw [q1]; simp, by simp [q2], q3, ?_⟩
    rw [List.flatMap_append, ← List.append_assoc]
    simpa using p3
omit hb in
theorem vertsB_snoc : ∀ {l : List Tri} {x y : Int} {v : Tri}, vertsB x y (l ++ [v]) = vertsB x y l ++ (encU (zz (v.a - (lastX (x, y) l).1)) ++ encU (zz (v.b - (lastX (x, y) l).2)) ++ encU v.c.toNat) := by
  intro l
  induction l with
  | nil => intro x y v; simp [vertsB, lastX]
  | cons u r ih => intro x y v; simp only [List.cons_append, vertsB, ih, lastX]; simp
theorem itrV_upto {r0 : Nat × Int} {l : List Nat} (h : Upto bs r0.1 l) : ∀ {n : Nat}, (itr (stV bs) n ((0, 0, []), r0)).2.2 = 0 → (itr (stV bs) n ((0, 0, []), r0)).1.2.2.length = n ∧ r0.2 = 0 ∧
    ((itr (stV bs) n ((0, 0, []), r0)).1.1, (itr (stV bs) n ((0, 0, []), r0)).1.2.1) = lastX (0, 0) (itr (stV bs) n ((0, 0, []), r0)).1.2.2 ∧ Upto bs (itr (stV bs) n ((0, 0, []), r0)).2.1 (l ++ vertsB 0 0 (itr (stV bs) n ((0, 0, []), r0)).1.2.2) := by
  intro n
  induction n with
  | zero => intro h0; exact ⟨rfl, h0, rfl, by simpa [itr, vertsB] using h⟩
  | succ n ih =>
    intro h0
    rw [itr_succ] at h0 ⊢
    by_cases hn : (itr (stV bs) n ((0, 0, []), r0)).2.2 = 0
    rotate_left
    · rw [stV_stuck hn] at h0; exact absurd h0 hn
    obtain ⟨q1, q2, q3, q4⟩ := ih hn
    rw [stV_go hn] at h0 ⊢
    simp only at h0 ⊢
    generalize itr (stV bs) n ((0, 0, []), r0) = st at *
    generalize hX : rdI bs st.2.1 st.2.2 2097152 = X at *
    generalize hY : rdI bs X.2.1 X.2.2 2097152 = Y at *
    have hY0 : Y.2.2 = 0 := by
      by_cases g : Y.2.2 = 0
      · exact g
      · rw [rdU_bad g] at h0; exact absurd h0 g
    have hX0 : X.2.2 = 0 := by
      by_cases g : X.2.2 = 0
      · exact g
      · have : Y = (0, X.2.1, X.2.2) := by rw [← hY]; unfold rdI; simp [rdU_bad g, g]
        rw [this] at hY0; exact absurd hY0 g
    obtain ⟨_, s1⟩ := rdI_upto hb q4 (by rw [hX]; exact hX0)
    rw [hX] at s1
    obtain ⟨_, s2⟩ := rdI_upto hb s1 (by rw [hY]; exact hY0)
    rw [hY] at s2
    obtain ⟨_, p1, p2, p3⟩ := rdU_upto hb s2 h0
    refine ⟨by simp [q1], q2, by rw [lastX_snoc], ?_⟩
    rw [vertsB_snoc, ← q3]
    simp only
    rw [show st.1.1 + X.1 - st.1.1 = X.1 by omega, show st.1.2.1 + Y.1 - st.1.2.1 = Y.1 by omega]
    simpa using p3
theorem itrA_upto {st : List Tri × Nat × Int} {l : List Nat} (h : Upto bs st.2.1 l) : ∀ {n : Nat}, (itr (stA bs) n st).2.2 = 0 → ∃ new : List Tri, (itr (stA bs) n st).1 = st.1 ++ new ∧ new.length = n ∧ st.2.2 = 0 ∧ Upto bs (itr (stA bs) n st).2.1 (l ++ new.flatMap arcB) := by
  intro n
  induction n with
  | zero => intro h0; exact ⟨[], by simp [itr], rfl, h0, by simpa [itr] using h⟩
  | succ n ih =>
    intro h0
    rw [itr_succ] at h0 ⊢
    by_cases hn : (itr (stA bs) n st).2.2 = 0
    rotate_left
    · rw [stA_stuck hn] at h0; exact absurd h0 hn
    obtain ⟨new, q1, q2, q3, q4⟩ := ih hn
    rw [stA_go hn] at h0 ⊢
    simp only at h0 ⊢
    generalize itr (stA bs) n st = x at *
    generalize hX : rdU bs x.2.1 x.2.2 16384 = X at *
    generalize hY : rdU bs X.2.1 X.2.2 16384 = Y at *
    have hY0 : Y.2.2 = 0 := by
      by_cases g : Y.2.2 = 0
      · exact g
      · rw [rdU_bad g] at h0; exact absurd h0 g
    have hX0 : X.2.2 = 0 := by
      by_cases g : X.2.2 = 0
      · exact g
      · have : Y = (0, X.2.1, X.2.2) := by rw [← hY]; exact rdU_bad g
        rw [this] at hY0; exact absurd hY0 g
    obtain ⟨_, _, _, s1⟩ := rdU_upto hb q4 (by rw [hX]; exact hX0)
    rw [hX] at s1
    obtain ⟨_, _, _, s2⟩ := rdU_upto hb s1 (by rw [hY]; exact hY0)
    rw [hY] at s2
    obtain ⟨_, p1, p2, p3⟩ := rdU_upto hb s2 h0
    refine ⟨new ++ [⟨(X.1 : Int), (Y.1 : Int), costU (rdU bs Y.2.1 Y.2.2 2147483649).1⟩], by rw [q1]; simp, by simp [q2], q3, ?_⟩
    rw [List.flatMap_append, ← List.append_assoc]
    simpa [arcB, priceU_cost p1] using p3

/-- what is read is written -/
theorem body_rdNet (h0 : (rdNet bs).2.2 = 0) (hl : bs.length ≤ (rdNet bs).2.1) : bodyB (rdNet bs).1 = bs := by
  unfold rdNet at *
  simp only at *
  generalize hT : rdU bs 0 0 256 = kt at *
  generalize hV : rdU bs kt.2.1 kt.2.2 4096 = kv at *
  generalize hA : rdU bs kv.2.1 kv.2.2 16384 = ka at *
  have u0 : Upto bs 0 [] := ⟨by simp, by omega⟩
  have nn : ∀ {a : Nat} {l : List Nat}, Upto bs a l → True := fun _ => trivial
  -- all is right from the beginning on
  have hV0 : (itr (stV bs) kv.1 ((0, 0, []), (itr (stT bs) kt.1 ([], ka.2)).2)).2.2 = 0 := by
    by_cases g : (itr (stV bs) kv.1 ((0, 0, []), (itr (stT bs) kt.1 ([], ka.2)).2)).2.2 = 0
    · exact g
    · rw [itrA_stuck (st := ([], (itr (stV bs) kv.1 ((0, 0, []), (itr (stT bs) kt.1 ([], ka.2)).2)).2)) (i := 0) g (Nat.zero_le ka.1)] at h0
      exact absurd h0 g
  have hT0 : (itr (stT bs) kt.1 ([], ka.2)).2.2 = 0 := by
    by_cases g : (itr (stT bs) kt.1 ([], ka.2)).2.2 = 0
    · exact g
    · rw [itrV_stuck (st := ((0, 0, []), (itr (stT bs) kt.1 ([], ka.2)).2)) (i := 0) g (Nat.zero_le kv.1)] at hV0
      exact absurd hV0 g
  have ha0 : ka.2.2 = 0 := by
    by_cases g : ka.2.2 = 0
    · exact g
    · rw [itrT_stuck (st := ([], ka.2)) (i := 0) g (Nat.zero_le kt.1)] at hT0
      exact absurd hT0 g
  have hv0 : kv.2.2 = 0 := by
    by_cases g : kv.2.2 = 0
    · exact g
    · rw [← hA, rdU_bad g] at ha0; exact absurd ha0 g
  have ht0 : kt.2.2 = 0 := by
    by_cases g : kt.2.2 = 0
    · exact g
    · rw [← hV, rdU_bad g] at hv0; exact absurd hv0 g
  obtain ⟨_, _, _, u1⟩ := rdU_upto hb u0 (by rw [hT]; exact ht0)
  rw [hT] at u1
  obtain ⟨_, _, _, u2⟩ := rdU_upto hb u1 (by rw [hV]; exact hv0)
  rw [hV] at u2
  obtain ⟨_, _, _, u3⟩ := rdU_upto hb u2 (by rw [hA]; exact ha0)
  rw [hA] at u3
  obtain ⟨nt, t1, t2, _, u4⟩ := itrT_upto hb (st := ([], ka.2)) u3 hT0
  obtain ⟨v1, v2, v3, u5⟩ := itrV_upto hb u4 hV0
  obtain ⟨na, a1, a2, _, u6⟩ := itrA_upto hb (st := ([], (itr (stV bs) kv.1 ((0, 0, []), (itr (stT bs) kt.1 ([], ka.2)).2)).2)) u5 h0
  have := u6.1
  rw [List.take_of_length_le hl] at this
  refine Eq.trans ?_ this.symm
  simp only [bodyB, lensB, encL, t1, a1, List.nil_append]
  simp [t2, v1, a2]

theorem parse_encode (h0 : (parseR bs).2.2 = 0) : NetOK (parseR bs).1 ∧ encR (parseR bs).1 = (bs, wOK) := by
  unfold parseR at *
  split at h0
  · simp [atW] at h0
  rename_i c1
  split at h0
  · simp [atW] at h0
  rename_i c2
  split at h0
  · simp [atW] at h0
  rename_i c3
  split at h0
  · simp [atW] at h0
  rename_i c4
  rw [if_neg c1, if_neg c2, if_neg c3, if_neg c4]
  simp only [ne_eq, Decidable.not_not] at c3 c4
  generalize hib : (bs.drop 4).take (bs.length - 8) = ib at *
  have hbi : ∀ x ∈ ib, x < 256 := by
    intro x hx
    rw [← hib] at hx
    exact hb x (List.mem_of_mem_drop (List.mem_of_mem_take hx))
  unfold parseIn parseEnd at *
  split at h0
  · rename_i g; simp only at h0; exact absurd h0 g
  rename_i d1
  split at h0
  · rename_i g; simp only at h0; exact absurd h0 g
  rename_i d2
  rw [if_neg d1, if_neg d2]
  simp only [ne_eq, Decidable.not_not] at d1 d2
  have ok := netOK_iff.1 d2
  have hd : (rdNet ib).2.2 = 0 ∧ ib.length ≤ (rdNet ib).2.1 := by
    unfold doneW at d1
    split at d1
    · rename_i g; simp [byteW] at d1; exact absurd d1 g
    · rename_i g
      simp only [ne_eq, Decidable.not_not] at g
      split at d1
      · simp [byteW] at d1
      · exact ⟨g, by omega⟩
  have hbody := body_rdNet hbi hd.1 hd.2
  refine ⟨ok, ?_⟩
  have hbs : hdB ++ ib = bs.take (bs.length - 4) := by
    rw [← c4, ← hib]
    have e : bs.length - 4 = 4 + (bs.length - 8) := by omega
    rw [e, List.take_add]
  have henc : encB (rdNet ib).1 = bs := by
    unfold encB
    rw [hbody, hbs, c3, List.take_append_drop]
  unfold encR
  rw [if_neg (by simp [d2]), henc, if_neg (by omega)]
end

theorem encode_parse {N : NetD} {b : List Nat} (h : encR N = (b, wOK)) : NetOK N ∧ b = encB N ∧ b.length ≤ 65536 ∧ 8 ≤ b.length ∧ (∀ x ∈ b, x < 256) ∧ parseR b = (N, wOK) := by
  unfold encR at h
  split at h
  · rename_i g
    have := congrArg (fun x => x.2.2) h
    simp only [wOK] at this
    exact absurd this g
  rename_i d1
  simp only [ne_eq, Decidable.not_not] at d1
  split at h
  · have := congrArg (fun x => x.2.2) h
    simp [wOK, atW] at this
  rename_i d2
  have hb : encB N = b := congrArg Prod.fst h
  have ok := netOK_iff.1 d1
  obtain ⟨f1, f2⟩ := body_facts ok
  subst hb
  have hs : (sumB (hdB ++ bodyB N)).length = 4 := rfl
  have hl : (encB N).length = (hdB ++ bodyB N).length + 4 := by unfold encB; rw [List.length_append, hs]
  have hh : hdB.length = 4 := rfl
  have hbl : (hdB ++ bodyB N).length = 4 + (bodyB N).length := by rw [List.length_append, hh]
  have hlt : ∀ x ∈ encB N, x < 256 := by
    intro x hx
    unfold encB at hx
    rcases List.mem_append.1 hx with g | g
    · exact f2 x g
    · exact sumB_lt x g
  refine ⟨ok, rfl, by omega, by omega, hlt, ?_⟩
  have e1 : (encB N).take ((encB N).length - 4) = hdB ++ bodyB N := by
    rw [hl, Nat.add_sub_cancel]
    unfold encB
    exact List.take_left
  have e2 : (encB N).drop ((encB N).length - 4) = sumB (hdB ++ bodyB N) := by
    rw [hl, Nat.add_sub_cancel]
    unfold encB
    exact List.drop_left
  have e3 : (encB N).take 4 = hdB := by
    unfold encB
    rw [List.append_assoc]
    exact List.take_left (l₁ := hdB)
  have e4 : ((encB N).drop 4).take ((encB N).length - 8) = bodyB N := by
    have : (encB N).drop 4 = bodyB N ++ sumB (hdB ++ bodyB N) := by
      unfold encB
      rw [List.append_assoc]
      exact List.drop_left (l₁ := hdB)
    rw [this, show (encB N).length - 8 = (bodyB N).length by omega]
    exact List.take_left
  unfold parseR
  rw [if_neg (by omega), if_neg (by omega), e1, e2, if_neg (by simp), e3, if_neg (by simp), e4]
  unfold parseIn
  rw [rdNet_body ok]
  have : doneW (bodyB N) (bodyB N).length 0 = wOK := by simp [doneW]
  simp only [this]
  unfold parseEnd
  rw [if_neg (by simp [wOK]), if_neg (by simp [d1])]
end Go.Rm

/- Nets in bytes: the plain law: one byte turned; which errors there are; two nets. -/
set_option linter.unusedSimpArgs false
set_option linter.unusedVariables false
namespace Go.Rm

theorem turned_parse {N : NetD} {b : List Nat} (h : encR N = (b, wOK)) {k y : Nat} (hk : k < b.length) (hy : y < 256) (hne : y ≠ nth b k) : parseR (b.set k y) = (N0, atW wFile 0 11) := by
  obtain ⟨ok, hb, l1, l2, hlt, hp⟩ := encode_parse h
  have hl : (b.set k y).length = b.length := List.length_set ..
  unfold parseR
  rw [if_neg (by omega), if_neg (by omega), hl, if_pos]
  have hs : sumB (b.take (b.length - 4)) = b.drop (b.length - 4) := by
    rw [hb]
    have hs : (sumB (hdB ++ bodyB N)).length = 4 := rfl
    have hl : (encB N).length = (hdB ++ bodyB N).length + 4 := by unfold encB; rw [List.length_append, hs]
    rw [hl, Nat.add_sub_cancel]
    unfold encB
    rw [List.take_left, List.drop_left]
  intro he
  by_cases g : k < b.length - 4
  · have e1 : (b.set k y).take (b.length - 4) = (b.take (b.length - 4)).set k y := by rw [List.take_set]
    have e2 : (b.set k y).drop (b.length - 4) = b.drop (b.length - 4) := List.drop_set_of_lt g
    rw [e1, e2, ← hs] at he
    have := (sumB_set (l := b.take (b.length - 4)) (k := k) (y := y) (by simp; omega) hy (fun x hx => hlt x (List.mem_of_mem_take hx))).1 he
    rw [nth_take g] at this
    exact hne this
  · have e1 : (b.set k y).take (b.length - 4) = b.take (b.length - 4) := by rw [List.take_set, List.set_eq_of_length_le (by simp; omega)]
    rw [e1, hs] at he
    have := congrArg (fun l => nth l (k - (b.length - 4))) he
    skip
    rw [nth_drop', nth_drop', show b.length - 4 + (k - (b.length - 4)) = k by omega] at this
    have e : nth (b.set k y) k = y := by simp [nth, List.getD_eq_getElem?_getD, hk]
    exact hne (e.symm.trans this.symm)

theorem cut_parse {b : List Nat} (h1 : b.length ≤ 65536) {j : Nat} (hj : j < 8) : parseR (b.take j) = (N0, atW wFile 0 3) := by
  have : (b.take j).length ≤ j := by simp; omega
  unfold parseR
  rw [if_neg (by omega), if_pos (by omega)]

theorem enc_apart {N M : NetD} {a b : List Nat} (hN : encR N = (a, wOK)) (hM : encR M = (b, wOK)) : a = b ↔ N = M := by
  obtain ⟨_, _, _, _, _, p⟩ := encode_parse hN
  obtain ⟨_, _, _, _, _, q⟩ := encode_parse hM
  constructor
  · intro e
    rw [e, q] at p
    exact (congrArg Prod.fst p).symm
  · intro e
    rw [e, hM] at hN
    exact (congrArg Prod.fst hN).symm

-- which errors there are
theorem scanF_err : ∀ {f i acc : Nat} {bs : List Nat}, (scanF f i acc bs).2.2 ≤ 3 := by
  intro f
  induction f with
  | zero => intro i acc bs; simp [scanF]
  | succ f ih =>
    intro i acc bs
    cases bs with
    | nil => simp [scanF]
    | cons x r =>
      simp only [scanF]
      split
      · exact ih
      · split <;> simp
theorem rdU_err {bs : List Nat} {a most : Nat} {bad : Int} (h : bad ≠ 11) : (rdU bs a bad most).2.2 ≠ 11 := by
  unfold rdU
  split
  · exact h
  · split
    · have := scanF_err (f := 10) (i := 0) (acc := 0) (bs := bs.drop a)
      simp only [scanR] at *
      omega
    · split <;> simp
theorem rdI_err {bs : List Nat} {a most : Nat} {bad : Int} (h : bad ≠ 11) : (rdI bs a bad most).2.2 ≠ 11 := by
  unfold rdI
  split
  · exact rdU_err h
  · split <;> simp
theorem itr_err {α : Type} {f : α → α} {p : α → Prop} (hf : ∀ x, p x → p (f x)) {a : α} (h : p a) : ∀ {n : Nat}, p (itr f n a) := by
  intro n
  induction n with
  | zero => exact h
  | succ n ih => exact hf _ ih
theorem rdT_err {bs : List Nat} {a : Nat} {bad : Int} (h : bad ≠ 11) : (rdT bs a bad).2.2 ≠ 11 := by
  unfold rdT
  refine itr_err (f := stC bs) (p := fun x => x.2.2 ≠ 11) (fun x hx => ?_) ?_
  · unfold stC
    split
    · exact hx
    · exact rdU_err hx
  · exact rdU_err (rdU_err h)
theorem rdNet_err {bs : List Nat} : (rdNet bs).2.2 ≠ 11 := by
  unfold rdNet
  refine itr_err (f := stA bs) (p := fun x => x.2.2 ≠ 11) (fun x hx => ?_) ?_
  · unfold stA
    split
    · exact hx
    · exact rdU_err (rdU_err (rdU_err hx))
  · refine itr_err (f := stV bs) (p := fun x => x.2.2 ≠ 11) (fun x hx => ?_) ?_
    · unfold stV
      split
      · exact hx
      · exact rdU_err (rdI_err (rdI_err hx))
    · refine itr_err (f := stT bs) (p := fun x => x.2.2 ≠ 11) (fun x hx => ?_) ?_
      · unfold stT
        split
        · exact hx
        · exact rdT_err hx
      · exact rdU_err (rdU_err (rdU_err (by decide)))
theorem orW_err {a b : Wr} (ha : a.2 ≠ 11) (hb : b.2 ≠ 11) : (orW a b).2 ≠ 11 := by unfold orW; split <;> assumption
theorem tabWr_err {t : Tab} : (tabWr t).2 ≠ 11 := by
  unfold tabWr tabW sidesW turnW
  repeat' split
  all_goals simp_all [wOK]
theorem typesW_err : ∀ {l : List Tab} {k : Nat}, (typesW k l).2 ≠ 11 := by
  intro l
  induction l with
  | nil => intro k; simp [typesW, wOK]
  | cons t r ih =>
    intro k
    simp only [typesW]
    split
    · unfold withinW
      split
      · simp [wOK]
      · exact tabWr_err
    · exact ih
theorem vertsW_err : ∀ {l : List Tri} {n k : Nat}, (vertsW n k l).2 ≠ 11 := by
  intro l
  induction l with
  | nil => intro n k; simp [vertsW, wOK]
  | cons t r ih =>
    intro n k
    simp only [vertsW]
    split
    · unfold vertW atW
      repeat' split
      all_goals simp [wOK]
    · exact ih
theorem arcsW_err : ∀ {l : List Tri} {n k : Nat}, (arcsW n k l).2 ≠ 11 := by
  intro l
  induction l with
  | nil => intro n k; simp [arcsW, wOK]
  | cons t r ih =>
    intro n k
    simp only [arcsW]
    split
    · unfold arcW atW
      repeat' split
      all_goals simp [wOK]
    · exact ih
theorem meetW_err : ∀ {l : List Tri} {N : NetD} {k : Nat}, (meetW N k l).2 ≠ 11 := by
  intro l
  induction l with
  | nil => intro N k; simp [meetW, wOK]
  | cons t r ih =>
    intro N k
    simp only [meetW]
    split
    · unfold meet1 atW
      repeat' split
      all_goals simp [wOK]
    · exact ih
theorem netW_err {N : NetD} : (netW N).2 ≠ 11 := by
  unfold netW
  refine orW_err ?_ (orW_err typesW_err (orW_err vertsW_err (orW_err arcsW_err meetW_err)))
  unfold sizeW atW
  repeat' split
  all_goals simp [wOK]
theorem parseIn_err {bs : List Nat} : (parseIn bs).2.2 ≠ 11 := by
  unfold parseIn parseEnd
  split
  · unfold doneW byteW
    split
    · exact rdNet_err
    · split <;> simp [wOK]
  · split
    · exact netW_err
    · simp [wOK]
theorem inner_parse {b : List Nat} (hl : b.length ≤ 2000) : (parseR ((hdB ++ b) ++ sumB (hdB ++ b))).2.2 ≠ 11 := by
  have hs : (sumB (hdB ++ b)).length = 4 := rfl
  have hh : hdB.length = 4 := rfl
  have hL : ((hdB ++ b) ++ sumB (hdB ++ b)).length = (hdB ++ b).length + 4 := by rw [List.length_append, hs]
  have h2 : (hdB ++ b).length = 4 + b.length := by rw [List.length_append, hh]
  unfold parseR
  rw [if_neg (by omega), if_neg (by omega), hL, Nat.add_sub_cancel, List.take_left, List.drop_left, if_neg (by simp)]
  have e3 : (hdB ++ b ++ sumB (hdB ++ b)).take 4 = hdB := by
    rw [List.append_assoc]
    exact List.take_left (l₁ := hdB)
  rw [if_neg (by rw [e3]; simp)]
  exact parseIn_err
/-- the errors that Parse tells have parts, few -/
theorem parse_parts {bs : List Nat} : ((parseR bs).2.2 ≠ 0 → 0 < (parseR bs).2.1.length) ∧ (parseR bs).2.1.length ≤ 4 := by
  have hn := fun N => netW_len (N := N)
  unfold parseR
  repeat' split
  all_goals first | simp [atW] | skip
  unfold parseIn parseEnd
  split
  · unfold doneW byteW
    repeat' split
    all_goals simp [wOK]
  · split
    · have := hn (rdNet (List.take (bs.length - 8) (List.drop 4 bs))).1
      exact ⟨this.2, by have := this.1; simp only; omega⟩
    · simp [wOK]
theorem enc_parts {N : NetD} : ((encR N).2.2 ≠ 0 → 0 < (encR N).2.1.length) ∧ (encR N).2.1.length ≤ 4 := by
  have hn := netW_len (N := N)
  unfold encR
  split
  · exact ⟨hn.2, by have := hn.1; simp only; omega⟩
  · split <;> simp [atW, wOK]
theorem ok_small {N : NetD} (ok : NetOK N) : NetSmall N := by
  have b1 := ok.bv
  have b2 := ok.ba
  have b3 := ok.bt
  refine ⟨by omega, by omega, by omega, fun i hi => ?_⟩
  have := (tabs_ok ok (t := nthB N.ts i) (by rw [nthB_eq hi]; exact List.getElem_mem hi)).2.2.2.2.2.1
  omega
theorem N0_small : NetSmall N0 := ⟨by simp [N0], by simp [N0], by simp [N0], fun i hi => by simp [N0] at hi⟩
theorem parse_small {bs : List Nat} (hb : ∀ x ∈ bs, x < 256) : NetSmall (parseR bs).1 := by
  by_cases h : (parseR bs).2.2 = 0
  · exact ok_small (parse_encode hb h).1
  · have : (parseR bs).1 = N0 := by
      unfold parseR at *
      split
      · rfl
      · rename_i c1
        rw [if_neg c1] at h
        split
        · rfl
        · rename_i c2
          rw [if_neg c2] at h
          split
          · rfl
          · rename_i c3
            rw [if_neg c3] at h
            split
            · rfl
            · rename_i c4
              rw [if_neg c4] at h
              unfold parseIn parseEnd at *
              split
              · rfl
              · rename_i d1
                rw [if_neg d1] at h
                split
                · rfl
                · rename_i d2
                  rw [if_neg d2] at h
                  exact absurd rfl h
    rw [this]
    exact N0_small
end Go.Rm
