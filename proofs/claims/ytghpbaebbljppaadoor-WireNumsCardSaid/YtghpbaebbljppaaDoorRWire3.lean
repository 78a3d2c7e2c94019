/- Numbers in bytes: a reader's Uint, Int, Bytes. -/
import Derived.Test.YtghpbaebbljppaaDoorRWire2
set_option linter.unusedSimpArgs false
set_option linter.unusedVariables false
namespace Go.Rm

/-- what Uint reads: the number, the place behind it, the error -/
def rdU (bs : List Nat) (at' : Nat) (bad : Int) (most : Nat) : Nat × Nat × Int :=
  if bad ≠ 0 then (0, at', bad)
  else if (scanR (bs.drop at')).2.2 ≠ 0 then (0, at', ((scanR (bs.drop at')).2.2 : Int))
  else if most < (scanR (bs.drop at')).1 then (0, at', 8)
  else ((scanR (bs.drop at')).1, at' + (scanR (bs.drop at')).2.1, 0)

section
variable {Y : Sys} {h h' : Heap}

theorem RowB.drop {s : Sl} {bs : List Nat} {a : Nat} (r : RowB h s bs) (ha : a ≤ bs.length) : RowB h { s with o := if s.c = a then s.o else s.o + a * 1, n := s.n - a, c := s.c - a } (bs.drop a) := by
  have hl := r.len
  refine ⟨⟨fun h => by have := r.ok.nil h; simp; omega, by have := r.ok.le; simp; omega, ?_⟩, by simp; omega, fun i hi => ?_, fun i hi => ?_⟩
  · rcases r.ok.spot with h | h
    · exact .inl h
    · exact .inr (by simp; omega)
  · simp at hi
    have := r.val (a + i) (by omega)
    have hc : s.c ≠ a := by have := r.ok.le; omega
    simp only [hc, if_false, Nat.mul_one]
    rw [show s.o + a + i = s.o + (a + i) by omega, this]
    congr 2
    simp [nth]
  · simp at hi
    have := r.lt (a + i) (by omega)
    simpa [nth] using this

theorem scanR_facts {bs : List Nat} (hb : ∀ i, i < bs.length → nth bs i < 256) : (scanR bs).1 < 2 ^ 64 ∧ (scanR bs).2.1 ≤ bs.length ∧ (scanR bs).2.2 ≤ 3 := by
  have hb' : ∀ x ∈ bs, x < 256 := by
    intro x hx
    obtain ⟨i, hi, rfl⟩ := List.getElem_of_mem hx
    have := hb i hi
    simpa [nth, hi] using this
  have := scanF_bound (f := 10) (i := 0) (acc := 0) (bs := bs) (by omega) (by simp) hb'
  unfold scanR
  refine ⟨this.1, by omega, this.2.2.2⟩

theorem rdU_facts {bs : List Nat} {at' : Nat} {bad : Int} {most : Nat} (hb : ∀ i, i < bs.length → nth bs i < 256) (ha : at' ≤ bs.length) : (rdU bs at' bad most).1 < 2 ^ 64 ∧ (rdU bs at' bad most).2.1 ≤ bs.length := by
  have hd : ∀ i, i < (bs.drop at').length → nth (bs.drop at') i < 256 := by
    intro i hi
    simp at hi
    have := hb (at' + i) (by omega)
    simpa [nth] using this
  have := scanR_facts hd
  simp at this
  unfold rdU
  split
  · simp; omega
  · split
    · simp; omega
    · split
      · simp; omega
      · simp; omega

theorem RdR.set2 {p at' : Nat} {bs : List Nat} {bad : Int} {s : Sl} (r : RdR h p bs at' bad s) (c : Int) : RdR (hset h p 2 (.int .i64 c)) p bs at' c s := by
  have hb := r.blk.set (o := 2) (v := .int .i64 c)
  simp at hb
  exact ⟨hb, r.row.mod (S := fun j => j = p) (Mod.set rfl) (fun hne h => r.ne hne h), r.ne, r.le, r.big⟩
theorem RdR.set1 {p at' : Nat} {bs : List Nat} {bad : Int} {s : Sl} (r : RdR h p bs at' bad s) {a : Nat} (ha : a ≤ bs.length) : RdR (hset h p 1 (.int .i64 a)) p bs a bad s := by
  have hb := r.blk.set (o := 1) (v := .int .i64 a)
  simp at hb
  exact ⟨hb, r.row.mod (S := fun j => j = p) (Mod.set rfl) (fun hne h => r.ne hne h), r.ne, ha, r.big⟩

theorem ruint_spec (W : WireFns Y) {p at' : Nat} {bs : List Nat} {bad : Int} {s : Sl} (r : RdR h p bs at' bad s) {most : Nat} {R : Value → Heap → Prop}
    (hr : ∀ h', Mod (fun j => j = p) h h' → RdR h' p bs (rdU bs at' bad most).2.1 (rdU bs at' bad most).2.2 s → R (.int .u64 ((rdU bs at' bad most).1 : Int)) h') :
    CallP Y F.wire_Reader_Uint [.pointer (some ⟨p, 0, none⟩), .int .u64 most] h R := by
  refine .of_has W.RUint rfl ?_
  by_cases h0 : bad = 0
  rotate_left
  · have hv : rdU bs at' bad most = (0, at', bad) := by simp [rdU, h0]
    rw [hv] at hr
    simp [S_wire_Reader_Uint, FnS.wp, r.blk.hc, h0]
    exact hr h (Mod.refl h) r
  subst h0
  have hl := r.row.len
  have ha : (at' : Int) ≤ s.n := by have := r.le; omega
  have rd := r.row.drop r.le
  simp only [Nat.mul_one] at rd
  have hbig := r.big
  have fx := scanR_facts rd.lt
  simp at fx
  simp [S_wire_Reader_Uint, FnS.wp, r.blk.hc, sem_slc_lo r.row.ok, ha]
  refine scan_spec W rd (by simp; omega) ?_
  have hv : rdU bs at' 0 most = if (scanR (bs.drop at')).2.2 ≠ 0 then (0, at', ((scanR (bs.drop at')).2.2 : Int)) else if most < (scanR (bs.drop at')).1 then (0, at', 8) else ((scanR (bs.drop at')).1, at' + (scanR (bs.drop at')).2.1, 0) := by
    simp [rdU]
  rw [hv] at hr
  generalize scanR (bs.drop at') = q at *
  obtain ⟨v, n, e⟩ := q
  simp only at hr fx
  have b2 : ∀ c : Int, (hc h p 2).isSome = true ∧ hfz h p 2 = false := fun c => ⟨by rw [r.blk.hc]; rfl, r.blk.hfz⟩
  by_cases he : e = 0
  · subst he
    by_cases hm : most < v
    · have hm' : (most : Int) < v := by omega
      rw [if_neg (by simp), if_pos hm] at hr
      have := hr _ (Mod.set rfl) (r.set2 8)
      simp [hm', r.blk.hc, StoreP.open, r.blk.hfz]
      simpa using this
    · have hm' : ¬ (most : Int) < v := by omega
      rw [if_neg (by simp), if_neg hm] at hr
      have w : IntKind.i64.wrap ((at' : Int) + n) = (at' : Int) + n := i64_wrap (by have := r.le; omega)
      have := hr _ (Mod.set rfl) (r.set1 (a := at' + n) (by have := r.le; omega))
      simp [hm', r.blk.hc, StoreP.open, r.blk.hfz, w]
      simpa using this
  · have he' : ¬ (e : Int) = 0 := by omega
    rw [if_pos (by simpa using he)] at hr
    have := hr _ (Mod.set rfl) (r.set2 (e : Int))
    simp [he, r.blk.hc, StoreP.open, r.blk.hfz]
    simpa using this

/-- a number from its bytes' number: -/
def unz (u : Nat) : Int := if u % 2 = 1 then -1 - ((u / 2 : Nat) : Int) else ((u / 2 : Nat) : Int)
def amt (u : Nat) : Nat := u / 2 + u % 2
def rdI (bs : List Nat) (at' : Nat) (bad : Int) (most : Nat) : Int × Nat × Int :=
  if (rdU bs at' bad 18446744073709551615).2.2 ≠ 0 then (0, (rdU bs at' bad 18446744073709551615).2.1, (rdU bs at' bad 18446744073709551615).2.2)
  else if most < amt (rdU bs at' bad 18446744073709551615).1 then (0, at', 8)
  else (unz (rdU bs at' bad 18446744073709551615).1, (rdU bs at' bad 18446744073709551615).2.1, 0)

theorem and1_64 {u : Nat} (hu : u < 2 ^ 64) : ibin .and .u64 (u : Int) .u64 1 = some (.int .u64 ((u % 2 : Nat) : Int)) := by
  rw [ib_and]
  have e1 : (BitVec.ofInt 64 (u : Int)).toNat = u := by
    rw [BitVec.ofInt_natCast, BitVec.toNat_ofNat]; exact Nat.mod_eq_of_lt (by omega)
  have e2 : (BitVec.ofInt 64 (1 : Int)).toNat = 1 := by decide
  have : (BitVec.ofInt IntKind.u64.bits (u : Int) &&& BitVec.ofInt IntKind.u64.bits 1).toNat = u % 2 := by
    show (BitVec.ofInt 64 (u : Int) &&& BitVec.ofInt 64 1).toNat = u % 2
    rw [BitVec.toNat_and, e1, e2, Nat.and_one_is_mod]
  rw [this, u64_wrap (by omega)]
theorem shr1_64 {u : Nat} {j : IntKind} : ibin .shr .u64 (u : Int) j 1 = some (.int .u64 ((u / 2 : Nat) : Int)) := by
  rw [ib_shr (by omega)]
  have : min (1 : Int).toNat IntKind.u64.bits = 1 := by decide
  rw [this]
  congr 2
  rw [Int.fdiv_eq_ediv_of_nonneg _ (by decide)]
  simp

theorem rint_spec (W : WireFns Y) {p at' : Nat} {bs : List Nat} {bad : Int} {s : Sl} (r : RdR h p bs at' bad s) {most : Nat} {R : Value → Heap → Prop}
    (hr : ∀ h', Mod (fun j => j = p) h h' → RdR h' p bs (rdI bs at' bad most).2.1 (rdI bs at' bad most).2.2 s → R (.int .i64 (rdI bs at' bad most).1) h') :
    CallP Y F.wire_Reader_Int [.pointer (some ⟨p, 0, none⟩), .int .u64 most] h R := by
  refine .of_has W.RInt rfl ?_
  simp [S_wire_Reader_Int, FnS.wp, r.blk.hc]
  refine ruint_spec W r (most := 18446744073709551615) ?_
  intro h1 m1 r1
  have fx := rdU_facts (bad := bad) (most := 18446744073709551615) r.row.lt r.le
  have hv : rdI bs at' bad most = if (rdU bs at' bad 18446744073709551615).2.2 ≠ 0 then (0, (rdU bs at' bad 18446744073709551615).2.1, (rdU bs at' bad 18446744073709551615).2.2)
    else if most < amt (rdU bs at' bad 18446744073709551615).1 then (0, at', 8) else (unz (rdU bs at' bad 18446744073709551615).1, (rdU bs at' bad 18446744073709551615).2.1, 0) := rfl
  rw [hv] at hr
  generalize rdU bs at' bad 18446744073709551615 = q at *
  obtain ⟨u, a, e⟩ := q
  simp only at hr fx r1
  have hle := r1.le
  by_cases he : e = 0
  rotate_left
  · rw [if_pos he] at hr
    simp [r1.blk.hc, he]
    exact hr h1 m1 r1
  subst he
  rw [if_neg (by simp)] at hr
  have hu := fx.1
  have w1 : IntKind.i64.wrap ((u / 2 : Nat) : Int) = ((u / 2 : Nat) : Int) := i64_wrap (by omega)
  obtain ⟨d, hd⟩ : ∃ d, d = u / 2 := ⟨_, rfl⟩
  obtain ⟨b, hb⟩ : ∃ b, b = u % 2 := ⟨_, rfl⟩
  have k1 : ibin .shr .u64 (u : Int) .u64 1 = some (.int .u64 (d : Int)) := by rw [shr1_64, hd]
  have k2 : ibin .and .u64 (u : Int) .u64 1 = some (.int .u64 (b : Int)) := by rw [and1_64 hu, hb]
  have w1 : IntKind.i64.wrap (d : Int) = (d : Int) := i64_wrap (by omega)
  have w2 : IntKind.i64.wrap (-1 - (d : Int)) = -1 - (d : Int) := i64_wrap (by omega)
  have w3 : IntKind.u64.wrap ((d : Int) + 1) = (d : Int) + 1 := u64_wrap (by omega)
  have hamt : amt u = d + b := by simp [amt, hd, hb]
  have hunz : unz u = if b = 1 then -1 - (d : Int) else (d : Int) := by simp [unz, hd, hb]
  rw [hamt, hunz] at hr
  have tail : ∀ (am : Nat) (v : Int), am = d + b → v = (if b = 1 then -1 - (d : Int) else (d : Int)) → (most < am → R (.int .i64 0) (hset (hset h1 p 1 (.int .i64 at')) p 2 (.int .i64 8))) ∧ (¬ most < am → R (.int .i64 v) h1) := by
    intro am v ham hvv
    subst ham; subst hvv
    constructor
    · intro hm
      rw [if_pos hm] at hr
      exact hr _ (m1.trans ((Mod.set (S := fun j => j = p) rfl).trans (Mod.set rfl))) ((r1.set1 (a := at') r.le).set2 8)
    · intro hm
      rw [if_neg hm] at hr
      exact hr h1 m1 r1
  have B1 := (r1.set1 (a := at') r.le).blk
  by_cases hb1 : b = 1
  · have hb1' : ((b : Nat) : Int) = 1 := by omega
    obtain ⟨t1, t2⟩ := tail (d + 1) (-1 - (d : Int)) (by omega) (by rw [if_pos hb1])
    by_cases hm : most < d + 1
    · have hm' : (most : Int) < (d : Int) + 1 := by omega
      simp [r1.blk.hc, k1, k2, w1, w2, w3, hb1, hm', StoreP.open, r1.blk.hfz, B1.hc, B1.hfz]
      exact t1 hm
    · have hm' : ¬ (most : Int) < (d : Int) + 1 := by omega
      simp [r1.blk.hc, k1, k2, w1, w2, w3, hb1, hm']
      exact t2 hm
  · have hb1' : ¬ ((b : Nat) : Int) = 1 := by omega
    obtain ⟨t1, t2⟩ := tail d (d : Int) (by omega) (by rw [if_neg hb1])
    by_cases hm : most < d
    · have hm' : (most : Int) < (d : Int) := by omega
      simp [r1.blk.hc, k1, k2, w1, w2, w3, hb1, hb1', hm, StoreP.open, r1.blk.hfz, B1.hc, B1.hfz]
      exact t1 hm
    · have hm' : ¬ (most : Int) < (d : Int) := by omega
      simp [r1.blk.hc, k1, k2, w1, w2, w3, hb1, hb1', hm]
      exact t2 hm

/-- what Bytes takes: the bytes, the place behind, the error -/
def rdB (bs : List Nat) (at' : Nat) (bad : Int) (n : Int) : List Nat × Nat × Int :=
  if bad ≠ 0 then ([], at', bad) else if n < 0 then ([], at', 1) else if (bs.length : Int) - at' < n then ([], at', 3) else ((bs.drop at').take n.toNat, at' + n.toNat, 0)

theorem RowB.cut {s : Sl} {bs : List Nat} {a n : Nat} (r : RowB h s bs) (ha : a + n ≤ bs.length) : RowB h { s with o := if s.c = a then s.o else s.o + a * 1, n := n, c := s.c - a } ((bs.drop a).take n) := by
  have d := r.drop (a := a) (by omega)
  have hl := r.len
  refine ⟨⟨fun h => by have := r.ok.nil h; simp; omega, by have := r.ok.le; simp; omega, d.ok.spot⟩, by simp; omega, fun i hi => ?_, fun i hi => ?_⟩
  · simp at hi
    have hi1 : i < n := by omega
    have := d.val i (by simp; omega)
    simp only at this ⊢
    rw [this]
    congr 2
    simp [nth, List.getElem?_take, hi1]
  · simp at hi
    have hi1 : i < n := by omega
    have := d.lt i (by simp; omega)
    simpa [nth, List.getElem?_take, hi1] using this

theorem rbytes_spec (W : WireFns Y) {p at' : Nat} {bs : List Nat} {bad : Int} {s : Sl} (r : RdR h p bs at' bad s) {n : Int} (hn : -9223372036854775808 ≤ n ∧ n ≤ 9223372036854775807) {R : Value → Heap → Prop}
    (hr : ∀ h' s', Mod (fun j => j = p) h h' → RdR h' p bs (rdB bs at' bad n).2.1 (rdB bs at' bad n).2.2 s → RowB h' s' (rdB bs at' bad n).1 → s'.sp = none → (s'.nl = true ∨ h.size ≤ s'.b) → R s'.v h') :
    CallP Y F.wire_Reader_Bytes [.pointer (some ⟨p, 0, none⟩), .int .i64 n] h R := by
  have nilB : ∀ {h : Heap}, RowB h Sl.nil [] := ⟨Sl.nil_ok, rfl, fun i hi => by simp at hi, fun i hi => by simp at hi⟩
  refine .of_has W.Bytes rfl ?_
  have hl := r.row.len
  have hle := r.le
  have hbig := r.big
  by_cases h0 : bad = 0
  rotate_left
  · have hv : rdB bs at' bad n = ([], at', bad) := by simp [rdB, h0]
    rw [hv] at hr
    simp [S_wire_Reader_Bytes, FnS.wp, r.blk.hc, h0]
    exact hr h Sl.nil (Mod.refl h) r nilB rfl (.inl rfl)
  subst h0
  by_cases c1 : n < 0
  · have hv : rdB bs at' 0 n = ([], at', 1) := by simp [rdB, c1]
    rw [hv] at hr
    simp [S_wire_Reader_Bytes, FnS.wp, r.blk.hc, c1, StoreP.open, r.blk.hfz]
    exact hr _ Sl.nil (Mod.set rfl) (r.set2 1) nilB rfl (.inl rfl)
  have w1 : IntKind.i64.wrap ((s.n : Int) - at') = (s.n : Int) - at' := i64_wrap (by omega)
  by_cases c2 : (s.n : Int) - at' < n
  · have hv : rdB bs at' 0 n = ([], at', 3) := by
      simp only [rdB, hl]
      rw [if_neg (by simp), if_neg c1, if_pos c2]
    rw [hv] at hr
    simp [S_wire_Reader_Bytes, FnS.wp, r.blk.hc, c1, w1, c2, StoreP.open, r.blk.hfz]
    exact hr _ Sl.nil (Mod.set rfl) (r.set2 3) nilB rfl (.inl rfl)
  have hv : rdB bs at' 0 n = ((bs.drop at').take n.toNat, at' + n.toNat, 0) := by
    simp only [rdB, hl]
    rw [if_neg (by simp), if_neg c1, if_neg c2]
  rw [hv] at hr
  obtain ⟨N, rfl⟩ : ∃ N : Nat, n = N := ⟨n.toNat, by omega⟩
  have w2 : IntKind.i64.wrap ((at' : Int) + N) = (at' : Int) + N := i64_wrap (by omega)
  have hc := r.row.ok.le
  have q1 : (at' : Int) ≤ (at' : Int) + N := by omega
  have q2 : (at' : Int) + N ≤ s.c := by omega
  have rc := r.row.cut (a := at') (n := N) (by omega)
  simp [S_wire_Reader_Bytes, FnS.wp, r.blk.hc, c1, w1, c2, w2, sem_slc_both r.row.ok, q1, q2]
  have e1 : ((at' : Int) + N).toNat - at' = N := by omega
  rw [e1]
  simp only [Nat.mul_one] at rc
  refine cloneB_spec W.Clone rc (by simp; omega) ?_
  intro h1 s' e1 o1 hs'
  have r1 := r.ext e1
  have plt := r.blk.lt
  have ro := o1.rowB rc.lt
  simp [r1.blk.hc, w2, StoreP.open, r1.blk.hfz]
  have := r1.set1 (a := at' + N) (by omega)
  refine hr _ s' ((e1.mono fun _ _ h => h.elim).trans (Mod.set rfl)) (by simpa using this) ?_ o1.sp hs'
  simp
  refine ro.mod (S := fun j => j = p) (Mod.set rfl) (fun hne hp => ?_)
  have hnl : s'.nl = false := by
    have h0 : 0 < (bytesL (List.take N (List.drop at' bs))).length := by
      rw [bytesL_len]
      exact List.length_pos_iff.2 hne
    obtain ⟨_, _, _, hnl⟩ := o1.blk h0
    exact hnl
  have := hs'.resolve_left (by rw [hnl]; simp)
  omega
end
end Go.Rm
