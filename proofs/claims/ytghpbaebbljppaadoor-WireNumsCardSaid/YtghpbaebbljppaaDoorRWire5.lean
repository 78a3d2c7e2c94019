/- Numbers in bytes: Sum; bytes as a string. -/
import Derived.Test.YtghpbaebbljppaaDoorRWire4
import Derived.Laws.Strings
set_option linter.unusedSimpArgs false
set_option linter.unusedVariables false
namespace Go.Rm

def strB (bs : List Nat) : ByteArray := ⟨(bs.map UInt8.ofNat).toArray⟩

theorem bytesV_bytesL : ∀ {bs : List Nat}, bytesV (bytesL bs) = some (bs.map UInt8.ofNat) := by
  intro bs
  induction bs with
  | nil => rfl
  | cons x r ih =>
    have : bytesL (x :: r) = .int .u8 (x : Int) :: bytesL r := rfl
    rw [this]
    simp only [bytesV, ih, Option.bind_some, Int.toNat_natCast, List.map_cons]

theorem strB_eq {a b : List Nat} (ha : ∀ x ∈ a, x < 256) (hb : ∀ x ∈ b, x < 256) : ((strB a).toList == (strB b).toList) = decide (a = b) := by
  have inj : ∀ {a b : List Nat}, (∀ x ∈ a, x < 256) → (∀ x ∈ b, x < 256) → a.map UInt8.ofNat = b.map UInt8.ofNat → a = b := by
    intro a
    induction a with
    | nil =>
      intro b _ _ h
      cases b with
      | nil => rfl
      | cons y b => simp at h
    | cons x a ih =>
      intro b ha hb h
      cases b with
      | nil => simp at h
      | cons y b =>
        simp only [List.map_cons, List.cons.injEq] at h
        have h1 : x = y := by
          have hx := ha x (by simp)
          have hy := hb y (by simp)
          have := congrArg UInt8.toNat h.1
          simp at this
          omega
        rw [h1, ih (fun z hz => ha z (by simp [hz])) (fun z hz => hb z (by simp [hz])) h.2]
  unfold strB
  rw [Go.ByteArray.toList_mk, Go.ByteArray.toList_mk]
  by_cases h : a = b
  · subst h; simp
  · rw [decide_eq_false h]
    simp only [beq_eq_false_iff_ne]
    exact fun e => h (inj ha hb e)

theorem mem_lt {bs : List Nat} (h : ∀ i, i < bs.length → nth bs i < 256) : ∀ x ∈ bs, x < 256 := by
  intro x hx
  obtain ⟨i, hi, rfl⟩ := List.getElem_of_mem hx
  have := h i hi
  simpa [nth, hi] using this
theorem lt_mem {bs : List Nat} (h : ∀ x ∈ bs, x < 256) : ∀ i, i < bs.length → nth bs i < 256 := by
  intro i hi
  have := h bs[i] (List.getElem_mem hi)
  simpa [nth, hi] using this

section
variable {Y : Sys} {h h' : Heap}

theorem sem_b2s {s : Sl} {bs : List Nat} (r : RowB h s bs) (hsp : s.sp = none) : IOp.sem Y h .b2s [s.v] = some (.string (strB bs)) := by
  have hr := rd_rowB r
  rw [r.len] at hr
  cases hnl : s.nl with
  | true =>
    have : bs = [] := List.eq_nil_of_length_eq_zero (by rw [r.len]; exact (r.ok.nil hnl).1)
    subst this
    unfold Sl.v
    rw [hnl]
    rfl
  | false =>
    unfold Sl.v
    rw [hnl, hsp]
    show (rd h s.b s.o s.n).bind _ = _
    rw [hr]
    simp only [Option.bind_some, bytesV_bytesL]
    rfl

theorem ef_bslice4 {K : Value → Heap → Prop} {z : Value} {k : IntKind} {a b c d : Int} :
    Ef.wp h K (.bslice 4 1 #[z] [0, 1, 2, 3]) [.int k a, .int k b, .int k c, .int k d] = ∀ t : TypeId, K (.slice (some ⟨h.size, 0, none⟩) 4 4) (h.push (.cells #[.int k a, .int k b, .int k c, .int k d] t)) := by
  have e : Instr.fill (fun i => some (i * 1, 1)) (zeros #[z] (4 * 1)) ([0, 1, 2, 3].zip [.int k a, .int k b, .int k c, .int k d]) = some #[.int k a, .int k b, .int k c, .int k d] := by
    simp [Instr.fill, zeros_one]
    rfl
  simp only [Ef.wp, e]
theorem ef_bslice2 {K : Value → Heap → Prop} {z : Value} {k : IntKind} {a b : Int} :
    Ef.wp h K (.bslice 2 1 #[z] [0, 1]) [.int k a, .int k b] = ∀ t : TypeId, K (.slice (some ⟨h.size, 0, none⟩) 2 2) (h.push (.cells #[.int k a, .int k b] t)) := by
  have e : Instr.fill (fun i => some (i * 1, 1)) (zeros #[z] (2 * 1)) ([0, 1].zip [.int k a, .int k b]) = some #[.int k a, .int k b] := by
    simp [Instr.fill, zeros_one]
    rfl
  simp only [Ef.wp, e]

/-- a row that is laid whole -/
theorem own_laid {bs : List Nat} {t : TypeId} (hn : bs.length ≤ 1000) : Own (h.push (.cells (bytesL bs).toArray t)) 1 (Sl.at h.size bs.length bs.length) (bytesL bs) := by
  refine ⟨by simp, .inr ⟨rfl, rfl, rfl, Nat.le_refl _, by simp; omega, _, Blk.new, by simp, ?_⟩⟩
  simp
  rw [← bytesL_len (l := bs)]
  exact List.take_length

def SumI (s : Sl) (bs : List Nat) (v1 v4 : Value) (h0 : Heap) (e : List Value) (h' : Heap) : Prop :=
  ∃ (i a c : Nat) (v4 v8 : Value), e = [s.v, v1, .int .i64 a, .int .i64 c, v4, s.v, .int .i64 s.n, .int .i64 i, v8] ∧ i ≤ s.n ∧ a < 257 ∧ c < 257 ∧ sumF 0 0 bs = sumF a c (bs.drop i) ∧ h' = h0

theorem wsum_spec (HS : Y.Has F.wire_Sum S_wire_Sum) {s : Sl} {bs : List Nat} (r : RowB h s bs) (hbig : s.n ≤ 1000000) {R : Value → Heap → Prop}
    (hr : ∀ h' s', Ext h h' → Own h' 1 s' (bytesL (sumB bs)) → s'.nl = false → h.size ≤ s'.b → R s'.v h') : CallP Y F.wire_Sum [s.v] h R := by
  refine .of_has HS rfl ?_
  have hl := r.len
  simp [S_wire_Sum, FnS.wp]
  refine wp_loop' (SumI s bs (.slice none 0 0) undef h) (fun e _ => s.n - argI e 7) ⟨0, 0, 0, _, _, rfl, by omega, by omega, by omega, by simp, rfl⟩ ?_
  rintro e h1 ⟨i, a, c, v4, v8, rfl, hi, ha, hc, hsum, rfl⟩
  by_cases hlt : i < s.n
  · have hlt' : (i : Int) < s.n := by omega
    have hx := r.lt i (by omega)
    rw [nth_drop (by omega), sumF] at hsum
    have hcell := r.at hlt
    generalize nth bs i = x at *
    have w0 : IntKind.i64.wrap (x : Int) = (x : Int) := i64_wrap (by omega)
    have w1 : IntKind.i64.wrap ((a : Int) + x) = (a : Int) + x := i64_wrap (by omega)
    obtain ⟨a', ha'⟩ : ∃ a', a' = (a + x) % 257 := ⟨_, rfl⟩
    obtain ⟨c', hc'⟩ : ∃ c', c' = (c + a') % 257 := ⟨_, rfl⟩
    have t1 : ((a : Int) + x).tmod 257 = (a' : Int) := by rw [Int.tmod_eq_emod_of_nonneg (by omega)]; omega
    have w2 : IntKind.i64.wrap ((c : Int) + a') = (c : Int) + a' := i64_wrap (by omega)
    have t2 : ((c : Int) + a').tmod 257 = (c' : Int) := by rw [Int.tmod_eq_emod_of_nonneg (by omega)]; omega
    have w3 : IntKind.i64.wrap ((i : Int) + 1) = (i : Int) + 1 := i64_wrap (by omega)
    rw [← ha', ← hc'] at hsum
    simp [hlt', sem_idxa r.ok, hcell, w0, w1, ib_rem, t1, w2, t2, w3]
    exact ⟨⟨i + 1, a', c', _, _, rfl, by omega, by omega, by omega, hsum, rfl⟩, by simp [argI]; omega⟩
  · have hlt' : ¬ (i : Int) < s.n := by omega
    rw [List.drop_eq_nil_of_le (by omega)] at hsum
    simp only [sumF] at hsum
    have q1 : (sumF 0 0 bs).1 = a := by rw [hsum]
    have q2 : (sumF 0 0 bs).2 = c := by rw [hsum]
    obtain ⟨b0, hb0⟩ : ∃ b, b = a % 256 := ⟨_, rfl⟩
    obtain ⟨b1, hb1⟩ : ∃ b, b = a / 256 := ⟨_, rfl⟩
    obtain ⟨b2, hb2⟩ : ∃ b, b = c % 256 := ⟨_, rfl⟩
    obtain ⟨b3, hb3⟩ : ∃ b, b = c / 256 := ⟨_, rfl⟩
    have k0 : ibin .and .i64 (a : Int) .i64 255 = some (.int .i64 (b0 : Int)) := by rw [ib_and255 ha, hb0]
    have k1 : ∀ j, ibin .shr .i64 (a : Int) j 8 = some (.int .i64 (b1 : Int)) := fun j => by rw [shr8_64, hb1]
    have k2 : ibin .and .i64 (c : Int) .i64 255 = some (.int .i64 (b2 : Int)) := by rw [ib_and255 hc, hb2]
    have k3 : ∀ j, ibin .shr .i64 (c : Int) j 8 = some (.int .i64 (b3 : Int)) := fun j => by rw [shr8_64, hb3]
    have w0 : IntKind.u8.wrap (b0 : Int) = (b0 : Int) := u8_wrap (by omega)
    have w1 : IntKind.u8.wrap (b1 : Int) = (b1 : Int) := u8_wrap (by omega)
    have w2 : IntKind.u8.wrap (b2 : Int) = (b2 : Int) := u8_wrap (by omega)
    have w3 : IntKind.u8.wrap (b3 : Int) = (b3 : Int) := u8_wrap (by omega)
    have hs : sumB bs = [b0, b1, b2, b3] := by simp only [sumB, q1, q2, hb0, hb1, hb2, hb3]
    simp [hlt', k0, k1, k2, k3, w0, w1, w2, w3, ef_bslice4]
    intro t
    have := own_laid (h := h1) (bs := [b0, b1, b2, b3]) (t := t) (by simp)
    rw [← hs] at this
    exact hr _ _ Mod.push (by rw [hs] at this ⊢; exact this) rfl (Nat.le_refl _)

def RSumI (s : Sl) (bs : List Nat) (v1 : Value) (h0 : Heap) (e : List Value) (h' : Heap) : Prop :=
  ∃ (i a c : Nat) (v5 : Value), e = [s.v, v1, .int .i64 a, .int .i64 c, .int .i64 i, v5] ∧ i ≤ s.n ∧ a < 257 ∧ c < 257 ∧ sumF 0 0 bs = sumF a c (bs.drop i) ∧ h' = h0

theorem wrsum_spec (HS : Y.Has F.rref6_SumOf S_rref6_SumOf) {s : Sl} {bs : List Nat} (r : RowB h s bs) (hbig : s.n ≤ 1000000) {R : Value → Heap → Prop}
    (hr : ∀ h' s', Ext h h' → Own h' 1 s' (bytesL (sumB bs)) → s'.nl = false → h.size ≤ s'.b → R s'.v h') : CallP Y F.rref6_SumOf [s.v] h R := by
  refine .of_has HS rfl ?_
  have hl := r.len
  simp [S_rref6_SumOf, FnS.wp]
  refine wp_loop' (RSumI s bs (.slice none 0 0) h) (fun e _ => s.n - argI e 4) ⟨0, 0, 0, _, rfl, by omega, by omega, by omega, by simp, rfl⟩ ?_
  rintro e h1 ⟨i, a, c, v5, rfl, hi, ha, hc, hsum, rfl⟩
  by_cases hlt : i < s.n
  · have hlt' : (i : Int) < s.n := by omega
    have hx := r.lt i (by omega)
    rw [nth_drop (by omega), sumF] at hsum
    have hcell := r.at hlt
    generalize nth bs i = x at *
    have w0 : IntKind.i64.wrap (x : Int) = (x : Int) := i64_wrap (by omega)
    have w1 : IntKind.i64.wrap ((a : Int) + x) = (a : Int) + x := i64_wrap (by omega)
    obtain ⟨a', ha'⟩ : ∃ a', a' = (a + x) % 257 := ⟨_, rfl⟩
    obtain ⟨c', hc'⟩ : ∃ c', c' = (c + a') % 257 := ⟨_, rfl⟩
    have t1 : ((a : Int) + x).tmod 257 = (a' : Int) := by rw [Int.tmod_eq_emod_of_nonneg (by omega)]; omega
    have w2 : IntKind.i64.wrap ((c : Int) + a') = (c : Int) + a' := i64_wrap (by omega)
    have t2 : ((c : Int) + a').tmod 257 = (c' : Int) := by rw [Int.tmod_eq_emod_of_nonneg (by omega)]; omega
    have w3 : IntKind.i64.wrap ((i : Int) + 1) = (i : Int) + 1 := i64_wrap (by omega)
    rw [← ha', ← hc'] at hsum
    simp [hlt', sem_idxa r.ok, hcell, w0, w1, ib_rem, t1, w2, t2, w3]
    exact ⟨⟨i + 1, a', c', _, rfl, by omega, by omega, by omega, hsum, rfl⟩, by simp [argI]; omega⟩
  · have hlt' : ¬ (i : Int) < s.n := by omega
    rw [List.drop_eq_nil_of_le (by omega)] at hsum
    simp only [sumF] at hsum
    have q1 : (sumF 0 0 bs).1 = a := by rw [hsum]
    have q2 : (sumF 0 0 bs).2 = c := by rw [hsum]
    obtain ⟨b0, hb0⟩ : ∃ b, b = a % 256 := ⟨_, rfl⟩
    obtain ⟨b1, hb1⟩ : ∃ b, b = a / 256 := ⟨_, rfl⟩
    obtain ⟨b2, hb2⟩ : ∃ b, b = c % 256 := ⟨_, rfl⟩
    obtain ⟨b3, hb3⟩ : ∃ b, b = c / 256 := ⟨_, rfl⟩
    have k0 : (a : Int).tmod 256 = (b0 : Int) := by rw [Int.tmod_eq_emod_of_nonneg (by omega)]; omega
    have k1 : (a : Int).tdiv 256 = (b1 : Int) := by rw [Int.tdiv_eq_ediv_of_nonneg (by omega)]; omega
    have k2 : (c : Int).tmod 256 = (b2 : Int) := by rw [Int.tmod_eq_emod_of_nonneg (by omega)]; omega
    have k3 : (c : Int).tdiv 256 = (b3 : Int) := by rw [Int.tdiv_eq_ediv_of_nonneg (by omega)]; omega
    have u1 : IntKind.i64.wrap (b1 : Int) = (b1 : Int) := i64_wrap (by omega)
    have u3 : IntKind.i64.wrap (b3 : Int) = (b3 : Int) := i64_wrap (by omega)
    have w0 : IntKind.u8.wrap (b0 : Int) = (b0 : Int) := u8_wrap (by omega)
    have w1 : IntKind.u8.wrap (b1 : Int) = (b1 : Int) := u8_wrap (by omega)
    have w2 : IntKind.u8.wrap (b2 : Int) = (b2 : Int) := u8_wrap (by omega)
    have w3 : IntKind.u8.wrap (b3 : Int) = (b3 : Int) := u8_wrap (by omega)
    have hs : sumB bs = [b0, b1, b2, b3] := by simp only [sumB, q1, q2, hb0, hb1, hb2, hb3]
    simp [hlt', ib_rem, ib_quo, k0, k1, k2, k3, u1, u3, w0, w1, w2, w3, ef_bslice4]
    intro t
    have := own_laid (h := h1) (bs := [b0, b1, b2, b3]) (t := t) (by simp)
    rw [← hs] at this
    exact hr _ _ Mod.push (by rw [hs] at this ⊢; exact this) rfl (Nat.le_refl _)
end
end Go.Rm
