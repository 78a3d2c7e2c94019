/- Numbers in bytes: Uint, Int, Sum, the program's and the document's. -/
import Derived.Test.YtghpbaebbljppaaDoorRWire3
import Derived.Test.YtghpbaebbljppaaDoorSRref6
set_option linter.unusedSimpArgs false
set_option linter.unusedVariables false
namespace Go.Rm

def zz (v : Int) : Nat := if v < 0 then 2 * (-1 - v).toNat + 1 else 2 * v.toNat
def sumF : Nat → Nat → List Nat → Nat × Nat
  | a, c, [] => (a, c)
  | a, c, x :: r => sumF ((a + x) % 257) ((c + (a + x) % 257) % 257) r
def sumB (bs : List Nat) : List Nat := [(sumF 0 0 bs).1 % 256, (sumF 0 0 bs).1 / 256, (sumF 0 0 bs).2 % 256, (sumF 0 0 bs).2 / 256]
theorem sumF_lt : ∀ {bs : List Nat} {a c : Nat}, a < 257 → c < 257 → (sumF a c bs).1 < 257 ∧ (sumF a c bs).2 < 257 := by
  intro bs
  induction bs with
  | nil => intro a c h1 h2; exact ⟨h1, h2⟩
  | cons x r ih => intro a c _ _; exact ih (by omega) (by omega)

theorem or128c {v : Nat} : ibin .or .u8 ((v : Int) % 256) .u8 128 = some (.int .u8 ((v % 128 + 128 : Nat) : Int)) := by
  have h : ((v : Int) % 256) = ((v % 256 : Nat) : Int) := by omega
  rw [h, ib_or128 (by omega)]
  congr 3
  omega
theorem u8_wrap_mod {v : Nat} : IntKind.u8.wrap (v : Int) = (v : Int) % 256 := by
  simp [IntKind.wrap, IntKind.bits, IntKind.signed]
theorem shr7_64 {u : Nat} {j : IntKind} : ibin .shr .u64 (u : Int) j 7 = some (.int .u64 ((u / 128 : Nat) : Int)) := by
  rw [ib_shr (by omega)]
  have : min (7 : Int).toNat IntKind.u64.bits = 7 := by decide
  rw [this]
  congr 2
  rw [Int.fdiv_eq_ediv_of_nonneg _ (by decide)]
  simp
theorem and255 : ∀ x : Nat, x < 257 → (BitVec.ofInt 64 (x : Int) &&& BitVec.ofInt 64 255).toNat = x % 256 := by decide +kernel
theorem ib_and255 {x : Nat} (hx : x < 257) : ibin .and .i64 (x : Int) .i64 255 = some (.int .i64 ((x % 256 : Nat) : Int)) := by
  rw [ib_and]
  have : (BitVec.ofInt IntKind.i64.bits (x : Int) &&& BitVec.ofInt IntKind.i64.bits 255).toNat = x % 256 := and255 x hx
  rw [this, i64_wrap (by omega)]
theorem shr8_64 {u : Nat} {j : IntKind} : ibin .shr .i64 (u : Int) j 8 = some (.int .i64 ((u / 256 : Nat) : Int)) := by
  rw [ib_shr (by omega)]
  have : min (8 : Int).toNat IntKind.i64.bits = 8 := by decide
  rw [this]
  congr 2
  rw [Int.fdiv_eq_ediv_of_nonneg _ (by decide)]
  simp

section
variable {Y : Sys} {h h' : Heap}

/-- what the two Uints go through -/
def EncI (v : Nat) (h0 : Heap) (v1 : Value) (e : List Value) (h' : Heap) : Prop :=
  ∃ (k w : Nat) (l : List Nat) (s : Sl) (v3 : Value), e = [.int .u64 w, v1, s.v, v3] ∧ k ≤ 9 ∧ encU v = l ++ encF k w ∧ l.length = 9 - k ∧ w < 2 ^ (64 - 7 * (9 - k)) ∧ Own h' 1 s (bytesL l) ∧ (s.nl = true ∨ h0.size ≤ s.b) ∧ Ext h0 h'

theorem enc_step {k w : Nat} (hw : w < 2 ^ (64 - 7 * (9 - k))) (h128 : ¬ w < 128) (hk : k ≤ 9) : ∃ k', k = k' + 1 ∧ encF k w = (w % 128 + 128) :: encF k' (w / 128) ∧ w / 128 < 2 ^ (64 - 7 * (9 - k')) := by
  cases k with
  | zero => simp at hw; omega
  | succ k' =>
    refine ⟨k', rfl, by simp only [encF]; rw [if_neg h128], ?_⟩
    rw [Nat.div_lt_iff_lt_mul (by omega)]
    rw [show (2 : Nat) ^ (64 - 7 * (9 - k')) * 128 = 2 ^ (64 - 7 * (9 - k') + 7) by rw [Nat.pow_add]]
    rw [show 64 - 7 * (9 - k') + 7 = 64 - 7 * (9 - (k' + 1)) by omega]
    exact hw
theorem enc_end {k w : Nat} (h128 : w < 128) : encF k w = [w] := by
  cases k with
  | zero => rfl
  | succ k => simp only [encF]; rw [if_pos h128]

theorem bytesL_snoc {l : List Nat} {x : Nat} : bytesL l ++ [.int .u8 (x : Int)] = bytesL (l ++ [x]) := by simp [bytesL]

theorem app1 {K : Value → Heap → Prop} {s : Sl} {l : List Nat} {x : Nat} {t : TypeId} {h0 : Heap} (o : Own h 1 s (bytesL l)) (hl : l.length ≤ 1000) (hs : s.nl = true ∨ h0.size ≤ s.b) (he : Ext h0 h)
    (hk : ∀ (s' : Sl) (h' : Heap), Own h' 1 s' (bytesL (l ++ [x])) → (s'.nl = true ∨ h0.size ≤ s'.b) → Ext h0 h' → K s'.v h') :
    Ef.wp (h.push (.cells #[.int .u8 (x : Int)] t)) K (.append 1 1 #[.int .u8 0]) [s.v, .slice (some ⟨h.size, 0, none⟩) 1 1] := by
  have hn : s.n = l.length := by have := o.1; simpa using this.symm
  refine ef_append1 rfl o (by omega) (by omega) ?_
  intro s' h' o' hn' m hs'
  rw [bytesL_snoc] at o'
  refine hk s' h' o' ?_ (Mod.ext he m ?_)
  · rcases hs' with ⟨e1, e2⟩ | ⟨e1, e2⟩
    · rw [e1, e2]; exact hs
    · have := he.size; exact .inr (by omega)
  · rintro b ⟨q1, q2⟩
    rcases hs with hs | hs
    · rw [q1] at hs; cases hs
    · rw [q2]; exact hs

theorem wuint_spec (HU : Y.Has F.wire_Uint S_wire_Uint) {v : Nat} (hv : v < 2 ^ 64) {R : Value → Heap → Prop}
    (hr : ∀ h' s', Ext h h' → Own h' 1 s' (bytesL (encU v)) → (s'.nl = true ∨ h.size ≤ s'.b) → R s'.v h') : CallP Y F.wire_Uint [.int .u64 v] h R := by
  refine .of_has HU rfl ?_
  simp [S_wire_Uint, FnS.wp]
  refine wp_loop' (EncI v h (.slice none 0 0)) (fun e _ => argI e 0) ⟨9, v, [], Sl.nil, _, rfl, by omega, rfl, by simp, by simpa using hv, Own.nil, .inl rfl, Mod.refl h⟩ ?_
  rintro e h1 ⟨k, w, l, s, v3, rfl, hk, henc, hl, hw, o1, hs, e1⟩
  by_cases h128 : w < 128
  · have h128' : ¬ (128 : Int) ≤ w := by omega
    have w1 : (w : Int) % 256 = w := by omega
    rw [enc_end h128] at henc
    simp [h128', u8_wrap_mod, w1, ef_bslice1_int]
    intro t
    refine app1 o1 (by omega) hs e1 ?_
    intro s' h' o' hs' e'
    rw [← henc] at o'
    simp
    exact hr h' s' e' o' hs'
  · have h128' : (128 : Int) ≤ w := by omega
    obtain ⟨k', rfl, g1, g2⟩ := enc_step hw h128 hk
    rw [g1] at henc
    obtain ⟨d, hd⟩ : ∃ d, d = w / 128 := ⟨_, rfl⟩
    obtain ⟨b, hb⟩ : ∃ b, b = w % 128 + 128 := ⟨_, rfl⟩
    have k1 : ibin .or .u8 ((w : Int) % 256) .u8 128 = some (.int .u8 (b : Int)) := by rw [or128c, hb]
    have k2 : ibin .shr .u64 (w : Int) .i64 7 = some (.int .u64 (d : Int)) := by rw [shr7_64, hd]
    have k3 : ibin .shr .u64 (w : Int) .u64 7 = some (.int .u64 (d : Int)) := by rw [shr7_64, hd]
    rw [← hb, ← hd] at henc
    rw [← hd] at g2
    simp [h128', u8_wrap_mod, k1, ef_bslice1_int]
    intro t
    refine app1 o1 (by omega) hs e1 ?_
    intro s' h' o' hs' e'
    simp [k2, k3]
    exact ⟨⟨k', d, l ++ [b], s', _, rfl, by omega, by rw [henc]; simp, by simp; omega, g2, o', hs', e'⟩, by simp [argI]; omega⟩

theorem wruint_spec (HU : Y.Has F.rref6_Uint S_rref6_Uint) {v : Nat} (hv : v < 2 ^ 64) {R : Value → Heap → Prop}
    (hr : ∀ h' s', Ext h h' → Own h' 1 s' (bytesL (encU v)) → (s'.nl = true ∨ h.size ≤ s'.b) → R s'.v h') : CallP Y F.rref6_Uint [.int .u64 v] h R := by
  refine .of_has HU rfl ?_
  simp [S_rref6_Uint, FnS.wp]
  refine wp_loop' (EncI v h (.slice none 0 0)) (fun e _ => argI e 0) ⟨9, v, [], Sl.nil, _, rfl, by omega, rfl, by simp, by simpa using hv, Own.nil, .inl rfl, Mod.refl h⟩ ?_
  rintro e h1 ⟨k, w, l, s, v3, rfl, hk, henc, hl, hw, o1, hs, e1⟩
  by_cases h128 : w < 128
  · have h128' : ¬ (128 : Int) ≤ w := by omega
    have w1 : (w : Int) % 256 = w := by omega
    rw [enc_end h128] at henc
    simp [h128', u8_wrap_mod, w1, ef_bslice1_int]
    intro t
    refine app1 o1 (by omega) hs e1 ?_
    intro s' h' o' hs' e'
    rw [← henc] at o'
    simp
    exact hr h' s' e' o' hs'
  · have h128' : (128 : Int) ≤ w := by omega
    have hwlt : w < 2 ^ 64 := Nat.lt_of_lt_of_le hw (Nat.pow_le_pow_right (by omega) (by omega))
    obtain ⟨k', rfl, g1, g2⟩ := enc_step hw h128 hk
    rw [g1] at henc
    obtain ⟨d, hd⟩ : ∃ d, d = w / 128 := ⟨_, rfl⟩
    obtain ⟨b, hb⟩ : ∃ b, b = w % 128 + 128 := ⟨_, rfl⟩
    have t1 : (w : Int).tmod 128 = ((w % 128 : Nat) : Int) := by rw [Int.tmod_eq_emod_of_nonneg (by omega)]; omega
    have t2 : (w : Int).tdiv 128 = (d : Int) := by rw [Int.tdiv_eq_ediv_of_nonneg (by omega), hd]; omega
    have w2 : IntKind.u64.wrap (((w % 128 : Nat) : Int) + 128) = (b : Int) := by rw [u64_wrap (by omega), hb]; omega
    have w3 : IntKind.u8.wrap (b : Int) = (b : Int) := u8_wrap (by omega)
    have w4 : IntKind.u64.wrap (d : Int) = (d : Int) := u64_wrap (by omega)
    have k1 : ibin .rem .u64 (w : Int) .u64 128 = some (.int .u64 ((w % 128 : Nat) : Int)) := by rw [ib_rem (by omega), t1]
    have k2 : ibin .quo .u64 (w : Int) .u64 128 = some (.int .u64 (d : Int)) := by rw [ib_quo (by omega), t2, w4]
    obtain ⟨m, hm⟩ : ∃ m, m = w % 128 := ⟨_, rfl⟩
    rw [← hm] at k1 w2
    rw [← hb, ← hd] at henc
    rw [← hd] at g2
    simp [h128', k1, w2, w3, ef_bslice1_int]
    intro t
    refine app1 o1 (by omega) hs e1 ?_
    intro s' h' o' hs' e'
    simp [k2]
    exact ⟨⟨k', d, l ++ [b], s', _, rfl, by omega, by rw [henc]; simp, by simp; omega, g2, o', hs', e'⟩, by simp [argI]; omega⟩

theorem zz_lt {v : Int} (hv : -9223372036854775808 ≤ v ∧ v ≤ 9223372036854775807) : zz v < 2 ^ 64 := by unfold zz; split <;> omega

theorem wint_spec (HI : Y.Has F.wire_Int S_wire_Int) (HU : Y.Has F.wire_Uint S_wire_Uint) {v : Int} (hv : -9223372036854775808 ≤ v ∧ v ≤ 9223372036854775807) {R : Value → Heap → Prop}
    (hr : ∀ h' s', Ext h h' → Own h' 1 s' (bytesL (encU (zz v))) → (s'.nl = true ∨ h.size ≤ s'.b) → R s'.v h') : CallP Y F.wire_Int [.int .i64 v] h R := by
  refine .of_has HI rfl ?_
  have hz := zz_lt hv
  by_cases h0 : v < 0
  · obtain ⟨d, hd⟩ : ∃ d : Nat, -1 - v = d := ⟨(-1 - v).toNat, by omega⟩
    have hzz : zz v = 2 * d + 1 := by unfold zz; rw [if_pos h0]; omega
    have w1 : IntKind.i64.wrap (-1 - v) = (d : Int) := by rw [i64_wrap (by omega)]; exact hd
    have w2 : IntKind.u64.wrap (d : Int) = (d : Int) := u64_wrap (by omega)
    have k1 : ∀ j, ibin .shl .u64 (d : Int) j 1 = some (.int .u64 ((d * 2 ^ 1 : Nat) : Int)) := by
      intro j
      rw [ib_shl (by omega)]
      have : min (1 : Int).toNat IntKind.u64.bits = 1 := by decide
      rw [this]
      congr 2
      rw [show ((d : Int) * 2 ^ 1) = ((d * 2 ^ 1 : Nat) : Int) by push_cast; rfl]
      exact u64_wrap (by omega)
    obtain ⟨m, hm⟩ : ∃ m, m = d * 2 ^ 1 := ⟨_, rfl⟩
    have k2 : ibin .or .u64 (m : Int) .u64 1 = some (.int .u64 ((zz v : Nat) : Int)) := by
      rw [ib_or]
      have : (BitVec.ofInt IntKind.u64.bits (m : Int) ||| BitVec.ofInt IntKind.u64.bits 1).toNat = zz v := by
        show (BitVec.ofInt 64 (m : Int) ||| BitVec.ofInt 64 ((1 : Nat) : Int)).toNat = zz v
        rw [BitVec.or_comm, hm, or_add (a := 1) (b := d) (i := 1) (by decide) (by omega), hzz]; omega
      rw [this, u64_wrap (by omega)]
    rw [← hm] at k1
    simp [S_wire_Int, FnS.wp, h0, w1, w2, k1, k2]
    refine wuint_spec HU hz ?_
    intro h' s' e' o' hs'
    simp
    exact hr h' s' e' o' hs'
  · obtain ⟨d, rfl⟩ : ∃ d : Nat, v = d := ⟨v.toNat, by omega⟩
    have hzz : zz (d : Int) = d * 2 ^ 1 := by unfold zz; rw [if_neg h0]; simp; omega
    have w2 : IntKind.u64.wrap (d : Int) = (d : Int) := u64_wrap (by omega)
    have k1 : ∀ j, ibin .shl .u64 (d : Int) j 1 = some (.int .u64 ((zz (d : Int) : Nat) : Int)) := by
      intro j
      rw [ib_shl (by omega)]
      have : min (1 : Int).toNat IntKind.u64.bits = 1 := by decide
      rw [this, hzz]
      congr 2
      rw [show ((d : Int) * 2 ^ 1) = ((d * 2 ^ 1 : Nat) : Int) by push_cast; rfl]
      exact u64_wrap (by omega)
    simp [S_wire_Int, FnS.wp, h0, w2, k1]
    refine wuint_spec HU hz ?_
    intro h' s' e' o' hs'
    simp
    exact hr h' s' e' o' hs'

theorem wrint_spec (HI : Y.Has F.rref6_Int S_rref6_Int) (HU : Y.Has F.rref6_Uint S_rref6_Uint) {v : Int} (hv : -9223372036854775808 ≤ v ∧ v ≤ 9223372036854775807) {R : Value → Heap → Prop}
    (hr : ∀ h' s', Ext h h' → Own h' 1 s' (bytesL (encU (zz v))) → (s'.nl = true ∨ h.size ≤ s'.b) → R s'.v h') : CallP Y F.rref6_Int [.int .i64 v] h R := by
  refine .of_has HI rfl ?_
  have hz := zz_lt hv
  by_cases h0 : v < 0
  · obtain ⟨d, hd⟩ : ∃ d : Nat, -1 - v = d := ⟨(-1 - v).toNat, by omega⟩
    have hzz : zz v = 2 * d + 1 := by unfold zz; rw [if_pos h0]; omega
    have w0 : IntKind.i64.wrap (v + 1) = v + 1 := i64_wrap (by omega)
    have w1 : IntKind.i64.wrap (0 - (v + 1)) = (d : Int) := by rw [i64_wrap (by omega)]; omega
    have w2 : IntKind.u64.wrap (d : Int) = (d : Int) := u64_wrap (by omega)
    have w3 : IntKind.u64.wrap ((d : Int) * 2) = (d : Int) * 2 := u64_wrap (by omega)
    have w4 : IntKind.u64.wrap ((d : Int) * 2 + 1) = ((zz v : Nat) : Int) := by rw [u64_wrap (by omega), hzz]; omega
    have w1' : IntKind.i64.wrap (-(v + 1)) = (d : Int) := by rw [← w1]; congr 1; omega
    simp [S_rref6_Int, FnS.wp, h0, w0, w1, w1', w2, w3, w4]
    refine wruint_spec HU hz ?_
    intro h' s' e' o' hs'
    simp
    exact hr h' s' e' o' hs'
  · obtain ⟨d, rfl⟩ : ∃ d : Nat, v = d := ⟨v.toNat, by omega⟩
    have hzz : zz (d : Int) = d * 2 := by unfold zz; rw [if_neg h0]; simp; omega
    have w2 : IntKind.u64.wrap (d : Int) = (d : Int) := u64_wrap (by omega)
    have w3 : IntKind.u64.wrap ((d : Int) * 2) = ((zz (d : Int) : Nat) : Int) := by rw [u64_wrap (by omega), hzz]; omega
    simp [S_rref6_Int, FnS.wp, h0, w2, w3]
    refine wruint_spec HU hz ?_
    intro h' s' e' o' hs'
    simp
    exact hr h' s' e' o' hs'
end
end Go.Rm
