/- Numbers in bytes: scan, and a reader's Uint, Bytes. -/
import Derived.Test.YtghpbaebbljppaaDoorRWire
import Derived.Test.YtghpbaebbljppaaDoorWireTh
set_option linter.unusedSimpArgs false
set_option linter.unusedVariables false
namespace Go.Rm

theorem u64_wrap {n : Int} (h : 0 ≤ n ∧ n < 18446744073709551616) : IntKind.u64.wrap n = n := by
  simp [IntKind.wrap, IntKind.bits, IntKind.signed]; omega
theorem u8_wrap {n : Int} (h : 0 ≤ n ∧ n < 256) : IntKind.u8.wrap n = n := by
  simp [IntKind.wrap, IntKind.bits, IntKind.signed]; omega

theorem ib_and {k : IntKind} {a b : Int} : ibin .and k a k b = some (.int k (k.wrap (BitVec.ofInt k.bits a &&& BitVec.ofInt k.bits b).toNat)) := by simp [ibin]
theorem ib_or {k : IntKind} {a b : Int} : ibin .or k a k b = some (.int k (k.wrap (BitVec.ofInt k.bits a ||| BitVec.ofInt k.bits b).toNat)) := by simp [ibin]
theorem ib_shl {k j : IntKind} {a b : Int} (h : 0 ≤ b) : ibin .shl k a j b = some (.int k (k.wrap (a * 2 ^ (min b.toNat k.bits)))) := by simp [ibin]; omega
theorem ib_shr {k j : IntKind} {a b : Int} (h : 0 ≤ b) : ibin .shr k a j b = some (.int k (a.fdiv (2 ^ (min b.toNat k.bits)))) := by simp [ibin]; omega

theorem and127 : ∀ x : Nat, x < 256 → (BitVec.ofInt 8 (x : Int) &&& BitVec.ofInt 8 127).toNat = x % 128 := by decide +kernel
theorem or128 : ∀ x : Nat, x < 256 → (BitVec.ofInt 8 (x : Int) ||| BitVec.ofInt 8 128).toNat = x % 128 + 128 := by decide +kernel

theorem or_add {a b i : Nat} (ha : a < 2 ^ i) (h64 : a + b * 2 ^ i < 2 ^ 64) : (BitVec.ofInt 64 (a : Int) ||| BitVec.ofInt 64 ((b * 2 ^ i : Nat) : Int)).toNat = a + b * 2 ^ i := by
  have e1 : (BitVec.ofInt 64 (a : Int)).toNat = a := by
    rw [BitVec.ofInt_natCast, BitVec.toNat_ofNat]; exact Nat.mod_eq_of_lt (by omega)
  have e2 : (BitVec.ofInt 64 ((b * 2 ^ i : Nat) : Int)).toNat = b * 2 ^ i := by
    rw [BitVec.ofInt_natCast, BitVec.toNat_ofNat]; exact Nat.mod_eq_of_lt (by omega)
  rw [BitVec.toNat_or, e1, e2]
  have := Nat.two_pow_add_eq_or_of_lt ha b
  rw [Nat.or_comm, Nat.mul_comm b, ← this, Nat.add_comm]

section
variable {Y : Sys} {h : Heap} {k : IntKind} {a b : Int}
theorem sem_ib_lss' : IOp.sem Y h (.ib .lss) [.int k a, .int k b] = some (.bool (decide (a < b))) := by rw [sem_ib, ib_lss]
theorem sem_ib_gtr' : IOp.sem Y h (.ib .gtr) [.int k a, .int k b] = some (.bool (decide (b < a))) := by rw [sem_ib, ib_gtr]
theorem sem_ib_geq' : IOp.sem Y h (.ib .geq) [.int k a, .int k b] = some (.bool (decide (b ≤ a))) := by rw [sem_ib, ib_geq]
theorem sem_ib_eql' : IOp.sem Y h (.ib .eql) [.int k a, .int k b] = some (.bool (decide (a = b))) := by rw [sem_ib, ib_eql]
theorem sem_ib_add' : IOp.sem Y h (.ib .add) [.int k a, .int k b] = some (.int k (k.wrap (a + b))) := by rw [sem_ib, ib_add]
theorem sem_ib_mul' : IOp.sem Y h (.ib .mul) [.int k a, .int k b] = some (.int k (k.wrap (a * b))) := by rw [sem_ib, ib_mul]
end
theorem ib_and127 {x : Nat} (hx : x < 256) : ibin .and .u8 (x : Int) .u8 127 = some (.int .u8 ((x % 128 : Nat) : Int)) := by
  rw [ib_and]
  have : (BitVec.ofInt IntKind.u8.bits (x : Int) &&& BitVec.ofInt IntKind.u8.bits 127).toNat = x % 128 := and127 x hx
  rw [this, u8_wrap (by omega)]
theorem ib_or128 {x : Nat} (hx : x < 256) : ibin .or .u8 (x : Int) .u8 128 = some (.int .u8 ((x % 128 + 128 : Nat) : Int)) := by
  rw [ib_or]
  have : (BitVec.ofInt IntKind.u8.bits (x : Int) ||| BitVec.ofInt IntKind.u8.bits 128).toNat = x % 128 + 128 := or128 x hx
  rw [this, u8_wrap (by omega)]
def shl64 (y i : Nat) : Int := IntKind.u64.wrap ((y : Int) * 2 ^ (7 * i))
def or64 (a b : Int) : Int := IntKind.u64.wrap (BitVec.ofInt 64 a ||| BitVec.ofInt 64 b).toNat
theorem ib_shl7 {y i : Nat} (hi : i < 10) : ibin .shl .u64 (y : Int) .i64 (7 * (i : Int)) = some (.int .u64 (shl64 y i)) := by
  rw [ib_shl (by omega)]
  have : min (7 * (i : Int)).toNat IntKind.u64.bits = 7 * i := by simp only [IntKind.bits]; omega
  rw [this]; rfl
theorem ib_or64 {a b : Int} : ibin .or .u64 a .u64 b = some (.int .u64 (or64 a b)) := by rw [ib_or]; rfl
theorem or64_spec {acc y i : Nat} (hacc : acc < 2 ^ (7 * i)) : ∃ g : Nat, or64 acc (shl64 y i) = (g : Int) ∧ g < 2 ^ 64 ∧ (acc + y * 2 ^ (7 * i) < 2 ^ 64 → g = acc + y * 2 ^ (7 * i)) := by
  have hlt : (BitVec.ofInt 64 (acc : Int) ||| BitVec.ofInt 64 (shl64 y i)).toNat < 2 ^ 64 := BitVec.isLt _
  refine ⟨(BitVec.ofInt 64 (acc : Int) ||| BitVec.ofInt 64 (shl64 y i)).toNat, ?_, hlt, ?_⟩
  · unfold or64
    exact u64_wrap (by omega)
  · intro h
    have : shl64 y i = ((y * 2 ^ (7 * i) : Nat) : Int) := by
      unfold shl64
      rw [show ((y : Int) * 2 ^ (7 * i)) = ((y * 2 ^ (7 * i) : Nat) : Int) by push_cast; rfl]
      exact u64_wrap (by omega)
    rw [this]
    exact or_add hacc h

section
variable {Y : Sys} {h h' : Heap}

def ScanI (s : Sl) (bs : List Nat) (h0 : Heap) (e : List Value) (h' : Heap) : Prop :=
  ∃ (i acc : Nat) (v5 v6 v8 v9 v10 v11 : Value), e = [s.v, .int .u64 0, .int .i64 0, .int .i64 0, .int .u64 acc, v5, v6, .int .i64 i, v8, v9, v10, v11] ∧ i ≤ 10 ∧ i ≤ bs.length ∧ (i < 10 → acc < 2 ^ (7 * i)) ∧ acc < 2 ^ 64 ∧
    (i < 10 → scanR bs = scanF (10 - i) i acc (bs.drop i)) ∧ (i = 10 → scanR bs = (0, 0, 2)) ∧ h' = h0

theorem nth_drop {bs : List Nat} {i : Nat} (hi : i < bs.length) : bs.drop i = nth bs i :: bs.drop (i + 1) := by
  rw [List.drop_eq_getElem_cons hi]
  congr 1
  simp [nth, hi]

theorem scan_spec (W : WireFns Y) {s : Sl} {bs : List Nat} (r : RowB h s bs) {R : Value → Heap → Prop} (hbig : bs.length ≤ 1000000)
    (hr : R (.tuple #[.int .u64 ((scanR bs).1 : Int), .int .i64 ((scanR bs).2.1 : Int), .int .i64 ((scanR bs).2.2 : Int)]) h) : CallP Y F.wire_scan [s.v] h R := by
  refine .of_has W.scan rfl ?_
  simp [S_wire_scan, FnS.wp]
  have hl := r.len
  refine wp_loop' (ScanI s bs h) (fun e _ => 10 - argI e 7) ⟨0, 0, _, _, _, _, _, _, rfl, by omega, by omega, by simp, by simp, fun _ => rfl, by omega, rfl⟩ ?_
  rintro e h' ⟨i, acc, v5, v6, v8, v9, v10, v11, rfl, hi, hib, hacc, h64, hsc, hsc10, rfl⟩
  by_cases h10 : i < 10
  · have h10' : (i : Int) < 10 := by omega
    have hsc := hsc h10
    have hacc := hacc h10
    have w1 : IntKind.i64.wrap ((i : Int) + 1) = (i : Int) + 1 := i64_wrap (by omega)
    have w7 : IntKind.i64.wrap (7 * (i : Int)) = 7 * (i : Int) := i64_wrap (by omega)
    by_cases hend : i = bs.length
    · have hend' : (i : Int) = s.n := by omega
      have hd : bs.drop i = [] := List.drop_eq_nil_of_le (by omega)
      rw [hd, show 10 - i = (9 - i) + 1 by omega, scanF] at hsc
      rw [hsc] at hr
      simp [h10', hend', hend, hl]
      have hz : (s.n : Int) < 10 := by omega
      simpa [hz] using hr
    · have hlt : i < bs.length := by omega
      have hend' : ¬ (i : Int) = s.n := by omega
      have hlt' : (i : Int) < s.n := by omega
      have hx := r.lt i hlt
      have hcell := r.at (i := i) (by omega)
      rw [nth_drop hlt, show 10 - i = (9 - i) + 1 by omega, scanF] at hsc
      generalize nth bs i = x at *
      obtain ⟨y, hyx⟩ : ∃ y, y = x % 128 := ⟨_, rfl⟩
      have hy128 : y < 128 := by omega
      have a3 : IntKind.u64.wrap (y : Int) = (y : Int) := u64_wrap (by omega)
      obtain ⟨g, g1, g2, g3⟩ := or64_spec (acc := acc) (y := y) (i := i) hacc
      have hp : 2 ^ (7 * (i + 1)) = 2 ^ (7 * i) * 128 := by rw [show 7 * (i + 1) = 7 * i + 7 by omega, Nat.pow_add]
      have hy : y * 2 ^ (7 * i) ≤ 127 * 2 ^ (7 * i) := Nat.mul_le_mul_right _ (by omega)
      have hpow : i < 9 → 2 ^ (7 * i) * 128 ≤ 2 ^ 63 := by
        intro h9
        rw [show (2 : Nat) ^ (7 * i) * 128 = 2 ^ (7 * i + 7) by rw [Nat.pow_add]]
        exact Nat.pow_le_pow_right (by omega) (by omega)
      have h63 : (2 : Nat) ^ 63 < 2 ^ 64 := by decide
      have hstep : ibin .and .u8 (x : Int) .u8 127 = some (.int .u8 (y : Int)) := by rw [ib_and127 hx, hyx]
      have hshl : ibin .shl .u64 (y : Int) .i64 (7 * (i : Int)) = some (.int .u64 (shl64 y i)) := ib_shl7 h10
      have hor : ibin .or .u64 (acc : Int) .u64 (shl64 y i) = some (.int .u64 (g : Int)) := by rw [ib_or64, g1]
      by_cases hx128 : 128 ≤ x
      · rw [if_pos hx128] at hsc
        have hx128' : (128 : Int) ≤ x := by omega
        have e1 : x - 128 = y := by omega
        rw [e1] at hsc
        simp [h10', hend', hlt', sem_idxa r.ok, hcell, hstep, a3, w7, hshl, hor, hx128', w1]
        refine ⟨⟨i + 1, g, _, _, _, _, _, _, rfl, by omega, by omega, ?_, g2, ?_, ?_, rfl⟩, by simp [argI]; omega⟩
        · intro h9
          have := hpow (by omega)
          rw [g3 (by omega), hp]; omega
        · intro h9
          have := hpow (by omega)
          rw [hsc, g3 (by omega), show 10 - (i + 1) = 9 - i by omega]
        · intro h9
          rw [hsc, show 9 - i = 0 by omega]
          rfl
      · rw [if_neg hx128] at hsc
        have hx128' : ¬ (128 : Int) ≤ x := by omega
        have exy : y = x := by omega
        by_cases hbad : (x = 0 ∧ 0 < i) ∨ (1 < x ∧ i = 9)
        · rw [if_pos hbad] at hsc
          rw [hsc] at hr
          by_cases hx0 : x = 0
          · have hi0 : 0 < i := by omega
            have hi0' : (0 : Int) < i := by omega
            have hz : (x = 0) = True := eq_true hx0
            simp [h10', hend', hlt', sem_idxa r.ok, hcell, hstep, a3, w7, hshl, hor, hx128', w1, hz, hi0]
            simpa using hr
          · have hx1 : (1 : Int) < x := by omega
            have hx1' : 1 < x := by omega
            have hi9 : (i : Int) = 9 := by omega
            have hz : ((i : Int) = 9) = True := eq_true hi9
            simp [h10', hend', hlt', sem_idxa r.ok, hcell, hstep, a3, w7, hshl, hor, hx128', w1, hx0, hx1, hx1', hz]
            simpa using hr
        · rw [if_neg hbad] at hsc
          rw [hsc] at hr
          have hg : g = acc + x * 2 ^ (7 * i) := by
            rw [← exy]
            apply g3
            by_cases h9 : i = 9
            · have hy1 : y ≤ 1 := by omega
              have h1 : y * 2 ^ (7 * i) ≤ 1 * 2 ^ (7 * i) := Nat.mul_le_mul_right _ hy1
              rw [h9] at hacc h1 ⊢
              have h64 : 2 ^ (7 * 9) + 2 ^ (7 * 9) = 2 ^ 64 := by decide
              omega
            · have := hpow (by omega)
              omega
          rw [← hg] at hr
          have hr' : R (.tuple #[.int .u64 (g : Int), .int .i64 ((i : Int) + 1), .int .i64 0]) h' := by simpa using hr
          by_cases hx0 : x = 0
          · have hi0 : ¬ 0 < i := by omega
            have hi0' : ¬ (0 : Int) < i := by omega
            have hx1 : ¬ (1 : Int) < x := by omega
            have hz : (x = 0) = True := eq_true hx0
            simp [h10', hend', hlt', sem_idxa r.ok, hcell, hstep, a3, w7, hshl, hor, hx128', w1, hz, hi0, hi0', hx1]
            exact hr'
          · by_cases hx1 : 1 < x
            · have hx1' : (1 : Int) < x := by omega
              have hi9 : ¬ (i : Int) = 9 := by omega
              simp [h10', hend', hlt', sem_idxa r.ok, hcell, hstep, a3, w7, hshl, hor, hx128', w1, hx0, hx1', hi9]
              exact hr'
            · have hx1' : ¬ (1 : Int) < x := by omega
              simp [h10', hend', hlt', sem_idxa r.ok, hcell, hstep, a3, w7, hshl, hor, hx128', w1, hx0, hx1']
              exact hr'
  · have : i = 10 := by omega
    subst this
    rw [hsc10 rfl] at hr
    simp
    simpa using hr
end
end Go.Rm
