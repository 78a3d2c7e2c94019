/- Numbers in bytes: the plain law. -/
set_option linter.unusedVariables false
namespace Go.Rm

/-- v, seven bits a byte, the lowest first -/
def encF : Nat → Nat → List Nat
  | 0, v => [v]
  | k + 1, v => if v < 128 then [v] else (v % 128 + 128) :: encF k (v / 128)
def encU (v : Nat) : List Nat := encF 9 v

/-- one number at the head of bytes: it, how many bytes it takes, what is wrong -/
def scanF : Nat → Nat → Nat → List Nat → Nat × Nat × Nat
  | 0, _, _, _ => (0, 0, 2)
  | _ + 1, _, _, [] => (0, 0, 3)
  | f + 1, i, acc, x :: r => if 128 ≤ x then scanF f (i + 1) (acc + (x - 128) * 2 ^ (7 * i)) r else if (x = 0 ∧ 0 < i) ∨ (1 < x ∧ i = 9) then (0, 0, 2) else (acc + x * 2 ^ (7 * i), i + 1, 0)
def scanR (bs : List Nat) : Nat × Nat × Nat := scanF 10 0 0 bs

theorem scanF_bound : ∀ {f i acc : Nat} {bs : List Nat}, f + i = 10 → acc < 2 ^ (7 * i) → (∀ x ∈ bs, x < 256) → (scanF f i acc bs).1 < 2 ^ 64 ∧ (scanF f i acc bs).2.1 ≤ i + bs.length ∧ ((scanF f i acc bs).2.2 = 0 → i < (scanF f i acc bs).2.1) ∧ (scanF f i acc bs).2.2 ≤ 3 := by
  intro f
  induction f with
  | zero => intro i acc bs _ _ _; simp [scanF]
  | succ f ih =>
    intro i acc bs hf hacc hb
    cases bs with
    | nil => simp [scanF]
    | cons x r =>
      have hx := hb x (by simp)
      simp only [scanF]
      split
      · rename_i h1
        have hp : 2 ^ (7 * (i + 1)) = 2 ^ (7 * i) * 128 := by rw [show 7 * (i + 1) = 7 * i + 7 by omega, Nat.pow_add]
        have h2 : (x - 128) * 2 ^ (7 * i) ≤ 127 * 2 ^ (7 * i) := Nat.mul_le_mul_right _ (by omega)
        have := ih (i := i + 1) (acc := acc + (x - 128) * 2 ^ (7 * i)) (bs := r) (by omega) (by rw [hp]; omega) (fun y hy => hb y (by simp [hy]))
        refine ⟨this.1, by simp; omega, fun h => by have := this.2.2.1 h; omega, this.2.2.2⟩
      · rename_i h1
        split
        · simp
        · rename_i h2
          refine ⟨?_, by simp, fun _ => by simp, by simp⟩
          show acc + x * 2 ^ (7 * i) < 2 ^ 64
          by_cases h9 : i = 9
          · subst h9
            have hx1 : x ≤ 1 := by omega
            have : x * 2 ^ (7 * 9) ≤ 1 * 2 ^ (7 * 9) := Nat.mul_le_mul_right _ hx1
            have h64 : 2 ^ (7 * 9) + 2 ^ (7 * 9) = 2 ^ 64 := by decide
            omega
          · have h3 : x * 2 ^ (7 * i) ≤ 127 * 2 ^ (7 * i) := Nat.mul_le_mul_right _ (by omega)
            have h4 : 2 ^ (7 * i) * 128 ≤ 2 ^ 63 := by
              rw [show (2 : Nat) ^ (7 * i) * 128 = 2 ^ (7 * i + 7) by rw [Nat.pow_add]]
              exact Nat.pow_le_pow_right (by omega) (by omega)
            have : (2 : Nat) ^ 63 < 2 ^ 64 := by decide
            omega

theorem encF_pos : ∀ {k v : Nat}, 0 < (encF k v).length := by
  intro k v
  cases k with
  | zero => simp [encF]
  | succ k => simp only [encF]; split <;> simp

theorem encF_lt : ∀ {k v : Nat}, v < 2 ^ (7 * k + 7) → ∀ x ∈ encF k v, x < 256 := by
  intro k
  induction k with
  | zero => intro v hv x hx; simp [encF] at hx; subst hx; simp at hv; omega
  | succ k ih =>
    intro v hv x hx
    simp only [encF] at hx
    split at hx
    · simp at hx; omega
    · simp only [List.mem_cons] at hx
      rcases hx with hx | hx
      · omega
      · refine ih (v := v / 128) ?_ x hx
        rw [Nat.div_lt_iff_lt_mul (by omega)]
        rw [show 7 * (k + 1) + 7 = 7 * k + 7 + 7 by omega, Nat.pow_add] at hv
        exact hv

theorem scan_enc : ∀ {k i acc v : Nat} {rest : List Nat}, k + i = 9 → v < 2 ^ (64 - 7 * i) → (0 < i → 0 < v) → scanF (k + 1) i acc (encF k v ++ rest) = (acc + v * 2 ^ (7 * i), i + (encF k v).length, 0) := by
  intro k
  induction k with
  | zero =>
    intro i acc v rest hk hv hpos
    have : i = 9 := by omega
    subst this
    have h2 : v < 2 := by simpa using hv
    have h0 := hpos (by omega)
    simp only [encF, List.cons_append, List.nil_append, scanF]
    rw [if_neg (by omega), if_neg (by omega)]
    simp
  | succ k ih =>
    intro i acc v rest hk hv hpos
    simp only [encF]
    split
    · rename_i h1
      simp only [List.cons_append, List.nil_append, scanF]
      rw [if_neg (by omega), if_neg (by omega)]
      simp
    · rename_i h1
      simp only [List.cons_append]
      rw [scanF]
      rw [if_pos (by omega)]
      have hv' : v / 128 < 2 ^ (64 - 7 * (i + 1)) := by
        rw [Nat.div_lt_iff_lt_mul (by omega)]
        rw [show (2 : Nat) ^ (64 - 7 * (i + 1)) * 128 = 2 ^ (64 - 7 * (i + 1) + 7) by rw [Nat.pow_add]]
        rw [show 64 - 7 * (i + 1) + 7 = 64 - 7 * i by omega]
        exact hv
      rw [ih (i := i + 1) (by omega) hv' (fun _ => Nat.div_pos (by omega) (by omega))]
      have e1 : v % 128 + 128 - 128 = v % 128 := by omega
      have e2 : v = 128 * (v / 128) + v % 128 := (Nat.div_add_mod v 128).symm
      rw [e1, Prod.mk.injEq, Prod.mk.injEq]
      refine ⟨?_, by simp; omega, rfl⟩
      rw [show 7 * (i + 1) = 7 * i + 7 by omega, Nat.pow_add]
      have : v / 128 * (2 ^ (7 * i) * 2 ^ 7) = (128 * (v / 128)) * 2 ^ (7 * i) := by
        rw [show (2 : Nat) ^ 7 = 128 by decide]
        rw [Nat.mul_comm (2 ^ (7 * i)) 128, ← Nat.mul_assoc, Nat.mul_comm (v / 128) 128]
      rw [this, Nat.add_assoc, ← Nat.add_mul, show v % 128 + 128 * (v / 128) = v by omega]

theorem scan_encU {v : Nat} {rest : List Nat} (hv : v < 2 ^ 64) : scanR (encU v ++ rest) = (v, (encU v).length, 0) := by
  unfold scanR encU
  rw [scan_enc (k := 9) (i := 0) (by omega) (by simpa using hv) (by omega)]
  simp

theorem scanF_bound' : ∀ {f i acc : Nat} {bs : List Nat}, (scanF f i acc bs).2.2 = 0 → i < (scanF f i acc bs).2.1 := by
  intro f
  induction f with
  | zero => intro i acc bs h; simp [scanF] at h
  | succ f ih =>
    intro i acc bs h
    cases bs with
    | nil => simp [scanF] at h
    | cons x r =>
      simp only [scanF] at h ⊢
      split at h
      · rename_i h1; rw [if_pos h1]; have := ih h; omega
      · rename_i h1
        rw [if_neg h1]
        split at h
        · simp at h
        · rename_i h2; rw [if_neg h2]; simp


/-- what is read is told again as just these bytes -/
theorem enc_scan : ∀ {f i acc : Nat} {bs : List Nat}, f + i = 10 → (∀ x ∈ bs, x < 256) → (scanF f i acc bs).2.2 = 0 →
    ∃ w, (scanF f i acc bs).1 = acc + w * 2 ^ (7 * i) ∧ encF (f - 1) w = bs.take ((scanF f i acc bs).2.1 - i) ∧ (0 < i → 0 < w) := by
  intro f
  induction f with
  | zero => intro i acc bs _ _ h; simp [scanF] at h
  | succ f ih =>
    intro i acc bs hf hb h
    cases bs with
    | nil => simp [scanF] at h
    | cons x r =>
      have hx := hb x (by simp)
      simp only [scanF] at h ⊢
      split at h
      · rename_i h1
        rw [if_pos h1]
        have hf1 : 0 < f := by
          rcases Nat.eq_zero_or_pos f with h0 | h0
          · subst h0; simp [scanF] at h
          · exact h0
        obtain ⟨w, a, b, c⟩ := ih (i := i + 1) (acc := acc + (x - 128) * 2 ^ (7 * i)) (bs := r) (by omega) (fun y hy => hb y (by simp [hy])) h
        have hw := c (by omega)
        have hn := (scanF_bound' (f := f) (i := i + 1) (acc := acc + (x - 128) * 2 ^ (7 * i)) (bs := r) h)
        refine ⟨w * 128 + (x - 128), ?_, ?_, fun _ => by omega⟩
        · rw [a, show 7 * (i + 1) = 7 * i + 7 by omega, Nat.pow_add]
          rw [Nat.add_mul, show w * 128 * 2 ^ (7 * i) = w * (2 ^ (7 * i) * 2 ^ 7) by rw [show (2 : Nat) ^ 7 = 128 by decide, Nat.mul_assoc, Nat.mul_comm 128]]
          omega
        · obtain ⟨f', rfl⟩ : ∃ f', f = f' + 1 := ⟨f - 1, by omega⟩
          simp only [Nat.add_sub_cancel] at b ⊢
          simp only [encF]
          rw [if_neg (by omega)]
          have e1 : (w * 128 + (x - 128)) % 128 = x - 128 := by omega
          have e2 : (w * 128 + (x - 128)) / 128 = w := by omega
          rw [e1, e2, b]
          generalize (scanF (f' + 1) (i + 1) (acc + (x - 128) * 2 ^ (7 * i)) r).2.1 = n at *
          obtain ⟨m, rfl⟩ : ∃ m, n = m + (i + 1) := ⟨n - (i + 1), by omega⟩
          rw [show m + (i + 1) - (i + 1) = m by omega, show m + (i + 1) - i = m + 1 by omega, List.take_succ_cons, show x - 128 + 128 = x by omega]
      · rename_i h1
        rw [if_neg h1]
        split at h
        · simp at h
        · rename_i h2
          rw [if_neg h2]
          refine ⟨x, rfl, ?_, fun hi => by omega⟩
          simp only [Nat.add_sub_cancel, show i + 1 - i = 1 by omega, List.take_succ_cons, List.take_zero]
          cases f with
          | zero => rfl
          | succ f => simp only [encF]; rw [if_pos (by omega)]
theorem encU_scan {bs : List Nat} (hb : ∀ x ∈ bs, x < 256) (h : (scanR bs).2.2 = 0) : encU (scanR bs).1 = bs.take (scanR bs).2.1 := by
  obtain ⟨w, a, b, _⟩ := enc_scan (f := 10) (i := 0) (acc := 0) (by omega) hb h
  unfold scanR encU
  rw [a]
  simpa using b
end Go.Rm
