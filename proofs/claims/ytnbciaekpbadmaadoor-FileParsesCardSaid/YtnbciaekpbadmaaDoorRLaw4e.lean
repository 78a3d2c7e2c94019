import Derived.Test.YtnbciaekpbadmaaDoorRLaw4d

/- The laws of numbers in bytes: WireSums. -/
set_option linter.unusedSimpArgs false
set_option linter.unusedVariables false
namespace Go.Rm

theorem sumF_ne1 : ∀ {l : List Nat} {a a' c c' : Nat}, a < 257 → a' < 257 → a ≠ a' → (sumF a c l).1 ≠ (sumF a' c' l).1 := by
  intro l
  induction l with
  | nil => intro a a' c c' _ _ h; exact h
  | cons x r ih => intro a a' c c' _ _ h; simp only [sumF]; exact ih (by omega) (by omega) (by omega)
theorem sumB_inj {l l' : List Nat} : sumB l = sumB l' ↔ sumF 0 0 l = sumF 0 0 l' := by
  constructor
  · intro h
    simp only [sumB, List.cons.injEq, and_true] at h
    obtain ⟨h1, h2, h3, h4⟩ := h
    apply Prod.ext
    · omega
    · omega
  · intro h
    simp only [sumB, h]
theorem sumF_set : ∀ {l : List Nat} {k y a c : Nat}, k < l.length → y < 256 → (∀ x ∈ l, x < 256) → a < 257 → c < 257 → (sumF a c (l.set k y) = sumF a c l ↔ y = nth l k) := by
  intro l
  induction l with
  | nil => intro k y a c hk; simp at hk
  | cons x r ih =>
    intro k y a c hk hy hl ha hc
    have hx := hl x (by simp)
    cases k with
    | zero =>
      simp only [List.set_cons_zero, sumF, nth, List.getD_cons_zero]
      constructor
      · intro h
        refine Classical.byContradiction fun hne => ?_
        exact sumF_ne1 (l := r) (a := (a + y) % 257) (a' := (a + x) % 257) (c := (c + (a + y) % 257) % 257) (c' := (c + (a + x) % 257) % 257) (by omega) (by omega) (by omega) (by rw [h])
      · rintro rfl; rfl
    | succ k =>
      simp only [List.set_cons_succ, sumF]
      have := ih (k := k) (y := y) (a := (a + x) % 257) (c := (c + (a + x) % 257) % 257) (by simpa using hk) hy (fun z hz => hl z (by simp [hz])) (by omega) (by omega)
      rw [this]
      simp [nth]
theorem sumB_set {l : List Nat} {k y : Nat} (hk : k < l.length) (hy : y < 256) (hl : ∀ x ∈ l, x < 256) : sumB (l.set k y) = sumB l ↔ y = nth l k := by
  rw [sumB_inj, sumF_set hk hy hl (by omega) (by omega)]
section
variable {Y : Sys} {h : Heap}

theorem bytesL_set {bs : List Nat} {k y : Nat} : (bytesL bs).set k (.int .u8 (y : Int)) = bytesL (bs.set k y) := by
  simp [bytesL, List.map_set]

theorem set_lt {bs : List Nat} {k y : Nat} (hb : ∀ x ∈ bs, x < 256) (hy : y < 256) : ∀ x ∈ bs.set k y, x < 256 := by
  intro x hx
  rcases List.mem_or_eq_of_mem_set hx with h | h
  · exact hb x h
  · omega

/-- bytes of one's own, one byte set -/
theorem own_set {s : Sl} {bs : List Nat} (o : Own h 1 s (bytesL bs)) {k y : Nat} (hk : k < bs.length) :
    Own (hset h s.b (s.o + k) (.int .u8 (y : Int))) 1 s (bytesL (bs.set k y)) ∧ (hc h s.b (s.o + k)).isSome = true ∧ hfz h s.b (s.o + k) = false ∧ Mod (fun j => j = s.b) h (hset h s.b (s.o + k) (.int .u8 (y : Int))) := by
  have h1 := o.set (i := k) (v := .int .u8 (y : Int)) (by simpa using hk)
  rw [bytesL_set] at h1
  obtain ⟨arr, hb, hlt, _⟩ := o.blk (i := k) (by simpa using hk)
  refine ⟨h1, ?_, hb.hfz, Mod.set rfl⟩
  rw [hb.hc]
  simp [hlt]

end
end Go.Rm
