/- The laws of numbers in bytes: WireNums. -/
import Derived.Test.YtghpbaebbljppaaDoorRLaw4b
set_option linter.unusedSimpArgs false
set_option linter.unusedVariables false
namespace Go.Rm

def encL (L : List Nat) : List Nat := L.flatMap encU

theorem nth_eq {L : List Nat} {i : Nat} (hi : i < L.length) : nth L i = L[i] := by simp [nth, hi]
theorem encL_snoc {L : List Nat} {i : Nat} (hi : i < L.length) : encL (L.take (i + 1)) = encL (L.take i) ++ encU (nth L i) := by
  rw [nth_eq hi, List.take_succ_eq_append_getElem hi]
  simp only [encL, List.flatMap_append, List.flatMap_cons, List.flatMap_nil, List.append_nil]
theorem encL_split {L : List Nat} {i : Nat} (hi : i < L.length) : encL L = encL (L.take i) ++ (encU (nth L i) ++ encL (L.drop (i + 1))) := by
  rw [nth_eq hi, ← List.append_assoc]
  have : L = L.take i ++ L[i] :: L.drop (i + 1) := by simp
  conv => lhs; rw [this]
  simp only [encL, List.flatMap_append, List.flatMap_cons, List.append_assoc]
theorem encL_drop {L : List Nat} {i : Nat} (hi : i < L.length) : (encL L).drop (encL (L.take i)).length = encU (nth L i) ++ encL (L.drop (i + 1)) := by
  rw [encL_split hi, List.drop_left]
theorem encL_lt {L : List Nat} (hL : ∀ x ∈ L, x < 2 ^ 64) : ∀ x ∈ encL L, x < 256 := by
  intro x hx
  simp only [encL, List.mem_flatMap] at hx
  obtain ⟨v, hv, hx⟩ := hx
  exact encU_lt (hL v hv) x hx
theorem encL_len {L : List Nat} (hL : ∀ x ∈ L, x < 2 ^ 64) : (encL L).length ≤ 10 * L.length := by
  induction L with
  | nil => simp [encL]
  | cons x r ih =>
    have h1 := enc_len (hL x (by simp))
    have h2 := ih fun z hz => hL z (by simp [hz])
    simp only [encL, List.flatMap_cons, List.length_append, List.length_cons] at h2 ⊢
    omega
theorem encL_take_le {L : List Nat} {i : Nat} (hi : i < L.length) : (encL (L.take (i + 1))).length = (encL (L.take i)).length + (encU (nth L i)).length ∧ (encL (L.take (i + 1))).length ≤ (encL L).length := by
  have h1 := congrArg List.length (encL_snoc hi)
  have h2 := congrArg List.length (encL_split hi)
  simp only [List.length_append] at h1 h2
  omega

theorem rdU_at {L : List Nat} {i most : Nat} (hi : i < L.length) (hL : ∀ x ∈ L, x < 2 ^ 64) (hm : nth L i ≤ most) :
    rdU (encL L) (encL (L.take i)).length 0 most = (nth L i, (encL (L.take (i + 1))).length, 0) := by
  have hx : nth L i < 2 ^ 64 := by rw [nth_eq hi]; exact hL _ (List.getElem_mem hi)
  unfold rdU
  rw [encL_drop hi, scan_encU hx, (encL_take_le hi).1]
  simp [hm]
theorem rdI_at {L : List Nat} {i : Nat} {j : Int} (hi : i < L.length) (hL : ∀ x ∈ L, x < 2 ^ 64) (hz : nth L i = zz j) (hj : -9223372036854775808 ≤ j ∧ j ≤ 9223372036854775807) :
    rdI (encL L) (encL (L.take i)).length 0 9223372036854775808 = (j, (encL (L.take (i + 1))).length, 0) := by
  have h1 := zz_lt hj
  have h2 := (unz_zz hj).2
  have h3 := (unz_zz hj).1
  have hu := rdU_at (most := 18446744073709551615) hi hL (by rw [hz]; omega)
  unfold rdI
  rw [hu, hz]
  simp only
  rw [if_neg (by simp), if_neg (by split at h2 <;> omega), h3]

theorem scan_cutF : ∀ {k i acc v j : Nat}, j < (encF k v).length → (scanF (k + 1) i acc ((encF k v).take j)).2.2 = 3 := by
  intro k
  induction k with
  | zero =>
    intro i acc v j hj
    simp [encF] at hj
    subst hj
    simp [scanF]
  | succ k ih =>
    intro i acc v j hj
    cases j with
    | zero => simp [scanF]
    | succ j =>
      simp only [encF] at hj ⊢
      split at hj
      · simp at hj
      · rename_i c
        rw [if_neg c, List.take_succ_cons, scanF, if_pos (by omega)]
        exact ih (by simpa using hj)
theorem rdU_cut {L : List Nat} {m k : Nat} (hm : m < L.length) (hL : ∀ x ∈ L, x < 2 ^ 64) (hk : (encL (L.take m)).length ≤ k) :
    rdU ((encL L).take k) (encL (L.take m)).length 0 18446744073709551615 = if (encL (L.take (m + 1))).length ≤ k then (nth L m, (encL (L.take (m + 1))).length, 0) else (0, (encL (L.take m)).length, 3) := by
  have hx : nth L m < 2 ^ 64 := by rw [nth_eq hm]; exact hL _ (List.getElem_mem hm)
  have hd : ((encL L).take k).drop (encL (L.take m)).length = (encU (nth L m) ++ encL (L.drop (m + 1))).take (k - (encL (L.take m)).length) := by
    rw [List.drop_take, encL_drop hm]
  have ht := (encL_take_le hm).1
  unfold rdU
  rw [hd]
  by_cases c : (encL (L.take (m + 1))).length ≤ k
  · rw [List.take_append, List.take_of_length_le (l := encU (nth L m)) (by omega), scan_encU hx, if_pos c, ht]
    rw [if_neg (by simp), if_neg (by simp), if_neg (by simp only; omega)]
  · have hs : scanR ((encU (nth L m)).take (k - (encL (L.take m)).length)) = scanR ((encU (nth L m)).take (k - (encL (L.take m)).length)) := rfl
    have h3 : (scanR ((encU (nth L m)).take (k - (encL (L.take m)).length))).2.2 = 3 := scan_cutF (k := 9) (i := 0) (acc := 0) (v := nth L m) (by show _ < (encU (nth L m)).length; omega)
    rw [List.take_append_of_le_length (by omega), if_neg (by simp), h3, if_pos (by simp), if_neg c]
    rfl
end Go.Rm
