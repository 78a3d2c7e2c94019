import Derived.Test.YtegflpgpkbffkaaRFlow1
import Derived.Test.YtegflpgpkbffkaaRGraph7
import Derived.Test.YtegflpgpkbffkaaRHeap3
import Derived.Test.YtegflpgpkbffkaaSNums

/- Least walks, in plain Lean. -/
set_option linter.unusedSimpArgs false
set_option linter.unusedVariables false
namespace Go.Rm
/-- a walk: where it begins, at what; what each step costs -/
inductive WalkS (I : Nat → Int → Prop) (E : Nat → Nat → Int → Prop) : Nat → Int → Prop
  | init {b : Nat} {c : Int} : I b c → WalkS I E b c
  | step {a b : Nat} {c w : Int} : WalkS I E a c → E a b w → WalkS I E b (c + w)
/-- the least cost of a walk to b, Inf where there is none -/
structure LeastS (I : Nat → Int → Prop) (E : Nat → Nat → Int → Prop) (b : Nat) (d : Int) : Prop where
  le : d ≤ 1152921504606846976
  all : ∀ c, WalkS I E b c → d ≤ c
  is : d = 1152921504606846976 ∨ WalkS I E b d
theorem LeastS.uniq {I : Nat → Int → Prop} {E : Nat → Nat → Int → Prop} {b : Nat} {d d' : Int} (h : LeastS I E b d) (h' : LeastS I E b d') : d = d' := by
  have a1 := h.le
  have a2 := h'.le
  rcases h.is with e | e <;> rcases h'.is with e' | e'
  · omega
  · have := h.all _ e'; omega
  · have := h'.all _ e; omega
  · have := h.all _ e'; have := h'.all _ e; omega
structure Costs (n : Nat) (I : Nat → Int → Prop) (E : Nat → Nat → Int → Prop) : Prop where
  i0 : ∀ b c, I b c → b < n ∧ 0 ≤ c ∧ c ≤ 4294967296
  e0 : ∀ a b w, E a b w → b < n ∧ 0 ≤ w ∧ w ≤ 4294967296
  n0 : n ≤ 16384
theorem WalkS.pos {n : Nat} {I : Nat → Int → Prop} {E : Nat → Nat → Int → Prop} (C : Costs n I E) {b : Nat} {c : Int} (w : WalkS I E b c) : b < n ∧ 0 ≤ c := by
  induction w with
  | init h => exact ⟨(C.i0 _ _ h).1, (C.i0 _ _ h).2.1⟩
  | step _ h ih => exact ⟨(C.e0 _ _ _ h).1, by have := (C.e0 _ _ _ h).2.1; omega⟩
/-- reached at x at most -/
def RxW (ord : List Nat) (cost : Nat → Int) (A : KMap) (b : Nat) (x : Int) : Prop := (b ∈ ord ∧ cost b ≤ x) ∨ ∃ c, A b = some c ∧ c ≤ x
def updI (f : Nat → Int) (k : Nat) (x : Int) : Nat → Int := fun j => if j = k then x else f j
structure Dij (n : Nat) (I : Nat → Int → Prop) (E : Nat → Nat → Int → Prop) (ord : List Nat) (cost : Nat → Int) (A : KMap) (pI : Nat → Prop) (pE : Nat → Nat → Prop) : Prop where
  nd : ord.Nodup
  lt : ∀ a, a ∈ ord → a < n
  off : ∀ a, a ∈ ord → A a = none
  wS : ∀ a, a ∈ ord → WalkS I E a (cost a)
  wA : ∀ b c, b < n → A b = some c → WalkS I E b c
  bS : ∀ a, a ∈ ord → cost a ≤ ord.length * 4294967296
  bA : ∀ b c, b < n → A b = some c → c ≤ (ord.length + 1) * 4294967296
  le : ∀ a, a ∈ ord → ∀ b c, b < n → A b = some c → cost a ≤ c
  st : ∀ b c, I b c → pI b ∨ RxW ord cost A b c
  rx : ∀ a, a ∈ ord → ∀ b w, E a b w → pE a b ∨ RxW ord cost A b (cost a + w)
section
variable {n : Nat} {I : Nat → Int → Prop} {E : Nat → Nat → Int → Prop} {ord : List Nat} {cost : Nat → Int} {A : KMap} {pI pI' : Nat → Prop} {pE pE' : Nat → Nat → Prop}
theorem nodup_len {l : List Nat} : ∀ {n : Nat}, l.Nodup → (∀ a, a ∈ l → a < n) → l.length ≤ n := by
  intro n
  induction n generalizing l with
  | zero =>
    intro _ lt
    cases l with
    | nil => simp
    | cons x r => exact absurd (lt x (by simp)) (by omega)
  | succ n ih =>
    intro nd lt
    have h1 := ih (l := l.erase n) (nd.erase n) (fun a ha => by
      have h2 := (nd.mem_erase_iff).1 ha
      have := lt a h2.2
      omega)
    have h3 : l.length ≤ (l.erase n).length + 1 := by
      rw [List.length_erase]
      split <;> omega
    omega
theorem Dij.len (d : Dij n I E ord cost A pI pE) : ord.length ≤ n := nodup_len d.nd d.lt
theorem Dij.start (hI : ∀ b c, I b c → pI b) : Dij n I E [] cost (fun _ => none) pI pE :=
  ⟨List.nodup_nil, fun a h => by simp at h, fun a h => by simp at h, fun a h => by simp at h, fun b c _ h => by simp at h, fun a h => by simp at h, fun b c _ h => by simp at h, fun a h => by simp at h, fun b c h => .inl (hI b c h), fun a h => by simp at h⟩
theorem Dij.less (d : Dij n I E ord cost A pI pE) (hI : ∀ b c, I b c → pI b → pI' b ∨ RxW ord cost A b c) (hE : ∀ a, a ∈ ord → ∀ b w, E a b w → pE a b → pE' a b ∨ RxW ord cost A b (cost a + w)) : Dij n I E ord cost A pI' pE' :=
  ⟨d.nd, d.lt, d.off, d.wS, d.wA, d.bS, d.bA, d.le, fun b c h => (d.st b c h).elim (hI b c h) .inr, fun a ha b w h => (d.rx a ha b w h).elim (hE a ha b w h) .inr⟩
/-- the least one is taken out -/
theorem Dij.pop (d : Dij n I E ord cost A (fun _ => False) (fun _ _ => False)) (hn0 : n ≤ 16384) {k : Nat} {c : Int} (m : IsMin n A k c) :
    k ∉ ord ∧ Dij n I E (ord ++ [k]) (updI cost k c) (popM A k) (fun _ => False) (fun a _ => a = k) ∧ (∀ a, a ∈ ord ++ [k] → updI cost k c a ≤ c) ∧ c < 1152921504606846976 ∧ (∀ b x, b < n → popM A k b = some x → c ≤ x) := by
  obtain ⟨hk, hA, hmin⟩ := m
  have hn : k ∉ ord := fun h => by rw [d.off k h] at hA; cases hA
  have hc : ∀ a, a ∈ ord → updI cost k c a = cost a := fun a ha => by
    unfold updI; rw [if_neg (fun e => hn (by rw [← e]; exact ha))]
  have hkk : updI cost k c k = c := by simp [updI]
  have ba := d.bA k c hk hA
  have hmem : ∀ a, a ∈ ord ++ [k] → a ∈ ord ∨ a = k := fun a ha => by simpa using ha
  have hpop : ∀ b x, popM A k b = some x → b ≠ k ∧ A b = some x := fun b x h => by
    unfold popM at h
    by_cases e : b = k
    · rw [if_pos e] at h; cases h
    · rw [if_neg e] at h; exact ⟨e, h⟩
  have hmn : ∀ b x, b < n → A b = some x → c ≤ x := fun b x hb h => by
    rcases hmin b x hb h with h | h <;> omega
  have rx : ∀ b x, RxW ord cost A b x → RxW (ord ++ [k]) (updI cost k c) (popM A k) b x := by
    rintro b x (⟨h1, h2⟩ | ⟨y, h1, h2⟩)
    · exact .inl ⟨by simp [h1], by rw [hc b h1]; exact h2⟩
    · by_cases e : b = k
      · subst e
        rw [hA] at h1
        cases h1
        exact .inl ⟨by simp, by rw [hkk]; exact h2⟩
      · exact .inr ⟨y, by unfold popM; rw [if_neg e]; exact h1, h2⟩
  have top : ∀ a, a ∈ ord ++ [k] → updI cost k c a ≤ c := fun a ha => by
    rcases hmem a ha with h | h
    · rw [hc a h]; exact d.le a h k c hk hA
    · subst h; rw [hkk]; exact Int.le_refl _
  have lenb : (((ord ++ [k]).length : Nat) : Int) = ord.length + 1 := by simp
  have hlen := d.len
  refine ⟨hn, ⟨?_, ?_, ?_, ?_, ?_, ?_, ?_, ?_, ?_, ?_⟩, top, ?_, ?_⟩
  · rw [List.nodup_append]
    exact ⟨d.nd, by simp, fun a ha b hb => by simp at hb; subst hb; exact fun e => hn (by rw [← e]; exact ha)⟩
  · intro a ha
    rcases hmem a ha with h | h
    · exact d.lt a h
    · omega
  · intro a ha
    unfold popM
    rcases hmem a ha with h | h
    · split
      · rfl
      · exact d.off a h
    · rw [if_pos h]
  · intro a ha
    rcases hmem a ha with h | h
    · rw [hc a h]; exact d.wS a h
    · subst h; rw [hkk]; exact d.wA a c hk hA
  · intro b x hb h
    exact d.wA b x hb (hpop b x h).2
  · intro a ha
    rw [lenb]
    have := top a ha
    omega
  · intro b x hb h
    have := d.bA b x hb (hpop b x h).2
    rw [lenb]; omega
  · intro a ha b x hb h
    have h1 := top a ha
    have h2 := hmn b x hb (hpop b x h).2
    omega
  · intro b x h
    exact .inr (rx b x ((d.st b x h).resolve_left id))
  · intro a ha b w h
    rcases hmem a ha with h1 | h1
    · right
      rw [hc a h1]
      exact rx b _ ((d.rx a h1 b w h).resolve_left id)
    · exact .inl h1
  · omega
  · intro b x hb h
    exact hmn b x hb (hpop b x h).2
/-- one more is reached, or reached at less -/
theorem Dij.put (d : Dij n I E ord cost A pI pE) {b : Nat} {x : Int} (hb : b < n) (hn : b ∉ ord) (hw : WalkS I E b x) (hx : x ≤ (ord.length + 1) * 4294967296) (top : ∀ a, a ∈ ord → cost a ≤ x) :
    Dij n I E ord cost (putM n A b x) pI pE ∧ RxW ord cost (putM n A b x) b x := by
  have key : keyB n b = true := by simp [keyB]; omega
  have e : (b : Int).toNat = b := by simp
  by_cases hp : putB n A b x = true
  · have hput : putM n A b x = fun j => if j = b then some x else A j := by unfold putM; rw [if_pos hp, e]
    have rx : ∀ y z, RxW ord cost A y z → RxW ord cost (putM n A b x) y z := by
      rintro y z (h | ⟨u, h1, h2⟩)
      · exact .inl h
      · right
        rw [hput]
        by_cases ey : y = b
        · subst ey
          refine ⟨x, by simp, ?_⟩
          unfold putB at hp
          rw [key, e, h1] at hp
          simp at hp
          omega
        · exact ⟨u, by simp [ey]; exact h1, h2⟩
    refine ⟨⟨d.nd, d.lt, ?_, d.wS, ?_, d.bS, ?_, ?_, fun y z h => (d.st y z h).imp id (rx y z), fun a ha y w h => (d.rx a ha y w h).imp id (rx y _)⟩, .inr ⟨x, by rw [hput]; simp, Int.le_refl _⟩⟩
    · intro a ha
      rw [hput]
      have : a ≠ b := fun e => hn (e ▸ ha)
      simp [this]
      exact d.off a ha
    · intro y c hy h
      rw [hput] at h
      by_cases ey : y = b
      · simp [ey] at h; subst h ey; exact hw
      · simp [ey] at h; exact d.wA y c hy h
    · intro y c hy h
      rw [hput] at h
      by_cases ey : y = b
      · simp [ey] at h; subst h; exact hx
      · simp [ey] at h; exact d.bA y c hy h
    · intro a ha y c hy h
      rw [hput] at h
      by_cases ey : y = b
      · simp [ey] at h; subst h; exact top a ha
      · simp [ey] at h; exact d.le a ha y c hy h
  · have hput : putM n A b x = A := by unfold putM; rw [if_neg hp]
    rw [hput]
    refine ⟨d, ?_⟩
    unfold putB at hp
    rw [key, e] at hp
    cases hA : A b with
    | none => rw [hA] at hp; simp at hp
    | some u =>
      rw [hA] at hp
      simp at hp
      exact .inr ⟨u, hA, by omega⟩
/-- no walk costs less than what is told, or than what waits -/
theorem Dij.walk (C : Costs n I E) (d : Dij n I E ord cost A (fun _ => False) (fun _ _ => False)) {b : Nat} {c : Int} (w : WalkS I E b c) : (b ∈ ord ∧ cost b ≤ c) ∨ ∃ k x, k < n ∧ A k = some x ∧ x ≤ c := by
  have lift : ∀ b c, b < n → RxW ord cost A b c → (b ∈ ord ∧ cost b ≤ c) ∨ ∃ k x, k < n ∧ A k = some x ∧ x ≤ c := fun b c hb h => h.elim .inl (fun ⟨x, h1, h2⟩ => .inr ⟨b, x, hb, h1, h2⟩)
  induction w with
  | init h => exact lift _ _ (C.i0 _ _ h).1 ((d.st _ _ h).resolve_left id)
  | step w h ih =>
    have e0 := C.e0 _ _ _ h
    rcases ih with ⟨h1, h2⟩ | ⟨k, x, h1, h2, h3⟩
    · have := lift _ _ e0.1 ((d.rx _ h1 _ _ h).resolve_left id)
      rcases this with ⟨g1, g2⟩ | ⟨k, x, g0, g1, g2⟩
      · exact .inl ⟨g1, by omega⟩
      · exact .inr ⟨k, x, g0, g1, by omega⟩
    · exact .inr ⟨k, x, h1, h2, by omega⟩
/-- nothing waits any more: all is told -/
theorem Dij.least (C : Costs n I E) (d : Dij n I E ord cost A (fun _ => False) (fun _ _ => False)) (h0 : ∀ k, k < n → A k = none) {b : Nat} (hb : b < n) : LeastS I E b (if b ∈ ord then cost b else 1152921504606846976) := by
  have hw : ∀ c, WalkS I E b c → b ∈ ord ∧ cost b ≤ c := fun c w => by
    rcases d.walk C w with h | ⟨k, x, h1, h2, _⟩
    · exact h
    · rw [h0 k h1] at h2; cases h2
  have hl := d.len
  have hn := C.n0
  by_cases h : b ∈ ord
  · rw [if_pos h]
    refine ⟨?_, fun c w => (hw c w).2, .inr (d.wS b h)⟩
    have := d.bS b h
    omega
  · rw [if_neg h]
    exact ⟨Int.le_refl _, fun c w => absurd (hw c w).1 h, .inl rfl⟩
end
end Go.Rm

/- Least walks of a net, in plain Lean. -/
set_option linter.unusedSimpArgs false
set_option linter.unusedVariables false
namespace Go.Rm
theorem badFrom_w : ∀ {cs : List Int} {k p : Nat}, badFrom k cs = none → p < cs.length → weightB (nthI cs p) = true := by
  intro cs
  induction cs with
  | nil => intro k p _ hp; simp at hp
  | cons x r ih =>
    intro k p h hp
    rw [badFrom] at h
    split at h
    · rename_i hx
      cases p with
      | zero => simpa [nthI] using hx
      | succ p =>
        have := ih h (by simpa using hp)
        simpa [nthI] using this
    · cases h
theorem tabW_w {ins outs : Int} {cs : List Int} (h : (tabW ins outs cs).2 = 0) : ∀ j, j < cs.length → weightB (nthI cs j) = true := by
  unfold tabW at h
  split at h
  · rename_i c; exact absurd h c
  · split at h
    · cases h
    · split at h
      · simp [turnW] at h
      · rename_i hb
        exact fun j hj => badFrom_w hb hj
theorem weight_cases {c : Int} (h : weightB c = true) : c = 1152921504606846976 ∨ (0 ≤ c ∧ c ≤ 2147483648) := by
  unfold weightB at h
  simp at h
  omega
theorem atV_cases {ins outs i k : Int} {cs : List Int} (h : (tabW ins outs cs).2 = 0) : atV ins outs cs i k = 1152921504606846976 ∨ (0 ≤ atV ins outs cs i k ∧ atV ins outs cs i k ≤ 2147483648) := by
  unfold atV
  split
  · exact .inl rfl
  · split
    · rename_i c1 c2
      have h0 : 0 ≤ i * outs := Int.mul_nonneg (by omega) (by omega)
      exact weight_cases (tabW_w h _ (by omega))
    · exact .inl rfl
theorem turn_cases {N : NetD} (ok : NetOK N) {a b : Int} : turnV N a b = 1152921504606846976 ∨ (0 ≤ turnV N a b ∧ turnV N a b ≤ 2147483648) := by
  unfold turnV
  split
  · exact .inl rfl
  · unfold bendV
    simp only
    split
    · exact .inl rfl
    · split
      · exact .inl rfl
      · rename_i c
        have : vtxB N.ts.length (nthT N.vs (nthT N.as a.toNat).b.toNat).c = true := by simpa using c
        simp [vtxB] at this
        exact atV_cases (ok.tab _ (by omega))
theorem arc_cases {N : NetD} (ok : NetOK N) {a : Int} : weightV N a = 1152921504606846976 ∨ (0 ≤ weightV N a ∧ weightV N a ≤ 2147483648) := by
  unfold weightV
  split
  · rename_i c
    simp [vtxB] at c
    exact weight_cases (ok.w _ (by omega))
  · exact .inl rfl
/-- a turn that can be gone leads from an arc into one behind it -/
theorem turn_adj {N : NetD} {a b : Int} (h : turnV N a b ≠ 1152921504606846976) : vtxB N.as.length a = true ∧ vtxB N.as.length b = true ∧ (nthT N.as a.toNat).b = (nthT N.as b.toNat).a ∧ vtxB N.vs.length (nthT N.as a.toNat).b = true := by
  unfold turnV at h
  split at h
  · exact absurd rfl h
  · rename_i c
    unfold bendV at h
    simp only at h
    split at h
    · exact absurd rfl h
    · rename_i d
      refine ⟨?_, ?_, ?_, ?_⟩
      · cases e : vtxB N.as.length a with
        | true => rfl
        | false => exact absurd (.inl e) c
      · cases e : vtxB N.as.length b with
        | true => rfl
        | false => exact absurd (.inr e) c
      · exact Decidable.byContradiction fun e => d (.inl e)
      · cases e : vtxB N.vs.length (nthT N.as a.toNat).b with
        | true => rfl
        | false => exact absurd (.inr e) d
/-- what it costs to go on from an arc to the next one -/
def EdW (N : NetD) (a b : Nat) (w : Int) : Prop := turnV N a b ≠ 1152921504606846976 ∧ weightV N b ≠ 1152921504606846976 ∧ w = turnV N a b + weightV N b
def FromI (N : NetD) (s : Int) (b : Nat) (c : Int) : Prop := (b : Int) = s ∧ c = 0 ∧ weightV N s ≠ 1152921504606846976
theorem weight_in {N : NetD} {a : Int} (h : weightV N a ≠ 1152921504606846976) : ∃ k : Nat, a = k ∧ k < N.as.length := by
  unfold weightV at h
  split at h
  · rename_i c
    simp [vtxB] at c
    exact ⟨a.toNat, by omega, by omega⟩
  · exact absurd rfl h
theorem from_costs {N : NetD} (ok : NetOK N) {s : Int} : Costs N.as.length (FromI N s) (EdW N) := by
  refine ⟨fun b c h => ?_, fun a b w h => ?_, ok.ba⟩
  · obtain ⟨h1, h2, h3⟩ := h
    obtain ⟨k, e, lk⟩ := weight_in h3
    exact ⟨by omega, by omega, by omega⟩
  · obtain ⟨h1, h2, h3⟩ := h
    obtain ⟨k, e, lk⟩ := weight_in h2
    have := (turn_cases ok (a := a) (b := b)).resolve_left h1
    have := (arc_cases ok (a := b)).resolve_left h2
    exact ⟨by omega, by omega, by omega⟩
theorem mem_idxW {p : Tri → Bool} {a : Int} : ∀ {l : List Tri} {k : Nat}, a ∈ idxF p k l ↔ ∃ i, i < l.length ∧ a = ((k + i : Nat) : Int) ∧ p (nthT l i) = true := by
  intro l
  induction l with
  | nil => intro k; simp [idxF]
  | cons t r ih =>
    intro k
    have e : idxF p k (t :: r) = (if p t then [(k : Int)] else []) ++ idxF p (k + 1) r := by simp only [idxF]; split <;> simp_all
    rw [e, List.mem_append, ih]
    constructor
    · rintro (h | ⟨i, h1, h2, h3⟩)
      · split at h
        · rename_i c
          simp at h
          exact ⟨0, by simp, by omega, by simpa [nthT] using c⟩
        · simp at h
      · exact ⟨i + 1, by simpa using h1, by omega, by simpa [nthT] using h3⟩
    · rintro ⟨i, h1, h2, h3⟩
      cases i with
      | zero =>
        left
        have : p t = true := by simpa [nthT] using h3
        simp [this]; omega
      | succ i => exact .inr ⟨i, by simpa using h1, by omega, by simpa [nthT] using h3⟩
theorem mem_outs {as : List Tri} {v a : Int} : a ∈ outsO as v ↔ ∃ i : Nat, i < as.length ∧ a = i ∧ (nthT as i).a = v := by
  unfold outsO
  rw [mem_idxW]
  simp
theorem mem_ins {as : List Tri} {v a : Int} : a ∈ insO as v ↔ ∃ i : Nat, i < as.length ∧ a = i ∧ (nthT as i).b = v := by
  unfold insO
  rw [mem_idxW]
  simp
/-- the arcs behind an arc, ahead of one -/
theorem outs_of {N : NetD} {a b : Nat} (h : turnV N a b ≠ 1152921504606846976) : vtxB N.vs.length (nthT N.as a).b = true ∧ (b : Int) ∈ outsO N.as (nthT N.as a).b := by
  obtain ⟨h1, h2, h3, h4⟩ := turn_adj h
  simp [vtxB] at h2
  refine ⟨by simpa using h4, mem_outs.2 ⟨b, by omega, rfl, ?_⟩⟩
  simpa using h3.symm
theorem ins_of {N : NetD} {a b : Nat} (h : turnV N a b ≠ 1152921504606846976) : vtxB N.vs.length (nthT N.as b).a = true ∧ (a : Int) ∈ insO N.as (nthT N.as b).a := by
  obtain ⟨h1, h2, h3, h4⟩ := turn_adj h
  simp [vtxB] at h1
  simp at h3
  refine ⟨by rw [← h3]; simpa using h4, mem_ins.2 ⟨a, by omega, rfl, h3⟩⟩
end Go.Rm

/- Least walks: whence each arc was reached, in plain Lean; a row of nothing. -/
set_option linter.unusedSimpArgs false
set_option linter.unusedVariables false
namespace Go.Rm
theorem held_in {c : Int} (h0 : 0 ≤ c) (h1 : c ≤ 1152921504606846976) : held c = c := by unfold held; rw [if_neg (by omega), if_neg (by omega)]
theorem sum3 {a b c : Int} (ha : 0 ≤ a) (hb : 0 ≤ b) (hc : 0 ≤ c) (h : a + b + c ≤ 1152921504606846976) : sumI [a, b, c] = a + b + c := by
  simp only [sumI, List.foldl_cons, List.foldl_nil, addI]
  rw [held_in (c := 0) (by omega) (by omega), held_in ha (by omega), held_in (c := 0 + a) (by omega) (by omega), held_in (c := 0 + a) (by omega) (by omega), held_in hb (by omega), held_in (c := 0 + a + b) (by omega) (by omega), held_in (c := 0 + a + b) (by omega) (by omega), held_in hc (by omega), held_in (by omega) (by omega)]
  omega
/-- whence each arc was reached -/
structure AhI (N : NetD) (s : Int) (ord : List Nat) (rk : Nat → Nat) (L : List Int) (A : KMap) (ah : List Int) : Prop where
  rkb : ∀ a, a ∈ ord → rk a < ord.length
  set : ∀ b, b ∈ ord → ((b : Int) = s ∧ nthI ah b = -1) ∨ ∃ a, a ∈ ord ∧ nthI ah b = (a : Int) ∧ (∃ w, EdW N a b w ∧ nthI L b = nthI L a + w) ∧ rk a < rk b
  wait : ∀ b c, b < N.as.length → A b = some c → ((b : Int) = s ∧ nthI ah b = -1) ∨ ∃ a, a ∈ ord ∧ nthI ah b = (a : Int) ∧ ∃ w, EdW N a b w ∧ c = nthI L a + w
section
variable {N : NetD} {s : Int} {ord : List Nat} {rk : Nat → Nat} {L ah : List Int} {A : KMap}
theorem AhI.pop (d : AhI N s ord rk L A ah) {k : Nat} {c : Int} (hk : k < N.as.length) (hL : L.length = N.as.length) (hn : k ∉ ord) (hA : A k = some c) :
    AhI N s (ord ++ [k]) (fun j => if j = k then ord.length else rk j) (L.set k c) (popM A k) ah := by
  have hne : ∀ a, a ∈ ord → a ≠ k := fun a ha e => hn (e ▸ ha)
  have hLk : ∀ a, a ∈ ord → nthI (L.set k c) a = nthI L a := fun a ha => by rw [nthI_set (by omega), if_neg (hne a ha)]
  have hkk : nthI (L.set k c) k = c := by rw [nthI_set (by omega), if_pos rfl]
  refine ⟨fun a ha => ?_, fun b hb => ?_, fun b x hb h => ?_⟩
  · simp
    rcases List.mem_append.1 ha with h | h
    · rw [if_neg (hne a h)]; have := d.rkb a h; omega
    · simp at h; rw [if_pos h]; omega
  · rcases List.mem_append.1 hb with h | h
    · rcases d.set b h with h1 | ⟨a, h1, h2, ⟨w, h3, h4⟩, h5⟩
      · exact .inl h1
      · refine .inr ⟨a, by simp [h1], h2, ⟨w, h3, by rw [hLk b h, hLk a h1]; exact h4⟩, ?_⟩
        simp only [if_neg (hne b h), if_neg (hne a h1)]; exact h5
    · simp at h
      subst h
      rcases d.wait b c hk hA with h1 | ⟨a, h1, h2, w, h3, h4⟩
      · exact .inl h1
      · refine .inr ⟨a, by simp [h1], h2, ⟨w, h3, by rw [hkk, hLk a h1]; exact h4⟩, ?_⟩
        simp only [if_neg (hne a h1), if_true]
        exact d.rkb a h1
  · unfold popM at h
    split at h
    · cases h
    · rcases d.wait b x hb h with h1 | ⟨a, h1, h2, w, h3, h4⟩
      · exact .inl h1
      · exact .inr ⟨a, by simp [h1], h2, w, h3, by rw [hLk a h1]; exact h4⟩
theorem AhI.put (d : AhI N s ord rk L A ah) {k b : Nat} {w x : Int} (hah : ah.length = N.as.length) (hb : b < N.as.length) (hn : b ∉ ord) (hk : k ∈ ord) (he : EdW N k b w) (hx : x = nthI L k + w) (hp : putB N.as.length A b x = true) :
    AhI N s ord rk L (putM N.as.length A b x) (ah.set b k) := by
  have hput : putM N.as.length A b x = fun j => if j = b then some x else A j := by unfold putM; rw [if_pos hp]; simp
  have hne : ∀ a, a ∈ ord → a ≠ b := fun a ha e => hn (e ▸ ha)
  have hah' : ∀ y, y ≠ b → nthI (ah.set b (k : Int)) y = nthI ah y := fun y hy => by rw [nthI_set (by omega), if_neg hy]
  refine ⟨d.rkb, fun y hy => ?_, fun y c hy h => ?_⟩
  · rw [hah' y (hne y hy)]; exact d.set y hy
  · rw [hput] at h
    by_cases e : y = b
    · subst e
      simp at h
      subst h
      exact .inr ⟨k, hk, by rw [nthI_set (by omega), if_pos rfl], w, he, hx⟩
    · simp [e] at h
      rw [hah' y e]
      exact d.wait y c hy h
end
structure HpFns (Y : Sys) : Prop where
  New : Y.Has F.heap_New S_heap_New
  Put : Y.Has F.heap_Heap_Put S_heap_Heap_Put
  Pop : Y.Has F.heap_Heap_Pop S_heap_Heap_Pop
  key : Y.Has F.heap_Heap_key S_heap_Heap_key
  up : Y.Has F.heap_Heap_up S_heap_Heap_up
  down : Y.Has F.heap_Heap_down S_heap_Heap_down
  ahead : Y.Has F.heap_Heap_ahead S_heap_Heap_ahead
  swap : Y.Has F.heap_Heap_swap S_heap_Heap_swap
structure WkG (Y : Sys) : Prop where
  arc : Y.Has F.graph_Graph_arc S_graph_Graph_arc
  vert : Y.Has F.graph_Graph_vert S_graph_Graph_vert
  Arcs : Y.Has F.graph_Graph_Arcs S_graph_Graph_Arcs
  From : Y.Has F.graph_Graph_From S_graph_Graph_From
  To : Y.Has F.graph_Graph_To S_graph_Graph_To
  Weight : Y.Has F.graph_Graph_Weight S_graph_Graph_Weight
  Ins : Y.Has F.graph_Graph_Ins S_graph_Graph_Ins
  Outs : Y.Has F.graph_Graph_Outs S_graph_Graph_Outs
  Turn : Y.Has F.graph_Graph_Turn S_graph_Graph_Turn
  CI : Y.Has F.slices_Clone_int_int S_slices_Clone_int_int
  T : TurnFns Y
structure WalkFns (Y : Sys) : Prop where
  H : HpFns Y
  G : WkG Y
  C : CostFns Y
  none : Y.Has F.walk_none S_walk_none
  spread : Y.Has F.walk_spread S_walk_spread
section
variable {Y : Sys} {h h' : Heap} {p : Nat} {N : NetD} {S : Nat → Prop}
def WnI (v0 v1 : Value) (n b : Nat) (h0 : Heap) (e : List Value) (h' : Heap) : Prop :=
  ∃ (i : Nat) (v3 v6 : Value), e = [v0, v1, .slice (some ⟨b, 0, none⟩) n n, v3, .int .i64 n, .int .i64 i, v6] ∧ i ≤ n ∧ Mod (fun j => j = b) h0 h' ∧ ∃ l : List Int, l.length = n ∧ Own h' 1 (Sl.at b n n) (ints64 l) ∧ ∀ j, j < i → nthI l j = 1152921504606846976
theorem none_spec (W : WalkFns Y) (g : GraphA h p N S) (bn : N.as.length ≤ 16384)
    {R : Value → Heap → Prop} (hr : ∀ h' b, Ext h h' → h.size ≤ b → Own h' 1 (Sl.at b N.as.length N.as.length) (ints64 (List.replicate N.as.length 1152921504606846976)) → R (.slice (some ⟨b, 0, none⟩) N.as.length N.as.length) h') :
    CallP Y F.walk_none [.pointer (some ⟨p, 0, none⟩)] h R := by
  refine .of_has W.none rfl ?_
  simp [S_walk_none, FnS.wp]
  refine garcs_spec W.G.Arcs g ?_
  simp
  refine ef_make64 (n := N.as.length) (by omega) rfl ?_
  intro b h1 g1 o1 e1 l1
  simp
  refine wp_loop' (WnI _ _ N.as.length b h1) (fun e _ => N.as.length - argI e 5) ⟨0, _, _, rfl, by omega, Mod.refl _, _, by simp, o1, fun j hj => by omega⟩ ?_
  rintro e h2 ⟨i, v3, v6, rfl, hi, m2, l, hl, o2, hall⟩
  by_cases c : i < N.as.length
  · have c' : (i : Int) < N.as.length := by omega
    have w1 : IntKind.i64.wrap ((i : Int) + 1) = (i : Int) + 1 := i64_wrap (by omega)
    have hiF : ∀ g, IOp.sem Y g (.idxa 1) [.slice (some ⟨b, 0, none⟩) N.as.length N.as.length, .int .i64 i] = some (.pointer (some ⟨b, i, none⟩)) := fun g => by
      have := sem_idxF (Y := Y) (h := g) (b := b) (sz := 1) (show N.as.length ≤ 9223372036854775807 by omega) c (Nat.le_refl N.as.length)
      simpa using this
    simp [c', c, hiF]
    refine stAt o2 (k := i) (by simp [hl]; omega) ?_
    intro h3 o3 m3
    rw [ints64_set] at o3
    simp [w1]
    refine ⟨⟨i + 1, _, _, rfl, by omega, m2.trans m3, l.set i 1152921504606846976, by simp [hl], o3, fun j hj => ?_⟩, by simp [argI]; omega⟩
    rw [nthI_set (by omega)]
    by_cases q : j = i
    · simp [q]
    · simp [q]; exact hall j (by omega)
  have c' : ¬ (i : Int) < N.as.length := by omega
  simp [c']
  have lrep : l = List.replicate N.as.length 1152921504606846976 := by
    apply List.ext_getElem
    · simp [hl]
    · intro j a1 a2
      have := hall j (by omega)
      rw [nthI_at a1] at this
      simp [this]
  subst lrep
  exact hr h2 b (Mod.toExtF e1 m2 g1) g1 o2
end
end Go.Rm

/- Least walks: spread. -/
set_option linter.unusedSimpArgs false
set_option linter.unusedVariables false
namespace Go.Rm
theorem keysN_le {n : Nat} (h : n ≤ 16384) : keysN (n : Int) = n := by unfold keysN; rw [if_neg (by omega), if_neg (by omega)]; simp
/-- what is told of a net from an arc on -/
structure SpreadOK (N : NetD) (s : Int) (L ah : List Int) : Prop where
  len : L.length = N.as.length
  least : ∀ b, b < N.as.length → LeastS (FromI N s) (EdW N) b (nthI L b)
  ahead : ∃ rk : Nat → Nat, ∀ b, b < N.as.length → nthI L b ≠ 1152921504606846976 → ((b : Int) = s ∧ nthI ah b = -1) ∨ ∃ a, a < N.as.length ∧ nthI ah b = (a : Int) ∧ nthI L a ≠ 1152921504606846976 ∧ (∃ w, EdW N a b w ∧ nthI L b = nthI L a + w) ∧ rk a < rk b
section
variable {Y : Sys} {h h' : Heap} {p : Nat} {N : NetD} {S : Nat → Prop}
def SpO (N : NetD) (p hp cb ab lo : Nat) (s : Int) (h0 : Heap) (m : Nat) (e : List Value) (h' : Heap) : Prop :=
  ∃ (ord : List Nat) (rk : Nat → Nat) (L ah : List Int) (A : KMap) (S' : Nat → Prop) (v5 v6 v7 v8 v9 v10 v11 v12 v13 v14 v15 v16 v17 v18 : Value),
    e = [.pointer (some ⟨p, 0, none⟩), .int .i64 s, .slice (some ⟨cb, 0, none⟩) N.as.length N.as.length, .slice (some ⟨ab, 0, none⟩) N.as.length N.as.length, .pointer (some ⟨hp, 0, none⟩), v5, v6, v7, v8, v9, v10, v11, v12, v13, v14, v15, v16, v17, v18] ∧
    Ext h0 h' ∧ lo ≤ h'.size ∧ HeapR h' hp N.as.length A S' ∧ (∀ b, S' b → lo ≤ b) ∧ Own h' 1 (Sl.at cb N.as.length N.as.length) (ints64 L) ∧ Own h' 1 (Sl.at ab N.as.length N.as.length) (ints64 ah) ∧
    Dij N.as.length (FromI N s) (EdW N) ord (nthI L) A (fun _ => False) (fun _ _ => False) ∧ (∀ b, b < N.as.length → (nthI L b ≠ 1152921504606846976 ↔ b ∈ ord)) ∧ AhI N s ord rk L A ah ∧ m = N.as.length - ord.length
def SpJ (N : NetD) (p hp cb ab lo k M : Nat) (c s : Int) (t : Sl) (l : List Int) (h0 : Heap) (e : List Value) (h' : Heap) : Prop :=
  ∃ (i : Nat) (ord : List Nat) (rk : Nat → Nat) (L ah : List Int) (A : KMap) (S' : Nat → Prop) (v7 v8 v9 v10 v11 v12 v16 v17 v18 : Value),
    e = [.pointer (some ⟨p, 0, none⟩), .int .i64 s, .slice (some ⟨cb, 0, none⟩) N.as.length N.as.length, .slice (some ⟨ab, 0, none⟩) N.as.length N.as.length, .pointer (some ⟨hp, 0, none⟩), .int .i64 k, .int .i64 c, v7, v8, v9, v10, v11, v12, t.v, .int .i64 t.n, .int .i64 i, v16, v17, v18] ∧ i ≤ l.length ∧
    Ext h0 h' ∧ lo ≤ h'.size ∧ HeapR h' hp N.as.length A S' ∧ (∀ b, S' b → lo ≤ b) ∧ Own h' 1 (Sl.at cb N.as.length N.as.length) (ints64 L) ∧ Own h' 1 (Sl.at ab N.as.length N.as.length) (ints64 ah) ∧ Own h' 1 t (ints64 l) ∧ (t.nl = false → ¬ S' t.b ∧ lo ≤ t.b) ∧
    Dij N.as.length (FromI N s) (EdW N) ord (nthI L) A (fun _ => False) (fun a b => a = k ∧ ∃ j, i ≤ j ∧ j < l.length ∧ nthI l j = (b : Int)) ∧ (∀ b, b < N.as.length → (nthI L b ≠ 1152921504606846976 ↔ b ∈ ord)) ∧ AhI N s ord rk L A ah ∧
    (∀ a, a ∈ ord → nthI L a ≤ c) ∧ nthI L k = c ∧ k ∈ ord ∧ N.as.length - ord.length < M
theorem spread_spec (W : WalkFns Y) (g : GraphA h p N S) (ok : NetOK N) {s : Int}
    {R : Value → Heap → Prop} (hr : ∀ h' cb ab L ah, Ext h h' → h.size ≤ cb → h.size ≤ ab → Own h' 1 (Sl.at cb N.as.length N.as.length) (ints64 L) → Own h' 1 (Sl.at ab N.as.length N.as.length) (ints64 ah) → SpreadOK N s L ah →
      R (.tuple #[.slice (some ⟨cb, 0, none⟩) N.as.length N.as.length, .slice (some ⟨ab, 0, none⟩) N.as.length N.as.length]) h') :
    CallP Y F.walk_spread [.pointer (some ⟨p, 0, none⟩), .int .i64 s] h R := by
  have bn := ok.ba
  refine .of_has W.spread rfl ?_
  simp [S_walk_spread, FnS.wp]
  refine none_spec W g bn ?_
  intro h1 cb e1 g1 o1
  simp
  refine garcs_spec W.G.Arcs (g.ext e1) ?_
  simp
  refine ef_make64 (n := N.as.length) (by omega) rfl ?_
  intro ab h2 g2 o2 e2 l2
  have x2 := e1.trans e2
  have o1' := o1.ext' e2
  have z1 := e1.size
  have lcb := o1.lt rfl
  simp at lcb
  have nrep : ∀ b, b < N.as.length → nthI (List.replicate N.as.length 1152921504606846976) b = 1152921504606846976 := fun b hb => by simp [nthI, hb]
  simp
  refine gweight_spec W.G.Weight W.G.arc (g.ext x2) ?_
  by_cases ws : weightV N s = 1152921504606846976
  · simp [ws]
    refine hr h2 cb ab _ _ x2 g1 (by omega) o1' o2 ⟨by simp, fun b hb => ?_, fun b => 0, fun b hb hne => absurd (nrep b hb) hne⟩
    rw [nrep b hb]
    refine ⟨Int.le_refl _, fun c w => ?_, .inl rfl⟩
    exfalso
    have : ∀ b c, WalkS (FromI N s) (EdW N) b c → False := fun b c w => by
      induction w with
      | init h => exact h.2.2 ws
      | step _ _ ih => exact ih
    exact this _ _ w
  obtain ⟨k, hk, lk⟩ := weight_in ws
  subst hk
  have C := from_costs ok (s := (k : Int))
  have hiF : ∀ g z (x : Nat), x < N.as.length → IOp.sem Y g (.idxa 1) [.slice (some ⟨z, 0, none⟩) N.as.length N.as.length, .int .i64 x] = some (.pointer (some ⟨z, x, none⟩)) := fun g z x lx => by
    have := sem_idxF (Y := Y) (h := g) (b := z) (sz := 1) (show N.as.length ≤ 9223372036854775807 by omega) lx (Nat.le_refl N.as.length)
    simpa using this
  simp [ws, hiF _ _ _ lk]
  refine stAt o2 (k := k) (by simp; omega) ?_
  intro h3 o3 m3
  rw [ints64_set] at o3
  have x3 : Ext h h3 := Mod.ext x2 m3 (fun j hj => by omega)
  have o13 := o1'.mod m3 (fun _ => by simp; omega)
  have z3 := m3.size
  simp
  refine garcs_spec W.G.Arcs (g.ext x3) ?_
  simp
  refine new_spec W.H.New ?_
  intro h4 hp S4 H4 f4 e4
  rw [keysN_le bn] at H4
  simp
  refine put_spec W.H.Put W.H.key W.C.Held W.H.up W.H.ahead W.H.swap H4 ?_
  intro h5 S5 H5 f5 m5
  rw [held_in (by omega) (by omega)] at H5
  have e35 : Ext h3 h5 := Mod.ext e4 m5 (fun j hj => f4 j hj)
  have x5 := x3.trans e35
  have z4 := e4.size
  have z5 := m5.size
  have lo5 : ∀ b, S5 b → h3.size ≤ b := fun b hb => by rcases f5 b hb with h | h; exact f4 b h; omega
  have dk : Dij N.as.length (FromI N k) (EdW N) [] (nthI (List.replicate N.as.length 1152921504606846976)) (putM N.as.length (fun _ => none) k 0) (fun _ => False) (fun _ _ => False) := by
    have d0 : Dij N.as.length (FromI N k) (EdW N) [] (nthI (List.replicate N.as.length 1152921504606846976)) (fun _ => none) (fun _ => True) (fun _ _ => False) := Dij.start (fun _ _ _ => trivial)
    obtain ⟨d1, d2⟩ := d0.put (b := k) (x := 0) lk (by simp) (.init ⟨rfl, rfl, ws⟩) (by simp) (fun a h => by simp at h)
    refine d1.less (fun b c h _ => .inr ?_) (fun a h => by simp at h)
    obtain ⟨q1, q2, _⟩ := h
    have : b = k := by omega
    subst this q2
    exact d2
  have hput : putM N.as.length (fun _ => none) (k : Int) 0 = fun j => if j = k then some 0 else none := by
    have : putB N.as.length (fun _ => none) (k : Int) 0 = true := by simp [putB, keyB]; omega
    unfold putM
    rw [if_pos this]
    simp
  have ahi : AhI N k [] (fun _ => 0) (List.replicate N.as.length 1152921504606846976) (putM N.as.length (fun _ => none) k 0) ((List.replicate N.as.length 0).set k (-1)) := by
    refine ⟨fun a h => by simp at h, fun a h => by simp at h, fun b c hb h => .inl ?_⟩
    rw [hput] at h
    by_cases e : b = k
    · subst e
      exact ⟨rfl, by rw [nthI_set (by simp; omega), if_pos rfl]⟩
    · simp [e] at h
  simp
  refine wp_loopM (SpO N p hp cb ab h3.size k h) _ ⟨[], _, _, _, _, S5, _, _, _, _, _, _, _, _, _, _, _, _, _, _, rfl, x5, by omega, H5, lo5, o13.ext' e35, o3.ext' e35, dk, fun b hb => by simp [nrep b hb], ahi, rfl⟩ ?_
  clear dk ahi hput lo5 x5 e35 H5 f5 m5 f4 H4 o13 o3 o1' o2 o1
  rintro m e h6 ⟨ord, rk, L, ah, A, S', v5, v6, v7, v8, v9, v10, v11, v12, v13, v14, v15, v16, v17, v18, rfl, x6, z6, H6, lo6, oL, oA, dk, sett, ahi, rfl⟩
  have lL : L.length = N.as.length := by have := oL.1; simpa using this
  have lA : ah.length = N.as.length := by have := oA.1; simpa using this
  have lab : ab < h2.size := l2
  simp
  refine pop_spec W.H.Pop W.H.down W.H.ahead W.H.swap H6 ?_ ?_
  · intro h0
    simp
    refine hr h6 cb ab L ah x6 g1 (by omega) oL oA ⟨lL, fun b hb => ?_, rk, fun b hb hne => ?_⟩
    · have := dk.least C h0 hb
      by_cases e : b ∈ ord
      · rw [if_pos e] at this; exact this
      · rw [if_neg e] at this
        have hv : nthI L b = 1152921504606846976 := Decidable.byContradiction fun q => e ((sett b hb).1 q)
        rw [hv]; exact this
    · rcases ahi.set b ((sett b hb).1 hne) with q | ⟨a, q1, q2, q3, q4⟩
      · exact .inl q
      · exact .inr ⟨a, dk.lt a q1, q2, (sett a (dk.lt a q1)).2 q1, q3, q4⟩
  intro h7 a c hmin H7 m7
  obtain ⟨hn, d7, top, cInf, hq7⟩ := dk.pop ok.ba hmin
  have la := hmin.1
  have ah7 := ahi.pop la lL hn hmin.2.1
  have x7 : Ext h h7 := Mod.ext x6 m7 (fun j hj => by have := lo6 j hj; omega)
  have oL7 := oL.mod m7 (fun _ q => by have := lo6 _ q; simp at this; omega)
  have oA7 := oA.mod m7 (fun _ q => by have := lo6 _ q; simp at this; omega)
  simp [hiF _ _ _ la]
  refine stAt oL7 (k := a) (by simp [lL]; omega) ?_
  intro h8 oL8 m8
  rw [ints64_set] at oL8
  have x8 : Ext h h8 := Mod.ext x7 m8 (fun j hj => by omega)
  have oA8 := oA7.mod m8 (fun _ q => by simp at q; omega)
  have H8 := H7.mod m8 (fun b hb q => by have := lo6 b hb; omega)
  have hcost : nthI (L.set a c) = updI (nthI L) a c := funext fun b => by rw [nthI_set (by omega)]; rfl
  rw [← hcost] at d7 top
  have hLa : nthI (L.set a c) a = c := by rw [hcost]; simp [updI]
  have sett8 : ∀ b, b < N.as.length → (nthI (L.set a c) b ≠ 1152921504606846976 ↔ b ∈ ord ++ [a]) := fun b hb => by
    rw [nthI_set (by omega)]
    by_cases e : b = a
    · subst e; simp; omega
    · rw [if_neg e]; simp [e]; exact sett b hb
  have tv : toV N a = (nthT N.as a).b := by
    have : vtxB N.as.length (a : Int) = true := by simp [vtxB]; omega
    unfold toV; rw [if_pos this]; simp
  obtain ⟨l, hl⟩ : ∃ l, l = (if vtxB N.vs.length (toV N a) then outsO N.as (toV N a) else []) := ⟨_, rfl⟩
  have hin : ∀ b w, EdW N a b w → ∃ j, j < l.length ∧ nthI l j = (b : Int) := fun b w h => by
    obtain ⟨q1, q2⟩ := outs_of h.1
    rw [hl, tv, if_pos q1]
    obtain ⟨j, hj, he⟩ := List.getElem_of_mem q2
    exact ⟨j, hj, by rw [nthI_at hj]; exact he⟩
  have hmem : ∀ x, x ∈ l → ∃ b : Nat, x = b ∧ b < N.as.length := fun x hx => by
    rw [hl] at hx
    split at hx
    · obtain ⟨b, q1, q2, _⟩ := mem_outs.1 hx
      exact ⟨b, q2, q1⟩
    · simp at hx
  have hnat : ∀ j, j < l.length → ∃ b : Nat, nthI l j = b ∧ b < N.as.length := fun j hj => hmem _ (nthI_mem hj)
  simp
  refine gto_spec W.G.To W.G.arc (g.ext x8) ?_
  simp
  refine gouts_spec W.G.Outs W.G.vert W.G.CI (g.ext x8) (by omega) ?_
  intro h9 t e9 ot ft
  rw [← hl] at ot
  have tl := ot.row64.len
  have z7 := m7.size
  have z8 := m8.size
  have z9 := e9.size
  have hft : t.nl = false → ¬ S' t.b ∧ h3.size ≤ t.b := fun hn => ⟨fun q => by have := ft hn; have := H7.lt q; omega, by have := ft hn; omega⟩
  have llen : l.length ≤ N.as.length := by
    rw [hl]
    split
    · unfold outsO; rw [idxF_len]; exact List.length_filter_le ..
    · simp
  have d9 : Dij N.as.length (FromI N k) (EdW N) (ord ++ [a]) (nthI (L.set a c)) (popM A a) (fun _ => False) (fun x b => x = a ∧ ∃ j, 0 ≤ j ∧ j < l.length ∧ nthI l j = (b : Int)) :=
    d7.less (fun _ _ _ h => h.elim) (fun x hx b w he hxa => by
      subst hxa
      obtain ⟨j, q1, q2⟩ := hin b w he
      exact .inl ⟨rfl, j, by omega, q1, q2⟩)
  have hM : N.as.length - (ord ++ [a]).length < N.as.length - ord.length := by
    have := nodup_len d7.nd d7.lt
    simp at this ⊢
    omega
  simp
  refine wp_loop' (SpJ N p hp cb ab h3.size a (N.as.length - ord.length) c k t l h) (fun e _ => l.length - argI e 15) ⟨0, _, _, _, _, _, S', _, _, _, _, _, _, _, _, _, rfl, by omega, x8.trans e9, by omega, H8.mod e9 (fun _ _ h => h), lo6, oL8.ext' e9, oA8.ext' e9, ot, hft, d9, sett8, ah7, top, hLa, by simp, hM⟩ ?_
  clear d9 hM sett8 ah7 top hLa hcost oL8 oA8 H8 x8 m8 oA7 oL7 x7 m7 H7 d7 oL oA dk sett ahi H6 x6 lo6 hmin hn hft ft ot e9 lL lA hq7 z7 z8 z9 z6
  generalize N.as.length - ord.length = M
  clear rk L ah A S' ord
  rintro e h10 ⟨i, ord, rk, L, ah, A, S', v7, v8, v9, v10, v11, v12, v16, v17, v18, rfl, hi, x10, z10, H10, lo10, oL, oA, ot, nt, dk, sett, ahi, top, hLa, hka, hM⟩
  have rt := ot.row64
  have lL : L.length = N.as.length := by have := oL.1; simpa using this
  have lA : ah.length = N.as.length := by have := oA.1; simpa using this
  have olen := nodup_len dk.nd dk.lt
  by_cases ci : i < l.length
  rotate_left
  · have ci' : ¬ (i : Int) < t.n := by omega
    simp [ci']
    refine next_M (m' := N.as.length - ord.length) ⟨ord, rk, L, ah, A, S', _, _, _, _, _, _, _, _, _, _, _, _, _, _, rfl, x10, z10, H10, lo10, oL, oA, dk.less (fun _ _ _ h => h.elim) (fun x hx b w he hp => by obtain ⟨_, j, q1, q2, _⟩ := hp; omega), sett, ahi, rfl⟩ hM
  have ci1 : (i : Int) < t.n := by omega
  have ci2 : i < t.n := by omega
  have wi : IntKind.i64.wrap ((i : Int) + 1) = (i : Int) + 1 := i64_wrap (by omega)
  obtain ⟨b, hb, lb⟩ := hnat i ci
  have rb := rt.val i ci
  rw [hb] at rb
  simp [ci1, ci2, sem_idxa rt.ok, rb]
  refine gturn_spec W.G.Turn W.G.arc W.G.T (g.ext x10) ok ?_
  intro h11 e11
  have x11 := x10.trans e11
  simp
  refine gweight_spec W.G.Weight W.G.arc (g.ext x11) ?_
  have H11 := H10.mod e11 (fun _ _ h => h)
  have oL11 := oL.ext' e11
  have oA11 := oA.ext' e11
  have ot11 := ot.ext' e11
  have z11 := e11.size
  have kb := oL11.row64.val b (by omega)
  simp at kb
  -- nothing is to be done
  have skip : (∀ w, EdW N a b w → b ∈ ord) → SpJ N p hp cb ab h3.size a M c k t l h [.pointer (some ⟨p, 0, none⟩), .int .i64 k, .slice (some ⟨cb, 0, none⟩) N.as.length N.as.length, .slice (some ⟨ab, 0, none⟩) N.as.length N.as.length, .pointer (some ⟨hp, 0, none⟩), .int .i64 a, .int .i64 c, v7, .int .i64 b, .int .i64 (turnV N a b), .int .i64 (weightV N b), v11, v12, t.v, .int .i64 t.n, .int .i64 ((i : Int) + 1), .bool true, .bool true, v18] h11 := fun hs =>
    ⟨i + 1, ord, rk, L, ah, A, S', _, _, _, _, _, _, _, _, _, rfl, by omega, x11, by omega, H11, lo10, oL11, oA11, ot11, nt, dk.less (fun _ _ _ h => h.elim) (fun x hx y w he hp => by
      obtain ⟨rfl, j, q1, q2, q3⟩ := hp
      by_cases e : j = i
      · subst e
        have hyb : y = b := by omega
        subst hyb
        have hb' := hs w he
        have := (C.e0 _ _ _ he).2.1
        exact .inr (.inl ⟨hb', by have := top y hb'; omega⟩)
      · exact .inl ⟨rfl, j, by omega, q2, q3⟩), sett, ahi, top, hLa, hka, hM⟩
  by_cases t1 : turnV N a b = 1152921504606846976
  · have sk := skip (fun w he => absurd t1 he.1)
    simp [t1, wi]
    rw [t1] at sk
    exact ⟨sk, by simp [argI]; omega⟩
  by_cases w1 : weightV N b = 1152921504606846976
  · have sk := skip (fun w he => absurd w1 he.2.1)
    simp [t1, w1, wi]
    rw [w1] at sk
    exact ⟨sk, by simp [argI]; omega⟩
  by_cases c1 : nthI L b = 1152921504606846976
  rotate_left
  · have sk := skip (fun w he => (sett b lb).1 c1)
    simp [t1, w1, hiF _ _ _ lb, kb, c1, wi]
    exact ⟨sk, by simp [argI]; omega⟩
  have tc := (turn_cases ok (a := (a : Int)) (b := (b : Int))).resolve_left t1
  have wc := (arc_cases ok (a := (b : Int))).resolve_left w1
  have bno : b ∉ ord := fun h => (sett b lb).2 h c1
  have ha0 := (dk.wS a hka).pos C
  have hcb := dk.bS a hka
  rw [hLa] at ha0 hcb
  have he : EdW N a b (turnV N a b + weightV N b) := ⟨t1, w1, rfl⟩
  have s3 := sum3 ha0.2 tc.1 wc.1 (by omega)
  simp [t1, w1, hiF _ _ _ lb, kb, c1]
  refine ef_bslice_all rfl rfl rfl ?_ (by omega)
  intro b3 h12 g12 _ e12 o12
  have r12 : Row64 h12 (Sl.at b3 3 3) [c, turnV N a b, weightV N b] := Own.row64 (cs := [c, turnV N a b, weightV N b]) o12
  have x12 := x11.trans e12
  have z12 := e12.size
  simp
  refine sum_spec W.C r12 (by simp) ?_
  rw [s3]
  simp
  refine put_spec W.H.Put W.H.key W.C.Held W.H.up W.H.ahead W.H.swap (H11.mod e12 (fun _ _ h => h)) ?_
  intro h13 S13 H13 f13 m13
  rw [held_in (by omega) (by omega)] at H13 ⊢
  have x13 : Ext h h13 := Mod.ext x12 m13 (fun j hj => by have := lo10 j hj; omega)
  have lo13 : ∀ b, S13 b → h3.size ≤ b := fun b hb => by
    rcases f13 b hb with q | q
    · exact lo10 b q
    · omega
  have oL13 := (oL11.ext' e12).mod m13 (fun _ q => by have := lo10 _ q; simp at this; omega)
  have oA13 := (oA11.ext' e12).mod m13 (fun _ q => by have := lo10 _ q; simp at this; omega)
  have ot12 := ot11.ext' e12
  have ot13 := ot12.mod m13 (fun hn => (nt hn).1)
  have ft' : t.nl = false → h3.size ≤ t.b := fun hn => (nt hn).2
  have nt13 : t.nl = false → ¬ S13 t.b ∧ h3.size ≤ t.b := fun hn => ⟨fun q => by
    rcases f13 _ q with q | q
    · exact (nt hn).1 q
    · have := ot12.lt hn; omega, (nt hn).2⟩
  have z13 := m13.size
  obtain ⟨p1, p2⟩ := dk.put (b := b) (x := c + turnV N a b + weightV N b) lb bno (by have := WalkS.step (dk.wS a hka) he; rw [hLa] at this; rwa [← Int.add_assoc] at this) (by omega) (fun x hx => by have := top x hx; omega)
  have pE : ∀ (A' : KMap), RxW ord (nthI L) A' b (c + turnV N a b + weightV N b) → ∀ x, x ∈ ord → ∀ y w, EdW N x y w → (x = a ∧ ∃ j, i ≤ j ∧ j < l.length ∧ nthI l j = (y : Int)) → (x = a ∧ ∃ j, i + 1 ≤ j ∧ j < l.length ∧ nthI l j = (y : Int)) ∨ RxW ord (nthI L) A' y (nthI L x + w) := fun A' hrx x hx y w hxy hp => by
    obtain ⟨rfl, j, q1, q2, q3⟩ := hp
    by_cases e : j = i
    · subst e
      have hyb : y = b := by omega
      subst hyb
      right
      rw [hLa, hxy.2.2, ← Int.add_assoc]
      exact hrx
    · exact .inl ⟨rfl, j, by omega, q2, q3⟩
  cases hpb : putB N.as.length A (b : Int) (c + turnV N a b + weightV N b) with
  | true =>
    simp [hiF _ _ _ lb]
    refine stAt oA13 (k := b) (by simp [lA]; omega) ?_
    intro h14 oA14 m14
    rw [ints64_set] at oA14
    have z14 := m14.size
    simp [wi]
    have sk : SpJ N p hp cb ab h3.size a M c k t l h [.pointer (some ⟨p, 0, none⟩), .int .i64 k, .slice (some ⟨cb, 0, none⟩) N.as.length N.as.length, .slice (some ⟨ab, 0, none⟩) N.as.length N.as.length, .pointer (some ⟨hp, 0, none⟩), .int .i64 a, .int .i64 c, v7, .int .i64 b, .int .i64 (turnV N a b), .int .i64 (weightV N b), v11, v12, t.v, .int .i64 t.n, .int .i64 ((i : Int) + 1), .bool true, .bool false, .bool true] h14 :=
      ⟨i + 1, ord, rk, L, ah.set b a, _, S13, _, _, _, _, _, _, _, _, _, rfl, by omega, Mod.ext x13 m14 (fun j hj => by omega), by omega, H13.mod m14 (fun b hb q => by have := lo13 b hb; omega), lo13, oL13.mod m14 (fun _ q => by simp at q; omega), oA14, ot13.mod m14 (fun hn q => by have := ft' hn; omega), nt13,
        p1.less (fun _ _ _ h => h.elim) (pE _ p2), sett, ahi.put lA lb bno hka he (by rw [hLa, Int.add_assoc]) hpb, top, hLa, hka, hM⟩
    exact ⟨sk, by simp [argI]; omega⟩
  | false =>
    have hsame : putM N.as.length A (b : Int) (c + turnV N a b + weightV N b) = A := by unfold putM; rw [if_neg (by rw [hpb]; simp)]
    rw [hsame] at p1 p2 H13
    simp [wi]
    have sk : SpJ N p hp cb ab h3.size a M c k t l h [.pointer (some ⟨p, 0, none⟩), .int .i64 k, .slice (some ⟨cb, 0, none⟩) N.as.length N.as.length, .slice (some ⟨ab, 0, none⟩) N.as.length N.as.length, .pointer (some ⟨hp, 0, none⟩), .int .i64 a, .int .i64 c, v7, .int .i64 b, .int .i64 (turnV N a b), .int .i64 (weightV N b), v11, v12, t.v, .int .i64 t.n, .int .i64 ((i : Int) + 1), .bool true, .bool false, .bool false] h13 :=
      ⟨i + 1, ord, rk, L, ah, A, S13, _, _, _, _, _, _, _, _, _, rfl, by omega, x13, by omega, H13, lo13, oL13, oA13, ot13, nt13, p1.less (fun _ _ _ h => h.elim) (pE _ p2), sett, ahi, top, hLa, hka, hM⟩
    exact ⟨sk, by simp [argI]; omega⟩
end
end Go.Rm

/- Least walks: To. -/
set_option linter.unusedSimpArgs false
set_option linter.unusedVariables false
namespace Go.Rm
/-- the other way round -/
def EdR (N : NetD) (b a : Nat) (w : Int) : Prop := EdW N a b w ∧ weightV N a ≠ 1152921504606846976
theorem to_costs {N : NetD} (ok : NetOK N) {s : Int} : Costs N.as.length (FromI N s) (EdR N) := by
  refine ⟨(from_costs ok).i0, fun a b w h => ?_, ok.ba⟩
  obtain ⟨h1, h2⟩ := h
  have := (from_costs ok (s := s)).e0 _ _ _ h1
  obtain ⟨k, e, lk⟩ := weight_in h2
  exact ⟨by omega, this.2⟩
theorem to_live {N : NetD} {s : Int} {b : Nat} {c : Int} (w : WalkS (FromI N s) (EdR N) b c) : weightV N b ≠ 1152921504606846976 := by
  induction w with
  | init h => obtain ⟨h1, _, h2⟩ := h; rw [h1]; exact h2
  | step _ h _ => exact h.2
section
variable {Y : Sys} {h h' : Heap} {p : Nat} {N : NetD} {S : Nat → Prop}
def ToO (N : NetD) (p hp cb lo : Nat) (s : Int) (v2 : Value) (h0 : Heap) (m : Nat) (e : List Value) (h' : Heap) : Prop :=
  ∃ (ord : List Nat) (L : List Int) (A : KMap) (S' : Nat → Prop) (v5 v6 v7 v8 v9 v10 v11 v12 v13 v14 v15 v16 : Value),
    e = [.pointer (some ⟨p, 0, none⟩), .int .i64 s, v2, .slice (some ⟨cb, 0, none⟩) N.as.length N.as.length, .pointer (some ⟨hp, 0, none⟩), v5, v6, v7, v8, v9, v10, v11, v12, v13, v14, v15, v16] ∧
    Ext h0 h' ∧ lo ≤ h'.size ∧ HeapR h' hp N.as.length A S' ∧ (∀ b, S' b → lo ≤ b) ∧ Own h' 1 (Sl.at cb N.as.length N.as.length) (ints64 L) ∧
    Dij N.as.length (FromI N s) (EdR N) ord (nthI L) A (fun _ => False) (fun _ _ => False) ∧ (∀ b, b < N.as.length → (nthI L b ≠ 1152921504606846976 ↔ b ∈ ord)) ∧ m = N.as.length - ord.length
def ToJ (N : NetD) (p hp cb lo k M : Nat) (c s : Int) (v2 : Value) (t : Sl) (l : List Int) (h0 : Heap) (e : List Value) (h' : Heap) : Prop :=
  ∃ (i : Nat) (ord : List Nat) (L : List Int) (A : KMap) (S' : Nat → Prop) (v7 v8 v9 v10 v11 v15 v16 : Value),
    e = [.pointer (some ⟨p, 0, none⟩), .int .i64 s, v2, .slice (some ⟨cb, 0, none⟩) N.as.length N.as.length, .pointer (some ⟨hp, 0, none⟩), .int .i64 k, .int .i64 c, v7, v8, v9, v10, v11, t.v, .int .i64 t.n, .int .i64 i, v15, v16] ∧ i ≤ l.length ∧
    Ext h0 h' ∧ lo ≤ h'.size ∧ HeapR h' hp N.as.length A S' ∧ (∀ b, S' b → lo ≤ b) ∧ Own h' 1 (Sl.at cb N.as.length N.as.length) (ints64 L) ∧ Own h' 1 t (ints64 l) ∧ (t.nl = false → ¬ S' t.b ∧ lo ≤ t.b) ∧
    Dij N.as.length (FromI N s) (EdR N) ord (nthI L) A (fun _ => False) (fun a b => a = k ∧ ∃ j, i ≤ j ∧ j < l.length ∧ nthI l j = (b : Int)) ∧ (∀ b, b < N.as.length → (nthI L b ≠ 1152921504606846976 ↔ b ∈ ord)) ∧
    (∀ a, a ∈ ord → nthI L a ≤ c) ∧ nthI L k = c ∧ k ∈ ord ∧ N.as.length - ord.length < M
theorem wto_spec (W : WalkFns Y) (HT : Y.Has F.walk_To S_walk_To) (g : GraphA h p N S) (ok : NetOK N) {s : Int}
    {R : Value → Heap → Prop} (hr : ∀ h' cb L, Ext h h' → h.size ≤ cb → Own h' 1 (Sl.at cb N.as.length N.as.length) (ints64 L) → L.length = N.as.length → (∀ b, b < N.as.length → LeastS (FromI N s) (EdR N) b (nthI L b)) →
      R (.slice (some ⟨cb, 0, none⟩) N.as.length N.as.length) h') :
    CallP Y F.walk_To [.pointer (some ⟨p, 0, none⟩), .int .i64 s] h R := by
  have bn := ok.ba
  refine .of_has HT rfl ?_
  simp [S_walk_To, FnS.wp]
  refine none_spec W g bn ?_
  intro h1 cb e1 g1 o1
  have z1 := e1.size
  have lcb := o1.lt rfl
  simp at lcb
  have nrep : ∀ b, b < N.as.length → nthI (List.replicate N.as.length 1152921504606846976) b = 1152921504606846976 := fun b hb => by simp [nthI, hb]
  simp
  refine gweight_spec W.G.Weight W.G.arc (g.ext e1) ?_
  by_cases ws : weightV N s = 1152921504606846976
  · simp [ws]
    refine hr h1 cb _ e1 g1 o1 (by simp) (fun b hb => ?_)
    rw [nrep b hb]
    refine ⟨Int.le_refl _, fun c w => ?_, .inl rfl⟩
    exfalso
    have : ∀ b c, WalkS (FromI N s) (EdR N) b c → False := fun b c w => by
      induction w with
      | init h => exact h.2.2 ws
      | step _ _ ih => exact ih
    exact this _ _ w
  obtain ⟨k, hk, lk⟩ := weight_in ws
  subst hk
  have C := to_costs ok (s := (k : Int))
  have hiF : ∀ g z (x : Nat), x < N.as.length → IOp.sem Y g (.idxa 1) [.slice (some ⟨z, 0, none⟩) N.as.length N.as.length, .int .i64 x] = some (.pointer (some ⟨z, x, none⟩)) := fun g z x lx => by
    have := sem_idxF (Y := Y) (h := g) (b := z) (sz := 1) (show N.as.length ≤ 9223372036854775807 by omega) lx (Nat.le_refl N.as.length)
    simpa using this
  simp [ws]
  refine garcs_spec W.G.Arcs (g.ext e1) ?_
  simp
  refine new_spec W.H.New ?_
  intro h4 hp S4 H4 f4 e4
  rw [keysN_le bn] at H4
  simp
  refine put_spec W.H.Put W.H.key W.C.Held W.H.up W.H.ahead W.H.swap H4 ?_
  intro h5 S5 H5 f5 m5
  rw [held_in (by omega) (by omega)] at H5
  have e35 : Ext h1 h5 := Mod.ext e4 m5 (fun j hj => f4 j hj)
  have x5 := e1.trans e35
  have z4 := e4.size
  have z5 := m5.size
  have lo5 : ∀ b, S5 b → h1.size ≤ b := fun b hb => by rcases f5 b hb with h | h; exact f4 b h; omega
  have dk : Dij N.as.length (FromI N k) (EdR N) [] (nthI (List.replicate N.as.length 1152921504606846976)) (putM N.as.length (fun _ => none) k 0) (fun _ => False) (fun _ _ => False) := by
    have d0 : Dij N.as.length (FromI N k) (EdR N) [] (nthI (List.replicate N.as.length 1152921504606846976)) (fun _ => none) (fun _ => True) (fun _ _ => False) := Dij.start (fun _ _ _ => trivial)
    obtain ⟨d1, d2⟩ := d0.put (b := k) (x := 0) lk (by simp) (.init ⟨rfl, rfl, ws⟩) (by simp) (fun a h => by simp at h)
    refine d1.less (fun b c h _ => .inr ?_) (fun a h => by simp at h)
    obtain ⟨q1, q2, _⟩ := h
    have : b = k := by omega
    subst this q2
    exact d2
  simp
  refine wp_loopM (ToO N p hp cb h1.size k (.slice none 0 0) h) _ ⟨[], _, _, S5, _, _, _, _, _, _, _, _, _, _, _, _, rfl, x5, by omega, H5, lo5, o1.ext' e35, dk, fun b hb => by simp [nrep b hb], rfl⟩ ?_
  clear dk lo5 x5 e35 H5 f5 m5 f4 H4 o1
  rintro m e h6 ⟨ord, L, A, S', v5, v6, v7, v8, v9, v10, v11, v12, v13, v14, v15, v16, rfl, x6, z6, H6, lo6, oL, dk, sett, rfl⟩
  have lL : L.length = N.as.length := by have := oL.1; simpa using this
  simp
  refine pop_spec W.H.Pop W.H.down W.H.ahead W.H.swap H6 ?_ ?_
  · intro h0
    simp
    refine hr h6 cb L x6 g1 oL lL (fun b hb => ?_)
    have := dk.least C h0 hb
    by_cases e : b ∈ ord
    · rw [if_pos e] at this; exact this
    · rw [if_neg e] at this
      have hv : nthI L b = 1152921504606846976 := Decidable.byContradiction fun q => e ((sett b hb).1 q)
      rw [hv]; exact this
  intro h7 a c hmin H7 m7
  obtain ⟨hn, d7, top, cInf, hq7⟩ := dk.pop ok.ba hmin
  have la := hmin.1
  have x7 : Ext h h7 := Mod.ext x6 m7 (fun j hj => by have := lo6 j hj; omega)
  have oL7 := oL.mod m7 (fun _ q => by have := lo6 _ q; simp at this; omega)
  simp [hiF _ _ _ la]
  refine stAt oL7 (k := a) (by simp [lL]; omega) ?_
  intro h8 oL8 m8
  rw [ints64_set] at oL8
  have x8 : Ext h h8 := Mod.ext x7 m8 (fun j hj => by omega)
  have H8 := H7.mod m8 (fun b hb q => by have := lo6 b hb; omega)
  have hcost : nthI (L.set a c) = updI (nthI L) a c := funext fun b => by rw [nthI_set (by omega)]; rfl
  rw [← hcost] at d7 top
  have hLa : nthI (L.set a c) a = c := by rw [hcost]; simp [updI]
  have sett8 : ∀ b, b < N.as.length → (nthI (L.set a c) b ≠ 1152921504606846976 ↔ b ∈ ord ++ [a]) := fun b hb => by
    rw [nthI_set (by omega)]
    by_cases e : b = a
    · subst e; simp; omega
    · rw [if_neg e]; simp [e]; exact sett b hb
  have tv : fromV N a = (nthT N.as a).a := by
    have : vtxB N.as.length (a : Int) = true := by simp [vtxB]; omega
    unfold fromV; rw [if_pos this]; simp
  obtain ⟨l, hl⟩ : ∃ l, l = (if vtxB N.vs.length (fromV N a) then insO N.as (fromV N a) else []) := ⟨_, rfl⟩
  have hin : ∀ b w, EdR N a b w → ∃ j, j < l.length ∧ nthI l j = (b : Int) := fun b w h => by
    obtain ⟨q1, q2⟩ := ins_of h.1.1
    rw [hl, tv, if_pos q1]
    obtain ⟨j, hj, he⟩ := List.getElem_of_mem q2
    exact ⟨j, hj, by rw [nthI_at hj]; exact he⟩
  have hmem : ∀ x, x ∈ l → ∃ b : Nat, x = b ∧ b < N.as.length := fun x hx => by
    rw [hl] at hx
    split at hx
    · obtain ⟨b, q1, q2, _⟩ := mem_ins.1 hx
      exact ⟨b, q2, q1⟩
    · simp at hx
  have hnat : ∀ j, j < l.length → ∃ b : Nat, nthI l j = b ∧ b < N.as.length := fun j hj => hmem _ (nthI_mem hj)
  simp
  refine gfrom_spec W.G.From W.G.arc (g.ext x8) ?_
  simp
  refine gins_spec W.G.Ins W.G.vert W.G.CI (g.ext x8) (by omega) ?_
  intro h9 t e9 ot ft
  rw [← hl] at ot
  have tl := ot.row64.len
  have z7 := m7.size
  have z8 := m8.size
  have z9 := e9.size
  have hft : t.nl = false → ¬ S' t.b ∧ h1.size ≤ t.b := fun hn => ⟨fun q => by have := ft hn; have := H7.lt q; omega, by have := ft hn; omega⟩
  have llen : l.length ≤ N.as.length := by
    rw [hl]
    split
    · unfold insO; rw [idxF_len]; exact List.length_filter_le ..
    · simp
  have d9 : Dij N.as.length (FromI N k) (EdR N) (ord ++ [a]) (nthI (L.set a c)) (popM A a) (fun _ => False) (fun x b => x = a ∧ ∃ j, 0 ≤ j ∧ j < l.length ∧ nthI l j = (b : Int)) :=
    d7.less (fun _ _ _ h => h.elim) (fun x hx b w he hxa => by
      subst hxa
      obtain ⟨j, q1, q2⟩ := hin b w he
      exact .inl ⟨rfl, j, by omega, q1, q2⟩)
  have hM : N.as.length - (ord ++ [a]).length < N.as.length - ord.length := by
    have := nodup_len d7.nd d7.lt
    simp at this ⊢
    omega
  simp
  refine wp_loop' (ToJ N p hp cb h1.size a (N.as.length - ord.length) c k (.slice none 0 0) t l h) (fun e _ => l.length - argI e 14) ⟨0, _, _, _, S', _, _, _, _, _, _, _, rfl, by omega, x8.trans e9, by omega, H8.mod e9 (fun _ _ h => h), lo6, oL8.ext' e9, ot, hft, d9, sett8, top, hLa, by simp, hM⟩ ?_
  clear d9 hM sett8 top hLa hcost oL8 H8 x8 m8 oL7 x7 m7 H7 d7 oL dk sett H6 x6 lo6 hmin hn hft ft ot e9 lL hq7 z7 z8 z9 z6
  generalize N.as.length - ord.length = M
  clear L A S' ord
  rintro e h10 ⟨i, ord, L, A, S', v7, v8, v9, v10, v11, v15, v16, rfl, hi, x10, z10, H10, lo10, oL, ot, nt, dk, sett, top, hLa, hka, hM⟩
  have rt := ot.row64
  have lL : L.length = N.as.length := by have := oL.1; simpa using this
  have olen := nodup_len dk.nd dk.lt
  by_cases ci : i < l.length
  rotate_left
  · have ci' : ¬ (i : Int) < t.n := by omega
    simp [ci']
    refine next_M (m' := N.as.length - ord.length) ⟨ord, L, A, S', _, _, _, _, _, _, _, _, _, _, _, _, rfl, x10, z10, H10, lo10, oL, dk.less (fun _ _ _ h => h.elim) (fun x hx b w he hp => by obtain ⟨_, j, q1, q2, _⟩ := hp; omega), sett, rfl⟩ hM
  have ci1 : (i : Int) < t.n := by omega
  have ci2 : i < t.n := by omega
  have wi : IntKind.i64.wrap ((i : Int) + 1) = (i : Int) + 1 := i64_wrap (by omega)
  obtain ⟨b, hb, lb⟩ := hnat i ci
  have rb := rt.val i ci
  rw [hb] at rb
  simp [ci1, ci2, sem_idxa rt.ok, rb]
  refine gturn_spec W.G.Turn W.G.arc W.G.T (g.ext x10) ok ?_
  intro h11 e11
  have x11 := x10.trans e11
  have H11 := H10.mod e11 (fun _ _ h => h)
  have oL11 := oL.ext' e11
  have ot11 := ot.ext' e11
  have z11 := e11.size
  have kb := oL11.row64.val b (by omega)
  simp at kb
  have skip : ∀ v15 v16 : Value, (∀ w, EdR N a b w → b ∈ ord) → ToJ N p hp cb h1.size a M c k (.slice none 0 0) t l h [.pointer (some ⟨p, 0, none⟩), .int .i64 k, .slice none 0 0, .slice (some ⟨cb, 0, none⟩) N.as.length N.as.length, .pointer (some ⟨hp, 0, none⟩), .int .i64 a, .int .i64 c, v7, .int .i64 b, .int .i64 (turnV N b a), v10, v11, t.v, .int .i64 t.n, .int .i64 ((i : Int) + 1), v15, v16] h11 := fun v15 v16 hs =>
    ⟨i + 1, ord, L, A, S', _, _, _, _, _, _, _, rfl, by omega, x11, by omega, H11, lo10, oL11, ot11, nt, dk.less (fun _ _ _ h => h.elim) (fun x hx y w he hp => by
      obtain ⟨rfl, j, q1, q2, q3⟩ := hp
      by_cases e : j = i
      · subst e
        have hyb : y = b := by omega
        subst hyb
        have hb' := hs w he
        have := (C.e0 _ _ _ he).2.1
        exact .inr (.inl ⟨hb', by have := top y hb'; omega⟩)
      · exact .inl ⟨rfl, j, by omega, q2, q3⟩), sett, top, hLa, hka, hM⟩
  by_cases t1 : turnV N b a = 1152921504606846976
  · have sk := fun v15 v16 => skip v15 v16 (fun w he => absurd t1 he.1.1)
    simp [t1, wi]
    rw [t1] at sk
    exact ⟨sk _ _, by simp [argI]; omega⟩
  simp [t1]
  refine gweight_spec W.G.Weight W.G.arc (g.ext x11) ?_
  by_cases w1 : weightV N b = 1152921504606846976
  · have sk := fun v15 v16 => skip v15 v16 (fun w he => absurd w1 he.2)
    simp [w1, wi]
    exact ⟨sk _ _, by simp [argI]; omega⟩
  by_cases c1 : nthI L b = 1152921504606846976
  rotate_left
  · have sk := fun v15 v16 => skip v15 v16 (fun w he => (sett b lb).1 c1)
    simp [w1, hiF _ _ _ lb, kb, c1, wi]
    exact ⟨sk _ _, by simp [argI]; omega⟩
  have hwa := dk.wS a hka
  have wl := to_live hwa
  have tc := (turn_cases ok (a := (b : Int)) (b := (a : Int))).resolve_left t1
  have wc := (arc_cases ok (a := (a : Int))).resolve_left wl
  have bno : b ∉ ord := fun h => (sett b lb).2 h c1
  have ha0 := hwa.pos C
  have hcb := dk.bS a hka
  rw [hLa] at ha0 hcb hwa
  have he : EdR N a b (turnV N b a + weightV N a) := ⟨⟨t1, wl, rfl⟩, w1⟩
  have s3 := sum3 ha0.2 tc.1 wc.1 (by omega)
  simp [w1, hiF _ _ _ lb, kb, c1]
  refine gweight_spec W.G.Weight W.G.arc (g.ext x11) ?_
  simp
  refine ef_bslice_all rfl rfl rfl ?_ (by omega)
  intro b3 h12 g12 _ e12 o12
  have r12 : Row64 h12 (Sl.at b3 3 3) [c, turnV N b a, weightV N a] := Own.row64 (cs := [c, turnV N b a, weightV N a]) o12
  have x12 := x11.trans e12
  have z12 := e12.size
  simp
  refine sum_spec W.C r12 (by simp) ?_
  rw [s3]
  simp
  refine put_spec W.H.Put W.H.key W.C.Held W.H.up W.H.ahead W.H.swap (H11.mod e12 (fun _ _ h => h)) ?_
  intro h13 S13 H13 f13 m13
  rw [held_in (by omega) (by omega)] at H13
  have x13 : Ext h h13 := Mod.ext x12 m13 (fun j hj => by have := lo10 j hj; omega)
  have lo13 : ∀ b, S13 b → h1.size ≤ b := fun b hb => by
    rcases f13 b hb with q | q
    · exact lo10 b q
    · omega
  have oL13 := (oL11.ext' e12).mod m13 (fun _ q => by have := lo10 _ q; simp at this; omega)
  have ot12 := ot11.ext' e12
  have ot13 := ot12.mod m13 (fun hn => (nt hn).1)
  have nt13 : t.nl = false → ¬ S13 t.b ∧ h1.size ≤ t.b := fun hn => ⟨fun q => by
    rcases f13 _ q with q | q
    · exact (nt hn).1 q
    · have := ot12.lt hn; omega, (nt hn).2⟩
  have z13 := m13.size
  obtain ⟨p1, p2⟩ := dk.put (b := b) (x := c + turnV N b a + weightV N a) lb bno (by have := WalkS.step (dk.wS a hka) he; rw [hLa] at this; rwa [← Int.add_assoc] at this) (by omega) (fun x hx => by have := top x hx; omega)
  simp [wi]
  refine ⟨⟨i + 1, ord, L, _, S13, _, _, _, _, _, _, _, rfl, by omega, x13, by omega, H13, lo13, oL13, ot13, nt13, p1.less (fun _ _ _ h => h.elim) (fun x hx y w hxy hp => ?_), sett, top, hLa, hka, hM⟩, by simp [argI]; omega⟩
  obtain ⟨rfl, j, q1, q2, q3⟩ := hp
  by_cases e : j = i
  · subst e
    have hyb : y = b := by omega
    subst hyb
    right
    rw [hLa, hxy.1.2.2, ← Int.add_assoc]
    exact p2
  · exact .inl ⟨rfl, j, by omega, q2, q3⟩
end
end Go.Rm
