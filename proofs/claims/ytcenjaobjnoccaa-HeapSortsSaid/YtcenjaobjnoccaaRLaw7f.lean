/- The laws of the heap: HeapTwo. -/
import Derived.Test.YtcenjaobjnoccaaRLaw7e
set_option linter.unusedSimpArgs false
set_option linter.unusedVariables false
namespace Go.Rm
section
variable {Y : Sys} {h h0 : Heap} {p q n : Nat} {A : KMap} {S S' : Nat → Prop}

/-- three heaps that have nothing to do with each other -/
def Three (h0 h : Heap) (p q r n : Nat) (A B C : KMap) : Prop :=
  ∃ (S T U : Nat → Prop), HeapR h p n A S ∧ HeapR h q n B T ∧ HeapR h r n C U ∧ (∀ b, S b → ¬ T b) ∧ (∀ b, S b → ¬ U b) ∧ (∀ b, T b → ¬ U b) ∧
    (∀ b, S b → h0.size ≤ b) ∧ (∀ b, T b → h0.size ≤ b) ∧ (∀ b, U b → h0.size ≤ b) ∧ Ext h0 h

theorem Three.rot {r : Nat} {A B C : KMap} (T : Three h0 h p q r n A B C) : Three h0 h q r p n B C A := by
  obtain ⟨S, T, U, a, b, c, d1, d2, d3, e1, e2, e3, x⟩ := T
  exact ⟨T, U, S, b, c, a, d3, fun b h1 h2 => d1 b h2 h1, fun b h1 h2 => d2 b h2 h1, e2, e3, e1, x⟩

theorem Three.next {r : Nat} {B C A' : KMap} {S T U S' : Nat → Prop} {h' : Heap} (a : HeapR h' p n A' S') (hm : Mod S h h') (hS : ∀ b, S' b → S b ∨ h.size ≤ b)
    (b : HeapR h q n B T) (c : HeapR h r n C U) (d1 : ∀ b, S b → ¬ T b) (d2 : ∀ b, S b → ¬ U b) (d3 : ∀ b, T b → ¬ U b)
    (e1 : ∀ b, S b → h0.size ≤ b) (e2 : ∀ b, T b → h0.size ≤ b) (e3 : ∀ b, U b → h0.size ≤ b) (x : Ext h0 h) : Three h0 h' p q r n A' B C := by
  refine ⟨S', T, U, a, b.mod hm (fun b h1 h2 => d1 b h2 h1), c.mod hm (fun b h1 h2 => d2 b h2 h1), ?_, ?_, d3, ?_, e2, e3, Mod.ext x hm e1⟩
  · intro i hi ht
    rcases hS i hi with g | g
    · exact d1 i g ht
    · have := b.lt ht; omega
  · intro i hi ht
    rcases hS i hi with g | g
    · exact d2 i g ht
    · have := c.lt ht; omega
  · intro i hi
    rcases hS i hi with g | g
    · exact e1 i g
    · have := x.size; omega

theorem Three.put (H : HeapFns Y) {r : Nat} {A B C : KMap} (T : Three h0 h p q r n A B C) {k c : Int} {R : Value → Heap → Prop}
    (hr : ∀ h', Three h0 h' p q r n (putM n A k (Rm.held c)) B C → R (.bool (putB n A k (Rm.held c))) h') :
    CallP Y F.heap_Heap_Put [.pointer (some ⟨p, 0, none⟩), .int .i64 k, .int .i64 c] h R := by
  obtain ⟨S, T, U, a, b, c, d1, d2, d3, e1, e2, e3, x⟩ := T
  exact H.put a fun h' S' O' hS hm => hr h' (Three.next O' hm hS b c d1 d2 d3 e1 e2 e3 x)
theorem Three.clear (H : HeapFns Y) {r : Nat} {A B C : KMap} (T : Three h0 h p q r n A B C) {R : Value → Heap → Prop}
    (hr : ∀ h', Three h0 h' p q r n (fun _ => none) B C → R (.tuple #[]) h') :
    CallP Y F.heap_Heap_Clear [.pointer (some ⟨p, 0, none⟩)] h R := by
  obtain ⟨S, T, U, a, b, c, d1, d2, d3, e1, e2, e3, x⟩ := T
  exact clear_spec H.Clear a fun h' O' hm => hr h' (Three.next O' hm (fun _ h => .inl h) b c d1 d2 d3 e1 e2 e3 x)
theorem Three.popNo (H : HeapFns Y) {r : Nat} {A B C : KMap} (T : Three h0 h p q r n A B C) (hn : ∀ k, k < n → A k = none) {R : Value → Heap → Prop}
    (hr : R (.tuple #[.int .i64 0, .int .i64 0, .bool false]) h) :
    CallP Y F.heap_Heap_Pop [.pointer (some ⟨p, 0, none⟩)] h R := by
  obtain ⟨S, T, U, a, _⟩ := T
  exact H.popNo a hn hr
theorem Three.popAt (H : HeapFns Y) {r : Nat} {A B C : KMap} (T : Three h0 h p q r n A B C) {k : Nat} {c : Int} (hk : IsMin n A k c) {R : Value → Heap → Prop}
    (hr : ∀ h', Three h0 h' p q r n (popM A k) B C → R (.tuple #[.int .i64 k, .int .i64 c, .bool true]) h') :
    CallP Y F.heap_Heap_Pop [.pointer (some ⟨p, 0, none⟩)] h R := by
  obtain ⟨S, T, U, a, b, c, d1, d2, d3, e1, e2, e3, x⟩ := T
  exact H.popAt a hk fun h' O' hm => hr h' (Three.next O' hm (fun _ h => .inl h) b c d1 d2 d3 e1 e2 e3 x)
theorem Three.pop (H : HeapFns Y) {r : Nat} {A B C : KMap} (T : Three h0 h p q r n A B C) {R : Value → Heap → Prop}
    (hr0 : (∀ k, k < n → A k = none) → R (.tuple #[.int .i64 0, .int .i64 0, .bool false]) h)
    (hr : ∀ h' k c, IsMin n A k c → Three h0 h' p q r n (popM A k) B C → R (.tuple #[.int .i64 k, .int .i64 c, .bool true]) h') :
    CallP Y F.heap_Heap_Pop [.pointer (some ⟨p, 0, none⟩)] h R := by
  obtain ⟨S, T, U, a, b, c, d1, d2, d3, e1, e2, e3, x⟩ := T
  exact H.pop a hr0 fun h' k cc hk O' hm => hr h' k cc hk (Three.next O' hm (fun _ h => .inl h) b c d1 d2 d3 e1 e2 e3 x)
theorem Three.len (H : HeapFns Y) {r : Nat} {A B C : KMap} (T : Three h0 h p q r n A B C) {R : Value → Heap → Prop} (hr : R (.int .i64 (cntA n A)) h) :
    CallP Y F.heap_Heap_Len [.pointer (some ⟨p, 0, none⟩)] h R := by
  obtain ⟨S, T, U, a, _⟩ := T
  exact lenR_spec H.Len a hr
theorem Three.ext {r : Nat} {A B C : KMap} (T : Three h0 h p q r n A B C) : Ext h0 h := by
  obtain ⟨_, _, _, _, _, _, _, _, _, _, _, _, x⟩ := T
  exact x

/-- no number of the first i is k at d or less -/
def firstB (kf : Nat → Int) (cf : Nat → Int) (k : Int) (d : Int) (i : Nat) : Bool := decide (∀ j, j < i → ¬ (kf j = k ∧ held (cf j) ≤ held d))

def FirstI (l c : Sl) (k d : Int) (kf cf : Nat → Int) (h0 : Heap) (e : List Value) (h' : Heap) : Prop :=
  ∃ (i : Nat) (v6 v7 : Value), e = [l.v, .int .u8 k, c.v, .int .i64 d, .bool false, .int .i64 i, v6, v7] ∧ i ≤ l.n ∧ (∀ j, j < i → ¬ (kf j = k ∧ held (cf j) ≤ held d)) ∧ h' = h0

theorem first_spec (HF : Y.Has F.rlaw7_first S_rlaw7_first) (Hh : Y.Has F.rref6_Held S_rref6_Held) {l c : Sl} {kf cf : Nat → Int} (hk : IntsAt h l .u8 kf) (hc : IntsAt h c .i64 cf) (hlc : l.n ≤ c.n) (hbig : l.n ≤ 1000) {k d : Int}
    {R : Value → Heap → Prop} (hr : R (.bool (firstB kf cf k d l.n)) h) : CallP Y F.rlaw7_first [l.v, .int .u8 k, c.v, .int .i64 d] h R := by
  refine .of_has HF rfl ?_
  simp [S_rlaw7_first, FnS.wp]
  refine wp_loop' (FirstI l c k d kf cf h) (fun e _ => l.n - argI e 5) ⟨0, undef, undef, rfl, by omega, fun j hj => by omega, rfl⟩ ?_
  rintro e h' ⟨i, v6, v7, rfl, hi, hall, rfl⟩
  by_cases hlt : i < l.n
  · have hlt' : (i : Int) < l.n := by omega
    have hci : (i : Int) < c.n := by omega
    have w1 : IntKind.i64.wrap ((i : Int) + 1) = (i : Int) + 1 := i64_wrap (by omega)
    have hkv := hk.val i hlt
    have hcv := hc.val i (by omega)
    by_cases he : kf i = k
    · simp [hlt', sem_idxa hk.ok, sem_idxa hc.ok, hkv, hcv, hci, he]
      refine rheld_spec Hh ?_
      simp [hlt', sem_idxa hk.ok, sem_idxa hc.ok, hkv, hcv, hci, he]
      refine rheld_spec Hh ?_
      by_cases hle : held (cf i) ≤ held d
      · have : firstB kf cf k d l.n = false := by
          simp only [firstB, decide_eq_false_iff_not]
          exact fun hn => hn i hlt ⟨he, hle⟩
        rw [this] at hr
        simp [hle, hr]
      · simp [hle, w1]
        refine ⟨⟨i + 1, _, _, rfl, by omega, fun j hj => ?_, rfl⟩, by simp [argI]; omega⟩
        rcases Nat.lt_succ_iff_lt_or_eq.1 hj with g | rfl
        · exact hall j g
        · exact fun hn => hle hn.2
    · simp [hlt', sem_idxa hk.ok, sem_idxa hc.ok, hkv, hcv, hci, he, w1]
      refine ⟨⟨i + 1, _, _, rfl, by omega, fun j hj => ?_, rfl⟩, by simp [argI]; omega⟩
      rcases Nat.lt_succ_iff_lt_or_eq.1 hj with g | rfl
      · exact hall j g
      · exact fun hn => he hn.1
  · have hlt' : ¬ (i : Int) < l.n := by omega
    have hil : i = l.n := by omega
    have : firstB kf cf k d l.n = true := by
      simp only [firstB, decide_eq_true_eq]
      rw [← hil]; exact hall
    rw [this] at hr
    simp [hlt', hr]

/-- which keys are in behind the first i puts, and at what -/
def manyM (kf cf : Nat → Int) : Nat → KMap
  | 0 => fun _ => none
  | i + 1 => putM 256 (manyM kf cf i) (kf i) (held (cf i))

theorem manyM_spec {kf cf : Nat → Int} (hr : ∀ i, 0 ≤ kf i ∧ kf i < 256) : ∀ (i : Nat) (k : Nat),
    (manyM kf cf i k = none → ∀ j, j < i → kf j ≠ k) ∧ (∀ m, manyM kf cf i k = some m → (∃ j, j < i ∧ kf j = k ∧ held (cf j) = m) ∧ ∀ j, j < i → kf j = k → m ≤ held (cf j)) := by
  intro i
  induction i with
  | zero => intro k; exact ⟨fun _ j hj => by omega, fun m hm => by simp [manyM] at hm⟩
  | succ i ih =>
    intro k
    obtain ⟨a, b⟩ := ih k
    have hb : putB 256 (manyM kf cf i) (kf i) (held (cf i)) = (match manyM kf cf i (kf i).toNat with | none => true | some d => decide (held (cf i) < d)) := by
      have := hr i
      simp [putB, keyB, this]
      rfl
    have hkk : (kf i = (k : Int)) ↔ k = (kf i).toNat := by have := hr i; omega
    simp only [manyM, putM]
    by_cases hk : k = (kf i).toNat
    · have hk2 := hkk.2 hk
      cases hm : manyM kf cf i k with
      | none =>
        rw [hk] at hm
        rw [hm] at hb
        simp only [hb, if_true, hk, if_pos]
        refine ⟨fun h => (by cases h), fun m h => ?_⟩
        cases h
        refine ⟨⟨i, by omega, by rw [← hk]; exact hk2, rfl⟩, fun j hj he => ?_⟩
        rcases Nat.lt_succ_iff_lt_or_eq.1 hj with g | rfl
        · exact absurd (by rw [hk]; exact he) (a (by rw [hk]; exact hm) j g)
        · omega
      | some m0 =>
        obtain ⟨⟨j0, g1, g2, g3⟩, g4⟩ := b m0 hm
        have hm' := hm
        rw [hk] at hm'
        rw [hm'] at hb
        simp only [hb]
        by_cases hlt : held (cf i) < m0
        · simp only [hlt, decide_true, if_true, hk, if_pos]
          refine ⟨fun h => (by cases h), fun m h => ?_⟩
          cases h
          refine ⟨⟨i, by omega, by rw [← hk]; exact hk2, rfl⟩, fun j hj he => ?_⟩
          rcases Nat.lt_succ_iff_lt_or_eq.1 hj with g | rfl
          · have := g4 j g (by rw [hk]; exact he); omega
          · omega
        · simp only [hlt, decide_false, if_false, hm, Bool.false_eq_true]
          refine ⟨fun h => (by cases h), fun m h => ?_⟩
          cases h
          refine ⟨⟨j0, by omega, g2, g3⟩, fun j hj he => ?_⟩
          rcases Nat.lt_succ_iff_lt_or_eq.1 hj with g | rfl
          · exact g4 j g he
          · omega
    · have hne : kf i ≠ (k : Int) := fun h => hk (hkk.1 h)
      have e : (if putB 256 (manyM kf cf i) (kf i) (held (cf i)) = true then (fun j => if j = (kf i).toNat then some (held (cf i)) else manyM kf cf i j) else manyM kf cf i) k = manyM kf cf i k := by
        split
        · simp only [hk, if_false]
        · rfl
      rw [e]
      refine ⟨fun h j hj => ?_, fun m h => ?_⟩
      · rcases Nat.lt_succ_iff_lt_or_eq.1 hj with g | rfl
        · exact a h j g
        · exact hne
      · obtain ⟨⟨j0, g1, g2, g3⟩, g4⟩ := b m h
        refine ⟨⟨j0, by omega, g2, g3⟩, fun j hj he => ?_⟩
        rcases Nat.lt_succ_iff_lt_or_eq.1 hj with g | rfl
        · exact g4 j g he
        · exact absurd he hne

theorem manyM_first {kf cf : Nat → Int} (hr : ∀ i, 0 ≤ kf i ∧ kf i < 256) (i : Nat) :
    putB 256 (manyM kf cf i) (kf i) (held (cf i)) = firstB kf cf (kf i) (cf i) i := by
  have hb : putB 256 (manyM kf cf i) (kf i) (held (cf i)) = (match manyM kf cf i (kf i).toNat with | none => true | some d => decide (held (cf i) < d)) := by
    have := hr i
    simp [putB, keyB, this]
    rfl
  rw [hb]
  obtain ⟨a, b⟩ := manyM_spec (cf := cf) hr i (kf i).toNat
  have e : (((kf i).toNat : Nat) : Int) = kf i := by have := hr i; omega
  rw [e] at a b
  cases hm : manyM kf cf i (kf i).toNat with
  | none =>
    simp only [firstB]
    symm
    rw [decide_eq_true_iff]
    exact fun j hj hn => a hm j hj hn.1
  | some m =>
    obtain ⟨⟨j0, g1, g2, g3⟩, g4⟩ := b m hm
    simp only [firstB]
    rw [decide_eq_decide]
    constructor
    · intro hlt j hj hn
      have := g4 j hj hn.1; omega
    · intro hn
      have := hn j0 g1
      rw [g3] at this
      have := fun h => this ⟨g2, h⟩
      omega
end
end Go.Rm
