/- The laws of the heap: known and same. -/
import Derived.Test.YtcenjaobjnoccaaRRef2
import Derived.Test.YtcenjaobjnoccaaSRlaw7
set_option linter.unusedSimpArgs false
set_option linter.unusedVariables false
namespace Go.Rm

theorem IsMin.uniq {n : Nat} {A : KMap} {k k' : Nat} {c c' : Int} (h : IsMin n A k c) (h' : IsMin n A k' c') : k = k' ∧ c = c' := by
  obtain ⟨a1, a2, a3⟩ := h
  obtain ⟨b1, b2, b3⟩ := h'
  have q1 := a3 k' c' b1 b2
  have q2 := b3 k c a1 a2
  omega
theorem IsMin.some {n : Nat} {A : KMap} {k : Nat} {c : Int} (h : IsMin n A k c) : ¬ ∀ k, k < n → A k = none := by
  intro hn
  have := hn k h.1
  rw [h.2.1] at this; cases this

theorem Mod.ext {S : Nat → Prop} {h0 h h' : Heap} (h1 : Ext h0 h) (h2 : Mod S h h') (hs : ∀ b, S b → h0.size ≤ b) : Ext h0 h' :=
  Mod.then h1 h2 fun i hi hS => absurd (hs i hS) (by omega)

/-- what the heap's programs are -/
structure HeapFns (Y : Sys) : Prop where
  New : Y.Has F.heap_New S_heap_New
  Put : Y.Has F.heap_Heap_Put S_heap_Heap_Put
  Pop : Y.Has F.heap_Heap_Pop S_heap_Heap_Pop
  Cost : Y.Has F.heap_Heap_Cost S_heap_Heap_Cost
  Len : Y.Has F.heap_Heap_Len S_heap_Heap_Len
  Clear : Y.Has F.heap_Heap_Clear S_heap_Heap_Clear
  key : Y.Has F.heap_Heap_key S_heap_Heap_key
  up : Y.Has F.heap_Heap_up S_heap_Heap_up
  down : Y.Has F.heap_Heap_down S_heap_Heap_down
  ahead : Y.Has F.heap_Heap_ahead S_heap_Heap_ahead
  swap : Y.Has F.heap_Heap_swap S_heap_Heap_swap
  held : Y.Has F.cost_Held S_cost_Held

structure RefFns (Y : Sys) : Prop where
  New : Y.Has F.rref11_NewHeap S_rref11_NewHeap
  Put : Y.Has F.rref11_Heap_Put S_rref11_Heap_Put
  Pop : Y.Has F.rref11_Heap_Pop S_rref11_Heap_Pop
  Cost : Y.Has F.rref11_Heap_Cost S_rref11_Heap_Cost
  Len : Y.Has F.rref11_Heap_Len S_rref11_Heap_Len
  held : Y.Has F.rref6_Held S_rref6_Held

section
variable {Y : Sys} {h : Heap} {p q n : Nat} {A : KMap} {S S' : Nat → Prop}

theorem HeapFns.put (H : HeapFns Y) (O : HeapR h p n A S) {k c : Int} {R : Value → Heap → Prop}
    (hr : ∀ h' S', HeapR h' p n (putM n A k (Rm.held c)) S' → (∀ b, S' b → S b ∨ h.size ≤ b) → Mod S h h' → R (.bool (putB n A k (Rm.held c))) h') :
    CallP Y F.heap_Heap_Put [.pointer (some ⟨p, 0, none⟩), .int .i64 k, .int .i64 c] h R := put_spec H.Put H.key H.held H.up H.ahead H.swap O hr
theorem HeapFns.pop (H : HeapFns Y) (O : HeapR h p n A S) {R : Value → Heap → Prop}
    (hr0 : (∀ k, k < n → A k = none) → R (.tuple #[.int .i64 0, .int .i64 0, .bool false]) h)
    (hr : ∀ h' k c, IsMin n A k c → HeapR h' p n (popM A k) S → Mod S h h' → R (.tuple #[.int .i64 k, .int .i64 c, .bool true]) h') :
    CallP Y F.heap_Heap_Pop [.pointer (some ⟨p, 0, none⟩)] h R := pop_spec H.Pop H.down H.ahead H.swap O hr0 hr
/-- Pop, where the least is known -/
theorem HeapFns.popAt (H : HeapFns Y) (O : HeapR h p n A S) {k : Nat} {c : Int} (hk : IsMin n A k c) {R : Value → Heap → Prop}
    (hr : ∀ h', HeapR h' p n (popM A k) S → Mod S h h' → R (.tuple #[.int .i64 k, .int .i64 c, .bool true]) h') :
    CallP Y F.heap_Heap_Pop [.pointer (some ⟨p, 0, none⟩)] h R := by
  refine H.pop O (fun hn => absurd hn hk.some) ?_
  intro h' k' c' hk' O' hm
  obtain ⟨rfl, rfl⟩ := hk.uniq hk'
  exact hr h' O' hm
theorem HeapFns.popNo (H : HeapFns Y) (O : HeapR h p n A S) (hn : ∀ k, k < n → A k = none) {R : Value → Heap → Prop}
    (hr0 : R (.tuple #[.int .i64 0, .int .i64 0, .bool false]) h) :
    CallP Y F.heap_Heap_Pop [.pointer (some ⟨p, 0, none⟩)] h R :=
  H.pop O (fun _ => hr0) fun _ _ _ hk => absurd hn hk.some

/-- a heap made since h0, nothing of h0 changed -/
def HeapB (h0 h : Heap) (p n : Nat) (A : KMap) : Prop := ∃ S, HeapR h p n A S ∧ (∀ b, S b → h0.size ≤ b) ∧ Ext h0 h

theorem HeapB.next {h0 h h' : Heap} {A' : KMap} (O : HeapR h p n A S) (hS : ∀ b, S b → h0.size ≤ b) (he : Ext h0 h) (O' : HeapR h' p n A' S') (hS' : ∀ b, S' b → S b ∨ h.size ≤ b) (hm : Mod S h h') : HeapB h0 h' p n A' :=
  ⟨S', O', fun b hb => by
    rcases hS' b hb with g | g
    · exact hS b g
    · exact Nat.le_trans he.size g, Mod.ext he hm hS⟩

theorem HeapFns.newB (H : HeapFns Y) {k : Int} {R : Value → Heap → Prop} (hr : ∀ h' p, HeapB h h' p (keysN k) (fun _ => none) → R (.pointer (some ⟨p, 0, none⟩)) h') : CallP Y F.heap_New [.int .i64 k] h R :=
  new_spec H.New fun h' p S O hS he => hr h' p ⟨S, O, hS, he⟩
theorem HeapFns.putB (H : HeapFns Y) {h0 : Heap} (O : HeapB h0 h p n A) {k c : Int} {R : Value → Heap → Prop}
    (hr : ∀ h', HeapB h0 h' p n (putM n A k (Rm.held c)) → R (.bool (Rm.putB n A k (Rm.held c))) h') :
    CallP Y F.heap_Heap_Put [.pointer (some ⟨p, 0, none⟩), .int .i64 k, .int .i64 c] h R := by
  obtain ⟨S, O, hS, he⟩ := O
  exact H.put O fun h' S' O' hS' hm => hr h' (HeapB.next O hS he O' hS' hm)
theorem HeapFns.popB (H : HeapFns Y) {h0 : Heap} (O : HeapB h0 h p n A) {k : Nat} {c : Int} (hk : IsMin n A k c) {R : Value → Heap → Prop}
    (hr : ∀ h', HeapB h0 h' p n (popM A k) → R (.tuple #[.int .i64 k, .int .i64 c, .bool true]) h') :
    CallP Y F.heap_Heap_Pop [.pointer (some ⟨p, 0, none⟩)] h R := by
  obtain ⟨S, O, hS, he⟩ := O
  exact H.popAt O hk fun h' O' hm => hr h' (HeapB.next O hS he O' (fun b hb => .inl hb) hm)
theorem HeapFns.clearB (H : HeapFns Y) {h0 : Heap} (O : HeapB h0 h p n A) {R : Value → Heap → Prop}
    (hr : ∀ h', HeapB h0 h' p n (fun _ => none) → R (.tuple #[]) h') :
    CallP Y F.heap_Heap_Clear [.pointer (some ⟨p, 0, none⟩)] h R := by
  obtain ⟨S, O, hS, he⟩ := O
  exact clear_spec H.Clear O fun h' O' hm => hr h' (HeapB.next O hS he O' (fun b hb => .inl hb) hm)

theorem known_spec (HK : Y.Has F.rlaw7_known S_rlaw7_known) (H : HeapFns Y) {R : Value → Heap → Prop} (hr : ∀ h', Ext h h' → R (.bool true) h') : CallP Y F.rlaw7_known [] h R := by
  have hd7 : Rm.held 7 = 7 := rfl
  have hd9 : Rm.held 9 = 9 := rfl
  have hd2 : Rm.held 2 = 2 := rfl
  have hd1 : Rm.held 1 = 1 := rfl
  have hd8 : Rm.held 8 = 8 := rfl
  refine .of_has HK rfl ?_
  simp [S_rlaw7_known, FnS.wp]
  refine H.newB ?_
  intro h1 p O1
  rw [show keysN 5 = 5 from rfl] at O1
  simp
  refine H.putB O1 ?_
  intro h2 O2
  simp
  refine H.putB O2 ?_
  intro h3 O3
  simp
  refine H.putB O3 ?_
  intro h4 O4
  simp
  refine H.putB O4 ?_
  intro h5 O5
  simp
  refine H.putB O5 ?_
  intro h6 O6
  simp
  refine H.putB O6 ?_
  intro h7 O7
  simp only [hd7, hd9, hd2, hd1, hd8] at O7 ⊢
  -- what is in by now
  have m1 : putM 5 (fun _ => none) 3 7 = fun j => if j = 3 then some 7 else none := by funext j; simp [putM, putB, keyB]
  have m2 : putM 5 (fun j => if j = 3 then some 7 else none) 1 7 = fun j => if j = 1 then some 7 else if j = 3 then some 7 else none := by funext j; simp [putM, putB, keyB]
  have m3 : putM 5 (fun j => if j = 1 then some 7 else if j = 3 then some 7 else none) 4 9 = fun j => if j = 4 then some 9 else if j = 1 then some 7 else if j = 3 then some 7 else none := by funext j; simp [putM, putB, keyB]
  have m4 : putM 5 (fun j => if j = 4 then some 9 else if j = 1 then some 7 else if j = 3 then some 7 else none) 4 2 = fun j => if j = 4 then some 2 else if j = 1 then some 7 else if j = 3 then some 7 else none := by
    funext j; simp [putM, putB, keyB]; split <;> rfl
  have m5 : putM 5 (fun j => if j = 4 then some 2 else if j = 1 then some 7 else if j = 3 then some 7 else none) 5 1 = fun j => if j = 4 then some 2 else if j = 1 then some 7 else if j = 3 then some 7 else none := by funext j; simp [putM, putB, keyB]
  have m6 : putM 5 (fun j => if j = 4 then some 2 else if j = 1 then some 7 else if j = 3 then some 7 else none) 3 8 = fun j => if j = 4 then some 2 else if j = 1 then some 7 else if j = 3 then some 7 else none := by funext j; simp [putM, putB, keyB]
  rw [m1, m2, m3, m4, m5, m6] at O7
  simp only [m1, m2, m3, m4, m5]
  have b1 : putB 5 (fun _ => none) 3 7 = true := by simp [putB, keyB]
  have b2 : putB 5 (fun j => if j = 3 then some 7 else none) 1 7 = true := by simp [putB, keyB]
  have b3 : putB 5 (fun j => if j = 1 then some 7 else if j = 3 then some 7 else none) 4 9 = true := by simp [putB, keyB]
  have b4 : putB 5 (fun j => if j = 4 then some 9 else if j = 1 then some 7 else if j = 3 then some 7 else none) 4 2 = true := by simp [putB, keyB]
  have b5 : putB 5 (fun j => if j = 4 then some 2 else if j = 1 then some 7 else if j = 3 then some 7 else none) 5 1 = false := by simp [putB, keyB]
  have b6 : putB 5 (fun j => if j = 4 then some 2 else if j = 1 then some 7 else if j = 3 then some 7 else none) 3 8 = false := by simp [putB, keyB]
  have c1 : cntA 5 (fun j => if j = 3 then some 7 else none) = 1 := by decide
  have k1 : IsMin 5 (fun j => if j = 4 then some 2 else if j = 1 then some 7 else if j = 3 then some 7 else none) 4 2 := by
    refine ⟨by omega, by simp, fun j d hj hd => ?_⟩
    simp only at hd
    split at hd
    · cases hd; omega
    · split at hd
      · cases hd; omega
      · split at hd
        · cases hd; omega
        · cases hd
  have m7 : popM (fun j => if j = 4 then some 2 else if j = 1 then some 7 else if j = 3 then some 7 else none) 4 = fun j => if j = 1 then some (7 : Int) else if j = 3 then some 7 else none := by
    funext j; simp only [popM]; split
    · rename_i h; simp [h]
    · rfl
  have k2 : IsMin 5 (fun j => if j = 1 then some 7 else if j = 3 then some 7 else none) 1 7 := by
    refine ⟨by omega, by simp, fun j d hj hd => ?_⟩
    simp only at hd
    split at hd
    · cases hd; omega
    · split at hd
      · cases hd; omega
      · cases hd
  have m8 : popM (fun j => if j = 1 then some 7 else if j = 3 then some 7 else none) 1 = fun j => if j = 3 then some (7 : Int) else none := by
    funext j; simp only [popM]; split
    · rename_i h; simp [h]
    · rfl
  simp only [b1, b2, b3, b4, b5, b6]
  simp
  refine H.popB O7 k1 ?_
  intro h8 O8
  rw [m7] at O8
  simp
  refine H.popB O8 k2 ?_
  intro h9 O9
  rw [m8] at O9
  simp
  obtain ⟨S9, R9, hS9, e9⟩ := O9
  refine lenR_spec H.Len R9 ?_
  simp [c1]
  refine H.clearB ⟨S9, R9, hS9, e9⟩ ?_
  intro h10 O10
  simp
  obtain ⟨S10, R10, hS10, e10⟩ := O10
  refine H.popNo R10 (fun _ _ => rfl) ?_
  simp
  refine costR_spec H.Cost H.key R10 ?_
  have b7 : costB 5 (fun _ => none) 3 = false := by simp [costB, keyB]
  simp [b7]
  rw [← hd8]
  refine H.putB (k := 3) (c := 8) ⟨S10, R10, hS10, e10⟩ ?_
  intro h11 O11
  have b8 : putB 5 (fun _ => none) 3 8 = true := by simp [putB, keyB]
  obtain ⟨S11, _, _, e11⟩ := O11
  simp [hd8, b8]
  exact hr _ e11
end
end Go.Rm
