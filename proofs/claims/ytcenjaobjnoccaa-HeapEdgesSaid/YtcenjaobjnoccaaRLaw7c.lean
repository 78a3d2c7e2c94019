/- The laws of the heap: HeapEdges. -/
import Derived.Test.YtcenjaobjnoccaaRLaw7b
set_option linter.unusedSimpArgs false
set_option linter.unusedVariables false
namespace Go.Rm
section
variable {Y : Sys} {h : Heap} {p q n : Nat} {A : KMap} {S S' : Nat → Prop}

theorem held_range {c : Int} : 0 ≤ held c ∧ held c ≤ 1152921504606846976 := by
  unfold held; split
  · omega
  · split <;> omega

theorem keysN_eq {k : Int} : (if 16384 < if k < 0 then 0 else k then 16384 else if k < 0 then 0 else k) = ((keysN k : Nat) : Int) := by
  unfold keysN
  split <;> split <;> (try split) <;> omega
theorem keysN_le {k : Int} : keysN k ≤ 16384 := by unfold keysN; split <;> (try split) <;> omega

theorem HeapFns.putNo (H : HeapFns Y) {h0 : Heap} (O : HeapB h0 h p n A) {k c : Int} (hk : keyB n k = false) {R : Value → Heap → Prop}
    (hr : ∀ h', HeapB h0 h' p n A → R (.bool false) h') :
    CallP Y F.heap_Heap_Put [.pointer (some ⟨p, 0, none⟩), .int .i64 k, .int .i64 c] h R := by
  have hb : Rm.putB n A k (Rm.held c) = false := by simp [Rm.putB, hk]
  refine H.putB O fun h' O' => ?_
  rw [hb]
  refine hr h' ?_
  simpa [putM, hb] using O'

theorem edges_spec (HE : Y.Has F.rlaw7_HeapEdges S_rlaw7_HeapEdges) (HK : Y.Has F.rlaw7_known S_rlaw7_known) (H : HeapFns Y) (Hh : Y.Has F.rref6_Held S_rref6_Held) {nn c : Int} {R : Value → Heap → Prop} (hr : ∀ h', Ext h h' → R (.bool true) h') :
    CallP Y F.rlaw7_HeapEdges [.int .i64 nn, .int .i64 c] h R := by
  refine .of_has HE rfl ?_
  simp [S_rlaw7_HeapEdges, FnS.wp]
  refine known_spec HK H ?_
  intro h1 e1
  simp
  refine H.newB ?_
  intro h2 p O2
  have hN := keysN_eq (k := nn)
  have hle := keysN_le (k := nn)
  have O2 : HeapB h h2 p (keysN nn) (fun _ => none) := by
    obtain ⟨S, O, hS, e⟩ := O2
    exact ⟨S, O, fun b hb => Nat.le_trans e1.size (hS b hb), e1.trans e⟩
  simp [hN]
  generalize keysN nn = m at *
  refine H.putNo O2 (by simp [keyB]) ?_
  intro h3 O3
  simp
  refine H.putNo O3 (by simp [keyB]) ?_
  intro h4 O4
  simp
  refine H.putNo O4 (by simp [keyB]) ?_
  intro h5 O5
  simp
  refine H.putNo O5 (by simp [keyB]; omega) ?_
  intro h6 O6
  simp
  have hc0 : cntA m (fun _ => (none : Option Int)) = 0 := by unfold cntA; rw [List.countP_eq_zero]; intro k _; simp
  obtain ⟨S6, R6, hS6, e6⟩ := O6
  refine lenR_spec H.Len R6 ?_
  simp [hc0]
  by_cases hm : m = 0
  · simp [hm]; exact hr _ e6
  · have hm1 : ∃ j, m = j + 1 := ⟨m - 1, by omega⟩
    obtain ⟨j, rfl⟩ := hm1
    have w1 : IntKind.i64.wrap (j : Int) = (j : Int) := i64_wrap (by omega)
    have hne : ¬ ((j : Int) + 1 = 0) := by omega
    simp [hne, w1]
    refine H.putB (k := (j : Int)) ⟨S6, R6, hS6, e6⟩ ?_
    intro h7 O7
    have b7 : putB (j + 1) (fun _ => none) (j : Int) (held c) = true := by simp [putB, keyB]; omega
    have m7 : putM (j + 1) (fun _ => none) (j : Int) (held c) = fun i => if i = j then some (held c) else none := by funext i; simp [putM, b7]
    rw [m7] at O7
    simp [b7, w1]
    refine H.putB (k := (j : Int)) O7 ?_
    intro h8 O8
    have b8 : putB (j + 1) (fun i => if i = j then some (held c) else none) (j : Int) (held c) = false := by simp [putB]
    have m8 : putM (j + 1) (fun i => if i = j then some (held c) else none) (j : Int) (held c) = fun i => if i = j then some (held c) else none := by simp [putM, b8]
    rw [m8] at O8
    simp [b8, w1]
    obtain ⟨S8, R8, hS8, e8⟩ := O8
    refine costR_spec H.Cost H.key R8 ?_
    have hkb : keyB (j + 1) (j : Int) = true := by simp [keyB]; omega
    have cb : costB (j + 1) (fun i => if i = j then some (held c) else none) (j : Int) = true := by simp [costB, hkb]
    have cv : costV (j + 1) (fun i => if i = j then some (held c) else none) (j : Int) = held c := by simp [costV, hkb]
    simp [cb, cv]
    have km : IsMin (j + 1) (fun i => if i = j then some (held c) else none) j (held c) := by
      refine ⟨by omega, by simp, fun i d hi hd => ?_⟩
      simp only at hd
      split at hd
      · cases hd; omega
      · cases hd
    refine H.popB ⟨S8, R8, hS8, e8⟩ km ?_
    intro h9 O9
    have m9 : popM (fun i => if i = j then some (held c) else none) j = fun _ => none := by
      funext i; simp only [popM]; split <;> rfl
    rw [m9] at O9
    simp [w1]
    refine rheld_spec Hh ?_
    simp [w1]
    refine H.putB (k := (j : Int)) (c := 1152921504606846976) O9 ?_
    intro h10 O10
    have b10 : putB (j + 1) (fun _ => none) (j : Int) (held 1152921504606846976) = true := by simp [putB, keyB]; omega
    obtain ⟨S10, _, _, e10⟩ := O10
    simp [b10]
    exact hr _ e10
end
end Go.Rm
