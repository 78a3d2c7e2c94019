/- The reference heap: Len, Pop, NewHeap. -/
import Derived.Test.YtcenjaobjnoccaaRRef
set_option linter.unusedSimpArgs false
set_option linter.unusedVariables false
namespace Go.Rm
section
variable {Y : Sys} {h : Heap} {q n : Nat} {A : KMap} {S : Nat → Prop} {ins : List Bool} {costs : List Int} {is cs : Sl}

/-- how many of the first i are in -/
def cntR (A : KMap) (i : Nat) : Nat := cntA i A
theorem cntA_succ {i : Nat} : cntA (i + 1) A = cntA i A + (if (A i).isSome then 1 else 0) := by
  simp only [cntA, List.range_succ, List.countP_append, List.countP_cons, List.countP_nil, Nat.zero_add]

def RLenI (q : Nat) (A : KMap) (n : Nat) (h0 : Heap) (e : List Value) (h' : Heap) : Prop :=
  ∃ (i : Nat) (v1 v4 v5 : Value), e = [.pointer (some ⟨q, 0, none⟩), v1, .int .i64 (cntA i A : Int), .int .i64 i, v4, v5] ∧ i ≤ n ∧ h' = h0

theorem rlen_spec (H : Y.Has F.rref11_Heap_Len S_rref11_Heap_Len) (O : RefR h q n A S) {R : Value → Heap → Prop} (hr : R (.int .i64 (cntA n A : Int)) h) :
    CallP Y F.rref11_Heap_Len [.pointer (some ⟨q, 0, none⟩)] h R := by
  obtain ⟨ins, costs, is, cs, O, h1, h2, hn, hA, hS⟩ := O
  refine .of_has H rfl ?_
  have e1 := O.insN
  simp [S_rref11_Heap_Len, FnS.wp]
  refine wp_loop' (RLenI q A n h) (fun e _ => n - argI e 3) ⟨0, .int .i64 0, undef, undef, by simp [cntA], by omega, rfl⟩ ?_
  rintro e h' ⟨i, v1, v4, v5, rfl, hi, rfl⟩
  have hci : cntA i A ≤ i := cntA_le
  by_cases hlt : i < n
  · have hii : i < ins.length := by omega
    have w1 : IntKind.i64.wrap ((i : Int) + 1) = (i : Int) + 1 := i64_wrap (by omega)
    have w2 : IntKind.i64.wrap ((cntA i A : Int) + 1) = (cntA i A : Int) + 1 := i64_wrap (by omega)
    have hAi := hA i hlt
    simp only [mapR] at hAi
    have hcs := cntA_succ (A := A) (i := i)
    cases hb : nthB ins i with
    | true =>
      simp [O.p0, e1, hii, sem_idxa O.ins.ok, O.inAt, hb, w1, w2]
      refine ⟨⟨i + 1, v1, .bool true, .bool true, ?_, by omega, rfl⟩, by simp [argI]; omega⟩
      rw [hcs, hAi, hb]; simp
    | false =>
      simp [O.p0, e1, hii, sem_idxa O.ins.ok, O.inAt, hb, w1, w2]
      refine ⟨⟨i + 1, v1, .bool true, .bool false, ?_, by omega, rfl⟩, by simp [argI]; omega⟩
      rw [hcs, hAi, hb]; simp
  · have hin : i = n := by omega
    subst hin
    have hii : ¬ i < ins.length := by omega
    simp [O.p0, e1, hii, hr]

def RPopI (q : Nat) (ins : List Bool) (costs : List Int) (h0 : Heap) (e : List Value) (h' : Heap) : Prop :=
  ∃ (i : Nat) (a : Int) (v6 v7 v8 : Value), e = [.pointer (some ⟨q, 0, none⟩), .int .i64 0, .int .i64 0, .bool false, .int .i64 a, .int .i64 i, v6, v7, v8] ∧ i ≤ ins.length ∧
    ((a = -1 ∧ ∀ j, j < i → nthB ins j = false) ∨ ∃ m : Nat, a = m ∧ m < i ∧ nthB ins m = true ∧ ∀ j, j < i → nthB ins j = true → nthI costs m < nthI costs j ∨ (nthI costs m = nthI costs j ∧ m ≤ j)) ∧ h' = h0

theorem rpop_spec (H : Y.Has F.rref11_Heap_Pop S_rref11_Heap_Pop) (O : RefR h q n A S) {R : Value → Heap → Prop}
    (hr0 : (∀ k, k < n → A k = none) → R (.tuple #[.int .i64 0, .int .i64 0, .bool false]) h)
    (hr : ∀ h' k c, IsMin n A k c → RefR h' q n (popM A k) S → Mod S h h' → R (.tuple #[.int .i64 k, .int .i64 c, .bool true]) h') :
    CallP Y F.rref11_Heap_Pop [.pointer (some ⟨q, 0, none⟩)] h R := by
  obtain ⟨ins, costs, is, cs, O, h1, h2, hn, hA, hS⟩ := O
  refine .of_has H rfl ?_
  have e1 := O.insN
  have e2 := O.costsN
  simp [S_rref11_Heap_Pop, FnS.wp]
  refine wp_loop' (RPopI q ins costs h) (fun e _ => n - argI e 5) ⟨0, -1, undef, undef, undef, by simp, by omega, .inl ⟨rfl, fun j hj => by omega⟩, rfl⟩ ?_
  rintro e h' ⟨i, a, v6, v7, v8, rfl, hi, ha, rfl⟩
  by_cases hlt : i < ins.length
  · have hic : i < costs.length := by omega
    have w1 : IntKind.i64.wrap ((i : Int) + 1) = (i : Int) + 1 := i64_wrap (by omega)
    cases hb : nthB ins i with
    | false =>
      simp [O.p0, e1, hlt, sem_idxa O.ins.ok, O.inAt, hb, w1]
      refine ⟨⟨i + 1, a, .bool true, .bool false, v8, by simp, by omega, ?_, rfl⟩, by simp [argI]; omega⟩
      rcases ha with ⟨g1, g2⟩ | ⟨m, g1, g2, g3, g4⟩
      · refine .inl ⟨g1, fun j hj => ?_⟩
        by_cases hj' : j = i
        · rw [hj', hb]
        · exact g2 j (by omega)
      · refine .inr ⟨m, g1, by omega, g3, fun j hj hjb => ?_⟩
        by_cases hj' : j = i
        · rw [hj', hb] at hjb; cases hjb
        · exact g4 j (by omega) hjb
    | true =>
      rcases ha with ⟨g1, g2⟩ | ⟨m, g1, g2, g3, g4⟩
      · subst g1
        simp [O.p0, e1, hlt, sem_idxa O.ins.ok, O.inAt, hb, w1]
        refine ⟨⟨i + 1, i, .bool true, .bool true, v8, by simp, by omega, .inr ⟨i, rfl, by omega, hb, fun j hj hjb => ?_⟩, rfl⟩, by simp [argI]; omega⟩
        by_cases hj' : j = i
        · rw [hj']; omega
        · rw [g2 j (by omega)] at hjb; cases hjb
      · subst g1
        have hmc : m < costs.length := by omega
        have hm0 : ¬ ((m : Int) < 0) := by omega
        by_cases hcl : nthI costs i < nthI costs m
        · simp [O.p0, O.p1, e1, e2, hlt, hic, hmc, hm0, sem_idxa O.ins.ok, sem_idxa O.costs.ok, O.inAt, O.costAt, hb, w1, hcl]
          refine ⟨⟨i + 1, i, .bool true, .bool true, v8, by simp, by omega, .inr ⟨i, rfl, by omega, hb, fun j hj hjb => ?_⟩, rfl⟩, by simp [argI]; omega⟩
          by_cases hj' : j = i
          · rw [hj']; omega
          · have := g4 j (by omega) hjb; omega
        · simp [O.p0, O.p1, e1, e2, hlt, hic, hmc, hm0, sem_idxa O.ins.ok, sem_idxa O.costs.ok, O.inAt, O.costAt, hb, w1, hcl]
          refine ⟨⟨i + 1, m, .bool true, .bool false, v8, by simp, by omega, .inr ⟨m, rfl, by omega, g3, fun j hj hjb => ?_⟩, rfl⟩, by simp [argI]; omega⟩
          by_cases hj' : j = i
          · rw [hj']; omega
          · exact g4 j (by omega) hjb
  · have hin : i = ins.length := by omega
    have hAn : ∀ j, j < n → A j = mapR ins costs j := hA
    rcases ha with ⟨g1, g2⟩ | ⟨m, g1, g2, g3, g4⟩
    · subst g1
      simp [O.p0, e1, hlt]
      refine hr0 fun k hk => ?_
      rw [hA k hk, mapR, g2 k (by omega)]; rfl
    · subst g1
      have hmi : m < ins.length := by omega
      have hmc : m < costs.length := by omega
      have hm0 : ¬ ((m : Int) < 0) := by omega
      have O2 := O.setIn hmi false
      simp [O.p0, O.p1, e1, e2, hlt, hmi, hmc, hm0, sem_idxa O.ins.ok, sem_idxa O.costs.ok, O.inAt, O.inF, StoreP.open, O2.p1, O2.costAt]
      refine hr _ m (nthI costs m) ⟨by omega, by rw [hA m (by omega), mapR, g3]; rfl, ?_⟩ ⟨ins.set m false, costs, is, cs, O2, by simpa using h1, h2, hn, ?_, hS⟩ (Mod.set (by rw [hS]; exact .inr (.inl rfl)))
      · intro j d hj hd
        rw [hA j hj, mapR] at hd
        cases hjb : nthB ins j with
        | false => rw [hjb] at hd; cases hd
        | true => rw [hjb] at hd; simp at hd; subst hd; exact g4 j (by omega) hjb
      · intro j hj
        simp only [popM, mapR, nthB_set hmi]
        split
        · rfl
        · exact hA j hj

theorem rnew_spec (H : Y.Has F.rref11_NewHeap S_rref11_NewHeap) {k : Int} {R : Value → Heap → Prop}
    (hr : ∀ h' q S, RefR h' q (keysN k) (fun _ => none) S → (∀ b, S b → h.size ≤ b) → Ext h h' → R (.pointer (some ⟨q, 0, none⟩)) h') :
    CallP Y F.rref11_NewHeap [.int .i64 k] h R := by
  refine .of_has H rfl ?_
  have hle : keysN k ≤ 16384 := by unfold keysN; split <;> (try split) <;> omega
  have obj : ∀ (h' : Heap) (bc bs p : Nat), Blk h' bc (Array.replicate (keysN k) (.bool false)) → Blk h' bs (Array.replicate (keysN k) (.int .i64 0)) → Blk h' p #[(Sl.at bc (keysN k) (keysN k)).v, (Sl.at bs (keysN k) (keysN k)).v] →
      h.size ≤ bc → h.size ≤ bs → h.size ≤ p → bc ≠ bs → p ≠ bc → p ≠ bs → Ext h h' → R (.pointer (some ⟨p, 0, none⟩)) h' := by
    intro h' bc bs p B1 B2 B3 g1 g2 g3 g4 g5 g6 he
    generalize hNN : keysN k = N at *
    have z1 : ∀ j, nthB (List.replicate N false) j = false := by intro j; simp [nthB, List.getElem?_replicate]; split <;> rfl
    refine hr h' p (fun b => b = p ∨ b = bc ∨ b = bs) ⟨List.replicate N false, List.replicate N 0, Sl.at bc N N, Sl.at bs N N, ⟨B3, ?_, ?_, rfl, rfl, g5, g6, g4⟩, by simp, by simp, hle, ?_, fun b => Iff.rfl⟩ ?_ he
    · refine ⟨by simp, .inr ⟨rfl, rfl, rfl, Nat.le_refl _, by simp; omega, _, B1, by simp, by simp [boolsV]⟩⟩
    · refine ⟨by simp, .inr ⟨rfl, rfl, rfl, Nat.le_refl _, by simp; omega, _, B2, by simp, by simp [intsV]⟩⟩
    · intro k hk; simp [mapR, z1]
    · rintro b (rfl | rfl | rfl)
      · exact g3
      · exact g1
      · exact g2
  have core : ∀ N : Nat, N = keysN k → (∀ t1 t2 t3 : TypeId, R (.pointer (some ⟨h.size + 1 + 1, 0, none⟩)) (((h.push (.cells (Array.replicate N (.bool false)) t1)).push (.cells (Array.replicate N (.int .i64 0)) t2)).push (.cells #[(Sl.at h.size N N).v, (Sl.at (h.size + 1) N N).v] t3))) ∧
      (∀ t1 t2 t3 : TypeId, R (.pointer (some ⟨h.size + 1 + 1, 0, none⟩)) (((h.push (.cells (Array.replicate N (.int .i64 0)) t1)).push (.cells (Array.replicate N (.bool false)) t2)).push (.cells #[(Sl.at (h.size + 1) N N).v, (Sl.at h.size N N).v] t3))) := by
    rintro N rfl
    refine ⟨fun t1 t2 t3 => ?_, fun t1 t2 t3 => ?_⟩
    · exact obj _ h.size (h.size + 1) (h.size + 1 + 1) ((Blk.new.push).push) ((Blk.of_new (by simp)).push) (Blk.of_new (by simp)) (by omega) (by omega) (by omega) (by omega) (by omega) (by omega) ((Mod.push.trans Mod.push).trans Mod.push)
    · exact obj _ (h.size + 1) h.size (h.size + 1 + 1) ((Blk.of_new (by simp)).push) ((Blk.new.push).push) (Blk.of_new (by simp)) (by omega) (by omega) (by omega) (by omega) (by omega) (by omega) ((Mod.push.trans Mod.push).trans Mod.push)
  by_cases h0 : k < 0
  · have c := core 0 (by simp [keysN, h0])
    simpa [S_rref11_NewHeap, FnS.wp, h0, ef_mkslice, ef_new, zeros_one, IOp.sem, Instr.fill, cells_slice, cells_agg] using c
  · by_cases h1 : 16384 < k
    · have c := core 16384 (by simp [keysN, h0, h1])
      simpa [S_rref11_NewHeap, FnS.wp, h0, h1, ef_mkslice, ef_new, zeros_one, IOp.sem, Instr.fill, cells_slice, cells_agg] using c
    · have c := core k.toNat (by simp [keysN, h0, h1])
      have g0 : 0 ≤ k := by omega
      have g1 : k ≤ 9223372036854775807 := by omega
      have g2 : 8 * k ≤ 281474976710656 := by omega
      have g3 : k ≤ 281474976710656 := by omega
      simpa [S_rref11_NewHeap, FnS.wp, h0, h1, ef_mkslice, ef_new, zeros_one, IOp.sem, Instr.fill, cells_slice, cells_agg, g0, g1, g2, g3] using c
end
end Go.Rm
