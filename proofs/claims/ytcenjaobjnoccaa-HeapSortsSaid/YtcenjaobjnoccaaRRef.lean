/- The reference heap of package roundsmanref11, over the same maps. -/
import Derived.Test.YtcenjaobjnoccaaRHeap3
import Derived.Test.YtcenjaobjnoccaaSRref11
import Derived.Test.YtcenjaobjnoccaaSRref6
set_option linter.unusedSimpArgs false
set_option linter.unusedVariables false
namespace Go.Rm

def boolsV (l : List Bool) : List Value := l.map fun k => Value.bool k
def nthB (l : List Bool) (i : Nat) : Bool := l.getD i false
theorem boolsV_get {l : List Bool} {i : Nat} (h : i < l.length) : (boolsV l)[i]? = some (.bool (nthB l i)) := by
  simp [boolsV, nthB, h]
@[simp] theorem boolsV_len {l : List Bool} : (boolsV l).length = l.length := by simp [boolsV]
theorem boolsV_set {l : List Bool} {i : Nat} {k : Bool} : (boolsV l).set i (.bool k) = boolsV (l.set i k) := by simp [boolsV, List.map_set]
theorem nthB_set {l : List Bool} {i j : Nat} {k : Bool} (hi : i < l.length) : nthB (l.set i k) j = if j = i then k else nthB l j := by
  simp only [nthB, List.getD_eq_getElem?_getD, List.getElem?_set]
  by_cases h : i = j
  · subst h; simp [hi]
  · rw [if_neg h, if_neg (fun e => h e.symm)]

theorem rheld_spec {Y : Sys} (H : Y.Has F.rref6_Held S_rref6_Held) {a : Int} {h : Heap} {R : Value → Heap → Prop} (hr : R (.int .i64 (held a)) h) : CallP Y F.rref6_Held [.int .i64 a] h R := by
  refine .of_has H rfl ?_
  simp [S_rref6_Held, FnS.wp]
  unfold held at hr
  split
  · rename_i h0; rw [if_pos h0] at hr; exact hr
  · rename_i h0; rw [if_neg h0] at hr
    split
    · rename_i h1; rw [if_pos h1] at hr; exact hr
    · rename_i h1; rw [if_neg h1] at hr; exact hr

structure RefO (h : Heap) (q : Nat) (ins : List Bool) (costs : List Int) (is cs : Sl) : Prop where
  blk : Blk h q #[is.v, cs.v]
  ins : Own h 1 is (boolsV ins)
  costs : Own h 1 cs (intsV costs)
  inl : is.nl = false
  cnl : cs.nl = false
  qi : q ≠ is.b
  qc : q ≠ cs.b
  ic : is.b ≠ cs.b

def mapR (ins : List Bool) (costs : List Int) : KMap := fun k => if nthB ins k then some (nthI costs k) else none

def RefR (h : Heap) (q n : Nat) (A : KMap) (S : Nat → Prop) : Prop :=
  ∃ ins costs is cs, RefO h q ins costs is cs ∧ ins.length = n ∧ costs.length = n ∧ n ≤ 16384 ∧ (∀ k, k < n → A k = mapR ins costs k) ∧ (∀ b, S b ↔ (b = q ∨ b = is.b ∨ b = cs.b))

section
variable {Y : Sys} {h : Heap} {q n : Nat} {A : KMap} {S : Nat → Prop} {ins : List Bool} {costs : List Int} {is cs : Sl}

theorem RefO.p0 (O : RefO h q ins costs is cs) : hc h q 0 = some is.v := by rw [O.blk.hc]; rfl
theorem RefO.p1 (O : RefO h q ins costs is cs) : hc h q 1 = some cs.v := by rw [O.blk.hc]; rfl
theorem RefO.insN (O : RefO h q ins costs is cs) : is.n = ins.length := by have := O.ins.1; simp at this; omega
theorem RefO.costsN (O : RefO h q ins costs is cs) : cs.n = costs.length := by have := O.costs.1; simp at this; omega
theorem RefO.inAt (O : RefO h q ins costs is cs) {i : Nat} (hi : i < ins.length) : hc h is.b (is.o + i) = some (.bool (nthB ins i)) := O.ins.cell (boolsV_get hi)
theorem RefO.costAt (O : RefO h q ins costs is cs) {i : Nat} (hi : i < costs.length) : hc h cs.b (cs.o + i) = some (.int .i64 (nthI costs i)) := O.costs.cell (intsV_get hi)
theorem RefO.inF (O : RefO h q ins costs is cs) {i : Nat} (hi : i < ins.length) : hfz h is.b (is.o + i) = false := by
  obtain ⟨arr, hb, _, _⟩ := O.ins.blk (i := i) (by simpa using hi); exact hb.hfz
theorem RefO.costF (O : RefO h q ins costs is cs) {i : Nat} (hi : i < costs.length) : hfz h cs.b (cs.o + i) = false := by
  obtain ⟨arr, hb, _, _⟩ := O.costs.blk (i := i) (by simpa using hi); exact hb.hfz

theorem RefO.setIn (O : RefO h q ins costs is cs) {i : Nat} (hi : i < ins.length) (k : Bool) : RefO (hset h is.b (is.o + i) (.bool k)) q (ins.set i k) costs is cs := by
  refine ⟨O.blk.set_ne O.qi, ?_, ?_, O.inl, O.cnl, O.qi, O.qc, O.ic⟩
  · have := O.ins.set (i := i) (v := .bool k) (by simpa using hi)
    rwa [boolsV_set] at this
  · exact O.costs.mod (S := fun b => b = is.b) (Mod.set rfl) (fun _ h => O.ic h.symm)
theorem RefO.setCost (O : RefO h q ins costs is cs) {i : Nat} (hi : i < costs.length) (k : Int) : RefO (hset h cs.b (cs.o + i) (.int .i64 k)) q ins (costs.set i k) is cs := by
  refine ⟨O.blk.set_ne O.qc, ?_, ?_, O.inl, O.cnl, O.qi, O.qc, O.ic⟩
  · exact O.ins.mod (S := fun b => b = cs.b) (Mod.set rfl) (fun _ h => O.ic h)
  · have := O.costs.set (i := i) (v := .int .i64 k) (by simpa using hi)
    rwa [intsV_set] at this

theorem RefO.mod (O : RefO h q ins costs is cs) {S' : Nat → Prop} {h' : Heap} (hm : Mod S' h h') (hd : ∀ b, (b = q ∨ b = is.b ∨ b = cs.b) → ¬ S' b) : RefO h' q ins costs is cs :=
  ⟨hm.blk O.blk (hd q (.inl rfl)), O.ins.mod hm (fun _ => hd _ (.inr (.inl rfl))), O.costs.mod hm (fun _ => hd _ (.inr (.inr rfl))), O.inl, O.cnl, O.qi, O.qc, O.ic⟩

theorem RefR.mod (O : RefR h q n A S) {S' : Nat → Prop} {h' : Heap} (hm : Mod S' h h') (hd : ∀ b, S b → ¬ S' b) : RefR h' q n A S := by
  obtain ⟨ins, costs, is, cs, O, h1, h2, hn, hA, hS⟩ := O
  exact ⟨ins, costs, is, cs, O.mod hm (fun b hb => hd b ((hS b).2 hb)), h1, h2, hn, hA, hS⟩
theorem RefR.lt (O : RefR h q n A S) {b : Nat} (hb : S b) : b < h.size := by
  obtain ⟨ins, costs, is, cs, O, h1, h2, hn, hA, hS⟩ := O
  rcases (hS b).1 hb with rfl | rfl | rfl
  · exact O.blk.lt
  · exact O.ins.lt O.inl
  · exact O.costs.lt O.cnl
theorem RefR.n_le (O : RefR h q n A S) : n ≤ 16384 := by obtain ⟨_, _, _, _, _, _, _, hn, _⟩ := O; exact hn

/-- the row of what is in, as it is in memory -/
theorem RefR.row (O : RefR h q n A S) : ∃ is : Sl, hc h q 0 = some is.v ∧ is.n = n := by
  obtain ⟨ins, costs, is, cs, O, h1, h2, hn, hA, hS⟩ := O
  exact ⟨is, O.p0, by rw [O.insN, h1]⟩

theorem rcost_spec (H : Y.Has F.rref11_Heap_Cost S_rref11_Heap_Cost) (O : RefR h q n A S) {k : Int} {R : Value → Heap → Prop}
    (hr : R (.tuple #[.int .i64 (costV n A k), .bool (costB n A k)]) h) :
    CallP Y F.rref11_Heap_Cost [.pointer (some ⟨q, 0, none⟩), .int .i64 k] h R := by
  obtain ⟨ins, costs, is, cs, O, h1, h2, hn, hA, hS⟩ := O
  refine .of_has H rfl ?_
  have e1 := O.insN
  have e2 := O.costsN
  by_cases h0 : k < 0
  · have : keyB n k = false := by simp [keyB]; omega
    simp [costV, costB, this] at hr
    simp [S_rref11_Heap_Cost, FnS.wp, h0, hr]
  · by_cases hk : k < n
    · obtain ⟨k, rfl⟩ := Int.eq_ofNat_of_zero_le (show 0 ≤ k by omega)
      have hkn : k < n := by omega
      have hki : k < ins.length := by omega
      have hkc : k < costs.length := by omega
      have hkb : keyB n (k : Int) = true := by simp [keyB, hkn]
      have hAk := hA k hkn
      simp only [costV, costB, hkb, Int.toNat_natCast, hAk, mapR] at hr
      have hge : ¬ (ins.length ≤ k) := by omega
      cases hb : nthB ins k with
      | true => simp [hb] at hr; simp [S_rref11_Heap_Cost, FnS.wp, h0, O.p0, O.p1, e1, e2, hki, hkc, hge, sem_idxa O.ins.ok, sem_idxa O.costs.ok, O.inAt, O.costAt, hb, hr]
      | false => simp [hb] at hr; simp [S_rref11_Heap_Cost, FnS.wp, O.p0, O.p1, e1, e2, hki, hkc, hge, sem_idxa O.ins.ok, sem_idxa O.costs.ok, O.inAt, O.costAt, hb, hr]
    · have : keyB n k = false := by simp [keyB]; omega
      simp [costV, costB, this] at hr
      have hge : (ins.length : Int) ≤ k := by omega
      simp [S_rref11_Heap_Cost, FnS.wp, h0, O.p0, e1, hge, hr]

theorem putB_false_out {k c : Int} (hk : keyB n k = false) : putB n A k c = false := by simp [putB, hk]

theorem rput_spec (H : Y.Has F.rref11_Heap_Put S_rref11_Heap_Put) (Hh : Y.Has F.rref6_Held S_rref6_Held) (OR : RefR h q n A S) {k c : Int} {R : Value → Heap → Prop}
    (hr : ∀ h', RefR h' q n (putM n A k (held c)) S → Mod S h h' → R (.bool (putB n A k (held c))) h') :
    CallP Y F.rref11_Heap_Put [.pointer (some ⟨q, 0, none⟩), .int .i64 k, .int .i64 c] h R := by
  have O' := OR
  obtain ⟨ins, costs, is, cs, O, h1, h2, hn, hA, hS⟩ := OR
  refine .of_has H rfl ?_
  have e1 := O.insN
  have e2 := O.costsN
  have no : putB n A k (held c) = false → R (.bool false) h := fun hb => by
    have := hr h (by simpa [putM, hb] using O') (Mod.refl h); rwa [hb] at this
  by_cases h0 : k < 0
  · have : keyB n k = false := by simp [keyB]; omega
    have := no (putB_false_out this)
    simp [S_rref11_Heap_Put, FnS.wp, h0, this]
  · by_cases hk : k < n
    · obtain ⟨k, rfl⟩ := Int.eq_ofNat_of_zero_le (show 0 ≤ k by omega)
      have hkn : k < n := by omega
      have hki : k < ins.length := by omega
      have hkc : k < costs.length := by omega
      have hkb : keyB n (k : Int) = true := by simp [keyB, hkn]
      have hAk := hA k hkn
      simp only [mapR] at hAk
      have hge : ¬ (ins.length ≤ k) := by omega
      have O1 := O.setIn hki true
      have O2 := O1.setCost hkc (held c)
      have fin : putB n A k (held c) = true → R (.bool true) (hset (hset h is.b (is.o + k) (.bool true)) cs.b (cs.o + k) (.int .i64 (held c))) := by
        intro hb
        have := hr _ ⟨ins.set k true, costs.set k (held c), is, cs, O2, by simpa using h1, by simpa using h2, hn, ?_, hS⟩ ?_
        · rwa [hb] at this
        · intro j hj
          simp only [putM, hb, if_true, Int.toNat_natCast, mapR]
          rw [nthB_set hki, nthI_set hkc]
          by_cases hj' : j = k
          · simp [hj']
          · simp only [if_neg hj']; exact hA j hj
        · exact (Mod.set (by rw [hS]; exact .inr (.inl rfl))).trans (Mod.set (by rw [hS]; exact .inr (.inr rfl)))
      cases hb : nthB ins k with
      | true =>
        rw [hb] at hAk
        simp only [if_true] at hAk
        by_cases hle : nthI costs k ≤ held c
        · have hno := no (by simp [putB, hAk]; intro _; omega)
          simp [S_rref11_Heap_Put, FnS.wp, O.p0, O.p1, e1, e2, hki, hkc, hge, sem_idxa O.ins.ok, sem_idxa O.costs.ok, O.inAt, O.costAt, hb]
          refine rheld_spec Hh ?_
          simp [O.p1, sem_idxa O.costs.ok, e2, hkc, O.costAt, hle, hno]
        · have hyes := fin (by simp [putB, hAk, hkb]; omega)
          simp [S_rref11_Heap_Put, FnS.wp, O.p0, O.p1, e1, e2, hki, hkc, hge, sem_idxa O.ins.ok, sem_idxa O.costs.ok, O.inAt, O.costAt, hb]
          refine rheld_spec Hh ?_
          simp [O.p1, O.p0, sem_idxa O.costs.ok, sem_idxa O.ins.ok, e1, e2, hki, hkc, O.costAt, O.inAt, O.inF, hle, StoreP.open, O1.p1]
          refine rheld_spec Hh ?_
          simp [O1.p1, sem_idxa O1.costs.ok, e2, hkc, O1.costAt, O1.costF, StoreP.open, hyes]
      | false =>
        rw [hb] at hAk
        simp only [Bool.false_eq_true, if_false] at hAk
        have hyes := fin (by simp [putB, hAk, hkb])
        simp [S_rref11_Heap_Put, FnS.wp, O.p0, O.p1, e1, e2, hki, hkc, hge, sem_idxa O.ins.ok, sem_idxa O.costs.ok, O.inAt, O.inF, O.costAt, hb, StoreP.open, O1.p1]
        refine rheld_spec Hh ?_
        simp [O1.p1, sem_idxa O1.costs.ok, e2, hkc, O1.costAt, O1.costF, StoreP.open, hyes]
    · have : keyB n k = false := by simp [keyB]; omega
      have := no (putB_false_out this)
      have hge : (ins.length : Int) ≤ k := by omega
      simp [S_rref11_Heap_Put, FnS.wp, h0, O.p0, e1, hge, this]
end
end Go.Rm
