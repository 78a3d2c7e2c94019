/- The laws of the heap: HeapSorts. -/
import Derived.Test.YtcenjaobjnoccaaRLaw7c
set_option linter.unusedSimpArgs false
set_option linter.unusedVariables false
namespace Go.Rm


theorem mapR_put {ins : List Bool} {least : List Int} {k n : Nat} {c : Int} (hk : k < ins.length) (hl : k < least.length) (hn : k < n) :
    putM n (mapR ins least) k c = mapR (ins.set k true) (if putB n (mapR ins least) k c then least.set k c else least) := by
  funext j
  unfold putM
  by_cases hb : putB n (mapR ins least) (k : Int) c = true
  · simp only [hb, if_true, Int.toNat_natCast, mapR, nthB_set hk, nthI_set hl]
    by_cases hj : j = k
    · simp [hj]
    · simp [hj]
  · simp only [hb, if_false, mapR, nthB_set hk]
    by_cases hj : j = k
    · subst hj
      have : nthB ins j = true := by
        cases hi : nthB ins j with
        | true => rfl
        | false => exfalso; apply hb; simp [putB, keyB, mapR, hi, hn]
      simp [mapR, this]
    · simp [hj, mapR]
theorem mapR_pop {ins : List Bool} {least : List Int} {k : Nat} (hk : k < ins.length) : popM (mapR ins least) k = mapR (ins.set k false) least := by
  funext j
  simp only [popM, mapR, nthB_set hk]
  split
  · rfl
  · rfl

theorem nthB_rep {N j : Nat} : nthB (List.replicate N false) j = false := by simp only [nthB, List.getD_eq_getElem?_getD, List.getElem?_replicate]; split <;> rfl
theorem nthI_rep {N j : Nat} : nthI (List.replicate N 0) j = 0 := by simp only [nthI, List.getD_eq_getElem?_getD, List.getElem?_replicate]; split <;> rfl
theorem mapR_rep {N : Nat} : mapR (List.replicate N false) (List.replicate N 0) = fun _ => none := by funext j; simp [mapR, nthB_rep]
theorem intsV_rep {N : Nat} : (intsV (List.replicate N 0)).toArray = Array.replicate N (Value.int .i64 0) := by simp [intsV]
theorem boolsV_rep {N : Nat} : (boolsV (List.replicate N false)).toArray = Array.replicate N (Value.bool false) := by simp [boolsV]
theorem cntA_none {N : Nat} : cntA N (fun _ => (none : Option Int)) = 0 := by unfold cntA; rw [List.countP_eq_zero]; intro k _; simp

theorem cntA_of_none {n : Nat} {A : KMap} (h : ∀ k, k < n → A k = none) : cntA n A = 0 := by
  unfold cntA; rw [List.countP_eq_zero]; intro k hk; rw [h k (List.mem_range.1 hk)]; simp

section
variable {Y : Sys} {h : Heap} {p q n : Nat} {A : KMap} {S S' : Nat → Prop}

/-- what a run of HeapSorts has in memory -/
structure SortM (h0 h' : Heap) (p bl bi : Nat) (ins : List Bool) (least : List Int) (S : Nat → Prop) : Prop where
  O : HeapR h' p 256 (mapR ins least) S
  L : Blk h' bl (intsV least).toArray
  I : Blk h' bi (boolsV ins).toArray
  ll : least.length = 256
  il : ins.length = 256
  pos : ∀ k, k < 256 → 0 ≤ nthI least k
  hS : ∀ b, S b → h0.size ≤ b
  nl : ¬ S bl
  ni : ¬ S bi
  lo : h0.size ≤ bl
  io : h0.size ≤ bi
  li : bl ≠ bi
  e : Ext h0 h'

def Sort1 (keys costs : Sl) (p bl bi : Nat) (h0 : Heap) (e : List Value) (h' : Heap) : Prop :=
  ∃ (i : Nat) (ins : List Bool) (least : List Int) (S : Nat → Prop) (v8 v9 v10 v11 v12 v13 v14 v15 v16 v17 v18 v19 v20 v21 v22 v23 v24 v25 v26 v27 : Value),
    e = [keys.v, costs.v, .bool false, .pointer (some ⟨p, 0, none⟩), .pointer (some ⟨bl, 0, none⟩), .pointer (some ⟨bi, 0, none⟩), .int .i64 (cntA 256 (mapR ins least) : Int), .int .i64 i,
      v8, v9, v10, v11, v12, v13, v14, v15, v16, v17, v18, v19, v20, v21, v22, v23, v24, v25, v26, v27] ∧ i ≤ keys.n ∧ SortM h0 h' p bl bi ins least S

theorem SortM.lAt {h0 h' : Heap} {p bl bi : Nat} {ins : List Bool} {least : List Int} {S : Nat → Prop} (M : SortM h0 h' p bl bi ins least S) {k : Nat} (hk : k < 256) : hc h' bl k = some (.int .i64 (nthI least k)) := by
  rw [M.L.hc]; have := intsV_get (l := least) (i := k) (by rw [M.ll]; exact hk); simpa using this
theorem SortM.iAt {h0 h' : Heap} {p bl bi : Nat} {ins : List Bool} {least : List Int} {S : Nat → Prop} (M : SortM h0 h' p bl bi ins least S) {k : Nat} (hk : k < 256) : hc h' bi k = some (.bool (nthB ins k)) := by
  rw [M.I.hc]; have := boolsV_get (l := ins) (i := k) (by rw [M.il]; exact hk); simpa using this


theorem SortM.set {h0 h' h2 : Heap} {p bl bi : Nat} {ins : List Bool} {least : List Int} {S S2 : Nat → Prop} (M : SortM h0 h' p bl bi ins least S) {k : Nat} {c : Int} (hk : k < 256) (hc0 : 0 ≤ c)
    (hm : Mod S h' h2) (O2 : HeapR h2 p 256 (putM 256 (mapR ins least) k c) S2) (hS2 : ∀ b, S2 b → S b ∨ h'.size ≤ b) (hb : putB 256 (mapR ins least) k c = true) :
    SortM h0 (hset (hset h2 bl k (.int .i64 c)) bi k (.bool true)) p bl bi (ins.set k true) (least.set k c) S2 := by
  have hki : k < ins.length := by rw [M.il]; exact hk
  have hkl : k < least.length := by rw [M.ll]; exact hk
  rw [mapR_put hki hkl hk, hb, if_pos rfl] at O2
  have nl2 : ¬ S2 bl := fun h => by
    rcases hS2 _ h with g | g
    · exact M.nl g
    · have := M.L.lt; omega
  have ni2 : ¬ S2 bi := fun h => by
    rcases hS2 _ h with g | g
    · exact M.ni g
    · have := M.I.lt; omega
  have L2 := hm.blk M.L M.nl
  have I2 := hm.blk M.I M.ni
  have e2 := M.e.ext hm M.hS
  have z := M.e.size
  refine ⟨?_, ?_, ?_, by simp [M.ll], by simp [M.il], ?_, ?_, nl2, ni2, M.lo, M.io, M.li, ?_⟩
  · exact (O2.mod (S' := fun b => b = bl) (Mod.set rfl) (fun b hb h => nl2 (h ▸ hb))).mod (S' := fun b => b = bi) (Mod.set rfl) (fun b hb h => ni2 (h ▸ hb))
  · have := (L2.set (o := k) (v := .int .i64 c)).set_ne (b' := bi) (o := k) (v := .bool true) M.li
    rw [← intsV_set]; simpa using this
  · have := (I2.set_ne (b' := bl) (o := k) (v := .int .i64 c) (fun h => M.li h.symm)).set (o := k) (v := .bool true)
    rw [← boolsV_set]; simpa using this
  · intro j hj
    rw [nthI_set hkl]
    split
    · exact hc0
    · exact M.pos j hj
  · intro b hb
    rcases hS2 b hb with g | g
    · exact M.hS b g
    · omega
  · have q1 : Ext h0 (hset h2 bl k (.int .i64 c)) := e2.ext (Mod.set (S := fun b => b = bl) rfl) (fun b hb => hb ▸ M.lo)
    exact q1.ext (Mod.set (S := fun b => b = bi) rfl) (fun b hb => hb ▸ M.io)

theorem SortM.keep {h0 h' h2 : Heap} {p bl bi : Nat} {ins : List Bool} {least : List Int} {S S2 : Nat → Prop} (M : SortM h0 h' p bl bi ins least S) {k : Nat} {c : Int} (hk : k < 256)
    (hm : Mod S h' h2) (O2 : HeapR h2 p 256 (putM 256 (mapR ins least) k c) S2) (hS2 : ∀ b, S2 b → S b ∨ h'.size ≤ b) (hb : putB 256 (mapR ins least) k c = false) :
    SortM h0 (hset h2 bi k (.bool true)) p bl bi (ins.set k true) least S2 := by
  have hki : k < ins.length := by rw [M.il]; exact hk
  have hkl : k < least.length := by rw [M.ll]; exact hk
  rw [mapR_put hki hkl hk, hb] at O2
  have nl2 : ¬ S2 bl := fun h => by
    rcases hS2 _ h with g | g
    · exact M.nl g
    · have := M.L.lt; omega
  have ni2 : ¬ S2 bi := fun h => by
    rcases hS2 _ h with g | g
    · exact M.ni g
    · have := M.I.lt; omega
  have L2 := hm.blk M.L M.nl
  have I2 := hm.blk M.I M.ni
  have e2 := M.e.ext hm M.hS
  have z := M.e.size
  refine ⟨?_, ?_, ?_, M.ll, by simp [M.il], M.pos, ?_, nl2, ni2, M.lo, M.io, M.li, ?_⟩
  · exact O2.mod (S' := fun b => b = bi) (Mod.set rfl) (fun b hb h => ni2 (h ▸ hb))
  · exact L2.set_ne M.li
  · have := I2.set (o := k) (v := .bool true)
    rw [← boolsV_set]; simpa using this
  · intro b hb
    rcases hS2 b hb with g | g
    · exact M.hS b g
    · omega
  · exact e2.ext (Mod.set (S := fun b => b = bi) rfl) (fun b hb => hb ▸ M.io)

theorem SortM.out {h0 h' h2 : Heap} {p bl bi : Nat} {ins : List Bool} {least : List Int} {S : Nat → Prop} (M : SortM h0 h' p bl bi ins least S) {k : Nat} (hk : k < 256)
    (hm : Mod S h' h2) (O2 : HeapR h2 p 256 (popM (mapR ins least) k) S) :
    SortM h0 (hset h2 bi k (.bool false)) p bl bi (ins.set k false) least S := by
  have hki : k < ins.length := by rw [M.il]; exact hk
  rw [mapR_pop hki] at O2
  have L2 := hm.blk M.L M.nl
  have I2 := hm.blk M.I M.ni
  have e2 := M.e.ext hm M.hS
  refine ⟨?_, ?_, ?_, M.ll, by simp [M.il], M.pos, M.hS, M.nl, M.ni, M.lo, M.io, M.li, ?_⟩
  · exact O2.mod (S' := fun b => b = bi) (Mod.set rfl) (fun b hb h => M.ni (h ▸ hb))
  · exact L2.set_ne M.li
  · have := I2.set (o := k) (v := .bool false)
    rw [← boolsV_set]; simpa using this
  · exact e2.ext (Mod.set (S := fun b => b = bi) rfl) (fun b hb => hb ▸ M.io)
end
end Go.Rm
