/- The laws of the heap: HeapSorts, its walk. -/
import Derived.Test.YtcenjaobjnoccaaRLaw7d
set_option linter.unusedSimpArgs false
set_option linter.unusedVariables false
namespace Go.Rm
section
variable {Y : Sys} {h : Heap} {p q n : Nat} {A : KMap} {S S' : Nat → Prop}

def Sort2 (kv cv : Value) (p bl bi : Nat) (h0 : Heap) (e : List Value) (h' : Heap) : Prop :=
  ∃ (ins : List Bool) (least : List Int) (S : Nat → Prop) (last was : Int) (v7 v8 v9 v12 v13 v14 v15 v16 v17 v18 v19 v20 v21 v22 v23 v24 v25 v26 v27 : Value),
    e = [kv, cv, .bool false, .pointer (some ⟨p, 0, none⟩), .pointer (some ⟨bl, 0, none⟩), .pointer (some ⟨bi, 0, none⟩), .int .i64 (cntA 256 (mapR ins least) : Int), v7,
      v8, v9, .int .i64 last, .int .i64 was, v12, v13, v14, v15, v16, v17, v18, v19, v20, v21, v22, v23, v24, v25, v26, v27] ∧ SortM h0 h' p bl bi ins least S ∧
    (∀ j d, j < 256 → mapR ins least j = some d → last < d ∨ (last = d ∧ was < j))

theorem wrap_u8_i64 {n : Nat} (h : n < 256) : IntKind.i64.wrap (n : Int) = n := i64_wrap (by omega)

theorem sorts_spec (HP : Y.Has F.rlaw7_HeapSorts S_rlaw7_HeapSorts) (HK : Y.Has F.rlaw7_known S_rlaw7_known) (H : HeapFns Y) (Hh : Y.Has F.rref6_Held S_rref6_Held)
    {keys costs : Sl} {kf : Nat → Nat} {cf : Nat → Int} (hkf : ∀ i, i < keys.n → kf i < 256) (hk : IntsAt h keys .u8 (fun i => (kf i : Int))) (hc : IntsAt h costs .i64 cf) {R : Value → Heap → Prop} (hr : ∀ h', Ext h h' → R (.bool true) h') :
    CallP Y F.rlaw7_HeapSorts [keys.v, costs.v] h R := by
  refine .of_has HP rfl ?_
  simp [S_rlaw7_HeapSorts, FnS.wp]
  refine known_spec HK H ?_
  intro h1 e1
  by_cases c1 : 200 < keys.n
  · have c1' : (200 : Int) < keys.n := by omega
    simp [c1']; exact hr _ e1
  have c1' : ¬ (200 : Int) < keys.n := by omega
  by_cases c2 : costs.n < keys.n
  · simp [c1', c2]; exact hr _ e1
  simp [c1', c2]
  refine new_spec H.New ?_
  intro h2 p S O hS e2
  rw [show keysN 256 = 256 from rfl] at O
  simp [ef_new, cells_agg']
  intro t1 t2
  have z1 := e1.size
  have z2 := e2.size
  have hb2 : ∀ b, S b → b < h2.size := fun b hb => O.lt hb
  have M0 : SortM h ((h2.push (.cells (Array.replicate 256 (.int .i64 0)) t1)).push (.cells (Array.replicate 256 (.bool false)) t2)) p h2.size (h2.size + 1) (List.replicate 256 false) (List.replicate 256 0) S := by
    refine ⟨?_, ?_, ?_, List.length_replicate, List.length_replicate, fun k _ => by rw [nthI_rep]; omega, fun b hb => Nat.le_trans z1 (hS b hb), fun h => by have := hb2 _ h; omega, fun h => by have := hb2 _ h; omega, by omega, by omega, by omega, ?_⟩
    · rw [mapR_rep]; exact (O.mod (S' := fun _ => False) Mod.push (fun _ _ h => h)).mod (S' := fun _ => False) Mod.push (fun _ _ h => h)
    · rw [intsV_rep]; exact Blk.push Blk.new
    · rw [boolsV_rep]; exact Blk.of_new (by rw [Array.size_push])
    · exact ((e1.trans e2).trans Mod.push).trans Mod.push
  have hc0 : cntA 256 (mapR (List.replicate 256 false) (List.replicate 256 0)) = 0 := by rw [mapR_rep]; exact cntA_none
  generalize h2.size = bl at *
  generalize bl + 1 = bi at *
  refine wp_loop' (Sort1 keys costs p bl bi h) (fun e _ => keys.n - argI e 7)
    ⟨0, List.replicate 256 false, List.replicate 256 0, S, undef, undef, undef, undef, undef, undef, undef, undef, undef, undef, .bool false, .bool false, .bool false, undef, undef, undef, undef, undef, undef, undef, by rw [hc0]; rfl, by omega, M0⟩ ?_
  clear M0 hc0 O hS hb2
  rintro e h3 ⟨i, ins, least, S, v8, v9, v10, v11, v12, v13, v14, v15, v16, v17, v18, v19, v20, v21, v22, v23, v24, v25, v26, v27, rfl, hi, M⟩
  have hk3 := hk.ext M.e
  have hc3 := hc.ext M.e
  have hcnt : cntA 256 (mapR ins least) ≤ 256 := cntA_le
  by_cases hlt : i < keys.n
  · have hlt' : (i : Int) < keys.n := by omega
    have hci : i < costs.n := by omega
    have hci' : (i : Int) < costs.n := by omega
    have w1 : IntKind.i64.wrap ((i : Int) + 1) = (i : Int) + 1 := i64_wrap (by omega)
    have hkk := hkf i hlt
    have hkv := hk3.val i hlt
    have hcv := hc3.val i hci
    generalize kf i = k at *
    have wk := wrap_u8_i64 hkk
    have hki : (k : Int) < 256 := by omega
    have hk0 : (0 : Int) ≤ (k : Int) := by omega
    have w2 : IntKind.i64.wrap ((cntA 256 (mapR ins least) : Int) + 1) = (cntA 256 (mapR ins least) : Int) + 1 := i64_wrap (by omega)
    simp [hlt', hci', sem_idxa hk3.ok, sem_idxa hc3.ok, hkv, hcv]
    refine rheld_spec Hh ?_
    simp [hkv, hci', sem_idxa hc3.ok, hcv, wk, sem_idxA', hki, M.iAt hkk]
    refine H.put M.O ?_
    intro h4 S4 O4 hS4 m4
    have hh := (held_range (c := cf i)).1
    generalize held (cf i) = c at *
    have B4 := m4.blk M.I M.ni
    have L4 := m4.blk M.L M.nl
    have i4 : Rm.hc h4 bi k = some (.bool (nthB ins k)) := by rw [B4.hc]; have := boolsV_get (l := ins) (i := k) (by rw [M.il]; exact hkk); simpa using this
    have l4 : Rm.hc h4 bl k = some (.int .i64 (nthI least k)) := by rw [L4.hc]; have := intsV_get (l := least) (i := k) (by rw [M.ll]; exact hkk); simpa using this
    have hki' : k < ins.length := by rw [M.il]; exact hkk
    have hkl' : k < least.length := by rw [M.ll]; exact hkk
    have fl : hfz h4 bl k = false := L4.hfz
    have fi : hfz h4 bi k = false := B4.hfz
    have B5 := B4.set_ne (b' := bl) (o := k) (v := .int .i64 c) (fun h => M.li h.symm)
    have i5 : Rm.hc (hset h4 bl k (.int .i64 c)) bi k = some (.bool (nthB ins k)) := by rw [B5.hc]; have := boolsV_get (l := ins) (i := k) (by rw [M.il]; exact hkk); simpa using this
    have f5 : hfz (hset h4 bl k (.int .i64 c)) bi k = false := B5.hfz
    have sA : ∀ l', (mapR (ins.set k true) l' k).isSome = true := fun l' => by simp [mapR, nthB_set hki']
    have sB : ∀ l' j, j ≠ k → (mapR (ins.set k true) l' j).isSome = (mapR ins least j).isSome := fun l' j hj => by
      simp only [mapR, nthB_set hki', if_neg hj]
      cases nthB ins j <;> rfl
    cases hb : nthB ins k with
    | false =>
      have hp : putB 256 (mapR ins least) k c = true := by simp [putB, keyB, mapR, hb, hki]
      have M5 := M.set hkk hh m4 O4 hS4 hp
      have hcn : cntA 256 (mapR (ins.set k true) (least.set k c)) = cntA 256 (mapR ins least) + 1 := cntA_split hkk (fun j _ hj => sB _ j hj) (by simp [mapR, hb]) (sA _)
      rw [hb] at i4 i5
      simp [hp, i4, wk, sem_idxA', hki, w1, w2, StoreP.open, l4, fl, i5, f5]
      refine ⟨⟨i + 1, ins.set k true, least.set k c, S4, _, _, _, _, _, _, _, _, _, _, _, _, _, _, _, _, _, _, _, _, by rw [hcn]; rfl, by omega, M5⟩, by simp [argI]; omega⟩
    | true =>
      rw [hb] at i4 i5
      by_cases hlt2 : c < nthI least k
      · have hp : putB 256 (mapR ins least) k c = true := by simp [putB, keyB, mapR, hb, hki, hlt2]
        have M5 := M.set hkk hh m4 O4 hS4 hp
        have hcn : cntA 256 (mapR (ins.set k true) (least.set k c)) = cntA 256 (mapR ins least) := cntA_congr (fun j _ => by
          by_cases hj : j = k
          · subst hj; rw [sA]; simp [mapR, hb]
          · exact sB _ j hj)
        simp [hp, i4, wk, sem_idxA', hki, w1, w2, StoreP.open, l4, fl, i5, f5, hlt2]
        refine ⟨⟨i + 1, ins.set k true, least.set k c, S4, _, _, _, _, _, _, _, _, _, _, _, _, _, _, _, _, _, _, _, _, by rw [hcn]; rfl, by omega, M5⟩, by simp [argI]; omega⟩
      · have hp : putB 256 (mapR ins least) k c = false := by simp [putB, keyB, mapR, hb, hki]; omega
        have M5 := M.keep hkk m4 O4 hS4 hp
        have hcn : cntA 256 (mapR (ins.set k true) least) = cntA 256 (mapR ins least) := cntA_congr (fun j _ => by
          by_cases hj : j = k
          · subst hj; rw [sA]; simp [mapR, hb]
          · exact sB _ j hj)
        simp [hp, i4, wk, sem_idxA', hki, w1, w2, StoreP.open, l4, fl, fi, i5, f5, hlt2]
        refine ⟨⟨i + 1, ins.set k true, least, S4, _, _, _, _, _, _, _, _, _, _, _, _, _, _, _, _, _, _, _, _, by rw [hcn]; rfl, by omega, M5⟩, by simp [argI]; omega⟩
  · have hlt' : ¬ (i : Int) < keys.n := by omega
    simp [hlt']
    refine wp_loop' (Sort2 keys.v costs.v p bl bi h) (fun e _ => (argZ e 6).toNat)
      ⟨ins, least, S, -1, -1, .int .i64 i, v8, v9, v12, v13, v14, v15, v16, v17, v18, v19, v20, .bool false, v22, v23, v24, v25, v26, v27, rfl, M, ?_⟩ ?_
    · intro j d hj hd
      simp only [mapR] at hd
      cases hb : nthB ins j with
      | false => rw [hb] at hd; cases hd
      | true => rw [hb] at hd; simp at hd; subst hd; have := M.pos j hj; omega
    clear M hk3 hc3 hcnt
    rintro e h4 ⟨ins, least, S, last, was, v7, v8, v9, v12, v13, v14, v15, v16, v17, v18, v19, v20, v21, v22, v23, v24, v25, v26, v27, rfl, M, hgt⟩
    by_cases hz : cntA 256 (mapR ins least) = 0
    · have hno := cntA_zero hz
      simp [hz]
      refine H.popNo M.O hno ?_
      simp
      refine lenR_spec H.Len M.O ?_
      simp [hz]
      exact hr _ M.e
    · have hz' : 0 < cntA 256 (mapR ins least) := by omega
      have hle : cntA 256 (mapR ins least) ≤ 256 := cntA_le
      simp [hz']
      refine lenR_spec H.Len M.O ?_
      simp
      refine H.pop M.O ?_ ?_
      · intro hno
        have hz2 : cntA 256 (mapR ins least) = 0 := cntA_of_none (n := 256) (A := mapR ins least) hno
        exact (hz hz2).elim
      · intro h5 k c hkm O5 m5
        obtain ⟨hkk, hka, hkl⟩ := hkm
        have hki' : k < ins.length := by rw [M.il]; exact hkk
        have hki : (k : Int) < 256 := by omega
        have hk255 : ¬ (255 : Int) < (k : Int) := by omega
        have B5 := m5.blk M.I M.ni
        have L5 := m5.blk M.L M.nl
        have i5 : Rm.hc h5 bi k = some (.bool (nthB ins k)) := by rw [B5.hc]; have := boolsV_get (l := ins) (i := k) (by rw [M.il]; exact hkk); simpa using this
        have l5 : Rm.hc h5 bl k = some (.int .i64 (nthI least k)) := by rw [L5.hc]; have := intsV_get (l := least) (i := k) (by rw [M.ll]; exact hkk); simpa using this
        have f5 : hfz h5 bi k = false := B5.hfz
        have hb : nthB ins k = true := by
          cases hb : nthB ins k with
          | true => rfl
          | false => simp [mapR, hb] at hka
        have hlc : nthI least k = c := by simpa [mapR, hb] using hka
        rw [hb] at i5
        rw [hlc] at l5
        have hg := hgt k c hkk hka
        have g1 : ¬ c < last := by omega
        have g2 : ¬ (c = last ∧ (k : Int) ≤ was) := by omega
        have M5 := M.out hkk m5 O5
        have hcn : cntA 256 (mapR ins least) = cntA 256 (mapR (ins.set k false) least) + 1 := by
          refine cntA_split hkk (fun j _ hj => ?_) (by simp [mapR, nthB_set hki']) (by rw [hka]; rfl)
          simp only [mapR, nthB_set hki', if_neg hj]
        have w3 : IntKind.i64.wrap ((cntA 256 (mapR ins least) : Int) - 1) = (cntA 256 (mapR (ins.set k false) least) : Int) := by rw [i64_wrap (by omega)]; omega
        have kn : ¬ (k : Int) < 0 := by omega
        have hnext : ∀ j d, j < 256 → mapR (ins.set k false) least j = some d → c < d ∨ (c = d ∧ (k : Int) < j) := by
          intro j d hj hd
          simp only [mapR, nthB_set hki'] at hd
          by_cases hjk : j = k
          · rw [if_pos hjk] at hd; cases hd
          · rw [if_neg hjk] at hd
            have := hkl j d hj hd
            omega
        have hms : (cntA 256 (mapR (ins.set k false) least) : Int) < cntA 256 (mapR ins least) := by omega
        by_cases g3 : c = last
        · have g4 : ¬ (k : Int) ≤ was := fun h => g2 ⟨g3, h⟩
          simp [hk255, sem_idxA', hki, i5, l5, g1, g3, g4, StoreP.open, f5, w3]
          rw [if_neg kn]
          refine ⟨⟨ins.set k false, least, S, c, k, _, _, _, _, _, _, _, _, _, _, _, _, _, _, _, _, _, _, _, by rw [g3], M5, hnext⟩, by simp [argZ]; omega⟩
        · simp [hk255, sem_idxA', hki, i5, l5, g1, g3, StoreP.open, f5, w3]
          rw [if_neg kn]
          exact ⟨⟨ins.set k false, least, S, c, k, _, _, _, _, _, _, _, _, _, _, _, _, _, _, _, _, _, _, _, rfl, M5, hnext⟩, by simp [argZ]; omega⟩
end
end Go.Rm
