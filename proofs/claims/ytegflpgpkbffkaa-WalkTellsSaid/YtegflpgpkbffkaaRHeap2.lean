import Derived.Test.YtegflpgpkbffkaaRHeap

/- The heap package: what its methods do, in terms of which keys are in, and at what. -/
set_option linter.unusedSimpArgs false
set_option linter.unusedVariables false
namespace Go.Rm

abbrev KMap := Nat → Option Int

def cntK (n : Nat) (A : KMap) : Nat := (List.range n).countP fun k => (A k).isSome

/-- which keys are in, and at what -/
def mapOf (costs : List Int) (seats : List Nat) : KMap := fun k => if nth seats k = 0 then none else some (nthI costs k)

def fpO (p : Nat) (rs cs ss : Sl) : Nat → Prop := fun b => b = p ∨ b = cs.b ∨ b = ss.b ∨ (rs.nl = false ∧ b = rs.b)

/-- a heap, seen from without: n keys, A: which are in and at what, S: its memory -/
def HeapR (h : Heap) (p n : Nat) (A : KMap) (S : Nat → Prop) : Prop :=
  ∃ row costs seats rs cs ss, HeapO h p row costs seats rs cs ss ∧ Valid row n seats ∧ costs.length = n ∧ Ord row costs ∧ row.length = cntK n (mapOf costs seats) ∧ n ≤ 16384 ∧
    (∀ k, k < n → A k = mapOf costs seats k) ∧ (∀ b, S b ↔ fpO p rs cs ss b)

theorem cntK_le {n : Nat} {A : KMap} : cntK n A ≤ n := by
  unfold cntK
  exact Nat.le_trans List.countP_le_length (by simp)
theorem cntA_congr {n : Nat} {A B : KMap} (h : ∀ k, k < n → (A k).isSome = (B k).isSome) : cntK n A = cntK n B := by
  unfold cntK
  apply List.countP_congr
  intro k hk
  rw [h k (List.mem_range.1 hk)]

theorem cntA_zero {n : Nat} {A : KMap} (h : cntK n A = 0) : ∀ k, k < n → A k = none := by
  intro k hk
  have := List.countP_eq_zero.1 h k (List.mem_range.2 hk)
  simpa using this

theorem cntA_split {n : Nat} {A B : KMap} {k : Nat} (hk : k < n) (hne : ∀ j, j < n → j ≠ k → (B j).isSome = (A j).isSome) (hA : A k = none) (hB : (B k).isSome = true) : cntK n B = cntK n A + 1 := by
  have gen : ∀ (l : List Nat), (∀ j ∈ l, j < n) → l.Nodup → (k ∈ l → l.countP (fun j => (B j).isSome) = l.countP (fun j => (A j).isSome) + 1) ∧ (k ∉ l → l.countP (fun j => (B j).isSome) = l.countP (fun j => (A j).isSome)) := by
    intro l
    induction l with
    | nil => intro _ _; exact ⟨fun h => (by cases h), fun _ => rfl⟩
    | cons x l ih =>
      intro hl hnd
      obtain ⟨hx, hnd⟩ := List.nodup_cons.1 hnd
      obtain ⟨ih1, ih2⟩ := ih (fun j hj => hl j (List.mem_cons_of_mem _ hj)) hnd
      refine ⟨fun hi => ?_, fun hi => ?_⟩
      · simp only [List.countP_cons]
        by_cases hxk : x = k
        · subst hxk
          rw [ih2 hx, hB, hA]
          simp
        · have hkl : k ∈ l := by
            rcases List.mem_cons.1 hi with h | h
            · exact absurd h.symm hxk
            · exact h
          rw [ih1 hkl, hne x (hl x (by simp)) hxk]
          omega
      · have hxk : x ≠ k := fun e => hi (by rw [e]; simp)
        simp only [List.countP_cons]
        rw [ih2 (fun h => hi (List.mem_cons_of_mem _ h)), hne x (hl x (by simp)) hxk]
  exact (gen (List.range n) (fun j hj => List.mem_range.1 hj) List.nodup_range).1 (List.mem_range.2 hk)

section
variable {Y : Sys} {h : Heap} {p n : Nat} {A : KMap} {S : Nat → Prop}

theorem HeapO.fp_lt {row : List Nat} {costs : List Int} {seats : List Nat} {rs cs ss : Sl} (O : HeapO h p row costs seats rs cs ss) {b : Nat} (hb : fpO p rs cs ss b) : b < h.size := by
  rcases hb with rfl | rfl | rfl | ⟨hn, rfl⟩
  · exact O.blk.lt
  · exact O.costs.lt O.cnl
  · exact O.seats.lt O.snl
  · exact O.row.lt hn

theorem HeapR.lt (O : HeapR h p n A S) {b : Nat} (hb : S b) : b < h.size := by
  obtain ⟨_, _, _, _, _, _, O, _, _, _, _, _, _, hS⟩ := O
  exact O.fp_lt ((hS b).1 hb)

theorem HeapO.mod {row : List Nat} {costs : List Int} {seats : List Nat} {rs cs ss : Sl} (O : HeapO h p row costs seats rs cs ss) {S' : Nat → Prop} {h' : Heap} (hm : Mod S' h h') (hd : ∀ b, fpO p rs cs ss b → ¬ S' b) :
    HeapO h' p row costs seats rs cs ss :=
  ⟨hm.blk O.blk (hd p (.inl rfl)), O.row.mod hm (fun hn => hd _ (.inr (.inr (.inr ⟨hn, rfl⟩)))), O.costs.mod hm (fun _ => hd _ (.inr (.inl rfl))), O.seats.mod hm (fun _ => hd _ (.inr (.inr (.inl rfl)))),
    O.cnl, O.snl, O.pc, O.ps, O.csn, O.pr, O.rc, O.rss⟩

/-- what is done elsewhere leaves a heap as it is -/
theorem HeapR.mod (O : HeapR h p n A S) {S' : Nat → Prop} {h' : Heap} (hm : Mod S' h h') (hd : ∀ b, S b → ¬ S' b) : HeapR h' p n A S := by
  obtain ⟨row, costs, seats, rs, cs, ss, O, V, hc, hO, hcnt, hn, hA, hS⟩ := O
  exact ⟨row, costs, seats, rs, cs, ss, O.mod hm (fun b hb => hd b ((hS b).2 hb)), V, hc, hO, hcnt, hn, hA, hS⟩

theorem natsV_snoc {l : List Nat} {k : Nat} : natsV (l ++ [k]) = natsV l ++ [.int .i64 (k : Int)] := by simp [natsV]

theorem HeapO.pushRow {row : List Nat} {costs : List Int} {seats : List Nat} {rs cs ss s' : Sl} (O : HeapO h p row costs seats rs cs ss) {h2 : Heap} {k : Nat}
    (hO : Own h2 1 s' (natsV row ++ [.int .i64 (k : Int)])) (hm : Mod (fun j => rs.nl = false ∧ j = rs.b) h h2) (hl : (s'.b = rs.b ∧ s'.nl = rs.nl) ∨ (h.size ≤ s'.b ∧ s'.nl = false)) :
    HeapO (hset h2 p 0 s'.v) p (row ++ [k]) costs seats s' cs ss := by
  have hnl : s'.nl = false := by
    obtain ⟨_, _, _, h⟩ := hO.blk (i := 0) (by simp)
    exact h
  have hpl := O.blk.lt
  have hcl := O.costs.lt O.cnl
  have hsl := O.seats.lt O.snl
  have pr : p ≠ s'.b := by
    rcases hl with ⟨h1, h2⟩ | ⟨h1, _⟩
    · rw [h1]; exact O.pr (by rw [← h2]; exact hnl)
    · omega
  have rc : s'.b ≠ cs.b := by
    rcases hl with ⟨h1, h2⟩ | ⟨h1, _⟩
    · rw [h1]; exact O.rc (by rw [← h2]; exact hnl)
    · omega
  have rss : s'.b ≠ ss.b := by
    rcases hl with ⟨h1, h2⟩ | ⟨h1, _⟩
    · rw [h1]; exact O.rss (by rw [← h2]; exact hnl)
    · omega
  have hb := hm.blk O.blk (fun ⟨hn, e⟩ => O.pr hn e)
  refine ⟨?_, ?_, ?_, ?_, O.cnl, O.snl, O.pc, O.ps, O.csn, fun _ => pr, fun _ => rc, fun _ => rss⟩
  · have := hb.set (o := 0) (v := s'.v); simpa using this
  · rw [natsV_snoc]; exact hO.mod (S := fun b => b = p) (Mod.set rfl) (fun _ e => pr e.symm)
  · exact (O.costs.mod hm (fun _ ⟨hn, e⟩ => O.rc hn e.symm)).mod (S := fun b => b = p) (Mod.set rfl) (fun _ e => O.pc e.symm)
  · exact (O.seats.mod hm (fun _ ⟨hn, e⟩ => O.rss hn e.symm)).mod (S := fun b => b = p) (Mod.set rfl) (fun _ e => O.ps e.symm)

/-- Put(k, c) -/
def putB (n : Nat) (A : KMap) (k : Int) (c : Int) : Bool := keyB n k && (match A k.toNat with | none => true | some d => decide (c < d))
def putM (n : Nat) (A : KMap) (k : Int) (c : Int) : KMap := if putB n A k c then (fun j => if j = k.toNat then some c else A j) else A

/-- the map behind a key's new cost -/
theorem mapOf_set {costs : List Int} {seats seats' : List Nat} {k : Nat} {c : Int} (hkc : k < costs.length) (hk0 : nth seats' k ≠ 0) (hin : ∀ j, j ≠ k → (nth seats' j = 0 ↔ nth seats j = 0)) (j : Nat) :
    mapOf (costs.set k c) seats' j = if j = k then some c else mapOf costs seats j := by
  unfold mapOf
  by_cases hj : j = k
  · subst hj
    rw [if_neg hk0, if_pos rfl, nthI_set hkc]; simp
  · rw [if_neg hj, nthI_set hkc, if_neg hj]
    by_cases h0 : nth seats j = 0
    · rw [if_pos h0, if_pos ((hin j hj).2 h0)]
    · rw [if_neg h0, if_neg (fun h => h0 ((hin j hj).1 h))]

theorem put_spec (H : Y.Has F.heap_Heap_Put S_heap_Heap_Put) (Hk : Y.Has F.heap_Heap_key S_heap_Heap_key) (Hh : Y.Has F.cost_Held S_cost_Held) (Hu : Y.Has F.heap_Heap_up S_heap_Heap_up)
    (Ha : Y.Has F.heap_Heap_ahead S_heap_Heap_ahead) (Hs : Y.Has F.heap_Heap_swap S_heap_Heap_swap) (O : HeapR h p n A S) {k c : Int} {R : Value → Heap → Prop}
    (hr : ∀ h' S', HeapR h' p n (putM n A k (held c)) S' → (∀ b, S' b → S b ∨ h.size ≤ b) → Mod S h h' → R (.bool (putB n A k (held c))) h') :
    CallP Y F.heap_Heap_Put [.pointer (some ⟨p, 0, none⟩), .int .i64 k, .int .i64 c] h R := by
  have OR := O
  obtain ⟨row, costs, seats, rs, cs, ss, O, V, hc, hO, hcnt, hn, hA, hS⟩ := O
  refine .of_has H rfl ?_
  simp [S_heap_Heap_Put, FnS.wp]
  refine key_spec Hk O ?_
  rw [V.len]
  by_cases hk : keyB n k = true
  · have hk' := hk
    simp only [keyB, Bool.and_eq_true, decide_eq_true_eq] at hk'
    obtain ⟨h0, h1⟩ := hk'
    obtain ⟨k, rfl⟩ := Int.eq_ofNat_of_zero_le h0
    have hkn : k < n := by omega
    have hks : k < seats.length := by rw [V.len]; exact hkn
    have hkc : k < costs.length := by omega
    have e1 := O.seatsN
    have e2 := O.costsN
    have hrn : row.length ≤ n := by rw [hcnt]; exact cntK_le
    have hAk := hA k hkn
    simp [hk]
    refine held_spec Hh ?_
    generalize hcc : held c = c' at *
    by_cases hz : nth seats k = 0
    · have hAk : A k = none := by rw [hAk]; simp [mapOf, hz]
      simp [O.p2, sem_idxa O.seats.ok, e1, hks, O.seatAt, hz, O.p0, ef_bslice1_int]
      intro t
      have e3 := O.rowN
      refine ef_append1 rfl O.row (by omega) (by omega) ?_
      intro s' h2 hown hs'n hm2 hl2
      have O3 := O.pushRow hown hm2 hl2
      have V4 := valid_push V hkn hz
      have O4 := O3.setSeat hks (row.length + 1)
      have O5 := O4.setCost hkc c'
      have e4 := O3.rowN
      simp at e4
      have hb2 := hm2.blk O.blk (fun ⟨hn, e⟩ => O.pr hn e)
      have q0 : Rm.hc h2 p 0 = some rs.v := by rw [hb2.hc]; rfl
      have qf : hfz h2 p 0 = false := hb2.hfz
      simp only [Int.natCast_add, Int.natCast_one] at O4 O5
      have hseat : nth (seats.set k (row.length + 1)) k = row.length + 1 := by rw [nth_set hks]; simp
      have w1 : IntKind.i64.wrap (row.length : Int) = row.length := i64_wrap (by omega)
      have k4 : k < (seats.set k (row.length + 1)).length := by simpa using hks
      have k5 : k < (costs.set k c').length := by simpa using hkc
      have e5 : ss.n = (seats.set k (row.length + 1)).length := by simpa using e1
      simp [StoreP.open, q0, qf, O3.p2, O3.p0, e4, sem_idxa O3.seats.ok, e1, hks, O3.seatF, O3.seatAt, O4.p1, sem_idxa O4.costs.ok, e2, hkc, O4.costF, O4.costAt, O5.p2, O5.seatAt, hseat, w1]
      have V5 : Valid (row ++ [k]) (seats.set k (row.length + 1)).length (seats.set k (row.length + 1)) := by rw [List.length_set, V.len]; exact V4
      have hVl := V.len
      refine up_spec Hu Ha Hs O5 V5 (by simp [hVl, hc]) (ordU_push V hkc hz hO) (by simp) (by simp; omega) ?_
      intro h' row' seats' O' V' hl' Or' hrl hin hm'
      have hk0 : nth seats' k ≠ 0 := fun h => by have := (hin k).1 h; omega
      have hin' : ∀ j, j ≠ k → (nth seats' j = 0 ↔ nth seats j = 0) := fun j hj => by rw [hin j, nth_set hks, if_neg hj]
      have hmap := mapOf_set (c := c') hkc hk0 hin'
      have hb : putB n A k c' = true := by simp [putB, hk, hAk]
      have hnl : s'.nl = false := O'.rnl (i := 0) (by rw [hrl]; simp)
      have hloc : ∀ b, b = s'.b → S b ∨ h.size ≤ b := by
        rintro b rfl
        rcases hl2 with ⟨g1, g2⟩ | ⟨g1, _⟩
        · left; rw [hS]; exact .inr (.inr (.inr ⟨by rw [← g2]; exact hnl, g1⟩))
        · exact .inr g1
      have hfin := hr h' (fpO p s' cs ss) ⟨row', costs.set k c', seats', s', cs, ss, O', ?_, by simpa using hc, Or', ?_, hn, ?_, fun b => Iff.rfl⟩ ?_ ?_
      · rwa [hb] at hfin
      · have : seats'.length = n := by rw [hl']; simpa using V.len
        rw [← this]; exact V'
      · rw [hrl, List.length_append, hcnt]
        symm
        refine cntA_split hkn (fun j hj hne => ?_) (by simp [mapOf, hz]) (by rw [hmap]; simp)
        rw [hmap, if_neg hne]
      · intro j hj
        rw [hmap]
        simp only [putM, hb, if_true, Int.toNat_natCast]
        split
        · rfl
        · exact hA j hj
      · rintro b (rfl | rfl | rfl | ⟨_, rfl⟩)
        · left; rw [hS]; exact .inl rfl
        · left; rw [hS]; exact .inr (.inl rfl)
        · left; rw [hS]; exact .inr (.inr (.inl rfl))
        · exact hloc _ rfl
      · have hp : S p := by rw [hS]; exact .inl rfl
        have hcs : S cs.b := by rw [hS]; exact .inr (.inl rfl)
        have hss : S ss.b := by rw [hS]; exact .inr (.inr (.inl rfl))
        refine Mod.then (S' := fun b => b = s'.b ∨ b = ss.b) (((((hm2.mono ?_).trans (Mod.set hp)).trans (Mod.set hss)).trans (Mod.set hcs))) hm' ?_
        · rintro i _ ⟨g1, rfl⟩; rw [hS]; exact .inr (.inr (.inr ⟨g1, rfl⟩))
        · rintro i hi (rfl | rfl)
          · rcases hloc _ rfl with g | g
            · exact g
            · omega
          · exact hss
    · have hAk : A k = some (nthI costs k) := by rw [hAk]; simp [mapOf, hz]
      by_cases hle : nthI costs k ≤ c'
      · simp [O.p1, O.p2, sem_idxa O.seats.ok, sem_idxa O.costs.ok, e1, e2, hks, hkc, O.seatAt, O.costAt, hz, hle]
        have hb : putB n A k c' = false := by simp [putB, hk, hAk]; omega
        have := hr h S (by simpa [putM, hb] using OR) (fun b hb => .inl hb) (Mod.refl h)
        rwa [hb] at this
      · have O5 := O.setCost hkc c'
        have hseat1 : 1 ≤ nth seats k := by omega
        obtain ⟨q1, q2⟩ := V.sv k hkn hz
        have w1 : IntKind.i64.wrap ((nth seats k : Int) - 1) = ((nth seats k - 1 : Nat) : Int) := by rw [i64_wrap (by omega)]; omega
        simp [O.p1, O.p2, sem_idxa O.seats.ok, sem_idxa O.costs.ok, e1, e2, hks, hkc, O.seatAt, O.costAt, hz, hle, StoreP.open, O.costF, O5.p2, O5.seatAt, w1]
        have V5 : Valid row seats.length seats := by rw [V.len]; exact V
        have hVl := V.len
        refine up_spec Hu Ha Hs O5 V5 (by simp [hVl, hc]) (ordU_lower V hkn hkc hz hO (by omega)) q1 (by omega) ?_
        intro h' row' seats' O' V' hl' Or' hrl hin hm'
        have hk0 : nth seats' k ≠ 0 := fun h => hz ((hin k).1 h)
        have hmap := mapOf_set (c := c') hkc hk0 (fun j _ => hin j)
        have hb : putB n A k c' = true := by simp [putB, hk, hAk]; omega
        have hfin := hr h' S ⟨row', costs.set k c', seats', rs, cs, ss, O', ?_, by simpa using hc, Or', ?_, hn, ?_, hS⟩ (fun b hb => .inl hb) ?_
        · rwa [hb] at hfin
        · have : seats'.length = n := by rw [hl']; exact V.len
          rw [← this]; exact V'
        · rw [hrl, hcnt]
          apply cntA_congr
          intro j hj
          rw [hmap]
          split
          · rename_i hjk; rw [hjk]; simp [mapOf, hz]
          · rfl
        · intro j hj
          rw [hmap]
          simp only [putM, hb, if_true, Int.toNat_natCast]
          split
          · rfl
          · exact hA j hj
        · have hcs : S cs.b := by rw [hS]; exact .inr (.inl rfl)
          have hss : S ss.b := by rw [hS]; exact .inr (.inr (.inl rfl))
          refine Mod.then (Mod.set hcs) hm' ?_
          rintro i _ (rfl | rfl)
          · rw [hS]; exact .inr (.inr (.inr ⟨O.rnl q1, rfl⟩))
          · exact hss
  · have hk' : keyB n k = false := by simpa using hk
    simp [hk']
    have hb : putB n A k (held c) = false := by simp [putB, hk']
    have := hr h S (by simpa [putM, hb] using OR) (fun b hb => .inl hb) (Mod.refl h)
    rwa [hb] at this
end
end Go.Rm
