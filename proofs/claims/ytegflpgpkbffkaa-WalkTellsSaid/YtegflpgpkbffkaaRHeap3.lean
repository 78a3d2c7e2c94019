import Derived.Test.YtegflpgpkbffkaaRHeap2

/- The heap package, part three: Pop, Clear and New. -/
set_option linter.unusedSimpArgs false
set_option linter.unusedVariables false
namespace Go.Rm

/-- k is the least key in, at cost c -/
def IsMin (n : Nat) (A : KMap) (k : Nat) (c : Int) : Prop := k < n ∧ A k = some c ∧ ∀ j d, j < n → A j = some d → c < d ∨ (c = d ∧ k ≤ j)
def popM (A : KMap) (k : Nat) : KMap := fun j => if j = k then none else A j

theorem valid_drop {row : List Nat} {n : Nat} {seats : List Nat} (V : Valid row n seats) {m : Nat} (hm : row.length = m + 1) : Valid (row.take m) n (seats.set (nth row m) 0) := by
  have hk := V.rv m (by omega)
  have hks : nth row m < seats.length := by rw [V.len]; exact hk
  have hl : (row.take m).length = m := by simp; omega
  have hne : ∀ i, i < m → nth row i ≠ nth row m := fun i hi h => by have := V.inj (i := i) (j := m) (by omega) (by omega) h; omega
  refine ⟨by simp [V.len], ?_, ?_, ?_⟩
  · intro i hi; rw [hl] at hi; rw [nth_take hi]; exact V.rv i (by omega)
  · intro i hi; rw [hl] at hi; rw [nth_take hi, nth_set hks, if_neg (hne i hi)]; exact V.rs i (by omega)
  · intro k hkn h0
    rw [nth_set hks] at h0 ⊢
    by_cases hkm : k = nth row m
    · rw [if_pos hkm] at h0; exact absurd rfl h0
    · rw [if_neg hkm] at h0 ⊢
      obtain ⟨q1, q2⟩ := V.sv k hkn h0
      have : nth seats k - 1 ≠ m := fun e => hkm (by rw [← q2, e])
      rw [hl]
      exact ⟨by omega, by rw [nth_take (by omega)]; exact q2⟩

theorem ordD_pop {row : List Nat} {costs : List Int} (O : Ord row costs) {m : Nat} (hm : row.length = m + 1) : OrdD ((swapRow row 0 m).take m) costs 0 := by
  have hl : ((swapRow row 0 m).take m).length = m := by simp; omega
  have hg : ∀ i, 0 < i → i < m → nth ((swapRow row 0 m).take m) i = nth row i := by
    intro i h0 hi
    rw [nth_take hi, swapRow_get (by omega) (by omega)]
    rw [if_neg (by omega), if_neg (by omega)]
  refine ⟨?_, fun h => absurd h (by omega)⟩
  intro j h0 hj hp
  rw [hl] at hj
  have := parent_lt h0
  rw [hg j h0 hj, hg _ (by omega) (by omega)]
  exact O j h0 (by omega)

section
variable {Y : Sys} {h : Heap} {p n : Nat} {A : KMap} {S : Nat → Prop}

theorem HeapO.cut {row : List Nat} {costs : List Int} {seats : List Nat} {rs cs ss : Sl} (O : HeapO h p row costs seats rs cs ss) {m : Nat} (hm : m ≤ row.length) :
    HeapO (hset h p 0 (Sl.v { rs with n := m })) p (row.take m) costs seats { rs with n := m } cs ss := by
  have hm' : m ≤ rs.n := by rw [O.rowN]; exact hm
  refine ⟨?_, ?_, ?_, ?_, O.cnl, O.snl, O.pc, O.ps, O.csn, O.pr, O.rc, O.rss⟩
  · have := O.blk.set (o := 0) (v := (Sl.v { rs with n := m })); simpa using this
  · have := O.row.take hm'
    have e : (natsV row).take (m * 1) = natsV (row.take m) := by simp [natsV, List.map_take]
    rw [e] at this
    exact this.mod (S := fun b => b = p) (Mod.set rfl) (fun hn e => O.pr hn e.symm)
  · exact O.costs.mod (S := fun b => b = p) (Mod.set rfl) (fun _ e => O.pc e.symm)
  · exact O.seats.mod (S := fun b => b = p) (Mod.set rfl) (fun _ e => O.ps e.symm)

theorem pop_spec (H : Y.Has F.heap_Heap_Pop S_heap_Heap_Pop) (Hd : Y.Has F.heap_Heap_down S_heap_Heap_down) (Ha : Y.Has F.heap_Heap_ahead S_heap_Heap_ahead) (Hs : Y.Has F.heap_Heap_swap S_heap_Heap_swap)
    (O : HeapR h p n A S) {R : Value → Heap → Prop}
    (hr0 : (∀ k, k < n → A k = none) → R (.tuple #[.int .i64 0, .int .i64 0, .bool false]) h)
    (hr : ∀ h' k c, IsMin n A k c → HeapR h' p n (popM A k) S → Mod S h h' → R (.tuple #[.int .i64 k, .int .i64 c, .bool true]) h') :
    CallP Y F.heap_Heap_Pop [.pointer (some ⟨p, 0, none⟩)] h R := by
  have OR := O
  obtain ⟨row, costs, seats, rs, cs, ss, O, V, hc, hO, hcnt, hn, hA, hS⟩ := O
  refine .of_has H rfl ?_
  have e0 := O.rowN
  have hrn : row.length ≤ n := by rw [hcnt]; exact cntK_le
  have hcA : cntK n (mapOf costs seats) = cntK n A := cntA_congr (fun k hk => by rw [hA k hk])
  cases hl : row.length with
  | zero =>
    have hz : rs.n = 0 := by omega
    simp [S_heap_Heap_Pop, FnS.wp, O.p0, hz]
    exact hr0 (cntA_zero (by rw [← hcA, ← hcnt]; exact hl))
  | succ m =>
    have hm0 : ¬ ((m : Int) + 1 = 0) := by omega
    have w1 : IntKind.i64.wrap (m : Int) = (m : Int) := i64_wrap (by omega)
    have hr1 : rs.n = m + 1 := by omega
    have hlm : 0 < row.length := by omega
    have q0 : Rm.hc h rs.b rs.o = some (.int .i64 (nth row 0 : Int)) := by have := O.rowAt (i := 0) hlm; simpa using this
    have hVl := V.len
    simp [S_heap_Heap_Pop, FnS.wp, O.p0, hr1, hm0, w1, sem_idxa O.row.ok, q0, hlm]
    refine swap_spec Hs O (i := 0) (j := m) (fun i hi => by rw [hVl]; exact V.rv i hi) hlm (by omega) (by omega) ?_
    intro h1 O1 hm1
    have V1 := V.swap (i := 0) (j := m) hlm (by omega)
    have hl1 : (swapRow row 0 m).length = m + 1 := by simpa using hl
    have hlast : nth (swapRow row 0 m) m = nth row 0 := by
      rw [swapRow_get hlm (by omega)]; simp
      try (intro h; rw [h])
    have O2 := O1.cut (m := m) (by omega)
    have hk := V.rv 0 hlm
    generalize hkk : nth row 0 = k at *
    have hk1 : k < (swapSeats row seats 0 m).length := by simpa [hVl] using hk
    have O3 := O2.setSeat hk1 0
    simp only [Int.natCast_zero] at O3
    have hks : k < seats.length := by omega
    have V3 := valid_drop V1 hl1
    rw [hlast] at V3
    have hmc : m ≤ rs.c := by have := O.row.ok.le; omega
    have hblk := O1.blk
    have hfz : hfz h1 p 0 = false := hblk.hfz
    have e2 : ss.n = seats.length := by have := O2.seatsN; simpa using this
    have hkc : k < costs.length := by omega
    simp [O1.p0, sem_slc_hi O1.row.ok, hmc, StoreP.open, hfz, O2.p2, sem_idxa O2.seats.ok, e2, hk1, hks, O2.seatF, O2.seatAt]
    have V3' : Valid ((swapRow row 0 m).take m) ((swapSeats row seats 0 m).set k 0).length ((swapSeats row seats 0 m).set k 0) := by
      have : ((swapSeats row seats 0 m).set k 0).length = n := by simpa using hVl
      rw [this]; exact V3
    refine down_spec Hd Ha Hs O3 V3' (by simp [hVl, hc]) (ordD_pop hO hl) (by simp; omega) ?_
    intro h' row' seats' O' V' hl' Or' hrl hin hm'
    have e3 := O'.costsN
    simp [O'.p1, sem_idxa O'.costs.ok, e3, hkc, O'.costAt]
    have hin0 : ∀ j, nth (swapSeats row seats 0 m) j = 0 ↔ nth seats j = 0 := fun j => swap_in V hlm (by omega) j
    have hin' : ∀ j, nth seats' j = 0 ↔ (j = k ∨ nth seats j = 0) := by
      intro j
      rw [hin j, nth_set hk1]
      split
      · rename_i h; simp [h]
      · rename_i h; rw [hin0 j]; simp [h]
    have hkin : nth seats k ≠ 0 := by have := V.rs 0 hlm; rw [hkk] at this; omega
    have hmap : ∀ j, mapOf costs seats' j = popM (mapOf costs seats) k j := by
      intro j
      unfold popM
      by_cases hj : j = k
      · subst hj; simp [mapOf, (hin' j).2 (.inl rfl)]
      · rw [if_neg hj]
        unfold mapOf
        by_cases hz : nth seats j = 0
        · rw [if_pos hz, if_pos ((hin' j).2 (.inr hz))]
        · rw [if_neg hz, if_neg (fun h => by rcases (hin' j).1 h with h | h <;> contradiction)]
    have hMk : mapOf costs seats k = some (nthI costs k) := by simp [mapOf, hkin]
    refine hr h' k (nthI costs k) ⟨hk, by rw [hA k hk, hMk], ?_⟩ ⟨row', costs, seats', { rs with n := m }, cs, ss, O', ?_, hc, Or', ?_, hn, ?_, hS⟩ ?_
    · intro j d hj hd
      rw [hA j hj] at hd
      unfold mapOf at hd
      by_cases hz : nth seats j = 0
      · rw [if_pos hz] at hd; cases hd
      · rw [if_neg hz] at hd; cases hd
        obtain ⟨g1, g2⟩ := V.sv j hj hz
        have := hO.least _ g1
        rw [g2, hkk] at this
        unfold klt at this
        omega
    · have : seats'.length = n := by rw [hl']; simpa using hVl
      rw [← this]; exact V'
    · have h2 := cntA_split (A := mapOf costs seats') (B := mapOf costs seats) hk (fun j _ hj => by rw [hmap j]; simp [popM, hj]) (by rw [hmap k]; simp [popM]) (by rw [hMk]; rfl)
      have h3 : row'.length = m := by rw [hrl]; simp; omega
      omega
    · intro j hj
      rw [hmap j]
      unfold popM
      split
      · rfl
      · exact hA j hj
    · have hp : S p := by rw [hS]; exact .inl rfl
      have hss : S ss.b := by rw [hS]; exact .inr (.inr (.inl rfl))
      have hrs : S rs.b := by rw [hS]; exact .inr (.inr (.inr ⟨O.rnl hlm, rfl⟩))
      have g : ∀ i, (i = rs.b ∨ i = ss.b) → S i := by rintro i (rfl | rfl) <;> assumption
      exact (((hm1.mono fun i _ hi => g i hi).trans (Mod.set hp)).trans (Mod.set hss)).then hm' (fun i _ hi => g i hi)

theorem cells_slice {a : Option Addr} {n c : Nat} : (Value.slice a n c).cells = #[.slice a n c] := rfl
theorem cells_agg {c : Array Value} : (Value.agg c).cells = c := rfl

theorem Blk.of_new {b : Nat} {h : Heap} {c : Array Value} {t : TypeId} (hb : b = h.size) : Blk (h.push (.cells c t)) b c := hb ▸ Blk.new

def keysN (k : Int) : Nat := if k < 0 then 0 else if 16384 < k then 16384 else k.toNat

theorem new_spec (H : Y.Has F.heap_New S_heap_New) {k : Int} {R : Value → Heap → Prop}
    (hr : ∀ h' p S, HeapR h' p (keysN k) (fun _ => none) S → (∀ b, S b → h.size ≤ b) → Ext h h' → R (.pointer (some ⟨p, 0, none⟩)) h') :
    CallP Y F.heap_New [.int .i64 k] h R := by
  refine .of_has H rfl ?_
  have hN : (if 16384 < if k < 0 then 0 else k then 16384 else if k < 0 then 0 else k) = ((keysN k : Nat) : Int) := by
    unfold keysN
    split <;> split <;> (try split) <;> omega
  have hle : keysN k ≤ 16384 := by unfold keysN; split <;> (try split) <;> omega
  generalize hNN : keysN k = N at *
  have obj : ∀ (h' : Heap) (bc bs p : Nat), Blk h' bc (Array.replicate N (.int .i64 0)) → Blk h' bs (Array.replicate N (.int .i64 0)) → Blk h' p #[Sl.nil.v, (Sl.at bc N N).v, (Sl.at bs N N).v] →
      h.size ≤ bc → h.size ≤ bs → h.size ≤ p → bc ≠ bs → p ≠ bc → p ≠ bs → Ext h h' → R (.pointer (some ⟨p, 0, none⟩)) h' := by
    intro h' bc bs p B1 B2 B3 g1 g2 g3 g4 g5 g6 he
    have z1 : ∀ j, nth (List.replicate N 0) j = 0 := by intro j; simp [nth, List.getElem?_replicate]; split <;> rfl
    refine hr h' p (fpO p Sl.nil (Sl.at bc N N) (Sl.at bs N N)) ⟨[], List.replicate N 0, List.replicate N 0, Sl.nil, Sl.at bc N N, Sl.at bs N N, ⟨B3, ?_, ?_, ?_, rfl, rfl, g5, g6, g4, ?_, ?_, ?_⟩, ⟨by simp, ?_, ?_, ?_⟩, by simp, ?_, ?_, hle, ?_, fun b => Iff.rfl⟩ ?_ he
    · exact Own.nil
    · refine ⟨by simp, .inr ⟨rfl, rfl, rfl, Nat.le_refl _, by simp; omega, _, B1, by simp, by simp [intsV]⟩⟩
    · refine ⟨by simp, .inr ⟨rfl, rfl, rfl, Nat.le_refl _, by simp; omega, _, B2, by simp, by simp [natsV]⟩⟩
    · intro h; cases h
    · intro h; cases h
    · intro h; cases h
    · intro i hi; cases hi
    · intro i hi; cases hi
    · intro k hk h0; exact absurd (z1 k) h0
    · intro j _ hj; cases hj
    · symm; unfold cntK; simp only [List.length_nil]; rw [List.countP_eq_zero]; intro k hk; simp [mapOf, z1]
    · intro k hk; simp [mapOf, z1]
    · rintro b (rfl | rfl | rfl | ⟨h, _⟩)
      · exact g3
      · exact g1
      · exact g2
      · cases h
  have b1 : (N : Int) ≤ 9223372036854775807 := by omega
  have b2 : 8 * (N : Int) ≤ 281474976710656 := by omega
  simp [S_heap_New, FnS.wp, hN, ef_mkslice, ef_new, zeros_one, IOp.sem, Instr.fill, cells_slice, cells_agg, b1, b2]
  refine ⟨fun t1 t2 t3 => ?_, fun t1 t2 t3 => ?_⟩
  · exact obj _ h.size (h.size + 1) (h.size + 1 + 1) ((Blk.new.push).push) ((Blk.of_new (by simp)).push) (Blk.of_new (by simp)) (by omega) (by omega) (by omega) (by omega) (by omega) (by omega) ((Mod.push.trans Mod.push).trans Mod.push)
  · exact obj _ (h.size + 1) h.size (h.size + 1 + 1) ((Blk.of_new (by simp)).push) ((Blk.new.push).push) (Blk.of_new (by simp)) (by omega) (by omega) (by omega) (by omega) (by omega) (by omega) ((Mod.push.trans Mod.push).trans Mod.push)
end
end Go.Rm
