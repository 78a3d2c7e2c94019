import Derived.Test.YtegflpgpkbffkaaEngP
import Derived.Test.YtegflpgpkbffkaaHeapTh
import Derived.Test.YtegflpgpkbffkaaSNums

/- The heap package: its memory, and what each function does. -/
set_option linter.unusedSimpArgs false
set_option linter.unusedVariables false
namespace Go.Rm

def natsV (l : List Nat) : List Value := l.map fun (k : Nat) => Value.int .i64 (k : Int)
def intsV (l : List Int) : List Value := l.map fun (k : Int) => Value.int .i64 k

theorem natsV_get {l : List Nat} {i : Nat} (h : i < l.length) : (natsV l)[i]? = some (.int .i64 (nth l i : Int)) := by
  simp [natsV, nth, h]
theorem intsV_get {l : List Int} {i : Nat} (h : i < l.length) : (intsV l)[i]? = some (.int .i64 (nthI l i)) := by
  simp [intsV, nthI, h]
@[simp] theorem natsV_len {l : List Nat} : (natsV l).length = l.length := by simp [natsV]
@[simp] theorem intsV_len {l : List Int} : (intsV l).length = l.length := by simp [intsV]

def held (a : Int) : Int := if a < 0 then 0 else if 1152921504606846976 < a then 1152921504606846976 else a

theorem held_spec {Y : Sys} (H : Y.Has F.cost_Held S_cost_Held) {a : Int} {h : Heap} {R : Value → Heap → Prop} (hr : R (.int .i64 (held a)) h) : CallP Y F.cost_Held [.int .i64 a] h R := by
  refine .of_has H rfl ?_
  simp [S_cost_Held, FnS.wp]
  unfold held at hr
  split
  · rename_i h0; rw [if_pos h0] at hr; exact hr
  · rename_i h0; rw [if_neg h0] at hr
    split
    · rename_i h1; rw [if_pos h1] at hr; exact hr
    · rename_i h1; rw [if_neg h1] at hr; exact hr

/-- a heap in memory -/
structure HeapO (h : Heap) (p : Nat) (row : List Nat) (costs : List Int) (seats : List Nat) (rs cs ss : Sl) : Prop where
  blk : Blk h p #[rs.v, cs.v, ss.v]
  row : Own h 1 rs (natsV row)
  costs : Own h 1 cs (intsV costs)
  seats : Own h 1 ss (natsV seats)
  cnl : cs.nl = false
  snl : ss.nl = false
  pc : p ≠ cs.b
  ps : p ≠ ss.b
  csn : cs.b ≠ ss.b
  pr : rs.nl = false → p ≠ rs.b
  rc : rs.nl = false → rs.b ≠ cs.b
  rss : rs.nl = false → rs.b ≠ ss.b

section
variable {Y : Sys} {h : Heap} {p : Nat} {row : List Nat} {costs : List Int} {seats : List Nat} {rs cs ss : Sl}

theorem HeapO.rowN (O : HeapO h p row costs seats rs cs ss) : rs.n = row.length := by have := O.row.1; simp at this; omega
theorem HeapO.costsN (O : HeapO h p row costs seats rs cs ss) : cs.n = costs.length := by have := O.costs.1; simp at this; omega
theorem HeapO.seatsN (O : HeapO h p row costs seats rs cs ss) : ss.n = seats.length := by have := O.seats.1; simp at this; omega
theorem HeapO.rowAt (O : HeapO h p row costs seats rs cs ss) {i : Nat} (hi : i < row.length) : hc h rs.b (rs.o + i) = some (.int .i64 (nth row i : Int)) := O.row.cell (natsV_get hi)
theorem HeapO.costAt (O : HeapO h p row costs seats rs cs ss) {i : Nat} (hi : i < costs.length) : hc h cs.b (cs.o + i) = some (.int .i64 (nthI costs i)) := O.costs.cell (intsV_get hi)
theorem HeapO.seatAt (O : HeapO h p row costs seats rs cs ss) {i : Nat} (hi : i < seats.length) : hc h ss.b (ss.o + i) = some (.int .i64 (nth seats i : Int)) := O.seats.cell (natsV_get hi)
theorem HeapO.p0 (O : HeapO h p row costs seats rs cs ss) : hc h p 0 = some rs.v := by rw [O.blk.hc]; rfl
theorem HeapO.p1 (O : HeapO h p row costs seats rs cs ss) : hc h p 1 = some cs.v := by rw [O.blk.hc]; rfl
theorem HeapO.p2 (O : HeapO h p row costs seats rs cs ss) : hc h p 2 = some ss.v := by rw [O.blk.hc]; rfl

def keyB (n : Nat) (k : Int) : Bool := decide (0 ≤ k) && decide (k < n)

theorem key_spec (H : Y.Has F.heap_Heap_key S_heap_Heap_key) (O : HeapO h p row costs seats rs cs ss) {k : Int} {R : Value → Heap → Prop} (hr : R (.bool (keyB seats.length k)) h) :
    CallP Y F.heap_Heap_key [.pointer (some ⟨p, 0, none⟩), .int .i64 k] h R := by
  refine .of_has H rfl ?_
  by_cases h0 : 0 ≤ k
  · simp [S_heap_Heap_key, FnS.wp, O.p2, O.seatsN, h0]
    simpa [keyB, h0] using hr
  · simp [S_heap_Heap_key, FnS.wp, h0]
    simpa [keyB, h0] using hr

/-- does the key at place i come ahead of that at place j? -/
def aheadB (row : List Nat) (costs : List Int) (i j : Nat) : Bool :=
  if nthI costs (nth row i) ≠ nthI costs (nth row j) then decide (nthI costs (nth row i) < nthI costs (nth row j)) else decide (nth row i < nth row j)

theorem ahead_spec (H : Y.Has F.heap_Heap_ahead S_heap_Heap_ahead) (O : HeapO h p row costs seats rs cs ss) (hv : ∀ i, i < row.length → nth row i < costs.length) {i j : Nat} (hi : i < row.length) (hj : j < row.length)
    {R : Value → Heap → Prop} (hr : R (.bool (aheadB row costs i j)) h) :
    CallP Y F.heap_Heap_ahead [.pointer (some ⟨p, 0, none⟩), .int .i64 i, .int .i64 j] h R := by
  refine .of_has H rfl ?_
  have hvi := hv i hi
  have hvj := hv j hj
  have e1 := O.rowN
  have e2 := O.costsN
  simp [S_heap_Heap_ahead, FnS.wp, O.p0, O.p1, sem_idxa O.row.ok, sem_idxa O.costs.ok, O.rowAt, O.costAt, e1, e2, hi, hj, hvi, hvj]
  unfold aheadB at hr
  split
  · rename_i hc; rw [if_neg (fun h => h hc)] at hr; exact hr
  · rename_i hc; rw [if_pos hc] at hr; exact hr

theorem HeapO.rnl (O : HeapO h p row costs seats rs cs ss) {i : Nat} (hi : i < row.length) : rs.nl = false := by
  obtain ⟨_, _, _, h⟩ := O.row.blk (i := i) (by simpa using hi); exact h
theorem natsV_set {l : List Nat} {i k : Nat} : (natsV l).set i (.int .i64 (k : Int)) = natsV (l.set i k) := by simp [natsV, List.map_set]
theorem intsV_set {l : List Int} {i : Nat} {k : Int} : (intsV l).set i (.int .i64 k) = intsV (l.set i k) := by simp [intsV, List.map_set]

theorem HeapO.setRow (O : HeapO h p row costs seats rs cs ss) {i : Nat} (hi : i < row.length) (k : Nat) :
    HeapO (hset h rs.b (rs.o + i) (.int .i64 (k : Int))) p (row.set i k) costs seats rs cs ss := by
  have hn := O.rnl hi
  refine ⟨O.blk.set_ne (O.pr hn), ?_, ?_, ?_, O.cnl, O.snl, O.pc, O.ps, O.csn, O.pr, O.rc, O.rss⟩
  · have := O.row.set (i := i) (v := .int .i64 (k : Int)) (by simpa using hi)
    rwa [natsV_set] at this
  · exact O.costs.mod (S := fun b => b = rs.b) (Mod.set rfl) (fun _ h => O.rc hn h.symm)
  · exact O.seats.mod (S := fun b => b = rs.b) (Mod.set rfl) (fun _ h => O.rss hn h.symm)

theorem HeapO.setSeat (O : HeapO h p row costs seats rs cs ss) {i : Nat} (hi : i < seats.length) (k : Nat) :
    HeapO (hset h ss.b (ss.o + i) (.int .i64 (k : Int))) p row costs (seats.set i k) rs cs ss := by
  refine ⟨O.blk.set_ne O.ps, ?_, ?_, ?_, O.cnl, O.snl, O.pc, O.ps, O.csn, O.pr, O.rc, O.rss⟩
  · exact O.row.mod (S := fun b => b = ss.b) (Mod.set rfl) (fun hn h => O.rss hn h)
  · exact O.costs.mod (S := fun b => b = ss.b) (Mod.set rfl) (fun _ h => O.csn h)
  · have := O.seats.set (i := i) (v := .int .i64 (k : Int)) (by simpa using hi)
    rwa [natsV_set] at this

theorem HeapO.setCost (O : HeapO h p row costs seats rs cs ss) {i : Nat} (hi : i < costs.length) (k : Int) :
    HeapO (hset h cs.b (cs.o + i) (.int .i64 k)) p row (costs.set i k) seats rs cs ss := by
  refine ⟨O.blk.set_ne O.pc, ?_, ?_, ?_, O.cnl, O.snl, O.pc, O.ps, O.csn, O.pr, O.rc, O.rss⟩
  · exact O.row.mod (S := fun b => b = cs.b) (Mod.set rfl) (fun hn h => O.rc hn h)
  · have := O.costs.set (i := i) (v := .int .i64 k) (by simpa using hi)
    rwa [intsV_set] at this
  · exact O.seats.mod (S := fun b => b = cs.b) (Mod.set rfl) (fun _ h => O.csn h.symm)

theorem HeapO.rowF (O : HeapO h p row costs seats rs cs ss) {i : Nat} (hi : i < row.length) : hfz h rs.b (rs.o + i) = false := by
  obtain ⟨arr, hb, _, _⟩ := O.row.blk (i := i) (by simpa using hi); exact hb.hfz
theorem HeapO.seatF (O : HeapO h p row costs seats rs cs ss) {i : Nat} (hi : i < seats.length) : hfz h ss.b (ss.o + i) = false := by
  obtain ⟨arr, hb, _, _⟩ := O.seats.blk (i := i) (by simpa using hi); exact hb.hfz
theorem HeapO.costF (O : HeapO h p row costs seats rs cs ss) {i : Nat} (hi : i < costs.length) : hfz h cs.b (cs.o + i) = false := by
  obtain ⟨arr, hb, _, _⟩ := O.costs.blk (i := i) (by simpa using hi); exact hb.hfz

theorem nth_set_lt {l : List Nat} {i j k n : Nat} (hk : k < n) (h : ∀ i, i < l.length → nth l i < n) (hj : j < l.length) : nth (l.set i k) j < n := by
  have := h j hj
  simp only [nth, List.getD_eq_getElem?_getD, List.getElem?_set] at *
  split
  · split
    · exact hk
    · rename_i h1; exact absurd (by omega) h1
  · exact this

theorem swap_spec (H : Y.Has F.heap_Heap_swap S_heap_Heap_swap) (O : HeapO h p row costs seats rs cs ss) (hv : ∀ i, i < row.length → nth row i < seats.length) {i j : Nat} (hi : i < row.length) (hj : j < row.length) (hbig : row.length ≤ 1000000000)
    {R : Value → Heap → Prop} (hr : ∀ h', HeapO h' p (swapRow row i j) costs (swapSeats row seats i j) rs cs ss → Mod (fun b => b = rs.b ∨ b = ss.b) h h' → R (.tuple #[]) h') :
    CallP Y F.heap_Heap_swap [.pointer (some ⟨p, 0, none⟩), .int .i64 i, .int .i64 j] h R := by
  refine .of_has H rfl ?_
  have O1 := O.setRow hi (nth row j)
  have O2 : HeapO _ p (swapRow row i j) costs seats rs cs ss := O1.setRow (i := j) (by simpa using hj) (nth row i)
  have hv1 : ∀ k, k < (row.set i (nth row j)).length → nth (row.set i (nth row j)) k < seats.length := fun k hk => nth_set_lt (hv j hj) hv (by simpa using hk)
  have hv2 : ∀ k, k < (swapRow row i j).length → nth (swapRow row i j) k < seats.length := fun k hk => nth_set_lt (hv i hi) hv1 (by simpa [swapRow] using hk)
  have hvi := hv2 i (by simpa using hi)
  have hvj := hv2 j (by simpa using hj)
  have O3 := O2.setSeat hvi (i + 1)
  have O4 : HeapO _ p (swapRow row i j) costs (swapSeats row seats i j) rs cs ss := O3.setSeat (i := nth (swapRow row i j) j) (by simpa using hvj) (j + 1)
  have hi2 : i < (swapRow row i j).length := by simpa using hi
  have hj2 : j < (swapRow row i j).length := by simpa using hj
  have e1 := O.rowN
  have e2 := O.seatsN
  have w1 : IntKind.i64.wrap ((i : Int) + 1) = (i : Int) + 1 := i64_wrap (by omega)
  have w2 : IntKind.i64.wrap ((j : Int) + 1) = (j : Int) + 1 := i64_wrap (by omega)
  simp only [Int.natCast_add, Int.natCast_one] at O3 O4
  have hm : Mod (fun b => b = rs.b ∨ b = ss.b) h _ :=
    (((Mod.set (S := fun b => b = rs.b ∨ b = ss.b) (b := rs.b) (o := rs.o + i) (v := .int .i64 (nth row j : Int)) (.inl rfl)).trans (Mod.set (b := rs.b) (o := rs.o + j) (v := .int .i64 (nth row i : Int)) (.inl rfl))).trans
      (Mod.set (b := ss.b) (o := ss.o + nth (swapRow row i j) i) (v := .int .i64 ((i : Int) + 1)) (.inr rfl))).trans (Mod.set (b := ss.b) (o := ss.o + nth (swapRow row i j) j) (v := .int .i64 ((j : Int) + 1)) (.inr rfl))
  have hR := hr _ O4 hm
  simp [S_heap_Heap_swap, FnS.wp, O.p0, O.p2, O1.p0, O1.p2, O2.p0, O2.p2, O3.p0, O3.p2, sem_idxa O.row.ok, sem_idxa O.seats.ok, O.rowAt, O1.rowAt, O2.rowAt, O3.rowAt, e1, e2, hi, hj, hvi, hvj,
    StoreP.open, O.rowF, O1.rowF, O2.seatF, O3.seatF, O2.seatAt, O3.seatAt, w1, w2, hR]

theorem aheadB_klt {i j : Nat} : aheadB row costs i j = decide (klt costs (nth row i) (nth row j)) := by
  rw [Bool.eq_iff_iff, decide_eq_true_iff]
  unfold aheadB klt
  split
  · rw [decide_eq_true_iff]; omega
  · rw [decide_eq_true_iff]; omega

def UpI (p : Nat) (rs cs ss : Sl) (row : List Nat) (costs : List Int) (seats : List Nat) (h : Heap) (e : List Value) (h' : Heap) : Prop :=
  ∃ (i : Nat) (row' seats' : List Nat) (v : Value), e = [.pointer (some ⟨p, 0, none⟩), .int .i64 i, v] ∧ HeapO h' p row' costs seats' rs cs ss ∧ Valid row' seats'.length seats' ∧
      seats'.length = seats.length ∧ OrdU row' costs i ∧ i < row'.length ∧ row'.length = row.length ∧ (∀ k, nth seats' k = 0 ↔ nth seats k = 0) ∧ Mod (fun b => b = rs.b ∨ b = ss.b) h h'

theorem up_spec (H : Y.Has F.heap_Heap_up S_heap_Heap_up) (Ha : Y.Has F.heap_Heap_ahead S_heap_Heap_ahead) (Hs : Y.Has F.heap_Heap_swap S_heap_Heap_swap)
    (O : HeapO h p row costs seats rs cs ss) (V : Valid row seats.length seats) (hcl : costs.length = seats.length) {i : Nat} (U : OrdU row costs i) (hi : i < row.length) (hbig : row.length ≤ 1000000000)
    {R : Value → Heap → Prop} (hr : ∀ h' row' seats', HeapO h' p row' costs seats' rs cs ss → Valid row' seats'.length seats' → seats'.length = seats.length → Ord row' costs → row'.length = row.length →
      (∀ k, nth seats' k = 0 ↔ nth seats k = 0) → Mod (fun b => b = rs.b ∨ b = ss.b) h h' → R (.tuple #[]) h') :
    CallP Y F.heap_Heap_up [.pointer (some ⟨p, 0, none⟩), .int .i64 i] h R := by
  refine .of_has H rfl ?_
  simp [S_heap_Heap_up, FnS.wp]
  refine wp_loop' (UpI p rs cs ss row costs seats h) (fun e _ => argI e 1)
    ⟨i, row, seats, undef, rfl, O, V, rfl, U, hi, rfl, fun _ => Iff.rfl, Mod.refl h⟩ ?_
  rintro e h' ⟨i, row', seats', v, rfl, O, V, hsl, U, hi, hrl, hin, hm⟩
  have hpi : 0 < i → parent i < row'.length := fun h0 => by have := parent_lt h0; omega
  have w1 : IntKind.i64.wrap ((i : Int) - 1) = (i : Int) - 1 := i64_wrap (by omega)
  have w2 : 0 < i → ((i : Int) - 1).tdiv 2 = (parent i : Int) := by
    intro h0
    rw [Int.tdiv_eq_ediv_of_nonneg (by omega)]
    unfold parent; omega
  have w3 : IntKind.i64.wrap (parent i : Int) = (parent i : Int) := i64_wrap (by unfold parent; omega)
  by_cases h0 : 0 < i
  · have w2 := w2 h0
    simp [h0, w1, w2, w3, ib_quo]
    refine ahead_spec Ha O (fun k hk => by have := V.rv k hk; omega) hi (hpi h0) ?_
    rw [aheadB_klt]
    by_cases hk : klt costs (nth row' i) (nth row' (parent i))
    · simp [hk, w1, w2, w3, ib_quo]
      refine swap_spec Hs O V.rv hi (hpi h0) (by omega) ?_
      intro h2 O2 hm2
      simp [w1, w2, w3, ib_quo]
      refine ⟨⟨parent i, _, _, .bool true, by simp [w1, w2, w3], O2, ?_, ?_, U.step h0 hi hk, ?_, ?_, ?_, hm.trans hm2⟩, ?_⟩
      · have := V.swap hi (hpi h0); simpa using this
      · simpa using hsl
      · simpa using hpi h0
      · simpa using hrl
      · intro k; rw [swap_in V hi (hpi h0)]; exact hin k
      · simp [argI]; exact parent_lt h0
    · rw [decide_eq_false hk]
      exact hr h' row' seats' O V hsl (U.fin fun _ => hk) hrl hin hm
  · simp [h0]
    exact hr h' row' seats' O V hsl (U.fin fun h => absurd h h0) hrl hin hm

def DownI (p : Nat) (rs cs ss : Sl) (row : List Nat) (costs : List Int) (seats : List Nat) (h : Heap) (e : List Value) (h' : Heap) : Prop :=
  ∃ (i : Nat) (row' seats' : List Nat) (v2 v3 v4 v5 v6 : Value), e = [.pointer (some ⟨p, 0, none⟩), .int .i64 i, v2, v3, v4, v5, v6] ∧ HeapO h' p row' costs seats' rs cs ss ∧ Valid row' seats'.length seats' ∧
      seats'.length = seats.length ∧ OrdD row' costs i ∧ (i < row'.length ∨ (row'.length = 0 ∧ i = 0)) ∧ row'.length = row.length ∧ (∀ k, nth seats' k = 0 ↔ nth seats k = 0) ∧ Mod (fun b => b = rs.b ∨ b = ss.b) h h'

/-- the least of place i and those below it that have been looked at -/
structure Least (row : List Nat) (costs : List Int) (i j l : Nat) : Prop where
  lo : 2 * i + 1 ≤ j
  hi : j ≤ 2 * i + 3
  pl : l = i ∨ (parent l = i ∧ 0 < l ∧ l < row.length ∧ klt costs (nth row l) (nth row i))
  m : ∀ c, 0 < c → c < row.length → c < j → parent c = i → ¬ klt costs (nth row c) (nth row l)
  mi : ¬ klt costs (nth row i) (nth row l)

theorem Least.start {i : Nat} : Least row costs i (2 * i + 1) i :=
  ⟨Nat.le_refl _, by omega, .inl rfl, fun c h0 _ hj hp => by unfold parent at hp; omega, klt_irrefl⟩

theorem Least.step {i j l : Nat} (L : Least row costs i j l) (hj : j ≤ 2 * i + 2) (hl : j < row.length) :
    Least row costs i (j + 1) (if klt costs (nth row j) (nth row l) then j else l) := by
  have hpj : parent j = i := by have := L.lo; unfold parent; omega
  have h0 : 0 < j := by have := L.lo; omega
  by_cases hk : klt costs (nth row j) (nth row l)
  · rw [if_pos hk]
    have hji : klt costs (nth row j) (nth row i) := by
      have := L.mi
      unfold klt at *; omega
    refine ⟨by have := L.lo; omega, by omega, .inr ⟨hpj, h0, hl, hji⟩, ?_, fun h => klt_irrefl (klt_trans h hji)⟩
    intro c hc0 hc hcj hcp
    by_cases hcj' : c = j
    · subst hcj'; exact klt_irrefl
    · exact klt_kle hk (L.m c hc0 hc (by omega) hcp)
  · rw [if_neg hk]
    refine ⟨by have := L.lo; omega, by omega, L.pl, ?_, L.mi⟩
    intro c hc0 hc hcj hcp
    by_cases hcj' : c = j
    · subst hcj'; exact hk
    · exact L.m c hc0 hc (by omega) hcp

def DownJ (p : Nat) (row : List Nat) (costs : List Int) (i : Nat) (v6 : Value) (h0 : Heap) (e : List Value) (h' : Heap) : Prop :=
  ∃ (j l : Nat) (v4 v5 : Value), e = [.pointer (some ⟨p, 0, none⟩), .int .i64 i, .int .i64 l, .int .i64 j, v4, v5, v6] ∧ Least row costs i j l ∧ h' = h0

theorem down_spec (H : Y.Has F.heap_Heap_down S_heap_Heap_down) (Ha : Y.Has F.heap_Heap_ahead S_heap_Heap_ahead) (Hs : Y.Has F.heap_Heap_swap S_heap_Heap_swap)
    (O : HeapO h p row costs seats rs cs ss) (V : Valid row seats.length seats) (hcl : costs.length = seats.length) (U : OrdD row costs 0) (hbig : row.length ≤ 1000000000)
    {R : Value → Heap → Prop} (hr : ∀ h' row' seats', HeapO h' p row' costs seats' rs cs ss → Valid row' seats'.length seats' → seats'.length = seats.length → Ord row' costs → row'.length = row.length →
      (∀ k, nth seats' k = 0 ↔ nth seats k = 0) → Mod (fun b => b = rs.b ∨ b = ss.b) h h' → R (.tuple #[]) h') :
    CallP Y F.heap_Heap_down [.pointer (some ⟨p, 0, none⟩), .int .i64 0] h R := by
  refine .of_has H rfl ?_
  simp [S_heap_Heap_down, FnS.wp]
  refine wp_loop' (DownI p rs cs ss row costs seats h) (fun e _ => row.length - argI e 1)
    ⟨0, row, seats, _, _, _, _, _, rfl, O, V, rfl, U, by omega, rfl, fun _ => Iff.rfl, Mod.refl h⟩ ?_
  rintro e h' ⟨i, row', seats', v2, v3, v4, v5, v6, rfl, O, V, hsl, U, hi, hrl, hin, hm⟩
  have w1 : IntKind.i64.wrap (2 * (i : Int)) = 2 * (i : Int) := i64_wrap (by omega)
  have w2 : IntKind.i64.wrap (2 * (i : Int) + 1) = 2 * (i : Int) + 1 := i64_wrap (by omega)
  have w3 : IntKind.i64.wrap (2 * (i : Int) + 2) = 2 * (i : Int) + 2 := i64_wrap (by omega)
  simp [w1, w2]
  refine wp_loop' (DownJ p row' costs i v6 h') (fun e _ => 2 * i + 3 - argI e 3) ⟨2 * i + 1, i, v4, v5, by simp, Least.start, rfl⟩ ?_
  rintro e h'' ⟨j, l, v4, v5, rfl, L, rfl⟩
  have hlo := L.lo
  have hhi := L.hi
  have w4 : IntKind.i64.wrap ((j : Int) + 1) = (j : Int) + 1 := i64_wrap (by omega)
  -- the loop's end: the least of all that stand below
  have fin : (¬ j ≤ 2 * i + 2 ∨ ¬ j < row'.length) →
      (∀ j', 0 < j' → j' < row'.length → parent j' = i → ¬ klt costs (nth row' j') (nth row' l)) := by
    intro hend c hc0 hc hp
    refine L.m c hc0 hc ?_ hp
    have : c ≤ 2 * i + 2 := by unfold parent at hp; omega
    omega
  by_cases c : j ≤ 2 * i + 2 ∧ j < row'.length
  · obtain ⟨c1, c2⟩ := c
    have c1' : (j : Int) ≤ 2 * (i : Int) + 2 := by omega
    have hll : l < row'.length := by rcases L.pl with h | h <;> omega
    simp [w1, w3, c1', O.p0, O.rowN, c2]
    refine ahead_spec Ha O (fun k hk => by have := V.rv k hk; omega) c2 hll ?_
    rw [aheadB_klt]
    have L' := L.step c1 c2
    by_cases hk : klt costs (nth row' j) (nth row' l)
    · rw [if_pos hk] at L'
      simp [hk, w4]
      exact ⟨⟨j + 1, j, .bool true, .bool true, by simp, L', rfl⟩, by simp [argI]; omega⟩
    · rw [if_neg hk] at L'
      simp [hk, w4]
      exact ⟨⟨j + 1, l, .bool true, .bool false, by simp, L', rfl⟩, by simp [argI]; omega⟩
  · have hmin := fin (by omega)
    have last : (if l = i then R (.tuple #[]) h'' else CallP Y F.heap_Heap_swap [.pointer (some ⟨p, 0, none⟩), .int .i64 i, .int .i64 l] h'' fun _ h' =>
        ∀ v4 v5 v6 : Value, DownI p rs cs ss row costs seats h [.pointer (some ⟨p, 0, none⟩), .int .i64 l, .int .i64 l, .int .i64 j, v4, v5, v6] h' ∧ row.length - l < row.length - i) := by
      split
      · rename_i hli
        subst hli
        exact hr _ row' seats' O V hsl (U.fin hmin) hrl hin hm
      · rename_i hli
        obtain ⟨hp, hl0, hll, hlt⟩ := L.pl.resolve_left hli
        have hil : i < l := by have := parent_lt hl0; omega
        refine swap_spec Hs O V.rv (by omega) hll (by omega) ?_
        intro h2 O2 hm2 v4 v5 v6
        refine ⟨⟨l, _, _, _, _, _, _, _, rfl, O2, ?_, ?_, U.step hl0 hll hp hlt hmin, .inl ?_, ?_, ?_, hm.trans hm2⟩, by omega⟩
        · have := V.swap (i := i) (j := l) (by omega) hll; simpa using this
        · simpa using hsl
        · simpa using hll
        · simpa using hrl
        · intro k; rw [swap_in V (by omega) hll]; exact hin k
    have hli : (((l : Nat) : Int) = (i : Int)) ↔ l = i := by omega
    rcases (show ¬ j ≤ 2 * i + 2 ∨ (j ≤ 2 * i + 2 ∧ ¬ j < row'.length) by omega) with c1 | ⟨c1, c2⟩
    · have c1' : ¬ (j : Int) ≤ 2 * (i : Int) + 2 := by omega
      simp [w1, w3, c1', hli]
      by_cases hl : l = i
      · rw [if_pos hl] at last ⊢; exact last
      · rw [if_neg hl] at last ⊢
        exact CallP.mono last fun _ h' hh => ⟨(hh _ _ _).1, by simpa [argI] using (hh undef undef undef).2⟩
    · have c1' : (j : Int) ≤ 2 * (i : Int) + 2 := by omega
      simp [w1, w3, c1', O.p0, O.rowN, c2, hli]
      by_cases hl : l = i
      · rw [if_pos hl] at last ⊢; exact last
      · rw [if_neg hl] at last ⊢
        exact CallP.mono last fun _ h' hh => ⟨(hh _ _ _).1, by simpa [argI] using (hh undef undef undef).2⟩
end
end Go.Rm
