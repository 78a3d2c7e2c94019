import Derived.Test.YtgmbpmnbpakhbaaGreatDoorRGate5

/- Gates: rows that grow, two to a cell; the program's Of. -/
set_option linter.unusedSimpArgs false
set_option linter.unusedVariables false
namespace Go.Rm

def b2n (x : Bool) : Nat := if x then 1 else 0
/-- a row of cells: two rows of numbers each -/
def uArr (n : Nat) (Q : Bool → Nat → Sl) : Array Value := ((List.range (n * 2)).map fun j => (Q (decide (j % 2 = 1)) (j / 2)).v).toArray
@[simp] theorem uArr_size {n : Nat} {Q : Bool → Nat → Sl} : (uArr n Q).size = n * 2 := by simp [uArr]
theorem uArr_get {n c : Nat} {Q : Bool → Nat → Sl} {x : Bool} (hc : c < n) : (uArr n Q)[c * 2 + b2n x]? = some (Q x c).v := by
  have h1 : (c * 2 + b2n x) / 2 = c := by unfold b2n; split <;> omega
  have h2 : decide ((c * 2 + b2n x) % 2 = 1) = x := by unfold b2n; cases x <;> simp <;> omega
  have h3 : c * 2 + b2n x < n * 2 := by unfold b2n; split <;> omega
  have h4 : decide (b2n x % 2 = 1) = x := by cases x <;> rfl
  simp [uArr, h3, h1, h2, h4]
def updQ (Q : Bool → Nat → Sl) (x : Bool) (c : Nat) (s : Sl) : Bool → Nat → Sl := fun y v => if y = x ∧ v = c then s else Q y v
def updD (D : Bool → Nat → List Int) (x : Bool) (c : Nat) (a : Int) : Bool → Nat → List Int := fun y v => if y = x ∧ v = c then D x c ++ [a] else D y v
theorem uArr_set {n c : Nat} {Q : Bool → Nat → Sl} {x : Bool} {s : Sl} (hc : c < n) : (uArr n Q).setIfInBounds (c * 2 + b2n x) s.v = uArr n (updQ Q x c s) := by
  apply Array.ext
  · simp
  · intro j h1 h2
    simp only [uArr_size] at h2
    rw [Array.getElem_setIfInBounds (by simpa using h1)]
    have hx : b2n x ≤ 1 := by unfold b2n; split <;> omega
    simp only [uArr, updQ, List.getElem_toArray, List.getElem_map, List.getElem_range]
    by_cases e : c * 2 + b2n x = j
    · subst e
      have h1 : (c * 2 + b2n x) / 2 = c := by omega
      have h2 : decide ((c * 2 + b2n x) % 2 = 1) = x := by unfold b2n; cases x <;> simp <;> omega
      rw [if_pos rfl, h1, h2, if_pos ⟨rfl, rfl⟩]
    · rw [if_neg e, if_neg]
      rintro ⟨q1, q2⟩
      apply e
      unfold b2n
      cases x with
      | false => have : ¬ j % 2 = 1 := by simpa using q1
                 simp; omega
      | true => have : j % 2 = 1 := by simpa using q1
                simp; omega

structure Fam (lo : Nat) (h : Heap) (n : Nat) (Q : Bool → Nat → Sl) (D : Bool → Nat → List Int) : Prop where
  own : ∀ x v, v < n → Own h 1 (Q x v) (ints64 (D x v))
  fr : ∀ x v, v < n → (Q x v).nl = false → lo ≤ (Q x v).b
  dj : ∀ x u y v, u < n → v < n → (x ≠ y ∨ u ≠ v) → (Q x u).nl = false → (Q y v).nl = false → (Q x u).b ≠ (Q y v).b

section
variable {Y : Sys} {h h' : Heap}

theorem Fam.none {lo n : Nat} : Fam lo h n (fun _ _ => Sl.nil) (fun _ _ => []) := ⟨fun _ _ _ => Own.nil, fun _ _ _ hn => (by cases hn), fun _ _ _ _ _ _ _ hn => (by cases hn)⟩
theorem Fam.mod {S : Nat → Prop} {lo n : Nat} {Q : Bool → Nat → Sl} {D : Bool → Nat → List Int} (q : Fam lo h n Q D) (m : Mod S h h') (hs : ∀ x v, v < n → (Q x v).nl = false → ¬ S (Q x v).b) : Fam lo h' n Q D :=
  ⟨fun x v hv => (q.own x v hv).mod m (hs x v hv), q.fr, q.dj⟩
theorem Fam.ext {lo n : Nat} {Q : Bool → Nat → Sl} {D : Bool → Nat → List Int} (q : Fam lo h n Q D) (m : Ext h h') : Fam lo h' n Q D := q.mod m fun _ _ _ _ h => h
/-- one row grows -/
theorem Fam.step {lo n t : Nat} {Q : Bool → Nat → Sl} {D : Bool → Nat → List Int} {x : Bool} {s' : Sl} {a : Int} (q : Fam lo h n Q D) (ht : t < n) (hlo : lo ≤ h.size) (o : Own h' 1 s' (ints64 (D x t) ++ [.int .i64 a])) (m : Mod (fun j => (Q x t).nl = false ∧ j = (Q x t).b) h h')
    (hs : (s'.b = (Q x t).b ∧ s'.nl = (Q x t).nl) ∨ (h.size ≤ s'.b ∧ s'.nl = false)) : Fam lo h' n (updQ Q x t s') (updD D x t a) := by
  unfold updQ updD
  refine ⟨fun y v hv => ?_, fun y v hv hn => ?_, fun y u z v hu hv hne h1 h2 => ?_⟩
  · by_cases c : y = x ∧ v = t
    · obtain ⟨rfl, rfl⟩ := c
      simp only [and_self, if_true]
      simpa [ints64] using o
    · simp only [if_neg c]
      have hc : y ≠ x ∨ v ≠ t := by
        rcases Decidable.em (y = x) with e | e
        · exact .inr fun e2 => c ⟨e, e2⟩
        · exact .inl e
      exact (q.own y v hv).mod m fun hn hb => q.dj y v x t hv ht hc hn hb.1 hb.2
  · by_cases c : y = x ∧ v = t
    · simp only [if_pos c] at hn ⊢
      rcases hs with ⟨e1, e2⟩ | ⟨e1, _⟩
      · rw [e1]; exact q.fr x t ht (by rw [← e2]; exact hn)
      · omega
    · simp only [if_neg c] at hn ⊢
      exact q.fr y v hv hn
  · have lt : ∀ y v, v < n → (Q y v).nl = false → (Q y v).b < h.size := fun y v hv hn => (q.own y v hv).lt hn
    by_cases c : y = x ∧ u = t
    · by_cases d : z = x ∧ v = t
      · obtain ⟨rfl, rfl⟩ := c
        obtain ⟨rfl, rfl⟩ := d
        rcases hne with e | e <;> exact absurd rfl e
      · simp only [if_pos c] at h1 ⊢
        simp only [if_neg d] at h2 ⊢
        obtain ⟨rfl, rfl⟩ := c
        rcases hs with ⟨e1, e2⟩ | ⟨e1, _⟩
        · rw [e1]; exact q.dj y u z v hu hv hne (by rw [← e2]; exact h1) h2
        · have := lt z v hv h2; omega
    · by_cases d : z = x ∧ v = t
      · simp only [if_neg c] at h1 ⊢
        simp only [if_pos d] at h2 ⊢
        obtain ⟨rfl, rfl⟩ := d
        rcases hs with ⟨e1, e2⟩ | ⟨e1, _⟩
        · rw [e1]; exact q.dj y u z v hu hv hne h1 (by rw [← e2]; exact h2)
        · have := lt y u hu h1; omega
      · simp only [if_neg c] at h1 ⊢
        simp only [if_neg d] at h2 ⊢
        exact q.dj y u z v hu hv hne h1 h2

/-- rows behind a row of cells, all of them at or behind lo, the row of cells elsewhere -/
structure Cel (lo U : Nat) (h : Heap) (n : Nat) (Q : Bool → Nat → Sl) (D : Bool → Nat → List Int) : Prop where
  blk : Blk h U (uArr n Q)
  fam : Fam lo h n Q D
  ult : U < lo
/-- append(cell.row, a) -/
theorem Cel.app {K : Value → Heap → Prop} {lo U n c : Nat} {Q : Bool → Nat → Sl} {D : Bool → Nat → List Int} {x : Bool} {a : Int} (q : Cel lo U h n Q D) (hc : c < n) (hlo : lo ≤ h.size) (hsm : (D x c).length ≤ 1000000) {z : Value} {b : Nat} (V : Blk h b #[.int .i64 a])
    (hk : ∀ (s' : Sl) (h' : Heap), Mod (fun j => j = U ∨ lo ≤ j) h h' → Blk h' U (uArr n Q) → (∀ h'', Blk h'' U ((uArr n Q).setIfInBounds (c * 2 + b2n x) s'.v) → Mod (fun j => j = U) h' h'' → Cel lo U h'' n (updQ Q x c s') (updD D x c a)) → K s'.v h') :
    Ef.wp h K (.append 1 8 #[z]) [(Q x c).v, .slice (some ⟨b, 0, none⟩) 1 1] := by
  have o := q.fam.own x c hc
  have hn := o.1
  simp at hn
  have lU := q.blk.lt
  refine ef_append1b (bytes := 8) rfl o V (by omega) (by omega) ?_
  intro s' h1 o1 hn1 m1 hs1
  have fr : (Q x c).nl = false → lo ≤ (Q x c).b := fun hn => q.fam.fr x c hc hn
  have B1 := m1.blk q.blk (fun hq => by have := fr hq.1; have := q.ult; omega)
  refine hk s' h1 (m1.mono (fun j hj hq => by have := fr hq.1; omega)) B1 ?_
  intro h2 B2 m2
  have f1 := q.fam.step hc hlo o1 m1 hs1
  rw [uArr_set hc] at B2
  refine ⟨B2, f1.mod m2 (fun y v hv hn => ?_), q.ult⟩
  have := f1.fr y v hv hn
  have := q.ult
  omega

/-- cells in memory -/
structure CellsH (h : Heap) (u : Sl) (n : Nat) (D : Bool → Nat → List Int) : Prop where
  ok : u.ok
  len : u.n = n
  val : ∀ x c, c < n → ∃ s : Sl, hc h u.b (u.o + c * 2 + b2n x) = some s.v ∧ Row64 h s (D x c)
theorem CellsH.ext {u : Sl} {n : Nat} {D : Bool → Nat → List Int} (c : CellsH h u n D) (e : Ext h h') : CellsH h' u n D :=
  ⟨c.ok, c.len, fun x k hk => by
    obtain ⟨s, a, b⟩ := c.val x k hk
    exact ⟨s, e.hc a (fun h => h), b.ext e⟩⟩
theorem Cel.cells {lo U n : Nat} {Q : Bool → Nat → Sl} {D : Bool → Nat → List Int} (q : Cel lo U h n Q D) : CellsH h (Sl.at U n n) n D :=
  ⟨⟨fun h => (by cases h), Nat.le_refl _, .inl rfl⟩, rfl, fun x c hc => ⟨Q x c, by rw [Sl.at_b, Sl.at_o, Nat.zero_add, q.blk.hc]; exact uArr_get hc, (q.fam.own x c hc).row64⟩⟩

/-- the arcs among x that enter (b: leave) a cell -/
def gateC (N : NetD) (row : List Int) (l : List Int) (b : Bool) (c : Nat) : List Int := l.filter fun a => decide (nthI row (if b then (nthT N.as a.toNat).a.toNat else (nthT N.as a.toNat).b.toNat) = (c : Int))
def gateD (N : NetD) (L : List (List Int)) (i : Nat) : Bool → Nat → List Int := gateC N (nthL L i) (crossL N L ((i : Int) + 1))
def gateN (L : List (List Int)) (i : Nat) : Nat := (mostI (nthL L i)).toNat
structure GatesH (h : Heap) (s : Sl) (N : NetD) (L : List (List Int)) : Prop where
  ok : s.ok
  len : L.length = s.n
  val : ∀ i, i < L.length → ∃ u : Sl, hc h s.b (s.o + i) = some u.v ∧ CellsH h u (gateN L i) (gateD N L i)
theorem GatesH.ext {s : Sl} {N : NetD} {L : List (List Int)} (g : GatesH h s N L) (e : Ext h h') : GatesH h' s N L :=
  ⟨g.ok, g.len, fun i hi => by
    obtain ⟨u, a, b⟩ := g.val i hi
    exact ⟨u, e.hc a (fun h => h), b.ext e⟩⟩

theorem gateC_step {N : NetD} {row l : List Int} {i x y : Nat} {a : Int} (hi : i < l.length) (ha : nthI l i = a) (hx : nthI row (nthT N.as a.toNat).a.toNat = x) (hy : nthI row (nthT N.as a.toNat).b.toNat = y) :
    gateC N row (l.take (i + 1)) = updD (updD (gateC N row (l.take i)) false y a) true x a := by
  funext b c
  have hl : l.take (i + 1) = l.take i ++ [a] := by rw [List.take_succ_eq_append_getElem hi, ← ha]; simp [nthI, hi]
  unfold gateC updD
  rw [hl, List.filter_append]
  cases b with
  | false =>
    simp only [Bool.false_eq_true, false_and, if_false, true_and]
    by_cases e : c = y
    · subst e
      simp [hy]
    · have : ¬ (y : Int) = (c : Int) := by omega
      simp [hy, e, this]
  | true =>
    simp only [if_true, true_and]
    by_cases e : c = x
    · subst e
      simp [hx]
    · have : ¬ (x : Int) = (c : Int) := by omega
      simp [hx, e, this]
theorem zeros_2v {v : Value} {m : Nat} : zeros #[v, v] m = Array.replicate m v := by
  apply Array.ext
  · simp [zeros]
  · intro i h1 h2
    have h2 : i < m := by simpa [zeros] using h1
    have : i % 2 = 0 ∨ i % 2 = 1 := by omega
    rcases this with e | e <;> simp [zeros, e]
theorem uArr_none {n : Nat} : Array.replicate (n * 2) (Value.slice none 0 0) = uArr n (fun _ _ => Sl.nil) := by
  apply Array.ext
  · simp
  · intro i h1 h2
    simp [uArr, Sl.nil_v]
theorem ef_make2s {K : Value → Heap → Prop} {n : Nat} {m : Int} (hn : n ≤ 1000000) (hm : m = n) (hr : ∀ (b : Nat) (h' : Heap), h.size ≤ b → Blk h' b (uArr n (fun _ _ => Sl.nil)) → Ext h h' → K (.slice (some ⟨b, 0, none⟩) n n) h') :
    Ef.wp h K (.mkslice 2 48 #[.slice none 0 0, .slice none 0 0]) [.int .i64 m, .int .i64 m] := by
  subst hm
  rw [ef_mkslice]
  refine ⟨by omega, by omega, by omega, by omega, fun t => ?_⟩
  simp only [Int.toNat_natCast, zeros_2v, uArr_none]
  exact hr h.size _ (Nat.le_refl _) Blk.new Mod.push
theorem ef_make1s {K : Value → Heap → Prop} {n : Nat} {m : Int} (hn : n ≤ 1000000) (hm : m = n) (hr : ∀ (b : Nat) (h' : Heap), h.size ≤ b → Own h' 1 (Sl.at b n n) (List.replicate n (.slice none 0 0)) → Ext h h' → b < h'.size → K (.slice (some ⟨b, 0, none⟩) n n) h') :
    Ef.wp h K (.mkslice 1 24 #[.slice none 0 0]) [.int .i64 m, .int .i64 m] := by
  subst hm
  rw [ef_mkslice]
  refine ⟨by omega, by omega, by omega, by omega, fun t => ?_⟩
  simp only [Int.toNat_natCast, Nat.mul_one, zeros_one]
  refine hr h.size _ (Nat.le_refl _) ⟨by simp, .inr ⟨rfl, rfl, rfl, Nat.le_refl _, by simp; omega, _, Blk.new, by simp, by simp⟩⟩ Mod.push (by simp)
/-- a cell is stored into a row that begins at the head of its block -/
theorem st1o {K : Value → Heap → Prop} {b n m k : Nat} {cells : List Value} {v : Value} (o : Own h 1 (Sl.at b n m) cells) (hk : k < cells.length)
    (hr : ∀ h', Own h' 1 (Sl.at b n m) (cells.set k v) → Mod (fun j => j = b) h h' → K undef h') : StoreP h b k v K := by
  rw [StoreP.open]
  obtain ⟨arr, hb, hlt, _⟩ := o.blk hk
  have o1 := o.set (v := v) hk
  simp at o1 hlt hb
  refine ⟨by rw [hb.hc]; simp [hlt], hb.hfz, hr _ o1 (Mod.set rfl)⟩
end
end Go.Rm

/- Gates: the program's Of. -/
set_option linter.unusedSimpArgs false
set_option linter.unusedVariables false
namespace Go.Rm
section
variable {Y : Sys} {h h' : Heap}

@[simp] theorem ef_store_slc {K : Value → Heap → Prop} {b o : Nat} {x : Option Addr} {n c : Nat} : Ef.wp h K (.store 1) [.pointer (some ⟨b, o, none⟩), .slice x n c] = StoreP h b o (.slice x n c) K := ef_store1_eq rfl
/-- cells that stay, whatever is done to one block -/
def KeptC (lo ob : Nat) (h : Heap) (u : Sl) (n : Nat) (D : Bool → Nat → List Int) : Prop := ∀ h', Mod (fun j => j = ob ∨ j < lo) h h' → CellsH h' u n D
theorem KeptC.step {lo ob n : Nat} {u : Sl} {D : Bool → Nat → List Int} (k : KeptC lo ob h u n D) (m : Mod (fun j => j = ob) h h') : KeptC lo ob h' u n D := fun h'' m' => k h'' ((m.mono fun _ _ h => .inl h).trans m')
theorem KeptC.ext {lo ob n : Nat} {u : Sl} {D : Bool → Nat → List Int} (k : KeptC lo ob h u n D) (m : Ext h h') : KeptC lo ob h' u n D := k.step (m.mono (fun _ _ h => h.elim))
theorem Cel.kept {lo' lo U n ob : Nat} {Q : Bool → Nat → Sl} {D : Bool → Nat → List Int} (q : Cel lo U h n Q D) (h1 : ob ≠ U) (h2 : ob < lo) (h3 : lo' ≤ lo) (h4 : lo' ≤ U) : KeptC lo' ob h (Sl.at U n n) n D := by
  intro h' m
  refine Cel.cells (lo := lo) (Q := Q) ⟨m.blk q.blk (fun e => by omega), q.fam.mod m (fun x v hv hn e => ?_), q.ult⟩
  have := q.fam.fr x v hv hn
  omega

structure GateOf (Y : Sys) : Prop where
  R : RimFns Y
  P : PartCk Y
  Of : Y.Has F.gate_Of S_gate_Of

theorem cells_row {N : NetD} {L : List (List Int)} (pk : PartOK N.vs.length L) {i : Nat} (hi : i < L.length) : (nthL L i).length = N.vs.length ∧ (mostI (nthL L i) = (gateN L i : Nat)) ∧ gateN L i ≤ 4096 ∧ ∀ v, v < N.vs.length → ∃ c : Nat, nthI (nthL L i) v = c ∧ c < gateN L i := by
  obtain ⟨z1, z2, z3, z4⟩ := lvE_zero (pk.lv i hi)
  have bn := pk.bn
  obtain ⟨m1, m2, m3⟩ := mostI_all (l := nthL L i) (n := (N.vs.length : Int)) (by omega) (fun j hj => by have := (z2 j (by omega)).2; omega)
  have hg : mostI (nthL L i) = (gateN L i : Nat) := by unfold gateN; omega
  refine ⟨z1, hg, by omega, fun v hv => ?_⟩
  have := z2 v hv
  have := m3 v (by omega)
  exact ⟨(nthI (nthL L i) v).toNat, by omega, by omega⟩
theorem gateC_len {N : NetD} {row l : List Int} {b : Bool} {c : Nat} : (gateC N row l b c).length ≤ l.length := List.length_filter_le ..
theorem crossL_len {N : NetD} {L : List (List Int)} {l : Int} : (crossL N L l).length ≤ N.as.length := by unfold crossL; rw [idxF_len]; exact List.length_filter_le ..
theorem crossL_at {N : NetD} {L : List (List Int)} {l : Int} {j : Nat} (hj : j < (crossL N L l).length) : ∃ a : Nat, nthI (crossL N L l) j = a ∧ a < N.as.length := by
  have hm : nthI (crossL N L l) j ∈ crossL N L l := by rw [show nthI (crossL N L l) j = (crossL N L l)[j] by simp [nthI, hj]]; exact List.getElem_mem hj
  have hv := (mem_crossL.1 hm).1
  simp [vtxB] at hv
  exact ⟨(nthI (crossL N L l) j).toNat, by omega, by omega⟩
theorem lvl_at {L : List (List Int)} {i : Nat} (hi : i < L.length) : lvl L ((i : Int) + 1) = nthL L i := by
  have : hasB L ((i : Int) + 1) = true := by simp [hasB]; omega
  simp [lvl, this]

def GoI (p B ob : Nat) (s : Sl) (N : NetD) (L : List (List Int)) (h0 : Heap) (e : List Value) (h' : Heap) : Prop :=
  ∃ (i : Nat) (vals : List Value) (v1 v3 v5 v6 v7 v8 v9 v10 v11 v15 v16 v17 v18 v19 : Value), e = [.pointer (some ⟨p, 0, none⟩), v1, .pointer (some ⟨B, 0, none⟩), v3, .slice (some ⟨ob, 0, none⟩) s.n s.n, v5, v6, v7, v8, v9, v10, v11, s.v, .int .i64 s.n, .int .i64 i, v15, v16, v17, v18, v19] ∧ i ≤ s.n ∧ Own h' 1 (Sl.at ob s.n s.n) vals ∧ vals.length = s.n ∧ (∀ k, k < i → ∃ u : Sl, vals[k]? = some u.v ∧ KeptC h0.size ob h' u (gateN L k) (gateD N L k)) ∧ Mod (fun j => j = ob) h0 h'
def GoJ (p B ob U n k : Nat) (s w t : Sl) (N : NetD) (row x : List Int) (h0 : Heap) (e : List Value) (h' : Heap) : Prop :=
  ∃ (i : Nat) (Q : Bool → Nat → Sl) (v1 v3 v8 v9 v10 v11 v15 v19 : Value), e = [.pointer (some ⟨p, 0, none⟩), v1, .pointer (some ⟨B, 0, none⟩), v3, .slice (some ⟨ob, 0, none⟩) s.n s.n, .int .i64 k, w.v, .slice (some ⟨U, 0, none⟩) n n, v8, v9, v10, v11, s.v, .int .i64 s.n, .int .i64 k, v15, t.v, .int .i64 t.n, .int .i64 i, v19] ∧ i ≤ t.n ∧ Cel h0.size U h' n Q (gateC N row (x.take i)) ∧ Mod (fun j => j = U) h0 h'

theorem gateofF_spec (G : GateOf Y) {p : Nat} {N : NetD} {S : Nat → Prop} {L : List (List Int)} {s : Sl} (g : GraphA h p N S) (r : RowL h s L) (ok : NetOK N) (pk : PartOK N.vs.length L) {R : Value → Heap → Prop}
    (hr : ∀ h' t, Ext h h' → (∀ g, Mod (fun j => j < h.size) h' g → GatesH g t N L) → R t.v h') : CallP Y F.gate_Of [.pointer (some ⟨p, 0, none⟩), ptV s] h R := by
  refine .of_has G.Of rfl ?_
  have lL := r.len
  have bL := pk.bL
  have cc := CellsOf.of ok pk
  have bA := ok.ba
  simp [S_gate_Of, FnS.wp, ptV]
  refine ef_new_box ?_
  intro B h1 g1 B1 e1
  simp [rd_blk B1]
  refine gverts_spec G.R.G.Verts (g.ext e1) ?_
  simp [rd_blk B1]
  refine pcheck_spec G.P (r.ext e1) pk ?_
  intro h2 e2
  have B2 := B1.ext e2
  simp [B2.hc]
  refine ef_make1s (n := s.n) (by omega) rfl ?_
  intro ob h3 g3 o3 e3 l3
  have x3 := (e1.trans e2).trans e3
  have z1 := e1.size
  have z2 := e2.size
  have z3 := e3.size
  have B3 := B2.ext e3
  have lB := B1.lt
  simp [B3.hc]
  refine wp_loop' (GoI p B ob s N L h3) (fun e _ => s.n - argI e 14) ⟨0, List.replicate s.n (.slice none 0 0), _, _, _, _, _, _, _, _, _, _, _, _, _, _, rfl, by omega, o3, by simp, fun k hk => by omega, Mod.refl _⟩ ?_
  rintro e h4 ⟨i, vals, v1, v3, v5, v6, v7, v8, v9, v10, v11, v15, v16, v17, v18, v19, rfl, hi, o4, hvl, hk4, m4⟩
  have x4 : Ext h h4 := Mod.ext x3 m4 (fun j hj => by omega)
  have B4 := m4.blk B3 (by omega)
  have z4 := m4.size
  by_cases c : i < s.n
  rotate_left
  · have c' : ¬ (i : Int) < s.n := by omega
    simp [c']
    have : R (Sl.at ob s.n s.n).v h4 := by
      refine hr h4 (Sl.at ob s.n s.n) x4 (fun g mg => ⟨o4.ok, lL, fun k hk => ?_⟩)
      obtain ⟨u, hu, hc⟩ := hk4 k (by omega)
      refine ⟨u, ?_, hc g (mg.mono fun j _ hj => .inr (by omega))⟩
      have := (o4.mod mg (fun _ hb => by simp at hb; omega)).cell hu
      simpa using this
    simpa using this
  have c' : (i : Int) < s.n := by omega
  have hiL : i < L.length := by omega
  have w1 : IntKind.i64.wrap ((i : Int) + 1) = (i : Int) + 1 := i64_wrap (by omega)
  obtain ⟨u, hu, ru⟩ := r.at (i := i) c
  obtain ⟨rl, rm, rb, rv⟩ := cells_row pk hiL
  have lu := ru.len
  simp [c', c, sem_idxa r.ok, hu, x4, rd_blk B4, w1]
  refine pcount_spec G.R.P (r.ext x4) (by omega) (fun j hj => ?_) (by omega) ?_
  · obtain ⟨y1, y2, _, _⟩ := lvE_zero (pk.lv j hj)
    have := pk.bn
    exact ⟨by omega, fun v hv => by have := y2 v (by omega); omega⟩
  intro h5 e5
  have B5 := B4.ext e5
  rw [lvl_at hiL, rm]
  generalize hn : gateN L i = n at *
  simp
  refine ef_make2s (n := n) (by omega) rfl ?_
  intro U h6 g6 U6 e6
  have x6 := (x4.trans e5).trans e6
  have B6 := B5.ext e6
  simp [rd_blk B6, w1]
  refine rimcross_spec G.R (g.ext x6) (r.ext x6) cc (by omega) ?_
  intro h7 t e7 o7 ht7
  have x7 := x6.trans e7
  have lU := U6.lt
  have z5 := e5.size
  have z6 := e6.size
  have z7 := e7.size
  have tn := o7.1
  simp at tn
  have hxl := crossL_len (N := N) (L := L) (l := (i : Int) + 1)
  obtain ⟨x, hx⟩ : ∃ x, x = crossL N L ((i : Int) + 1) := ⟨_, rfl⟩
  obtain ⟨row, hrow⟩ : ∃ row, row = nthL L i := ⟨_, rfl⟩
  have hgd : gateD N L i = gateC N row x := by unfold gateD; rw [← hx, ← hrow]
  have hxat : ∀ j, j < x.length → ∃ a : Nat, nthI x j = a ∧ a < N.as.length := fun j hj => by rw [hx] at hj ⊢; exact crossL_at hj
  rw [← hx] at o7 tn hxl
  rw [← hrow] at ru rl rm rv lu
  have tb : t.nl = false → h6.size ≤ t.b := fun hn => ht7.resolve_left (by rw [hn]; simp)
  simp
  refine wp_loop' (GoJ p B ob U n i s u t N row x h7) (fun e _ => t.n - argI e 18) ⟨0, fun _ _ => Sl.nil, _, _, _, _, _, _, _, _, rfl, by omega, ⟨U6.ext e7, Fam.none, by omega⟩, Mod.refl _⟩ ?_
  rintro e h8 ⟨j, Q, v1, v3, v8, v9, v10, v11, v15, v19, rfl, hj, q8, m8⟩
  have z8 := m8.size
  have x8 : Ext h h8 := Mod.ext x7 m8 (fun j hj => by omega)
  by_cases d : j < t.n
  rotate_left
  · have d' : ¬ (j : Int) < t.n := by omega
    rw [List.take_of_length_le (by omega)] at q8
    have e48 : Ext h4 h8 := Mod.ext ((e5.trans e6).trans e7) m8 (fun j hj => by omega)
    have o8 := o4.ext' e48
    have ix := sem_idxa (Y := Y) (h := h8) (s := Sl.at ob s.n s.n) (sz := 1) (k := .i64) (i := (i : Int)) o4.ok (by omega) (by simp; omega)
    simp at ix
    simp [d', ix]
    have kq : KeptC h3.size ob h8 (Sl.at U n n) n (gateC N row x) := q8.kept (by omega) (by omega) (by omega) (by omega)
    refine st1o o8 (k := i) (v := (Sl.at U n n).v) (by omega) ?_
    intro h9 o9 m9
    have hk9 : ∀ k, k < i + 1 → ∃ u : Sl, (vals.set i (Sl.at U n n).v)[k]? = some u.v ∧ KeptC h3.size ob h9 u (gateN L k) (gateD N L k) := by
      intro k hk
      rcases Nat.lt_or_ge k i with g | g
      · obtain ⟨u, hu, hc⟩ := hk4 k g
        exact ⟨u, by rw [List.getElem?_set_ne (by omega)]; exact hu, (hc.ext e48).step m9⟩
      · obtain rfl : k = i := by omega
        refine ⟨Sl.at U n n, by rw [List.getElem?_set_self (by omega)], ?_⟩
        rw [hn, hgd]
        exact kq.step m9
    simp [w1]
    refine ⟨⟨i + 1, vals.set i (Sl.at U n n).v, _, _, _, _, _, _, _, _, _, _, _, _, _, _, rfl, by omega, o9, by simpa using hvl, hk9, m4.trans ((e48.mono (fun _ _ h => h.elim)).trans m9)⟩, by simp [argI]; omega⟩
  have d' : (j : Int) < t.n := by omega
  have w2 : IntKind.i64.wrap ((j : Int) + 1) = (j : Int) + 1 := i64_wrap (by omega)
  obtain ⟨a, ha, han⟩ := hxat j (by omega)
  obtain ⟨xv, yv, hxv, hyv, hxn, hyn⟩ := cc.arc han
  obtain ⟨cx, hcx, hcxn⟩ := rv xv hxn
  obtain ⟨cy, hcy, hcyn⟩ := rv yv hyn
  have hva : vtxB N.as.length (a : Int) = true := by simp [vtxB]; omega
  have f1 : fromV N (a : Int) = xv := by simp [fromV, hva, hxv]
  have f2 : toV N (a : Int) = yv := by simp [toV, hva, hyv]
  have rt8 := (o7.mod m8 (fun hn => by have := tb hn; omega)).row64
  have ru8 := ru.ext x8
  have xu : xv < u.n := by omega
  have yu : yv < u.n := by omega
  have ix1 := fun g (k : Nat) (hk : k < n) => sem_idxa (Y := Y) (h := g) (s := Sl.at U n n) (sz := 2) (k := .i64) (i := (k : Int)) ⟨fun h => (by cases h), Nat.le_refl _, .inl rfl⟩ (by omega) (by simp; omega)
  simp at ix1
  have st : ∀ z, hc h8 U (cy * 2) = z ↔ (uArr n Q)[cy * 2 + b2n false]? = z := fun z => by rw [q8.blk.hc]; rfl
  have l0 : hc h8 U (cy * 2) = some (Q false cy).v := by rw [q8.blk.hc]; exact uArr_get (x := false) hcyn
  simp [d', sem_idxa o7.ok, d, rt8.at d, ha]
  refine gto_spec G.R.G.To G.R.G.arc (g.ext x8) ?_
  rw [f2]
  simp [sem_idxa ru.ok, yu, ru8.at yu, hcy, ix1 _ cy hcyn]
  refine gfrom_spec G.R.G.From G.R.G.arc (g.ext x8) ?_
  rw [f1]
  simp [sem_idxa ru.ok, xu, yu, ru8.at xu, ru8.at yu, hcx, hcy, ix1 _ cx hcxn, l0]
  refine ef_bslice1_bx rfl ?_
  intro b9 h9 g9 V9 e9
  have q9 : Cel h7.size U h9 n Q (gateC N row (x.take j)) := ⟨q8.blk.ext e9, q8.fam.ext e9, q8.ult⟩
  have z9 := e9.size
  simp
  refine q9.app (x := false) hcyn (by omega) (by have := gateC_len (N := N) (row := row) (l := x.take j) (b := false) (c := cy); have : (x.take j).length ≤ j := (by simp; omega); omega) V9 ?_
  intro s10 h10 m10 B10 k10
  simp
  refine stB (o := cy * 2) B10 (by rw [uArr_size]; omega) ?_
  intro h11 B11 m11
  have q11 := k10 h11 B11 m11
  have z10 := m10.size
  have z11 := m11.size
  have m811 : Mod (fun j => j = U ∨ h7.size ≤ j) h8 h11 := ((e9.mono (fun _ _ h => h.elim)).trans m10).trans (m11.mono (fun _ _ h => .inl h))
  have l1 : hc h11 U (cx * 2 + 1) = some (updQ Q false cy s10 true cx).v := by rw [q11.blk.hc]; exact uArr_get (x := true) hcxn
  have hD1 : updD (gateC N row (x.take j)) false cy a true cx = gateC N row (x.take j) true cx := by simp [updD]
  simp [l1]
  refine ef_bslice1_bx rfl ?_
  intro b12 h12 g12 V12 e12
  have q12 : Cel h7.size U h12 n (updQ Q false cy s10) (updD (gateC N row (x.take j)) false cy a) := ⟨q11.blk.ext e12, q11.fam.ext e12, q11.ult⟩
  have z12 := e12.size
  simp
  refine q12.app (x := true) hcxn (by omega) (by rw [hD1]; have := gateC_len (N := N) (row := row) (l := x.take j) (b := true) (c := cx); have : (x.take j).length ≤ j := (by simp; omega); omega) V12 ?_
  intro s13 h13 m13 B13 k13
  simp
  refine stB (o := cx * 2 + 1) B13 (by rw [uArr_size]; omega) ?_
  intro h14 B14 m14
  have q14 := k13 h14 B14 m14
  have m814 : Mod (fun j => j = U) h7 h14 := Mod.then m8 (((m811.trans (e12.mono (fun _ _ h => h.elim))).trans m13).trans (m14.mono (fun _ _ h => .inl h))) (fun k hk hq => by omega)
  have hgs := gateC_step (N := N) (row := row) (l := x) (i := j) (x := cx) (y := cy) (a := (a : Int)) (by omega) ha (by simp [hxv, hcx]) (by simp [hyv, hcy])
  simp [w2]
  refine ⟨⟨j + 1, updQ (updQ Q false cy s10) true cx s13, _, _, _, _, _, _, _, _, rfl, by omega, by rw [hgs]; exact q14, m814⟩, by simp [argI]; omega⟩
end
end Go.Rm

/- Gates: the document's. -/
set_option linter.unusedSimpArgs false
set_option linter.unusedVariables false
namespace Go.Rm
section
variable {Y : Sys} {h h' : Heap}

/-- cells that stay, whatever is done to the row they are in -/
def KeptN (t : Sl) (h : Heap) (u : Sl) (n : Nat) (D : Bool → Nat → List Int) : Prop := ∀ h', Mod (fun j => t.nl = false ∧ j = t.b) h h' → CellsH h' u n D
theorem KeptN.ext {t : Sl} {n : Nat} {u : Sl} {D : Bool → Nat → List Int} (k : KeptN t h u n D) (m : Ext h h') : KeptN t h' u n D := fun h'' m' => k h'' ((m.mono (fun _ _ h => h.elim)).trans m')
theorem KeptN.app {t t' : Sl} {n : Nat} {u : Sl} {D : Bool → Nat → List Int} (k : KeptN t h u n D) (m : Mod (fun j => t.nl = false ∧ j = t.b) h h') (hs : (t'.b = t.b ∧ t'.nl = t.nl) ∨ (h.size ≤ t'.b ∧ t'.nl = false)) : KeptN t' h' u n D := by
  intro h'' m'
  refine k h'' (Mod.then m m' (fun j hj hq => ?_))
  rcases hs with ⟨e1, e2⟩ | ⟨e1, e2⟩
  · rw [e1, e2] at hq; exact hq
  · omega

end
end Go.Rm

/- Gates: places in rows that rise. -/
set_option linter.unusedSimpArgs false
set_option linter.unusedVariables false
namespace Go.Rm

section
variable {Y : Sys} {h h' : Heap}

end
end Go.Rm
