import Derived.Test.YtgmbpmnbpakhbaaGreatDoorRLaw16
import Derived.Test.YtgmbpmnbpakhbaaGreatDoorRLaw6
import Derived.Test.YtgmbpmnbpakhbaaGreatDoorRLaw6b
import Derived.Test.YtgmbpmnbpakhbaaGreatDoorSNums

/- Batches: the document's check. -/
set_option linter.unusedSimpArgs false
set_option linter.unusedVariables false
namespace Go.Rm
abbrev wChange : ByteArray := ⟨#[99, 104, 97, 110, 103, 101]⟩
abbrev wBatch : ByteArray := ⟨#[98, 97, 116, 99, 104]⟩
/-- is there such a turn? -/
def isTurnB (N : NetD) (c : Act5) : Bool := decide (0 ≤ c.a ∧ c.a < N.ts.length ∧ 0 ≤ c.i ∧ c.i < (nthB N.ts c.a.toNat).i ∧ 0 ≤ c.o ∧ c.o < (nthB N.ts c.a.toNat).o)
/-- what is wrong with one change by itself -/
def oneC (N : NetD) (c : Act5) : Int :=
  if c.kd = 1 then (if c.i ≠ 0 ∨ c.o ≠ 0 then 1 else if vtxB N.as.length c.a = false then 5 else if weightB c.w = true then 0 else 8)
  else if c.kd = 2 then (if isTurnB N c = false then 5 else if weightB c.w = true then 0 else 8)
  else 1
def sameKey (c d : Act5) : Bool := decide (c.kd = d.kd ∧ c.a = d.a ∧ c.i = d.i ∧ c.o = d.o)
def twiceB (l : List Act5) (i : Nat) : Bool := (List.range i).any fun k => sameKey (nthA l k) (nthA l i)
def badC (N : NetD) (l : List Act5) (i : Nat) : Int := if oneC N (nthA l i) ≠ 0 then oneC N (nthA l i) else if twiceB l i = true then 6 else 0
def batchF (N : NetD) (l : List Act5) : Nat → Nat → Wr
  | _, 0 => wOK
  | k, m + 1 => if badC N l k ≠ 0 then atW wChange k (badC N l k) else batchF N l (k + 1) m
def batchW (N : NetD) (l : List Act5) : Wr := if 256 < l.length then atW wBatch 0 4 else batchF N l 0 l.length
theorem twice_iff {l : List Act5} {i : Nat} : twiceB l i = true ↔ ∃ k, k < i ∧ sameKey (nthA l k) (nthA l i) = true := by
  simp [twiceB, List.any_eq_true]
structure Ref20 (Y : Sys) : Prop where
  one : Y.Has F.rref20_one S_rref20_one
  Check : Y.Has F.rref20_CheckBatch S_rref20_CheckBatch
  There : Y.Has F.rref6_There S_rref6_There
  Weight : Y.Has F.rref6_Weight S_rref6_Weight
  At : Y.Has F.rref6_At S_rref6_At
section
variable {Y : Sys} {h h' : Heap}
theorem one_spec (D : Ref20 Y) {sv sa st : Sl} {N : NetD} (r : NetH h sv sa st N) {c : Act5} {R : Value → Heap → Prop} (hr : ∀ h', Ext h h' → R (.int .i64 (oneC N c)) h') : CallP Y F.rref20_one [netV sv sa st, actV c] h R := by
  have la := r.ra.len
  have lt := r.rt.len
  refine .of_has D.one rfl ?_
  simp [S_rref20_one, FnS.wp, netV]
  refine ef_new_box ?_
  intro A hA gA bA eA
  simp
  refine ef_new_box ?_
  intro B hB gB bB eB
  have x := eA.trans eB
  have bA := bA.ext eB
  obtain ⟨kd, a, i, o, w⟩ := c
  simp [actV] at bB
  have bB : Blk hB B #[.int .i64 kd, .int .i64 a, .int .i64 i, .int .i64 o, .int .i64 w] := bB
  simp [bB.hc]
  by_cases c1 : kd = 1
  · by_cases c2 : i = 0
    · by_cases c3 : o = 0
      · simp [c1, c2, c3, rd_blk bA, bB.hc]
        rw [show (Value.agg #[sv.v, sa.v, st.v]) = netV sv sa st from rfl]
        refine there_spec D.There la ?_
        intro h3 e3
        by_cases c4 : vtxB N.as.length a = true
        · simp [c4, (bB.ext e3).hc]
          refine rweight_spec D.Weight ?_
          have hr := hr h3 (x.trans e3)
          simp only [oneC, c1, c2, c3, c4] at hr
          by_cases c5 : weightB w = true
          · simp [c5] at hr ⊢
            exact hr
          · simp [c5] at hr ⊢
            exact hr
        · have hr := hr h3 (x.trans e3)
          simp [c4]
          simp [oneC, c1, c2, c3, c4] at hr
          exact hr
      · have hr := hr hB x
        simp [oneC, c1, c2, c3] at hr
        simp [c1, c2, c3]
        exact hr
    · have hr := hr hB x
      simp [oneC, c1, c2] at hr
      simp [c1, c2]
      exact hr
  by_cases c2 : kd = 2
  rotate_left
  · have hr := hr hB x
    simp [oneC, c1, c2] at hr
    simp [c1, c2]
    exact hr
  have bad : isTurnB N ⟨kd, a, i, o, w⟩ = false → R (.int .i64 5) hB := fun hb => by
    have hr := hr hB x
    simp [oneC, c1, c2, hb] at hr
    simp [c2] at hb
    simp [hb] at hr
    exact hr
  by_cases d1 : a < 0
  · have d1' : ¬ 0 ≤ a := by omega
    simp [c1, c2, d1, d1', bB.hc]
    exact bad (by simp [isTurnB]; omega)
  have d1' : 0 ≤ a := by omega
  by_cases d2 : (st.n : Int) ≤ a
  · simp [d1', c1, c2, d1, d2, bA.hc, bB.hc]
    exact bad (by simp [isTurnB]; omega)
  have d2' : a < (st.n : Int) := by omega
  by_cases d3 : i < 0
  · have d3' : ¬ 0 ≤ i := by omega
    simp [d1', d2', d3', c1, c2, d1, d2, bA.hc, bB.hc, d3]
    exact bad (by simp [isTurnB]; omega)
  obtain ⟨t, rfl⟩ : ∃ t : Nat, a = t := ⟨a.toNat, by omega⟩
  have lt' : t < N.ts.length := by omega
  have lt2 : (t : Int) < st.n := by omega
  have lt3 : t < st.n := by omega
  have nlt : ¬ st.n ≤ t := by omega
  obtain ⟨u, v0, v1, v2, _⟩ := (r.ext x).rt.val t lt'
  obtain ⟨ti, hti⟩ : ∃ z, (nthB N.ts t).i = z := ⟨_, rfl⟩
  obtain ⟨to, hto⟩ : ∃ z, (nthB N.ts t).o = z := ⟨_, rfl⟩
  rw [hti] at v0
  rw [hto] at v1
  have d3' : 0 ≤ i := by omega
  by_cases d4 : ti ≤ i
  · simp [d3', c1, c2, d1, d2, bA.hc, bB.hc, d3, sem_idxa r.rt.ok, lt2, lt3, nlt, v0, d4]
    exact bad (by simp [isTurnB, hti]; omega)
  have d4' : i < ti := by omega
  by_cases d5 : o < 0
  · have d5' : ¬ 0 ≤ o := by omega
    simp [d3', d4', d5', c1, c2, d1, d2, bA.hc, bB.hc, d3, sem_idxa r.rt.ok, lt2, lt3, nlt, v0, d4, d5]
    exact bad (by simp [isTurnB, hti]; omega)
  have d5' : 0 ≤ o := by omega
  by_cases d6 : to ≤ o
  · simp [d3', d4', d5', c1, c2, d1, d2, bA.hc, bB.hc, d3, sem_idxa r.rt.ok, lt2, lt3, nlt, v0, v1, d4, d5, d6]
    exact bad (by simp [isTurnB, hti, hto]; omega)
  have good : isTurnB N ⟨2, t, i, o, w⟩ = true := by simp [isTurnB, hti, hto]; omega
  have hr := hr hB x
  simp only [oneC, c2, good] at hr
  have d6' : o < to := by omega
  simp [d3', d4', d5', d6', c1, c2, d1, d2, bA.hc, bB.hc, d3, sem_idxa r.rt.ok, lt2, lt3, nlt, v0, v1, d4, d5, d6]
  refine rweight_spec D.Weight ?_
  by_cases c5 : weightB w = true
  · simp [c5] at hr ⊢
    exact hr
  · simp [c5] at hr ⊢
    exact hr
theorem Row5.ext' {s : Sl} {l : List Act5} (r : Row5 h s l) (e : Ext h h') : Row5 h' s l := ⟨r.ok, r.len, fun i hi => e.rd (r.val i hi) (fun h => h)⟩
theorem Row5.cell {s : Sl} {l : List Act5} (r : Row5 h s l) {i : Nat} (hi : i < l.length) :
    hc h s.b (s.o + i * 5) = some (.int .i64 (nthA l i).kd) ∧ hc h s.b (s.o + i * 5 + 1) = some (.int .i64 (nthA l i).a) ∧ hc h s.b (s.o + i * 5 + 2) = some (.int .i64 (nthA l i).i) ∧ hc h s.b (s.o + i * 5 + 3) = some (.int .i64 (nthA l i).o) ∧ hc h s.b (s.o + i * 5 + 4) = some (.int .i64 (nthA l i).w) := by
  have := (rd_get (r.val i hi)).2
  exact ⟨this 0 _ rfl, this 1 _ rfl, this 2 _ rfl, this 3 _ rfl, this 4 _ rfl⟩
def CkbI (A W : Nat) (v0 : Value) (s : Sl) (N : NetD) (l : List Act5) (h0 : Heap) (e : List Value) (h' : Heap) : Prop :=
  ∃ (i : Nat) (v5 v6 v7 v8 v9 v10 v11 : Value), e = [v0, s.v, .pointer (some ⟨A, 0, none⟩), .pointer (some ⟨W, 0, none⟩), .int .i64 i, v5, v6, v7, v8, v9, v10, v11] ∧ i ≤ l.length ∧ batchF N l 0 l.length = batchF N l i (l.length - i) ∧ Ext h0 h'
def CkbJ (A W i : Nat) (v0 : Value) (s : Sl) (l : List Act5) (h0 : Heap) (e : List Value) (h' : Heap) : Prop :=
  ∃ (j : Nat) (v5 v7 v8 v9 v10 v11 : Value), e = [v0, s.v, .pointer (some ⟨A, 0, none⟩), .pointer (some ⟨W, 0, none⟩), .int .i64 i, v5, .int .i64 j, v7, v8, v9, v10, v11] ∧ j ≤ i ∧ (∀ k, k < j → sameKey (nthA l k) (nthA l i) = false) ∧ h' = h0
set_option maxHeartbeats 1000000 in
theorem checkbatch_spec (D : Ref20 Y) {sv sa st s : Sl} {N : NetD} {l : List Act5} (r : NetH h sv sa st N) (q : Row5 h s l) {R : Value → Heap → Prop}
    (hr : ∀ h' v, Ext h h' → FWr h.size h' (batchW N l) v → R v h') : CallP Y F.rref20_CheckBatch [netV sv sa st, s.v] h R := by
  have ll := q.len
  refine .of_has D.Check rfl ?_
  simp [S_rref20_CheckBatch, FnS.wp, netV]
  refine ef_new_box ?_
  intro A h1 g1 A1 e1
  simp
  refine ef_new_box ?_
  intro W h2 g2 W2 e2
  have e12 := e1.trans e2
  have z1 := e1.size
  have z2 := e2.size
  have lW := W2.lt
  have fin : ∀ {h3 h4 : Heap} {v : Value}, Ext h2 h3 → FWr h2.size h3 (batchW N l) v → Mod (fun j => j = W) h3 h4 → R v h4 := by
    intro h3 h4 v e3 fw m4
    exact hr h4 v (Mod.ext (e12.trans e3) m4 (fun j hj => by omega)) ((fw.step m4 (fun j hj => by omega)).mono (by omega))
  by_cases c1 : 256 < s.n
  · have c1' : (256 : Int) < s.n := by omega
    have hp : batchW N l = atW wBatch 0 4 := by unfold batchW; rw [if_pos (by omega)]
    rw [hp] at fin
    simp [c1, c1']
    refine rat_spec D.At ?_
    intro h3 v e3 hv
    obtain ⟨s5, rfl⟩ := hv.here.shape
    simp
    refine ef_store_box (W2.ext e3) rfl rfl (by simp) ?_
    intro h4 W4 m4
    simp
    exact resP_x rfl W4 rfl (fin e3 hv m4)
  have c1' : ¬ (256 : Int) < s.n := by omega
  have hp : batchW N l = batchF N l 0 l.length := by unfold batchW; rw [if_neg (by omega)]
  rw [hp] at fin
  simp [c1, c1']
  refine wp_loop' (CkbI A W (.agg #[sv.v, sa.v, st.v]) s N l h2) (fun e _ => l.length - argI e 4) ⟨0, _, _, _, _, _, _, _, rfl, by omega, rfl, Mod.refl _⟩ ?_
  rintro e h3 ⟨i, v5, v6, v7, v8, v9, v10, v11, rfl, hi, hF, e3⟩
  have W3 := W2.ext e3
  by_cases c : i < l.length
  rotate_left
  · have c' : ¬ (i : Int) < s.n := by omega
    obtain rfl : i = l.length := by omega
    rw [Nat.sub_self, batchF] at hF
    rw [hF] at fin
    have hb : IOp.sem Y h3 (.build #[.slice none 0 0, .int .i64 0] [(0, 1), (1, 1)] []) [] = some (.agg #[.slice none 0 0, .int .i64 0]) := by simp [IOp.sem, Instr.fill]
    simp [c', hb]
    refine ef_store_box W3 rfl rfl (by simp) ?_
    intro h4 W4 m4
    simp
    exact resP_x rfl W4 rfl (fin e3 FWr.ok m4)
  have c' : (i : Int) < s.n := by omega
  have c'' : i < s.n := by omega
  have w1 : IntKind.i64.wrap ((i : Int) + 1) = (i : Int) + 1 := i64_wrap (by omega)
  have x3 := e12.trans e3
  have q3 := q.ext' x3
  have hbad : badC N l i ≠ 0 → batchF N l 0 l.length = atW wChange i (badC N l i) := fun hb => by
    rw [hF, show l.length - i = (l.length - i - 1) + 1 by omega, batchF, if_pos hb]
  have hgood : badC N l i = 0 → batchF N l 0 l.length = batchF N l (i + 1) (l.length - (i + 1)) := fun hb => by
    rw [hF, show l.length - i = (l.length - (i + 1)) + 1 by omega, batchF, if_neg (by omega)]
  simp [c', c'', rd_blk ((A1.ext e2).ext e3), sem_idxa q3.ok, q3.val i c]
  rw [show (Value.agg #[sv.v, sa.v, st.v]) = netV sv sa st from rfl, show (Value.agg #[.int .i64 (nthA l i).kd, .int .i64 (nthA l i).a, .int .i64 (nthA l i).i, .int .i64 (nthA l i).o, .int .i64 (nthA l i).w]) = actV (nthA l i) from rfl]
  refine one_spec D (r.ext x3) ?_
  intro h4 e4
  have e24 := e3.trans e4
  by_cases c2 : oneC N (nthA l i) = 0
  rotate_left
  · have hb : badC N l i = oneC N (nthA l i) := by unfold badC; rw [if_pos c2]
    have hf := hbad (by rw [hb]; exact c2)
    rw [hb] at hf
    rw [hf] at fin
    simp [c2]
    refine rat_spec D.At ?_
    intro h5 v e5 hv
    obtain ⟨s5, rfl⟩ := hv.here.shape
    simp
    have z3 := e24.size
    refine ef_store_box ((W3.ext e4).ext e5) rfl rfl (by simp) ?_
    intro h6 W6 m6
    simp
    exact resP_x rfl W6 rfl (fin (e24.trans e5) (hv.mono (by omega)) m6)
  simp [c2]
  refine wp_loop' (CkbJ A W i (netV sv sa st) s l h4) (fun e _ => i - argI e 6) ⟨0, _, _, _, _, _, _, rfl, by omega, fun k hk => by omega, rfl⟩ ?_
  rintro e h5 ⟨j, v5, v7, v8, v9, v10, v11, rfl, hj, hall, rfl⟩
  have q5 := q3.ext' e4
  by_cases k : j < i
  rotate_left
  · have k' : ¬ (j : Int) < i := by omega
    obtain rfl : j = i := by omega
    have ht : twiceB l j = false := by
      cases ht : twiceB l j with
      | false => rfl
      | true =>
        obtain ⟨k, hk, e⟩ := twice_iff.1 ht
        rw [hall k hk] at e
        cases e
    have hb : badC N l j = 0 := by unfold badC; simp [c2, ht]
    simp [w1]
    exact ⟨⟨j + 1, _, _, _, _, _, _, _, rfl, by omega, hgood hb, e24⟩, by simp [argI]; omega⟩
  have k' : (j : Int) < i := by omega
  have kj : j < l.length := by omega
  have kj' : (j : Int) < s.n := by omega
  have wj : IntKind.i64.wrap ((j : Int) + 1) = (j : Int) + 1 := i64_wrap (by omega)
  obtain ⟨a0, a1, a2, a3, _⟩ := q5.cell c
  obtain ⟨b0, b1, b2, b3, _⟩ := q5.cell kj
  cases ks : sameKey (nthA l j) (nthA l i) with
  | true =>
    have ht : twiceB l i = true := twice_iff.2 ⟨j, k, ks⟩
    have hb : badC N l i = 6 := by unfold badC; simp [c2, ht]
    have hf := hbad (by rw [hb]; decide)
    rw [hb] at hf
    rw [hf] at fin
    simp only [sameKey, decide_eq_true_eq] at ks
    obtain ⟨s1, s2, s3, s4⟩ := ks
    rw [s1] at b0
    rw [s2] at b1
    rw [s3] at b2
    rw [s4] at b3
    simp [k, k', c', kj', sem_idxa q5.ok, a0, a1, a2, a3, b0, b1, b2, b3]
    refine rat_spec D.At ?_
    intro h6 v e6 hv
    obtain ⟨s5, rfl⟩ := hv.here.shape
    simp
    have z3 := e24.size
    refine ef_store_box ((W3.ext e4).ext e6) rfl rfl (by simp) ?_
    intro h7 W7 m7
    simp
    exact resP_x rfl W7 rfl (fin (e24.trans e6) (hv.mono (by omega)) m7)
  | false =>
    have hall' : ∀ k, k < j + 1 → sameKey (nthA l k) (nthA l i) = false := fun z hz => by
      rcases Nat.lt_succ_iff_lt_or_eq.1 hz with g | rfl
      · exact hall z g
      · exact ks
    simp only [sameKey, decide_eq_false_iff_not] at ks
    by_cases s1 : (nthA l j).kd = (nthA l i).kd
    · by_cases s2 : (nthA l j).a = (nthA l i).a
      · by_cases s3 : (nthA l j).i = (nthA l i).i
        · have s4 : ¬ (nthA l j).o = (nthA l i).o := fun s4 => ks ⟨s1, s2, s3, s4⟩
          simp [k, k', c', kj', sem_idxa q5.ok, a0, a1, a2, a3, b0, b1, b2, b3, eq_true s1, eq_true s2, eq_true s3, s4, wj]
          exact ⟨⟨j + 1, _, _, _, _, _, _, rfl, by omega, hall', rfl⟩, by simp [argI]; omega⟩
        · simp [k, k', c', kj', sem_idxa q5.ok, a0, a1, a2, a3, b0, b1, b2, b3, eq_true s1, eq_true s2, s3, wj]
          exact ⟨⟨j + 1, _, _, _, _, _, _, rfl, by omega, hall', rfl⟩, by simp [argI]; omega⟩
      · simp [k, k', c', kj', sem_idxa q5.ok, a0, a1, a2, a3, b0, b1, b2, b3, eq_true s1, s2, wj]
        exact ⟨⟨j + 1, _, _, _, _, _, _, rfl, by omega, hall', rfl⟩, by simp [argI]; omega⟩
    · simp [k, k', c', kj', sem_idxa q5.ok, a0, a1, a2, a3, b0, b1, b2, b3, s1, wj]
      exact ⟨⟨j + 1, _, _, _, _, _, _, rfl, by omega, hall', rfl⟩, by simp [argI]; omega⟩
end
end Go.Rm

/- Batches: the program's check; a map of what was seen. -/
set_option linter.unusedSimpArgs false
set_option linter.unusedVariables false
namespace Go.Rm
/-- a change as a key: without its weight -/
def keyV (c : Act5) : Value := .agg #[.int .i64 c.kd, .int .i64 c.a, .int .i64 c.i, .int .i64 c.o, .int .i64 0]
/-- a map whose keys are these changes -/
def MapAt (h : Heap) (M : Nat) (l : List Act5) : Prop := ∃ es clock, h[M]? = some (.map es clock) ∧ es.toList.map (fun e => e.key) = l.map keyV
theorem keyEq_key {c d : Act5} : keyEq (some 5) (keyV c) (keyV d) = some (sameKey d c) := by
  obtain ⟨a1, a2, a3, a4, a5⟩ := c
  obtain ⟨b1, b2, b3, b4, b5⟩ := d
  simp [keyV, keyEq, intsEq, sameKey]
  rw [Bool.eq_iff_iff]
  simp
  omega
theorem keyOk_key {c : Act5} : keyOk (some 5) (keyV c) = true := by simp [keyV, keyOk, isIntV]
theorem findV_keys {c : Act5} : ∀ {es : List MapEntry} {L : List Act5} {n : Nat}, es.map (fun e => e.key) = L.map keyV →
    (∃ j v, findV (some 5) (keyV c) es n = some (some (j, v)) ∧ ∃ d, d ∈ L ∧ sameKey d c = true) ∨ (findV (some 5) (keyV c) es n = some none ∧ ∀ d, d ∈ L → sameKey d c = false) := by
  intro es
  induction es with
  | nil =>
    intro L n h
    have : L = [] := by simpa using h.symm
    subst this
    exact .inr ⟨rfl, fun d hd => by cases hd⟩
  | cons e es ih =>
    intro L n h
    cases L with
    | nil => simp at h
    | cons d L =>
      simp only [List.map_cons, List.cons.injEq] at h
      obtain ⟨h1, h2⟩ := h
      unfold findV
      rw [h1, keyEq_key]
      cases hk : sameKey d c with
      | true => exact .inl ⟨n, e.val, rfl, d, by simp, hk⟩
      | false =>
        rcases ih (n := n + 1) h2 with ⟨j, v, f, d', hd, hk'⟩ | ⟨f, hall⟩
        · exact .inl ⟨j, v, f, d', by simp [hd], hk'⟩
        · refine .inr ⟨f, fun d' hd => ?_⟩
          rcases List.mem_cons.1 hd with rfl | hd
          · exact hk
          · exact hall d' hd
theorem nthA_take_mem {l : List Act5} {i : Nat} {d : Act5} (hi : i ≤ l.length) : d ∈ l.take i ↔ ∃ k, k < i ∧ d = nthA l k := by
  constructor
  · intro h
    obtain ⟨k, hk, e⟩ := List.mem_iff_getElem.1 h
    simp at hk
    refine ⟨k, by omega, ?_⟩
    rw [← e, List.getElem_take]
    simp [nthA, show k < l.length by omega]
  · rintro ⟨k, hk, rfl⟩
    have : k < l.length := by omega
    rw [show nthA l k = l[k] by simp [nthA, this]]
    exact List.mem_take_iff_getElem.2 ⟨k, by omega, rfl⟩
theorem map_at {L : List Act5} {M : Nat} {h : Heap} (m : MapAt h M L) : M < h.size := by
  obtain ⟨es, clock, hb, _⟩ := m
  exact (Array.getElem?_eq_some_iff.1 hb).1
theorem MapAt.mod {S : Nat → Prop} {h h' : Heap} {L : List Act5} {M : Nat} (a : MapAt h M L) (m : Mod S h h') (hs : ¬ S M) : MapAt h' M L := by
  have := map_at a
  obtain ⟨es, clock, hb, hk⟩ := a
  exact ⟨es, clock, by rw [m.get M this hs]; exact hb, hk⟩
section
variable {Y : Sys} {h h' : Heap}
theorem sem_look {L : List Act5} {M : Nat} (a : MapAt h M L) (c : Act5) : ∃ v, IOp.sem Y h (.lookup (some 5) true (.int .i64 0)) [.map (some M), keyV c] = some (.tuple #[v, .bool (L.any fun d => sameKey d c)]) := by
  obtain ⟨es, clock, hb, hk⟩ := a
  have he : entriesOf h (some M) = some es.toList := by simp [entriesOf, hb]
  show ∃ v, lookV h (some 5) true (.int .i64 0) (some M) (keyV c) = _
  unfold lookV
  rw [if_pos keyOk_key, he]
  rcases findV_keys (c := c) (n := 0) hk with ⟨j, v, f, d, hd, hs⟩ | ⟨f, hall⟩
  · have : (L.any fun d => sameKey d c) = true := List.any_eq_true.2 ⟨d, hd, hs⟩
    simp [f, this]
  · have : (L.any fun d => sameKey d c) = false := by
      rw [List.any_eq_false]
      intro d hd
      simp [hall d hd]
    simp [f, this]
theorem ef_mupd_new {K : Value → Heap → Prop} {L : List Act5} {M : Nat} {c : Act5} {x : Value} (a : MapAt h M L) (hn : (L.any fun d => sameKey d c) = false) (hk : ∀ h', MapAt h' M (L ++ [c]) → Mod (fun j => j = M) h h' → K undef h') :
    Ef.wp h K (.mupd (some 5)) [.map (some M), keyV c, x] := by
  have lM := map_at a
  obtain ⟨es, clock, hb, hkey⟩ := a
  have hf : findV (some 5) (keyV c) es.toList 0 = some none := by
    rcases findV_keys (c := c) (n := 0) hkey with ⟨j, v, f, d, hd, hs⟩ | ⟨f, hall⟩
    · rw [List.any_eq_false] at hn
      exact absurd hs (hn d hd)
    · exact f
  simp only [Ef.wp, hb, keyOk_key, hf, true_and]
  refine hk _ ⟨es.push ⟨keyV c, x, clock⟩, clock + 1, by simp [lM], ?_⟩ ⟨by simp, fun b hb' hs => ?_⟩
  · simp [hkey]
  · simp [Ne.symm hs]
theorem ef_mkmap {K : Value → Heap → Prop} {k : IntKind} {n : Int} (hk : ∀ M h', h.size ≤ M → MapAt h' M [] → Ext h h' → K (.map (some M)) h') : Ef.wp h K .mkmap [.int k n] := by
  show K _ _
  exact hk _ _ (Nat.le_refl _) ⟨#[], 0, by simp, rfl⟩ Mod.push
structure BatchCk (Y : Sys) : Prop where
  Check : Y.Has F.batch_Check S_batch_Check
  lookAt : Y.Has F.batch_lookAt S_batch_lookAt
  isTurn : Y.Has F.batch_isTurn S_batch_isTurn
  Weight : Y.Has F.cost_Weight S_cost_Weight
  Arcs : Y.Has F.graph_Graph_Arcs S_graph_Graph_Arcs
  Net : Y.Has F.graph_Graph_Net S_graph_Graph_Net
  Cl : GrCl Y
theorem isturn_spec (D : BatchCk Y) {st : Sl} {N : NetD} (r : RowT h st N.ts) {c : Act5} {R : Value → Heap → Prop} (hr : ∀ h', Ext h h' → R (.bool (isTurnB N c)) h') : CallP Y F.batch_isTurn [st.v, actV c] h R := by
  have lt := r.len
  refine .of_has D.isTurn rfl ?_
  obtain ⟨kd, a, i, o, w⟩ := c
  simp [S_batch_isTurn, FnS.wp, actV]
  refine ef_new_box ?_
  intro B hB gB bB eB
  have bB : Blk hB B #[.int .i64 kd, .int .i64 a, .int .i64 i, .int .i64 o, .int .i64 w] := bB
  by_cases d1 : a < 0
  · have d1' : ¬ 0 ≤ a := by omega
    have hr := hr hB eB
    simp [isTurnB, d1'] at hr
    simp [d1, d1', bB.hc]
    exact hr
  have d1' : 0 ≤ a := by omega
  by_cases d2 : (st.n : Int) ≤ a
  · have hr := hr hB eB
    have d2' : ¬ a < N.ts.length := by omega
    simp [isTurnB, d1', d2'] at hr
    simp [d1, d1', d2, bB.hc]
    exact hr
  have d2' : a < (st.n : Int) := by omega
  obtain ⟨t, rfl⟩ : ∃ t : Nat, a = t := ⟨a.toNat, by omega⟩
  have lt' : t < N.ts.length := by omega
  have lt2 : (t : Int) < st.n := by omega
  have lt3 : t < st.n := by omega
  have nlt : ¬ st.n ≤ t := by omega
  obtain ⟨u, rdt, _, _⟩ := (r.ext eB).rd lt'
  obtain ⟨ti, hti⟩ : ∃ z, (nthB N.ts t).i = z := ⟨_, rfl⟩
  obtain ⟨to, hto⟩ : ∃ z, (nthB N.ts t).o = z := ⟨_, rfl⟩
  rw [hti, hto] at rdt
  simp [d1, d1', d2, bB.hc, sem_idxa r.ok, lt2, lt3, nlt, rdt]
  refine new_store (vs := #[.int .i64 ti, .int .i64 to, u.v]) rfl rfl (by simp) ?_
  intro C hCp gC bCp eCp stC
  simp
  refine stC _ ?_
  intro hC bC eC
  clear stC bCp eCp
  have B2 := bB.ext eC
  have hr := hr hC (eB.trans eC)
  have e : isTurnB N ⟨kd, t, i, o, w⟩ = decide (0 ≤ i ∧ i < ti ∧ 0 ≤ o ∧ o < to) := by
    simp only [isTurnB]
    apply decide_eq_decide.2
    simp only [Int.toNat_natCast, hti, hto]
    omega
  rw [e] at hr
  by_cases k1 : 0 ≤ i
  · by_cases k2 : i < ti
    · by_cases k3 : 0 ≤ o
      · by_cases k4 : o < to
        · simp [k1, k2, k3, k4] at hr
          simp [B2.hc, bC.hc, k1, k2, k3, k4]
          exact hr
        · simp [k1, k2, k3, k4] at hr
          simp [B2.hc, bC.hc, k1, k2, k3, k4]
          exact hr
      · simp [k1, k2, k3] at hr
        simp [B2.hc, bC.hc, k1, k2, k3]
        exact hr
    · simp [k1, k2] at hr
      simp [B2.hc, bC.hc, k1, k2]
      exact hr
  · simp [k1] at hr
    simp [B2.hc, bC.hc, k1]
    exact hr
theorem lookat_spec (D : BatchCk Y) {p : Nat} {N : NetD} {S : Nat → Prop} (g : GraphA h p N S) {st : Sl} (r : RowT h st N.ts) {c : Act5} {R : Value → Heap → Prop} (hr : ∀ h', Ext h h' → R (.int .i64 (oneC N c)) h') :
    CallP Y F.batch_lookAt [.pointer (some ⟨p, 0, none⟩), st.v, actV c] h R := by
  refine .of_has D.lookAt rfl ?_
  obtain ⟨kd, a, i, o, w⟩ := c
  simp [S_batch_lookAt, FnS.wp, actV]
  refine ef_new_box ?_
  intro B hB gB bB eB
  have bB : Blk hB B #[.int .i64 kd, .int .i64 a, .int .i64 i, .int .i64 o, .int .i64 w] := bB
  have g1 := g.ext eB
  simp [bB.hc]
  by_cases c1 : kd = 1
  · by_cases c2 : i = 0
    · by_cases c3 : o = 0
      · by_cases c4 : a < 0
        · have hr := hr hB eB
          have c4' : vtxB N.as.length a = false := by simp [vtxB]; omega
          simp [oneC, c1, c2, c3, c4'] at hr
          simp [c1, c2, c3, bB.hc, c4]
          exact hr
        simp [c1, c2, c3, bB.hc, c4]
        refine garcs_spec D.Arcs g1 ?_
        by_cases c5 : (N.as.length : Int) ≤ a
        · have hr := hr hB eB
          have c5' : vtxB N.as.length a = false := by simp [vtxB]; omega
          simp [oneC, c1, c2, c3, c5'] at hr
          simp [c1, c2, c3, bB.hc, c4, c5]
          exact hr
        have c5' : vtxB N.as.length a = true := by simp [vtxB]; omega
        have hr := hr hB eB
        simp only [oneC, c1, c2, c3, c5'] at hr
        simp [c1, c2, c3, bB.hc, c4, c5]
        refine weight_spec D.Weight ?_
        by_cases c6 : weightB w = true
        · simp [c6] at hr ⊢
          exact hr
        · simp [c6] at hr ⊢
          exact hr
      · have hr := hr hB eB
        simp [oneC, c1, c2, c3] at hr
        simp [c1, c2, c3, bB.hc]
        exact hr
    · have hr := hr hB eB
      simp [oneC, c1, c2] at hr
      simp [c1, c2, bB.hc]
      exact hr
  by_cases c2 : kd = 2
  rotate_left
  · have hr := hr hB eB
    simp [oneC, c1, c2] at hr
    simp [c1, c2]
    exact hr
  simp [c1, c2, bB.hc, rd_blk bB]
  rw [show (Value.agg #[.int .i64 2, .int .i64 a, .int .i64 i, .int .i64 o, .int .i64 w]) = actV ⟨2, a, i, o, w⟩ from rfl]
  refine isturn_spec D (r.ext eB) ?_
  intro h3 e3
  have B3 := bB.ext e3
  have hr := hr h3 (eB.trans e3)
  by_cases c3 : isTurnB N ⟨2, a, i, o, w⟩ = true
  rotate_left
  · simp [oneC, c1, c2, c3] at hr
    simp [c3]
    exact hr
  simp [c3, B3.hc]
  refine weight_spec D.Weight ?_
  simp only [oneC, c1, c2, c3] at hr
  by_cases c6 : weightB w = true
  · simp [c6] at hr ⊢
    exact hr
  · simp [c6] at hr ⊢
    exact hr
def PckI (p M lo : Nat) (s st : Sl) (N : NetD) (l : List Act5) (h0 : Heap) (e : List Value) (h' : Heap) : Prop :=
  ∃ (i : Nat) (v2 v5 v6 v7 v8 v9 v10 v11 v12 v16 v17 v18 v19 : Value), e = [.pointer (some ⟨p, 0, none⟩), s.v, v2, st.v, .map (some M), v5, v6, v7, v8, v9, v10, v11, v12, s.v, .int .i64 s.n, .int .i64 i, v16, v17, v18, v19] ∧ i ≤ l.length ∧ batchF N l 0 l.length = batchF N l i (l.length - i) ∧ MapAt h' M (l.take i) ∧ Mod (fun j => j = M) h0 h'
set_option maxHeartbeats 1000000 in
theorem bcheck_spec (D : BatchCk Y) {p : Nat} {N : NetD} {S : Nat → Prop} (g : GraphA h p N S) (ok : NetOK N) {s : Sl} {l : List Act5} (q : Row5 h s l) {R : Value → Heap → Prop}
    (hr : ∀ h' v, Ext h h' → FErr Y h.size h' (batchW N l) v → R v h') : CallP Y F.batch_Check [.pointer (some ⟨p, 0, none⟩), s.v] h R := by
  have ll := q.len
  refine .of_has D.Check rfl ?_
  simp [S_batch_Check, FnS.wp]
  by_cases c1 : 256 < s.n
  · have c1' : (256 : Int) < s.n := by omega
    have hp : batchW N l = atW wBatch 0 4 := by unfold batchW; rw [if_pos (by omega)]
    rw [hp] at hr
    have hb : IOp.sem Y h (.build #[.string ⟨#[]⟩, .int .i64 0, .nilIface] [(0, 1), (1, 1), (2, 1)] [0, 1, 2]) [.string wBatch, .int .i64 0, .iface (Y.tid 49) (.int .i64 4)] = some (.agg #[.string wBatch, .int .i64 0, .iface (Y.tid 49) (.int .i64 4)]) := by simp [IOp.sem, Instr.fill]
    simp [c1, c1', hb]
    refine ef_new_box ?_
    intro b h2 g2 B2 e2
    simp
    exact hr h2 _ e2 (fun h' m => fault_at (m.blk B2 (by omega)) (by decide))
  have c1' : ¬ (256 : Int) < s.n := by omega
  by_cases c2 : s.n = 0
  · have hp : batchW N l = wOK := by
      unfold batchW
      rw [if_neg (by omega), show l.length = 0 by omega]
      rfl
    rw [hp] at hr
    simp [c1, c1', c2]
    exact hr h _ (Mod.refl _) FErr.ok
  have hp : batchW N l = batchF N l 0 l.length := by unfold batchW; rw [if_neg (by omega)]
  rw [hp] at hr
  simp [c1, c1', c2]
  refine gnet_spec D.Net D.Cl g ok.small ?_
  intro h1 s1 s2 s3 e1 r1
  have r1 := (r1 h1 (Mod.refl _)).rt
  have hf : ∀ g, IOp.sem Y g (.fld 2 1 false) [netV s1 s2 s3] = some s3.v := fun g => by simp [netV]
  simp [hf]
  refine ef_mkmap ?_
  intro M h2 gM m2 e2
  have z1 := e1.size
  have z2 := e2.size
  have lM := map_at m2
  have x2 := e1.trans e2
  simp
  refine wp_loop' (PckI p M h2.size s s3 N l h2) (fun e _ => l.length - argI e 15) ⟨0, _, _, _, _, _, _, _, _, _, _, _, _, _, rfl, by omega, rfl, m2, Mod.refl _⟩ ?_
  clear m2
  rintro e h3 ⟨i, v2, v5, v6, v7, v8, v9, v10, v11, v12, v16, v17, v18, v19, rfl, hi, hF, m3, e3⟩
  have x3 : Ext h h3 := Mod.ext x2 e3 (fun j hj => by omega)
  have z3 := e3.size
  by_cases c : i < l.length
  rotate_left
  · have c' : ¬ (i : Int) < s.n := by omega
    obtain rfl : i = l.length := by omega
    rw [Nat.sub_self, batchF] at hF
    rw [hF] at hr
    simp [c']
    exact hr h3 _ x3 FErr.ok
  have c' : (i : Int) < s.n := by omega
  have c'' : i < s.n := by omega
  have w1 : IntKind.i64.wrap ((i : Int) + 1) = (i : Int) + 1 := i64_wrap (by omega)
  have q3 := q.ext' x3
  have hbad : badC N l i ≠ 0 → batchF N l 0 l.length = atW wChange i (badC N l i) := fun hb => by
    rw [hF, show l.length - i = (l.length - i - 1) + 1 by omega, batchF, if_pos hb]
  have hgood : badC N l i = 0 → batchF N l 0 l.length = batchF N l (i + 1) (l.length - (i + 1)) := fun hb => by
    rw [hF, show l.length - i = (l.length - (i + 1)) + 1 by omega, batchF, if_neg (by omega)]
  have htw : ((l.take i).any fun d => sameKey d (nthA l i)) = twiceB l i := by
    rw [Bool.eq_iff_iff, twice_iff, List.any_eq_true]
    constructor
    · rintro ⟨d, hd, e⟩
      obtain ⟨k, hk, rfl⟩ := (nthA_take_mem (by omega)).1 hd
      exact ⟨k, hk, e⟩
    · rintro ⟨k, hk, e⟩
      exact ⟨_, (nthA_take_mem (by omega)).2 ⟨k, hk, rfl⟩, e⟩
  simp [c', c'', sem_idxa q3.ok, q3.val i c]
  refine new_store (vs := #[.int .i64 (nthA l i).kd, .int .i64 (nthA l i).a, .int .i64 (nthA l i).i, .int .i64 (nthA l i).o, .int .i64 (nthA l i).w]) rfl rfl (by simp) ?_
  intro C hCp gC bCp eCp stC
  simp
  refine stC _ ?_
  intro h4 C4 e4
  clear stC bCp eCp
  have z4 := e4.size
  have x4 := x3.trans e4
  simp [rd_blk C4]
  rw [show (Value.agg #[.int .i64 (nthA l i).kd, .int .i64 (nthA l i).a, .int .i64 (nthA l i).i, .int .i64 (nthA l i).o, .int .i64 (nthA l i).w]) = actV (nthA l i) from rfl]
  have rt4 := r1.ext (Mod.ext e2 (e3.trans (e4.mono fun _ _ h => h.elim)) (fun j hj => by omega))
  refine lookat_spec D (g.ext x4) rt4 ?_
  intro h5 e5
  have z5 := e5.size
  have x5 := x4.trans e5
  have C5 := C4.ext e5
  simp [rd_blk C5]
  refine new_store (vs := #[.int .i64 (nthA l i).kd, .int .i64 (nthA l i).a, .int .i64 (nthA l i).i, .int .i64 (nthA l i).o, .int .i64 (nthA l i).w]) rfl rfl (by simp) ?_
  intro K hKp gK bKp eKp stK
  simp
  refine stK _ ?_
  intro h6 K6 e6
  clear stK bKp eKp
  have z6 := e6.size
  have x6 := x5.trans e6
  simp
  refine stB K6 (o := 4) (by simp) ?_
  intro h7 K7 e7
  simp at K7
  have z7 := e7.size
  have x7 : Ext h h7 := Mod.ext x6 e7 (fun j hj => by omega)
  have K7 : Blk h7 K #[.int .i64 (nthA l i).kd, .int .i64 (nthA l i).a, .int .i64 (nthA l i).i, .int .i64 (nthA l i).o, .int .i64 0] := K7
  have e37 : Mod (fun j => j = M) h3 h7 := ((((e4.trans e5).trans e6).then e7 (fun j hj hb => by omega)).mono fun _ _ h => h.elim)
  have m7 := m3.mod (((e4.trans e5).trans e6).then e7 (fun j hj hb => by omega)) (fun h => h)
  have e27 := e3.trans e37
  have bad : ∀ (x : Int), badC N l i = x → x ≠ 0 → ∀ (h8 : Heap) (b : Nat), Ext h7 h8 → h7.size ≤ b → Blk h8 b #[.string wChange, .int .i64 i, .iface (Y.tid 49) (.int .i64 x)] → R (.iface (Y.tid 50) (.pointer (some ⟨b, 0, none⟩))) h8 := fun x hx h0 h8 b e8 gb B8 => by
    have hf := hbad (by rw [hx]; exact h0)
    rw [hx] at hf
    rw [hf] at hr
    have := x7.size
    exact hr h8 _ (x7.trans e8) (fun h' m => fault_at (m.blk B8 (by omega)) h0)
  have hbld : ∀ (g : Heap) (x : Int), IOp.sem Y g (.build #[.string ⟨#[]⟩, .int .i64 0, .nilIface] [(0, 1), (1, 1), (2, 1)] [0, 1, 2]) [.string wChange, .int .i64 i, .iface (Y.tid 49) (.int .i64 x)] = some (.agg #[.string wChange, .int .i64 i, .iface (Y.tid 49) (.int .i64 x)]) := fun g x => by simp [IOp.sem, Instr.fill]
  by_cases c3 : oneC N (nthA l i) = 0
  rotate_left
  · have hb : badC N l i = oneC N (nthA l i) := by unfold badC; rw [if_pos c3]
    simp [c3, hbld]
    refine ef_new_box ?_
    intro b h8 g8 B8 e8
    simp
    exact bad _ hb c3 h8 b e8 g8 B8
  obtain ⟨v, hv⟩ := sem_look (Y := Y) m7 (nthA l i)
  rw [htw] at hv
  simp only [keyV] at hv
  cases ht : twiceB l i with
  | true =>
    have hb : badC N l i = 6 := by unfold badC; simp [c3, ht]
    rw [ht] at hv
    simp [c3, rd_blk K7, hv, hbld]
    refine ef_new_box ?_
    intro b h8 g8 B8 e8
    simp
    exact bad _ hb (by decide) h8 b e8 g8 B8
  | false =>
    have hb : badC N l i = 0 := by unfold badC; simp [c3, ht]
    rw [ht] at hv htw
    simp [c3, rd_blk K7, hv]
    refine ef_mupd_new m7 htw ?_
    intro h8 m8 e8
    simp [w1]
    refine ⟨⟨i + 1, _, _, _, _, _, _, _, _, _, _, _, _, _, rfl, by omega, hgood hb, ?_, e27.trans e8⟩, by simp [argI]; omega⟩
    have : l.take (i + 1) = l.take i ++ [nthA l i] := by rw [List.take_succ_eq_append_getElem c]; simp [nthA, c]
    rw [this]
    exact m8
end
end Go.Rm

/- Batches: done by the program, and by the document. -/
set_option linter.unusedSimpArgs false
set_option linter.unusedVariables false
namespace Go.Rm
/-- a net behind one change, behind some -/
def chN (N : NetD) (c : Act5) : NetD := if c.kd = 1 then setN N c.a c.w else bendN N c.a c.i c.o c.w
def applyN (N : NetD) (l : List Act5) : NetD := l.foldl chN N
theorem applyN_snoc {N : NetD} {l : List Act5} {i : Nat} (hi : i < l.length) : applyN N (l.take (i + 1)) = chN (applyN N (l.take i)) (nthA l i) := by
  unfold applyN
  rw [List.take_succ_eq_append_getElem hi, List.foldl_append]
  simp [nthA, hi]
theorem chN_ok {N : NetD} (ok : NetOK N) {c : Act5} : NetOK (chN N c) := by
  unfold chN
  split
  · exact setN_ok ok
  · exact bendN_ok ok
theorem applyN_ok {l : List Act5} : ∀ {N : NetD}, NetOK N → NetOK (applyN N l) := by
  induction l with
  | nil => intro N ok; exact ok
  | cons t r ih => intro N ok; exact ih (chN_ok ok)
/-- of the same shape -/
structure DimEq (N M : NetD) : Prop where
  vs : M.vs = N.vs
  al : M.as.length = N.as.length
  ab : ∀ a, (nthT M.as a).a = (nthT N.as a).a ∧ (nthT M.as a).b = (nthT N.as a).b
  tl : M.ts.length = N.ts.length
  tb : ∀ t, (nthB M.ts t).i = (nthB N.ts t).i ∧ (nthB M.ts t).o = (nthB N.ts t).o
theorem DimEq.refl {N : NetD} : DimEq N N := ⟨rfl, rfl, fun _ => ⟨rfl, rfl⟩, rfl, fun _ => ⟨rfl, rfl⟩⟩
theorem DimEq.trans {N M K : NetD} (h : DimEq N M) (k : DimEq M K) : DimEq N K :=
  ⟨k.vs.trans h.vs, k.al.trans h.al, fun a => ⟨(k.ab a).1.trans (h.ab a).1, (k.ab a).2.trans (h.ab a).2⟩, k.tl.trans h.tl, fun t => ⟨(k.tb t).1.trans (h.tb t).1, (k.tb t).2.trans (h.tb t).2⟩⟩
theorem DimEq.one {N M : NetD} (h : DimEq N M) (c : Act5) : oneC M c = oneC N c := by
  unfold oneC isTurnB
  rw [h.al, h.tl, (h.tb _).1, (h.tb _).2]
/-- what a change that may be does -/
theorem ch_set {N : NetD} {c : Act5} (h : oneC N c = 0) (hk : c.kd = 1) : ∃ a : Nat, c.a = a ∧ a < N.as.length ∧ weightB c.w = true ∧ setW N c.a c.w = wOK ∧ setN N c.a c.w = { N with as := N.as.set a ⟨(nthT N.as a).a, (nthT N.as a).b, c.w⟩ } := by
  unfold oneC at h
  rw [if_pos hk] at h
  split at h
  · cases h
  split at h
  · cases h
  split at h
  · rename_i h1 h2 h3
    have h2 : vtxB N.as.length c.a = true := by simpa using h2
    simp [vtxB] at h2
    obtain ⟨e1, e2⟩ := setN_at (N := N) (a := c.a.toNat) (w := c.w) (by omega) h3
    have e : (c.a.toNat : Int) = c.a := by omega
    rw [e] at e1 e2
    exact ⟨c.a.toNat, by omega, by omega, h3, e1, e2⟩
  · cases h
theorem ch_bend {N : NetD} (ok : NetOK N) {c : Act5} (h : oneC N c = 0) (hk : c.kd ≠ 1) : c.kd = 2 ∧ ∃ t A B o : Nat, c.a = t ∧ c.i = A ∧ c.o = B ∧ t < N.ts.length ∧ (nthB N.ts t).o = o ∧ (A : Int) < (nthB N.ts t).i ∧ B < o ∧ A * o + B < (nthB N.ts t).cs.length ∧ weightB c.w = true ∧
    bendW N c.a c.i c.o c.w = wOK ∧ bendN N c.a c.i c.o c.w = { N with ts := N.ts.set t ⟨(nthB N.ts t).i, (nthB N.ts t).o, (nthB N.ts t).cs.set (A * o + B) c.w⟩ } := by
  unfold oneC at h
  rw [if_neg hk] at h
  split at h
  rotate_left
  · cases h
  rename_i hk2
  split at h
  · cases h
  split at h
  rotate_left
  · cases h
  rename_i h1 h2
  refine ⟨hk2, ?_⟩
  have h1 : isTurnB N c = true := by simpa using h1
  simp only [isTurnB, decide_eq_true_eq] at h1
  obtain ⟨b1, b2, b3, b4, b5, b6⟩ := h1
  have hT := ok.tab c.a.toNat (by omega)
  obtain ⟨a1, a2, a3, a4, a5, a6, a7⟩ := tab_ok hT
  obtain ⟨z, hz⟩ : ∃ z : Nat, c.a = z := ⟨c.a.toNat, by omega⟩
  obtain ⟨A, hA⟩ : ∃ z : Nat, c.i = z := ⟨c.i.toNat, by omega⟩
  obtain ⟨B, hB⟩ : ∃ z : Nat, c.o = z := ⟨c.o.toNat, by omega⟩
  rw [hz] at b1 b2 b4 b6 a1 a3 a5 hT
  rw [hA] at b3 b4
  rw [hB] at b5 b6
  simp only [Int.toNat_natCast] at b4 b6 a1 a3 a5 hT
  obtain ⟨i, hi⟩ : ∃ x : Nat, (nthB N.ts z).i = x := ⟨(nthB N.ts z).i.toNat, by omega⟩
  obtain ⟨o, ho⟩ : ∃ x : Nat, (nthB N.ts z).o = x := ⟨(nthB N.ts z).o.toNat, by omega⟩
  rw [hi] at b4 a5
  rw [ho] at b6 a5
  have hlen : (nthB N.ts z).cs.length = i * o := by
    have : ((nthB N.ts z).cs.length : Int) = ((i * o : Nat) : Int) := by rw [a5]; simp
    omega
  obtain ⟨e1, e2⟩ := bendN_at (p := A * o + B) ok (t := z) (by omega) hi ho (A := A) (B := B) (by omega) (by omega) rfl h2
  have hp : A * o + B < i * o := by
    have : (A + 1) * o ≤ i * o := Nat.mul_le_mul_right o (by omega)
    rw [Nat.add_mul] at this
    omega
  rw [hz, hA, hB]
  exact ⟨z, A, B, o, rfl, rfl, rfl, by omega, ho, by rw [hi]; exact b4, by omega, by rw [hlen]; exact hp, h2, e1, e2⟩
theorem ch_dim {N : NetD} (ok : NetOK N) {c : Act5} (h : oneC N c = 0) : DimEq N (chN N c) := by
  unfold chN
  split
  · rename_i hk
    obtain ⟨a, _, la, _, _, e⟩ := ch_set h hk
    rw [e]
    exact ⟨rfl, by simp, fun j => nthT_set_ab la, rfl, fun _ => ⟨rfl, rfl⟩⟩
  · rename_i hk
    obtain ⟨_, t, A, B, o, _, _, _, lt, _, _, _, _, _, _, e⟩ := ch_bend ok h hk
    rw [e]
    refine ⟨rfl, rfl, fun _ => ⟨rfl, rfl⟩, by simp, fun j => ?_⟩
    simp only [nthB_set lt]
    split
    · rename_i q; subst q; exact ⟨rfl, rfl⟩
    · exact ⟨rfl, rfl⟩
theorem apply_dim {l : List Act5} : ∀ {N : NetD}, NetOK N → (∀ c, c ∈ l → oneC N c = 0) → DimEq N (applyN N l) := by
  induction l with
  | nil => intro N _ _; exact DimEq.refl
  | cons c r ih =>
    intro N ok hall
    have d := ch_dim ok (hall c (by simp))
    exact d.trans (ih (chN_ok ok) (fun x hx => by rw [d.one]; exact hall x (by simp [hx])))
theorem batchF_ok {N : NetD} {l : List Act5} : ∀ {m k : Nat}, (batchF N l k m).2 = 0 → ∀ i, k ≤ i → i < k + m → badC N l i = 0 := by
  intro m
  induction m with
  | zero => intro k _ i h1 h2; omega
  | succ m ih =>
    intro k h i h1 h2
    rw [batchF] at h
    split at h
    · rename_i q; exact absurd h q
    · rename_i q
      by_cases e : i = k
      · subst e; exact Decidable.byContradiction q
      · exact ih h i (by omega) (by omega)
theorem batch_ok {N : NetD} {l : List Act5} (h : (batchW N l).2 = 0) : l.length ≤ 256 ∧ ∀ i, i < l.length → badC N l i = 0 := by
  unfold batchW at h
  split at h
  · cases h
  · exact ⟨by omega, fun i hi => batchF_ok h i (by omega) (by omega)⟩
theorem bad_one {N : NetD} {l : List Act5} {i : Nat} (h : badC N l i = 0) : oneC N (nthA l i) = 0 := by
  unfold badC at h
  split at h
  · assumption
  · rename_i q; exact Decidable.byContradiction q
theorem batch_one {N : NetD} {l : List Act5} (h : (batchW N l).2 = 0) {c : Act5} (hc : c ∈ l) : oneC N c = 0 := by
  obtain ⟨k, hk, e⟩ := List.mem_iff_getElem.1 hc
  have := bad_one ((batch_ok h).2 k hk)
  rwa [show nthA l k = c by simp [nthA, hk, e]] at this
theorem batch_wOK {N : NetD} {l : List Act5} (h : (batchW N l).2 = 0) : batchW N l = wOK := by
  have key : ∀ m k, (batchF N l k m).2 = 0 → batchF N l k m = wOK := by
    intro m
    induction m with
    | zero => intro k _; rfl
    | succ m ih =>
      intro k h
      rw [batchF] at h ⊢
      split
      · rename_i q; rw [if_pos q] at h; exact absurd h q
      · rename_i q; rw [if_neg q] at h; exact ih _ h
  unfold batchW at h ⊢
  split
  · rename_i q; rw [if_pos q] at h; cases h
  · rename_i q; rw [if_neg q] at h; exact key _ _ h
structure BatchAp (Y : Sys) : Prop where
  C : BatchCk Y
  Apply : Y.Has F.batch_Apply S_batch_Apply
  GS : GrSet Y
  GB : GrBend Y
  T : TurnFns Y
section
variable {Y : Sys} {h h' : Heap}
def BapI (p : Nat) (s : Sl) (N : NetD) (l : List Act5) (S0 : Nat → Prop) (h0 : Heap) (e : List Value) (h' : Heap) : Prop :=
  ∃ (i : Nat) (S : Nat → Prop) (v2 v4 v5 v10 v11 v12 v13 v14 : Value), e = [.pointer (some ⟨p, 0, none⟩), s.v, v2, .nilIface, v4, v5, .bool false, s.v, .int .i64 s.n, .int .i64 i, v10, v11, v12, v13, v14] ∧ i ≤ l.length ∧ GraphA h' p (applyN N (l.take i)) S ∧ (∀ b, S b → S0 b ∨ h0.size ≤ b) ∧ (∀ b, S0 b → S b) ∧ Mod S0 h0 h'
set_option maxHeartbeats 1000000 in
theorem bapply_spec (D : BatchAp Y) {p : Nat} {N : NetD} {S : Nat → Prop} (g : GraphA h p N S) (ok : NetOK N) {s : Sl} {l : List Act5} (q : Row5 h s l) (hS : s.nl = false → ¬ S s.b) {R : Value → Heap → Prop}
    (hbad : ∀ h' v, (batchW N l).2 ≠ 0 → Ext h h' → FErr Y h.size h' (batchW N l) v → R v h')
    (hr : ∀ h' S', (batchW N l).2 = 0 → Mod S h h' → GraphA h' p (applyN N l) S' → (∀ b, S' b → S b ∨ h.size ≤ b) → R .nilIface h') : CallP Y F.batch_Apply [.pointer (some ⟨p, 0, none⟩), s.v] h R := by
  have ll := q.len
  refine .of_has D.Apply rfl ?_
  simp [S_batch_Apply, FnS.wp]
  refine bcheck_spec D.C g ok q ?_
  intro h1 v e1 fv
  by_cases c0 : (batchW N l).2 = 0
  rotate_left
  · obtain ⟨t, u, hv⟩ := fv.here.iface c0
    subst hv
    simp
    exact hbad h1 _ c0 e1 fv
  have hv := Err.nil fv.here c0
  subst hv
  obtain ⟨hl, hb⟩ := batch_ok c0
  simp
  have z1 := e1.size
  refine wp_loop' (BapI p s N l S h1) (fun e _ => l.length - argI e 9) ⟨0, S, _, _, _, _, _, _, _, _, rfl, by omega, g.ext e1, fun b hb => .inl hb, fun b hb => hb, Mod.refl _⟩ ?_
  rintro e h2 ⟨i, S2, v2, v4, v5, v10, v11, v12, v13, v14, rfl, hi, g2, hS2, hS2', m2⟩
  have z2 := m2.size
  by_cases c : i < l.length
  rotate_left
  · have c' : ¬ (i : Int) < s.n := by omega
    obtain rfl : i = l.length := by omega
    rw [List.take_length] at g2
    simp [c']
    exact hr h2 S2 c0 ((e1.mono fun _ _ h => h.elim).then m2 (fun j hj hb => hb)) g2 (fun b hb => by rcases hS2 b hb with k | k; exact .inl k; right; omega)
  have c' : (i : Int) < s.n := by omega
  have c'' : i < s.n := by omega
  have w1 : IntKind.i64.wrap ((i : Int) + 1) = (i : Int) + 1 := i64_wrap (by omega)
  have hnl : s.nl = false := by
    cases k : s.nl with
    | false => rfl
    | true => have := (q.ok.nil k).1; omega
  have m02 : Mod S h h2 := (e1.mono fun _ _ h => h.elim).then m2 (fun j hj hb => hb)
  have rc := m02.rd (q.val i c) (hS hnl)
  have lsb := rd_lt (n := 4) (q.val i c)
  have lok := applyN_ok (l := l.take i) ok
  have dm := apply_dim (l := l.take i) ok (fun x hx => batch_one c0 (List.mem_of_mem_take hx))
  have one : oneC (applyN N (l.take i)) (nthA l i) = 0 := by rw [dm.one]; exact bad_one (hb i c)
  have hsn := applyN_snoc (N := N) c
  generalize nthA l i = cc at rc one hsn
  obtain ⟨kd, a, ii, o, w⟩ := cc
  simp only at rc
  simp [c', c'', sem_idxa q.ok, rc]
  refine new_store (vs := #[.int .i64 kd, .int .i64 a, .int .i64 ii, .int .i64 o, .int .i64 w]) rfl rfl (by simp) ?_
  intro C hCp gC bCp eCp stC
  simp
  refine stC _ ?_
  intro h4 C4 e4
  clear stC bCp eCp
  have z4 := e4.size
  have g4 := g2.ext e4
  simp [C4.hc]
  by_cases k1 : kd = 1
  · obtain ⟨a', ea, la', hw, w0, sn⟩ := ch_set one k1
    simp only at ea hw w0 sn
    simp [k1, C4.hc]
    refine gset_spec D.GS g4 ?_
    intro v6 h6 m6 g6 f6
    rw [w0] at f6
    have v6n := Err.nil f6.here rfl
    subst v6n
    have z6 := m6.size
    have hch : applyN N (l.take (i + 1)) = setN (applyN N (l.take i)) a w := by rw [hsn]; simp [chN, k1]
    rw [← hch] at g6
    simp [w1]
    refine ⟨⟨i + 1, S2, _, _, _, _, _, _, _, _, rfl, by omega, g6, hS2, hS2', ?_⟩, by simp [argI]; omega⟩
    exact (m2.trans (e4.mono fun _ _ h => h.elim)).then m6 (fun j hj hb => by rcases hS2 j hb with k | k; exact k; omega)
  · obtain ⟨k2, t, A, B, o', ea, ei, eo, lt, ho, l1, l2, lp, hw, w0, sn⟩ := ch_bend lok one k1
    simp only at k2 ea ei eo hw w0 sn
    simp [k1, k2, C4.hc]
    refine gbend_spec D.GB D.T g4 ?_
    intro v6 h6 S6 m6 hS6 hS6' g6 f6
    rw [w0] at f6
    have v6n := Err.nil f6.here rfl
    subst v6n
    have z6 := m6.size
    have hch : applyN N (l.take (i + 1)) = bendN (applyN N (l.take i)) a ii o w := by rw [hsn]; simp [chN, k1]
    rw [← hch] at g6
    simp [w1]
    refine ⟨⟨i + 1, S6, _, _, _, _, _, _, _, _, rfl, by omega, g6, fun b hb => ?_, fun b hb => hS6' b (hS2' b hb), ?_⟩, by simp [argI]; omega⟩
    · rcases hS6 b hb with k | k
      · exact hS2 b k
      · right; omega
    · exact (m2.trans (e4.mono fun _ _ h => h.elim)).then m6 (fun j hj hb => by rcases hS2 j hb with k | k; exact k; omega)
end
end Go.Rm

/- Batches: done by the document; changes handed over. -/
set_option linter.unusedSimpArgs false
set_option linter.unusedVariables false
namespace Go.Rm
/-- a net in memory of one's own, its rows apart -/
structure NetO (lo up : Nat) (h : Heap) (s1 s2 s3 : Sl) (P : List (Tab × Sl)) (M : NetD) : Prop where
  o1 : Own h 3 s1 (cells3 (M.vs.map triV))
  o2 : Own h 3 s2 (cells3 (M.as.map triV))
  o3 : Own h 3 s3 (cells3 (P.map tabP))
  hP : P.map Prod.fst = M.ts
  pw : P.Pairwise (fun p q => p.2.b ≠ q.2.b)
  px : ∀ p, p ∈ P → (Own h 1 p.2 (ints64 p.1.cs) ∧ p.2.nl = false) ∧ lo ≤ p.2.b ∧ p.2.b ≠ s1.b ∧ p.2.b ≠ s2.b ∧ (s3.nl = false → p.2.b ≠ s3.b) ∧ p.2.b < up
  u2 : s2.b < up
  f1 : lo ≤ s1.b
  f2 : lo ≤ s2.b
  d12 : s1.b ≠ s2.b
  f3 : s3.nl = false → lo ≤ s3.b ∧ s3.b ≠ s1.b ∧ s3.b ≠ s2.b
section
variable {Y : Sys} {h h' : Heap} {lo up : Nat} {s1 s2 s3 : Sl} {P : List (Tab × Sl)} {M : NetD}
theorem NetO.netH (n : NetO lo up h s1 s2 s3 P M) : NetH h s1 s2 s3 M := ⟨n.o1.row3, n.o2.row3, n.o3.rowT n.hP (fun q hq => (n.px q hq).1.1.row64)⟩
theorem NetO.mod {S : Nat → Prop} (n : NetO lo up h s1 s2 s3 P M) (m : Mod S h h') (hs : ∀ j, S j → j < lo) : NetO lo up h' s1 s2 s3 P M :=
  { n with
    o1 := n.o1.mod m (fun _ hb => by have := hs _ hb; have := n.f1; omega)
    o2 := n.o2.mod m (fun _ hb => by have := hs _ hb; have := n.f2; omega)
    o3 := n.o3.mod m (fun hn hb => by have := hs _ hb; have := (n.f3 hn).1; omega)
    px := fun p hp => ⟨⟨(n.px p hp).1.1.mod m (fun _ hb => by have := hs _ hb; have := (n.px p hp).2.1; omega), (n.px p hp).1.2⟩, (n.px p hp).2⟩ }
theorem NetO.ext (n : NetO lo up h s1 s2 s3 P M) (m : Ext h h') : NetO lo up h' s1 s2 s3 P M := n.mod m fun _ h => h.elim
theorem NetO.setA {K : Value → Heap → Prop} (n : NetO lo up h s1 s2 s3 P M) {a : Nat} {w : Int} (ha : a < M.as.length)
    (hk : ∀ h', NetO lo up h' s1 s2 s3 P { M with as := M.as.set a ⟨(nthT M.as a).a, (nthT M.as a).b, w⟩ } → Mod (fun j => j = s2.b) h h' → K undef h') : StoreP h s2.b (s2.o + (a * 3 + 2)) (.int .i64 w) K := by
  refine stN n.o2 (k := a * 3 + 2) (by rw [cells3_len]; simp; omega) ?_
  intro h' o2 m
  rw [(tri_set ha).2.2] at o2
  have f2 := n.f2
  refine hk h' ?_ m
  exact { o1 := n.o1.mod m (fun _ hb => n.d12 hb)
          o2 := o2
          o3 := n.o3.mod m (fun hn hb => (n.f3 hn).2.2 hb)
          hP := n.hP
          pw := n.pw
          px := fun p hp => ⟨⟨(n.px p hp).1.1.mod m (fun _ hb => (n.px p hp).2.2.2.1 hb), (n.px p hp).1.2⟩, (n.px p hp).2⟩
          u2 := n.u2
          f1 := n.f1
          f2 := n.f2
          d12 := n.d12
          f3 := n.f3 }
theorem NetO.stC (n : NetO lo up h s1 s2 s3 P M) {t : Nat} (ht : t < M.ts.length) (hp : t < P.length) {K : Value → Heap → Prop} {k : Nat} {w : Int} (hk : k < (nthB M.ts t).cs.length)
    (hK : ∀ h' P', NetO lo up h' s1 s2 s3 P' { M with ts := M.ts.set t ⟨(nthB M.ts t).i, (nthB M.ts t).o, (nthB M.ts t).cs.set k w⟩ } → Mod (fun j => j = P[t].2.b) h h' → K undef h') : StoreP h P[t].2.b (P[t].2.o + k) (.int .i64 w) K := by
  have e : nthB M.ts t = P[t].1 := by
    rw [nthB_eq ht]
    simp only [← n.hP, List.getElem_map]
  have hm : P[t] ∈ P := List.getElem_mem hp
  obtain ⟨⟨o, nl⟩, g2, g3, g4, g5, g6⟩ := n.px _ hm
  rw [e] at hk hK
  refine stN o (k := k) (by rw [ints64_len]; exact hk) ?_
  intro h' o' m
  rw [ints64_set] at o'
  refine hK h' (P.set t (⟨P[t].1.i, P[t].1.o, P[t].1.cs.set k w⟩, P[t].2)) ?_ m
  have hne : ∀ p, p ∈ P.set t (⟨P[t].1.i, P[t].1.o, P[t].1.cs.set k w⟩, P[t].2) → p = (⟨P[t].1.i, P[t].1.o, P[t].1.cs.set k w⟩, P[t].2) ∨ (p ∈ P ∧ p.2.b ≠ P[t].2.b) := fun p hp' => by
    obtain ⟨j, hj, ej⟩ := List.mem_iff_getElem.1 hp'
    rw [List.getElem_set] at ej
    split at ej
    · exact .inl ej.symm
    · rename_i q
      right
      subst ej
      simp at hj
      refine ⟨List.getElem_mem hj, ?_⟩
      have := List.pairwise_iff_getElem.1 n.pw
      rcases Nat.lt_or_ge j t with k1 | k1
      · exact this j t hj hp k1
      · exact (this t j hp hj (by omega)).symm
  exact { o1 := n.o1.mod m (fun _ hb => g3 hb.symm)
          o2 := n.o2.mod m (fun _ hb => g4 hb.symm)
          o3 := by
            have : (P.set t (⟨P[t].1.i, P[t].1.o, P[t].1.cs.set k w⟩, P[t].2)).map tabP = P.map tabP := by
              rw [List.map_set]
              apply List.ext_getElem (by simp)
              intro j a1 a2
              rw [List.getElem_set]
              split
              · rename_i q; subst q; simp [tabP]
              · rfl
            rw [this]
            exact n.o3.mod m (fun hn hb => g5 hn hb.symm)
          hP := by rw [List.map_set, n.hP]
          pw := by
            rw [List.pairwise_iff_getElem]
            intro i j hi hj hij
            simp at hi hj
            have q := List.pairwise_iff_getElem.1 n.pw i j hi hj hij
            rw [List.getElem_set, List.getElem_set]
            split <;> split <;> simp_all
          px := fun p hp' => by
            rcases hne p hp' with rfl | ⟨h1, h2⟩
            · exact ⟨⟨o', nl⟩, g2, g3, g4, g5, g6⟩
            · exact ⟨⟨(n.px p h1).1.1.mod m (fun _ hb => h2 hb), (n.px p h1).1.2⟩, (n.px p h1).2⟩
          u2 := n.u2
          f1 := n.f1
          f2 := n.f2
          d12 := n.d12
          f3 := n.f3 }
theorem NetO.at (n : NetO lo up h s1 s2 s3 P M) {t : Nat} (ht : t < M.ts.length) : ∃ u : Sl, rd h s3.b (s3.o + t * 3) 3 = some [.int .i64 (nthB M.ts t).i, .int .i64 (nthB M.ts t).o, u.v] ∧ Own h 1 u (ints64 (nthB M.ts t).cs) ∧ lo ≤ u.b ∧ u.b < up ∧
    ∀ g, Ext h g → ∀ (K : Value → Heap → Prop) (k : Nat) (w : Int), k < (nthB M.ts t).cs.length → (∀ h' P', NetO lo up h' s1 s2 s3 P' { M with ts := M.ts.set t ⟨(nthB M.ts t).i, (nthB M.ts t).o, (nthB M.ts t).cs.set k w⟩ } → Mod (fun j => j = u.b) g h' → K undef h') → StoreP g u.b (u.o + k) (.int .i64 w) K := by
  have hl : P.length = M.ts.length := by have := congrArg List.length n.hP; simpa using this
  have hp : t < P.length := by omega
  have e : nthB M.ts t = P[t].1 := by
    rw [nthB_eq ht]
    simp only [← n.hP, List.getElem_map]
  have hm : P[t] ∈ P := List.getElem_mem hp
  obtain ⟨⟨o, nl⟩, g2, g3, g4, g5, g6⟩ := n.px _ hm
  refine ⟨P[t].2, ?_, by rw [e]; exact o, g2, g6, fun g eg K k w hk hK => (n.ext eg).stC ht hp hk hK⟩
  have g := n.o3.get3 (i := t) (by simpa using hp)
  rw [List.getElem_map] at g
  rw [e]
  refine rd_of (l := [_, _, _]) (fun j v hj => ?_)
  match j with
  | 0 => simp at hj; subst hj; exact g.1
  | 1 => simp at hj; subst hj; exact g.2.1
  | 2 => simp at hj; subst hj; exact g.2.2
  | j + 3 => simp at hj
structure RefAp (Y : Sys) : Prop where
  Apply : Y.Has F.rref20_Apply S_rref20_Apply
  Copy : Y.Has F.rref6_CopyNet S_rref6_CopyNet
def RapI (D C : Nat) (v0 v2 : Value) (s s1 s2 s3 : Sl) (N : NetD) (l : List Act5) (lo up : Nat) (h0 : Heap) (e : List Value) (h' : Heap) : Prop :=
  ∃ (i : Nat) (P : List (Tab × Sl)) (v6 v7 v8 v9 : Value), e = [v0, s.v, v2, .pointer (some ⟨C, 0, none⟩), .pointer (some ⟨D, 0, none⟩), .int .i64 i, v6, v7, v8, v9] ∧ i ≤ l.length ∧ NetO lo up h' s1 s2 s3 P (applyN N (l.take i)) ∧ Blk h' D #[s1.v, s2.v, s3.v] ∧ Blk h' C #[.slice none 0 0, .slice none 0 0, .slice none 0 0] ∧ Ext h0 h'
set_option maxHeartbeats 1000000 in
theorem rapply_spec (X : RefAp Y) {sv sa st s : Sl} {N : NetD} {l : List Act5} (r : NetH h sv sa st N) (ok : NetOK N) (q : Row5 h s l) (h0 : (batchW N l).2 = 0) {R : Value → Heap → Prop}
    (hr : ∀ h' s1 s2 s3, Ext h h' → (∀ k, Mod (fun j => j < h.size) h' k → NetH k s1 s2 s3 (applyN N l)) → R (netV s1 s2 s3) h') : CallP Y F.rref20_Apply [netV sv sa st, s.v] h R := by
  have ll := q.len
  obtain ⟨hl, hb⟩ := batch_ok h0
  refine .of_has X.Apply rfl ?_
  simp [S_rref20_Apply, FnS.wp, netV]
  refine ef_new_box ?_
  intro A hA gA bA eA
  simp
  refine ef_new_box ?_
  intro C hC gC bC eC
  have bC : Blk hC C #[.slice none 0 0, .slice none 0 0, .slice none 0 0] := bC
  have xC := eA.trans eC
  have zA := eA.size
  have zC := eC.size
  have lC := bC.lt
  simp [rd_blk (bA.ext eC)]
  rw [show (Value.agg #[sv.v, sa.v, st.v]) = netV sv sa st from rfl]
  refine rcopynetO_spec X.Copy (r.ext xC) ok.small ?_
  intro h1 s1 s2 s3 P e1 o1 o2 o3 hP pw px f1 f2 d12 f3
  have z1 := e1.size
  have nl2 : s2.nl = false := by
    cases k : s2.nl with
    | false => rfl
    | true =>
      rcases o2.2 with ⟨e, _⟩ | ⟨e, _⟩
      · rw [e] at f2
        have : Sl.nil.b = 0 := rfl
        omega
      · rw [e] at k; cases k
  have n1 : NetO hC.size h1.size h1 s1 s2 s3 P N := ⟨o1, o2, o3, hP, pw, fun p hp => ⟨(px p hp).1, (px p hp).2.1, (px p hp).2.2.1, (px p hp).2.2.2.1, (px p hp).2.2.2.2, (px p hp).1.1.lt (px p hp).1.2⟩, o2.lt nl2, f1, f2, d12, f3⟩
  clear o1 o2 o3 hP pw px f1 f2 d12 f3
  have x1 := xC.trans e1
  simp [netV]
  refine new_store (vs := #[s1.v, s2.v, s3.v]) rfl rfl (by simp) ?_
  intro D hDp gD bDp eDp stD
  simp
  refine stD _ ?_
  intro h2 D2 e2
  clear stD bDp eDp
  have z2 := e2.size
  have x2 := x1.trans e2
  have lD := D2.lt
  simp
  -- the copy's box lies behind the copy; the copy's rows are written
  refine wp_loop' (RapI D C (.agg #[sv.v, sa.v, st.v]) (.pointer (some ⟨A, 0, none⟩)) s s1 s2 s3 N l hC.size h1.size h) (fun e _ => l.length - argI e 5) ⟨0, P, _, _, _, _, rfl, by omega, n1.ext e2, D2, (bC.ext e1).ext e2, x2⟩ ?_
  rintro e h3 ⟨i, P3, v6, v7, v8, v9, rfl, hi, n3, D3, C3, x3⟩
  by_cases c : i < l.length
  rotate_left
  · have c' : ¬ (i : Int) < s.n := by omega
    obtain rfl : i = l.length := by omega
    rw [List.take_length] at n3
    simp [c', rd_blk D3]
    refine ef_store_box C3 rfl rfl (by simp) ?_
    intro h4 C4 m4
    simp
    refine resP_x rfl C4 rfl ?_
    exact hr h4 s1 s2 s3 (Mod.ext x3 m4 (fun j hj => by omega)) (fun k mk => ((n3.mod m4 (fun j hj => by omega)).mod mk (fun j hj => by omega)).netH)
  have c' : (i : Int) < s.n := by omega
  have c'' : i < s.n := by omega
  have w1 : IntKind.i64.wrap ((i : Int) + 1) = (i : Int) + 1 := i64_wrap (by omega)
  have rc := x3.rd (q.val i c) (fun h => h)
  have lok := applyN_ok (l := l.take i) ok
  have dm := apply_dim (l := l.take i) ok (fun x hx => batch_one h0 (List.mem_of_mem_take hx))
  have one : oneC (applyN N (l.take i)) (nthA l i) = 0 := by rw [dm.one]; exact bad_one (hb i c)
  have hsn := applyN_snoc (N := N) c
  generalize nthA l i = cc at rc one hsn
  obtain ⟨kd, a, ii, o, w⟩ := cc
  simp only at rc
  simp [c', c'', sem_idxa q.ok, rc]
  refine new_store (vs := #[.int .i64 kd, .int .i64 a, .int .i64 ii, .int .i64 o, .int .i64 w]) rfl rfl (by simp) ?_
  intro K hKp gK bKp eKp stK
  simp
  refine stK _ ?_
  intro h4 K4 e4
  clear stK bKp eKp
  have z3 := x3.size
  have z4 := e4.size
  have n4 := n3.ext e4
  have D4 := D3.ext e4
  have x4 := x3.trans e4
  simp [K4.hc]
  by_cases k1 : kd = 1
  · obtain ⟨a', ea, la', hw, w0, sn⟩ := ch_set one k1
    simp only at ea hw w0 sn
    subst ea
    have ln := n4.netH.ra.len
    have la2 : (a' : Int) < s2.n := by omega
    simp [k1, D4.hc, K4.hc, sem_idxa n4.o2.ok, la2]
    refine n4.setA la' ?_
    intro h5 n5 m5
    have z5 := m5.size
    have u2 := n4.u2
    have f2 := n4.f2
    have hch : applyN N (l.take (i + 1)) = setN (applyN N (l.take i)) a' w := by rw [hsn]; simp [chN, k1]
    rw [← sn, ← hch] at n5
    simp [w1]
    exact ⟨⟨i + 1, P3, _, _, _, _, rfl, by omega, n5, m5.blk D4 (by omega), m5.blk (C3.ext e4) (by omega), Mod.ext x4 m5 (fun j hj => by omega)⟩, by simp [argI]; omega⟩
  · obtain ⟨k2, t, A', B', o', ea, ei, eo, lt, ho, l1, l2, lp, hw, w0, sn⟩ := ch_bend lok one k1
    simp only at k2 ea ei eo hw w0 sn
    subst ea ei eo
    have ln := n4.netH.rt.len
    have lt2 : (t : Int) < s3.n := by omega
    obtain ⟨u, rdu, ou, fu, lu, hst⟩ := n4.at lt
    obtain ⟨a1, a2, a3, a4, a5, _, _⟩ := tab_ok (lok.tab t lt)
    obtain ⟨ti, hti⟩ : ∃ x : Nat, (nthB (applyN N (l.take i)).ts t).i = x := ⟨(nthB (applyN N (l.take i)).ts t).i.toNat, by omega⟩
    rw [ho, hti] at rdu
    rw [hti] at a1 a2 l1
    rw [ho] at a3 a4
    simp [k1, D4.hc, K4.hc, sem_idxa n4.o3.ok, lt2, rdu]
    refine new_store (vs := #[.int .i64 ti, .int .i64 o', u.v]) rfl rfl (by simp) ?_
    intro T hTp gT bTp eTp stT
    simp
    refine stT _ ?_
    intro h5 T5 e5
    clear stT bTp eTp
    have z5 := e5.size
    have K5 := K4.ext e5
    have x5 := x4.trans e5
    have ou5 := ou.ext' e5
    have lou := ou5.row64.len
    have hz : A' * o' ≤ 16 * 16 := Nat.mul_le_mul (by omega) (by omega)
    obtain ⟨z, hz'⟩ : ∃ z : Nat, A' * o' = z := ⟨_, rfl⟩
    have ez : (A' : Int) * (o' : Int) = z := by rw [← hz']; simp
    rw [hz'] at lp hz sn
    have wm : IntKind.i64.wrap ((A' : Int) * o') = (z : Int) := by
      rw [ez, i64_wrap (by omega)]
    have wp : IntKind.i64.wrap ((z : Int) + B') = ((z + B' : Nat) : Int) := by
      rw [i64_wrap (by omega)]
      simp
    have lp' : ((z + B' : Nat) : Int) < u.n := by omega
    have hix := sem_idxa (Y := Y) (h := h5) (s := u) (sz := 1) (k := .i64) (i := ((z + B' : Nat) : Int)) ou5.ok (by omega) (by omega)
    simp only [Int.toNat_natCast, Nat.mul_one] at hix
    rw [show ((z + B' : Nat) : Int) = (z : Int) + (B' : Int) by simp] at hix
    simp [T5.hc, K5.hc, wm, wp, hix]
    refine hst h5 e5 _ (z + B') w lp ?_
    intro h6 P6 n6 m6
    have hch : applyN N (l.take (i + 1)) = bendN (applyN N (l.take i)) t A' B' w := by rw [hsn]; simp [chN, k1]
    rw [← sn, ← hch] at n6
    simp [w1]
    exact ⟨⟨i + 1, P6, _, _, _, _, rfl, by omega, n6, m6.blk (D4.ext e5) (by omega), m6.blk ((C3.ext e4).ext e5) (by omega), Mod.ext x5 m6 (fun j hj => by omega)⟩, by simp [argI]; omega⟩
end
end Go.Rm

/- Batches: changes handed over. -/
set_option linter.unusedSimpArgs false
set_option linter.unusedVariables false
namespace Go.Rm
def chL (c : Act5) : List Value := [.int .i64 c.kd, .int .i64 c.a, .int .i64 c.i, .int .i64 c.o, .int .i64 c.w]
def cells5 (l : List Act5) : List Value := l.flatMap chL
theorem cells5_len {l : List Act5} : (cells5 l).length = l.length * 5 := by
  induction l with
  | nil => rfl
  | cons a r ih => simp only [cells5, List.flatMap_cons, List.length_append, List.length_cons] at ih ⊢; rw [ih]; simp [chL]; omega
theorem cells5_app {l m : List Act5} : cells5 (l ++ m) = cells5 l ++ cells5 m := by simp [cells5]
theorem cells5_at {l : List Act5} : ∀ {i k : Nat}, i < l.length → k < 5 → (cells5 l)[i * 5 + k]? = (chL (nthA l i))[k]? := by
  induction l with
  | nil => intro i k h; simp at h
  | cons a r ih =>
    intro i k h hk
    have e : cells5 (a :: r) = chL a ++ cells5 r := by simp [cells5]
    rw [e]
    cases i with
    | zero => rw [List.getElem?_append_left (by simp [chL]; omega)]; simp [nthA]
    | succ i =>
      rw [List.getElem?_append_right (by simp [chL]; omega)]
      have := ih (i := i) (k := k) (by simpa using h) hk
      rw [show (i + 1) * 5 + k - (chL a).length = i * 5 + k by simp [chL]; omega, this]
      simp [nthA]
section
variable {Y : Sys} {h h' : Heap}
theorem Own.row5 {s : Sl} {l : List Act5} (o : Own h 5 s (cells5 l)) : Row5 h s l := by
  have hn := o.1
  rw [cells5_len] at hn
  refine ⟨o.ok, by omega, fun i hi => ?_⟩
  refine rd_of (l := chL (nthA l i)) (fun j v hj => ?_)
  have hj5 : j < 5 := by
    rcases Nat.lt_or_ge j 5 with k | k
    · exact k
    · rw [List.getElem?_eq_none (by simp [chL]; omega)] at hj; cases hj
  have := o.cell (i := i * 5 + j) (v := v) (by rw [cells5_at hi hj5]; exact hj)
  rwa [Nat.add_assoc]
theorem ef_bslice5 {K : Value → Heap → Prop} {z : Array Value} {c : Act5} (hk : ∀ (b : Nat) (h' : Heap), h.size ≤ b → Blk h' b (chL c).toArray → Ext h h' → K (.slice (some ⟨b, 0, none⟩) 1 1) h') :
    Ef.wp h K (.bslice 1 5 z [0]) [.agg #[.int .i64 c.kd, .int .i64 c.a, .int .i64 c.i, .int .i64 c.o, .int .i64 c.w]] := by
  refine ef_bslice_all rfl rfl rfl ?_ (by omega)
  intro b h' g B e _
  exact hk b h' g (by simpa [chL] using B) e
theorem ef_append5 {K : Value → Heap → Prop} {bytes b : Nat} {z : Array Value} {s : Sl} {l : List Act5} {c : Act5} (hz : z.size = 5) (o : Own h 5 s (cells5 l)) (hb : Blk h b (chL c).toArray) (hby : (s.n + 1) * bytes ≤ 140737488355328) (h63 : s.n + 1 ≤ 9223372036854775807)
    (hk : ∀ (s' : Sl) (h' : Heap), Own h' 5 s' (cells5 (l ++ [c])) → s'.n = s.n + 1 → Mod (fun j => s.nl = false ∧ j = s.b) h h' → ((s'.b = s.b ∧ s'.nl = s.nl) ∨ (h.size ≤ s'.b ∧ s'.nl = false)) → K s'.v h') :
    Ef.wp h K (.append 5 bytes z) [s.v, .slice (some ⟨b, 0, none⟩) 1 1] := by
  have hs : srcOf h 5 1 (.slice (some ⟨b, 0, none⟩) 1 1) = some (chL c) := by
    rw [srcOf_at]
    have := rd_blk hb (n := 5) rfl
    simpa using this
  refine ef_append_own o (m := 1) (nw := chL c) rfl hs rfl (fun v hv => ?_) hz hby h63 ?_
  · simp only [chL, List.mem_cons, List.not_mem_nil, or_false] at hv
    rcases hv with rfl | rfl | rfl | rfl | rfl <;> rfl
  · intro s' h' o' n' m' hs'
    refine hk s' h' ?_ n' m' hs'
    rw [cells5_app]
    simpa [cells5] using o'
def To19I (s : Sl) (l : List Act5) (h0 : Heap) (e : List Value) (h' : Heap) : Prop :=
  ∃ (i : Nat) (u : Sl) (v1 v4 : Value), e = [s.v, v1, u.v, .int .i64 i, v4] ∧ i ≤ l.length ∧ Own h' 5 u (cells5 (l.take i)) ∧ (u.nl = false → h0.size ≤ u.b) ∧ Ext h0 h'
theorem to19_spec (H : Y.Has F.rlaw19_To S_rlaw19_To) {s : Sl} {l : List Act5} (q : Row5 h s l) (hbig : l.length ≤ 1000) {R : Value → Heap → Prop}
    (hr : ∀ h' u, Ext h h' → Own h' 5 u (cells5 l) → (u.nl = false → h.size ≤ u.b) → R u.v h') : CallP Y F.rlaw19_To [s.v] h R := by
  have ll := q.len
  refine .of_has H rfl ?_
  simp [S_rlaw19_To, FnS.wp]
  refine wp_loop' (To19I s l h) (fun e _ => l.length - argI e 3) ⟨0, Sl.nil, _, _, rfl, by omega, Own.nil, fun h => (by cases h), Mod.refl _⟩ ?_
  rintro e h1 ⟨i, u, v1, v4, rfl, hi, o1, f1, e1⟩
  by_cases c : i < l.length
  rotate_left
  · have c' : ¬ (i : Int) < s.n := by omega
    obtain rfl : i = l.length := by omega
    rw [List.take_length] at o1
    simp [c']
    exact hr h1 u e1 o1 f1
  have c' : (i : Int) < s.n := by omega
  have w1 : IntKind.i64.wrap ((i : Int) + 1) = (i : Int) + 1 := i64_wrap (by omega)
  obtain ⟨a0, a1, a2, a3, a4⟩ := (q.ext' e1).cell c
  have hb : ∀ (g : Heap) (x1 x2 x3 x4 x5 : Int), IOp.sem Y g (.build #[.int .i64 0, .int .i64 0, .int .i64 0, .int .i64 0, .int .i64 0] [(0, 1), (1, 1), (2, 1), (3, 1), (4, 1)] [0, 1, 2, 3, 4]) [.int .i64 x1, .int .i64 x2, .int .i64 x3, .int .i64 x4, .int .i64 x5] = some (.agg #[.int .i64 x1, .int .i64 x2, .int .i64 x3, .int .i64 x4, .int .i64 x5]) := fun g x1 x2 x3 x4 x5 => by simp [IOp.sem, Instr.fill]
  simp [c', sem_idxa q.ok, a0, a1, a2, a3, a4, hb]
  refine ef_bslice5 ?_
  intro b h2 g2 B2 e2
  simp
  have hn := o1.1
  rw [cells5_len] at hn
  simp at hn
  refine ef_append5 rfl (o1.ext' e2) B2 (by omega) (by omega) ?_
  intro u' h3 o3 n3 m3 hs3
  have z1 := e1.size
  have z2 := e2.size
  simp [w1]
  have ht : l.take (i + 1) = l.take i ++ [nthA l i] := by rw [List.take_succ_eq_append_getElem c]; simp [nthA, c]
  rw [← ht] at o3
  refine ⟨⟨i + 1, u', _, _, rfl, by omega, o3, fun hn => ?_, Mod.ext (e1.trans e2) m3 (fun j hj => by have := f1 hj.1; have := hj.2; omega)⟩, by simp [argI]; omega⟩
  rcases hs3 with ⟨k1, k2⟩ | ⟨k1, _⟩
  · rw [k1]; exact f1 (by rw [← k2]; exact hn)
  · omega
end
end Go.Rm
