/- The laws of the heap: same, HeapPlays, HeapEdges. -/
import Derived.Test.YtcenjaobjnoccaaRLaw7
set_option linter.unusedSimpArgs false
set_option linter.unusedVariables false
namespace Go.Rm
section
variable {Y : Sys} {h : Heap} {p q n : Nat} {A : KMap} {S S' : Nat → Prop}

def SameI (p q n : Nat) (more : Int) (h0 : Heap) (e : List Value) (h' : Heap) : Prop :=
  ∃ (k : Int) (v5 v6 v7 v8 v9 v10 v11 v12 v13 v14 v15 : Value), e = [.pointer (some ⟨p, 0, none⟩), .pointer (some ⟨q, 0, none⟩), .int .i64 more, .bool false, .int .i64 k, v5, v6, v7, v8, v9, v10, v11, v12, v13, v14, v15] ∧ -1 ≤ k ∧ k ≤ n + 1 ∧ h' = h0

def argZ (e : List Value) (k : Nat) : Int := match e.getD k undef with | .int _ n => n | _ => 0

theorem same_spec (HS : Y.Has F.rlaw7_same S_rlaw7_same) (H : HeapFns Y) (HR : RefFns Y) (O : HeapR h p n A S) (Q : RefR h q n A S') {more : Int} {R : Value → Heap → Prop} (hr : R (.bool true) h) :
    CallP Y F.rlaw7_same [.pointer (some ⟨p, 0, none⟩), .pointer (some ⟨q, 0, none⟩), .int .i64 more] h R := by
  refine .of_has HS rfl ?_
  have hn := O.n_le
  obtain ⟨is, hq0, hqn⟩ := Q.row
  simp [S_rlaw7_same, FnS.wp]
  refine lenR_spec H.Len O ?_
  simp
  refine rlen_spec HR.Len Q ?_
  simp
  refine wp_loop' (SameI p q n more h) (fun e _ => (n + 2 - argZ e 4).toNat) ⟨-1, undef, undef, undef, undef, undef, undef, undef, undef, .bool false, undef, undef, rfl, by omega, by omega, rfl⟩ ?_
  rintro e h' ⟨k, v5, v6, v7, v8, v9, v10, v11, v12, v13, v14, v15, rfl, hk0, hk1, rfl⟩
  have fin : ∀ (v14 v15 : Value), Stmt.wp Y .skip (fun _ _ => R (.bool true) h') (fun _ _ _ => False) (fun _ _ => False) [] h' := fun _ _ => by simpa using hr
  by_cases c : k ≤ n ∧ k < 40
  · obtain ⟨c1, c2⟩ := c
    have w1 : IntKind.i64.wrap (k + 1) = k + 1 := i64_wrap (by omega)
    simp [hq0, hqn, c1, c2]
    refine costR_spec H.Cost H.key O ?_
    simp
    refine rcost_spec HR.Cost Q ?_
    simp [w1]
    exact ⟨⟨k + 1, _, _, _, _, _, _, _, _, _, _, _, rfl, by omega, by omega, rfl⟩, by simp [argZ]; omega⟩
  · have last : CallP Y F.heap_Heap_Cost [.pointer (some ⟨p, 0, none⟩), .int .i64 more] h' fun v h1 => v = .tuple #[.int .i64 (costV n A more), .bool (costB n A more)] ∧ h1 = h' := costR_spec H.Cost H.key O ⟨rfl, rfl⟩
    by_cases c1 : k ≤ n
    · have c2 : ¬ k < 40 := fun h => c ⟨c1, h⟩
      simp [hq0, hqn, c1, c2]
      refine costR_spec H.Cost H.key O ?_
      simp
      refine rcost_spec HR.Cost Q ?_
      simp [hr]
    · simp [hq0, hqn, c1]
      refine costR_spec H.Cost H.key O ?_
      simp
      refine rcost_spec HR.Cost Q ?_
      simp [hr]

/-- the calls, as they lie in memory -/
structure ActsAt (h : Heap) (s : Sl) (kd ky co : Nat → Int) : Prop where
  ok : s.ok
  kd : ∀ i, i < s.n → hc h s.b (s.o + i * 3) = some (.int .i64 (kd i))
  ky : ∀ i, i < s.n → hc h s.b (s.o + i * 3 + 1) = some (.int .i64 (ky i))
  co : ∀ i, i < s.n → hc h s.b (s.o + i * 3 + 2) = some (.int .i64 (co i))

theorem ActsAt.ext {s : Sl} {kd ky co : Nat → Int} (a : ActsAt h s kd ky co) {h' : Heap} (he : Ext h h') : ActsAt h' s kd ky co :=
  ⟨a.ok, fun i hi => he.hc (a.kd i hi) (fun h => h), fun i hi => he.hc (a.ky i hi) (fun h => h), fun i hi => he.hc (a.co i hi) (fun h => h)⟩

def PlayI (p n : Nat) (nn : Int) (acts : Sl) (h0 : Heap) (e : List Value) (h' : Heap) : Prop :=
  ∃ (i q : Nat) (A : KMap) (S S' : Nat → Prop) (v6 v7 v8 v9 v10 v11 v12 v13 v14 v15 v16 v17 v18 v19 v20 v21 v22 v23 : Value),
    e = [.int .i64 nn, acts.v, .bool false, .pointer (some ⟨p, 0, none⟩), .pointer (some ⟨q, 0, none⟩), .int .i64 i, v6, v7, v8, v9, v10, v11, v12, v13, v14, v15, v16, v17, v18, v19, v20, v21, v22, v23] ∧
    i ≤ acts.n ∧ HeapR h' p n A S ∧ RefR h' q n A S' ∧ (∀ b, S b → h0.size ≤ b) ∧ (∀ b, S' b → h0.size ≤ b) ∧ (∀ b, S b → ¬ S' b) ∧ Ext h0 h'

theorem plays_spec (HP : Y.Has F.rlaw7_HeapPlays S_rlaw7_HeapPlays) (HK : Y.Has F.rlaw7_known S_rlaw7_known) (HS : Y.Has F.rlaw7_same S_rlaw7_same) (H : HeapFns Y) (HR : RefFns Y)
    {nn : Int} {acts : Sl} {kd ky co : Nat → Int} (ha : ActsAt h acts kd ky co) {R : Value → Heap → Prop} (hr : ∀ h', Ext h h' → R (.bool true) h') :
    CallP Y F.rlaw7_HeapPlays [.int .i64 nn, acts.v] h R := by
  refine .of_has HP rfl ?_
  simp [S_rlaw7_HeapPlays, FnS.wp]
  refine known_spec HK H ?_
  intro h1 e1
  by_cases c1 : 300 < nn
  · simp [c1]; exact hr _ e1
  by_cases c2 : 120 < acts.n
  · have c2' : (120 : Int) < acts.n := by omega
    simp [c1, c2']; exact hr _ e1
  have c2' : ¬ (120 : Int) < acts.n := by omega
  simp [c1, c2']
  refine new_spec H.New ?_
  intro h2 p S O hS e2
  simp
  refine rnew_spec HR.New ?_
  intro h3 q S' Q hS' e3
  simp
  have hlt : ∀ b, S b → b < h2.size := fun b hb => O.lt hb
  refine wp_loop' (PlayI p (keysN nn) nn acts h) (fun e _ => acts.n - argI e 5)
    ⟨0, q, fun _ => none, S, S', _, _, _, _, _, _, _, _, _, _, _, _, _, _, _, _, _, _, rfl, by omega, O.mod e3 (fun _ _ h => h), Q, ?_, ?_, ?_, (e1.trans e2).trans e3⟩ ?_
  · intro b hb; have := hS b hb; have := e1.size; omega
  · intro b hb; have := hS' b hb; have := e1.size; have := e2.size; omega
  · intro b hb hb'; have := hlt b hb; have := hS' b hb'; omega
  clear O Q hS hS' hlt e2 e3
  rintro e h4 ⟨i, q, A, S, S', v6, v7, v8, v9, v10, v11, v12, v13, v14, v15, v16, v17, v18, v19, v20, v21, v22, v23, rfl, hi, O, Q, hS, hS', hdis, e4⟩
  have ha4 := ha.ext e4
  by_cases hlt : i < acts.n
  · have hlt' : (i : Int) < acts.n := by omega
    have w1 : IntKind.i64.wrap ((i : Int) + 1) = (i : Int) + 1 := i64_wrap (by omega)
    have r3 : rd h4 acts.b (acts.o + i * 3) 3 = some [.int .i64 (kd i), .int .i64 (ky i), .int .i64 (co i)] := by
      simp [rd, ha4.kd i hlt, ha4.ky i hlt, ha4.co i hlt]
    simp [hlt', sem_idxa ha4.ok, r3, ef_new]
    intro t
    refine ef_store_push rfl rfl (by simp) ?_
    have O5 := O.mod (S' := fun _ => False) (Mod.push (x := .cells #[.int .i64 (kd i), .int .i64 (ky i), .int .i64 (co i)] t)) (fun _ _ h => h)
    have Q5 := Q.mod (S' := fun _ => False) (Mod.push (x := .cells #[.int .i64 (kd i), .int .i64 (ky i), .int .i64 (co i)] t)) (fun _ _ h => h)
    have B5 : Blk (h4.push (.cells #[.int .i64 (kd i), .int .i64 (ky i), .int .i64 (co i)] t)) h4.size #[.int .i64 (kd i), .int .i64 (ky i), .int .i64 (co i)] := Blk.new
    have e5 : Ext h (h4.push (.cells #[.int .i64 (kd i), .int .i64 (ky i), .int .i64 (co i)] t)) := e4.trans Mod.push
    have na : ¬ S h4.size := fun hb => by have := O.lt hb; omega
    have na' : ¬ S' h4.size := fun hb => by have := Q.lt hb; omega
    generalize h4.push (.cells #[.int .i64 (kd i), .int .i64 (ky i), .int .i64 (co i)] t) = h5 at *
    generalize h4.size = a at *
    have z5 := e5.size
    -- what is done behind each call
    have tail : ∀ (h8 : Heap) (q8 : Nat) (A8 : KMap) (T T' : Nat → Prop), HeapR h8 p (keysN nn) A8 T → RefR h8 q8 (keysN nn) A8 T' → (∀ b, T b → h.size ≤ b) → (∀ b, T' b → h.size ≤ b) → (∀ b, T b → ¬ T' b) → Ext h h8 →
        CallP Y F.rlaw7_same [.pointer (some ⟨p, 0, none⟩), .pointer (some ⟨q8, 0, none⟩), .int .i64 (ky i)] h8 fun v h9 => v = .bool true ∧ ∀ (v6 v7 v8 v9 v10 v11 v12 v13 v14 v15 v16 v17 v18 v19 v20 v21 v22 v23 : Value),
          PlayI p (keysN nn) nn acts h [.int .i64 nn, acts.v, .bool false, .pointer (some ⟨p, 0, none⟩), .pointer (some ⟨q8, 0, none⟩), .int .i64 ((i : Int) + 1), v6, v7, v8, v9, v10, v11, v12, v13, v14, v15, v16, v17, v18, v19, v20, v21, v22, v23] h9 := by
      intro h8 q8 A8 T T' O8 Q8 hT hT' hd e8
      refine same_spec HS H HR O8 Q8 ⟨rfl, ?_⟩
      intro v6 v7 v8 v9 v10 v11 v12 v13 v14 v15 v16 v17 v18 v19 v20 v21 v22 v23
      exact ⟨i + 1, q8, A8, T, T', v6, v7, v8, v9, v10, v11, v12, v13, v14, v15, v16, v17, v18, v19, v20, v21, v22, v23, by simp, by omega, O8, Q8, hT, hT', hd, e8⟩
    by_cases k0 : kd i = 0
    · simp [B5.hc, k0]
      refine H.put O5 ?_
      intro h6 S6 O6 hS6 m6
      have Q6 := Q5.mod m6 (fun b hb hb' => hdis b hb' hb)
      have B6 := m6.blk B5 na
      have e6 := e5.ext m6 hS
      simp [B6.hc]
      refine rput_spec HR.Put HR.held Q6 ?_
      intro h7 Q7 m7
      have d6 : ∀ b, S6 b → ¬ S' b := fun b hb hb' => by
        rcases hS6 b hb with g | g
        · exact hdis b g hb'
        · have := Q5.lt hb'; omega
      have O7 := O6.mod m7 d6
      have B7 := m7.blk B6 na'
      have e7 := e6.ext m7 hS'
      simp [B7.hc]
      refine CallP.mono (tail _ q _ _ _ O7 Q7 (fun b hb => by rcases hS6 b hb with g | g; exact hS b g; omega) hS' d6 e7) ?_
      rintro v h9 ⟨rfl, hh⟩
      simp [w1]
      exact ⟨hh _ _ _ _ _ _ _ _ _ _ _ _ _ _ _ _ _ _, by simp [argI]; omega⟩
    · by_cases k1 : kd i = 1
      · simp [B5.hc, k0, k1]
        refine H.pop O5 ?_ ?_
        · intro hno
          simp
          refine rpop_spec HR.Pop Q5 ?_ (fun _ _ _ hk => absurd hno hk.some)
          intro _
          simp [B5.hc]
          refine CallP.mono (tail _ q _ _ _ O5 Q5 hS hS' hdis e5) ?_
          rintro v h9 ⟨rfl, hh⟩
          simp [w1]
          exact ⟨hh _ _ _ _ _ _ _ _ _ _ _ _ _ _ _ _ _ _, by simp [argI]; omega⟩
        · intro h6 k c hk O6 m6
          have Q6 := Q5.mod m6 (fun b hb hb' => hdis b hb' hb)
          have B6 := m6.blk B5 na
          have e6 := e5.ext m6 hS
          simp
          refine rpop_spec HR.Pop Q6 (fun hno => absurd hno hk.some) ?_
          intro h7 k' c' hk' Q7 m7
          obtain ⟨rfl, rfl⟩ := hk.uniq hk'
          have O7 := O6.mod m7 hdis
          have B7 := m7.blk B6 na'
          have e7 := e6.ext m7 hS'
          simp [B7.hc]
          refine CallP.mono (tail _ q _ _ _ O7 Q7 hS hS' hdis e7) ?_
          rintro v h9 ⟨rfl, hh⟩
          simp [w1]
          exact ⟨hh _ _ _ _ _ _ _ _ _ _ _ _ _ _ _ _ _ _, by simp [argI]; omega⟩
      · by_cases k3 : kd i = 3
        · simp [B5.hc, k0, k1, k3]
          refine clear_spec H.Clear O5 ?_
          intro h6 O6 m6
          have B6 := m6.blk B5 na
          have e6 := e5.ext m6 hS
          simp
          refine rnew_spec HR.New ?_
          intro h7 q7 S7 Q7 hS7 m7
          have O7 := O6.mod m7 (fun _ _ h => h)
          have B7 := m7.blk B6 (fun h => h)
          have e7 : Ext h h7 := e6.trans m7
          have z6 := e6.size
          simp [B7.hc]
          refine CallP.mono (tail _ q7 _ _ _ O7 Q7 hS (fun b hb => by have := hS7 b hb; omega) (fun b hb hb' => by have := O6.lt hb; have := hS7 b hb'; omega) e7) ?_
          rintro v h9 ⟨rfl, hh⟩
          simp [w1]
          exact ⟨hh _ _ _ _ _ _ _ _ _ _ _ _ _ _ _ _ _ _, by simp [argI]; omega⟩
        · simp [B5.hc, k0, k1, k3]
          refine CallP.mono (tail _ q _ _ _ O5 Q5 hS hS' hdis e5) ?_
          rintro v h9 ⟨rfl, hh⟩
          simp [w1]
          exact ⟨hh _ _ _ _ _ _ _ _ _ _ _ _ _ _ _ _ _ _, by simp [argI]; omega⟩
  · have hlt' : ¬ (i : Int) < acts.n := by omega
    simp [hlt']
    exact hr _ e4
end
end Go.Rm
