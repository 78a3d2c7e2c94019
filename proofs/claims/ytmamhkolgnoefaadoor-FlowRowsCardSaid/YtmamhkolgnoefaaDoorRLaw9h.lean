import Derived.Test.YtmamhkolgnoefaaDoorRLaw9g

/- The laws of flows: FlowRows. -/
set_option linter.unusedSimpArgs false
set_option linter.unusedVariables false
namespace Go.Rm
/-- rows side by side: what a cut has at least, and one that has just that -/
structure RowsI (i n want : Nat) (es : List (Int × Int)) : Prop where
  ends : EsIn n es
  two : 2 ≤ n
  nle : n ≤ 2 + 8 * i
  len : es.length ≤ 8 * i
  wle : want ≤ i
  up : ∃ S : Nat → Bool, S 0 = true ∧ S 1 = false ∧ crossE S es = want
  low : ∀ S : Nat → Bool, S 0 = true → S 1 = false → (want : Int) ≤ crossE S es
/-- while one row more is laid: j edges of it -/
structure RowsJ (i n want m j a : Nat) (w : Bool) (es : List (Int × Int)) : Prop where
  ends : EsIn n es
  two : 2 ≤ n
  nle : n ≤ 2 + 8 * i + j
  len : es.length ≤ 8 * i + j
  wle : want ≤ i
  at' : a < n
  one : j = m → a = 1
  up : ∃ S : Nat → Bool, S 0 = true ∧ S 1 = false ∧ crossE S es = (want : Int) + (if w = true ∧ 0 < j then 1 else 0) ∧ S a = (if w then decide (j = 0) else decide (j ≤ m / 2))
  low : ∀ S : Nat → Bool, S 0 = true → S 1 = false → (want : Int) + (if w = true ∧ S a = false then 1 else 0) ≤ crossE S es
theorem RowsI.start {i n want m : Nat} {w : Bool} {es : List (Int × Int)} (r : RowsI i n want es) (hm : 0 < m) : RowsJ i n want m 0 0 w es := by
  refine ⟨r.ends, r.two, by have := r.nle; omega, by have := r.len; omega, r.wle, by have := r.two; omega, fun h => by omega, ?_, fun S h0 h1 => ?_⟩
  · obtain ⟨S, a, b, c⟩ := r.up
    exact ⟨S, a, b, by simpa using c, by cases w <;> simp [a]⟩
  · have := r.low S h0 h1
    simp [h0]; exact this
theorem RowsJ.done {i n want m a : Nat} {w : Bool} {es : List (Int × Int)} (r : RowsJ i n want m m a w es) (hm : 0 < m) (h8 : m ≤ 8) : RowsI (i + 1) n (want + if w then 1 else 0) es := by
  have ha := r.one rfl
  subst ha
  refine ⟨r.ends, r.two, by have := r.nle; omega, by have := r.len; omega, by have := r.wle; split <;> omega, ?_, fun S h0 h1 => ?_⟩
  · obtain ⟨S, a, b, c, _⟩ := r.up
    refine ⟨S, a, b, ?_⟩
    rw [c]
    cases w <;> simp [hm]
  · have := r.low S h0 h1
    cases w <;> simp [h1] at this ⊢ <;> exact this
theorem crossE_upd {n : Nat} {es : List (Int × Int)} {S : Nat → Bool} {b : Bool} (hE : EsIn n es) : crossE (fun v => if v = n then b else S v) es = crossE S es := by
  unfold crossE
  refine crossS_eq (n := n) (edL_ends hE) fun v hv => ?_
  rw [if_neg (by omega)]
theorem EsIn.more {n : Nat} {es : List (Int × Int)} (h : EsIn n es) : EsIn (n + 1) es := by
  intro i hi
  obtain ⟨a, b, he, la, lb⟩ := h.at hi
  rw [he]
  simp [inE, inV]; omega
/-- one edge more, or none where the row is cut -/
theorem RowsJ.step {i n want m j a n' to : Nat} {w : Bool} {es : List (Int × Int)} (r : RowsJ i n want m j a w es) (hj : j < m)
    (ht : (j < m - 1 ∧ to = n ∧ n' = n + 1) ∨ (¬ j < m - 1 ∧ to = 1 ∧ n' = n)) : RowsJ i n' want m (j + 1) to w (if j ≠ m / 2 ∨ w = true then es ++ [((a : Int), (to : Int))] else es) := by
  have r1 := r.two
  have r2 := r.at'
  have e1 : EsIn n' es := by
    rcases ht with ⟨_, _, rfl⟩ | ⟨_, _, rfl⟩
    · exact r.ends.more
    · exact r.ends
  have lt : to < n' := by rcases ht with ⟨_, h1, h2⟩ | ⟨_, h1, h2⟩ <;> omega
  have la : a < n' := by rcases ht with ⟨_, h1, h2⟩ | ⟨_, h1, h2⟩ <;> omega
  refine ⟨?_, by rcases ht with ⟨_, h1, h2⟩ | ⟨_, h1, h2⟩ <;> omega, by have := r.nle; rcases ht with ⟨_, h1, h2⟩ | ⟨_, h1, h2⟩ <;> omega, ?_, r.wle, lt, fun h => by rcases ht with ⟨_, h1, h2⟩ | ⟨_, h1, h2⟩ <;> omega, ?_, fun S h0 h1 => ?_⟩
  · split
    · exact e1.app la lt
    · exact e1
  · have := r.len
    split
    · simp; omega
    · omega
  · obtain ⟨S, s0, s1, sc, sa⟩ := r.up
    have key : ∃ S' : Nat → Bool, S' 0 = true ∧ S' 1 = false ∧ crossE S' es = crossE S es ∧ S' a = S a ∧ S' to = (if w then false else decide (j + 1 ≤ m / 2)) := by
      rcases ht with ⟨h1, rfl, _⟩ | ⟨h1, rfl, _⟩
      · refine ⟨fun v => if v = to then (if w then false else decide (j + 1 ≤ m / 2)) else S v, ?_, ?_, crossE_upd r.ends, ?_, by simp⟩
        · have : ¬ 0 = to := by omega
          simp [this, s0]
        · have : ¬ 1 = to := by omega
          simp [this, s1]
        · have : ¬ a = to := by omega
          simp [this]
      · refine ⟨S, s0, s1, rfl, rfl, ?_⟩
        rw [s1]
        have : ¬ j + 1 ≤ m / 2 := by omega
        cases w <;> simp [this]
    obtain ⟨S', t0, t1, tc, ta, tt⟩ := key
    refine ⟨S', t0, t1, ?_, ?_⟩
    · cases w with
      | true =>
        simp only [or_true, if_true]
        rw [crossE_app, tc, sc, ta, sa, tt]
        by_cases e : j = 0 <;> simp [e] <;> try omega
      | false =>
        by_cases e : j = m / 2
        · simp [e]
          rw [tc, sc]
          simp
        · have e' : j ≠ m / 2 ∨ false = true := .inl e
          rw [if_pos e', crossE_app, tc, sc, ta, sa, tt]
          by_cases f : j ≤ m / 2
          · have f' : j + 1 ≤ m / 2 := by omega
            simp [f, f']
          · have f' : ¬ j + 1 ≤ m / 2 := by omega
            simp [f, f']
    · rw [tt]
      cases w <;> simp
  · have := r.low S h0 h1
    cases w with
    | true =>
      simp only [or_true, if_true]
      rw [crossE_app]
      cases p : S a <;> cases q : S to <;> simp [p, q] at this ⊢ <;> omega
    | false =>
      simp at this ⊢
      split
      · exact this
      · rw [crossE_app]
        split <;> omega
section
variable {Y : Sys} {h h' : Heap}
def RoI1 (k m : Nat) (v0 v1 : Value) (sc : Sl) (h0 : Heap) (e : List Value) (h' : Heap) : Prop :=
  ∃ (i : Nat) (t : Sl) (n want : Nat) (es : List (Int × Int)) (v3 v10 v11 v12 v13 v14 v15 v16 v17 v18 v19 v20 v21 : Value), e = [v0, v1, sc.v, v3, .int .i64 k, .int .i64 m, t.v, .int .i64 n, .int .i64 want, .int .i64 i, v10, v11, v12, v13, v14, v15, v16, v17, v18, v19, v20, v21] ∧ i ≤ k ∧ Ext h0 h' ∧ Own h' 2 t (pairC es) ∧ (t.nl = false → h0.size ≤ t.b) ∧ RowsI i n want es
def RoI2 (k m i want : Nat) (w : Bool) (v0 v1 : Value) (sc : Sl) (h0 : Heap) (e : List Value) (h' : Heap) : Prop :=
  ∃ (j : Nat) (t : Sl) (n a : Nat) (es : List (Int × Int)) (v3 v13 v14 v15 v16 v17 v18 v19 v20 v21 : Value), e = [v0, v1, sc.v, v3, .int .i64 k, .int .i64 m, t.v, .int .i64 n, .int .i64 want, .int .i64 i, .int .i64 a, .bool w, .int .i64 j, v13, v14, v15, v16, v17, v18, v19, v20, v21] ∧ j ≤ m ∧ Ext h0 h' ∧ Own h' 2 t (pairC es) ∧ (t.nl = false → h0.size ≤ t.b) ∧ RowsJ i n want m j a w es
theorem flowrows_law (L : FlowLaw Y) (H : Y.Has F.rlaw9_FlowRows S_rlaw9_FlowRows) (E : ErrSys Y) (hg : hc h E.gb 0 = some E.hv) {r g : Nat} (hr8 : r < 256) (hg8 : g < 256) {sc : Sl} {cut : List Bool} (rc : RowM h sc cut)
    (bc : sc.n ≤ 9223372036854775807)
    {R : Value → Heap → Prop} (hr : ∀ h', Ext h h' → R (.bool true) h') :
    CallP Y F.rlaw9_FlowRows [.int .u8 r, .int .u8 g, sc.v] h R := by
  have lc := rc.len
  refine .of_has H rfl ?_
  simp [S_rlaw9_FlowRows, FnS.wp]
  refine known_spec L.K E hg ?_
  intro h2 e2
  have d1 : (r : Int).tmod 12 = ((r % 12 : Nat) : Int) := tmod_nat (N := 12) (by omega)
  have d2 : (g : Int).tmod 8 = ((g % 8 : Nat) : Int) := tmod_nat (N := 8) (by omega)
  have m1 : r % 12 < 12 := Nat.mod_lt _ (by omega)
  have m2 : g % 8 < 8 := Nat.mod_lt _ (by omega)
  obtain ⟨k, hk⟩ : ∃ k, r % 12 = k := ⟨_, rfl⟩
  obtain ⟨m', hm'⟩ : ∃ m', g % 8 = m' := ⟨_, rfl⟩
  rw [hk] at d1 m1
  rw [hm'] at d2 m2
  have w0 : IntKind.i64.wrap (k : Int) = k := i64_wrap (by omega)
  have w1 : IntKind.i64.wrap (m' : Int) = m' := i64_wrap (by omega)
  have w2 : IntKind.i64.wrap (1 + (m' : Int)) = ((1 + m' : Nat) : Int) := by rw [i64_wrap (by omega)]; omega
  obtain ⟨m, hm⟩ : ∃ m, 1 + m' = m := ⟨_, rfl⟩
  rw [hm] at w2
  have hm0 : 0 < m := by omega
  have hm8 : m ≤ 8 := by omega
  simp [ib_rem, d1, d2, w0, w1, w2]
  clear d1 d2 w0 w1 w2 m2 hm' hk
  refine wp_loop' (RoI1 k m (.int .u8 r) (.int .u8 g) sc h2) (fun e _ => k - argI e 9) ⟨0, Sl.nil, 2, 0, [], _, _, _, _, _, _, _, _, _, _, _, _, _, rfl, by omega, Mod.refl _, Own.nil, fun h => (by cases h), ⟨fun i hi => by simp at hi, by omega, by omega, by simp, by omega, ⟨fun v => decide (v = 0), rfl, rfl, rfl⟩, fun S _ _ => Int.le_refl _⟩⟩ ?_
  rintro e h3 ⟨i, t, n, want, es, v3, v10, v11, v12, v13, v14, v15, v16, v17, v18, v19, v20, v21, rfl, hi, e3, ot, ft, rI⟩
  have x3 := e2.trans e3
  have b1 := rI.nle
  have b2 := rI.len
  have b3 := rI.wle
  have b4 := rI.two
  have tl := ot.1
  rw [pairC_len] at tl
  by_cases c : i < k
  · have c' : (i : Int) < k := by omega
    have w1 : IntKind.i64.wrap ((i : Int) + 1) = (i : Int) + 1 := i64_wrap (by omega)
    have wm : IntKind.i64.wrap ((m : Int) - 1) = ((m - 1 : Nat) : Int) := by rw [i64_wrap (by omega)]; omega
    have wq : IntKind.i64.wrap ((m : Int).tdiv 2) = ((m / 2 : Nat) : Int) := by
      rw [Int.tdiv_eq_ediv_of_nonneg (by omega), i64_wrap (by omega)]; simp
    have wq2 : IntKind.i64.wrap ((m : Int) / 2) = (m : Int) / 2 := i64_wrap (by omega)
    by_cases d : i < sc.n
    · have d' : (i : Int) < sc.n := by omega
      have d2 : ¬ (sc.n : Int) ≤ i := by omega
      have d3 : ¬ sc.n ≤ i := by omega
      have kc := (rc.ext x3).val i (by omega)
      cases hw : nthM cut i with
      | true =>
        rw [hw] at kc
        simp [c, c', d, d', d2, d3, sem_idxa rc.ok, kc]
        refine wp_loop' (RoI2 k m i want false (.int .u8 r) (.int .u8 g) sc h2) (fun e _ => m - argI e 12) ⟨0, t, n, 0, es, _, _, _, _, _, _, _, _, _, _, rfl, by omega, e3, ot, ft, rI.start hm0⟩ ?_
        rintro e h4 ⟨j, t', n', a, es', v3, v13, v14, v15, v16, v17, v18, v19, v20, v21, rfl, hj, e4, ot4, ft4, rJ⟩
        have x4 := e2.trans e4
        have c1 := rJ.nle
        have c2 := rJ.len
        have c3 := rJ.two
        have tl4 := ot4.1
        rw [pairC_len] at tl4
        by_cases cj : j < m
        · have cj' : (j : Int) < m := by omega
          have wj : IntKind.i64.wrap ((j : Int) + 1) = (j : Int) + 1 := i64_wrap (by omega)
          have wn : IntKind.i64.wrap ((n' : Int) + 1) = (n' : Int) + 1 := i64_wrap (by omega)
          by_cases q : j < m - 1
          · have q' : (j : Int) < ((m - 1 : Nat) : Int) := by omega
            by_cases e : j ≠ m / 2
            · have e' : ¬ (j : Int) = ((m / 2 : Nat) : Int) := by omega
              have e2' : ¬ (j : Int) = (m : Int) / 2 := by omega
              simp [cj, cj', wm, q, q', wn, ib_quo, wq, wq2, e, e', e2']
              refine ef_bslice_all rfl rfl rfl ?_ (by omega)
              intro b5 h5 g5 B5 e5 o5
              have o5' : Own h5 2 (Sl.at b5 1 1) [.int .i64 a, .int .i64 n'] := o5
              simp
              refine ef_append_own (m := 1) (nw := [.int .i64 a, .int .i64 n']) (ot4.ext' e5) rfl (by rw [srcOf_at]; exact rd_of (l := [.int .i64 a, .int .i64 n']) fun i v hi => by simpa using o5'.cell hi) rfl (by simp) rfl (by omega) (by omega) ?_
              intro t6 h6 o6 n6 m6 f6
              have z4 := e4.size
              have z5 := e5.size
              have e6 : Ext h2 h6 := Mod.ext (e4.trans e5) m6 (fun j hj => by have := ft4 hj.1; omega)
              have ft6 : t6.nl = false → h2.size ≤ t6.b := fun hn => by
                rcases f6 with ⟨f5, f7⟩ | ⟨f5, _⟩
                · rw [f5]; exact ft4 (by rw [← f7]; exact hn)
                · omega
              simp [wj]
              have st := rJ.step cj (.inl ⟨q, rfl, rfl⟩)
              rw [if_pos (by first | exact .inl e | exact .inr rfl)] at st
              refine ⟨⟨j + 1, t6, n' + 1, n', es' ++ [((a : Int), (n' : Int))], _, _, _, _, _, _, _, _, _, _, rfl, by omega, e6, by rw [pairC_app]; exact o6, ft6, st⟩, by simp [argI]; omega⟩
            · have e' : ((j : Int) = ((m / 2 : Nat) : Int)) = True := eq_true (by omega)
              have e2' : ((j : Int) = (m : Int) / 2) = True := eq_true (by omega)
              have e3' : j = m / 2 := by omega
              simp only [Decidable.not_not] at e
              simp [cj, cj', wm, q, q', wn, ib_quo, wq, wq2, e', e2', wj]
              have st := rJ.step cj (.inl ⟨q, rfl, rfl⟩)
              rw [if_neg (by simp; omega)] at st
              refine ⟨⟨j + 1, t', n' + 1, n', es', _, _, _, _, _, _, _, _, _, _, rfl, by omega, e4, ot4, ft4, st⟩, by simp [argI]; omega⟩
          · have q' : ¬ (j : Int) < ((m - 1 : Nat) : Int) := by omega
            by_cases e : j ≠ m / 2
            · have e' : ¬ (j : Int) = ((m / 2 : Nat) : Int) := by omega
              have e2' : ¬ (j : Int) = (m : Int) / 2 := by omega
              simp [cj, cj', wm, q, q', wn, ib_quo, wq, wq2, e, e', e2']
              refine ef_bslice_all rfl rfl rfl ?_ (by omega)
              intro b5 h5 g5 B5 e5 o5
              have o5' : Own h5 2 (Sl.at b5 1 1) [.int .i64 a, .int .i64 (1 : Nat)] := o5
              simp
              refine ef_append_own (m := 1) (nw := [.int .i64 a, .int .i64 (1 : Nat)]) (ot4.ext' e5) rfl (by rw [srcOf_at]; exact rd_of (l := [.int .i64 a, .int .i64 (1 : Nat)]) fun i v hi => by simpa using o5'.cell hi) rfl (by simp) rfl (by omega) (by omega) ?_
              intro t6 h6 o6 n6 m6 f6
              have z4 := e4.size
              have z5 := e5.size
              have e6 : Ext h2 h6 := Mod.ext (e4.trans e5) m6 (fun j hj => by have := ft4 hj.1; omega)
              have ft6 : t6.nl = false → h2.size ≤ t6.b := fun hn => by
                rcases f6 with ⟨f5, f7⟩ | ⟨f5, _⟩
                · rw [f5]; exact ft4 (by rw [← f7]; exact hn)
                · omega
              simp [wj]
              have st := rJ.step cj (.inr ⟨q, rfl, rfl⟩)
              rw [if_pos (by first | exact .inl e | exact .inr rfl)] at st
              refine ⟨⟨j + 1, t6, n', (1 : Nat), es' ++ [((a : Int), ((1 : Nat) : Int))], _, _, _, _, _, _, _, _, _, _, rfl, by omega, e6, by rw [pairC_app]; exact o6, ft6, st⟩, by simp [argI]; omega⟩
            · have e' : ((j : Int) = ((m / 2 : Nat) : Int)) = True := eq_true (by omega)
              have e2' : ((j : Int) = (m : Int) / 2) = True := eq_true (by omega)
              have e3' : j = m / 2 := by omega
              simp only [Decidable.not_not] at e
              simp [cj, cj', wm, q, q', wn, ib_quo, wq, wq2, e', e2', wj]
              have st := rJ.step cj (.inr ⟨q, rfl, rfl⟩)
              rw [if_neg (by simp; omega)] at st
              refine ⟨⟨j + 1, t', n', (1 : Nat), es', _, _, _, _, _, _, _, _, _, _, rfl, by omega, e4, ot4, ft4, st⟩, by simp [argI]; omega⟩
        have cj' : ¬ (j : Int) < m := by omega
        have hjm : j = m := by omega
        subst hjm
        have wt : IntKind.i64.wrap ((want : Int) + 1) = (want : Int) + 1 := i64_wrap (by omega)
        simp [cj', wt, w1]
        have st := rJ.done hm0 hm8
        simp at st
        refine ⟨⟨i + 1, t', n', want, es', _, _, _, _, _, _, _, _, _, _, _, _, _, rfl, by omega, e4, ot4, ft4, st⟩, by simp [argI]; omega⟩
      | false =>
        rw [hw] at kc
        simp [c, c', d, d', d2, d3, sem_idxa rc.ok, kc]
        refine wp_loop' (RoI2 k m i want true (.int .u8 r) (.int .u8 g) sc h2) (fun e _ => m - argI e 12) ⟨0, t, n, 0, es, _, _, _, _, _, _, _, _, _, _, rfl, by omega, e3, ot, ft, rI.start hm0⟩ ?_
        rintro e h4 ⟨j, t', n', a, es', v3, v13, v14, v15, v16, v17, v18, v19, v20, v21, rfl, hj, e4, ot4, ft4, rJ⟩
        have x4 := e2.trans e4
        have c1 := rJ.nle
        have c2 := rJ.len
        have c3 := rJ.two
        have tl4 := ot4.1
        rw [pairC_len] at tl4
        by_cases cj : j < m
        · have cj' : (j : Int) < m := by omega
          have wj : IntKind.i64.wrap ((j : Int) + 1) = (j : Int) + 1 := i64_wrap (by omega)
          have wn : IntKind.i64.wrap ((n' : Int) + 1) = (n' : Int) + 1 := i64_wrap (by omega)
          by_cases q : j < m - 1
          · have q' : (j : Int) < ((m - 1 : Nat) : Int) := by omega
            by_cases e : j ≠ m / 2
            · have e' : ¬ (j : Int) = ((m / 2 : Nat) : Int) := by omega
              have e2' : ¬ (j : Int) = (m : Int) / 2 := by omega
              simp [cj, cj', wm, q, q', wn, ib_quo, wq, wq2, e, e', e2']
              refine ef_bslice_all rfl rfl rfl ?_ (by omega)
              intro b5 h5 g5 B5 e5 o5
              have o5' : Own h5 2 (Sl.at b5 1 1) [.int .i64 a, .int .i64 n'] := o5
              simp
              refine ef_append_own (m := 1) (nw := [.int .i64 a, .int .i64 n']) (ot4.ext' e5) rfl (by rw [srcOf_at]; exact rd_of (l := [.int .i64 a, .int .i64 n']) fun i v hi => by simpa using o5'.cell hi) rfl (by simp) rfl (by omega) (by omega) ?_
              intro t6 h6 o6 n6 m6 f6
              have z4 := e4.size
              have z5 := e5.size
              have e6 : Ext h2 h6 := Mod.ext (e4.trans e5) m6 (fun j hj => by have := ft4 hj.1; omega)
              have ft6 : t6.nl = false → h2.size ≤ t6.b := fun hn => by
                rcases f6 with ⟨f5, f7⟩ | ⟨f5, _⟩
                · rw [f5]; exact ft4 (by rw [← f7]; exact hn)
                · omega
              simp [wj]
              have st := rJ.step cj (.inl ⟨q, rfl, rfl⟩)
              rw [if_pos (by first | exact .inl e | exact .inr rfl)] at st
              refine ⟨⟨j + 1, t6, n' + 1, n', es' ++ [((a : Int), (n' : Int))], _, _, _, _, _, _, _, _, _, _, rfl, by omega, e6, by rw [pairC_app]; exact o6, ft6, st⟩, by simp [argI]; omega⟩
            · have e' : ((j : Int) = ((m / 2 : Nat) : Int)) = True := eq_true (by omega)
              have e2' : ((j : Int) = (m : Int) / 2) = True := eq_true (by omega)
              have e3' : j = m / 2 := by omega
              simp only [Decidable.not_not] at e
              simp [cj, cj', wm, q, q', wn, ib_quo, wq, wq2, e', e2', wj]
              refine ef_bslice_all rfl rfl rfl ?_ (by omega)
              intro b5 h5 g5 B5 e5 o5
              have o5' : Own h5 2 (Sl.at b5 1 1) [.int .i64 a, .int .i64 n'] := o5
              simp
              refine ef_append_own (m := 1) (nw := [.int .i64 a, .int .i64 n']) (ot4.ext' e5) rfl (by rw [srcOf_at]; exact rd_of (l := [.int .i64 a, .int .i64 n']) fun i v hi => by simpa using o5'.cell hi) rfl (by simp) rfl (by omega) (by omega) ?_
              intro t6 h6 o6 n6 m6 f6
              have z4 := e4.size
              have z5 := e5.size
              have e6 : Ext h2 h6 := Mod.ext (e4.trans e5) m6 (fun j hj => by have := ft4 hj.1; omega)
              have ft6 : t6.nl = false → h2.size ≤ t6.b := fun hn => by
                rcases f6 with ⟨f5, f7⟩ | ⟨f5, _⟩
                · rw [f5]; exact ft4 (by rw [← f7]; exact hn)
                · omega
              simp [wj]
              have st := rJ.step cj (.inl ⟨q, rfl, rfl⟩)
              rw [if_pos (by first | exact .inl e | exact .inr rfl)] at st
              refine ⟨⟨j + 1, t6, n' + 1, n', es' ++ [((a : Int), (n' : Int))], _, _, _, _, _, _, _, _, _, _, rfl, by omega, e6, by rw [pairC_app]; exact o6, ft6, st⟩, by simp [argI]; omega⟩
          · have q' : ¬ (j : Int) < ((m - 1 : Nat) : Int) := by omega
            by_cases e : j ≠ m / 2
            · have e' : ¬ (j : Int) = ((m / 2 : Nat) : Int) := by omega
              have e2' : ¬ (j : Int) = (m : Int) / 2 := by omega
              simp [cj, cj', wm, q, q', wn, ib_quo, wq, wq2, e, e', e2']
              refine ef_bslice_all rfl rfl rfl ?_ (by omega)
              intro b5 h5 g5 B5 e5 o5
              have o5' : Own h5 2 (Sl.at b5 1 1) [.int .i64 a, .int .i64 (1 : Nat)] := o5
              simp
              refine ef_append_own (m := 1) (nw := [.int .i64 a, .int .i64 (1 : Nat)]) (ot4.ext' e5) rfl (by rw [srcOf_at]; exact rd_of (l := [.int .i64 a, .int .i64 (1 : Nat)]) fun i v hi => by simpa using o5'.cell hi) rfl (by simp) rfl (by omega) (by omega) ?_
              intro t6 h6 o6 n6 m6 f6
              have z4 := e4.size
              have z5 := e5.size
              have e6 : Ext h2 h6 := Mod.ext (e4.trans e5) m6 (fun j hj => by have := ft4 hj.1; omega)
              have ft6 : t6.nl = false → h2.size ≤ t6.b := fun hn => by
                rcases f6 with ⟨f5, f7⟩ | ⟨f5, _⟩
                · rw [f5]; exact ft4 (by rw [← f7]; exact hn)
                · omega
              simp [wj]
              have st := rJ.step cj (.inr ⟨q, rfl, rfl⟩)
              rw [if_pos (by first | exact .inl e | exact .inr rfl)] at st
              refine ⟨⟨j + 1, t6, n', (1 : Nat), es' ++ [((a : Int), ((1 : Nat) : Int))], _, _, _, _, _, _, _, _, _, _, rfl, by omega, e6, by rw [pairC_app]; exact o6, ft6, st⟩, by simp [argI]; omega⟩
            · have e' : ((j : Int) = ((m / 2 : Nat) : Int)) = True := eq_true (by omega)
              have e2' : ((j : Int) = (m : Int) / 2) = True := eq_true (by omega)
              have e3' : j = m / 2 := by omega
              simp only [Decidable.not_not] at e
              simp [cj, cj', wm, q, q', wn, ib_quo, wq, wq2, e', e2', wj]
              refine ef_bslice_all rfl rfl rfl ?_ (by omega)
              intro b5 h5 g5 B5 e5 o5
              have o5' : Own h5 2 (Sl.at b5 1 1) [.int .i64 a, .int .i64 (1 : Nat)] := o5
              simp
              refine ef_append_own (m := 1) (nw := [.int .i64 a, .int .i64 (1 : Nat)]) (ot4.ext' e5) rfl (by rw [srcOf_at]; exact rd_of (l := [.int .i64 a, .int .i64 (1 : Nat)]) fun i v hi => by simpa using o5'.cell hi) rfl (by simp) rfl (by omega) (by omega) ?_
              intro t6 h6 o6 n6 m6 f6
              have z4 := e4.size
              have z5 := e5.size
              have e6 : Ext h2 h6 := Mod.ext (e4.trans e5) m6 (fun j hj => by have := ft4 hj.1; omega)
              have ft6 : t6.nl = false → h2.size ≤ t6.b := fun hn => by
                rcases f6 with ⟨f5, f7⟩ | ⟨f5, _⟩
                · rw [f5]; exact ft4 (by rw [← f7]; exact hn)
                · omega
              simp [wj]
              have st := rJ.step cj (.inr ⟨q, rfl, rfl⟩)
              rw [if_pos (by first | exact .inl e | exact .inr rfl)] at st
              refine ⟨⟨j + 1, t6, n', (1 : Nat), es' ++ [((a : Int), ((1 : Nat) : Int))], _, _, _, _, _, _, _, _, _, _, rfl, by omega, e6, by rw [pairC_app]; exact o6, ft6, st⟩, by simp [argI]; omega⟩
        have cj' : ¬ (j : Int) < m := by omega
        have hjm : j = m := by omega
        subst hjm
        have wt : IntKind.i64.wrap ((want : Int) + 1) = (want : Int) + 1 := i64_wrap (by omega)
        simp [cj', wt, w1]
        have st := rJ.done hm0 hm8
        simp at st
        refine ⟨⟨i + 1, t', n', want + 1, es', _, _, _, _, _, _, _, _, _, _, _, _, _, rfl, by omega, e4, ot4, ft4, st⟩, by simp [argI]; omega⟩
    · have d' : ¬ (i : Int) < sc.n := by omega
      have d2 : (sc.n : Int) ≤ i := by omega
      have d3 : sc.n ≤ i := by omega
      simp [c, c', d, d', d2, d3]
      refine wp_loop' (RoI2 k m i want true (.int .u8 r) (.int .u8 g) sc h2) (fun e _ => m - argI e 12) ⟨0, t, n, 0, es, _, _, _, _, _, _, _, _, _, _, rfl, by omega, e3, ot, ft, rI.start hm0⟩ ?_
      rintro e h4 ⟨j, t', n', a, es', v3, v13, v14, v15, v16, v17, v18, v19, v20, v21, rfl, hj, e4, ot4, ft4, rJ⟩
      have x4 := e2.trans e4
      have c1 := rJ.nle
      have c2 := rJ.len
      have c3 := rJ.two
      have tl4 := ot4.1
      rw [pairC_len] at tl4
      by_cases cj : j < m
      · have cj' : (j : Int) < m := by omega
        have wj : IntKind.i64.wrap ((j : Int) + 1) = (j : Int) + 1 := i64_wrap (by omega)
        have wn : IntKind.i64.wrap ((n' : Int) + 1) = (n' : Int) + 1 := i64_wrap (by omega)
        by_cases q : j < m - 1
        · have q' : (j : Int) < ((m - 1 : Nat) : Int) := by omega
          by_cases e : j ≠ m / 2
          · have e' : ¬ (j : Int) = ((m / 2 : Nat) : Int) := by omega
            have e2' : ¬ (j : Int) = (m : Int) / 2 := by omega
            simp [cj, cj', wm, q, q', wn, ib_quo, wq, wq2, e, e', e2']
            refine ef_bslice_all rfl rfl rfl ?_ (by omega)
            intro b5 h5 g5 B5 e5 o5
            have o5' : Own h5 2 (Sl.at b5 1 1) [.int .i64 a, .int .i64 n'] := o5
            simp
            refine ef_append_own (m := 1) (nw := [.int .i64 a, .int .i64 n']) (ot4.ext' e5) rfl (by rw [srcOf_at]; exact rd_of (l := [.int .i64 a, .int .i64 n']) fun i v hi => by simpa using o5'.cell hi) rfl (by simp) rfl (by omega) (by omega) ?_
            intro t6 h6 o6 n6 m6 f6
            have z4 := e4.size
            have z5 := e5.size
            have e6 : Ext h2 h6 := Mod.ext (e4.trans e5) m6 (fun j hj => by have := ft4 hj.1; omega)
            have ft6 : t6.nl = false → h2.size ≤ t6.b := fun hn => by
              rcases f6 with ⟨f5, f7⟩ | ⟨f5, _⟩
              · rw [f5]; exact ft4 (by rw [← f7]; exact hn)
              · omega
            simp [wj]
            have st := rJ.step cj (.inl ⟨q, rfl, rfl⟩)
            rw [if_pos (by first | exact .inl e | exact .inr rfl)] at st
            refine ⟨⟨j + 1, t6, n' + 1, n', es' ++ [((a : Int), (n' : Int))], _, _, _, _, _, _, _, _, _, _, rfl, by omega, e6, by rw [pairC_app]; exact o6, ft6, st⟩, by simp [argI]; omega⟩
          · have e' : ((j : Int) = ((m / 2 : Nat) : Int)) = True := eq_true (by omega)
            have e2' : ((j : Int) = (m : Int) / 2) = True := eq_true (by omega)
            have e3' : j = m / 2 := by omega
            simp only [Decidable.not_not] at e
            simp [cj, cj', wm, q, q', wn, ib_quo, wq, wq2, e', e2', wj]
            refine ef_bslice_all rfl rfl rfl ?_ (by omega)
            intro b5 h5 g5 B5 e5 o5
            have o5' : Own h5 2 (Sl.at b5 1 1) [.int .i64 a, .int .i64 n'] := o5
            simp
            refine ef_append_own (m := 1) (nw := [.int .i64 a, .int .i64 n']) (ot4.ext' e5) rfl (by rw [srcOf_at]; exact rd_of (l := [.int .i64 a, .int .i64 n']) fun i v hi => by simpa using o5'.cell hi) rfl (by simp) rfl (by omega) (by omega) ?_
            intro t6 h6 o6 n6 m6 f6
            have z4 := e4.size
            have z5 := e5.size
            have e6 : Ext h2 h6 := Mod.ext (e4.trans e5) m6 (fun j hj => by have := ft4 hj.1; omega)
            have ft6 : t6.nl = false → h2.size ≤ t6.b := fun hn => by
              rcases f6 with ⟨f5, f7⟩ | ⟨f5, _⟩
              · rw [f5]; exact ft4 (by rw [← f7]; exact hn)
              · omega
            simp [wj]
            have st := rJ.step cj (.inl ⟨q, rfl, rfl⟩)
            rw [if_pos (by first | exact .inl e | exact .inr rfl)] at st
            refine ⟨⟨j + 1, t6, n' + 1, n', es' ++ [((a : Int), (n' : Int))], _, _, _, _, _, _, _, _, _, _, rfl, by omega, e6, by rw [pairC_app]; exact o6, ft6, st⟩, by simp [argI]; omega⟩
        · have q' : ¬ (j : Int) < ((m - 1 : Nat) : Int) := by omega
          by_cases e : j ≠ m / 2
          · have e' : ¬ (j : Int) = ((m / 2 : Nat) : Int) := by omega
            have e2' : ¬ (j : Int) = (m : Int) / 2 := by omega
            simp [cj, cj', wm, q, q', wn, ib_quo, wq, wq2, e, e', e2']
            refine ef_bslice_all rfl rfl rfl ?_ (by omega)
            intro b5 h5 g5 B5 e5 o5
            have o5' : Own h5 2 (Sl.at b5 1 1) [.int .i64 a, .int .i64 (1 : Nat)] := o5
            simp
            refine ef_append_own (m := 1) (nw := [.int .i64 a, .int .i64 (1 : Nat)]) (ot4.ext' e5) rfl (by rw [srcOf_at]; exact rd_of (l := [.int .i64 a, .int .i64 (1 : Nat)]) fun i v hi => by simpa using o5'.cell hi) rfl (by simp) rfl (by omega) (by omega) ?_
            intro t6 h6 o6 n6 m6 f6
            have z4 := e4.size
            have z5 := e5.size
            have e6 : Ext h2 h6 := Mod.ext (e4.trans e5) m6 (fun j hj => by have := ft4 hj.1; omega)
            have ft6 : t6.nl = false → h2.size ≤ t6.b := fun hn => by
              rcases f6 with ⟨f5, f7⟩ | ⟨f5, _⟩
              · rw [f5]; exact ft4 (by rw [← f7]; exact hn)
              · omega
            simp [wj]
            have st := rJ.step cj (.inr ⟨q, rfl, rfl⟩)
            rw [if_pos (by first | exact .inl e | exact .inr rfl)] at st
            refine ⟨⟨j + 1, t6, n', (1 : Nat), es' ++ [((a : Int), ((1 : Nat) : Int))], _, _, _, _, _, _, _, _, _, _, rfl, by omega, e6, by rw [pairC_app]; exact o6, ft6, st⟩, by simp [argI]; omega⟩
          · have e' : ((j : Int) = ((m / 2 : Nat) : Int)) = True := eq_true (by omega)
            have e2' : ((j : Int) = (m : Int) / 2) = True := eq_true (by omega)
            have e3' : j = m / 2 := by omega
            simp only [Decidable.not_not] at e
            simp [cj, cj', wm, q, q', wn, ib_quo, wq, wq2, e', e2', wj]
            refine ef_bslice_all rfl rfl rfl ?_ (by omega)
            intro b5 h5 g5 B5 e5 o5
            have o5' : Own h5 2 (Sl.at b5 1 1) [.int .i64 a, .int .i64 (1 : Nat)] := o5
            simp
            refine ef_append_own (m := 1) (nw := [.int .i64 a, .int .i64 (1 : Nat)]) (ot4.ext' e5) rfl (by rw [srcOf_at]; exact rd_of (l := [.int .i64 a, .int .i64 (1 : Nat)]) fun i v hi => by simpa using o5'.cell hi) rfl (by simp) rfl (by omega) (by omega) ?_
            intro t6 h6 o6 n6 m6 f6
            have z4 := e4.size
            have z5 := e5.size
            have e6 : Ext h2 h6 := Mod.ext (e4.trans e5) m6 (fun j hj => by have := ft4 hj.1; omega)
            have ft6 : t6.nl = false → h2.size ≤ t6.b := fun hn => by
              rcases f6 with ⟨f5, f7⟩ | ⟨f5, _⟩
              · rw [f5]; exact ft4 (by rw [← f7]; exact hn)
              · omega
            simp [wj]
            have st := rJ.step cj (.inr ⟨q, rfl, rfl⟩)
            rw [if_pos (by first | exact .inl e | exact .inr rfl)] at st
            refine ⟨⟨j + 1, t6, n', (1 : Nat), es' ++ [((a : Int), ((1 : Nat) : Int))], _, _, _, _, _, _, _, _, _, _, rfl, by omega, e6, by rw [pairC_app]; exact o6, ft6, st⟩, by simp [argI]; omega⟩
      have cj' : ¬ (j : Int) < m := by omega
      have hjm : j = m := by omega
      subst hjm
      have wt : IntKind.i64.wrap ((want : Int) + 1) = (want : Int) + 1 := i64_wrap (by omega)
      simp [cj', wt, w1]
      have st := rJ.done hm0 hm8
      simp at st
      refine ⟨⟨i + 1, t', n', want + 1, es', _, _, _, _, _, _, _, _, _, _, _, _, _, rfl, by omega, e4, ot4, ft4, st⟩, by simp [argI]; omega⟩
  have c' : ¬ (i : Int) < k := by omega
  have hik : i = k := by omega
  subst hik
  have ck : ∀ (ds : List Int), (∀ v : Int, v ∈ ds ↔ v = 1) → ChkOK n es [0] ds := fun ds hds => by
    refine ⟨by omega, by omega, rI.ends, fun j hj => ?_, fun j hj => ?_, fun v h1 h2 => ?_⟩
    · have : j = 0 := by simp at hj; omega
      subst this
      simp [inV, nthI]; omega
    · have := (hds _).1 (nthI_mem hj)
      rw [this]
      simp [inV]; omega
    · simp [inSetN] at h1 h2
      have := (hds _).1 h2
      omega
  have ck2 := ck [1, 1] (fun v => by simp)
  have ck1 := ck [1] (fun v => by simp)
  have hset : inSetN [1, 1] = inSetN [1] := by funext v; simp [inSetN]
  simp [c']
  refine ef_bslice_all rfl rfl rfl ?_ (by omega)
  intro b4 h4 g4 _ e4 o4
  have r4 : Row64 h4 (Sl.at b4 1 1) [0] := Own.row64 (cs := [0]) o4
  simp
  refine ef_bslice_all rfl rfl rfl ?_ (by omega)
  intro b5 h5 g5 _ e5 o5
  have r5 : Row64 h5 (Sl.at b5 2 2) [1, 1] := Own.row64 (cs := [1, 1]) o5
  have x5 := (x3.trans e4).trans e5
  have re5 := ((ot.ext' e4).ext' e5).rowE
  simp
  refine flmax_spec (n := (n : Int)) (ss := Sl.at b4 1 1) (sd := Sl.at b5 2 2) L.K.M re5 (r4.ext e5) r5 (by simp) (by simp) ?_ ?_
  · intro h5 v e5 _ _ hne
    exact absurd (by rw [chk_of ck2]; rfl) hne
  intro h6 val fl near far sf sn sr e6 pv rf rn rr
  have m := pv.most ck2
  have hv : val = want := by
    obtain ⟨S, s0, s1, s2⟩ := rI.up
    have l1 := m.le (S := S) (fun v a => by simp [inSetN] at a; subst a; exact s0) (fun v b => by simp [inSetN] at b; have : v = 1 := (by omega); subst this; exact s1)
    rw [crossE_any, s2] at l1
    have l2 := rI.low (nthM near) (m.nearA 0 (by simp [inSetN])) (m.apart 1 (by simp [inSetN]))
    have l3 := m.crossNear
    rw [crossE_any] at l3
    omega
  subst hv
  have x6 := x5.trans e6
  simp
  refine ef_new_box ?_
  intro B h7 g7 B7 e7
  simp
  refine ef_store_box B7 rfl rfl (by simp) ?_
  intro h8 B8 m8
  have e8 : Ext h6 h8 := Mod.toExtF e7 m8 g7
  have x8 := x6.trans e8
  simp [B8.hc]
  refine ef_bslice_all rfl rfl rfl ?_ (by omega)
  intro b9 h9 g9 _ e9 o9
  have r9 : Row64 h9 (Sl.at b9 1 1) [0] := Own.row64 (cs := [0]) o9
  simp
  refine ef_bslice_all rfl rfl rfl ?_ (by omega)
  intro b10 h10 g10 _ e10 o10
  have r10 : Row64 h10 (Sl.at b10 1 1) [1] := Own.row64 (cs := [1]) o10
  have y10 : Ext h6 h10 := (e8.trans e9).trans e10
  have x10 := x6.trans y10
  have B10 := (B8.ext e9).ext e10
  have lf := rf.len
  have pf := pv.ok.1
  simp [rd_blk B10]
  refine flproves_spec (n := (n : Int)) (ss := Sl.at b9 1 1) (sd := Sl.at b10 1 1) L.K.P (re5.ext (e6.trans y10)) (r9.ext e10) r10 (rf.ext y10) (rn.ext y10) (rr.ext y10) (by simp) (by simp) (by omega) ?_
  intro h11 cc e11 hcc
  have pp : ProvesP n es [0] [1] want fl near far := by
    have h1 := pv.rest
    have h2 := pv.far
    have h3 := pv.apart
    rw [hset] at h2 h3
    exact ⟨by rw [chk_of ck1]; rfl, pv.ok, fun v hv a b => h1 v hv a (by rw [hset]; exact b), pv.val, pv.nlen, pv.flen, pv.near, h2, h3⟩
  have hc1 := hcc.2 pp
  subst hc1
  simp
  exact hr h11 (x10.trans e11)
end
end Go.Rm
