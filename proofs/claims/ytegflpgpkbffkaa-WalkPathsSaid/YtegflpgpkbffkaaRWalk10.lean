import Derived.Test.YtegflpgpkbffkaaRLaw8
import Derived.Test.YtegflpgpkbffkaaSNums

/- Least walks by going over all edges until nothing changes, in plain Lean. -/
set_option linter.unusedSimpArgs false
set_option linter.unusedVariables false
namespace Go.Rm
/-- where it goes on from an arc, and at what -/
def nextO (N : NetD) (a : Nat) : List Int := (outsO N.as (nthT N.as a).b).filter fun b => decide (turnV N a b ≠ 1152921504606846976)
def turnO (N : NetD) (a : Nat) : List Int := (nextO N a).map fun b => turnV N a b
theorem mem_next {N : NetD} {a : Nat} {b : Nat} : (b : Int) ∈ nextO N a ↔ turnV N a b ≠ 1152921504606846976 := by
  unfold nextO
  rw [List.mem_filter]
  simp only [decide_eq_true_eq]
  exact ⟨fun h => h.2, fun h => ⟨(outs_of h).2, h⟩⟩
theorem next_at {N : NetD} {a k : Nat} (hk : k < (nextO N a).length) : ∃ b : Nat, nthI (nextO N a) k = b ∧ b < N.as.length ∧ turnV N a b ≠ 1152921504606846976 := by
  have hm : nthI (nextO N a) k ∈ nextO N a := by rw [nthI_at hk]; exact List.getElem_mem hk
  obtain ⟨z, hz⟩ : ∃ z, nthI (nextO N a) k = z := ⟨_, rfl⟩
  rw [hz] at hm ⊢
  have hm' := hm
  unfold nextO at hm
  rw [List.mem_filter] at hm
  obtain ⟨i, h1, h2, _⟩ := mem_outs.1 hm.1
  rw [h2] at hm' ⊢
  exact ⟨i, rfl, h1, mem_next.1 hm'⟩
theorem mem_pos {l : List Int} {x : Int} (h : x ∈ l) : ∃ k, k < l.length ∧ nthI l k = x := by
  obtain ⟨k, hk, e⟩ := List.mem_iff_getElem.1 h
  exact ⟨k, hk, by rw [nthI_at hk, e]⟩
theorem turnO_len {N : NetD} {a : Nat} : (turnO N a).length = (nextO N a).length := by simp [turnO]
theorem turnO_at {N : NetD} {a k : Nat} (hk : k < (nextO N a).length) : nthI (turnO N a) k = turnV N a (nthI (nextO N a) k) := by
  rw [nthI_at (by rw [turnO_len]; exact hk), nthI_at hk]
  simp [turnO]
/-- costs that were found so far -/
structure BfI (n : Nat) (I : Nat → Int → Prop) (E : Nat → Nat → Int → Prop) (d : List Int) : Prop where
  len : d.length = n
  lo : ∀ b, b < n → 0 ≤ nthI d b
  le : ∀ b, b < n → nthI d b ≤ 1152921504606846976
  wk : ∀ b, b < n → nthI d b = 1152921504606846976 ∨ WalkS I E b (nthI d b)
  st : ∀ b c, I b c → nthI d b ≤ c
section
variable {n : Nat} {I : Nat → Int → Prop} {E : Nat → Nat → Int → Prop} {d : List Int}
theorem BfI.put (C : Costs n I E) (B : BfI n I E d) {b : Nat} {x : Int} (hb : b < n) (hx : x < nthI d b) (hw : WalkS I E b x) : BfI n I E (d.set b x) := by
  have l0 := B.len
  have e : ∀ y, nthI (d.set b x) y = if y = b then x else nthI d y := fun y => nthI_set (by omega)
  refine ⟨by simp [l0], fun y hy => ?_, fun y hy => ?_, fun y hy => ?_, fun y c h => ?_⟩
  · rw [e]; split
    · exact (hw.pos C).2
    · exact B.lo y hy
  · rw [e]; split
    · have := B.le b hb; omega
    · exact B.le y hy
  · rw [e]; split
    · rename_i q; subst q; exact .inr hw
    · exact B.wk y hy
  · rw [e]
    have := B.st y c h
    split
    · rename_i q; subst q; omega
    · exact this
theorem BfI.done (C : Costs n I E) (B : BfI n I E d) (hr : ∀ a b w, a < n → E a b w → nthI d b ≤ nthI d a + w) : ∀ b, b < n → LeastS I E b (nthI d b) := by
  intro b hb
  refine ⟨B.le b hb, fun c w => ?_, B.wk b hb⟩
  have : ∀ y z, WalkS I E y z → nthI d y ≤ z := fun y z w => by
    induction w with
    | init h => exact B.st _ _ h
    | step w e ih =>
      have := hr _ _ _ (w.pos C).1 e
      omega
  exact this _ _ w
end
def sumD : List Int → Nat
  | [] => 0
  | x :: r => x.toNat + sumD r
theorem sumD_set : ∀ {l : List Int} {k : Nat} {x : Int}, k < l.length → 0 ≤ x → x < nthI l k → sumD (l.set k x) < sumD l := by
  intro l
  induction l with
  | nil => intro k x hk; simp at hk
  | cons y r ih =>
    intro k x hk h0 hx
    cases k with
    | zero =>
      simp [nthI] at hx
      simp [sumD]; omega
    | succ k =>
      have := ih (k := k) (x := x) (by simpa using hk) h0 (by simpa [nthI] using hx)
      simp [sumD]; omega
/-- a step's sum -/
theorem add_step {x t w : Int} (hx : 0 ≤ x) (hx' : x ≤ 1152921504606846976) (ht : 0 ≤ t) (ht' : t ≤ 2147483648) (hw : w = 1152921504606846976 ∨ (0 ≤ w ∧ w ≤ 2147483648)) :
    addI (addI x t) w = if x + t + w ≤ 1152921504606846976 then x + t + w else 1152921504606846976 := by
  rw [addI_min hx ht hx' (by omega)]
  split
  · rw [addI_min (by omega) (by omega) (by omega) (by omega)]
  · rw [addI_min (by omega) (by omega) (by omega) (by omega)]
    rw [if_neg (by omega : ¬ x + t + w ≤ 1152921504606846976)]
    split <;> omega
/-- an edge that still has to be looked at: the j-th of the i-th arc is next -/
def Pend (N : NetD) (i j a b : Nat) : Prop := i < a ∨ (a = i ∧ ∃ k, j ≤ k ∧ k < (nextO N i).length ∧ nthI (nextO N i) k = (b : Int))
theorem pend_start {N : NetD} {a b : Nat} {w : Int} (h : EdW N a b w) : Pend N 0 0 a b := by
  by_cases c : a = 0
  · subst c
    obtain ⟨k, h1, h2⟩ := mem_pos (mem_next.2 h.1)
    exact .inr ⟨rfl, k, by omega, h1, h2⟩
  · exact .inl (by omega)
theorem pend_next {N : NetD} {i a b : Nat} {w : Int} (e : EdW N a b w) (h : i < a) : Pend N (i + 1) 0 a b := by
  by_cases c : a = i + 1
  · subst c
    obtain ⟨k, h1, h2⟩ := mem_pos (mem_next.2 e.1)
    exact .inr ⟨rfl, k, by omega, h1, h2⟩
  · exact .inl (by omega)
theorem pend_step {N : NetD} {i j a b : Nat} (h : Pend N i j a b) : Pend N i (j + 1) a b ∨ (a = i ∧ j < (nextO N i).length ∧ nthI (nextO N i) j = (b : Int)) := by
  rcases h with h | ⟨h, k, h1, h2, h3⟩
  · exact .inl (.inl h)
  · by_cases c : k = j
    · subst c; exact .inr ⟨h, h2, h3⟩
    · exact .inl (.inr ⟨h, k, by omega, h2, h3⟩)
end Go.Rm

/- The document's roads: Of. -/
set_option linter.unusedSimpArgs false
set_option linter.unusedVariables false
namespace Go.Rm
/-- the roads of a net in memory -/
structure RoadsH (h : Heap) (sv sa st sn sw : Sl) (qn qw : Nat → Sl) (N : NetD) : Prop where
  net : NetH h sv sa st N
  on : Own h 1 sn (rowQ N.as.length qn)
  ow : Own h 1 sw (rowQ N.as.length qw)
  nx : ∀ a, a < N.as.length → Own h 1 (qn a) (ints64 (nextO N a))
  tx : ∀ a, a < N.as.length → Own h 1 (qw a) (ints64 (turnO N a))
def roadsV (sv sa st sn sw : Sl) : Value := .agg #[sv.v, sa.v, st.v, sn.v, sw.v]
theorem RoadsH.ext {h h' : Heap} {sv sa st sn sw : Sl} {qn qw : Nat → Sl} {N : NetD} (r : RoadsH h sv sa st sn sw qn qw N) (e : Ext h h') : RoadsH h' sv sa st sn sw qn qw N :=
  ⟨r.net.ext e, r.on.ext' e, r.ow.ext' e, fun a ha => (r.nx a ha).ext' e, fun a ha => (r.tx a ha).ext' e⟩
theorem rowQ_snoc {n : Nat} {q : Nat → Sl} {s : Sl} : rowQ n q ++ [s.v] = rowQ (n + 1) (fun u => if u = n then s else q u) := by
  simp only [rowQ, List.range_succ, List.map_append, List.map_cons, List.map_nil, if_true]
  congr 1
  apply List.map_congr_left
  intro v hv
  have : v < n := by simpa using hv
  rw [if_neg (by omega)]
/-- two rows of rows that grow -/
structure OfG (lo : Nat) (h : Heap) (sn sw : Sl) (cn cw : List Value) (P : List (Sl × List Int)) : Prop where
  on : Own h 1 sn cn
  ow : Own h 1 sw cw
  fn : sn.nl = false → lo ≤ sn.b
  fw : sw.nl = false → lo ≤ sw.b
  d : sn.nl = false → sw.nl = false → sn.b ≠ sw.b
  px : ∀ p, p ∈ P → Own h 1 p.1 (ints64 p.2) ∧ (p.1.nl = false → lo ≤ p.1.b ∧ (sn.nl = false → p.1.b ≠ sn.b) ∧ (sw.nl = false → p.1.b ≠ sw.b))
section
variable {Y : Sys} {h h' : Heap}
theorem OfG.mod {S : Nat → Prop} {lo : Nat} {sn sw : Sl} {cn cw : List Value} {P : List (Sl × List Int)} (g : OfG lo h sn sw cn cw P) (m : Mod S h h') (hs : ∀ j, S j → j < lo) : OfG lo h' sn sw cn cw P :=
  ⟨g.on.mod m fun hn hb => by have := hs _ hb; have := g.fn hn; omega, g.ow.mod m fun hn hb => by have := hs _ hb; have := g.fw hn; omega, g.fn, g.fw, g.d,
    fun p hp => ⟨(g.px p hp).1.mod m fun hn hb => by have := hs _ hb; have := ((g.px p hp).2 hn).1; omega, (g.px p hp).2⟩⟩
theorem OfG.swap {lo : Nat} {sn sw : Sl} {cn cw : List Value} {P : List (Sl × List Int)} (g : OfG lo h sn sw cn cw P) : OfG lo h sw sn cw cn P :=
  ⟨g.ow, g.on, g.fw, g.fn, fun a b e => g.d b a e.symm, fun p hp => ⟨(g.px p hp).1, fun hn => ⟨((g.px p hp).2 hn).1, ((g.px p hp).2 hn).2.2, ((g.px p hp).2 hn).2.1⟩⟩⟩
theorem OfG.app {lo : Nat} {sn sw s' : Sl} {cn cw cn' : List Value} {P : List (Sl × List Int)} (g : OfG lo h sn sw cn cw P) (hlo : lo ≤ h.size) (o : Own h' 1 s' cn') (m : Mod (fun j => sn.nl = false ∧ j = sn.b) h h')
    (hs : (s'.b = sn.b ∧ s'.nl = sn.nl) ∨ (h.size ≤ s'.b ∧ s'.nl = false)) : OfG lo h' s' sw cn' cw P := by
  refine ⟨o, g.ow.mod m fun hn hb => g.d hb.1 hn hb.2.symm, fun hn => ?_, g.fw, fun hn hw => ?_, fun p hp => ⟨(g.px p hp).1.mod m fun hn hb => ((g.px p hp).2 hn).2.1 hb.1 hb.2, fun hn => ⟨((g.px p hp).2 hn).1, fun hn' => ?_, ((g.px p hp).2 hn).2.2⟩⟩⟩
  · rcases hs with ⟨e1, e2⟩ | ⟨e1, _⟩
    · rw [e1]; exact g.fn (by rw [← e2]; exact hn)
    · omega
  · rcases hs with ⟨e1, e2⟩ | ⟨e1, _⟩
    · rw [e1]; exact g.d (by rw [← e2]; exact hn) hw
    · have := g.ow.lt hw; omega
  · rcases hs with ⟨e1, e2⟩ | ⟨e1, _⟩
    · rw [e1]; exact ((g.px p hp).2 hn).2.1 (by rw [← e2]; exact hn')
    · have := (g.px p hp).1.lt hn; omega
theorem OfG.cons {lo : Nat} {sn sw u : Sl} {l : List Int} {cn cw : List Value} {P : List (Sl × List Int)} (g : OfG lo h sn sw cn cw P) (o : Own h 1 u (ints64 l)) (hu : u.nl = false → lo ≤ u.b ∧ (sn.nl = false → u.b ≠ sn.b) ∧ (sw.nl = false → u.b ≠ sw.b)) : OfG lo h sn sw cn cw ((u, l) :: P) :=
  ⟨g.on, g.ow, g.fn, g.fw, g.d, fun p hp => by
    rcases List.mem_cons.1 hp with e | e
    · subst e; exact ⟨o, hu⟩
    · exact g.px p e⟩
theorem ef_bslice1_w {K : Value → Heap → Prop} {z v : Value} (hv : v.oneCell' = true) (hk : ∀ (b : Nat) (h' : Heap), h.size ≤ b → Blk h' b #[v] → Ext h h' → K (.slice (some ⟨b, 0, none⟩) 1 1) h') :
    Ef.wp h K (.bslice 1 1 #[z] [0]) [v] := by
  rw [ef_bslice1 hv]
  exact fun t => hk _ _ (Nat.le_refl _) Blk.new Mod.push
theorem ef_append1w {K : Value → Heap → Prop} {bytes b : Nat} {z v : Value} {s : Sl} {cells : List Value} (hv : v.oneCell' = true) (o : Own h 1 s cells) (hb : Blk h b #[v]) (hby : (s.n + 1) * bytes ≤ 140737488355328) (h63 : s.n + 1 ≤ 9223372036854775807)
    (hk : ∀ (s' : Sl) (h' : Heap), Own h' 1 s' (cells ++ [v]) → s'.n = s.n + 1 → Mod (fun j => s.nl = false ∧ j = s.b) h h' → ((s'.b = s.b ∧ s'.nl = s.nl) ∨ (h.size ≤ s'.b ∧ s'.nl = false)) → K s'.v h') :
    Ef.wp h K (.append 1 bytes #[z]) [s.v, .slice (some ⟨b, 0, none⟩) 1 1] := by
  have hs : srcOf h 1 1 (.slice (some ⟨b, 0, none⟩) 1 1) = some [v] := by
    rw [srcOf_at]
    exact rd_blk hb rfl
  exact ef_append_own o (m := 1) (nw := [v]) rfl hs rfl (by simpa using hv) rfl hby h63 hk
structure OfFns (Y : Sys) : Prop where
  Of : Y.Has F.rref11_Of S_rref11_Of
  Place : Y.Has F.rref6_Place S_rref6_Place
  T : RefTabC Y
theorem turn_k {N : NetD} (ok : NetOK N) {a v k : Nat} (ha : a < N.as.length) (hv : (nthT N.as a).b = v) (lv : v < N.vs.length) (hk : k < (outsO N.as v).length) :
    turnV N a (nthI (outsO N.as v) k) = atV (nthB N.ts (nthT N.vs v).c.toNat).i (nthB N.ts (nthT N.vs v).c.toNat).o (nthB N.ts (nthT N.vs v).c.toNat).cs (cntB N.as a a : Nat) k := by
  obtain ⟨b, b1, b2, b3, b4⟩ := idxF_at (p := fun t => decide (t.a = (v : Int))) (k := 0) hk
  simp only [decide_eq_true_eq] at b3
  rw [Nat.zero_add] at b2
  have hb : nthI (outsO N.as v) k = (b : Int) := b2
  have hcb : cntA N.as b b = k := by unfold cntA; rw [b3]; exact b4
  rw [hb, turnV_in ha b1, hcb, bendV]
  simp only [Int.toNat_natCast, hv, b3]
  have g1 : vtxB N.vs.length (v : Int) = true := by simp [vtxB]; omega
  rw [if_neg (by simp [g1]), if_neg (by simp [ok.vt v lv])]
theorem filter_next {l : List Int} {p : Int → Bool} {k : Nat} (hk : k < l.length) : (l.take (k + 1)).filter p = (l.take k).filter p ++ if p (nthI l k) = true then [nthI l k] else [] := by
  rw [List.take_succ_eq_append_getElem hk, List.filter_append, nthI_at hk]
  simp [List.filter_cons]
def OfI2 (v0 v1 v2 v3 v4 v5 v6 : Value) (i v q : Nat) (N : NetD) (h0 : Heap) (e : List Value) (h' : Heap) : Prop :=
  ∃ (k : Nat) (u w : Sl) (v13 v14 v15 v16 v17 : Value), e = [v0, v1, v2, v3, v4, v5, v6, .int .i64 i, .int .i64 v, .int .i64 q, u.v, w.v, .int .i64 k, v13, v14, v15, v16, v17] ∧ k ≤ (outsO N.as v).length ∧ Ext h0 h' ∧
    Own h' 1 u (ints64 (((outsO N.as v).take k).filter fun b => decide (turnV N i b ≠ 1152921504606846976))) ∧ Own h' 1 w (ints64 ((((outsO N.as v).take k).filter fun b => decide (turnV N i b ≠ 1152921504606846976)).map fun b => turnV N i b)) ∧
    (u.nl = false → h0.size ≤ u.b) ∧ (w.nl = false → h0.size ≤ w.b) ∧ (u.nl = false → w.nl = false → u.b ≠ w.b)
def OfI1 (A B C : Nat) (sv sa st so si : Sl) (v0 : Value) (N : NetD) (h0 : Heap) (e : List Value) (h' : Heap) : Prop :=
  ∃ (i : Nat) (sn sw : Sl) (qn qw : Nat → Sl) (P : List (Sl × List Int)) (v6 v8 v9 v10 v11 v12 v13 v14 v15 v16 v17 : Value), e = [v0, .pointer (some ⟨A, 0, none⟩), .pointer (some ⟨C, 0, none⟩), .pointer (some ⟨B, 0, none⟩), so.v, si.v, v6, .int .i64 i, v8, v9, v10, v11, v12, v13, v14, v15, v16, v17] ∧ i ≤ N.as.length ∧
    Mod (fun j => j = B ∨ h0.size ≤ j) h0 h' ∧ Blk h' B #[sv.v, sa.v, st.v, sn.v, sw.v] ∧ OfG h0.size h' sn sw (rowQ i qn) (rowQ i qw) P ∧ ∀ a, a < i → (qn a, nextO N a) ∈ P ∧ (qw a, turnO N a) ∈ P
set_option maxHeartbeats 2000000 in
theorem of2_spec (O : OfFns Y) {hb : Heap} {A B C : Nat} {sv sa st so si : Sl} {N : NetD} {Q : Bool → Nat → Sl} {v0 v6 v7 v8 v9 v10 v11 v12 v13 v14 v15 v16 v17 : Value} (r : NetH hb sv sa st N) (ok : NetOK N) (x : Ext hb h) (zB : hb.size ≤ B) (zC : hb.size ≤ C)
    (bA : Blk h A #[sv.v, sa.v, st.v]) (bB : Blk h B #[sv.v, sa.v, st.v, .slice none 0 0, .slice none 0 0]) (bC : Blk h C #[.slice none 0 0, .slice none 0 0, .slice none 0 0, .slice none 0 0, .slice none 0 0])
    (oi : Own h 1 si (rowQ N.vs.length (Q false))) (oo : Own h 1 so (rowQ N.vs.length (Q true))) (oq : ∀ x v, v < N.vs.length → Own h 1 (Q x v) (ints64 (ioO x N.as v)))
    (dA : A ≠ B) (dC : C ≠ B) (dA2 : A ≠ C) (di : si.nl = false → si.b ≠ B) (do_ : so.nl = false → so.b ≠ B) (dq : ∀ x v, v < N.vs.length → (Q x v).nl = false → (Q x v).b ≠ B)
    {R : Value → Heap → Prop} (hr : ∀ h' sn sw qn qw, Ext hb h' → RoadsH h' sv sa st sn sw qn qw N → R (roadsV sv sa st sn sw) h') :
    Stmt.wp Y S_rref11_Of.body.rest.rest.rest.rest.rest (resP S_rref11_Of.res R) (fun _ _ _ => False) (resP S_rref11_Of.res R) [v0, .pointer (some ⟨A, 0, none⟩), .pointer (some ⟨C, 0, none⟩), .pointer (some ⟨B, 0, none⟩), so.v, si.v, v6, v7, v8, v9, v10, v11, v12, v13, v14, v15, v16, v17] h := by
  have bn := ok.ba
  have la := r.ra.len
  have lB := bB.lt
  have lC := bC.lt
  simp [S_rref11_Of, Stmt.rest]
  refine wp_loop' (OfI1 A B C sv sa st so si v0 N h) (fun e _ => N.as.length - argI e 7) ⟨0, Sl.nil, Sl.nil, fun _ => Sl.nil, fun _ => Sl.nil, [], _, _, _, _, _, _, _, _, _, _, _, rfl, by omega, Mod.refl _, bB, ⟨Own.nil, Own.nil, fun h => (by cases h), fun h => (by cases h), fun h => (by cases h), fun p hp => (by cases hp)⟩, fun a ha => by omega⟩ ?_
  rintro e h1 ⟨i, sn, sw, qn, qw, P, v6', v8', v9', v10', v11', v12', v13', v14', v15', v16', v17', rfl, hi, m1, b1, g1, hP⟩
  have z1 := m1.size
  have x1 : Ext hb h1 := Mod.ext x m1 (fun j hj => by have := x.size; omega)
  have bA1 := m1.blk bA (by have := bA.lt; omega)
  by_cases c : i < N.as.length
  · have c' : (i : Int) < sa.n := by omega
    have c2 : i < sa.n := by omega
    have w1 : IntKind.i64.wrap ((i : Int) + 1) = (i : Int) + 1 := i64_wrap (by omega)
    have q2 := (ok.arcs i c).2
    simp only [vtxB, decide_eq_true_eq] at q2
    obtain ⟨v, hv⟩ : ∃ v : Nat, (nthT N.as i).b = v := ⟨(nthT N.as i).b.toNat, by omega⟩
    rw [hv] at q2
    have lv : v < N.vs.length := by omega
    have lv2 := (r.ext x1).rv.len
    have a1 := (r.ext x1).ra.v1 i c
    rw [hv] at a1
    have oi1 := oi.mod m1 (fun hn => by have := di hn; have := oi.lt hn; omega)
    have ni : v < si.n := by have := oi.1; simp at this; omega
    have ni' : (v : Int) < si.n := by omega
    have ci := oi1.cell (rowQ_get lv)
    have oI := (oq false v lv).mod m1 (fun hn => by have := dq false v lv hn; have := (oq false v lv).lt hn; omega)
    have lI := oI.row64.len
    simp [ioO] at lI
    have kI := insO_len (as := N.as) (v := v)
    simp [bA1.hc, c', sem_idxa (r.ext x1).ra.ok, a1, sem_idxa oi1.ok, ni', ci]
    refine rplace_spec O.Place oI.row64 (by omega) ?_
    have pl := placeF_ins c
    rw [hv] at pl
    simp only [ioO, Bool.false_eq_true, if_false]
    rw [pl]
    simp
    refine wp_loop' (OfI2 v0 (.pointer (some ⟨A, 0, none⟩)) (.pointer (some ⟨C, 0, none⟩)) (.pointer (some ⟨B, 0, none⟩)) so.v si.v v6' i v (cntB N.as i i) N h1) (fun e _ => (outsO N.as v).length - argI e 12) ⟨0, Sl.nil, Sl.nil, _, _, _, _, _, rfl, by omega, Mod.refl _, Own.nil, Own.nil, fun h => (by cases h), fun h => (by cases h), fun h => (by cases h)⟩ ?_
    rintro e h2 ⟨k, u, w, v13'', v14'', v15'', v16'', v17'', rfl, hk, e2, ou, ow, fu, fw, duw⟩
    have x2 := x1.trans e2
    have z2 := e2.size
    have bA2 := bA1.ext e2
    have oo2 := (oo.mod m1 (fun hn => by have := do_ hn; have := oo.lt hn; omega)).ext' e2
    have no : v < so.n := by have := oo2.1; simp at this; omega
    have no' : (v : Int) < so.n := by omega
    have co := oo2.cell (rowQ_get lv)
    have oO := ((oq true v lv).mod m1 (fun hn => by have := dq true v lv hn; have := (oq true v lv).lt hn; omega)).ext' e2
    have lO := oO.row64.len
    simp [ioO] at lO
    have kO := outsO_len (as := N.as) (v := v)
    by_cases ck : k < (outsO N.as v).length
    · have ck' : (k : Int) < (Q true v).n := by omega
      have wk : IntKind.i64.wrap ((k : Int) + 1) = (k : Int) + 1 := i64_wrap (by omega)
      have tk := turn_k ok c hv lv ck
      have ht := ok.vt v lv
      simp [vtxB] at ht
      obtain ⟨t, hte⟩ : ∃ t : Nat, (nthT N.vs v).c = t := ⟨(nthT N.vs v).c.toNat, by omega⟩
      rw [hte] at ht tk
      simp at tk
      have lt : t < N.ts.length := by omega
      have nt := (r.ext x2).rt.len
      have nv := (r.ext x2).rv.len
      have cv := (r.ext x2).rv.v2 v lv
      rw [hte] at cv
      have lt' : (t : Int) < st.n := by omega
      have lv' : (v : Int) < sv.n := by omega
      obtain ⟨s, rdt, _, rs⟩ := (r.ext x2).rt.rd (i := t) lt
      simp [bA2.hc, ck', sem_idxa oo2.ok, no', co, sem_idxa (r.ext x2).rv.ok, lv', cv, sem_idxa (r.ext x2).rt.ok, lt', rdt]
      refine rturnat_spec O.T rs (ok.tab t lt) ?_
      intro h3 e3
      rw [← tk]
      have z3 := e3.size
      have x3 := x2.trans e3
      have bA3 := bA2.ext e3
      have oo3 := oo2.ext' e3
      have co3 := oo3.cell (rowQ_get lv)
      have oO3 := oO.ext' e3
      have cb := oO3.row64.val k ck
      simp only [ioO, if_true] at cb
      have fl := filter_next (p := fun b => decide (turnV N i b ≠ 1152921504606846976)) ck
      have ou3 := ou.ext' e3
      have ow3 := ow.ext' e3
      have nu := ou.1
      have nw := ow.1
      simp at nu nw
      have fle : (((outsO N.as v).take k).filter fun b => decide (turnV N i b ≠ 1152921504606846976)).length ≤ 16384 := Nat.le_trans (List.length_filter_le ..) (by simp; omega)
      simp at fle
      by_cases ct : turnV N i (nthI (outsO N.as v) k) = 1152921504606846976
      · simp [ct] at fl
        simp [ct, wk]
        refine ⟨⟨k + 1, u, w, _, _, _, _, _, rfl, by omega, e2.trans e3, ?_, ?_, fu, fw, duw⟩, by simp [argI]; omega⟩
        · simpa [fl] using ou3
        · simpa [fl] using ow3
      · simp [ct] at fl
        simp [ct, wk, sem_idxa oo3.ok, no', co3, sem_idxa oO3.ok, ck', cb]
        refine ef_bslice1_w rfl ?_
        intro D h4 gD bD e4
        have z4 := e4.size
        simp
        refine ef_append1w rfl (ou3.ext' e4) bD (by omega) (by omega) ?_
        intro u' h5 ou5 nu5 m5 hu5
        have z5 := m5.size
        have e25 : Ext h1 h5 := Mod.ext ((e2.trans e3).trans e4) m5 (fun j hj => by have := fu hj.1; have := hj.2; omega)
        have ow5 := (ow3.ext' e4).mod m5 (fun hn hj => duw hj.1 hn hj.2.symm)
        have fu5 : u'.nl = false → h1.size ≤ u'.b := fun hn => by
          rcases hu5 with ⟨q1, q2⟩ | ⟨q1, _⟩
          · rw [q1]; exact fu (by rw [← q2]; exact hn)
          · omega
        have du5 : u'.nl = false → w.nl = false → u'.b ≠ w.b := fun hn hw => by
          rcases hu5 with ⟨q1, q2⟩ | ⟨q1, _⟩
          · rw [q1]; exact duw (by rw [← q2]; exact hn) hw
          · have := ow.lt hw; omega
        simp
        refine ef_bslice1_w rfl ?_
        intro D' h6 gD' bD' e6
        have z6 := e6.size
        simp
        refine ef_append1w rfl (ow5.ext' e6) bD' (by omega) (by omega) ?_
        intro w' h7 ow7 nw7 m7 hw7
        have z7 := m7.size
        have ou7 := (ou5.ext' e6).mod m7 (fun hn hj => du5 hn hj.1 hj.2)
        have e27 : Ext h1 h7 := Mod.ext (e25.trans e6) m7 (fun j hj => by have := fw hj.1; have := hj.2; omega)
        have fw7 : w'.nl = false → h1.size ≤ w'.b := fun hn => by
          rcases hw7 with ⟨q1, q2⟩ | ⟨q1, _⟩
          · rw [q1]; exact fw (by rw [← q2]; exact hn)
          · omega
        have du7 : u'.nl = false → w'.nl = false → u'.b ≠ w'.b := fun hn hw => by
          rcases hw7 with ⟨q1, q2⟩ | ⟨q1, _⟩
          · rw [q1]; exact du5 hn (by rw [← q2]; exact hw)
          · have := ou5.lt hn; omega
        simp [wk]
        refine ⟨⟨k + 1, u', w', _, _, _, _, _, rfl, by omega, e27, ?_, ?_, fu5, fw7, du7⟩, by simp [argI]; omega⟩
        · simpa [fl, ints64] using ou7
        · simpa [fl, ints64] using ow7
    have ck' : ¬ (k : Int) < (Q true v).n := by omega
    obtain rfl : k = (outsO N.as v).length := by omega
    rw [List.take_length] at ou ow
    have hn1 : (outsO N.as v).filter (fun b => decide (turnV N i b ≠ 1152921504606846976)) = nextO N i := by unfold nextO; rw [hv]
    rw [hn1] at ou ow
    have hn2 : (nextO N i).map (fun b => turnV N i b) = turnO N i := rfl
    rw [hn2] at ow
    clear hn1 hn2
    have g2 := g1.mod e2 (fun _ h => h.elim)
    have b2 := b1.ext e2
    have ltn : sn.nl = false → sn.b < h1.size := fun hn => g1.on.lt hn
    have ltw : sw.nl = false → sw.b < h1.size := fun hn => g1.ow.lt hn
    have lsn := g2.on.1
    have lsw := g2.ow.1
    simp at lsn lsw
    simp [ck', bA2.hc, sem_idxa oo2.ok, no', co, b2.hc]
    refine ef_bslice1_w rfl ?_
    intro D h3 gD bD e3
    have z3 := e3.size
    have g3 := (g2.mod e3 (fun _ h => h.elim)).cons (ou.ext' e3) (fun hn => ⟨by have := fu hn; omega, fun hn' => by have := fu hn; have := ltn hn'; omega, fun hn' => by have := fu hn; have := ltw hn'; omega⟩)
    have g3 := g3.cons (ow.ext' e3) (fun hn => ⟨by have := fw hn; omega, fun hn' => by have := fw hn; have := ltn hn'; omega, fun hn' => by have := fw hn; have := ltw hn'; omega⟩)
    have b3 := b2.ext e3
    simp
    refine ef_append1w rfl g3.on bD (by omega) (by omega) ?_
    intro sn' h4 on4 nn4 m4 hs4
    have z4 := m4.size
    have g4 := g3.app (by omega) on4 m4 hs4
    have b4 := m4.blk b3 (fun hj => by have := g1.fn hj.1; have := hj.2; omega)
    rw [rowQ_snoc] at g4
    simp [b4.hc]
    refine stB b4 (o := 3) (by simp) ?_
    intro h5 b5 m5
    simp at b5
    have z5 := m5.size
    have g5 := g4.mod m5 (fun j hj => by omega)
    simp [b5.hc]
    refine ef_bslice1_w rfl ?_
    intro D' h6 gD' bD' e6
    have z6 := e6.size
    have g6 := g5.mod e6 (fun _ h => h.elim)
    have b6 := b5.ext e6
    simp
    refine ef_append1w rfl g6.ow bD' (by omega) (by omega) ?_
    intro sw' h7 ow7 nw7 m7 hw7
    have z7 := m7.size
    have g7 := (g6.swap.app (by omega) ow7 m7 hw7).swap
    have b7 := m7.blk b6 (fun hj => by have := g1.fw hj.1; have := hj.2; omega)
    rw [rowQ_snoc] at g7
    simp [b7.hc]
    refine stB b7 (o := 4) (by simp) ?_
    intro h8 b8 m8
    simp at b8
    have z8 := m8.size
    have g8 := g7.mod m8 (fun j hj => by omega)
    simp [w1]
    have m28 : Mod (fun j => j = B ∨ h.size ≤ j) h h8 := by
      refine ((((((((m1.trans (e2.mono fun _ _ h => h.elim)).trans (e3.mono fun _ _ h => h.elim)).trans (m4.mono fun j hj hb => ?_)).trans (m5.mono fun _ hj h => .inl h)).trans (e6.mono fun _ _ h => h.elim)).trans (m7.mono fun j hj hb => ?_)).trans (m8.mono fun _ hj h => .inl h)))
      · have := g1.fn hb.1; right; have := hb.2; omega
      · have := g1.fw hb.1; right; have := hb.2; omega
    refine ⟨⟨i + 1, sn', sw', (fun j => if j = i then u else qn j), (fun j => if j = i then w else qw j), _, _, _, _, _, _, _, _, _, _, _, _, rfl, by omega, m28, b8, g8, fun a ha => ?_⟩, by simp [argI]; omega⟩
    by_cases q : a = i
    · subst q; simp
    · have := hP a (by omega)
      simp [q, this]
  have c' : ¬ (i : Int) < sa.n := by omega
  obtain rfl : i = N.as.length := by omega
  have bC1 := m1.blk bC (by omega)
  simp [bA1.hc, c', rd_blk b1]
  refine ef_store_box bC1 rfl rfl (by simp) ?_
  intro h8 bC8 m8
  have lt1 : C < h1.size := by omega
  have x8 : Ext hb h8 := Mod.ext x1 m8 (fun j hj => by omega)
  have g8 := g1.mod m8 (fun j hj => by omega)
  simp [rd_blk bC8]
  refine resP_x rfl bC8 rfl ?_
  exact hr h8 sn sw qn qw x8 ⟨r.ext x8, g8.on, g8.ow, fun a ha => (g8.px _ (hP a ha).1).1, fun a ha => (g8.px _ (hP a ha).2).1⟩
end
end Go.Rm

/- The document's roads: Of, first part. -/
set_option linter.unusedSimpArgs false
set_option linter.unusedVariables false
namespace Go.Rm
section
variable {Y : Sys} {h h' : Heap}
theorem sem_build_of {a b c : Value} : IOp.sem Y h (.build #[.slice none 0 0, .slice none 0 0, .slice none 0 0, .slice none 0 0, .slice none 0 0] [(0, 3), (3, 1), (4, 1)] [0]) [.agg #[a, b, c]] = some (.agg #[a, b, c, .slice none 0 0, .slice none 0 0]) := by
  simp [IOp.sem, Instr.fill]
def OfI0 (v0 v1 v2 v3 : Value) (si so : Sl) (N : NetD) (h0 : Heap) (e : List Value) (h' : Heap) : Prop :=
  ∃ (i : Nat) (Q : Bool → Nat → Sl) (v7 v8 v9 v10 v11 v12 v13 v14 v15 v16 v17 : Value), e = [v0, v1, v2, v3, so.v, si.v, .int .i64 i, v7, v8, v9, v10, v11, v12, v13, v14, v15, v16, v17] ∧ i ≤ N.as.length ∧
    Own h' 1 si (rowQ N.vs.length (Q false)) ∧ Own h' 1 so (rowQ N.vs.length (Q true)) ∧ QOK h0.size h' N.vs.length Q (fun _ => N.as.take i) ∧ Mod (fun j => j = si.b ∨ j = so.b) h0 h'
set_option maxHeartbeats 2000000 in
theorem rof_spec (O : OfFns Y) {sv sa st : Sl} {N : NetD} (r : NetH h sv sa st N) (ok : NetOK N)
    {R : Value → Heap → Prop} (hr : ∀ h' sn sw qn qw, Ext h h' → RoadsH h' sv sa st sn sw qn qw N → R (roadsV sv sa st sn sw) h') :
    CallP Y F.rref11_Of [netV sv sa st] h R := by
  have bn := ok.ba
  have bv := ok.bv
  have lv := r.rv.len
  have la := r.ra.len
  refine .of_has O.Of rfl ?_
  have two := @of2_spec Y
  simp only [S_rref11_Of, Stmt.rest] at two
  simp [S_rref11_Of, FnS.wp, netV]
  refine ef_new_box ?_
  intro A hA gA bA eA
  have zA := eA.size
  have lA := bA.lt
  simp
  refine ef_new_box ?_
  intro C hC gC bC eC
  have zC := eC.size
  have lC := bC.lt
  have bC : Blk hC C #[.slice none 0 0, .slice none 0 0, .slice none 0 0, .slice none 0 0, .slice none 0 0] := bC
  have bA1 := bA.ext eC
  simp [rd_blk bA1, sem_build_of]
  refine new_store (vs := #[sv.v, sa.v, st.v, .slice none 0 0, .slice none 0 0]) rfl rfl (by simp) ?_
  intro B hBp gB bBp eBp stB'
  simp
  refine stB' _ ?_
  intro hB bB eB
  clear stB' bBp eBp
  have zB := eB.size
  have lB := bB.lt
  have bA2 := bA1.ext eB
  have bC2 := bC.ext eB
  simp [bA2.hc]
  refine ef_makeN (n := sv.n) (bytes := 24) (by omega) (by omega) rfl ?_
  intro bo h4 g4 oo e4 lo4
  rw [zeros_one'] at oo
  have z4 := e4.size
  simp [(bA2.ext e4).hc]
  refine ef_makeN (n := sv.n) (bytes := 24) (by omega) (by omega) rfl ?_
  intro bi h5 g5 oi e5 li5
  rw [zeros_one'] at oi
  have z5 := e5.size
  have e0 : List.replicate sv.n (.slice none 0 0) = rowQ N.vs.length (fun _ => Sl.nil) := by
    rw [lv]
    apply List.ext_getElem (by simp)
    intro j h1 h2
    simp [rowQ, Sl.nil_v]
  rw [e0] at oi oo
  have e25 := (e4.trans e5)
  have x5 : Ext h h5 := (eA.trans eC).trans (eB.trans e25)
  have bA5 := bA2.ext e25
  have bB5 := bB.ext e25
  have bC5 := bC2.ext e25
  have oo := oo.ext' e5
  obtain ⟨so, hso⟩ : ∃ s : Sl, s = Sl.at bo sv.n sv.n := ⟨_, rfl⟩
  obtain ⟨si, hsi⟩ : ∃ s : Sl, s = Sl.at bi sv.n sv.n := ⟨_, rfl⟩
  have so1 : so.nl = false := by subst hso; rfl
  have si1 : si.nl = false := by subst hsi; rfl
  have so2 : so.b = bo := by subst hso; rfl
  have si2 : si.b = bi := by subst hsi; rfl
  have so3 : (.slice (some ⟨bo, 0, none⟩) sv.n sv.n : Value) = so.v := by subst hso; rfl
  have si3 : (.slice (some ⟨bi, 0, none⟩) sv.n sv.n : Value) = si.v := by subst hsi; rfl
  rw [← hso] at oo
  rw [← hsi] at oi
  simp only [so3, si3]
  clear hso hsi so3 si3
  simp
  refine wp_loop' (OfI0 (.agg #[sv.v, sa.v, st.v]) (.pointer (some ⟨A, 0, none⟩)) (.pointer (some ⟨C, 0, none⟩)) (.pointer (some ⟨B, 0, none⟩)) si so N h5) (fun e _ => N.as.length - argI e 6) ⟨0, fun _ _ => Sl.nil, _, _, _, _, _, _, _, _, _, _, _, rfl, by omega, oi, oo, ⟨fun x v _ => by cases x <;> exact Own.nil, fun x v _ hn => (by cases hn), fun x u y v _ _ _ hn => (by cases hn)⟩, Mod.refl _⟩ ?_
  clear oi oo e0
  rintro e h6 ⟨i, Q, v7, v8, v9, v10, v11, v12, v13, v14, v15, v16, v17, rfl, hi, oi, oo, q, m6⟩
  have z6 := m6.size
  have x6 : Ext h h6 := Mod.ext x5 m6 (fun j hj => by omega)
  have bA6 := m6.blk bA5 (by omega)
  have bB6 := m6.blk bB5 (by omega)
  have bC6 := m6.blk bC5 (by omega)
  have r6 := r.ext x6
  by_cases c : i < N.as.length
  · have c' : (i : Int) < sa.n := by omega
    have w1 : IntKind.i64.wrap ((i : Int) + 1) = (i : Int) + 1 := i64_wrap (by omega)
    obtain ⟨q1, q2⟩ := ok.arcs i c
    simp only [vtxB, decide_eq_true_eq] at q1 q2
    obtain ⟨f, hf⟩ : ∃ f : Nat, (nthT N.as i).a = f := ⟨(nthT N.as i).a.toNat, by omega⟩
    obtain ⟨g, hg⟩ : ∃ g : Nat, (nthT N.as i).b = g := ⟨(nthT N.as i).b.toNat, by omega⟩
    rw [hf] at q1
    rw [hg] at q2
    have fv : f < N.vs.length := by omega
    have gv : g < N.vs.length := by omega
    have a0 := r6.ra.v0 i c
    rw [hf] at a0
    have ltQ : ∀ x v, v < N.vs.length → (Q x v).nl = false → (Q x v).b < h6.size := fun x v hv hn => (q.own x v hv).lt hn
    have ni1 : si.n = N.vs.length := by have := oi.1; simp at this; omega
    have no1 : so.n = N.vs.length := by have := oo.1; simp at this; omega
    have gi : (g : Int) < si.n := by omega
    have fo' : (f : Int) < so.n := by omega
    have cO := oo.cell (rowQ_get fv)
    have nI := (q.own false g gv).1
    have nO := (q.own true f fv).1
    rw [ints64_len, Nat.mul_one] at nI nO
    have kI : (ioO false (N.as.take i) g).length ≤ N.as.length := Nat.le_trans insO_len (by simp; omega)
    have kO : (ioO true (N.as.take i) f).length ≤ N.as.length := Nat.le_trans outsO_len (by simp; omega)
    simp [bA6.hc, c', sem_idxa r6.ra.ok, a0, sem_idxa oo.ok, fo', cO]
    refine ef_bslice1_w rfl ?_
    intro D h7 gD bD e7
    have z7 := e7.size
    have bA7 := bA6.ext e7
    have r7 := r6.ext e7
    have a07 := r7.ra.v0 i c
    rw [hf] at a07
    have oo7 := oo.ext' e7
    have oi7 := oi.ext' e7
    have q7 := q.ext e7
    have cO7 := oo7.cell (rowQ_get fv)
    simp [bA7.hc, c', sem_idxa r7.ra.ok, a07, sem_idxa oo7.ok, fo', cO7]
    refine ef_append1w rfl (q7.own true f fv) bD (by omega) (by omega) ?_
    intro s' h8 os hns m8 hs8
    have z8 := m8.size
    have qf := q.fr true f fv
    have bA8 := m8.blk bA7 (fun hj => by have := qf hj.1; have := hj.2; omega)
    have bB8 := m8.blk (bB6.ext e7) (fun hj => by have := qf hj.1; have := hj.2; omega)
    have bC8 := m8.blk (bC6.ext e7) (fun hj => by have := qf hj.1; have := hj.2; omega)
    have lbo := oo.lt so1
    have lbi := oi.lt si1
    have x8 : Ext h h8 := Mod.ext (x6.trans e7) m8 (fun j hj => by have := qf hj.1; have := hj.2; omega)
    have r8 := r.ext x8
    have a08 := r8.ra.v0 i c
    rw [hf] at a08
    have oi8 := oi7.mod m8 (fun _ hj => by have := qf hj.1; have := hj.2; omega)
    have oo8 := oo7.mod m8 (fun _ hj => by have := qf hj.1; have := hj.2; omega)
    have q8 := q7.step (x := true) (l' := fun y => if y = true then N.as.take (i + 1) else N.as.take i) fv (by omega) (by
      have : ints64 (ioO true (if true = true then N.as.take (i + 1) else N.as.take i) f) = ints64 (ioO true (N.as.take i) f) ++ [.int .i64 i] := by
        simp only [if_true, ioO, outsO]
        rw [idxF_snoc c]
        simp [hf, ints64]
      rw [this]
      exact os) m8 hs8 (fun y v hv hne => by
      cases y with
      | false => rfl
      | true =>
        have : v ≠ f := hne.resolve_left (by simp)
        simp only [if_true, ioO, outsO]
        exact idxF_same c (by simp [hf]; omega))
    simp [bA8.hc, c', sem_idxa r8.ra.ok, a08, sem_idxa oo8.ok, fo']
    refine stN oo8 (k := f) (by simpa using fv) ?_
    intro h9 oo9 m9
    rw [rowQ_set] at oo9
    have z9 := m9.size
    have hs8' : s'.nl = false → h5.size ≤ s'.b := by
      intro hn
      rcases hs8 with ⟨e1, e2⟩ | ⟨e1, _⟩
      · rw [e1]; exact qf (by rw [← e2]; exact hn)
      · omega
    have oi9 := oi8.mod m9 (fun _ hj => by omega)
    have q9 := q8.mod m9 (fun b hb => by omega)
    have bA9 := m9.blk bA8 (by omega)
    have bB9 := m9.blk bB8 (by omega)
    have bC9 := m9.blk bC8 (by omega)
    have x9 : Ext h h9 := Mod.ext x8 m9 (fun j hj => by omega)
    have r9 := r.ext x9
    have a19 := r9.ra.v1 i c
    rw [hg] at a19
    have cI := oi9.cell (rowQ_get gv)
    simp [bA9.hc, c', sem_idxa r9.ra.ok, a19, sem_idxa oi9.ok, gi, cI]
    refine ef_bslice1_w rfl ?_
    intro D' h10 gD' bD' e10
    have z10 := e10.size
    have bA10 := bA9.ext e10
    have r10 := r9.ext e10
    have a110 := r10.ra.v1 i c
    rw [hg] at a110
    have oo10 := oo9.ext' e10
    have oi10 := oi9.ext' e10
    have q10 := q9.ext e10
    have cI10 := oi10.cell (rowQ_get gv)
    simp [bA10.hc, c', sem_idxa r10.ra.ok, a110, sem_idxa oi10.ok, gi, cI10]
    have qT := q10.own false g gv
    have qe : (if false = true ∧ g = f then s' else Q false g) = Q false g := by simp
    simp only [qe] at qT
    refine ef_append1w rfl qT bD' (by omega) (by omega) ?_
    intro s'' h11 os2 hns2 m11 hs11
    have z11 := m11.size
    have qf2 := q10.fr false g gv
    simp only [qe] at qf2
    have bA11 := m11.blk bA10 (fun hj => by have := qf2 hj.1; have := hj.2; omega)
    have bB11 := m11.blk (bB9.ext e10) (fun hj => by have := qf2 hj.1; have := hj.2; omega)
    have bC11 := m11.blk (bC9.ext e10) (fun hj => by have := qf2 hj.1; have := hj.2; omega)
    have oi11 := oi10.mod m11 (fun _ hj => by have := qf2 hj.1; have := hj.2; omega)
    have oo11 := oo10.mod m11 (fun _ hj => by have := qf2 hj.1; have := hj.2; omega)
    have x11 : Ext h h11 := Mod.ext (x9.trans e10) m11 (fun j hj => by have := qf2 hj.1; have := hj.2; omega)
    have r11 := r.ext x11
    have a111 := r11.ra.v1 i c
    rw [hg] at a111
    have q11 := q10.step (x := false) (l' := fun _ => N.as.take (i + 1)) gv (by omega) (by
      have : ints64 (ioO false (N.as.take (i + 1)) g) = ints64 (ioO false (N.as.take i) g) ++ [.int .i64 i] := by
        simp only [ioO, Bool.false_eq_true, if_false, insO]
        rw [idxF_snoc c]
        simp [hg, ints64]
      rw [this]
      exact os2) (by simpa only [qe] using m11) (by simpa only [qe] using hs11) (fun y v hv hne => by
      cases y with
      | true => rfl
      | false =>
        have : v ≠ g := hne.resolve_left (by simp)
        simp only [ioO, Bool.false_eq_true, if_false, insO]
        exact idxF_same c (by simp [hg]; omega))
    simp [bA11.hc, c', sem_idxa r11.ra.ok, a111, sem_idxa oi11.ok, gi]
    refine stN oi11 (k := g) (by simpa using gv) ?_
    intro h12 oi12 m12
    rw [rowQ_set] at oi12
    have hs11' : s''.nl = false → h5.size ≤ s''.b := by
      intro hn
      rcases hs11 with ⟨e1, e2⟩ | ⟨e1, _⟩
      · rw [e1]; exact qf2 (by rw [← e2]; exact hn)
      · omega
    have oo12 := oo11.mod m12 (fun _ hj => by omega)
    have q12 := q11.mod m12 (fun b hb => by omega)
    simp [w1]
    have mm : Mod (fun j => j = si.b ∨ j = so.b) h5 h12 := by
      refine ((((((m6.trans (e7.mono fun _ _ h => h.elim)).then m8 (fun j hj hb => ?_)).trans (m9.mono fun _ _ h => .inr h)).trans (e10.mono fun _ _ h => h.elim)).then m11 (fun j hj hb => ?_)).trans (m12.mono fun _ _ h => .inl h))
      · have := qf hb.1; have := hb.2; omega
      · have := qf2 hb.1; have := hb.2; omega
    refine ⟨⟨i + 1, fun y v => if y = false ∧ v = g then s'' else if y = true ∧ v = f then s' else Q y v, _, _, _, _, _, _, _, _, _, _, _, rfl, by omega, ?_, ?_, q12, mm⟩, by simp [argI]; omega⟩
    · simpa using oi12
    · simpa using oo12
  have c' : ¬ (i : Int) < sa.n := by omega
  obtain rfl : i = N.as.length := by omega
  rw [List.take_length] at q
  have lbo := oo.lt so1
  have lbi := oi.lt si1
  simp [bA6.hc, c']
  exact two (v7 := undef) O r ok x6 (by omega) (by omega) bA6 bB6 bC6 oi oo q.own (by omega) (by omega) (by omega) (fun _ => by omega) (fun _ => by omega) (fun x v hv hn => by have := q.fr x v hv hn; omega) hr
end
end Go.Rm

/- The document's roads: From. -/
set_option linter.unusedSimpArgs false
set_option linter.unusedVariables false
namespace Go.Rm
structure RoFns (Y : Sys) : Prop where
  never : Y.Has F.rref11_never S_rref11_never
  There : Y.Has F.rref6_There S_rref6_There
  C : RefCost Y
section
variable {Y : Sys} {h h' : Heap}
def NvI (n b : Nat) (v0 v1 : Value) (h0 : Heap) (e : List Value) (h' : Heap) : Prop :=
  ∃ (i : Nat) (v4 : Value), e = [v0, v1, .slice (some ⟨b, 0, none⟩) n n, .int .i64 i, v4] ∧ i ≤ n ∧ Mod (fun j => j = b) h0 h' ∧ ∃ l : List Int, l.length = n ∧ Own h' 1 (Sl.at b n n) (ints64 l) ∧ ∀ j, j < i → nthI l j = 1152921504606846976
theorem never_spec (H : Y.Has F.rref11_never S_rref11_never) {n : Nat} {m : Int} (hm : m = n) (bn : n ≤ 16384)
    {R : Value → Heap → Prop} (hr : ∀ h' b, Ext h h' → h.size ≤ b → Own h' 1 (Sl.at b n n) (ints64 (List.replicate n 1152921504606846976)) → R (.slice (some ⟨b, 0, none⟩) n n) h') :
    CallP Y F.rref11_never [.int .i64 m] h R := by
  subst hm
  refine .of_has H rfl ?_
  simp [S_rref11_never, FnS.wp]
  refine ef_make64 (n := n) (by omega) rfl ?_
  intro b h1 g1 o1 e1 l1
  simp
  refine wp_loop' (NvI n b _ _ h1) (fun e _ => n - argI e 3) ⟨0, _, rfl, by omega, Mod.refl _, _, by simp, o1, fun j hj => by omega⟩ ?_
  rintro e h2 ⟨i, v4, rfl, hi, m2, l, hl, o2, hall⟩
  by_cases c : i < n
  · have c' : (i : Int) < n := by omega
    have w1 : IntKind.i64.wrap ((i : Int) + 1) = (i : Int) + 1 := i64_wrap (by omega)
    have hiF : ∀ g, IOp.sem Y g (.idxa 1) [.slice (some ⟨b, 0, none⟩) n n, .int .i64 i] = some (.pointer (some ⟨b, i, none⟩)) := fun g => by
      have := sem_idxF (Y := Y) (h := g) (b := b) (sz := 1) (show n ≤ 9223372036854775807 by omega) c (Nat.le_refl n)
      simpa using this
    simp [c', c, hiF]
    refine stAt o2 (k := i) (by simp [hl]; omega) ?_
    intro h3 o3 m3
    rw [ints64_set] at o3
    simp [w1]
    refine ⟨⟨i + 1, _, rfl, by omega, m2.trans m3, l.set i 1152921504606846976, by simp [hl], o3, fun j hj => ?_⟩, by simp [argI]; omega⟩
    rw [nthI_set (by omega)]
    by_cases q : j = i
    · simp [q]
    · simp [q]; exact hall j (by omega)
  have c' : ¬ (i : Int) < n := by omega
  simp [c']
  have lrep : l = List.replicate n 1152921504606846976 := by
    apply List.ext_getElem
    · simp [hl]
    · intro j a1 a2
      have := hall j (by omega)
      rw [nthI_at a1] at this
      simp [this]
  subst lrep
  exact hr h2 b (Mod.toExtF e1 m2 g1) g1 o2
theorem rd_pre3 {b : Nat} {a1 a2 a3 a4 a5 : Value} (hb : Blk h b #[a1, a2, a3, a4, a5]) : rd h b 0 3 = some [a1, a2, a3] :=
  rd_of (l := [a1, a2, a3]) fun i v hi => by
    rw [hb.hc]
    match i, hi with
    | 0, hi => simpa using hi
    | 1, hi => simpa using hi
    | 2, hi => simpa using hi
    | i + 3, hi => simp at hi
/-- no walk begins at an arc that is not there, or shut -/
theorem least_shut {N : NetD} {s : Int} {E : Nat → Nat → Int → Prop} (ws : weightV N s = 1152921504606846976) {b : Nat} : LeastS (FromI N s) E b 1152921504606846976 := by
  refine ⟨Int.le_refl _, fun c w => ?_, .inl rfl⟩
  exfalso
  have : ∀ b c, WalkS (FromI N s) E b c → False := fun b c w => by
    induction w with
    | init h => exact h.2.2 ws
    | step _ _ ih => exact ih
  exact this _ _ w
theorem bf_start {N : NetD} {s : Nat} {E : Nat → Nat → Int → Prop} (hs : s < N.as.length) (ws : weightV N s ≠ 1152921504606846976) : BfI N.as.length (FromI N s) E ((List.replicate N.as.length 1152921504606846976).set s 0) := by
  have e : ∀ y, y < N.as.length → nthI ((List.replicate N.as.length (1152921504606846976 : Int)).set s 0) y = if y = s then 0 else 1152921504606846976 := fun y hy => by
    rw [nthI_set (by simpa using hs)]
    split
    · rfl
    · simp [nthI, hy]
  refine ⟨by simp, fun y hy => ?_, fun y hy => ?_, fun y hy => ?_, fun y c h => ?_⟩
  · rw [e y hy]; split <;> omega
  · rw [e y hy]; split <;> omega
  · rw [e y hy]; split
    · rename_i q; subst q; exact .inr (.init ⟨rfl, rfl, ws⟩)
    · exact .inl rfl
  · obtain ⟨h1, h2, h3⟩ := h
    have : y = s := by omega
    subst this
    rw [e y hs]
    simp [h2]
def FrO (N : NetD) (B cb : Nat) (v0 v1 v3 : Value) (s : Int) (h0 : Heap) (m : Nat) (e : List Value) (h' : Heap) : Prop :=
  ∃ (fl : Bool) (L : List Int) (v6 v7 v8 v9 v10 v11 v12 v13 v14 : Value), e = [v0, v1, .pointer (some ⟨B, 0, none⟩), v3, .slice (some ⟨cb, 0, none⟩) N.as.length N.as.length, .bool fl, v6, v7, v8, v9, v10, v11, v12, v13, v14] ∧ Ext h0 h' ∧
    Own h' 1 (Sl.at cb N.as.length N.as.length) (ints64 L) ∧ BfI N.as.length (FromI N s) (EdW N) L ∧ (fl = false → ∀ a b w, a < N.as.length → EdW N a b w → nthI L b ≤ nthI L a + w) ∧ m = 2 * sumD L + fl.toNat
def FrM (N : NetD) (B cb M : Nat) (v0 v1 v3 : Value) (s : Int) (h0 : Heap) (e : List Value) (h' : Heap) : Prop :=
  ∃ (i : Nat) (fl : Bool) (L : List Int) (v7 v8 v9 v10 v11 v12 v13 v14 : Value), e = [v0, v1, .pointer (some ⟨B, 0, none⟩), v3, .slice (some ⟨cb, 0, none⟩) N.as.length N.as.length, .bool fl, .int .i64 i, v7, v8, v9, v10, v11, v12, v13, v14] ∧ i ≤ N.as.length ∧ Ext h0 h' ∧
    Own h' 1 (Sl.at cb N.as.length N.as.length) (ints64 L) ∧ BfI N.as.length (FromI N s) (EdW N) L ∧ (fl = false → ∀ a b w, a < N.as.length → EdW N a b w → Pend N i 0 a b ∨ nthI L b ≤ nthI L a + w) ∧ 2 * sumD L + fl.toNat < M
def FrJ (N : NetD) (B cb M i : Nat) (v0 v1 v3 : Value) (s : Int) (h0 : Heap) (e : List Value) (h' : Heap) : Prop :=
  ∃ (j : Nat) (fl : Bool) (L : List Int) (v8 v9 v10 v11 v12 v13 v14 : Value), e = [v0, v1, .pointer (some ⟨B, 0, none⟩), v3, .slice (some ⟨cb, 0, none⟩) N.as.length N.as.length, .bool fl, .int .i64 i, .int .i64 j, v8, v9, v10, v11, v12, v13, v14] ∧ j ≤ (nextO N i).length ∧ Ext h0 h' ∧
    Own h' 1 (Sl.at cb N.as.length N.as.length) (ints64 L) ∧ BfI N.as.length (FromI N s) (EdW N) L ∧ (fl = false → ∀ a b w, a < N.as.length → EdW N a b w → Pend N i j a b ∨ nthI L b ≤ nthI L a + w) ∧ 2 * sumD L + fl.toNat < M
set_option maxHeartbeats 2000000 in
theorem rfrom_spec (X : RoFns Y) (HF : Y.Has F.rref11_Roads_From S_rref11_Roads_From) {sv sa st sn sw : Sl} {qn qw : Nat → Sl} {N : NetD} (r : RoadsH h sv sa st sn sw qn qw N) (ok : NetOK N) {s : Int}
    {R : Value → Heap → Prop} (hr : ∀ h' cb L, Ext h h' → h.size ≤ cb → Own h' 1 (Sl.at cb N.as.length N.as.length) (ints64 L) → L.length = N.as.length → (∀ b, b < N.as.length → LeastS (FromI N s) (EdW N) b (nthI L b)) →
      R (.slice (some ⟨cb, 0, none⟩) N.as.length N.as.length) h') :
    CallP Y F.rref11_Roads_From [roadsV sv sa st sn sw, .int .i64 s] h R := by
  have bn := ok.ba
  have la := r.net.ra.len
  refine .of_has HF rfl ?_
  simp [S_rref11_Roads_From, FnS.wp, roadsV]
  refine ef_new_box ?_
  intro B hB gB bB eB
  have zB := eB.size
  have lB := bB.lt
  simp [bB.hc]
  refine never_spec X.never (n := N.as.length) (by omega) bn ?_
  intro h1 cb e1 g1 o1
  have z1 := e1.size
  have lcb := o1.lt rfl
  simp at lcb
  have x1 := eB.trans e1
  have B1 := bB.ext e1
  simp [rd_pre3 B1]
  rw [show (Value.agg #[sv.v, sa.v, st.v]) = netV sv sa st from rfl]
  refine there_spec X.There la ?_
  intro h2 e2
  have x2 := x1.trans e2
  have B2 := B1.ext e2
  have o2 := o1.ext' e2
  have hiF : ∀ g z (x : Nat), x < N.as.length → IOp.sem Y g (.idxa 1) [.slice (some ⟨z, 0, none⟩) N.as.length N.as.length, .int .i64 x] = some (.pointer (some ⟨z, x, none⟩)) := fun g z x lx => by
    have := sem_idxF (Y := Y) (h := g) (b := z) (sz := 1) (show N.as.length ≤ 9223372036854775807 by omega) lx (Nat.le_refl N.as.length)
    simpa using this
  have shut : weightV N s = 1152921504606846976 → R (.slice (some ⟨cb, 0, none⟩) N.as.length N.as.length) h2 := fun ws => by
    refine hr h2 cb _ x2 (by omega) o2 (by simp) (fun b hb => ?_)
    have : nthI (List.replicate N.as.length (1152921504606846976 : Int)) b = 1152921504606846976 := by simp [nthI, hb]
    rw [this]
    exact least_shut ws
  by_cases c0 : vtxB N.as.length s = true
  rotate_left
  · have c0' : vtxB N.as.length s = false := by simpa using c0
    simp [c0']
    exact shut (by unfold weightV; rw [if_neg c0]; rfl)
  simp [vtxB] at c0
  obtain ⟨k, rfl⟩ : ∃ k : Nat, s = k := ⟨s.toNat, by omega⟩
  have lk : k < N.as.length := by omega
  have lk' : (k : Int) < sa.n := by omega
  have vk : vtxB N.as.length (k : Int) = true := by simp [vtxB]; omega
  have wk := arc_w lk
  have cw := (r.net.ext x2).ra.v2 k lk
  rw [← wk] at cw
  simp [vk, B2.hc, sem_idxa (r.net.ext x2).ra.ok, lk', cw]
  by_cases ws : weightV N k = 1152921504606846976
  · simp [ws]
    exact shut ws
  simp [ws, hiF _ _ _ lk]
  refine stAt o2 (k := k) (by simp; omega) ?_
  intro h3 o3 m3
  rw [show (Value.int .i64 0) = .int .i64 ((0 : Int)) from rfl, ints64_set] at o3
  have e3 : Ext hB h3 := Mod.ext (e1.trans e2) m3 (fun j hj => by omega)
  simp
  refine wp_loopM (kn := fun _ _ => True) (FrO N B cb (.agg #[sv.v, sa.v, st.v, sn.v, sw.v]) (.int .i64 k) (.slice none 0 0) k hB) (2 * sumD ((List.replicate N.as.length 1152921504606846976).set k 0) + 1) ⟨true, _, _, _, _, _, _, _, _, _, _, rfl, e3, o3, bf_start lk ws, (fun h => (by cases h)), rfl⟩ ?_
  clear o3 m3 e3
  rintro M e h4 ⟨fl, L, v6, v7, v8, v9, v10, v11, v12, v13, v14, rfl, e4, o4, bf, hfl, rfl⟩
  cases fl with
  | false =>
    simp
    exact hr h4 cb L (eB.trans e4) (by omega) o4 bf.len (bf.done (from_costs ok) (hfl rfl))
  | true =>
  simp
  refine wp_loop' (FrM N B cb (2 * sumD L + 1) (.agg #[sv.v, sa.v, st.v, sn.v, sw.v]) (.int .i64 k) (.slice none 0 0) k hB) (fun e _ => N.as.length - argI e 6) ⟨0, false, L, _, _, _, _, _, _, _, _, rfl, by omega, e4, o4, bf, (fun _ a b w _ he => .inl (pend_start he)), by simp⟩ ?_
  generalize 2 * sumD L + 1 = M
  clear hfl bf o4 e4
  rintro e h5 ⟨i, fl, L, v7, v8, v9, v10, v11, v12, v13, v14, rfl, hi, e5, o5, bf, hfl, hM⟩
  have lL := bf.len
  by_cases c : i < N.as.length
  rotate_left
  · have c' : ¬ (i : Int) < N.as.length := by omega
    simp [c']
    refine next_M (m' := 2 * sumD L + fl.toNat) ⟨fl, L, _, _, _, _, _, _, _, _, _, rfl, e5, o5, bf, (fun hf a b w ha he => ?_), rfl⟩ hM
    rcases hfl hf a b w ha he with p | p
    · rcases p with p | ⟨p, _⟩ <;> omega
    · exact p
  have c' : (i : Int) < N.as.length := by omega
  have w1 : IntKind.i64.wrap ((i : Int) + 1) = (i : Int) + 1 := i64_wrap (by omega)
  simp [c']
  refine wp_loop' (FrJ N B cb M i (.agg #[sv.v, sa.v, st.v, sn.v, sw.v]) (.int .i64 k) (.slice none 0 0) k hB) (fun e _ => (nextO N i).length - argI e 7) ⟨0, fl, L, _, _, _, _, _, _, _, rfl, by omega, e5, o5, bf, hfl, hM⟩ ?_
  clear hfl bf o5 e5 hM lL
  rintro e h6 ⟨j, fl, L, v8, v9, v10, v11, v12, v13, v14, rfl, hj, e6, o6, bf, hfl, hM⟩
  have x6 := eB.trans e6
  have B6 := bB.ext e6
  have r6 := r.ext x6
  have lL := bf.len
  have ln := r6.on.1
  have lw := r6.ow.1
  simp at ln lw
  have ci := r6.on.cell (rowQ_get (q := qn) c)
  have ci2 : (i : Int) < sn.n := by omega
  have on := r6.nx i c
  have lon := on.1
  simp at lon
  have oi := o6.row64.val i (by omega)
  simp at oi
  by_cases cj : j < (nextO N i).length ∧ nthI L i < 1152921504606846976
  rotate_left
  · have go : ∀ v v' : Value, FrM N B cb M (.agg #[sv.v, sa.v, st.v, sn.v, sw.v]) (.int .i64 k) (.slice none 0 0) k hB [.agg #[sv.v, sa.v, st.v, sn.v, sw.v], .int .i64 k, .pointer (some ⟨B, 0, none⟩), .slice none 0 0, .slice (some ⟨cb, 0, none⟩) N.as.length N.as.length, .bool fl, .int .i64 (i + 1 : Nat), .int .i64 j, v8, v9, v10, v11, v12, v, v'] h6 := fun v v' => by
      refine ⟨i + 1, fl, L, _, _, _, _, _, _, _, _, rfl, by omega, e6, o6, bf, fun hf a b w ha he => ?_, hM⟩
      rcases hfl hf a b w ha he with p | p
      · rcases p with p | ⟨p, q, p1, p2, p3⟩
        · exact .inl (pend_next he p)
        · right
          subst p
          have g1 : ¬ nthI L a < 1152921504606846976 := fun g => cj ⟨by omega, g⟩
          obtain ⟨g2, g3, g4⟩ := (from_costs ok (s := (k : Int))).e0 _ _ _ he
          have := bf.le b g2
          omega
      · exact .inr p
    by_cases cj1 : j < (nextO N i).length
    · have cj2 : ¬ nthI L i < 1152921504606846976 := fun g => cj ⟨cj1, g⟩
      have cj1' : (j : Int) < (qn i).n := by omega
      simp [B6.hc, sem_idxa r6.on.ok, ci2, ci, cj1', hiF _ _ _ c, oi, cj2, w1]
      exact ⟨go _ _, by simp [argI]; omega⟩
    · have cj1' : ¬ (j : Int) < (qn i).n := by omega
      simp [B6.hc, sem_idxa r6.on.ok, ci2, ci, cj1', w1]
      exact ⟨go _ _, by simp [argI]; omega⟩
  obtain ⟨cj1, cj2⟩ := cj
  have cj1' : (j : Int) < (qn i).n := by omega
  obtain ⟨b, hb, lb, tb⟩ := next_at cj1
  have ct := (turn_cases ok (a := (i : Int)) (b := (b : Int))).resolve_left tb
  have cwt := arc_cases ok (a := (b : Int))
  have vn := on.row64.val j cj1
  rw [hb] at vn
  have ciw := r6.ow.cell (rowQ_get (q := qw) c)
  have ow := r6.tx i c
  have low := ow.1
  simp [turnO_len] at low
  have vt := ow.row64.val j (by rw [turnO_len]; exact cj1)
  rw [turnO_at cj1, hb] at vt
  have ci3 : (i : Int) < sw.n := by omega
  have cj3 : (j : Int) < (qw i).n := by omega
  have lb' : (b : Int) < sa.n := by omega
  have vw := r6.net.ra.v2 b lb
  rw [← arc_w lb] at vw
  have ob := o6.row64.val b (by omega)
  simp at ob
  simp [B6.hc, sem_idxa r6.on.ok, ci2, ci, cj1', hiF _ _ _ c, oi, cj2, sem_idxa on.ok, vn, sem_idxa r6.ow.ok, ci3, ciw, sem_idxa ow.ok, cj3, vt, sem_idxa r6.net.ra.ok, lb', vw]
  refine radd_spec X.C ?_
  simp [B6.hc, sem_idxa r6.net.ra.ok, lb', vw]
  refine radd_spec X.C ?_
  have hst := add_step (bf.lo i c) (bf.le i c) ct.1 ct.2 cwt
  rw [hst]
  obtain ⟨x, hx⟩ : ∃ x, (if nthI L i + turnV N i b + weightV N b ≤ 1152921504606846976 then nthI L i + turnV N i b + weightV N b else 1152921504606846976) = x := ⟨_, rfl⟩
  rw [hx]
  have nle : (nextO N i).length ≤ N.as.length := Nat.le_trans (List.length_filter_le ..) outsO_len
  have wj : IntKind.i64.wrap ((j : Int) + 1) = (j : Int) + 1 := i64_wrap (by omega)
  by_cases cx : x < nthI L b
  · simp [hiF _ _ _ lb, ob, cx]
    refine stAt o6 (k := b) (by simp [lL]; omega) ?_
    intro h7 o7 m7
    rw [ints64_set] at o7
    simp [wj]
    have leb := bf.le b lb
    have lei := bf.lo i c
    have wb : weightV N b ≠ 1152921504606846976 := fun h => by
      rw [h] at hx
      split at hx <;> omega
    have hx' : x = nthI L i + (turnV N i b + weightV N b) := by
      split at hx <;> omega
    have hw : WalkS (FromI N k) (EdW N) b x := by
      rw [hx']
      exact .step ((bf.wk i c).resolve_left (by omega)) ⟨tb, wb, rfl⟩
    have hx0 := (hw.pos (from_costs ok)).2
    have sm := sumD_set (l := L) (k := b) (x := x) (by omega) hx0 cx
    refine ⟨⟨j + 1, true, L.set b x, _, _, _, _, _, _, _, rfl, by omega, Mod.ext e6 m7 (fun j hj => by omega), o7, bf.put (from_costs ok) lb cx hw, (fun h => (by cases h)), ?_⟩, by simp [argI]; omega⟩
    simp
    cases fl <;> simp at hM <;> omega
  · simp [hiF _ _ _ lb, ob, cx, wj]
    refine ⟨⟨j + 1, fl, L, _, _, _, _, _, _, _, rfl, by omega, e6, o6, bf, fun hf a b' w ha he => ?_, hM⟩, by simp [argI]; omega⟩
    rcases hfl hf a b' w ha he with p | p
    · rcases pend_step p with p | ⟨p1, p2, p3⟩
      · exact .inl p
      · right
        subst p1
        have : b' = b := by omega
        subst this
        obtain ⟨h1, h2, h3⟩ := he
        have := bf.le b' lb
        split at hx <;> omega
    · exact .inr p
end
end Go.Rm

/- The document's roads: To. -/
set_option linter.unusedSimpArgs false
set_option linter.unusedVariables false
namespace Go.Rm
section
variable {Y : Sys} {h h' : Heap}
def TwO (N : NetD) (B cb : Nat) (v0 v1 v3 : Value) (s : Int) (h0 : Heap) (m : Nat) (e : List Value) (h' : Heap) : Prop :=
  ∃ (fl : Bool) (L : List Int) (v6 v7 v8 v9 v10 v11 v12 v13 v14 : Value), e = [v0, v1, .pointer (some ⟨B, 0, none⟩), v3, .slice (some ⟨cb, 0, none⟩) N.as.length N.as.length, .bool fl, v6, v7, v8, v9, v10, v11, v12, v13, v14] ∧ Ext h0 h' ∧
    Own h' 1 (Sl.at cb N.as.length N.as.length) (ints64 L) ∧ BfI N.as.length (FromI N s) (EdR N) L ∧ (fl = false → ∀ b a w, b < N.as.length → EdR N b a w → nthI L a ≤ nthI L b + w) ∧ m = 2 * sumD L + fl.toNat
def TwM (N : NetD) (B cb M : Nat) (v0 v1 v3 : Value) (s : Int) (h0 : Heap) (e : List Value) (h' : Heap) : Prop :=
  ∃ (i : Nat) (fl : Bool) (L : List Int) (v7 v8 v9 v10 v11 v12 v13 v14 : Value), e = [v0, v1, .pointer (some ⟨B, 0, none⟩), v3, .slice (some ⟨cb, 0, none⟩) N.as.length N.as.length, .bool fl, .int .i64 i, v7, v8, v9, v10, v11, v12, v13, v14] ∧ i ≤ N.as.length ∧ Ext h0 h' ∧
    Own h' 1 (Sl.at cb N.as.length N.as.length) (ints64 L) ∧ BfI N.as.length (FromI N s) (EdR N) L ∧ (fl = false → ∀ b a w, b < N.as.length → EdR N b a w → Pend N i 0 a b ∨ nthI L a ≤ nthI L b + w) ∧ 2 * sumD L + fl.toNat < M
def TwJ (N : NetD) (B cb M i : Nat) (v0 v1 v3 : Value) (s : Int) (h0 : Heap) (e : List Value) (h' : Heap) : Prop :=
  ∃ (j : Nat) (fl : Bool) (L : List Int) (v8 v9 v10 v11 v12 v13 v14 : Value), e = [v0, v1, .pointer (some ⟨B, 0, none⟩), v3, .slice (some ⟨cb, 0, none⟩) N.as.length N.as.length, .bool fl, .int .i64 i, .int .i64 j, v8, v9, v10, v11, v12, v13, v14] ∧ j ≤ (nextO N i).length ∧ Ext h0 h' ∧
    Own h' 1 (Sl.at cb N.as.length N.as.length) (ints64 L) ∧ BfI N.as.length (FromI N s) (EdR N) L ∧ (fl = false → ∀ b a w, b < N.as.length → EdR N b a w → Pend N i j a b ∨ nthI L a ≤ nthI L b + w) ∧ 2 * sumD L + fl.toNat < M
set_option maxHeartbeats 2000000 in
theorem rto_spec (X : RoFns Y) (HT : Y.Has F.rref11_Roads_To S_rref11_Roads_To) {sv sa st sn sw : Sl} {qn qw : Nat → Sl} {N : NetD} (r : RoadsH h sv sa st sn sw qn qw N) (ok : NetOK N) {s : Int}
    {R : Value → Heap → Prop} (hr : ∀ h' cb L, Ext h h' → h.size ≤ cb → Own h' 1 (Sl.at cb N.as.length N.as.length) (ints64 L) → L.length = N.as.length → (∀ b, b < N.as.length → LeastS (FromI N s) (EdR N) b (nthI L b)) →
      R (.slice (some ⟨cb, 0, none⟩) N.as.length N.as.length) h') :
    CallP Y F.rref11_Roads_To [roadsV sv sa st sn sw, .int .i64 s] h R := by
  have bn := ok.ba
  have la := r.net.ra.len
  refine .of_has HT rfl ?_
  simp [S_rref11_Roads_To, FnS.wp, roadsV]
  refine ef_new_box ?_
  intro B hB gB bB eB
  have zB := eB.size
  have lB := bB.lt
  simp [bB.hc]
  refine never_spec X.never (n := N.as.length) (by omega) bn ?_
  intro h1 cb e1 g1 o1
  have z1 := e1.size
  have lcb := o1.lt rfl
  simp at lcb
  have x1 := eB.trans e1
  have B1 := bB.ext e1
  simp [rd_pre3 B1]
  rw [show (Value.agg #[sv.v, sa.v, st.v]) = netV sv sa st from rfl]
  refine there_spec X.There la ?_
  intro h2 e2
  have x2 := x1.trans e2
  have B2 := B1.ext e2
  have o2 := o1.ext' e2
  have hiF : ∀ g z (x : Nat), x < N.as.length → IOp.sem Y g (.idxa 1) [.slice (some ⟨z, 0, none⟩) N.as.length N.as.length, .int .i64 x] = some (.pointer (some ⟨z, x, none⟩)) := fun g z x lx => by
    have := sem_idxF (Y := Y) (h := g) (b := z) (sz := 1) (show N.as.length ≤ 9223372036854775807 by omega) lx (Nat.le_refl N.as.length)
    simpa using this
  have shut : weightV N s = 1152921504606846976 → R (.slice (some ⟨cb, 0, none⟩) N.as.length N.as.length) h2 := fun ws => by
    refine hr h2 cb _ x2 (by omega) o2 (by simp) (fun b hb => ?_)
    have : nthI (List.replicate N.as.length (1152921504606846976 : Int)) b = 1152921504606846976 := by simp [nthI, hb]
    rw [this]
    exact least_shut ws
  by_cases c0 : vtxB N.as.length s = true
  rotate_left
  · have c0' : vtxB N.as.length s = false := by simpa using c0
    simp [c0']
    exact shut (by unfold weightV; rw [if_neg c0]; rfl)
  simp [vtxB] at c0
  obtain ⟨k, rfl⟩ : ∃ k : Nat, s = k := ⟨s.toNat, by omega⟩
  have lk : k < N.as.length := by omega
  have lk' : (k : Int) < sa.n := by omega
  have vk : vtxB N.as.length (k : Int) = true := by simp [vtxB]; omega
  have wk := arc_w lk
  have cw := (r.net.ext x2).ra.v2 k lk
  rw [← wk] at cw
  simp [vk, B2.hc, sem_idxa (r.net.ext x2).ra.ok, lk', cw]
  by_cases ws : weightV N k = 1152921504606846976
  · simp [ws]
    exact shut ws
  simp [ws, hiF _ _ _ lk]
  refine stAt o2 (k := k) (by simp; omega) ?_
  intro h3 o3 m3
  rw [show (Value.int .i64 0) = .int .i64 ((0 : Int)) from rfl, ints64_set] at o3
  have e3 : Ext hB h3 := Mod.ext (e1.trans e2) m3 (fun j hj => by omega)
  simp
  refine wp_loopM (kn := fun _ _ => True) (TwO N B cb (.agg #[sv.v, sa.v, st.v, sn.v, sw.v]) (.int .i64 k) (.slice none 0 0) k hB) (2 * sumD ((List.replicate N.as.length 1152921504606846976).set k 0) + 1) ⟨true, _, _, _, _, _, _, _, _, _, _, rfl, e3, o3, bf_start lk ws, (fun h => (by cases h)), rfl⟩ ?_
  clear o3 m3 e3
  rintro M e h4 ⟨fl, L, v6, v7, v8, v9, v10, v11, v12, v13, v14, rfl, e4, o4, bf, hfl, rfl⟩
  cases fl with
  | false =>
    simp
    exact hr h4 cb L (eB.trans e4) (by omega) o4 bf.len (bf.done (to_costs ok) (hfl rfl))
  | true =>
  simp
  refine wp_loop' (TwM N B cb (2 * sumD L + 1) (.agg #[sv.v, sa.v, st.v, sn.v, sw.v]) (.int .i64 k) (.slice none 0 0) k hB) (fun e _ => N.as.length - argI e 6) ⟨0, false, L, _, _, _, _, _, _, _, _, rfl, by omega, e4, o4, bf, (fun _ b a w _ he => .inl (pend_start he.1)), by simp⟩ ?_
  generalize 2 * sumD L + 1 = M
  clear hfl bf o4 e4
  rintro e h5 ⟨i, fl, L, v7, v8, v9, v10, v11, v12, v13, v14, rfl, hi, e5, o5, bf, hfl, hM⟩
  have lL := bf.len
  by_cases c : i < N.as.length
  rotate_left
  · have c' : ¬ (i : Int) < N.as.length := by omega
    simp [c']
    refine next_M (m' := 2 * sumD L + fl.toNat) ⟨fl, L, _, _, _, _, _, _, _, _, _, rfl, e5, o5, bf, (fun hf b a w ha he => ?_), rfl⟩ hM
    rcases hfl hf b a w ha he with p | p
    · have := (weight_in he.2)
      obtain ⟨z, z1, z2⟩ := this
      rcases p with p | ⟨p, _⟩ <;> omega
    · exact p
  have c' : (i : Int) < N.as.length := by omega
  have w1 : IntKind.i64.wrap ((i : Int) + 1) = (i : Int) + 1 := i64_wrap (by omega)
  simp [c']
  refine wp_loop' (TwJ N B cb M i (.agg #[sv.v, sa.v, st.v, sn.v, sw.v]) (.int .i64 k) (.slice none 0 0) k hB) (fun e _ => (nextO N i).length - argI e 7) ⟨0, fl, L, _, _, _, _, _, _, _, rfl, by omega, e5, o5, bf, hfl, hM⟩ ?_
  clear hfl bf o5 e5 hM lL
  rintro e h6 ⟨j, fl, L, v8, v9, v10, v11, v12, v13, v14, rfl, hj, e6, o6, bf, hfl, hM⟩
  have x6 := eB.trans e6
  have B6 := bB.ext e6
  have r6 := r.ext x6
  have lL := bf.len
  have ln := r6.on.1
  have lw := r6.ow.1
  simp at ln lw
  have ci := r6.on.cell (rowQ_get (q := qn) c)
  have ci2 : (i : Int) < sn.n := by omega
  have on := r6.nx i c
  have lon := on.1
  simp at lon
  have oi := o6.row64.val i (by omega)
  simp at oi
  have bw := r6.net.ra.v2 i c
  rw [← arc_w c] at bw
  have ci4 : (i : Int) < sa.n := by omega
  by_cases cj : j < (nextO N i).length ∧ weightV N i ≠ 1152921504606846976
  rotate_left
  · have go : ∀ v v' : Value, TwM N B cb M (.agg #[sv.v, sa.v, st.v, sn.v, sw.v]) (.int .i64 k) (.slice none 0 0) k hB [.agg #[sv.v, sa.v, st.v, sn.v, sw.v], .int .i64 k, .pointer (some ⟨B, 0, none⟩), .slice none 0 0, .slice (some ⟨cb, 0, none⟩) N.as.length N.as.length, .bool fl, .int .i64 (i + 1 : Nat), .int .i64 j, v8, v9, v10, v11, v12, v, v'] h6 := fun v v' => by
      refine ⟨i + 1, fl, L, _, _, _, _, _, _, _, _, rfl, by omega, e6, o6, bf, fun hf b a w hb he => ?_, hM⟩
      rcases hfl hf b a w hb he with p | p
      · rcases p with p | ⟨p, q, p1, p2, p3⟩
        · exact .inl (pend_next he.1 p)
        · exfalso
          subst p
          exact cj ⟨by omega, he.2⟩
      · exact .inr p
    by_cases cj1 : j < (nextO N i).length
    · have cj2 : weightV N i = 1152921504606846976 := Decidable.byContradiction fun g => cj ⟨cj1, g⟩
      have cj1' : (j : Int) < (qn i).n := by omega
      simp [B6.hc, sem_idxa r6.on.ok, ci2, ci, cj1', sem_idxa r6.net.ra.ok, ci4, bw, cj2, w1]
      exact ⟨go _ _, by simp [argI]; omega⟩
    · have cj1' : ¬ (j : Int) < (qn i).n := by omega
      simp [B6.hc, sem_idxa r6.on.ok, ci2, ci, cj1', w1]
      exact ⟨go _ _, by simp [argI]; omega⟩
  obtain ⟨cj1, cj2⟩ := cj
  have cj1' : (j : Int) < (qn i).n := by omega
  obtain ⟨b, hb, lb, tb⟩ := next_at cj1
  have ct := (turn_cases ok (a := (i : Int)) (b := (b : Int))).resolve_left tb
  have cwt := arc_cases ok (a := (b : Int))
  have vn := on.row64.val j cj1
  rw [hb] at vn
  have ciw := r6.ow.cell (rowQ_get (q := qw) c)
  have ow := r6.tx i c
  have low := ow.1
  simp [turnO_len] at low
  have vt := ow.row64.val j (by rw [turnO_len]; exact cj1)
  rw [turnO_at cj1, hb] at vt
  have ci3 : (i : Int) < sw.n := by omega
  have cj3 : (j : Int) < (qw i).n := by omega
  have lb' : (b : Int) < sa.n := by omega
  have vw := r6.net.ra.v2 b lb
  rw [← arc_w lb] at vw
  have ob := o6.row64.val b (by omega)
  simp at ob
  simp [B6.hc, sem_idxa r6.on.ok, ci2, ci, cj1', hiF _ _ _ c, hiF _ _ _ lb, oi, ob, cj2, sem_idxa on.ok, vn, sem_idxa r6.ow.ok, ci3, ciw, sem_idxa ow.ok, cj3, vt, sem_idxa r6.net.ra.ok, lb', vw, ci4, bw]
  refine radd_spec X.C ?_
  simp [B6.hc, sem_idxa r6.net.ra.ok, lb', vw]
  refine radd_spec X.C ?_
  have hst := add_step (bf.lo b lb) (bf.le b lb) ct.1 ct.2 cwt
  rw [hst]
  obtain ⟨x, hx⟩ : ∃ x, (if nthI L b + turnV N i b + weightV N b ≤ 1152921504606846976 then nthI L b + turnV N i b + weightV N b else 1152921504606846976) = x := ⟨_, rfl⟩
  rw [hx]
  have nle : (nextO N i).length ≤ N.as.length := Nat.le_trans (List.length_filter_le ..) outsO_len
  have wj : IntKind.i64.wrap ((j : Int) + 1) = (j : Int) + 1 := i64_wrap (by omega)
  by_cases cx : x < nthI L i
  · simp [hiF _ _ _ c, oi, cx]
    refine stAt o6 (k := i) (by simp [lL]; omega) ?_
    intro h7 o7 m7
    rw [ints64_set] at o7
    simp [wj]
    have lei := bf.le i c
    have leb := bf.lo b lb
    have wb : weightV N b ≠ 1152921504606846976 := fun h => by
      rw [h] at hx
      split at hx <;> omega
    have hx' : x = nthI L b + (turnV N i b + weightV N b) := by
      split at hx <;> omega
    have lt : nthI L b < 1152921504606846976 := by omega
    have hw : WalkS (FromI N k) (EdR N) i x := by
      rw [hx']
      exact .step ((bf.wk b lb).resolve_left (by omega)) ⟨⟨tb, wb, rfl⟩, cj2⟩
    have hx0 := (hw.pos (to_costs ok)).2
    have sm := sumD_set (l := L) (k := i) (x := x) (by omega) hx0 cx
    refine ⟨⟨j + 1, true, L.set i x, _, _, _, _, _, _, _, rfl, by omega, Mod.ext e6 m7 (fun j hj => by omega), o7, bf.put (to_costs ok) c cx hw, (fun h => (by cases h)), ?_⟩, by simp [argI]; omega⟩
    simp
    cases fl <;> simp at hM <;> omega
  · simp [hiF _ _ _ c, oi, cx, wj]
    refine ⟨⟨j + 1, fl, L, _, _, _, _, _, _, _, rfl, by omega, e6, o6, bf, fun hf b' a w hb' he => ?_, hM⟩, by simp [argI]; omega⟩
    rcases hfl hf b' a w hb' he with p | p
    · rcases pend_step p with p | ⟨p1, p2, p3⟩
      · exact .inl p
      · right
        subst p1
        have : b' = b := by omega
        subst this
        obtain ⟨⟨h1, h2, h3⟩, h4⟩ := he
        have := bf.le a c
        split at hx <;> omega
    · exact .inr p
end
end Go.Rm
