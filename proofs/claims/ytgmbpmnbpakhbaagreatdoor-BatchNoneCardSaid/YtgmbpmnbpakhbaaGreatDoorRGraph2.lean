import Derived.Test.YtgmbpmnbpakhbaaGreatDoorRGraph
import Derived.Test.YtgmbpmnbpakhbaaGreatDoorRLaw3g
import Derived.Test.YtgmbpmnbpakhbaaGreatDoorSNums

/- Graphs: clone of a net. -/
set_option linter.unusedSimpArgs false
set_option linter.unusedVariables false
namespace Go.Rm

/-- a net whose memory is one's own, laid at lo or above -/
structure NetOwn (h : Heap) (lo : Nat) (s1 s2 s3 : Sl) (P : List (Tab × Sl)) (N : NetD) : Prop where
  o1 : Own h 3 s1 (cells3 (N.vs.map triV))
  o2 : Own h 3 s2 (cells3 (N.as.map triV))
  o3 : Own h 3 s3 (cells3 (P.map tabP))
  hP : P.map Prod.fst = N.ts
  row : ∀ p ∈ P, Row64 h p.2 p.1.cs
  f1 : s1.nl = false → lo ≤ s1.b
  f2 : s2.nl = false → lo ≤ s2.b
  f3 : s3.nl = false → lo ≤ s3.b
  fr : ∀ p ∈ P, p.1.cs ≠ [] → lo ≤ p.2.b ∧ (s1.nl = false → p.2.b ≠ s1.b) ∧ (s2.nl = false → p.2.b ≠ s2.b) ∧ (s3.nl = false → p.2.b ≠ s3.b)
  d12 : s1.nl = false → s2.nl = false → s1.b ≠ s2.b
  d13 : s1.nl = false → s3.nl = false → s1.b ≠ s3.b
  d23 : s2.nl = false → s3.nl = false → s2.b ≠ s3.b

section
variable {Y : Sys} {h h' : Heap}

theorem Row64.lt {s : Sl} {cs : List Int} (r : Row64 h s cs) (hne : cs ≠ []) : s.b < h.size := by
  rcases Nat.lt_or_ge s.b h.size with q | q
  · exact q
  · have := r.val 0 (List.length_pos_iff.2 hne)
    simp [hc, Array.getElem?_eq_none q] at this
theorem NetOwn.netH {lo : Nat} {s1 s2 s3 : Sl} {P : List (Tab × Sl)} {N : NetD} (o : NetOwn h lo s1 s2 s3 P N) : NetH h s1 s2 s3 N :=
  ⟨o.o1.row3, o.o2.row3, o.o3.rowT o.hP o.row⟩
theorem NetOwn.mod {S : Nat → Prop} {lo : Nat} {s1 s2 s3 : Sl} {P : List (Tab × Sl)} {N : NetD} (o : NetOwn h lo s1 s2 s3 P N) (m : Mod S h h') (hs : ∀ b, S b → b < lo) : NetOwn h' lo s1 s2 s3 P N :=
  { o with
    o1 := o.o1.mod m fun hn hb => by have := hs _ hb; have := o.f1 hn; omega
    o2 := o.o2.mod m fun hn hb => by have := hs _ hb; have := o.f2 hn; omega
    o3 := o.o3.mod m fun hn hb => by have := hs _ hb; have := o.f3 hn; omega
    row := fun p hp => (o.row p hp).mod m fun hne hb => by have := hs _ hb; have := (o.fr p hp hne).1; omega }
theorem NetOwn.ext {lo : Nat} {s1 s2 s3 : Sl} {P : List (Tab × Sl)} {N : NetD} (o : NetOwn h lo s1 s2 s3 P N) (m : Ext h h') : NetOwn h' lo s1 s2 s3 P N := o.mod m fun _ h => h.elim

/-- a whole is stored into a row of one's own -/
theorem stSpan {K : Value → Heap → Prop} {sz n : Nat} {s : Sl} {cells : List Value} (o : Own h sz s cells) {k : Nat} {vs : Array Value} (hn : vs.size = n) (hk : k + n ≤ cells.length) (h1 : ∀ v ∈ vs.toList, v.oneCell' = true)
    (hr : ∀ h', Own h' sz s (cells.take k ++ vs.toList ++ cells.drop (k + n)) → Mod (fun j => j = s.b) h h' → K undef h') : Ef.wp h K (.store n) [.pointer (some ⟨s.b, s.o + k, none⟩), .agg vs] := by
  have hlen := o.1
  rcases o.2 with ⟨_, rfl⟩ | ⟨g1, g2, gsp, g3, g4, arr, gb, g5, g6⟩
  · obtain rfl : n = 0 := by simp at hk; omega
    obtain rfl : k = 0 := by simp at hk; omega
    have : vs = #[] := Array.eq_empty_of_size_eq_zero hn
    subst this
    refine ⟨rfl, ?_⟩
    exact hr h (by simpa using o) (Mod.refl h)
  · have hl : cells.length ≤ arr.toList.length := by rw [← g6, List.length_take]; omega
    have hfit : k + vs.toList.length ≤ arr.size := by simp at hl ⊢; omega
    obtain ⟨h3, q1, q2, q3, q4⟩ := hst_blk (o := k) (vs := vs.toList) gb hfit h1
    refine ⟨hn, ?_⟩
    simp only [cells_aggV, g2, Nat.zero_add, q1]
    refine hr h3 ⟨?_, .inr ⟨g1, g2, gsp, g3, g4, _, q2, ?_, ?_⟩⟩ q3
    · simp only [List.length_append, List.length_take, List.length_drop, Array.length_toList]
      omega
    · simp only [List.size_toArray, List.length_append, List.length_take, List.length_drop, Array.length_toList]
      simp at hfit
      omega
    · simp only
      rw [← hlen, ← g6]
      simp only [Array.length_toList, hn]
      have e1 : (arr.toList.take (s.n * sz)).length = cells.length := by rw [g6]
      rw [e1]
      have e2 : s.n * sz = cells.length := hlen.symm
      rw [e2]
      apply List.ext_getElem?
      intro i
      simp only [List.getElem?_take, List.getElem?_append, List.length_append, List.length_take, Array.length_toList, List.getElem?_drop, hn]
      simp only [Array.length_toList] at hl
      by_cases c1 : i < k
      · have a1 : i < cells.length := by omega
        have a2 : i < min k arr.size := by omega
        have a3 : i < min k arr.size + n := by omega
        have a4 : i < min k (min cells.length arr.size) := by omega
        have a5 : i < min k (min cells.length arr.size) + n := by omega
        simp [a1, a2, a3, a4, a5, c1]
      · by_cases c2 : i < k + n
        · have a1 : i < cells.length := by omega
          have a2 : ¬ i < min k arr.size := by omega
          have a3 : i < min k arr.size + n := by omega
          have a4 : ¬ i < min k (min cells.length arr.size) := by omega
          have a5 : i < min k (min cells.length arr.size) + n := by omega
          have a6 : min k arr.size = k := by omega
          have a7 : min k (min cells.length arr.size) = k := by omega
          simp [a1, c1, c2, a6, a7]
        · have a6 : min k arr.size = k := by omega
          have a7 : min k (min cells.length arr.size) = k := by omega
          simp only [a6, a7, c1, c2, if_false]
          have e3 : k + n + (i - (k + n)) = i := by omega
          rw [e3]
@[simp] theorem sem_build_vvv {z0 z1 z2 : Value} {s t u : Sl} : IOp.sem Y h (.build #[z0, z1, z2] [(0, 1), (1, 1), (2, 1)] [0, 1, 2]) [s.v, t.v, u.v] = some (.agg #[s.v, t.v, u.v]) := sem_build3 rfl rfl rfl
theorem cells3_splice : ∀ {l : List (Value × Value × Value)} {i : Nat} {x : Value × Value × Value}, i < l.length → cells3 (l.set i x) = (cells3 l).take (i * 3) ++ [x.1, x.2.1, x.2.2] ++ (cells3 l).drop (i * 3 + 3) := by
  intro l
  induction l with
  | nil => intro i x hi; simp at hi
  | cons t r ih =>
    intro i x hi
    have e : cells3 (t :: r) = t.1 :: t.2.1 :: t.2.2 :: cells3 r := rfl
    cases i with
    | zero =>
      rw [e]
      simp [cells3]
    | succ i =>
      have := ih (i := i) (x := x) (by simpa using hi)
      have q0 : (i + 1) * 3 = i * 3 + 1 + 1 + 1 := by omega
      have q1 : (i + 1) * 3 + 3 = i * 3 + 3 + 1 + 1 + 1 := by omega
      rw [e, q1, q0]
      simp only [List.set_cons_succ, List.take_succ_cons, List.drop_succ_cons, List.cons_append]
      rw [← this]
      rfl
/-- three cells are stored into a row of such -/
theorem st3 {K : Value → Heap → Prop} {s : Sl} {l : List (Value × Value × Value)} (o : Own h 3 s (cells3 l)) {i : Nat} (hi : i < l.length) {a b c : Value} (ha : a.oneCell' = true) (hb : b.oneCell' = true) (hc : c.oneCell' = true)
    (hr : ∀ h', Own h' 3 s (cells3 (l.set i (a, b, c))) → Mod (fun j => j = s.b) h h' → K undef h') : Ef.wp h K (.store 3) [.pointer (some ⟨s.b, s.o + i * 3, none⟩), .agg #[a, b, c]] := by
  refine stSpan o (k := i * 3) rfl (by rw [cells3_len]; omega) ?_ ?_
  · intro v hv
    simp only [List.mem_cons, List.not_mem_nil, or_false] at hv
    rcases hv with rfl | rfl | rfl <;> assumption
  · intro h' o' m'
    refine hr h' ?_ m'
    rw [cells3_splice hi]
    exact o'

theorem mem_set_or {α : Type} {l : List α} {i : Nat} {x y : α} (h : x ∈ l.set i y) : x ∈ l ∨ x = y := (List.mem_or_eq_of_mem_set h)

def GcI (v0 : Value) (B A : Nat) (s3 st : Sl) (N : NetD) (h0 : Heap) (e : List Value) (h' : Heap) : Prop :=
  ∃ (i : Nat) (P : List (Tab × Sl)) (v4 v5 v9 : Value), e = [v0, .pointer (some ⟨A, 0, none⟩), .pointer (some ⟨B, 0, none⟩), s3.v, v4, v5, st.v, .int .i64 st.n, .int .i64 i, v9] ∧ i ≤ st.n ∧ Own h' 3 s3 (cells3 (P.map tabP)) ∧ P.length = st.n ∧ (∀ j, j < i → ∃ u, P[j]? = some (nthB N.ts j, u) ∧ Row64 h' u (nthB N.ts j).cs ∧ ((nthB N.ts j).cs ≠ [] → h0.size ≤ u.b)) ∧ Mod (fun j => s3.nl = false ∧ j = s3.b) h0 h'

structure GrCl (Y : Sys) : Prop where
  clone : Y.Has F.graph_clone S_graph_clone
  C64 : Y.Has F.slices_Clone_int64_int64 S_slices_Clone_int64_int64
  CV : Y.Has F.slices_Clone_net_Vert_net_Vert S_slices_Clone_net_Vert_net_Vert
  CA : Y.Has F.slices_Clone_net_Arc_net_Arc S_slices_Clone_net_Arc_net_Arc

set_option maxHeartbeats 1000000 in
theorem gclone_spec (G : GrCl Y) {sv sa st : Sl} {N : NetD} (r : NetH h sv sa st N) (bs : NetSmall N) {R : Value → Heap → Prop}
    (hr : ∀ h' s1 s2 s3 P, Ext h h' → NetOwn h' h.size s1 s2 s3 P N → R (netV s1 s2 s3) h') : CallP Y F.graph_clone [netV sv sa st] h R := by
  have lv := r.rv.len
  have la := r.ra.len
  have lt := r.rt.len
  obtain ⟨bv, ba, bt, bc⟩ := bs
  refine .of_has G.clone rfl ?_
  simp [S_graph_clone, FnS.wp, netV]
  refine ef_new_box ?_
  intro A hA gA bA eA
  simp
  refine ef_new_box ?_
  intro B hB gB bB eB
  have bA := bA.ext eB
  have lA := bA.lt
  have lB := bB.lt
  have zA := eA.size
  have zB := eB.size
  have x0 := eA.trans eB
  simp [bA.hc]
  refine ef_makeN (n := st.n) (by omega) (by omega) rfl ?_
  intro T h1 gT oT e1 lT
  have x1 := x0.trans e1
  rw [zeros_tab] at oT
  have bA1 := bA.ext e1
  have z1 := e1.size
  simp [bA1.hc]
  rw [← Sl.at_v]
  have tT : (Sl.at T st.n st.n).b = T ∧ (Sl.at T st.n st.n).n = st.n ∧ (Sl.at T st.n st.n).nl = false := ⟨rfl, rfl, rfl⟩
  generalize Sl.at T st.n st.n = s3 at *
  obtain ⟨tT, tN, tL⟩ := tT
  refine wp_loop' (GcI (netV sv sa st) B A s3 st N h1) (fun e _ => st.n - argI e 8) ⟨0, List.replicate st.n ((⟨0, 0, []⟩ : Tab), Sl.nil), _, _, _, rfl, by omega, oT, by simp, fun j hj => by omega, Mod.refl _⟩ ?_
  rintro e h2 ⟨i, P, v4, v5, v9, rfl, hi, oP, lP, hall, m2⟩
  have z2 := m2.size
  have y2 : Ext hB h2 := Mod.ext e1 m2 (fun j hj => by omega)
  have bA2 := bA.ext y2
  by_cases c : i < st.n
  · have c' : (i : Int) < st.n := by omega
    have w1 : IntKind.i64.wrap ((i : Int) + 1) = (i : Int) + 1 := i64_wrap (by omega)
    obtain ⟨u, rdu0, _, ru0⟩ := r.rt.rd (i := i) (by omega)
    have rdu := (x0.trans y2).rd rdu0 (fun h => h)
    have ru := ru0.ext (x0.trans y2)
    have hul := ru.len
    have hbc := bc i (by omega)
    have ci3 : (i : Int) < s3.n := by omega
    simp [c', sem_idxa r.rt.ok, rdu]
    refine new_store (vs := #[.int .i64 (nthB N.ts i).i, .int .i64 (nthB N.ts i).o, u.v]) rfl rfl (by simp) ?_
    intro D hDp gD bDp eDp stD
    simp
    refine stD _ ?_
    intro hD bD eD
    clear stD bDp eDp
    have oPD := oP.ext' eD
    have lt3 := oP.lt tL
    have lD := bD.lt
    have zD := eD.size
    simp [rd_blk bD, sem_idxa oPD.ok, ci3]
    refine st3 oPD (by simp; omega) rfl rfl (by simp) ?_
    intro h3 o3 m3
    have z3 := m3.size
    have bD3 := m3.blk bD (by omega)
    have ru3 := (ru.ext eD).mod m3 (fun hne hj => by have := ru0.lt hne; omega)
    simp [bD3.hc]
    refine clone64_spec G.C64 ru3 (by omega) ?_
    intro h4 u' e4 ou hu
    have z4 := e4.size
    have o4 := o3.ext' e4
    simp [sem_idxa o4.ok, ci3]
    have hiP : i < P.length := by omega
    have e5 : (P.map tabP).set i (.int .i64 (nthB N.ts i).i, .int .i64 (nthB N.ts i).o, u.v) = (P.set i (nthB N.ts i, u)).map tabP := by rw [List.map_set]; rfl
    rw [e5] at o4
    have sto := fun (K : Value → Heap → Prop) => stN (K := K) o4 (k := i * 3 + 2) (v := u'.v) (by rw [cells3_len]; simp; omega)
    rw [Nat.add_assoc]
    refine sto _ ?_
    clear sto
    intro h5 o5 m5
    have z5 := m5.size
    have e6 := (cells3_set (l := (P.set i (nthB N.ts i, u)).map tabP) (i := i) (x := u'.v) (by simp; omega)).2.2
    rw [e6] at o5
    have e7 : ((P.set i (nthB N.ts i, u)).map tabP).set i ((((P.set i (nthB N.ts i, u)).map tabP).getD i (undef, undef, undef)).1, (((P.set i (nthB N.ts i, u)).map tabP).getD i (undef, undef, undef)).2.1, u'.v) = (P.set i (nthB N.ts i, u')).map tabP := by
      rw [List.map_set, List.map_set, List.set_set]
      simp [hiP, tabP]
    rw [e7] at o5
    have hu5 : (nthB N.ts i).cs ≠ [] → h1.size ≤ u'.b ∧ u'.b < h5.size := by
      intro hne
      obtain ⟨arr, hb, _, hnl⟩ := ou.blk (i := 0) (by rw [ints64_len]; exact List.length_pos_iff.2 hne)
      have := hu.resolve_left (by rw [hnl]; simp)
      have := hb.lt
      omega
    have ou5 := ou.row64.mod m5 (fun hne hj => by
      obtain ⟨arr, hb, _, hnl⟩ := ou.blk (i := 0) (by rw [ints64_len]; exact List.length_pos_iff.2 hne)
      have := hu.resolve_left (by rw [hnl]; simp)
      omega)
    have mm : Mod (fun j => s3.nl = false ∧ j = s3.b) h2 h5 := (((eD.mono fun _ _ h => h.elim).trans (m3.mono fun _ _ h => ⟨tL, h⟩)).trans (e4.mono fun _ _ h => h.elim)).trans (m5.mono fun _ _ h => ⟨tL, h⟩)
    simp [w1]
    refine ⟨⟨i + 1, P.set i (nthB N.ts i, u'), _, _, _, rfl, by omega, o5, by simp; omega, fun j hj => ?_, m2.trans mm⟩, by simp [argI]; omega⟩
    rcases Nat.lt_or_ge j i with q | q
    · obtain ⟨w, hw1, hw2, hw3⟩ := hall j q
      refine ⟨w, ?_, hw2.mod mm (fun hne hj => by have := hw3 hne; have := hj.2; omega), hw3⟩
      rw [List.getElem?_set_ne (by omega)]
      exact hw1
    · obtain rfl : j = i := by omega
      exact ⟨u', by simp [hiP], ou5, fun hne => (hu5 hne).1⟩
  have c' : ¬ (i : Int) < st.n := by omega
  obtain rfl : i = st.n := by omega
  simp [c', bA2.hc]
  refine cloneV_spec G.CV (r.rv.ext (x0.trans y2)) (by omega) ?_
  intro h3 s1 e3 o1 f1
  have bA3 := bA2.ext e3
  simp [bA3.hc]
  refine cloneA_spec G.CA (r.ra.ext ((x0.trans y2).trans e3)) (by omega) ?_
  intro h4 s2 e4 o2 f2
  have z3 := e3.size
  have z4 := e4.size
  simp [sem_build3]
  refine ef_store_box ((bB.ext y2).ext (e3.trans e4)) rfl rfl (by simp) ?_
  intro h5 b5 m5
  simp
  refine resP_x rfl b5 rfl ?_
  have lt3 := oP.lt tL
  have hPs : P.map Prod.fst = N.ts := by
    apply List.ext_getElem?
    intro j
    rcases Nat.lt_or_ge j st.n with q | q
    · obtain ⟨w, hw1, _⟩ := hall j q
      rw [List.getElem?_map, hw1, nthB_eq (by omega), List.getElem?_eq_getElem (by omega)]
      rfl
    · rw [List.getElem?_eq_none (by simp; omega), List.getElem?_eq_none (by omega)]
  have hrow : ∀ p ∈ P, Row64 h2 p.2 p.1.cs ∧ (p.1.cs ≠ [] → h1.size ≤ p.2.b ∧ p.2.b < h2.size) := by
    intro p hp
    obtain ⟨j, hj, rfl⟩ := List.getElem_of_mem hp
    obtain ⟨w, hw1, hw2, hw3⟩ := hall j (by omega)
    rw [List.getElem?_eq_getElem hj] at hw1
    simp only [Option.some.injEq] at hw1
    rw [hw1]
    exact ⟨hw2, fun hne => ⟨hw3 hne, hw2.lt hne⟩⟩
  refine hr h5 s1 s2 s3 P (Mod.ext ((x0.trans y2).trans (e3.trans e4)) m5 (fun j hj => by omega))
    { o1 := (o1.ext' e4).mod m5 (fun hn hj => by have := f1 hn; omega)
      o2 := o2.mod m5 (fun hn hj => by have := f2 hn; omega)
      o3 := ((oP.ext' e3).ext' e4).mod m5 (fun hn hj => by omega)
      hP := hPs
      row := fun p hp => (((hrow p hp).1.ext e3).ext e4).mod m5 (fun hne hj => by have := (hrow p hp).2 hne; omega)
      f1 := fun hn => by have := f1 hn; omega
      f2 := fun hn => by have := f2 hn; omega
      f3 := fun hn => by omega
      fr := fun p hp hne => by
        have := (hrow p hp).2 hne
        exact ⟨by omega, fun hn => by have := f1 hn; omega, fun hn => by have := f2 hn; omega, fun hn => by omega⟩
      d12 := fun h1' h2' => by have := f2 h2'; have := o1.lt h1'; omega
      d13 := fun h1' _ => by have := f1 h1'; omega
      d23 := fun h2' _ => by have := f2 h2'; omega }
end
end Go.Rm
