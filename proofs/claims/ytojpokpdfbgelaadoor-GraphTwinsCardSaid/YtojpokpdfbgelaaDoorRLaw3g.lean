import Derived.Test.YtojpokpdfbgelaaDoorRNet15

/- The laws of nets: NetBent. -/
set_option linter.unusedSimpArgs false
set_option linter.unusedVariables false
namespace Go.Rm

-- where it is wrong first
theorem vertsW_at {nt : Nat} : ∀ {l : List Tri} {v k : Nat}, v < l.length → (∀ i, i < v → ∀ q : Nat, (vertW nt q (nthT l i)).2 = 0) → (∀ q : Nat, (vertW nt q (nthT l v)).2 ≠ 0) → vertsW nt k l = vertW nt (k + v : Nat) (nthT l v) := by
  intro l
  induction l with
  | nil => intro v k hv; simp at hv
  | cons t r ih =>
    intro v k hv hb hne
    rw [vertsW]
    cases v with
    | zero =>
      have : nthT (t :: r) 0 = t := by simp [nthT]
      rw [this] at hne ⊢
      rw [if_pos (hne k)]
      rfl
    | succ v =>
      have h0 := hb 0 (by omega) k
      have : nthT (t :: r) 0 = t := by simp [nthT]
      rw [this] at h0
      rw [if_neg (by simpa using h0)]
      have := ih (v := v) (k := k + 1) (by simpa using hv) (fun i hi => hb (i + 1) (by omega)) hne
      rw [this, show k + 1 + v = k + (v + 1) by omega]
      rfl
theorem arcsW_at {nt : Nat} : ∀ {l : List Tri} {v k : Nat}, v < l.length → (∀ i, i < v → ∀ q : Nat, (arcW nt q (nthT l i)).2 = 0) → (∀ q : Nat, (arcW nt q (nthT l v)).2 ≠ 0) → arcsW nt k l = arcW nt (k + v : Nat) (nthT l v) := by
  intro l
  induction l with
  | nil => intro v k hv; simp at hv
  | cons t r ih =>
    intro v k hv hb hne
    rw [arcsW]
    cases v with
    | zero =>
      have : nthT (t :: r) 0 = t := by simp [nthT]
      rw [this] at hne ⊢
      rw [if_pos (hne k)]
      rfl
    | succ v =>
      have h0 := hb 0 (by omega) k
      have : nthT (t :: r) 0 = t := by simp [nthT]
      rw [this] at h0
      rw [if_neg (by simpa using h0)]
      have := ih (v := v) (k := k + 1) (by simpa using hv) (fun i hi => hb (i + 1) (by omega)) hne
      rw [this, show k + 1 + v = k + (v + 1) by omega]
      rfl
theorem typesW_at : ∀ {l : List Tab} {v k : Nat}, v < l.length → (∀ i, i < v → (tabWr (nthB l i)).2 = 0) → (tabWr (nthB l v)).2 ≠ 0 → typesW k l = withinW wType (k + v : Nat) (tabWr (nthB l v)) := by
  intro l
  induction l with
  | nil => intro v k hv; simp at hv
  | cons t r ih =>
    intro v k hv hb hne
    rw [typesW]
    cases v with
    | zero =>
      have : nthB (t :: r) 0 = t := by simp [nthB]
      rw [this] at hne ⊢
      rw [if_pos hne]
      rfl
    | succ v =>
      have h0 := hb 0 (by omega)
      have : nthB (t :: r) 0 = t := by simp [nthB]
      rw [this] at h0
      rw [if_neg (by simpa using h0)]
      have := ih (v := v) (k := k + 1) (by simpa using hv) (fun i hi => hb (i + 1) (by omega)) hne
      rw [this, show k + 1 + v = k + (v + 1) by omega]
      rfl
theorem nthT_set {l : List Tri} {v i : Nat} {t : Tri} (hv : v < l.length) : nthT (l.set v t) i = if i = v then t else nthT l i := by
  unfold nthT
  simp only [List.getD_eq_getElem?_getD, List.getElem?_set]
  by_cases c : v = i
  · subst c; simp [hv]
  · have : ¬ i = v := fun e => c e.symm
    simp [c, this]
theorem nthB_set {l : List Tab} {v i : Nat} {t : Tab} (hv : v < l.length) : nthB (l.set v t) i = if i = v then t else nthB l i := by
  unfold nthB
  simp only [List.getD_eq_getElem?_getD, List.getElem?_set]
  by_cases c : v = i
  · subst c; simp [hv]
  · have : ¬ i = v := fun e => c e.symm
    simp [c, this]
theorem size_ok {N : NetD} (h : N.vs.length ≤ 4096 ∧ N.as.length ≤ 16384 ∧ N.ts.length ≤ 256) : (sizeW N).2 = 0 := sizeW_zero.2 h

section bent
variable {N : NetD} (ok : NetOK N)
include ok
theorem bent_vert {v : Nat} (hv : v < N.vs.length) {t : Tri} (ht : ∀ q : Nat, (vertW N.ts.length q t).2 ≠ 0) : netW { N with vs := N.vs.set v t } = vertW N.ts.length v t := by
  have h := netOK_iff.2 ok
  unfold netW at h ⊢
  rw [orW_zero, orW_zero] at h
  rw [orW_r (size_ok (by simpa using ⟨ok.bv, ok.ba, ok.bt⟩)), orW_r h.2.1]
  have : vertsW N.ts.length 0 (N.vs.set v t) = vertW N.ts.length v t := by
    have := vertsW_at (nt := N.ts.length) (l := N.vs.set v t) (v := v) (k := 0) (by simpa using hv) (fun i hi q => by
      rw [nthT_set hv, if_neg (by omega)]
      exact vertW_zero.2 ⟨(ok.vx i (by omega)).1, (ok.vx i (by omega)).2, ok.vt i (by omega)⟩) (fun q => by rw [nthT_set hv, if_pos rfl]; exact ht q)
    rw [this, nthT_set hv, if_pos rfl, Nat.zero_add]
  show orW (vertsW N.ts.length 0 (N.vs.set v t)) _ = _
  rw [this, orW_l (ht v)]
theorem bent_arc {v : Nat} (hv : v < N.as.length) {t : Tri} (ht : ∀ q : Nat, (arcW N.vs.length q t).2 ≠ 0) : netW { N with as := N.as.set v t } = arcW N.vs.length v t := by
  have h := netOK_iff.2 ok
  unfold netW at h ⊢
  rw [orW_zero, orW_zero, orW_zero] at h
  rw [orW_r (size_ok (by simpa using ⟨ok.bv, ok.ba, ok.bt⟩)), orW_r h.2.1, orW_r h.2.2.1]
  have : arcsW N.vs.length 0 (N.as.set v t) = arcW N.vs.length v t := by
    have := arcsW_at (nt := N.vs.length) (l := N.as.set v t) (v := v) (k := 0) (by simpa using hv) (fun i hi q => by
      rw [nthT_set hv, if_neg (by omega)]
      exact arcW_zero.2 ⟨(ok.arcs i (by omega)).1, (ok.arcs i (by omega)).2, ok.w i (by omega)⟩) (fun q => by rw [nthT_set hv, if_pos rfl]; exact ht q)
    rw [this, nthT_set hv, if_pos rfl, Nat.zero_add]
  show orW (arcsW N.vs.length 0 (N.as.set v t)) _ = _
  rw [this, orW_l (ht v)]
omit ok in
theorem within_ne {p : ByteArray} {k : Int} {w : Wr} (h : w.2 ≠ 0) : (withinW p k w).2 ≠ 0 := by
  unfold withinW
  rw [if_neg h]
  exact h
theorem bent_type {ts : List Tab} (hl : ts.length ≤ 256) {v : Nat} (hv : v < ts.length) (hb : ∀ i, i < v → nthB ts i = nthB N.ts i ∧ i < N.ts.length) (ht : (tabWr (nthB ts v)).2 ≠ 0) : netW { N with ts := ts } = withinW wType v (tabWr (nthB ts v)) := by
  unfold netW
  rw [orW_r (size_ok (N := { N with ts := ts }) ⟨ok.bv, ok.ba, hl⟩)]
  have := typesW_at (l := ts) (v := v) (k := 0) hv (fun i hi => by rw [(hb i hi).1]; exact ok.tab i (hb i hi).2) ht
  rw [Nat.zero_add] at this
  show orW (typesW 0 ts) _ = _
  rw [this, orW_l (by unfold withinW; rw [if_neg ht]; exact ht)]
end bent

-- cells that are stored
theorem cells3_set {l : List (Value × Value × Value)} : ∀ {i : Nat} {x : Value}, i < l.length →
    (cells3 l).set (i * 3) x = cells3 (l.set i (x, (l.getD i (undef, undef, undef)).2.1, (l.getD i (undef, undef, undef)).2.2)) ∧
    (cells3 l).set (i * 3 + 1) x = cells3 (l.set i ((l.getD i (undef, undef, undef)).1, x, (l.getD i (undef, undef, undef)).2.2)) ∧
    (cells3 l).set (i * 3 + 2) x = cells3 (l.set i ((l.getD i (undef, undef, undef)).1, (l.getD i (undef, undef, undef)).2.1, x)) := by
  induction l with
  | nil => intro i x hi; simp at hi
  | cons t r ih =>
    intro i x hi
    have e : cells3 (t :: r) = t.1 :: t.2.1 :: t.2.2 :: cells3 r := rfl
    rw [e]
    cases i with
    | zero => exact ⟨rfl, rfl, rfl⟩
    | succ i =>
      obtain ⟨h0, h1, h2⟩ := ih (i := i) (x := x) (by simpa using hi)
      have q0 : (i + 1) * 3 = i * 3 + 1 + 1 + 1 := by omega
      have q1 : (i + 1) * 3 + 1 = i * 3 + 1 + 1 + 1 + 1 := by omega
      have q2 : (i + 1) * 3 + 2 = i * 3 + 2 + 1 + 1 + 1 := by omega
      rw [q1, q2, q0]
      simp only [List.set_cons_succ, h0, h1, h2]
      exact ⟨rfl, rfl, rfl⟩
theorem tri_set {l : List Tri} {i : Nat} {x : Int} (hi : i < l.length) :
    (cells3 (l.map triV)).set (i * 3) (.int .i64 x) = cells3 ((l.set i ⟨x, (nthT l i).b, (nthT l i).c⟩).map triV) ∧
    (cells3 (l.map triV)).set (i * 3 + 1) (.int .i64 x) = cells3 ((l.set i ⟨(nthT l i).a, x, (nthT l i).c⟩).map triV) ∧
    (cells3 (l.map triV)).set (i * 3 + 2) (.int .i64 x) = cells3 ((l.set i ⟨(nthT l i).a, (nthT l i).b, x⟩).map triV) := by
  have h := cells3_set (l := l.map triV) (i := i) (x := .int .i64 x) (by simpa using hi)
  have e : (l.map triV).getD i (undef, undef, undef) = triV (nthT l i) := by
    rw [nthT_eq hi]
    simp [hi]
  rw [e] at h
  simp only [List.map_set]
  exact h
theorem tab_set {P : List (Tab × Sl)} {i : Nat} {x : Int} (hi : i < P.length) :
    (cells3 (P.map tabP)).set (i * 3) (.int .i64 x) = cells3 ((P.set i (⟨x, P[i].1.o, P[i].1.cs⟩, P[i].2)).map tabP) := by
  have h := cells3_set (l := P.map tabP) (i := i) (x := .int .i64 x) (by simpa using hi)
  have e : (P.map tabP).getD i (undef, undef, undef) = tabP P[i] := by simp [hi]
  rw [e] at h
  simp only [List.map_set]
  exact h.1

theorem vert_bad0 {nt : Nat} {v : Nat} {y : Nat} {t : Tri} : vertW nt v ⟨1048577 + y, t.b, t.c⟩ = atW wVert v 1 := by
  have : farB (1048577 + (y : Int)) = true := by simp [farB]; omega
  simp [vertW, this]
theorem vert_bad1 {nt : Nat} {v : Nat} {y : Nat} {t : Tri} (h : farB t.a = false ∧ farB t.b = false) : vertW nt v ⟨t.a, t.b, nt + y⟩ = atW wVert v 5 := by
  have : vtxB nt ((nt : Int) + y) = false := by simp [vtxB]; omega
  simp [vertW, h.1, h.2, this]
theorem arc_bad2 {nv : Nat} {v : Nat} {y : Nat} {t : Tri} : arcW nv v ⟨t.a, -1 - y, t.c⟩ = atW wArc v 5 := by
  have : vtxB nv (-1 - (y : Int)) = false := by simp [vtxB]; omega
  simp [arcW, this]
theorem arc_bad3 {nv : Nat} {v : Nat} {y : Nat} {t : Tri} (h : vtxB nv t.a = true ∧ vtxB nv t.b = true) : arcW nv v ⟨t.a, t.b, -1 - y⟩ = atW wArc v 8 := by
  have : weightB (-1 - (y : Int)) = false := by simp [weightB]; omega
  simp [arcW, h.1, h.2, this]
theorem tab_bad4 {y : Nat} : tabWr ⟨1, 17 + y, []⟩ = turnW 1 1 := by
  have : sidesW 1 (17 + (y : Int)) = turnW 1 1 := by
    unfold sidesW
    rw [if_neg (by omega), if_pos (by omega)]
  unfold tabWr tabW
  rw [this]
  rfl
theorem tab_bad5 {t : Tab} (h : (tabWr t).2 = 0) (ho : t.o ≠ 0) (hi : t.i + 1 ≤ 16) : tabWr ⟨t.i + 1, t.o, t.cs⟩ = turnW 2 9 := by
  obtain ⟨a1, a2, a3, a4, a5, _, _⟩ := tab_ok (ins := t.i) (outs := t.o) (cs := t.cs) h
  have hs : sidesW (t.i + 1) t.o = wOK := by
    unfold sidesW
    rw [if_neg (by omega), if_neg (by omega)]
  have hm : (t.cs.length : Int) ≠ (t.i + 1) * t.o := by
    rw [a5, Int.add_mul]
    omega
  unfold tabWr tabW
  rw [hs, if_neg (by simp [wOK])]
  simp only
  rw [if_pos hm]

section
variable {Y : Sys} {h : Heap}

set_option maxHeartbeats 2000000 in
theorem netbent_spec (L : NetLaw Y) (HA : Y.Has F.rlaw3_NetBent S_rlaw3_NetBent) (HC : Y.Has F.rref6_CopyNet S_rref6_CopyNet) (RA : Y.Has F.rref6_At S_rref6_At) (E : ErrSys Y) (hg : hc h E.gb 0 = some E.hv) {sv sa st : Sl} {N : NetD}
    (r : NetH h sv sa st N) {w x y : Nat} (hw : w < 256) (hx : x < 65536) (hy : y < 65536) {R : Value → Heap → Prop} (hr : ∀ h', Ext h h' → R (.bool true) h') : CallP Y F.rlaw3_NetBent [netV sv sa st, .int .u8 w, .int .u16 x, .int .u16 y] h R := by
  have lv := r.rv.len
  have la := r.ra.len
  have lt := r.rt.len
  refine .of_has HA rfl ?_
  simp [S_rlaw3_NetBent, FnS.wp, netV]
  refine ef_new_box ?_
  intro B hB gB bB eB
  have cB : ∀ g, Ext g h → Ext g hB := fun g e => Mod.trans e eB
  simp
  refine known3_spec L RA E (eB.hc hg (fun h => h)) ?_
  intro h1 e1
  have c_h1 : ∀ g, Ext g hB → Ext g h1 := fun g e => Mod.trans e e1
  have x1 := eB.trans e1
  simp (config := { maxDischargeDepth := 60 }) [cB, bB.sk, bB.rk, c_h1]
  refine may_spec L (r.ext x1) ?_
  intro h2 e2
  have c_h2 : ∀ g, Ext g h1 → Ext g h2 := fun g e => Mod.trans e e2
  have x2 := x1.trans e2
  by_cases c1 : mayD N = true
  rotate_left
  · simp [c1]
    exact hr _ x2
  obtain ⟨cf, ok⟩ := may_ok c1
  obtain ⟨f1, f2, f3, f4, fs⟩ := few_small cf
  by_cases c2 : sv.n = 0
  · simp (config := { maxDischargeDepth := 60 }) [cB, bB.sk, bB.rk, c_h1, c_h2, c1, c2]
    exact hr _ x2
  by_cases c3 : sa.n = 0
  · simp (config := { maxDischargeDepth := 60 }) [cB, bB.sk, bB.rk, c_h1, c_h2, c1, c2, c3]
    exact hr _ x2
  simp (config := { maxDischargeDepth := 60 }) [cB, bB.sk, bB.rk, c_h1, c_h2, c1, c2, c3]
  refine rcopynet_spec HC (r.ext x2) fs ?_
  intro h3 s1 s2 s3 P e3 o1 o2 o3 hP hrow b1 b2 d12 d3
  simp [netV]
  have c_h3 : ∀ g, Ext g h2 → Ext g h3 := fun g e => Mod.trans e e3
  refine new_store (vs := #[s1.v, s2.v, s3.v]) rfl rfl (by simp) ?_
  intro C hCp gC bCp eCp stC
  have cCp : ∀ g, Ext g h3 → Ext g hCp := fun g e => Mod.trans e eCp
  simp (config := { maxDischargeDepth := 60 }) [cB, bB.sk, bB.rk, c_h1, c_h2, c_h3, cCp]
  refine stC _ ?_
  intro hC bC eC
  clear cCp stC bCp eCp
  have cC : ∀ g, Ext g h3 → Ext g hC := fun g e => Mod.trans e eC
  have n1 := o1.n3
  have n2 := o2.n3
  have n3 := o3.n3
  rw [List.length_map] at n1 n2 n3
  have hPl : P.length = N.ts.length := by rw [← hP]; simp
  have x4 := (x2.trans e3).trans eC
  have lt1 : s1.b < h3.size := by
    obtain ⟨arr, hb, _⟩ := o1.blk (i := 0) (by rw [cells3_len, List.length_map]; omega)
    exact hb.lt
  have lt2 : s2.b < h3.size := by
    obtain ⟨arr, hb, _⟩ := o2.blk (i := 0) (by rw [cells3_len, List.length_map]; omega)
    exact hb.lt
  have lt3 : s3.nl = false → s3.b < h3.size := fun hn => o3.lt hn
  have o1 := o1.ext' eC
  have o2 := o2.ext' eC
  have o3 := o3.ext' eC
  have w0 : IntKind.i64.wrap (x : Int) = x := i64_wrap (by omega)
  have w00 : IntKind.i64.wrap (y : Int) = y := i64_wrap (by omega)
  have hne1 : (s1.n : Int) ≠ 0 := by omega
  have hne2 : (s2.n : Int) ≠ 0 := by omega
  have ht1 : (x : Int).tmod s1.n = ((x % s1.n : Nat) : Int) := by rw [Int.tmod_eq_emod_of_nonneg (by omega)]; omega
  have ht2 : (x : Int).tmod s2.n = ((x % s2.n : Nat) : Int) := by rw [Int.tmod_eq_emod_of_nonneg (by omega)]; omega
  have hv' : x % s1.n < s1.n := Nat.mod_lt _ (by omega)
  have ha' : x % s2.n < s2.n := Nat.mod_lt _ (by omega)
  obtain ⟨v, hvd⟩ : ∃ v, v = x % s1.n := ⟨_, rfl⟩
  obtain ⟨a, had⟩ : ∃ a, a = x % s2.n := ⟨_, rfl⟩
  rw [← hvd] at ht1 hv'
  rw [← had] at ht2 ha'
  have hv : v < N.vs.length := by omega
  have ha : a < N.as.length := by omega
  have ht6 : (w : Int).tmod 6 = ((w % 6 : Nat) : Int) := by rw [Int.tmod_eq_emod_of_nonneg (by omega)]; omega
  obtain ⟨k, hk⟩ : ∃ k, k = w % 6 := ⟨_, rfl⟩
  rw [← hk] at ht6
  have hk6 : k < 6 := by omega
  simp (config := { maxDischargeDepth := 60 }) [cC, bC.sk, bC.rk, w0, ib_rem hne1, ib_rem hne2, ht1, ht2]
  refine ef_new_box ?_
  intro W hW gW bW eW
  have cW : ∀ g, Ext g hC → Ext g hW := fun g e => Mod.trans e eW
  have lW := bW.lt
  have zW := eW.size
  have lC := bC.lt
  have zC := eC.size
  have z3 := e3.size
  have bC1 := bC.ext eW
  have o1 := o1.ext' eW
  have o2 := o2.ext' eW
  have o3 := o3.ext' eW
  have x5 := x4.trans eW
  have hrow5 : ∀ h6, Mod (fun j => j = s1.b ∨ j = s2.b ∨ (s3.nl = false ∧ j = s3.b) ∨ j = C ∨ j = W) hW h6 → ∀ p ∈ P, Row64 h6 p.2 p.1.cs := by
    intro h6 m6 p hp
    obtain ⟨g1, g2, g3, g4, g5⟩ := hrow p hp
    refine ((g1.ext eC).ext eW).mod m6 (fun hne hj => ?_)
    have hlt : p.2.b < h3.size := by
      rcases Nat.lt_or_ge p.2.b h3.size with q | q
      · exact q
      · have := g1.val 0 (List.length_pos_iff.2 hne)
        simp [hc, Array.getElem?_eq_none q] at this
    rcases hj with hj | hj | ⟨hn, hj⟩ | hj | hj
    · exact g3 hj
    · exact g4 hj
    · exact g5 hn hj
    · omega
    · omega
  have cont : ∀ (hT : Heap) (t1 t2 t3 : Sl) (M : NetD) (wr : Wr) (ws : Array Value), Ext h2 hT → NetH hT t1 t2 t3 M → Blk hT C #[t1.v, t2.v, t3.v] → Blk hT W ws → ws.size = 2 → WrongV hT wr.1 wr.2 (.agg ws) → netW M = wr → wr.2 ≠ 0 → NetSmall M → M.vs.length ≤ 1000 → M.as.length ≤ 1000 → M.ts.length ≤ 1000 →
      ∀ (v10 v13 v14 v15 v16 v17 v18 v19 v20 : Value), Stmt.wp Y S_rlaw3_NetBent.body.rest.rest.rest.rest.rest.rest.rest.rest (resP S_rlaw3_NetBent.res R) (fun _ _ _ => False) (resP S_rlaw3_NetBent.res R)
      [netV sv sa st, .int .u8 w, .int .u16 x, .int .u16 y, .pointer (some ⟨B, 0, none⟩), .bool false, .pointer (some ⟨C, 0, none⟩), .int .i64 v, .int .i64 a, .pointer (some ⟨W, 0, none⟩), v10, .bool false, .bool false, v13, v14, v15, v16, v17, v18, v19, v20] hT := by
    intro hT t1 t2 t3 M wr ws y0 rM bCT bWT hws hwr hM hne sm m1 m2 m3 v10 v13 v14 v15 v16 v17 v18 v19 v20
    have bBT := bB.ext ((e1.trans e2).trans y0)
    have y1 := x2.trans y0
    have hNM : decide (N = M) = false := by
      rw [decide_eq_false_iff_not]
      intro e
      rw [← e, netW_ok ok] at hM
      rw [← hM] at hne
      exact hne rfl
    have hlen := netW_len (N := M)
    rw [hM] at hlen
    simp [S_rlaw3_NetBent, Stmt.rest, rd_blk bCT, rd_blk bWT hws]
    refine to3_spec L.To3 L.To2 rM m1 m2 m3 sm.bc ?_
    intro h4 a1 a2 a3 e4 r4
    simp [rd_blk (bWT.ext e4) hws]
    refine ncheck_spec L.N1 L.T r4 ?_
    intro u h5 e5 hu
    rw [hM] at hu
    simp [rd_blk (bWT.ext (e4.trans e5)) hws]
    refine tells_spec (ps := wr.1) (c := wr.2) L.Tells E (((y1.trans e4).trans e5).hc hg (fun h => h)) (hwr.ext (e4.trans e5)) hu.here hlen.2 (Nat.le_trans hlen.1 (by omega)) ?_
    intro h6 e6
    have y6 := ((y1.trans e4).trans e5).trans e6
    have z6 := (e4.trans e5).trans e6
    simp [rd_blk (bBT.ext z6)]
    refine toF_spec L (r.ext y6) cf ?_
    intro h7 a1 a2 a3 e7 r7
    simp
    refine ncheck_spec L.N1 L.T r7 ?_
    intro u h8 e8 hu
    rw [netW_ok ok] at hu
    have := hu.here.nil rfl
    subst this
    have z8 := (z6.trans e7).trans e8
    have y8 := (y6.trans e7).trans e8
    simp [rd_blk (bBT.ext z8), rd_blk (bCT.ext z8)]
    refine toF_spec L (r.ext y8) cf ?_
    intro h9 a1 a2 a3 e9 r9
    have z9 := z8.trans e9
    simp [rd_blk (bCT.ext z9)]
    refine to3_spec L.To3 L.To2 (rM.ext z9) m1 m2 m3 sm.bc ?_
    intro h10 d1 d2 d3 e10 r10
    simp
    refine nsame_spec L.NS L.TE (r9.ext e10) r10 fs ?_
    intro h11 e11
    simp [hNM]
    exact hr _ (((y8.trans e9).trans e10).trans e11)
  simp only [S_rlaw3_NetBent, Stmt.rest] at cont
  have xW : Ext h2 hW := (e3.trans eC).trans eW
  have zz2 := e3.size
  have k0 : (w : Int).tmod 6 = (k : Int) := by rw [ht6]
  have hrowT : ∀ h6, Mod (fun j => j = s1.b ∨ j = s2.b ∨ (s3.nl = false ∧ j = s3.b) ∨ j = C ∨ j = W) hW h6 → Own h6 3 s3 (cells3 (P.map tabP)) → RowT h6 s3 N.ts := fun h6 m6 o => o.rowT hP (hrow5 h6 m6)
  have hk' : k = 0 ∨ k = 1 ∨ k = 2 ∨ k = 3 ∨ k = 4 ∨ k = 5 := by omega
  clear k0
  rcases hk' with rfl | rfl | rfl | rfl | rfl | rfl
  · -- case 0
    have wv : IntKind.i64.wrap (1048577 + (y : Int)) = 1048577 + (y : Int) := i64_wrap (by omega)
    have ix : (v : Int) < s1.n := by omega
    simp [ib_rem, ht6, -SeqK_ap]
    repeat
      rw [SeqK_ap]
      simp [ib_rem, ht6, bC1.hc, w00, wv, sem_idxa o1.ok, ix, -SeqK_ap]
    refine stN o1 (k := v * 3) (by rw [cells3_len, List.length_map]; omega) ?_
    intro h6 q6 m6
    rw [(tri_set (by omega)).1] at q6
    have z6 := m6.size
    have bW6 := m6.blk bW (by omega)
    have bC6 := m6.blk bC1 (by omega)
    have p6 := o2.mod m6 (fun _ hj => by omega)
    have o6 := o3.mod m6 (fun hn hj => by have := d3 hn; omega)
    simp [-SeqK_ap]
    rw [SeqK_ap]
    simp [-SeqK_ap]
    refine rat_spec RA ?_
    intro h7 u e7 hu
    obtain ⟨ps, rfl⟩ := hu.here.shape
    have z7 := e7.size
    simp [-SeqK_ap]
    refine ef_store_box (bW6.ext e7) rfl rfl (by simp) ?_
    intro h8 bW8 m8
    simp [-SeqK_ap]
    rw [SeqK_ap]
    have hu8 := (hu.step m8 (fun j hj => by omega)).here
    have q8 := (q6.ext' e7).mod m8 (fun _ hj => by omega)
    have p8 := (p6.ext' e7).mod m8 (fun _ hj => by omega)
    have o8 := (o6.ext' e7).mod m8 (fun hn hj => by have := lt3 hn; omega)
    have mm : Mod (fun j => j = s1.b ∨ j = s2.b ∨ (s3.nl = false ∧ j = s3.b) ∨ j = C ∨ j = W) hW h8 := ((m6.mono fun _ _ h => .inl h).trans (e7.mono fun _ _ h => h.elim)).trans (m8.mono fun _ _ h => .inr (.inr (.inr (.inr h))))
    have hM := (bent_vert ok hv (t := ⟨1048577 + y, (nthT N.vs v).b, (nthT N.vs v).c⟩) (fun q => by rw [vert_bad0]; simp [atW])).trans vert_bad0
    refine cont h8 s1 s2 s3 { N with vs := N.vs.set v ⟨1048577 + y, (nthT N.vs v).b, (nthT N.vs v).c⟩ } (atW wVert v 1) _ (Mod.ext xW (((m6.mono fun _ _ h => .inl h).trans (e7.mono fun _ _ h => h.elim)).trans (m8.mono (S' := fun j => j = s1.b ∨ j = W) fun _ _ h => .inr h)) (fun j hj => by omega)) ⟨q8.row3, p8.row3, hrowT h8 mm o8⟩ (m8.blk (bC6.ext e7) (by omega)) bW8 rfl hu8 hM (by simp [atW]) ⟨by simp; omega, by simp; omega, by simp; omega, fs.bc⟩ (by simp; omega) (by simp; omega) (by simp; omega) _ _ _ _ _ _ _ _ _
  · -- case 1
    have wv : IntKind.i64.wrap ((s3.n : Int) + (y : Int)) = (s3.n : Int) + (y : Int) := i64_wrap (by omega)
    have ix : (v : Int) < s1.n := by omega
    simp [ib_rem, ht6, -SeqK_ap]
    repeat
      rw [SeqK_ap]
      simp [ib_rem, ht6, bC1.hc, w00, wv, sem_idxa o1.ok, ix, -SeqK_ap]
    rw [Nat.add_assoc]
    refine stN o1 (k := v * 3 + 2) (by rw [cells3_len, List.length_map]; omega) ?_
    intro h6 q6 m6
    rw [(tri_set (by omega)).2.2] at q6
    have z6 := m6.size
    have bW6 := m6.blk bW (by omega)
    have bC6 := m6.blk bC1 (by omega)
    have p6 := o2.mod m6 (fun _ hj => by omega)
    have o6 := o3.mod m6 (fun hn hj => by have := d3 hn; omega)
    simp [-SeqK_ap]
    rw [SeqK_ap]
    simp [-SeqK_ap]
    refine rat_spec RA ?_
    intro h7 u e7 hu
    obtain ⟨ps, rfl⟩ := hu.here.shape
    have z7 := e7.size
    simp [-SeqK_ap]
    refine ef_store_box (bW6.ext e7) rfl rfl (by simp) ?_
    intro h8 bW8 m8
    simp [-SeqK_ap]
    rw [SeqK_ap]
    have hu8 := (hu.step m8 (fun j hj => by omega)).here
    have q8 := (q6.ext' e7).mod m8 (fun _ hj => by omega)
    have p8 := (p6.ext' e7).mod m8 (fun _ hj => by omega)
    have o8 := (o6.ext' e7).mod m8 (fun hn hj => by have := lt3 hn; omega)
    have mm : Mod (fun j => j = s1.b ∨ j = s2.b ∨ (s3.nl = false ∧ j = s3.b) ∨ j = C ∨ j = W) hW h8 := ((m6.mono fun _ _ h => .inl h).trans (e7.mono fun _ _ h => h.elim)).trans (m8.mono fun _ _ h => .inr (.inr (.inr (.inr h))))
    have hM := (bent_vert ok hv (t := ⟨(nthT N.vs v).a, (nthT N.vs v).b, s3.n + y⟩) (fun q => by rw [← n3, hPl, vert_bad1 (ok.vx v hv)]; simp [atW])).trans (by rw [← n3, hPl, vert_bad1 (ok.vx v hv)])
    refine cont h8 s1 s2 s3 { N with vs := N.vs.set v ⟨(nthT N.vs v).a, (nthT N.vs v).b, s3.n + y⟩ } (atW wVert v 5) _ (Mod.ext xW (((m6.mono fun _ _ h => .inl h).trans (e7.mono fun _ _ h => h.elim)).trans (m8.mono (S' := fun j => j = s1.b ∨ j = W) fun _ _ h => .inr h)) (fun j hj => by omega)) ⟨q8.row3, p8.row3, hrowT h8 mm o8⟩ (m8.blk (bC6.ext e7) (by omega)) bW8 rfl hu8 hM (by simp [atW]) ⟨by simp; omega, by simp; omega, by simp; omega, fs.bc⟩ (by simp; omega) (by simp; omega) (by simp; omega) _ _ _ _ _ _ _ _ _
  · -- case 2
    have wv : IntKind.i64.wrap (-1 - (y : Int)) = -1 - (y : Int) := i64_wrap (by omega)
    have ix : (a : Int) < s2.n := by omega
    simp [ib_rem, ht6, -SeqK_ap]
    repeat
      rw [SeqK_ap]
      simp [ib_rem, ht6, bC1.hc, w00, wv, sem_idxa o2.ok, ix, -SeqK_ap]
    rw [Nat.add_assoc]
    refine stN o2 (k := a * 3 + 1) (by rw [cells3_len, List.length_map]; omega) ?_
    intro h6 q6 m6
    rw [(tri_set (by omega)).2.1] at q6
    have z6 := m6.size
    have bW6 := m6.blk bW (by omega)
    have bC6 := m6.blk bC1 (by omega)
    have p6 := o1.mod m6 (fun _ hj => by omega)
    have o6 := o3.mod m6 (fun hn hj => by have := d3 hn; omega)
    simp [-SeqK_ap]
    rw [SeqK_ap]
    simp [-SeqK_ap]
    refine rat_spec RA ?_
    intro h7 u e7 hu
    obtain ⟨ps, rfl⟩ := hu.here.shape
    have z7 := e7.size
    simp [-SeqK_ap]
    refine ef_store_box (bW6.ext e7) rfl rfl (by simp) ?_
    intro h8 bW8 m8
    simp [-SeqK_ap]
    rw [SeqK_ap]
    have hu8 := (hu.step m8 (fun j hj => by omega)).here
    have q8 := (q6.ext' e7).mod m8 (fun _ hj => by omega)
    have p8 := (p6.ext' e7).mod m8 (fun _ hj => by omega)
    have o8 := (o6.ext' e7).mod m8 (fun hn hj => by have := lt3 hn; omega)
    have mm : Mod (fun j => j = s1.b ∨ j = s2.b ∨ (s3.nl = false ∧ j = s3.b) ∨ j = C ∨ j = W) hW h8 := ((m6.mono fun _ _ h => .inr (.inl h)).trans (e7.mono fun _ _ h => h.elim)).trans (m8.mono fun _ _ h => .inr (.inr (.inr (.inr h))))
    have hM := (bent_arc ok ha (t := ⟨(nthT N.as a).a, -1 - y, (nthT N.as a).c⟩) (fun q => by rw [arc_bad2]; simp [atW])).trans arc_bad2
    refine cont h8 s1 s2 s3 { N with as := N.as.set a ⟨(nthT N.as a).a, -1 - y, (nthT N.as a).c⟩ } (atW wArc a 5) _ (Mod.ext xW (((m6.mono fun _ _ h => .inl h).trans (e7.mono fun _ _ h => h.elim)).trans (m8.mono (S' := fun j => j = s2.b ∨ j = W) fun _ _ h => .inr h)) (fun j hj => by omega)) ⟨p8.row3, q8.row3, hrowT h8 mm o8⟩ (m8.blk (bC6.ext e7) (by omega)) bW8 rfl hu8 hM (by simp [atW]) ⟨by simp; omega, by simp; omega, by simp; omega, fs.bc⟩ (by simp; omega) (by simp; omega) (by simp; omega) _ _ _ _ _ _ _ _ _
  · -- case 3
    have wv : IntKind.i64.wrap (-1 - (y : Int)) = -1 - (y : Int) := i64_wrap (by omega)
    have ix : (a : Int) < s2.n := by omega
    simp [ib_rem, ht6, -SeqK_ap]
    repeat
      rw [SeqK_ap]
      simp [ib_rem, ht6, bC1.hc, w00, wv, sem_idxa o2.ok, ix, -SeqK_ap]
    rw [Nat.add_assoc]
    refine stN o2 (k := a * 3 + 2) (by rw [cells3_len, List.length_map]; omega) ?_
    intro h6 q6 m6
    rw [(tri_set (by omega)).2.2] at q6
    have z6 := m6.size
    have bW6 := m6.blk bW (by omega)
    have bC6 := m6.blk bC1 (by omega)
    have p6 := o1.mod m6 (fun _ hj => by omega)
    have o6 := o3.mod m6 (fun hn hj => by have := d3 hn; omega)
    simp [-SeqK_ap]
    rw [SeqK_ap]
    simp [-SeqK_ap]
    refine rat_spec RA ?_
    intro h7 u e7 hu
    obtain ⟨ps, rfl⟩ := hu.here.shape
    have z7 := e7.size
    simp [-SeqK_ap]
    refine ef_store_box (bW6.ext e7) rfl rfl (by simp) ?_
    intro h8 bW8 m8
    simp [-SeqK_ap]
    rw [SeqK_ap]
    have hu8 := (hu.step m8 (fun j hj => by omega)).here
    have q8 := (q6.ext' e7).mod m8 (fun _ hj => by omega)
    have p8 := (p6.ext' e7).mod m8 (fun _ hj => by omega)
    have o8 := (o6.ext' e7).mod m8 (fun hn hj => by have := lt3 hn; omega)
    have mm : Mod (fun j => j = s1.b ∨ j = s2.b ∨ (s3.nl = false ∧ j = s3.b) ∨ j = C ∨ j = W) hW h8 := ((m6.mono fun _ _ h => .inr (.inl h)).trans (e7.mono fun _ _ h => h.elim)).trans (m8.mono fun _ _ h => .inr (.inr (.inr (.inr h))))
    have hM := (bent_arc ok ha (t := ⟨(nthT N.as a).a, (nthT N.as a).b, -1 - y⟩) (fun q => by rw [arc_bad3 (ok.arcs a ha)]; simp [atW])).trans (arc_bad3 (ok.arcs a ha))
    refine cont h8 s1 s2 s3 { N with as := N.as.set a ⟨(nthT N.as a).a, (nthT N.as a).b, -1 - y⟩ } (atW wArc a 8) _ (Mod.ext xW (((m6.mono fun _ _ h => .inl h).trans (e7.mono fun _ _ h => h.elim)).trans (m8.mono (S' := fun j => j = s2.b ∨ j = W) fun _ _ h => .inr h)) (fun j hj => by omega)) ⟨p8.row3, q8.row3, hrowT h8 mm o8⟩ (m8.blk (bC6.ext e7) (by omega)) bW8 rfl hu8 hM (by simp [atW]) ⟨by simp; omega, by simp; omega, by simp; omega, fs.bc⟩ (by simp; omega) (by simp; omega) (by simp; omega) _ _ _ _ _ _ _ _ _
  · -- case 4
    have wv : IntKind.i64.wrap (17 + (y : Int)) = 17 + (y : Int) := i64_wrap (by omega)
    simp [ib_rem, ht6, -SeqK_ap]
    repeat
      rw [SeqK_ap]
      simp [ib_rem, ht6, bC1.hc, w00, wv, sem_bld12, -SeqK_ap]
    refine ef_bslice_all rfl rfl rfl ?_ (by omega)
    intro G h5 gG bG e5 oG
    have z5 := e5.size
    simp [(bC1.ext e5).hc, -SeqK_ap]
    refine ef_append3 rfl (o3.ext' e5) bG rfl rfl rfl (by omega) (by omega) ?_
    intro t3 h6 q6 m6 ht3
    have z6 := m6.size
    have q6 : Own h6 3 t3 (cells3 ((P ++ [((⟨1, 17 + y, []⟩ : Tab), Sl.nil)]).map tabP)) := by simpa [tabP, Sl.nil_v] using q6
    have n6 : t3.nl = false → (s3.nl = false ∧ t3.b = s3.b) ∨ h5.size ≤ t3.b := by
      intro hn
      rcases ht3 with ⟨q1, q2⟩ | ⟨q1, q2⟩
      · exact .inl ⟨by rw [← q2, hn], q1⟩
      · exact .inr q1
    have n6' : t3.nl = false → t3.b ≠ C ∧ t3.b ≠ W := by
      intro hn
      rcases n6 hn with ⟨q, e⟩ | q
      · have := lt3 q; omega
      · omega
    have bC6 := m6.blk (bC1.ext e5) (fun hj => by have := lt3 hj.1; omega)
    have bW6 := m6.blk (bW.ext e5) (fun hj => by have := lt3 hj.1; omega)
    have o16 := (o1.ext' e5).mod m6 (fun _ hj => by have := d3 hj.1; omega)
    have o26 := (o2.ext' e5).mod m6 (fun _ hj => by have := d3 hj.1; omega)
    simp [-SeqK_ap]
    refine stB bC6 (by simp) ?_
    intro h7 bC7 m7
    simp at bC7
    have z7 := m7.size
    have bW7 := m7.blk bW6 (by omega)
    have o17 := o16.mod m7 (fun _ hj => by omega)
    have o27 := o26.mod m7 (fun _ hj => by omega)
    have q7 := q6.mod m7 (fun hn hj => (n6' hn).1 hj)
    have y7 : Ext h2 h7 := Mod.ext (xW.trans e5) (((m6.mono fun _ _ h => .inl h).trans (m7.mono (S' := fun j => (s3.nl = false ∧ j = s3.b) ∨ j = C) fun _ _ h => .inr h))) (fun j hj => by
      rcases hj with hj | hj
      · have := d3 hj.1; omega
      · omega)
    have bB7 := bB.ext ((e1.trans e2).trans y7)
    have mm7 : Mod (fun j => j = s1.b ∨ j = s2.b ∨ (s3.nl = false ∧ j = s3.b) ∨ j = C ∨ j = W) hW h7 := ((e5.mono fun _ _ h => h.elim).trans (m6.mono fun _ _ h => .inr (.inr (.inl h)))).trans (m7.mono fun _ _ h => .inr (.inr (.inr (.inl h))))
    have c4 : ¬ (256 : Int) ≤ st.n := by omega
    simp [-SeqK_ap]
    rw [SeqK_ap]
    simp [bB7.hc, -SeqK_ap]
    refine rat_spec RA ?_
    intro h8 u e8 hu
    have z8 := e8.size
    obtain ⟨ps, rfl⟩ := hu.here.shape
    simp [(bB7.ext e8).hc, -SeqK_ap]
    refine rwithin_spec L.R1.Within (w := turnW 1 1) hu.here (by simp [turnW]) (by simp [turnW]) ?_
    intro h9 u e9 hu9
    have z9 := e9.size
    obtain ⟨ps', rfl⟩ := hu9.here.shape
    simp [-SeqK_ap]
    refine ef_store_box (bW7.ext (e8.trans e9)) rfl rfl (by simp) ?_
    intro hX bX mX
    have hu10 := (hu9.step mX (fun j hj => by omega)).here
    have mmX := (mm7.trans ((e8.trans e9).mono fun _ _ h => h.elim)).trans (mX.mono fun _ _ h => .inr (.inr (.inr (.inr h))))
    have yX : Ext h2 hX := Mod.ext ((y7.trans e8).trans e9) mX (fun j hj => by omega)
    have bBX := bB.ext ((e1.trans e2).trans yX)
    simp [-SeqK_ap]
    rw [SeqK_ap]
    simp [bBX.hc, -SeqK_ap]
    rw [SeqK_ap]
    simp [c4, Int.not_le.1 c4, -SeqK_ap]
    rw [SeqK_ap]
    have hM := bent_type ok (ts := N.ts ++ [(⟨1, 17 + y, []⟩ : Tab)]) (by simp; omega) (v := N.ts.length) (by simp) (fun i hi => ⟨by simp [nthB, List.getElem?_append_left hi], hi⟩) (by
      have : nthB (N.ts ++ [(⟨1, 17 + y, []⟩ : Tab)]) N.ts.length = ⟨1, 17 + y, []⟩ := by simp [nthB]
      rw [this, tab_bad4]; simp [turnW])
    rw [show nthB (N.ts ++ [(⟨1, 17 + y, []⟩ : Tab)]) N.ts.length = ⟨1, 17 + y, []⟩ by simp [nthB], tab_bad4, lt] at hM
    have rT : RowT hX t3 (N.ts ++ [(⟨1, 17 + y, []⟩ : Tab)]) := by
      refine Own.rowT (P := P ++ [((⟨1, 17 + y, []⟩ : Tab), Sl.nil)]) ((q7.ext' (e8.trans e9)).mod mX (fun hn hj => (n6' hn).2 hj)) (by rw [List.map_append, hP]; rfl) ?_
      intro p hp
      rcases List.mem_append.1 hp with g | g
      · exact hrow5 hX mmX p g
      · simp only [List.mem_singleton] at g
        subst g
        exact Row64.nil
    refine cont hX s1 s2 t3 { N with ts := N.ts ++ [(⟨1, 17 + y, []⟩ : Tab)] } (withinW wType st.n (turnW 1 1)) _ yX ⟨((o17.ext' (e8.trans e9)).mod mX (fun _ hj => by omega)).row3, ((o27.ext' (e8.trans e9)).mod mX (fun _ hj => by omega)).row3, rT⟩ (mX.blk (bC7.ext (e8.trans e9)) (by omega)) bX rfl hu10 hM (within_ne (by simp [turnW]))
      ⟨by simp; omega, by simp; omega, by simp; omega, fun i hi => ?_⟩ (by simp; omega) (by simp; omega) (by simp; omega) _ _ _ _ _ _ _ _ _
    simp only [List.length_append, List.length_singleton] at hi
    rcases Nat.lt_or_ge i N.ts.length with q | q
    · have : nthB (N.ts ++ [(⟨1, 17 + y, []⟩ : Tab)]) i = nthB N.ts i := by simp [nthB, List.getElem?_append_left q]
      show (nthB (N.ts ++ [(⟨1, 17 + y, []⟩ : Tab)]) i).cs.length ≤ 1000000
      rw [this]; exact fs.bc i q
    · obtain rfl : i = N.ts.length := by omega
      show (nthB (N.ts ++ [(⟨1, 17 + y, []⟩ : Tab)]) N.ts.length).cs.length ≤ 1000000
      rw [show nthB (N.ts ++ [(⟨1, 17 + y, []⟩ : Tab)]) N.ts.length = ⟨1, 17 + y, []⟩ by simp [nthB]]
      simp
  · -- case 5
    have g1 := ok.vt v hv
    simp only [vtxB, decide_eq_true_eq] at g1
    obtain ⟨f, hf⟩ : ∃ f : Nat, (nthT N.vs v).c = f := ⟨(nthT N.vs v).c.toNat, by omega⟩
    have f1' : f < N.ts.length := by omega
    have f2' : f < P.length := by omega
    have fl : (f : Int) < s3.n := by omega
    have vl : (v : Int) < s1.n := by omega
    have hPf : P[f].1 = nthB N.ts f := by
      have : (P.map Prod.fst)[f]? = N.ts[f]? := by rw [hP]
      rw [List.getElem?_map, List.getElem?_eq_getElem f2', List.getElem?_eq_getElem f1'] at this
      simp only [Option.map_some, Option.some.injEq] at this
      rw [this, nthB_eq f1']
    have htab := ok.tab f f1'
    obtain ⟨a1, a2, a3, a4, a5, _, _⟩ := tab_ok (ins := (nthB N.ts f).i) (outs := (nthB N.ts f).o) (cs := (nthB N.ts f).cs) htab
    have wv : IntKind.i64.wrap ((nthB N.ts f).i + 1) = (nthB N.ts f).i + 1 := i64_wrap (by omega)
    have cv := o1.row3.v2 v (by simpa using hv)
    rw [hf] at cv
    have ci := (o3.get3 (i := f) (by simpa using f2')).1
    simp only [List.getElem_map, tabP, hPf] at ci
    simp [ib_rem, ht6, -SeqK_ap]
    repeat
      rw [SeqK_ap]
      simp [ib_rem, ht6, bC1.hc, wv, sem_idxa o1.ok, sem_idxa o3.ok, vl, fl, cv, ci, -SeqK_ap]
    refine stN o3 (k := f * 3) (by rw [cells3_len, List.length_map]; omega) ?_
    intro h6 q6 m6
    rw [tab_set f2', hPf] at q6
    have hs3 : s3.nl = false := by
      obtain ⟨arr, hb, _, hn⟩ := o3.blk (i := 0) (by rw [cells3_len, List.length_map]; omega)
      exact hn
    have dd := d3 hs3
    have ld := lt3 hs3
    have z6 := m6.size
    have bW6 := m6.blk bW (by omega)
    have bC6 := m6.blk bC1 (by omega)
    have p1 := o1.mod m6 (fun _ hj => by omega)
    have p2 := o2.mod m6 (fun _ hj => by omega)
    simp [-SeqK_ap]
    rw [SeqK_ap]
    simp [-SeqK_ap]
    refine rat_spec RA ?_
    intro h8 u e8 hu
    have z8 := e8.size
    obtain ⟨ps, rfl⟩ := hu.here.shape
    simp [-SeqK_ap]
    refine rwithin_spec L.R1.Within (w := turnW 2 9) hu.here (by simp [turnW]) (by simp [turnW]) ?_
    intro h9 u e9 hu9
    have z9 := e9.size
    obtain ⟨ps', rfl⟩ := hu9.here.shape
    simp [-SeqK_ap]
    refine ef_store_box (bW6.ext (e8.trans e9)) rfl rfl (by simp) ?_
    intro hX bX mX
    have hu10 := (hu9.step mX (fun j hj => by omega)).here
    have mmX : Mod (fun j => j = s1.b ∨ j = s2.b ∨ (s3.nl = false ∧ j = s3.b) ∨ j = C ∨ j = W) hW hX := ((m6.mono fun _ _ h => .inr (.inr (.inl ⟨hs3, h⟩))).trans ((e8.trans e9).mono fun _ _ h => h.elim)).trans (mX.mono fun _ _ h => .inr (.inr (.inr (.inr h))))
    have yX : Ext h2 hX := Mod.ext xW (((m6.mono fun _ _ h => .inl h).trans ((e8.trans e9).mono fun _ _ h => h.elim)).trans (mX.mono (S' := fun j => j = s3.b ∨ j = W) fun _ _ h => .inr h)) (fun j hj => by omega)
    have q8 := (q6.ext' (e8.trans e9)).mod mX (fun _ hj => by omega)
    have p18 := (p1.ext' (e8.trans e9)).mod mX (fun _ hj => by omega)
    have p28 := (p2.ext' (e8.trans e9)).mod mX (fun _ hj => by omega)
    have bC8 := mX.blk (bC6.ext (e8.trans e9)) (by omega)
    have gg := q8.get3 (i := f) (by simpa using f2')
    simp only [List.getElem_map, tabP, List.getElem_set_self] at gg
    obtain ⟨gg0, gg1, _⟩ := gg
    by_cases k1 : (nthB N.ts f).o = 0
    · have k1' : ((nthB N.ts f).o = 0) = True := by simp [k1]
      simp [-SeqK_ap]
      rw [SeqK_ap]
      simp [bC8.hc, sem_idxa q8.ok, fl, gg1, k1', -SeqK_ap]
      rw [SeqK_ap]
      simp [-SeqK_ap]
      rw [SeqK_ap]
      simp
      exact hr _ (x2.trans yX)
    by_cases k2 : 16 < (nthB N.ts f).i + 1
    · simp [-SeqK_ap]
      rw [SeqK_ap]
      simp [bC8.hc, sem_idxa q8.ok, fl, gg1, gg0, k1, k2, -SeqK_ap]
      rw [SeqK_ap]
      simp [-SeqK_ap]
      rw [SeqK_ap]
      simp
      exact hr _ (x2.trans yX)
    simp [-SeqK_ap]
    rw [SeqK_ap]
    simp [bC8.hc, sem_idxa q8.ok, fl, gg1, gg0, k1, k2, -SeqK_ap]
    rw [SeqK_ap]
    simp [-SeqK_ap]
    rw [SeqK_ap]
    have hset : nthB (N.ts.set f ⟨(nthB N.ts f).i + 1, (nthB N.ts f).o, (nthB N.ts f).cs⟩) f = ⟨(nthB N.ts f).i + 1, (nthB N.ts f).o, (nthB N.ts f).cs⟩ := by rw [nthB_set f1', if_pos rfl]
    have hb5 := tab_bad5 htab k1 (by omega)
    have hM := bent_type ok (ts := N.ts.set f ⟨(nthB N.ts f).i + 1, (nthB N.ts f).o, (nthB N.ts f).cs⟩) (by simp; omega) (v := f) (by simpa using f1') (fun i hi => ⟨by rw [nthB_set f1', if_neg (by omega)], by omega⟩) (by rw [hset, hb5]; simp [turnW])
    rw [hset, hb5] at hM
    have rT : RowT hX s3 (N.ts.set f ⟨(nthB N.ts f).i + 1, (nthB N.ts f).o, (nthB N.ts f).cs⟩) := by
      refine q8.rowT (by rw [List.map_set, hP]) ?_
      intro p hp
      rcases List.mem_or_eq_of_mem_set hp with g | g
      · exact hrow5 hX mmX p g
      · subst g
        have := hrow5 hX mmX P[f] (List.getElem_mem f2')
        rw [hPf] at this
        exact this
    refine cont hX s1 s2 s3 { N with ts := N.ts.set f ⟨(nthB N.ts f).i + 1, (nthB N.ts f).o, (nthB N.ts f).cs⟩ } (withinW wType f (turnW 2 9)) _ yX ⟨p18.row3, p28.row3, rT⟩ bC8 bX rfl hu10 hM (within_ne (by simp [turnW]))
      ⟨by simp; omega, by simp; omega, by simp; omega, fun i hi => ?_⟩ (by simp; omega) (by simp; omega) (by simp; omega) _ _ _ _ _ _ _ _ _
    show (nthB (N.ts.set f ⟨(nthB N.ts f).i + 1, (nthB N.ts f).o, (nthB N.ts f).cs⟩) i).cs.length ≤ 1000000
    rw [nthB_set f1']
    split
    · exact fs.bc f f1'
    · exact fs.bc i (by simpa using hi)
end
end Go.Rm
