import Derived.Test.YtegflpgpkbffkaaRLaw8

/- The laws of walks: WalkWhole. -/
set_option linter.unusedSimpArgs false
set_option linter.unusedVariables false
namespace Go.Rm
section
variable {N : NetD}
theorem mark_all (ok : NetOK N) {b : Nat} (hb : b < N.as.length) : markB (List.replicate N.vs.length true) (fromV N b) = true ∧ markB (List.replicate N.vs.length true) (toV N b) = true := by
  obtain ⟨h1, h2⟩ := ok.arcs b hb
  have hv : vtxB N.as.length (b : Int) = true := by simp [vtxB]; omega
  have e1 : fromV N b = (nthT N.as b).a := by unfold fromV; rw [if_pos hv]; simp
  have e2 : toV N b = (nthT N.as b).b := by unfold toV; rw [if_pos hv]; simp
  rw [e1, e2]
  simp [vtxB] at h1 h2
  have g : ∀ v : Int, 0 ≤ v → v < N.vs.length → markB (List.replicate N.vs.length true) v = true := fun v a c => by
    have : v.toNat < N.vs.length := by omega
    simp [markB, a, c, nthM, this]
  exact ⟨g _ h1.1 h1.2, g _ h2.1 h2.2⟩
theorem in_none {s t : Nat} {d : Int} {n : Nat} (ok : NetOK N) (h : InsideP N (List.replicate n false) s t d) : d = turnV N s t := by
  have no : ∀ a c, ¬ WalkS (EdI N (List.replicate n false) s) (EdI N (List.replicate n false)) a c := by
    have key : ∀ a b w, ¬ EdI N (List.replicate n false) a b w := fun a b w h => by
      have := h.2.1
      simp [markB, nthM] at this
      obtain ⟨⟨_, h2⟩, h3⟩ := this
      rw [List.getElem?_replicate] at h3
      split at h3 <;> simp at h3
    intro a c w
    cases w with
    | init h => exact key _ _ _ h
    | step _ h => exact key _ _ _ h
  have tc := turn_cases ok (a := (s : Int)) (b := (t : Int))
  refine h.uniq ⟨by rcases tc with e | e <;> omega, fun x hx => ?_, ?_⟩
  · obtain ⟨a, c, h1, h2, rfl⟩ := hx
    rcases h1 with ⟨rfl, rfl⟩ | h1
    · omega
    · exact absurd h1 (no _ _)
  · by_cases e : turnV N s t = 1152921504606846976
    · exact .inl e
    · exact .inr ⟨s, 0, .inl ⟨rfl, rfl⟩, e, by omega⟩
theorem in_pos (ok : NetOK N) {m : List Bool} {s t : Nat} {d : Int} (h : InsideP N m s t d) : 0 ≤ d ∧ d ≤ 1152921504606846976 := by
  refine ⟨?_, h.le⟩
  rcases h.is with e | ⟨a, c, h1, h2, rfl⟩
  · omega
  · have tc := (turn_cases ok (a := (a : Int)) (b := (t : Int))).resolve_left h2
    rcases h1 with ⟨_, rfl⟩ | h1
    · omega
    · have := (h1.pos (in_costs ok)).2; omega
theorem in_all (ok : NetOK N) {s t : Nat} {x d : Int} (h : InsideP N (List.replicate N.vs.length true) s t x) (hd : LeastS (FromI N s) (EdW N) t d) (hst : s ≠ t) (ht : t < N.as.length) (hl : weightV N s ≠ 1152921504606846976) : d = addI x (weightV N t) := by
  have C := from_costs ok (s := (s : Int))
  have up : ∀ a c, WalkS (FromI N s) (EdW N) a c → (a = s ∧ c = 0) ∨ WalkS (EdI N (List.replicate N.vs.length true) s) (EdI N (List.replicate N.vs.length true)) a c := by
    intro a c w
    induction w with
    | init h =>
      obtain ⟨h1, h2, _⟩ := h
      exact .inl ⟨by omega, h2⟩
    | step _ e ih =>
      rename_i a b c w hw
      obtain ⟨m1, m2⟩ := mark_all ok (C.e0 _ _ _ e).1
      rcases ih with ⟨rfl, rfl⟩ | ih
      · right
        have := WalkS.init (I := EdI N (List.replicate N.vs.length true) a) (E := EdI N (List.replicate N.vs.length true)) ⟨e, m1, m2⟩
        simpa using this
      · exact .inr (.step ih ⟨e, m1, m2⟩)
  have down : ∀ a c, WalkS (EdI N (List.replicate N.vs.length true) s) (EdI N (List.replicate N.vs.length true)) a c → WalkS (FromI N s) (EdW N) a c := by
    intro a c w
    induction w with
    | init h =>
      have := WalkS.step (WalkS.init (I := FromI N s) (E := EdW N) ⟨rfl, rfl, hl⟩) h.1
      simpa using this
    | step _ e ih => exact .step ih e.1
  have wc := arc_cases ok (a := (t : Int))
  obtain ⟨p1, p2⟩ := in_pos ok h
  have hw2 : weightV N t ≤ 1152921504606846976 := by rcases wc with e | e <;> omega
  have hw1 : 0 ≤ weightV N t := by rcases wc with e | e <;> omega
  rw [addI_min p1 hw1 p2 hw2]
  refine hd.uniq ⟨by split <;> omega, fun c w => ?_, ?_⟩
  · cases w with
    | init h =>
      obtain ⟨h1, _, _⟩ := h
      omega
    | step w e =>
      rename_i a c w'
      obtain ⟨e1, e2, e3⟩ := e
      have := h.all _ ⟨a, c, up a c w, e1, rfl⟩
      split <;> omega
  · split
    · rename_i hle
      by_cases e : weightV N t = 1152921504606846976
      · left; omega
      · rcases h.is with q | ⟨a, c, h1, h2, q⟩
        · left; omega
        · right
          have hw : WalkS (FromI N s) (EdW N) a c := by
            rcases h1 with ⟨rfl, rfl⟩ | h1
            · exact .init ⟨rfl, rfl, hl⟩
            · exact down a c h1
          have := WalkS.step hw (⟨h2, e, rfl⟩ : EdW N a t _)
          rw [q]
          rwa [Int.add_assoc]
    · exact .inl rfl
end
section
variable {Y : Sys} {h h' : Heap}
def WwI (B p b nv s t : Nat) (v0 v1 v2 v10 v11 : Value) (h0 : Heap) (e : List Value) (h' : Heap) : Prop :=
  ∃ (i : Nat) (v4 v10 v11 v12 v13 v14 v15 v16 v17 v18 : Value), e = [v0, v1, v2, .pointer (some ⟨B, 0, none⟩), v4, .pointer (some ⟨p, 0, none⟩), .int .i64 s, .int .i64 t, .slice (some ⟨b, 0, none⟩) nv nv, .int .i64 i, v10, v11, v12, v13, v14, v15, v16, v17, v18] ∧ i ≤ nv ∧ Mod (fun j => j = b) h0 h' ∧ ∃ m : List Bool, m.length = nv ∧ Own h' 1 (Sl.at b nv nv) (boolsM m) ∧ ∀ j, j < i → nthM m j = true
set_option maxHeartbeats 1000000 in
theorem walkwhole_law (L : WalkLaw Y) (RN : RefNet2 Y) (H : Y.Has F.rlaw8_WalkWhole S_rlaw8_WalkWhole) {sv sa st : Sl} {N : NetD} (r : NetH h sv sa st N) {a b : Nat} (ha : a < 65536) (hb : b < 65536)
    {R : Value → Heap → Prop} (hr : ∀ h', Ext h h' → R (.bool true) h') : CallP Y F.rlaw8_WalkWhole [netV sv sa st, .int .u16 a, .int .u16 b] h R := by
  have la := r.ra.len
  have lv := r.rv.len
  refine .of_has H rfl ?_
  simp [S_rlaw8_WalkWhole, FnS.wp, netV]
  refine ef_new_box ?_
  intro B h1 g1 B1 e1
  simp
  refine wknown_spec L.K ?_
  intro h2 e2
  have x2 := e1.trans e2
  have B2 := B1.ext e2
  simp [rd_blk B2]
  refine wsmall_spec L (r.ext x2) ?_
  intro h3 e3
  have x3 := x2.trans e3
  have B3 := B2.ext e3
  by_cases c0 : smallD N = true
  rotate_left
  · have c0' : smallD N = false := by simpa using c0
    simp [c0']
    exact hr h3 x3
  by_cases c1 : sa.n = 0
  · simp [c0, B3.hc, c1]
    exact hr h3 x3
  simp [c0, B3.hc, c1, rd_blk B3]
  refine made_spec L.K (r.ext x3) (small_may c0) ?_
  intro h4 p S e4 ok g f
  have x4 := x3.trans e4
  have B4 := B3.ext e4
  have bn := ok.ba
  have bv := ok.bv
  have n0 : (sa.n : Int) ≠ 0 := by omega
  have wa : IntKind.i64.wrap (a : Int) = a := i64_wrap (by omega)
  have wb : IntKind.i64.wrap (b : Int) = b := i64_wrap (by omega)
  have ta : (a : Int).tmod sa.n = ((a % sa.n : Nat) : Int) := tmodW (by omega)
  have tb : (b : Int).tmod sa.n = ((b % sa.n : Nat) : Int) := tmodW (by omega)
  obtain ⟨s, hs⟩ : ∃ s, a % sa.n = s := ⟨_, rfl⟩
  obtain ⟨t, ht⟩ : ∃ t, b % sa.n = t := ⟨_, rfl⟩
  have ls : s < N.as.length := by rw [← hs, la]; exact Nat.mod_lt _ (by omega)
  have lt : t < N.as.length := by rw [← ht, la]; exact Nat.mod_lt _ (by omega)
  rw [hs] at ta
  rw [ht] at tb
  clear hs ht
  have hv : sv.n = N.vs.length := lv.symm
  simp [B4.hc, wa, wb, ib_rem n0, ta, tb, hv]
  refine ef_makeM (n := N.vs.length) (by omega) rfl ?_
  intro mb h5 g5 o5 e5 l5
  have x5 := x4.trans e5
  have B5 := B4.ext e5
  have o5' : Own h5 1 (Sl.at mb N.vs.length N.vs.length) (boolsM (List.replicate N.vs.length false)) := by simpa [boolsM] using o5
  simp [rd_blk B5]
  refine winside_spec (sm := Sl.at mb N.vs.length N.vs.length) L.K.I (g.ext e5) ok o5'.rowM (by simp; omega) ?_
  intro h6 d6 e6 q6
  have x6 := x5.trans e6
  have B6 := B5.ext e6
  have hd6 : d6 = turnV N s t := by
    rcases q6 with ⟨q | q, _⟩ | ⟨a', b', h1, h2, _, _, ip⟩
    · simp [vtxB] at q; omega
    · simp [vtxB] at q; omega
    · have : a' = s := by omega
      have : b' = t := by omega
      subst a' b'
      exact in_none ok ip
  subst hd6
  simp [rd_blk B6]
  refine rturn_spec RN L.May.RT (r.ext x6) ok ?_
  intro h7 e7
  have x7 := x6.trans e7
  have z1 := e1.size
  have z4 := x4.size
  have lB := B1.lt
  simp
  refine wp_loop' (WwI B p mb N.vs.length s t (.agg #[sv.v, sa.v, st.v]) (.int .u16 a) (.int .u16 b) undef undef h7) (fun e _ => N.vs.length - argI e 9) ⟨0, _, _, _, _, _, _, _, _, _, _, rfl, by omega, Mod.refl _, _, by simp, (o5'.ext' e6).ext' e7, fun j hj => by omega⟩ ?_
  rintro e h8 ⟨i, v4, v10, v11, v12, v13, v14, v15, v16, v17, v18, rfl, hi, m8, m, hm, o8, hall⟩
  have x8 : Ext h h8 := Mod.toExtF x7 m8 (by omega)
  by_cases k : i < N.vs.length
  · have k' : (i : Int) < N.vs.length := by omega
    have w1 : IntKind.i64.wrap ((i : Int) + 1) = (i : Int) + 1 := i64_wrap (by omega)
    have hiF : ∀ g z, IOp.sem Y g (.idxa 1) [.slice (some ⟨z, 0, none⟩) N.vs.length N.vs.length, .int .i64 i] = some (.pointer (some ⟨z, i, none⟩)) := fun g z => by
      have := sem_idxF (Y := Y) (h := g) (b := z) (sz := 1) (show N.vs.length ≤ 9223372036854775807 by omega) k (Nat.le_refl N.vs.length)
      simpa using this
    simp [k, k', hiF]
    refine stAt o8 (k := i) (by rw [boolsM_len]; omega) ?_
    intro h9 o9 m9
    rw [boolsM_set] at o9
    simp [w1]
    refine ⟨⟨i + 1, _, _, _, _, _, _, _, _, _, _, rfl, by omega, m8.trans m9, _, by simp [hm], o9, fun j hj => by rw [nthM_set (by omega)]; by_cases q : j = i; (simp [q]); (rw [if_neg q]; exact hall j (by omega))⟩, by simp [argI]; omega⟩
  have k' : ¬ (i : Int) < N.vs.length := by omega
  have hmr : m = List.replicate N.vs.length true := by
    apply List.ext_getElem (by simp [hm])
    intro j a1 a2
    have := hall j (by omega)
    simp [nthM, a1] at this
    simp [this]
  subst hmr
  have e48 : Ext h4 h8 := Mod.toExtF ((e5.trans e6).trans e7) m8 (by omega)
  have B8 : Blk h8 B #[sv.v, sa.v, st.v] := B4.ext e48
  simp [k']
  refine winside_spec (sm := Sl.at mb N.vs.length N.vs.length) L.K.I (g.ext e48) ok o8.rowM (by simp; omega) ?_
  intro h9 x e9 q9
  have x9 := x8.trans e9
  have ipx : InsideP N (List.replicate N.vs.length true) s t x := by
    rcases q9 with ⟨q | q, _⟩ | ⟨a', b', h1, h2, _, _, ip⟩
    · simp [vtxB] at q; omega
    · simp [vtxB] at q; omega
    · have : a' = s := by omega
      have : b' = t := by omega
      subst a' b'
      exact ip
  simp
  refine wfrom_spec L.K.X (g.ext (e48.trans e9)) ok ?_
  intro h10 cb X e10 g10 o10 lX hX
  have x10 := x9.trans e10
  have B10 := (B8.ext e9).ext e10
  have hsn : sa.n = N.as.length := la.symm
  have ls1 : (s : Int) < sa.n := by omega
  have ls2 : s < sa.n := by omega
  have lt1 : (t : Int) < sa.n := by omega
  have lt2 : t < sa.n := by omega
  have k0 := (r.ext x10).ra.v2 s ls
  have k1 := (r.ext x10).ra.v2 t lt
  have k2 := o10.row64.val t (by omega)
  simp at k2
  obtain ⟨p1, p2⟩ := in_pos ok ipx
  have hiF : ∀ g z (x : Nat), x < N.as.length → IOp.sem Y g (.idxa 1) [.slice (some ⟨z, 0, none⟩) N.as.length N.as.length, .int .i64 x] = some (.pointer (some ⟨z, x, none⟩)) := fun g z x lx => by
    have := sem_idxF (Y := Y) (h := g) (b := z) (sz := 1) (show N.as.length ≤ 9223372036854775807 by omega) lx (Nat.le_refl N.as.length)
    simpa using this
  by_cases est : s = t
  · subst est
    simp [B10.hc, hsn, p1, p2]
    exact hr h10 x10
  have est' : ¬ (s : Int) = t := by omega
  have wsc := arc_w ls
  by_cases w0 : (nthT N.as s).c = 1152921504606846976
  · simp [B10.hc, hsn, est, est', sem_idxa r.ra.ok, ls1, ls2, ls, k0, w0, p1, p2]
    exact hr h10 x10
  have q := in_all ok ipx (hX t lt) est lt (by rw [wsc]; exact w0)
  rw [arc_w lt] at q
  simp [B10.hc, hsn, est, est', sem_idxa r.ra.ok, ls1, ls2, ls, lt, lt1, lt2, k0, k1, w0, hiF _ _ _ lt, k2]
  refine add_spec ⟨L.K.X.W.C.Held, L.K.I.Add, L.K.X.W.C.Sum⟩ ?_
  simp [k2, q]
  exact hr h10 x10
end
end Go.Rm
