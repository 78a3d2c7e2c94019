import Derived.Test.YtnbciaekpbadmaaDoorRFile1
import Derived.Test.YtnbciaekpbadmaaDoorRLaw4g
import Derived.Test.YtnbciaekpbadmaaDoorSNums

/- Nets in bytes: the document's Parse, its end. -/
set_option linter.unusedSimpArgs false
set_option linter.unusedVariables false
namespace Go.Rm
abbrev wFile : ByteArray := ⟨#[102, 105, 108, 101]⟩
def N0 : NetD := ⟨[], [], []⟩
def parseEnd (N : NetD) (d : Wr) : NetD × Wr := if d.2 ≠ 0 then (N0, d) else if (netW N).2 ≠ 0 then (N0, netW N) else (N, wOK)
def parseIn (bs : List Nat) : NetD × Wr := parseEnd (rdNet bs).1 (doneW bs (rdNet bs).2.1 (rdNet bs).2.2)
def hdB : List Nat := [82, 78, 68, 49]
def parseR (bs : List Nat) : NetD × Wr :=
  if 65536 < bs.length then (N0, atW wFile 0 4) else if bs.length < 8 then (N0, atW wFile 0 3) else
  if sumB (bs.take (bs.length - 4)) ≠ bs.drop (bs.length - 4) then (N0, atW wFile 0 11) else if bs.take 4 ≠ hdB then (N0, atW wFile 0 2) else
  parseIn ((bs.drop 4).take (bs.length - 8))

section
variable {Y : Sys} {h h' : Heap}

theorem NetH.none : NetH h Sl.nil Sl.nil Sl.nil N0 := ⟨⟨Sl.nil_ok, rfl, fun i hi => by simp [N0] at hi, fun i hi => by simp [N0] at hi, fun i hi => by simp [N0] at hi⟩, ⟨Sl.nil_ok, rfl, fun i hi => by simp [N0] at hi, fun i hi => by simp [N0] at hi, fun i hi => by simp [N0] at hi⟩, ⟨Sl.nil_ok, rfl, fun i hi => by simp [N0] at hi⟩⟩
theorem FNet.none {lo : Nat} : FNet lo h Sl.nil Sl.nil Sl.nil N0 := fun _ _ => NetH.none

theorem dp_done (D : DocRd Y) (RN : RefNet Y) (T : RefCk Y) {p B1 B2 M lo at' : Nat} {bad : Int} {s1 s2 s3 s q : Sl} {bs : List Nat} {N : NetD} (r : RdD h p bs at' bad s q) (hlo : lo ≤ h.size) (hq : bad ≠ 0 → lo ≤ q.b)
    (b1 : Blk h B1 #[.slice none 0 0, .slice none 0 0, .slice none 0 0]) (b2 : Blk h B2 #[.slice none 0 0, .int .i64 0]) (bM : Blk h M #[s2.v, s3.v, s1.v]) (h1 : B1 < lo) (h2 : B2 < lo) (hM : M < lo) (h12 : B1 ≠ B2) (hN : FNet lo h s2 s3 s1 N) {R : Value → Heap → Prop}
    (hr : ∀ h' t1 t2 t3 v, Mod (fun j => j = p ∨ j = M ∨ j = B1 ∨ j = B2) h h' → FNet lo h' t1 t2 t3 (parseEnd N (doneW bs at' bad)).1 → FWr lo h' (parseEnd N (doneW bs at' bad)).2 v → R (.tuple #[netV t1 t2 t3, v]) h')
    (v0 v5 v6 v7 v8 v9 v10 v11 v12 v13 v14 v15 v16 v17 v18 v19 v20 v21 v22 v23 v24 : Value) : Stmt.wp Y S_rref6_Parse.body.rest.rest.rest.rest.rest.rest.rest.rest.rest.rest.rest.rest (resP S_rref6_Parse.res R) (fun _ _ _ => False) (resP S_rref6_Parse.res R)
      [v0, .pointer (some ⟨B1, 0, none⟩), .pointer (some ⟨B2, 0, none⟩), .pointer (some ⟨p, 0, none⟩), .pointer (some ⟨M, 0, none⟩), v5, v6, v7, v8, v9, v10, v11, v12, v13, v14, v15, v16, v17, v18, v19, v20, v21, v22, v23, v24] h := by
  simp [S_rref6_Parse, Stmt.rest]
  refine ddone_spec D r hlo hq ?_
  intro g1 v e1 hv
  have z1 := e1.size
  obtain ⟨s5, rfl⟩ := hv.here.shape
  simp
  refine ef_new_box ?_
  intro W g2 hW W2 e2
  have z2 := e2.size
  simp
  refine ef_store_box W2 rfl rfl (by simp) ?_
  intro g3 W3 m3
  have e13 : Ext g1 g3 := e2.toExt m3 hW
  have lW := W3.lt
  have z3 := m3.size
  have hv3 := hv.ext e13
  have e03 := e1.trans e13
  have b13 := b1.ext e03
  have b23 := b2.ext e03
  have bM3 := bM.ext e03
  have hN3 := hN.ext e03
  have fin : ∀ {g4 g5 g6 : Heap} {t1 t2 t3 : Sl} {v : Value}, Ext g3 g4 → FNet lo g4 t1 t2 t3 (parseEnd N (doneW bs at' bad)).1 → FWr lo g4 (parseEnd N (doneW bs at' bad)).2 v → Mod (fun j => j = B1) g4 g5 → Mod (fun j => j = B2) g5 g6 →
      R (.tuple #[netV t1 t2 t3, v]) g6 := by
    intro g4 g5 g6 t1 t2 t3 v e4 fn fw m5 m6
    have mm : Mod (fun j => j < lo) g4 g6 := (m5.mono (fun j _ hj => by omega)).trans (m6.mono (fun j _ hj => by omega))
    have mm' : Mod (fun j => j = p ∨ j = M ∨ j = B1 ∨ j = B2) g4 g6 := (m5.mono (fun j _ hj => by omega)).trans (m6.mono (fun j _ hj => by omega))
    exact hr g6 t1 t2 t3 _ (((e03.trans e4).mono (fun _ _ h => h.elim)).trans mm') (fn.step mm (fun _ h => h)) (fw.step mm (fun _ h => h))
  by_cases hd : (doneW bs at' bad).2 = 0
  rotate_left
  · have hpe : parseEnd N (doneW bs at' bad) = (N0, doneW bs at' bad) := by simp [parseEnd, hd]
    rw [hpe] at fin
    simp [W3.hc, hd, rd_blk W3]
    refine ef_store_box b13 rfl rfl (by simp) ?_
    intro g5 B5 m5
    have W5 := m5.blk W3 (by omega)
    simp [rd_blk W5]
    refine ef_store_box (m5.blk b23 (by omega)) rfl rfl (by simp) ?_
    intro g6 B6 m6
    simp
    exact resP_xx rfl (m6.blk B5 h12) rfl rfl B6 rfl (fin (t1 := Sl.nil) (t2 := Sl.nil) (t3 := Sl.nil) (Mod.refl _) FNet.none hv3 m5 m6)
  simp [W3.hc, hd, rd_blk bM3]
  refine rchecknet_spec RN T hN3.here ?_
  intro g4 v4 e4 hv4
  obtain ⟨s6, rfl⟩ := hv4.here.shape
  simp
  refine ef_store_box (W3.ext e4) rfl rfl (by simp) ?_
  intro g5 W5 m5
  have z4 := e4.size
  have z5 := m5.size
  have hE5 : Mod (fun j => j = W) g3 g5 := (e4.mono (fun _ _ h => h.elim)).trans m5
  have b15 := hE5.blk b13 (by omega)
  have b25 := hE5.blk b23 (by omega)
  have bM5 := hE5.blk bM3 (by omega)
  have eW : Ext g1 g5 := (e13.trans e4).toExt m5 hW
  have hv5 : FWr g3.size g5 (netW N) (.agg #[s6.v, .int .i64 (netW N).2]) := hv4.step m5 (fun j hj => by omega)
  have fin2 : ∀ {g6 g7 : Heap} {t1 t2 t3 : Sl} {v : Value}, FNet lo g5 t1 t2 t3 (parseEnd N (doneW bs at' bad)).1 → FWr lo g5 (parseEnd N (doneW bs at' bad)).2 v → Mod (fun j => j = B1) g5 g6 → Mod (fun j => j = B2) g6 g7 →
      R (.tuple #[netV t1 t2 t3, v]) g7 := by
    intro g6 g7 t1 t2 t3 v fn fw m6 m7
    have mm : Mod (fun j => j < lo) g5 g7 := (m6.mono (fun j _ hj => by omega)).trans (m7.mono (fun j _ hj => by omega))
    have mm' : Mod (fun j => j = p ∨ j = M ∨ j = B1 ∨ j = B2) g5 g7 := (m6.mono (fun j _ hj => by omega)).trans (m7.mono (fun j _ hj => by omega))
    exact hr g7 t1 t2 t3 _ (((e1.trans eW).mono (fun _ _ h => h.elim)).trans mm') (fn.step mm (fun _ h => h)) (fw.step mm (fun _ h => h))
  by_cases hn : (netW N).2 = 0
  rotate_left
  · have hpe : parseEnd N (doneW bs at' bad) = (N0, netW N) := by simp [parseEnd, hd, hn]
    rw [hpe] at fin2
    simp [W5.hc, hn, rd_blk W5]
    refine ef_store_box b15 rfl rfl (by simp) ?_
    intro g6 B6 m6
    have W6 := m6.blk W5 (by omega)
    simp [rd_blk W6]
    refine ef_store_box (m6.blk b25 (by omega)) rfl rfl (by simp) ?_
    intro g7 B7 m7
    simp
    exact resP_xx rfl (m7.blk B6 h12) rfl rfl B7 rfl (fin2 (t1 := Sl.nil) (t2 := Sl.nil) (t3 := Sl.nil) FNet.none (hv5.mono (by omega)) m6 m7)
  · have hpe : parseEnd N (doneW bs at' bad) = (N, wOK) := by simp [parseEnd, hd, hn]
    rw [hpe] at fin2
    simp [W5.hc, hn, rd_blk bM5]
    refine ef_store_box b15 rfl rfl (by simp) ?_
    intro g6 B6 m6
    simp
    refine ef_store_box (m6.blk b25 (by omega)) rfl rfl (by simp) ?_
    intro g7 B7 m7
    simp
    exact resP_xx rfl (m7.blk B6 h12) rfl rfl B7 rfl (fin2 (t1 := s2) (t2 := s3) (t3 := s1) ((hN.ext e1).ext eW) FWr.ok m6 m7)
end
end Go.Rm

/- Nets in bytes: the document's Parse: arcs, vertices, tables. -/
set_option linter.unusedSimpArgs false
set_option linter.unusedVariables false
namespace Go.Rm
section
variable {Y : Sys} {h h' : Heap}

def DpI3 (p B1 B2 M na lo : Nat) (s1 s2 : Sl) (bs : List Nat) (s : Sl) (st : List Tri × Nat × Int) (h0 : Heap) (e : List Value) (h' : Heap) : Prop :=
  ∃ (i : Nat) (s3 q : Sl) (v0 v5 v6 v8 v9 v10 v11 v13 v14 v15 v16 v17 v18 v19 v20 v21 v22 v23 v24 : Value), e = [v0, .pointer (some ⟨B1, 0, none⟩), .pointer (some ⟨B2, 0, none⟩), .pointer (some ⟨p, 0, none⟩), .pointer (some ⟨M, 0, none⟩), v5, v6, .int .i64 na, v8, v9, v10, v11, .int .i64 i, v13, v14, v15, v16, v17, v18, v19, v20, v21, v22, v23, v24] ∧ i ≤ na ∧ Blk h' M #[s2.v, s3.v, s1.v] ∧ Own h' 3 s3 (cells3 ((itr (stA bs) i st).1.map triV)) ∧ RdD h' p bs (itr (stA bs) i st).2.1 (itr (stA bs) i st).2.2 s q ∧ NewO h0.size s3 ∧ Mod (fun j => j = p ∨ j = M) h0 h' ∧ ((itr (stA bs) i st).2.2 ≠ 0 → lo ≤ q.b)

theorem dp_arcs (D : DocRd Y) (RN : RefNet Y) (T : RefCk Y) {p B1 B2 M na lo : Nat} {s1 s2 s q : Sl} {bs : List Nat} {st : List Tri × Nat × Int} {vs : List Tri} {ts : List Tab} (hna : na ≤ 16384) (h0 : st.1 = []) (r7 : RdD h p bs st.2.1 st.2.2 s q) (hlo : lo ≤ h.size) (hq : st.2.2 ≠ 0 → lo ≤ q.b)
    (b1 : Blk h B1 #[.slice none 0 0, .slice none 0 0, .slice none 0 0]) (b2 : Blk h B2 #[.slice none 0 0, .int .i64 0]) (M7 : Blk h M #[s2.v, .slice none 0 0, s1.v]) (hp : p < lo) (h1 : B1 < lo) (h2 : B2 < lo) (hM : M < lo) (h12 : B1 ≠ B2) (hpM : p ≠ M) (h1p : B1 ≠ p) (h2p : B2 ≠ p) (h1M : B1 ≠ M) (h2M : B2 ≠ M)
    (hsb : bs ≠ [] → s.b < lo ∧ s.b ≠ M) (hV : Fresh lo (fun h => Row3 h s2 vs) h) (hT : Fresh lo (fun h => RowT h s1 ts) h) {R : Value → Heap → Prop}
    (hr : ∀ h' t1 t2 t3 v, Mod (fun j => j = p ∨ j = M ∨ j = B1 ∨ j = B2) h h' → FNet lo h' t1 t2 t3 (parseEnd ⟨vs, (itr (stA bs) na st).1, ts⟩ (doneW bs (itr (stA bs) na st).2.1 (itr (stA bs) na st).2.2)).1 → FWr lo h' (parseEnd ⟨vs, (itr (stA bs) na st).1, ts⟩ (doneW bs (itr (stA bs) na st).2.1 (itr (stA bs) na st).2.2)).2 v → R (.tuple #[netV t1 t2 t3, v]) h')
    (v0 v5 v6 v8 v9 v10 v11 v12 v13 v14 v15 v16 v17 v18 v19 v20 v21 v22 v23 v24 : Value) : Stmt.wp Y S_rref6_Parse.body.rest.rest.rest.rest.rest.rest.rest.rest.rest.rest.rest (resP S_rref6_Parse.res R) (fun _ _ _ => False) (resP S_rref6_Parse.res R)
      [v0, .pointer (some ⟨B1, 0, none⟩), .pointer (some ⟨B2, 0, none⟩), .pointer (some ⟨p, 0, none⟩), .pointer (some ⟨M, 0, none⟩), v5, v6, .int .i64 na, v8, v9, v10, v11, v12, v13, v14, v15, v16, v17, v18, v19, v20, v21, v22, v23, v24] h := by
  simp [S_rref6_Parse, Stmt.rest]
  have lM := M7.lt
  refine wp_loop' (DpI3 p B1 B2 M na lo s1 s2 bs s st h) (fun e _ => na - argI e 12) ⟨0, Sl.nil, q, _, _, _, _, _, _, _, _, _, _, _, _, _, _, _, _, _, _, _, rfl, by omega, M7, by simpa [itr, h0, cells3] using Own.nil, r7, .inl rfl, Mod.refl _, hq⟩ ?_
  rintro e h8 ⟨i, s3, q8, v0, v5, v6, v8, v9, v10, v11, v13, v14, v15, v16, v17, v18, v19, v20, v21, v22, v23, v24, rfl, hi, M8, o8, r8, hs3, m8, hq8⟩
  have b18 := m8.blk b1 (by omega)
  have b28 := m8.blk b2 (by omega)
  have len := itrA_len (bs := bs) (st := st) h0 (n := i)
  have n8 := o8.n3
  simp at n8
  have hs3' : s3.nl = false → h.size ≤ s3.b := fun hn => hs3.resolve_left (by rw [hn]; simp)
  have l3 : s3.nl = false → s3.b < h8.size := fun hn => o8.lt hn
  have z8 := m8.size
  have tail : itr (stA bs) na st = itr (stA bs) i st → ∀ (v0 v5 v6 v7 v8 v9 v10 v11 v12 v13 v14 v15 v16 v17 v18 v19 v20 v21 v22 v23 v24 : Value), Stmt.wp Y S_rref6_Parse.body.rest.rest.rest.rest.rest.rest.rest.rest.rest.rest.rest.rest (resP S_rref6_Parse.res R) (fun _ _ _ => False) (resP S_rref6_Parse.res R)
      [v0, .pointer (some ⟨B1, 0, none⟩), .pointer (some ⟨B2, 0, none⟩), .pointer (some ⟨p, 0, none⟩), .pointer (some ⟨M, 0, none⟩), v5, v6, v7, v8, v9, v10, v11, v12, v13, v14, v15, v16, v17, v18, v19, v20, v21, v22, v23, v24] h8 := by
    intro hend
    rw [hend] at hr
    refine dp_done D RN T r8 (by omega) hq8 b18 b28 M8 h1 h2 hM h12 (N := ⟨vs, (itr (stA bs) i st).1, ts⟩) ?_ ?_
    · intro g m
      have mm : Mod (fun j => j < lo) h g := (m8.mono (fun j _ hj => by omega)).trans m
      exact ⟨hV g mm, (o8.frow3 (hs3.imp id (fun q => by omega))) g m, hT g mm⟩
    · intro g t1 t2 t3 v m fn fw
      exact hr g t1 t2 t3 v ((m8.mono (fun j _ hj => by omega)).trans m) fn fw
  simp only [S_rref6_Parse, Stmt.rest] at tail
  by_cases c : i < na
  rotate_left
  · have c' : ¬ (i : Int) < na := by omega
    have tt := tail (by rw [show i = na by omega]) v0 v5 v6 (.int .i64 na) v8 v9 v10 v11 (.int .i64 i) v13 v14 v15 v16 v17 v18 v19 v20 v21 (.bool false) v23 v24
    simp at tt
    simp [c']
    exact tt
  have c' : (i : Int) < na := by omega
  by_cases hb : (itr (stA bs) i st).2.2 = 0
  rotate_left
  · have tt := tail (itrA_stuck hb hi) v0 v5 v6 (.int .i64 na) v8 v9 v10 v11 (.int .i64 i) v13 v14 v15 v16 v17 v18 v19 v20 v21 (.bool false) v23 v24
    simp at tt
    simp [c', r8.blk.hc, hb]
    exact tt
  clear tail
  have hstep : itr (stA bs) (i + 1) st = stA bs (itr (stA bs) i st) := rfl
  rw [stA_go hb] at hstep
  generalize itr (stA bs) i st = x at *
  simp [c', r8.blk.hc, hb]
  refine duint_spec D (most := 16384) r8 (by omega) ?_
  intro h10 q10 m10 r10 g10
  have bF : (rdU bs x.2.1 x.2.2 16384).1 ≤ 16384 := rdU_le
  have w1 : IntKind.i64.wrap ((rdU bs x.2.1 x.2.2 16384).1 : Int) = ((rdU bs x.2.1 x.2.2 16384).1 : Int) := i64_wrap (by omega)
  simp [w1]
  refine duint_spec D (most := 16384) r10 (by omega) ?_
  intro h11 q11 m11 r11 g11
  simp only at hstep
  generalize rdU bs x.2.1 x.2.2 16384 = f at *
  have bT : (rdU bs f.2.1 f.2.2 16384).1 ≤ 16384 := rdU_le
  have w2 : IntKind.i64.wrap ((rdU bs f.2.1 f.2.2 16384).1 : Int) = ((rdU bs f.2.1 f.2.2 16384).1 : Int) := i64_wrap (by omega)
  have M11 := m11.blk (m10.blk M8 (by omega)) (by omega)
  simp [w2, M11.hc]
  refine dcost_spec D r11 ?_
  intro h12 q12 m12 r12 g12
  generalize rdU bs f.2.1 f.2.2 16384 = g at *
  have M12 := m12.blk M11 (by omega)
  simp [M12.hc, sem_build_ints3, ef_bslice3]
  intro t
  generalize rdU bs g.2.1 g.2.2 2147483649 = k at *
  have z10 := m10.size
  have z11 := m11.size
  have z12 := m12.size
  have hq12 : k.2.2 ≠ 0 → h8.size ≤ q12.b := by
    intro hk
    rcases g12 hk with ⟨e1, e2⟩ | e
    · rw [e2]
      rcases g11 e1 with ⟨e1, e2⟩ | e
      · rw [e2]
        rcases g10 e1 with ⟨e1, e2⟩ | e
        · exact absurd hb e1
        · exact e
      · omega
    · omega
  have lq12 : k.2.2 ≠ 0 → q12.b < h12.size := fun hk => (r12.parts hk).1.lt
  have o12 := (((o8).mod m10 (fun hn => by have := hs3' hn; omega)).mod m11 (fun hn => by have := hs3' hn; omega)).mod m12 (fun hn => by have := hs3' hn; omega)
  have e13 : Ext h12 (h12.push (.cells #[.int .i64 f.1, .int .i64 g.1, .int .i64 (costU k.1)] t)) := Mod.push
  have z13 := e13.size
  have M13 := M12.ext e13
  refine ⟨M13.hc.trans rfl, ?_⟩
  refine ef_append3 rfl (o12.ext' e13) Blk.new rfl rfl rfl (by omega) (by omega) ?_
  intro s' h14 o14 m14 hs14
  have z14 := m14.size
  have M14 := m14.blk M13 (fun hq => by have := hs3' hq.1; omega)
  have w4 : IntKind.i64.wrap ((i : Int) + 1) = (i : Int) + 1 := i64_wrap (by omega)
  have hs' : s'.nl = false → h.size ≤ s'.b := by
    intro hq
    rcases hs14 with ⟨q1, q2⟩ | ⟨q1, q2⟩
    · rw [q1]; exact hs3' (by rw [← q2]; exact hq)
    · omega
  simp
  refine stB M14 (by simp) ?_
  intro h15 M15 m15
  simp [w4]
  have r15 := ((r12.ext e13).other m14 (fun hq => by have := hs3' hq.1; omega) (fun hn hq => by have := hs3' hq.1; have := hsb hn; omega) (fun hk hq => by have := hq12 hk; have := l3 hq.1; omega)).other m15 (by omega) (fun hn => (hsb hn).2) (fun hk => by have := hq12 hk; omega)
  have o15 := o14.mod m15 (fun hq => by have := hs' hq; omega)
  have hN : NewO h.size s' := by
    cases hq : s'.nl with
    | true => exact .inl hq
    | false => exact .inr (hs' hq)
  have mm : Mod (fun j => j = p ∨ j = M) h h15 := by
    have q1 : Mod (fun j => j = p ∨ j = M ∨ (s3.nl = false ∧ j = s3.b)) h8 h15 :=
      (((((m10.mono (fun _ _ h => .inl h)).trans (m11.mono (fun _ _ h => .inl h))).trans (m12.mono (fun _ _ h => .inl h))).trans (e13.mono (fun _ _ h => h.elim))).trans (m14.mono (fun _ _ h => .inr (.inr h)))).trans (m15.mono (fun _ _ h => .inr (.inl h)))
    refine Mod.then m8 q1 ?_
    intro k hk hq
    rcases hq with hq | hq | hq
    · exact .inl hq
    · exact .inr hq
    · have := hs3' hq.1; omega
  refine ⟨⟨i + 1, s', q12, _, _, _, _, _, _, _, _, _, _, _, _, _, _, _, _, _, _, _, rfl, by omega, by simpa using M15, by rw [hstep]; simpa [triV] using o15, by rw [hstep]; exact r15, hN, mm, by rw [hstep]; exact fun hk => by have := hq12 hk; omega⟩, by simp [argI]; omega⟩

def DpI2 (p B1 B2 M nv na lo : Nat) (s1 : Sl) (bs : List Nat) (s : Sl) (st : (Int × Int × List Tri) × Nat × Int) (h0 : Heap) (e : List Value) (h' : Heap) : Prop :=
  ∃ (i : Nat) (s2 q : Sl) (x y : Int) (v0 v5 v8 v12 v13 v14 v15 v16 v17 v18 v19 v20 v21 v22 v23 v24 : Value), e = [v0, .pointer (some ⟨B1, 0, none⟩), .pointer (some ⟨B2, 0, none⟩), .pointer (some ⟨p, 0, none⟩), .pointer (some ⟨M, 0, none⟩), v5, .int .i64 nv, .int .i64 na, v8, .int .i64 x, .int .i64 y, .int .i64 i, v12, v13, v14, v15, v16, v17, v18, v19, v20, v21, v22, v23, v24] ∧ i ≤ nv ∧ x = (itr (stV bs) i st).1.1 ∧ y = (itr (stV bs) i st).1.2.1 ∧ Blk h' M #[s2.v, .slice none 0 0, s1.v] ∧ Own h' 3 s2 (cells3 ((itr (stV bs) i st).1.2.2.map triV)) ∧ RdD h' p bs (itr (stV bs) i st).2.1 (itr (stV bs) i st).2.2 s q ∧ NewO h0.size s2 ∧ Mod (fun j => j = p ∨ j = M) h0 h' ∧ ((itr (stV bs) i st).2.2 ≠ 0 → lo ≤ q.b)

theorem dp_verts (D : DocRd Y) (RN : RefNet Y) (T : RefCk Y) {p B1 B2 M nv na lo : Nat} {s1 s q : Sl} {bs : List Nat} {r0 : Nat × Int} {ts : List Tab} (hna : na ≤ 16384) (hnv : nv ≤ 4096) (r7 : RdD h p bs r0.1 r0.2 s q) (hlo : lo ≤ h.size) (hq : r0.2 ≠ 0 → lo ≤ q.b)
    (b1 : Blk h B1 #[.slice none 0 0, .slice none 0 0, .slice none 0 0]) (b2 : Blk h B2 #[.slice none 0 0, .int .i64 0]) (M7 : Blk h M #[.slice none 0 0, .slice none 0 0, s1.v]) (hp : p < lo) (h1 : B1 < lo) (h2 : B2 < lo) (hM : M < lo) (h12 : B1 ≠ B2) (hpM : p ≠ M) (h1p : B1 ≠ p) (h2p : B2 ≠ p) (h1M : B1 ≠ M) (h2M : B2 ≠ M)
    (hsb : bs ≠ [] → s.b < lo ∧ s.b ≠ M) (hT : Fresh lo (fun h => RowT h s1 ts) h) {R : Value → Heap → Prop}
    (hr : ∀ h' t1 t2 t3 v, Mod (fun j => j = p ∨ j = M ∨ j = B1 ∨ j = B2) h h' → FNet lo h' t1 t2 t3 (parseEnd ⟨(itr (stV bs) nv ((0, 0, []), r0)).1.2.2, (itr (stA bs) na ([], (itr (stV bs) nv ((0, 0, []), r0)).2)).1, ts⟩ (doneW bs (itr (stA bs) na ([], (itr (stV bs) nv ((0, 0, []), r0)).2)).2.1 (itr (stA bs) na ([], (itr (stV bs) nv ((0, 0, []), r0)).2)).2.2)).1 → FWr lo h' (parseEnd ⟨(itr (stV bs) nv ((0, 0, []), r0)).1.2.2, (itr (stA bs) na ([], (itr (stV bs) nv ((0, 0, []), r0)).2)).1, ts⟩ (doneW bs (itr (stA bs) na ([], (itr (stV bs) nv ((0, 0, []), r0)).2)).2.1 (itr (stA bs) na ([], (itr (stV bs) nv ((0, 0, []), r0)).2)).2.2)).2 v → R (.tuple #[netV t1 t2 t3, v]) h')
    (v0 v5 v8 v9 v10 v11 v12 v13 v14 v15 v16 v17 v18 v19 v20 v21 v22 v23 v24 : Value) : Stmt.wp Y S_rref6_Parse.body.rest.rest.rest.rest.rest.rest.rest.rest (resP S_rref6_Parse.res R) (fun _ _ _ => False) (resP S_rref6_Parse.res R)
      [v0, .pointer (some ⟨B1, 0, none⟩), .pointer (some ⟨B2, 0, none⟩), .pointer (some ⟨p, 0, none⟩), .pointer (some ⟨M, 0, none⟩), v5, .int .i64 nv, .int .i64 na, v8, v9, v10, v11, v12, v13, v14, v15, v16, v17, v18, v19, v20, v21, v22, v23, v24] h := by
  simp [S_rref6_Parse, Stmt.rest]
  have lM := M7.lt
  refine wp_loop' (DpI2 p B1 B2 M nv na lo s1 bs s ((0, 0, []), r0) h) (fun e _ => nv - argI e 11) ⟨0, Sl.nil, q, 0, 0, _, _, _, _, _, _, _, _, _, _, _, _, _, _, _, _, rfl, by omega, rfl, rfl, M7, Own.nil, r7, .inl rfl, Mod.refl _, hq⟩ ?_
  rintro e h8 ⟨i, s2, q8, x, y, v0, v5, v8, v12, v13, v14, v15, v16, v17, v18, v19, v20, v21, v22, v23, v24, rfl, hi, hx, hy, M8, o8, r8, hs2, m8, hq8⟩
  have b18 := m8.blk b1 (by omega)
  have b28 := m8.blk b2 (by omega)
  have ab := itrV_abs (bs := bs) (l := []) (r := r0) (n := i)
  rw [← hx, ← hy] at ab
  have len := itrV_len (bs := bs) (st := ((0, 0, []), r0)) rfl (n := i)
  have n8 := o8.n3
  simp at n8
  have hs2' : s2.nl = false → h.size ≤ s2.b := fun hn => hs2.resolve_left (by rw [hn]; simp)
  have l2 : s2.nl = false → s2.b < h8.size := fun hn => o8.lt hn
  have z8 := m8.size
  have tail : itr (stV bs) nv ((0, 0, []), r0) = itr (stV bs) i ((0, 0, []), r0) → ∀ (v0 v5 v6 v8 v9 v10 v11 v12 v13 v14 v15 v16 v17 v18 v19 v20 v21 v22 v23 v24 : Value), Stmt.wp Y S_rref6_Parse.body.rest.rest.rest.rest.rest.rest.rest.rest.rest.rest.rest (resP S_rref6_Parse.res R) (fun _ _ _ => False) (resP S_rref6_Parse.res R)
      [v0, .pointer (some ⟨B1, 0, none⟩), .pointer (some ⟨B2, 0, none⟩), .pointer (some ⟨p, 0, none⟩), .pointer (some ⟨M, 0, none⟩), v5, v6, .int .i64 na, v8, v9, v10, v11, v12, v13, v14, v15, v16, v17, v18, v19, v20, v21, v22, v23, v24] h8 := by
    intro hend v0 v5 v6 v8 v9 v10 v11 v12 v13 v14 v15 v16 v17 v18 v19 v20 v21 v22 v23 v24
    rw [hend] at hr
    refine dp_arcs D RN T (st := ([], (itr (stV bs) i ((0, 0, []), r0)).2)) (vs := (itr (stV bs) i ((0, 0, []), r0)).1.2.2) (ts := ts) hna rfl r8 (by omega) hq8 b18 b28 M8 hp h1 h2 hM h12 hpM h1p h2p h1M h2M hsb (o8.frow3 (hs2.imp id (fun q => by omega))) ?_ ?_ v0 v5 v6 v8 v9 v10 v11 v12 v13 v14 v15 v16 v17 v18 v19 v20 v21 v22 v23 v24
    · exact hT.step m8 (fun j hj => by omega)
    · intro g t1 t2 t3 v m fn fw
      exact hr g t1 t2 t3 v ((m8.mono (fun j _ hj => by omega)).trans m) fn fw
  simp only [S_rref6_Parse, Stmt.rest] at tail
  by_cases c : i < nv
  rotate_left
  · have c' : ¬ (i : Int) < nv := by omega
    have tt := tail (by rw [show i = nv by omega]) v0 v5 (.int .i64 nv) v8 (.int .i64 x) (.int .i64 y) (.int .i64 i) v12 v13 v14 v15 v16 v17 v18 v19 v20 (.bool false) v22 v23 v24
    simp at tt
    simp [c']
    exact tt
  have c' : (i : Int) < nv := by omega
  by_cases hb : (itr (stV bs) i ((0, 0, []), r0)).2.2 = 0
  rotate_left
  · have tt := tail (itrV_stuck hb hi) v0 v5 (.int .i64 nv) v8 (.int .i64 x) (.int .i64 y) (.int .i64 i) v12 v13 v14 v15 v16 v17 v18 v19 v20 (.bool false) v22 v23 v24
    simp at tt
    simp [c', r8.blk.hc, hb]
    exact tt
  clear tail
  have hstep : itr (stV bs) (i + 1) ((0, 0, []), r0) = stV bs (itr (stV bs) i ((0, 0, []), r0)) := rfl
  rw [stV_go hb] at hstep
  generalize itr (stV bs) i ((0, 0, []), r0) = st at *
  rw [← hx, ← hy] at hstep
  simp [c', r8.blk.hc, hb]
  refine dint_spec D (most := 2097152) r8 (by omega) ?_
  intro h10 q10 m10 r10 g10
  have a1 := rdI_abs (bs := bs) (at' := st.2.1) (bad := st.2.2) (most := 2097152)
  simp only at hstep
  generalize rdI bs st.2.1 st.2.2 2097152 = X at *
  obtain ⟨dx, pX⟩ := X
  simp only at *
  have wx : IntKind.i64.wrap (x + dx) = x + dx := i64_wrap (by omega)
  simp [wx]
  refine dint_spec D (most := 2097152) r10 (by omega) ?_
  intro h11 q11 m11 r11 g11
  have a2 := rdI_abs (bs := bs) (at' := pX.1) (bad := pX.2) (most := 2097152)
  generalize rdI bs pX.1 pX.2 2097152 = X at *
  obtain ⟨dy, pY⟩ := X
  simp only at *
  have wy : IntKind.i64.wrap (y + dy) = y + dy := i64_wrap (by omega)
  have M11 := m11.blk (m10.blk M8 (by omega)) (by omega)
  simp [wy, M11.hc]
  refine duint_spec D (most := 16384) r11 (by omega) ?_
  intro h12 q12 m12 r12 g12
  have bT : (rdU bs pY.1 pY.2 16384).1 ≤ 16384 := rdU_le
  generalize rdU bs pY.1 pY.2 16384 = X at *
  obtain ⟨tt, pT⟩ := X
  simp only at *
  have wt : IntKind.i64.wrap (tt : Int) = (tt : Int) := i64_wrap (by omega)
  have M12 := m12.blk M11 (by omega)
  simp [wt, M12.hc, sem_build_ints3, ef_bslice3]
  intro t
  have z10 := m10.size
  have z11 := m11.size
  have z12 := m12.size
  have hq12 : pT.2 ≠ 0 → h8.size ≤ q12.b := by
    intro hk
    rcases g12 hk with ⟨e1, e2⟩ | e
    · rw [e2]
      rcases g11 e1 with ⟨e1, e2⟩ | e
      · rw [e2]
        rcases g10 e1 with ⟨e1, e2⟩ | e
        · exact absurd hb e1
        · exact e
      · omega
    · omega
  have lq12 : pT.2 ≠ 0 → q12.b < h12.size := fun hk => (r12.parts hk).1.lt
  have o12 := ((o8.mod m10 (fun hn => by have := hs2' hn; omega)).mod m11 (fun hn => by have := hs2' hn; omega)).mod m12 (fun hn => by have := hs2' hn; omega)
  have e13 : Ext h12 (h12.push (.cells #[.int .i64 (x + dx), .int .i64 (y + dy), .int .i64 tt] t)) := Mod.push
  have z13 := e13.size
  have M13 := M12.ext e13
  refine ⟨M13.hc.trans rfl, ?_⟩
  refine ef_append3 rfl (o12.ext' e13) Blk.new rfl rfl rfl (by omega) (by omega) ?_
  intro s' h14 o14 m14 hs14
  have z14 := m14.size
  have M14 := m14.blk M13 (fun hq => by have := hs2' hq.1; omega)
  have w4 : IntKind.i64.wrap ((i : Int) + 1) = (i : Int) + 1 := i64_wrap (by omega)
  have hs' : s'.nl = false → h.size ≤ s'.b := by
    intro hq
    rcases hs14 with ⟨q1, q2⟩ | ⟨q1, q2⟩
    · rw [q1]; exact hs2' (by rw [← q2]; exact hq)
    · omega
  simp
  refine stB M14 (by simp) ?_
  intro h15 M15 m15
  simp [w4]
  have r15 := ((r12.ext e13).other m14 (fun hq => by have := hs2' hq.1; omega) (fun hn hq => by have := hs2' hq.1; have := hsb hn; omega) (fun hk hq => by have := hq12 hk; have := l2 hq.1; omega)).other m15 (by omega) (fun hn => (hsb hn).2) (fun hk => by have := hq12 hk; omega)
  have o15 := o14.mod m15 (fun hq => by have := hs' hq; omega)
  have hN : NewO h.size s' := by
    cases hq : s'.nl with
    | true => exact .inl hq
    | false => exact .inr (hs' hq)
  have mm : Mod (fun j => j = p ∨ j = M) h h15 := by
    have q1 : Mod (fun j => j = p ∨ j = M ∨ (s2.nl = false ∧ j = s2.b)) h8 h15 :=
      (((((m10.mono (fun _ _ h => .inl h)).trans (m11.mono (fun _ _ h => .inl h))).trans (m12.mono (fun _ _ h => .inl h))).trans (e13.mono (fun _ _ h => h.elim))).trans (m14.mono (fun _ _ h => .inr (.inr h)))).trans (m15.mono (fun _ _ h => .inr (.inl h)))
    refine Mod.then m8 q1 ?_
    intro k hk hq
    rcases hq with hq | hq | hq
    · exact .inl hq
    · exact .inr hq
    · have := hs2' hq.1; omega
  refine ⟨⟨i + 1, s', q12, x + dx, y + dy, _, _, _, _, _, _, _, _, _, _, _, _, _, _, _, _, rfl, by omega, by rw [hstep], by rw [hstep], by simpa using M15, by rw [hstep]; simpa [triV] using o15, by rw [hstep]; exact r15, hN, mm, by rw [hstep]; exact fun hk => by have := hq12 hk; omega⟩, by simp [argI]; omega⟩
end
end Go.Rm

/- Nets in bytes: the document's Parse. -/
set_option linter.unusedSimpArgs false
set_option linter.unusedVariables false
namespace Go.Rm
section
variable {Y : Sys} {h h' : Heap}

def DpI1 (p B1 B2 M nt nv na lo : Nat) (bs : List Nat) (s : Sl) (st : List Tab × Nat × Int) (h0 : Heap) (e : List Value) (h' : Heap) : Prop :=
  ∃ (i : Nat) (s1 q : Sl) (P : List (Tab × Sl)) (v0 v9 v10 v11 v12 v13 v14 v15 v16 v17 v18 v19 v20 v21 v22 v23 v24 : Value), e = [v0, .pointer (some ⟨B1, 0, none⟩), .pointer (some ⟨B2, 0, none⟩), .pointer (some ⟨p, 0, none⟩), .pointer (some ⟨M, 0, none⟩), .int .i64 nt, .int .i64 nv, .int .i64 na, .int .i64 i, v9, v10, v11, v12, v13, v14, v15, v16, v17, v18, v19, v20, v21, v22, v23, v24] ∧ i ≤ nt ∧ Blk h' M #[.slice none 0 0, .slice none 0 0, s1.v] ∧ Own h' 3 s1 (cells3 (P.map tabP)) ∧ P.map Prod.fst = (itr (stT bs) i st).1 ∧ TabsOK h0.size h' s1 P ∧ RdD h' p bs (itr (stT bs) i st).2.1 (itr (stT bs) i st).2.2 s q ∧ NewO h0.size s1 ∧ Mod (fun j => j = p ∨ j = M) h0 h' ∧ ((itr (stT bs) i st).2.2 ≠ 0 → lo ≤ q.b)

theorem dp_types (D : DocRd Y) (RN : RefNet Y) (T : RefCk Y) {p B1 B2 M nt nv na lo : Nat} {s q : Sl} {bs : List Nat} {st : List Tab × Nat × Int} (hna : na ≤ 16384) (hnv : nv ≤ 4096) (hnt : nt ≤ 256) (h0 : st.1 = []) (r7 : RdD h p bs st.2.1 st.2.2 s q) (hlo : lo ≤ h.size) (hq : st.2.2 ≠ 0 → lo ≤ q.b)
    (b1 : Blk h B1 #[.slice none 0 0, .slice none 0 0, .slice none 0 0]) (b2 : Blk h B2 #[.slice none 0 0, .int .i64 0]) (M7 : Blk h M #[.slice none 0 0, .slice none 0 0, .slice none 0 0]) (hp : p < lo) (h1 : B1 < lo) (h2 : B2 < lo) (hM : M < lo) (h12 : B1 ≠ B2) (hpM : p ≠ M) (h1p : B1 ≠ p) (h2p : B2 ≠ p) (h1M : B1 ≠ M) (h2M : B2 ≠ M)
    (hsb : bs ≠ [] → s.b < lo ∧ s.b ≠ M) {res : NetD × Wr} (hres : res = (let T := itr (stT bs) nt st; let V := itr (stV bs) nv ((0, 0, []), T.2); let A := itr (stA bs) na ([], V.2); parseEnd ⟨V.1.2.2, A.1, T.1⟩ (doneW bs A.2.1 A.2.2))) {R : Value → Heap → Prop}
    (hr : ∀ h' t1 t2 t3 v, Mod (fun j => j = p ∨ j = M ∨ j = B1 ∨ j = B2) h h' → FNet lo h' t1 t2 t3 res.1 → FWr lo h' res.2 v → R (.tuple #[netV t1 t2 t3, v]) h')
    (v0 v8 v9 v10 v11 v12 v13 v14 v15 v16 v17 v18 v19 v20 v21 v22 v23 v24 : Value) : Stmt.wp Y S_rref6_Parse.body.rest.rest.rest.rest.rest.rest.rest (resP S_rref6_Parse.res R) (fun _ _ _ => False) (resP S_rref6_Parse.res R)
      [v0, .pointer (some ⟨B1, 0, none⟩), .pointer (some ⟨B2, 0, none⟩), .pointer (some ⟨p, 0, none⟩), .pointer (some ⟨M, 0, none⟩), .int .i64 nt, .int .i64 nv, .int .i64 na, v8, v9, v10, v11, v12, v13, v14, v15, v16, v17, v18, v19, v20, v21, v22, v23, v24] h := by
  simp [S_rref6_Parse, Stmt.rest]
  have lM := M7.lt
  refine wp_loop' (DpI1 p B1 B2 M nt nv na lo bs s st h) (fun e _ => nt - argI e 8) ⟨0, Sl.nil, q, [], _, _, _, _, _, _, _, _, _, _, _, _, _, _, _, _, _, rfl, by omega, M7, Own.nil, by simp [itr, h0], by intro q hq; simp at hq, r7, .inl rfl, Mod.refl _, hq⟩ ?_
  rintro e h8 ⟨i, s1, q8, P, v0, v9, v10, v11, v12, v13, v14, v15, v16, v17, v18, v19, v20, v21, v22, v23, v24, rfl, hi, M8, o8, hP, hT, r8, hs1, m8, hq8⟩
  have b18 := m8.blk b1 (by omega)
  have b28 := m8.blk b2 (by omega)
  have lenP : P.length ≤ nt := by
    have := itrT_len (bs := bs) (st := st) h0 (n := i)
    rw [← hP] at this
    simp at this
    omega
  have n8 := o8.n3
  simp at n8
  have hs1' : s1.nl = false → h.size ≤ s1.b := fun hn => hs1.resolve_left (by rw [hn]; simp)
  have l1 : s1.nl = false → s1.b < h8.size := fun hn => o8.lt hn
  have z8 := m8.size
  have tail : itr (stT bs) nt st = itr (stT bs) i st → ∀ (v0 v8 v9 v10 v11 v12 v13 v14 v15 v16 v17 v18 v19 v20 v21 v22 v23 v24 : Value), Stmt.wp Y S_rref6_Parse.body.rest.rest.rest.rest.rest.rest.rest.rest (resP S_rref6_Parse.res R) (fun _ _ _ => False) (resP S_rref6_Parse.res R)
      [v0, .pointer (some ⟨B1, 0, none⟩), .pointer (some ⟨B2, 0, none⟩), .pointer (some ⟨p, 0, none⟩), .pointer (some ⟨M, 0, none⟩), .int .i64 nt, .int .i64 nv, .int .i64 na, v8, v9, v10, v11, v12, v13, v14, v15, v16, v17, v18, v19, v20, v21, v22, v23, v24] h8 := by
    intro hend v0 v8 v9 v10 v11 v12 v13 v14 v15 v16 v17 v18 v19 v20 v21 v22 v23 v24
    rw [hend] at hres
    refine dp_verts D RN T (r0 := (itr (stT bs) i st).2) (ts := (itr (stT bs) i st).1) hna hnv r8 (by omega) hq8 b18 b28 M8 hp h1 h2 hM h12 hpM h1p h2p h1M h2M hsb ?_ ?_ v0 (.int .i64 nt) v8 v9 v10 v11 v12 v13 v14 v15 v16 v17 v18 v19 v20 v21 v22 v23 v24
    · exact (Own.frowT o8 hs1 hP hT).mono (by omega)
    · simp only at hres
      rw [← hres]
      intro g t1 t2 t3 v m fn fw
      exact hr g t1 t2 t3 v ((m8.mono (fun j _ hj => by omega)).trans m) fn fw
  simp only [S_rref6_Parse, Stmt.rest] at tail
  by_cases c : i < nt
  rotate_left
  · have c' : ¬ (i : Int) < nt := by omega
    have tt := tail (by rw [show i = nt by omega]) v0 (.int .i64 i) v9 v10 v11 v12 v13 v14 v15 v16 v17 v18 v19 (.bool false) v21 v22 v23 v24
    simp at tt
    simp [c']
    exact tt
  have c' : (i : Int) < nt := by omega
  by_cases hb : (itr (stT bs) i st).2.2 = 0
  rotate_left
  · have tt := tail (itrT_stuck hb hi) v0 (.int .i64 i) v9 v10 v11 v12 v13 v14 v15 v16 v17 v18 v19 (.bool false) v21 v22 v23 v24
    simp at tt
    simp [c', r8.blk.hc, hb]
    exact tt
  clear tail
  have hstep : itr (stT bs) (i + 1) st = stT bs (itr (stT bs) i st) := rfl
  rw [stT_go hb] at hstep
  generalize hst : itr (stT bs) i st = x at *
  rw [hb] at r8
  simp [c', r8.blk.hc, M8.hc]
  refine dtable_spec D r8 ?_
  intro h9 u q9 m9 r9 g9 o9 hu9 hl9
  have M9 := m9.blk M8 (by omega)
  simp [M9.hc, ef_bslice3]
  intro t
  generalize htt : rdT bs x.2.1 0 = tt at *
  have e10 : Ext h9 (h9.push (.cells #[.int .i64 tt.1.i, .int .i64 tt.1.o, u.v] t)) := Mod.push
  have M10 := M9.ext e10
  have z9 := m9.size
  have z10 := e10.size
  have o10 := (o8.mod m9 (fun hn => by have := hs1' hn; omega)).ext' e10
  have lq9 : tt.2.2 ≠ 0 → q9.b < h9.size := fun hk => (r9.parts hk).1.lt
  refine ⟨M10.hc.trans rfl, ?_⟩
  refine ef_append3 rfl o10 Blk.new rfl rfl (by simp) (by omega) (by omega) ?_
  intro s' h11 o11 m11 hs11
  have z11 := m11.size
  have M11 := m11.blk M10 (fun hq => by have := hs1' hq.1; omega)
  have w4 : IntKind.i64.wrap ((i : Int) + 1) = (i : Int) + 1 := i64_wrap (by omega)
  have hs' : s'.nl = false → h.size ≤ s'.b := by
    intro hq
    rcases hs11 with ⟨q1, q2⟩ | ⟨q1, q2⟩
    · rw [q1]; exact hs1' (by rw [← q2]; exact hq)
    · omega
  simp
  refine stB M11 (by simp) ?_
  intro h12 M12 m12
  have z12 := m12.size
  simp [w4]
  have r12 := ((r9.ext e10).other m11 (fun hq => by have := hs1' hq.1; omega) (fun hn hq => by have := hs1' hq.1; have := hsb hn; omega) (fun hk hq => by have := g9 hk; have := l1 hq.1; omega)).other m12 (by omega) (fun hn => (hsb hn).2) (fun hk => by have := g9 hk; omega)
  have o12 : Own h12 3 s' (cells3 ((P ++ [(tt.1, u)]).map tabP)) := by
    have := o11.mod m12 (fun hq => by have := hs' hq; omega)
    simpa [tabP] using this
  have unl : tt.1.cs ≠ [] → u.nl = false ∧ u.b < h9.size := fun hne => by
    obtain ⟨_, hb, _, hnl⟩ := o9.blk (i := 0) (by have := List.length_pos_iff.2 hne; simpa [ints64] using this)
    exact ⟨hnl, o9.lt hnl⟩
  have sne : ∀ k, k < h9.size → (s1.nl = false → k ≠ s1.b) → s'.nl = false → k ≠ s'.b := by
    intro k hk h1 hq
    rcases hs11 with ⟨q1, q2⟩ | ⟨q1, q2⟩
    · rw [q1]; exact h1 (by rw [← q2]; exact hq)
    · omega
  have hT12 : TabsOK h.size h12 s' (P ++ [(tt.1, u)]) := by
    intro q hq
    rcases List.mem_append.1 hq with g | g
    · obtain ⟨g1, g2, g3⟩ := hT q g
      refine ⟨((((g1.mod m9 (fun hn => by have := (g3 hn).1; omega)).ext e10).mod m11 (fun hn hq => (g3 hn).2.1 hq.1 hq.2)).mod m12 (fun hn => by have := (g3 hn).1; omega)), g2, fun hn => ⟨(g3 hn).1, ?_, by have := (g3 hn).2.2; omega⟩⟩
      exact sne _ (by have := (g3 hn).2.2; omega) (g3 hn).2.1
    · simp only [List.mem_singleton] at g
      subst g
      have ub : tt.1.cs ≠ [] → h8.size ≤ u.b := fun hne => hu9.resolve_left (by rw [(unl hne).1]; simp)
      refine ⟨((o9.row64.ext e10).mod m11 (fun hn hq => by have := ub hn; have := l1 hq.1; have := hq.2; omega)).mod m12 (fun hn => by have := ub hn; omega), hl9, fun hn => ⟨?_, ?_, ?_⟩⟩
      · have := ub hn; show h.size ≤ u.b; omega
      · exact sne u.b (unl hn).2 (fun hq => by have := ub hn; have := l1 hq; omega)
      · have := (unl hn).2; show u.b < h12.size; omega
  have hN : NewO h.size s' := by
    cases hq : s'.nl with
    | true => exact .inl hq
    | false => exact .inr (hs' hq)
  have mm : Mod (fun j => j = p ∨ j = M) h h12 := by
    have q1 : Mod (fun j => j = p ∨ j = M ∨ (s1.nl = false ∧ j = s1.b)) h8 h12 :=
      (((m9.mono (fun _ _ h => .inl h)).trans (e10.mono (fun _ _ h => h.elim))).trans (m11.mono (fun _ _ h => .inr (.inr h)))).trans (m12.mono (fun _ _ h => .inr (.inl h)))
    refine Mod.then m8 q1 ?_
    intro k hk hq
    rcases hq with hq | hq | hq
    · exact .inl hq
    · exact .inr hq
    · have := hs1' hq.1; omega
  refine ⟨⟨i + 1, s', q9, P ++ [(tt.1, u)], _, _, _, _, _, _, _, _, _, _, _, _, _, _, _, _, _, rfl, by omega, by simpa using M12, o12, by rw [hstep]; simp [hP], hT12, by rw [hstep]; exact r12, hN, mm, by rw [hstep]; exact fun hk => by have := g9 hk; omega⟩, by simp [argI]; omega⟩
end
end Go.Rm

/- Nets in bytes: the document's Parse, whole. -/
set_option linter.unusedSimpArgs false
set_option linter.unusedVariables false
namespace Go.Rm
section
variable {Y : Sys} {h h' : Heap}

theorem hdB_str : (⟨#[82, 78, 68, 49]⟩ : ByteArray) = strB hdB := rfl
theorem take_lt {bs : List Nat} {k : Nat} (h : ∀ x ∈ bs, x < 256) : ∀ x ∈ bs.take k, x < 256 := fun x hx => h x (List.mem_of_mem_take hx)
theorem drop_lt {bs : List Nat} {k : Nat} (h : ∀ x ∈ bs, x < 256) : ∀ x ∈ bs.drop k, x < 256 := fun x hx => h x (List.mem_of_mem_drop hx)

theorem RowB.slcHi {s : Sl} {bs : List Nat} {k : Nat} (r : RowB h s bs) (hk : k ≤ bs.length) : ∃ t : Sl, (∀ h', IOp.sem Y h' (.slc 1 false true) [s.v, .int .i64 k] = some t.v) ∧ RowB h t (bs.take k) ∧ t.sp = s.sp ∧ t.b = s.b ∧ t.n = k := by
  have hl := r.len
  refine ⟨{ s with n := k }, fun h' => ?_, r.take hk, rfl, rfl, rfl⟩
  have := sem_slc_hi (Y := Y) (h := h') (sz := 1) (k := .i64) (j := (k : Int)) r.ok (by omega) (by have := r.ok.le; omega)
  simpa using this
theorem RowB.slcLo {s : Sl} {bs : List Nat} {k : Nat} (r : RowB h s bs) (hk : k ≤ bs.length) : ∃ t : Sl, (∀ h', IOp.sem Y h' (.slc 1 true false) [s.v, .int .i64 k] = some t.v) ∧ RowB h t (bs.drop k) ∧ t.sp = s.sp ∧ t.b = s.b ∧ t.n = s.n - k := by
  have hl := r.len
  refine ⟨_, fun h' => ?_, r.drop hk, rfl, rfl, rfl⟩
  have := sem_slc_lo (Y := Y) (h := h') (sz := 1) (k := .i64) (j := (k : Int)) r.ok (by omega) (by omega)
  simpa using this
theorem RowB.slcMid {s : Sl} {bs : List Nat} {a e n : Nat} (r : RowB h s bs) (ha : a + n = e) (he : e ≤ bs.length) : ∃ t : Sl, (∀ h', IOp.sem Y h' (.slc 1 true true) [s.v, .int .i64 a, .int .i64 e] = some t.v) ∧ RowB h t ((bs.drop a).take n) ∧ t.sp = s.sp ∧ t.b = s.b ∧ t.n = n := by
  have hl := r.len
  refine ⟨_, fun h' => ?_, r.cut (by omega), rfl, rfl, rfl⟩
  have := sem_slc_both (Y := Y) (h := h') (sz := 1) (k := .i64) (k' := .i64) (i := (a : Int)) (j := (e : Int)) r.ok (by omega) (by omega) (by have := r.ok.le; omega)
  rw [this]
  have hea : e - a = n := by omega
  simp [hea]

theorem sem_build4r {z0 z1 z2 z3 : Value} {s : Sl} : IOp.sem Y h (.build #[z0, z1, z2, z3] [(0, 1), (1, 1), (2, 2)] [0]) [s.v] = some (.agg #[s.v, z1, z2, z3]) := by
  simp [IOp.sem, Instr.fill, cells_slv]

theorem dparse_spec (D : DocRd Y) (RN : RefNet Y) (T : RefCk Y) (HP : Y.Has F.rref6_Parse S_rref6_Parse) (HS : Y.Has F.rref6_SumOf S_rref6_SumOf) {s : Sl} {bs : List Nat} (r : RowB h s bs) (hsp : s.sp = none) (hsl : bs ≠ [] → s.b < h.size) (hbig : s.n ≤ 1000000) {R : Value → Heap → Prop}
    (hr : ∀ h' t1 t2 t3 v, Ext h h' → FNet h.size h' t1 t2 t3 (parseR bs).1 → FWr h.size h' (parseR bs).2 v → R (.tuple #[netV t1 t2 t3, v]) h') : CallP Y F.rref6_Parse [s.v] h R := by
  refine .of_has HP rfl ?_
  have hl := r.len
  have hlt := mem_lt r.lt
  simp [S_rref6_Parse, FnS.wp]
  refine ef_new_box ?_
  intro B1 g1 hB1 b11 e1
  simp
  refine ef_new_box ?_
  intro B2 g2 hB2 b2 e2
  have b1 := b11.ext e2
  have l1 := b11.lt
  have l2 := b2.lt
  have z1 := e1.size
  have z2 := e2.size
  have e02 := e1.trans e2
  have r2 := r.ext e02
  have fin : ∀ {g3 g4 g5 : Heap} {e : Int} {v : Value}, Ext g2 g3 → parseR bs = (N0, atW wFile 0 e) → FWr g2.size g3 (atW wFile 0 e) v → Mod (fun j => j = B1) g3 g4 → Mod (fun j => j = B2) g4 g5 → R (.tuple #[netV Sl.nil Sl.nil Sl.nil, v]) g5 := by
    intro g3 g4 g5 e v e3 hp fw m4 m5
    rw [hp] at hr
    have q1 : Mod (fun j => j = B1 ∨ j = B2) g3 g5 := (m4.mono (fun _ _ h => .inl h)).trans (m5.mono (fun _ _ h => .inr h))
    have q2 : Mod (fun j => j = B1 ∨ j = B2) h g5 := ((e02.trans e3).mono (fun _ _ h => h.elim)).trans q1
    exact hr g5 _ _ _ v (q2.mono (fun j hj hq => by omega)) FNet.none ((fw.step q1 (fun j hj => by omega)).mono (by omega))
  by_cases c1 : 65536 < s.n
  · have c1' : (65536 : Int) < s.n := by omega
    have hp : parseR bs = (N0, atW wFile 0 4) := by unfold parseR; rw [if_pos (by omega)]
    simp [c1']
    refine rat_spec D.At ?_
    intro g3 v e3 hv
    obtain ⟨s5, rfl⟩ := hv.here.shape
    simp
    refine ef_store_box (b1.ext e3) rfl rfl (by simp) ?_
    intro g4 B4 m4
    simp
    refine ef_store_box (m4.blk (b2.ext e3) (by omega)) rfl rfl (by simp) ?_
    intro g5 B5 m5
    simp
    exact resP_xx rfl (m5.blk B4 (by omega)) rfl rfl B5 rfl (fin e3 hp (hv.mono (by omega)) m4 m5)
  have c1' : ¬ (65536 : Int) < s.n := by omega
  by_cases c2 : s.n < 8
  · have c2' : (s.n : Int) < 8 := by omega
    have hp : parseR bs = (N0, atW wFile 0 3) := by unfold parseR; rw [if_neg (by omega), if_pos (by omega)]
    simp [c1', c2']
    refine rat_spec D.At ?_
    intro g3 v e3 hv
    obtain ⟨s5, rfl⟩ := hv.here.shape
    simp
    refine ef_store_box (b1.ext e3) rfl rfl (by simp) ?_
    intro g4 B4 m4
    simp
    refine ef_store_box (m4.blk (b2.ext e3) (by omega)) rfl rfl (by simp) ?_
    intro g5 B5 m5
    simp
    exact resP_xx rfl (m5.blk B4 (by omega)) rfl rfl B5 rfl (fin e3 hp (hv.mono (by omega)) m4 m5)
  have c2' : ¬ (s.n : Int) < 8 := by omega
  obtain ⟨n, hn⟩ : ∃ n, n = s.n - 4 := ⟨_, rfl⟩
  have w1 : IntKind.i64.wrap ((s.n : Int) - 4) = (n : Int) := by rw [i64_wrap (by omega)]; omega
  obtain ⟨sa, qa, ra, spa, ba, na⟩ := r2.slcHi (Y := Y) (k := n) (by omega)
  obtain ⟨sb, qb, rb, spb, bb, nb⟩ := r2.slcLo (Y := Y) (k := n) (by omega)
  obtain ⟨sc, qc, rc, spc, bc, nc⟩ := r2.slcHi (Y := Y) (k := 4) (by omega)
  replace qc : ∀ h', IOp.sem Y h' (.slc 1 false true) [s.v, .int .i64 4] = some sc.v := qc
  have q3 := fun (g : Heap) (e : Ext g2 g) => sem_b2s (Y := Y) (rb.ext e) (by rw [spb]; exact hsp)
  have q4 := fun (g : Heap) (e : Ext g2 g) => sem_b2s (Y := Y) (rc.ext e) (by rw [spc]; exact hsp)
  simp [c1', c2', w1, qa, qb, q3]
  refine wrsum_spec HS ra (by omega) ?_
  intro g3 s3 e3 o3 nl3 hb3
  have z3 := e3.size
  have q5 := sem_b2s (Y := Y) (o3.rowB (lt_mem sumB_lt)) o3.sp
  have cd : n = bs.length - 4 := by omega
  by_cases c3 : sumB (bs.take n) = bs.drop n
  rotate_left
  · have hp : parseR bs = (N0, atW wFile 0 11) := by unfold parseR; rw [if_neg (by omega), if_neg (by omega), ← cd, if_pos c3]
    have c3' : (sumB (bs.take n) = bs.drop n) = False := by simp [c3]
    simp [q3, e3, q5, sb_ne sumB_lt (drop_lt hlt), c3']
    refine rat_spec D.At ?_
    intro g3' v e3' hv
    have e33 := e3.trans e3'; obtain ⟨s5, rfl⟩ := hv.here.shape
    simp
    refine ef_store_box (b1.ext e33) rfl rfl (by simp) ?_
    intro g4 B4 m4
    simp
    refine ef_store_box (m4.blk (b2.ext e33) (by omega)) rfl rfl (by simp) ?_
    intro g5 B5 m5
    simp
    exact resP_xx rfl (m5.blk B4 (by omega)) rfl rfl B5 rfl (fin e33 hp (hv.mono (by omega)) m4 m5)
  have c3' : (sumB (bs.take n) = bs.drop n) = True := by simp [c3]
  by_cases c4 : bs.take 4 = hdB
  rotate_left
  · have hp : parseR bs = (N0, atW wFile 0 2) := by unfold parseR; rw [if_neg (by omega), if_neg (by omega), ← cd, if_neg (by simp [c3]), if_pos c4]
    have c4' : (bs.take 4 = hdB) = False := by simp [c4]
    simp [q3, e3, q5, sb_ne sumB_lt (drop_lt hlt), c3', qc, q4, hdB_str, sb_ne (take_lt hlt) (show ∀ x ∈ hdB, x < 256 by decide), c4']
    refine rat_spec D.At ?_
    intro g3' v e3' hv
    have e33 := e3.trans e3'; obtain ⟨s5, rfl⟩ := hv.here.shape
    simp
    refine ef_store_box (b1.ext e33) rfl rfl (by simp) ?_
    intro g4 B4 m4
    simp
    refine ef_store_box (m4.blk (b2.ext e33) (by omega)) rfl rfl (by simp) ?_
    intro g5 B5 m5
    simp
    exact resP_xx rfl (m5.blk B4 (by omega)) rfl rfl B5 rfl (fin e33 hp (hv.mono (by omega)) m4 m5)
  have c4' : (bs.take 4 = hdB) = True := by simp [c4]
  obtain ⟨m, hm⟩ : ∃ m, m = s.n - 8 := ⟨_, rfl⟩
  obtain ⟨sm, qm, rm, spm, bm, nm⟩ := r2.slcMid (Y := Y) (a := 4) (e := n) (n := m) (by omega) (by omega)
  replace qm : ∀ h', IOp.sem Y h' (.slc 1 true true) [s.v, .int .i64 4, .int .i64 n] = some sm.v := qm
  have hp : parseR bs = parseIn ((bs.drop 4).take m) := by unfold parseR; rw [if_neg (by omega), if_neg (by omega), ← cd, if_neg (by simp [c3]), if_neg (by simp [c4]), show bs.length - 8 = m by omega]
  rw [hp] at hr
  clear hp fin
  simp [q3, e3, q5, sb_ne sumB_lt (drop_lt hlt), c3', qc, q4, hdB_str, sb_ne (take_lt hlt) (show ∀ x ∈ hdB, x < 256 by decide), c4', w1, qm, sem_build4r]
  refine ef_new_box ?_
  intro p g4 hp4 p4 e4
  simp
  refine ef_new_box ?_
  intro M g5 hM5 M5 e5
  have e25 := (e3.trans e4).trans e5
  have z4 := e4.size
  have z5 := e5.size
  have lp := p4.lt
  have lM := M5.lt
  generalize hib : (bs.drop 4).take m = ib at *
  have hbsne : ib ≠ [] → bs ≠ [] := by intro h1 h2; rw [h2] at hib; simp at hib; exact h1 hib
  have rd0 : RdD g5 p ib 0 0 sm Sl.nil := ⟨p4.ext e5, rm.ext e25, fun hn => by have := hsl (hbsne hn); omega, by omega, by have := rm.len; omega, fun _ => rfl, fun h => absurd rfl h⟩
  simp
  refine duint_spec D (most := 256) rd0 (by omega) ?_
  intro g6 q6 m6 r6 f6
  have bT : (rdU ib 0 0 256).1 ≤ 256 := rdU_le
  have w2 : IntKind.i64.wrap ((rdU ib 0 0 256).1 : Int) = ((rdU ib 0 0 256).1 : Int) := i64_wrap (by omega)
  simp [w2]
  refine duint_spec D (most := 4096) r6 (by omega) ?_
  intro g7 q7 m7 r7 f7
  unfold parseIn rdNet at hr
  simp only at hr
  generalize rdU ib 0 0 256 = kt at *
  have bV : (rdU ib kt.2.1 kt.2.2 4096).1 ≤ 4096 := rdU_le
  have w3 : IntKind.i64.wrap ((rdU ib kt.2.1 kt.2.2 4096).1 : Int) = ((rdU ib kt.2.1 kt.2.2 4096).1 : Int) := i64_wrap (by omega)
  simp [w3]
  refine duint_spec D (most := 16384) r7 (by omega) ?_
  intro g8 q8 m8 r8 f8
  generalize rdU ib kt.2.1 kt.2.2 4096 = kv at *
  have bA : (rdU ib kv.2.1 kv.2.2 16384).1 ≤ 16384 := rdU_le
  have w4 : IntKind.i64.wrap ((rdU ib kv.2.1 kv.2.2 16384).1 : Int) = ((rdU ib kv.2.1 kv.2.2 16384).1 : Int) := i64_wrap (by omega)
  generalize rdU ib kv.2.1 kv.2.2 16384 = ka at *
  have z6 := m6.size
  have z7 := m7.size
  have z8 := m8.size
  have hq8 : ka.2.2 ≠ 0 → g5.size ≤ q8.b := by
    intro hk
    rcases f8 hk with ⟨e1, e2⟩ | e
    · rw [e2]
      rcases f7 e1 with ⟨e1, e2⟩ | e
      · rw [e2]
        rcases f6 e1 with ⟨e1, e2⟩ | e
        · exact absurd rfl e1
        · exact e
      · omega
    · omega
  have m58 := (m6.trans m7).trans m8
  have M8 := m58.blk M5 (by omega)
  have b18 := m58.blk (b1.ext e25) (by omega)
  have b28 := m58.blk (b2.ext e25) (by omega)
  have tt := dp_types D RN T (lo := g5.size) (st := ([], ka.2)) bA bV bT rfl r8 (by omega) hq8 b18 b28 M8 (by omega) (by omega) (by omega) (by omega) (by omega) (by omega) (by omega) (by omega) (by omega) (by omega)
    (fun hn => by have := hsl (hbsne hn); omega) rfl (R := R) ?_ s.v undef undef undef undef undef undef undef undef (.bool false) (.bool false) (.bool false) (.bool false) undef undef undef undef undef
  · simp [S_rref6_Parse, Stmt.rest] at tt
    simp [w4]
    exact tt
  · intro g9 t1 t2 t3 v m9 fn fw
    refine hr g9 t1 t2 t3 v ?_ (fn.mono (by omega)) (fw.mono (by omega))
    have q1 : Mod (fun j => j = p ∨ j = M ∨ j = B1 ∨ j = B2) h g9 := (((e02.trans e25).mono (fun _ _ h => h.elim)).trans (m58.mono (fun _ _ h => .inl h))).trans m9
    exact q1.mono (fun j hj hq => by omega)
end
end Go.Rm

/- Nets in bytes: the program's Parse. -/
set_option linter.unusedSimpArgs false
set_option linter.unusedVariables false
namespace Go.Rm
section
variable {Y : Sys} {h h' : Heap}

structure FilePs (Y : Sys) : Prop where
  B : FileBd Y
  Parse : Y.Has F.file_Parse S_file_Parse
  fault : Y.Has F.file_fault S_file_fault
  Equal : Y.Has F.bytes_Equal S_bytes_Equal
  Sum : Y.Has F.wire_Sum S_wire_Sum

theorem ffault_spec (H : Y.Has F.file_fault S_file_fault) {a c : Int} (hc : c ≠ 0) {R : Value → Heap → Prop} (hr : ∀ v h', Ext h h' → FErr Y h.size h' (atW wFile a c) v → (∃ t u, v = .iface t u) → R v h') :
    CallP Y F.file_fault [.int .i64 a, .int .i64 c] h R := by
  refine .of_has H rfl ?_
  simp [S_file_fault, FnS.wp]
  refine ef_new_box ?_
  intro b h1 g1 B e1
  simp
  exact hr _ _ e1 (fun h' m => fault_at (m.blk B (by omega)) hc) ⟨_, _, rfl⟩

theorem bequal_spec (H : Y.Has F.bytes_Equal S_bytes_Equal) {s t : Sl} {bs cs : List Nat} (r : RowB h s bs) (q : RowB h t cs) (hs : s.sp = none) (ht : t.sp = none) {R : Value → Heap → Prop} (hr : R (.bool (decide (bs = cs))) h) :
    CallP Y F.bytes_Equal [s.v, t.v] h R := by
  refine .of_has H rfl ?_
  simp [S_bytes_Equal, FnS.wp, sem_b2s r hs, sem_b2s q ht, sb_eq (mem_lt r.lt) (mem_lt q.lt)]
  exact hr

theorem fparse_spec (P : FilePs Y) (NF : NetFns Y) (T : TurnCk Y) {s : Sl} {bs : List Nat} (r : RowB h s bs) (hsp : s.sp = none) (hbig : s.n ≤ 1000000) {R : Value → Heap → Prop}
    (hr : ∀ h' t1 t2 t3 v, Ext h h' → FNet h.size h' t1 t2 t3 (parseR bs).1 → FErr Y h.size h' (parseR bs).2 v → R (.tuple #[netV t1 t2 t3, v]) h') : CallP Y F.file_Parse [s.v] h R := by
  refine .of_has P.Parse rfl ?_
  have hl := r.len
  have hlt := mem_lt r.lt
  simp [S_file_Parse, FnS.wp]
  refine ef_new_box ?_
  intro B1 g1 hB1 b1 e1
  have l1 := b1.lt
  have z1 := e1.size
  have r1 := r.ext e1
  have fin : ∀ {g3 g4 : Heap} {e : Int} {v : Value}, Ext g1 g3 → parseR bs = (N0, atW wFile 0 e) → FErr Y g1.size g3 (atW wFile 0 e) v → Mod (fun j => j = B1) g3 g4 → R (.tuple #[netV Sl.nil Sl.nil Sl.nil, v]) g4 := by
    intro g3 g4 e v e3 hp fw m4
    rw [hp] at hr
    have q2 : Mod (fun j => j = B1) h g4 := ((e1.trans e3).mono (fun _ _ h => h.elim)).trans m4
    exact hr g4 _ _ _ v (q2.mono (fun j hj hq => by omega)) FNet.none ((fw.step m4 (fun j hj => by omega)).mono (by omega))
  by_cases c1 : 65536 < s.n
  · have c1' : (65536 : Int) < s.n := by omega
    have hp : parseR bs = (N0, atW wFile 0 4) := by unfold parseR; rw [if_pos (by omega)]
    simp [c1']
    refine ffault_spec P.fault (by decide) ?_
    intro v g3 e3 hv hi
    simp
    refine ef_store_box (b1.ext e3) rfl rfl (by simp) ?_
    intro g4 B4 m4
    simp
    exact resP_xn rfl B4 rfl (fin e3 hp (hv.mono (by omega)) m4)
  have c1' : ¬ (65536 : Int) < s.n := by omega
  by_cases c2 : s.n < 8
  · have c2' : (s.n : Int) < 8 := by omega
    have hp : parseR bs = (N0, atW wFile 0 3) := by unfold parseR; rw [if_neg (by omega), if_pos (by omega)]
    simp [c1', c2']
    refine ffault_spec P.fault (by decide) ?_
    intro v g3 e3 hv hi
    simp
    refine ef_store_box (b1.ext e3) rfl rfl (by simp) ?_
    intro g4 B4 m4
    simp
    exact resP_xn rfl B4 rfl (fin e3 hp (hv.mono (by omega)) m4)
  have c2' : ¬ (s.n : Int) < 8 := by omega
  obtain ⟨n, hn⟩ : ∃ n, n = s.n - 4 := ⟨_, rfl⟩
  have w1 : IntKind.i64.wrap ((s.n : Int) - 4) = (n : Int) := by rw [i64_wrap (by omega)]; omega
  obtain ⟨sa, qa, ra, spa, ba, na⟩ := r1.slcHi (Y := Y) (k := n) (by omega)
  obtain ⟨sb, qb, rb, spb, bb, nb⟩ := r1.slcLo (Y := Y) (k := n) (by omega)
  obtain ⟨sc, qc, rc, spc, bc, nc⟩ := r1.slcHi (Y := Y) (k := 4) (by omega)
  replace qc : ∀ h', IOp.sem Y h' (.slc 1 false true) [s.v, .int .i64 4] = some sc.v := qc
  have q4 := fun (g : Heap) (e : Ext g1 g) => sem_b2s (Y := Y) (rc.ext e) (by rw [spc]; exact hsp)
  simp [c1', c2', w1, qa, qb]
  refine wsum_spec P.Sum ra (by omega) ?_
  intro g3 s3 e3 o3 nl3 hb3
  have z3 := e3.size
  simp
  refine bequal_spec P.Equal (o3.rowB (lt_mem sumB_lt)) (rb.ext e3) o3.sp (by rw [spb]; exact hsp) ?_
  have cd : n = bs.length - 4 := by omega
  by_cases c3 : sumB (bs.take n) = bs.drop n
  rotate_left
  · have hp : parseR bs = (N0, atW wFile 0 11) := by unfold parseR; rw [if_neg (by omega), if_neg (by omega), ← cd, if_pos c3]
    have c3' : (sumB (bs.take n) = bs.drop n) = False := by simp [c3]
    simp [c3']
    refine ffault_spec P.fault (by decide) ?_
    intro v g3' e3' hv hi
    simp
    refine ef_store_box (b1.ext (e3.trans e3')) rfl rfl (by simp) ?_
    intro g4 B4 m4
    simp
    exact resP_xn rfl B4 rfl (fin (e3.trans e3') hp (hv.mono (by omega)) m4)
  have c3' : (sumB (bs.take n) = bs.drop n) = True := by simp [c3]
  by_cases c4 : bs.take 4 = hdB
  rotate_left
  · have hp : parseR bs = (N0, atW wFile 0 2) := by unfold parseR; rw [if_neg (by omega), if_neg (by omega), ← cd, if_neg (by simp [c3]), if_pos c4]
    have c4' : (bs.take 4 = hdB) = False := by simp [c4]
    simp [e3, c3', qc, q4, hdB_str, sb_ne (take_lt hlt) (show ∀ x ∈ hdB, x < 256 by decide), c4']
    refine ffault_spec P.fault (by decide) ?_
    intro v g3' e3' hv hi
    simp
    refine ef_store_box (b1.ext (e3.trans e3')) rfl rfl (by simp) ?_
    intro g4 B4 m4
    simp
    exact resP_xn rfl B4 rfl (fin (e3.trans e3') hp (hv.mono (by omega)) m4)
  have c4' : (bs.take 4 = hdB) = True := by simp [c4]
  obtain ⟨m, hm⟩ : ∃ m, m = s.n - 8 := ⟨_, rfl⟩
  obtain ⟨sm, qm, rm, spm, bm, nm⟩ := r1.slcMid (Y := Y) (a := 4) (e := n) (n := m) (by omega) (by omega)
  replace qm : ∀ h', IOp.sem Y h' (.slc 1 true true) [s.v, .int .i64 4, .int .i64 n] = some sm.v := qm
  have hp : parseR bs = parseIn ((bs.drop 4).take m) := by unfold parseR; rw [if_neg (by omega), if_neg (by omega), ← cd, if_neg (by simp [c3]), if_neg (by simp [c4]), show bs.length - 8 = m by omega]
  rw [hp] at hr
  clear hp fin
  simp [e3, c3', qc, q4, hdB_str, sb_ne (take_lt hlt) (show ∀ x ∈ hdB, x < 256 by decide), c4', w1, qm]
  refine wnew_spec P.B.D.W (rm.ext e3) (by omega) ?_
  intro g4 p s4 e4 r4 hp4 hs4
  have z4 := e4.size
  generalize hib : (bs.drop 4).take m = ib at *
  simp
  refine fbody_spec P.B r4 ?_
  intro g5 t1 t2 t3 m5 r5 n5
  have z5 := m5.size
  have lp := r4.blk.lt
  simp [netV]
  refine ef_new_box ?_
  intro M g6 hM6 M6 e6
  have z6 := e6.size
  have lM := M6.lt
  simp
  refine ef_store_box M6 rfl rfl (by simp) ?_
  intro g7 M7 m7
  have z7 := m7.size
  have e57 := e6.toExt m7 hM6
  have r7 := r5.ext e57
  have n7 := n5.ext e57
  simp
  refine rdone_spec P.B.D.W r7 ?_
  intro g8 v e8 hv
  have z8 := e8.size
  have m48 : Mod (fun j => j = p) g4 g8 := (m5.trans (e57.mono (fun _ _ h => h.elim))).trans (e8.mono (fun _ _ h => h.elim))
  have b18 := m48.blk (b1.ext (e3.trans e4)) (by omega)
  have m08 : Mod (fun j => j = p) h g8 := ((e1.trans (e3.trans e4)).mono (fun _ _ h => h.elim)).trans m48
  have M8 := M7.ext e8
  have n8 := n7.ext e8
  unfold parseIn at hr
  by_cases hd : (doneW ib (rdNet ib).2.1 (rdNet ib).2.2).2 = 0
  rotate_left
  · have hpe : parseEnd (rdNet ib).1 (doneW ib (rdNet ib).2.1 (rdNet ib).2.2) = (N0, doneW ib (rdNet ib).2.1 (rdNet ib).2.2) := by simp [parseEnd, hd]
    rw [hpe] at hr
    obtain ⟨t, q, hv'⟩ := hv.here.iface hd
    subst hv'
    simp
    refine ef_store_box b18 rfl rfl (by simp) ?_
    intro g9 B9 m9
    simp
    refine resP_xn rfl B9 rfl ?_
    refine hr g9 Sl.nil Sl.nil Sl.nil _ ?_ FNet.none ?_
    · exact ((m08.mono (S' := fun j => j = p ∨ j = B1) (fun _ _ h => .inl h)).trans (m9.mono (fun _ _ h => .inr h))).mono (fun j hj hq => by omega)
    · exact (hv.step m9 (fun j hj => by omega)).mono (by omega)
  have hvn := hv.here.nil hd
  subst hvn
  simp [rd_blk M8]
  refine ncheck_spec NF T n8.here ?_
  intro v g9 e9 hv9
  have z9 := e9.size
  have n9 := n8.ext e9
  have b19 := b18.ext e9
  have M9 := M8.ext e9
  have m09 : Mod (fun j => j = p) h g9 := m08.trans (e9.mono (fun _ _ h => h.elim))
  by_cases hn : (netW (rdNet ib).1).2 = 0
  rotate_left
  · have hpe : parseEnd (rdNet ib).1 (doneW ib (rdNet ib).2.1 (rdNet ib).2.2) = (N0, netW (rdNet ib).1) := by simp [parseEnd, hd, hn]
    rw [hpe] at hr
    obtain ⟨t, q, hv'⟩ := hv9.here.iface hn
    subst hv'
    simp
    refine ef_store_box b19 rfl rfl (by simp) ?_
    intro g10 B10 m10
    simp
    refine resP_xn rfl B10 rfl ?_
    refine hr g10 Sl.nil Sl.nil Sl.nil _ ?_ FNet.none ?_
    · exact ((m09.mono (S' := fun j => j = p ∨ j = B1) (fun _ _ h => .inl h)).trans (m10.mono (fun _ _ h => .inr h))).mono (fun j hj hq => by omega)
    · exact (hv9.step m10 (fun j hj => by omega)).mono (by omega)
  · have hpe : parseEnd (rdNet ib).1 (doneW ib (rdNet ib).2.1 (rdNet ib).2.2) = ((rdNet ib).1, wOK) := by simp [parseEnd, hd, hn]
    rw [hpe] at hr
    have hvn := hv9.here.nil hn
    subst hvn
    simp [rd_blk M9]
    refine ef_store_box b19 rfl rfl (by simp) ?_
    intro g10 B10 m10
    simp
    refine resP_xn rfl B10 rfl ?_
    refine hr g10 t1 t2 t3 _ ?_ ((n9.step m10 (fun j hj => by omega)).mono (by omega)) FErr.ok
    exact ((m09.mono (S' := fun j => j = p ∨ j = B1) (fun _ _ h => .inl h)).trans (m10.mono (fun _ _ h => .inr h))).mono (fun j hj hq => by omega)
end
end Go.Rm
