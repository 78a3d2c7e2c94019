import Derived.Test.YtojpokpdfbgelaaDoorRLaw3e

/- The laws of nets: NetDegrees. -/
set_option linter.unusedSimpArgs false
set_option linter.unusedVariables false
namespace Go.Rm

/-- a star: d arcs, all into (out of) vertex 0 -/
def starT (d : Nat) (b : Bool) : Tab := if 16 < d then ⟨0, 0, []⟩ else if b then ⟨d, 0, []⟩ else ⟨0, d, []⟩
def starO (b : Bool) : Tab := if b then ⟨0, 1, []⟩ else ⟨1, 0, []⟩
def starV (d : Nat) : List Tri := ⟨0, 0, 0⟩ :: (List.range d).map fun (i : Nat) => ⟨i, 0, 1⟩
def starA (d : Nat) (b : Bool) : List Tri := (List.range d).map fun (i : Nat) => if b then ⟨i + 1, 0, 0⟩ else ⟨0, i + 1, 0⟩
def starN (d : Nat) (b : Bool) : NetD := ⟨starV d, starA d b, [starT d b, starO b]⟩
theorem starV_succ {d : Nat} : starV (d + 1) = starV d ++ [⟨d, 0, 1⟩] := by simp [starV, List.range_succ]
theorem starA_succ {d : Nat} {b : Bool} : starA (d + 1) b = starA d b ++ [if b then ⟨d + 1, 0, 0⟩ else ⟨0, d + 1, 0⟩] := by simp [starA, List.range_succ]
theorem starV_len {d : Nat} : (starV d).length = d + 1 := by simp [starV]
theorem starA_len {d : Nat} {b : Bool} : (starA d b).length = d := by simp [starA]
def starW (d : Nat) : Wr := if 16 < d then atW wVert 0 4 else wOK
theorem star_cs {d : Nat} {b : Bool} : (starT d b).cs = [] ∧ (starO b).cs = [] := by
  constructor
  · unfold starT
    repeat' split
    all_goals rfl
  · cases b <;> rfl
theorem star_bc {d : Nat} {b : Bool} : ∀ i, i < (starN d b).ts.length → (nthB (starN d b).ts i).cs.length ≤ 1000000 := by
  intro i hi
  match i, hi with
  | 0, _ => show (starT d b).cs.length ≤ 1000000; rw [star_cs.1]; simp
  | 1, _ => show (starO b).cs.length ≤ 1000000; rw [(star_cs (d := d) (b := b)).2]; simp
  | i + 2, hi => exact absurd hi (by simp [starN])
theorem star_law : ∀ d, d < 19 → ∀ b, netW (starN d b) = starW d := by
  intro d hd b
  have h : ∀ d : Fin 19, ∀ b : Bool, netW (starN d b) = starW d := by decide +kernel
  exact h ⟨d, hd⟩ b

def Stmt.rest : Stmt → Stmt
  | .seq _ b => b
  | s => s

section
variable {Y : Sys} {h : Heap}

theorem Own.ext' {h h' : Heap} {sz : Nat} {s : Sl} {cells : List Value} (o : Own h sz s cells) (e : Ext h h') : Own h' sz s cells := o.mod e (fun _ h => h)
theorem sem_build_eq {zero : Array Value} {pl : List (Nat × Nat)} {ix : List Nat} {xs : List Value} : IOp.sem Y h (.build zero pl ix) xs = (Instr.fill (fun i => pl[i]?) zero (ix.zip xs)).bind fun cs => some (.agg cs) := rfl
/-- a cell of a box is stored -/
theorem stB {K : Value → Heap → Prop} {B o : Nat} {cs : Array Value} {v : Value} (hb : Blk h B cs) (ho : o < cs.size) (hr : ∀ h', Blk h' B (cs.setIfInBounds o v) → Mod (fun j => j = B) h h' → K undef h') : StoreP h B o v K := by
  rw [StoreP.open]
  refine ⟨?_, hb.hfz, hr _ hb.set (Mod.set rfl)⟩
  rw [hb.hc]
  simp [ho]
theorem sem_bld1 {z0 z1 z2 : Value} {n : Int} : IOp.sem Y h (.build #[z0, z1, z2] [(0, 1), (1, 1), (2, 1)] [0]) [.int .i64 n] = some (.agg #[.int .i64 n, z1, z2]) := by
  simp [IOp.sem, Instr.fill]
theorem sem_bld2 {z0 z1 z2 : Value} {n : Int} : IOp.sem Y h (.build #[z0, z1, z2] [(0, 1), (1, 1), (2, 1)] [1]) [.int .i64 n] = some (.agg #[z0, .int .i64 n, z2]) := by
  simp [IOp.sem, Instr.fill]
theorem sem_bld3 {z0 z1 z2 : Value} {n : Int} : IOp.sem Y h (.build #[z0, z1, z2] [(0, 1), (1, 1), (2, 1)] [2]) [.int .i64 n] = some (.agg #[z0, z1, .int .i64 n]) := by
  simp [IOp.sem, Instr.fill]
theorem sem_bld13 {z0 z1 z2 : Value} {n m : Int} : IOp.sem Y h (.build #[z0, z1, z2] [(0, 1), (1, 1), (2, 1)] [0, 2]) [.int .i64 n, .int .i64 m] = some (.agg #[.int .i64 n, z1, .int .i64 m]) := by
  simp [IOp.sem, Instr.fill]
theorem sem_bld12 {z0 z1 z2 : Value} {n m : Int} : IOp.sem Y h (.build #[z0, z1, z2] [(0, 1), (1, 1), (2, 1)] [0, 1]) [.int .i64 n, .int .i64 m] = some (.agg #[.int .i64 n, .int .i64 m, z2]) := by
  simp [IOp.sem, Instr.fill]
theorem sem_bldS {z0 z1 z2 : Value} {a : Option Addr} {n c : Nat} : IOp.sem Y h (.build #[z0, z1, z2] [(0, 1), (1, 1), (2, 1)] [0]) [.slice a n c] = some (.agg #[.slice a n c, z1, z2]) := by
  simp [IOp.sem, Instr.fill]

@[simp] theorem ef_store_raw {K : Value → Heap → Prop} {b o : Nat} {a : Option Addr} {n c : Nat} : Ef.wp h K (.store 1) [.pointer (some ⟨b, o, none⟩), .slice a n c] = StoreP h b o (.slice a n c) K := ef_store1_eq rfl

def StarI (v0 : Value) (b : Bool) (B C D d : Nat) (st : Sl) (TC : List Value) (h0 : Heap) (e : List Value) (h' : Heap) : Prop :=
  ∃ (i : Nat) (sv sa : Sl) (v2 v8 v9 v10 v11 v12 v13 v14 v15 v16 : Value), e = [v0, .bool b, v2, .int .i64 d, .pointer (some ⟨B, 0, none⟩), .pointer (some ⟨C, 0, none⟩), .pointer (some ⟨D, 0, none⟩), .int .i64 i, v8, v9, v10, v11, v12, v13, v14, v15, v16] ∧ i ≤ d ∧ Blk h' B #[sv.v, sa.v, st.v] ∧ Own h' 3 sv (cells3 ((starV i).map triV)) ∧ Own h' 3 sa (cells3 ((starA i b).map triV)) ∧ Own h' 3 st TC ∧ sv.nl = false ∧ B ≠ sv.b ∧ st.b ≠ sv.b ∧ h0.size ≤ sv.b ∧ (sa.nl = false → B ≠ sa.b ∧ st.b ≠ sa.b ∧ sv.b ≠ sa.b ∧ h0.size ≤ sa.b) ∧ Ext h0 h'

set_option maxHeartbeats 1000000 in
theorem netdegrees_spec (L : NetLaw Y) (HA : Y.Has F.rlaw3_NetDegrees S_rlaw3_NetDegrees) (RA : Y.Has F.rref6_At S_rref6_At) (E : ErrSys Y) (hg : hc h E.gb 0 = some E.hv) {a : Nat} {b : Bool} (ha : a < 256)
    {R : Value → Heap → Prop} (hr : ∀ h', Ext h h' → R (.bool true) h') : CallP Y F.rlaw3_NetDegrees [.int .u8 a, .bool b] h R := by
  refine .of_has HA rfl ?_
  simp [S_rlaw3_NetDegrees, FnS.wp]
  refine known3_spec L RA E hg ?_
  intro h1 e1
  have w0 : IntKind.i64.wrap (a : Int) = a := i64_wrap (by omega)
  obtain ⟨d, hd⟩ : ∃ d, d = a % 19 := ⟨_, rfl⟩
  have ht : (a : Int).tmod 19 = (d : Int) := by rw [Int.tmod_eq_emod_of_nonneg (by omega)]; omega
  have hd19 : d < 19 := by omega
  simp [w0, ib_rem, ht, sem_bld3]
  refine ef_bslice_all rfl rfl rfl ?_ (by omega)
  intro V hV gV bV eV oV
  simp [sem_bldS]
  refine new_store (vs := #[.slice (some ⟨V, 0, none⟩) 1 1, .slice none 0 0, .slice none 0 0]) rfl rfl (by simp) ?_
  intro B hBp gB bBp eBp stB1
  simp
  refine stB1 _ ?_
  intro hB bB eB
  clear stB1 bBp eBp
  simp [sem_bld1]
  refine new_store (vs := #[.int .i64 d, .int .i64 0, .slice none 0 0]) rfl rfl (by simp) ?_
  intro C hCp gC bCp eCp stC1
  simp
  refine stC1 _ ?_
  intro hC bC eC
  clear stC1 bCp eCp
  have lV := bV.lt
  have lB := bB.lt
  have lC := bC.lt
  have zB := eB.size
  have zC := eC.size
  have z1 := e1.size
  have zV := eV.size
  -- the first table
  have s1 : ∀ (K : Value → Heap → Prop) (h2 : Heap) (cs : Array Value), Ext hB h2 → Blk h2 C cs → cs.size = 3 → ∀ x y : Int, (∀ h3, Ext hB h3 → Blk h3 C #[.int .i64 x, .int .i64 y, .slice none 0 0] → K undef h3) →
      Ef.wp h2 K (.store 3) [.pointer (some ⟨C, 0, none⟩), .agg #[.int .i64 x, .int .i64 y, .slice none 0 0]] := by
    intro K h2 cs x2 b2 hs x y hk
    refine ef_store_box b2 rfl hs (by simp) ?_
    intro h3 b3 m3
    exact hk h3 (Mod.ext x2 m3 (fun j hj => by omega)) b3
  have cont2 : ∀ (U D : Nat) h4, Ext h1 h4 → Blk h4 B #[.slice (some ⟨V, 0, none⟩) 1 1, .slice none 0 0, .slice (some ⟨U, 0, none⟩) 1 1] → Own h4 3 (Sl.at V 1 1) (cells3 ((starV 0).map triV)) → Own h4 3 (Sl.at U 1 1) (cells3 [tabP (starT d b, Sl.nil)]) →
      Blk h4 D #[.int .i64 (starO b).i, .int .i64 (starO b).o, .slice none 0 0] → B < U → ∀ (v11 v12 v13 : Value), Stmt.wp Y S_rlaw3_NetDegrees.body.rest.rest.rest.rest.rest.rest.rest.rest.rest.rest (resP S_rlaw3_NetDegrees.res R) (fun _ _ _ => False) (resP S_rlaw3_NetDegrees.res R)
      [.int .u8 a, .bool b, .bool false, .int .i64 d, .pointer (some ⟨B, 0, none⟩), .pointer (some ⟨C, 0, none⟩), .pointer (some ⟨D, 0, none⟩), undef, undef, undef, .bool false, v11, v12, v13, undef, undef, undef] h4 := by
    intro U D h4 x4 bB4 oV4 oU4 bD4 hBU v11 v12 v13
    have lU : U < h4.size := oU4.lt rfl
    have lD := bD4.lt
    simp [S_rlaw3_NetDegrees, Stmt.rest, bB4.hc, rd_blk bD4]
    refine ef_bslice_all rfl rfl rfl ?_ (by omega)
    intro W h5 gW bW eW oW
    have oU5 := oU4.ext' eW
    simp
    rw [show (Value.slice (some ⟨U, 0, none⟩) 1 1) = (Sl.at U 1 1).v from rfl]
    refine ef_append3 rfl oU5 bW rfl rfl rfl (by simp) (by simp) ?_
    intro st h6 ost m6 hst
    obtain ⟨g6, g6'⟩ : st.nl = false ∧ (st.b = U ∨ h5.size ≤ st.b) := by
      rcases hst with ⟨q1, q2⟩ | ⟨q1, q2⟩
      · exact ⟨q2, .inl q1⟩
      · exact ⟨q2, .inr q1⟩
    have z5 := eW.size
    have z6 := m6.size
    have x6 : Ext h1 h6 := Mod.ext (x4.trans eW) m6 (fun j hj => by have := hj.2; simp at this; omega)
    simp
    refine stB (m6.blk (bB4.ext eW) (fun hj => by have := hj.2; simp at this; omega)) (by simp) ?_
    intro h7 bB7 m7
    have x7 : Ext h1 h7 := Mod.ext x6 m7 (fun j hj => by omega)
    have ost7 := ost.mod m7 (fun _ hj => by omega)
    have oV7 := ((oV4.ext' eW).mod m6 (fun _ hj => by have := hj.2; simp at this; omega)).mod m7 (fun _ hj => by simp at hj; omega)
    simp at bB7
    simp
    refine wp_loop' (StarI (.int .u8 a) b B C D d st (cells3 [tabP (starT d b, Sl.nil), tabP (starO b, Sl.nil)]) h1) (fun e _ => d - argI e 7) ⟨0, Sl.at V 1 1, Sl.nil, _, _, _, _, _, _, _, _, _, _, rfl, by omega, bB7, oV7, Own.nil, ost7, rfl, by simp; omega, by simp; omega, by simp; omega, fun hn => (by cases hn), x7⟩ ?_
    clear m6 m7 x6 x7 bB7 oV7 ost7 ost bW oW eW oU5 bD4 oU4 oV4 bB4 x4
    rintro e h8 ⟨i, sv, sa, v2, v8, v9, v10, v11, v12, v13, v14, v15, v16, rfl, hi, bB8, oV, oA, oT, nV, d1, d2, d3, d4, x8⟩
    have lB8 := bB8.lt
    have lV8 := oV.lt nV
    have lT8 := oT.lt g6
    by_cases c : i < d
    · have c' : (i : Int) < d := by omega
      have w1 : IntKind.i64.wrap ((i : Int) + 1) = (i : Int) + 1 := i64_wrap (by omega)
      have nv := oV.n3
      have na := oA.n3
      rw [List.length_map, starV_len] at nv
      rw [List.length_map, starA_len] at na
      simp [c', bB8.hc, sem_bld13]
      refine ef_bslice_all rfl rfl rfl ?_ (by omega)
      intro X h9 gX bX eX oX
      have z9 := eX.size
      simp
      refine ef_append3 rfl (oV.ext' eX) bX rfl rfl rfl (by omega) (by omega) ?_
      intro sv' h10 oV10 m10 hs10
      have z10 := m10.size
      rw [show [Value.int .i64 i, .int .i64 0, .int .i64 1] = [Value.int .i64 i, .int .i64 0, .int .i64 1] from rfl] at *
      have oV10 : Own h10 3 sv' (cells3 ((starV (i + 1)).map triV)) := by rw [starV_succ, List.map_append]; exact oV10
      obtain ⟨nV1, nV2⟩ : sv'.nl = false ∧ (sv'.b = sv.b ∨ h9.size ≤ sv'.b) := by
        rcases hs10 with ⟨q1, q2⟩ | ⟨q1, q2⟩
        · exact ⟨by rw [q2]; exact nV, .inl q1⟩
        · exact ⟨q2, .inr q1⟩
      have bB10 := m10.blk (bB8.ext eX) (fun hj => by omega)
      have oT10 := (oT.ext' eX).mod m10 (fun _ hj => by omega)
      have oA10 := (oA.ext' eX).mod m10 (fun hn hj => by have := d4 hn; omega)
      have x10 : Ext h1 h10 := Mod.ext (x8.trans eX) m10 (fun j hj => by omega)
      simp
      refine stB bB10 (by simp) ?_
      intro h11 bB11 m11
      have z11 := m11.size
      have oV11 := oV10.mod m11 (fun _ hj => by omega)
      have oT11 := oT10.mod m11 (fun _ hj => by omega)
      have oA11 := oA10.mod m11 (fun hn hj => by have := d4 hn; omega)
      have x11 : Ext h1 h11 := Mod.ext x10 m11 (fun j hj => by omega)
      have lA11 : sa.nl = false → sa.b < h8.size := fun hn => oA.lt hn
      simp at bB11
      simp [w1, sem_bld12]
      refine new_store (vs := #[.int .i64 ((i : Int) + 1), .int .i64 0, .int .i64 0]) rfl rfl (by simp) ?_
      intro P hPp gP bPp ePp stP1
      simp
      refine stP1 _ ?_
      intro hP bP eP
      clear stP1 bPp ePp
      have lP := bP.lt
      have zP := eP.size
      cases b with
      | true =>
        simp
        simp [(bB11.ext eP).hc, rd_blk bP]
        have h12e := eP
        have bB12 := bB11.ext eP
        have bP12 := bP
        have x12 := x11.trans eP
        have oV12 := oV11.ext' eP
        have oT12 := oT11.ext' eP
        have oA12 := oA11.ext' eP
        refine ef_bslice_all rfl rfl rfl ?_ (by omega)
        intro Z h13 gZ bZ eZ oZ
        have z13 := eZ.size
        have lP13 := bP12.lt
        simp
        refine ef_append3 rfl (oA12.ext' eZ) bZ rfl rfl rfl (by omega) (by omega) ?_
        intro sa' h14 oA14 m14 hs14
        have z14 := m14.size
        have oA14 : Own h14 3 sa' (cells3 ((starA (i + 1) true).map triV)) := by rw [starA_succ, List.map_append]; exact oA14
        have nA : sa'.nl = false → (sa.nl = false ∧ sa'.b = sa.b) ∨ h13.size ≤ sa'.b := by
          intro hn
          rcases hs14 with ⟨q1, q2⟩ | ⟨q1, q2⟩
          · exact .inl ⟨by rw [← q2, hn], q1⟩
          · exact .inr q1
        have bB14 := m14.blk (bB12.ext eZ) (fun hj => by have := d4 hj.1; omega)
        have oV14 := (oV12.ext' eZ).mod m14 (fun _ hj => by have := d4 hj.1; have := lA11 hj.1; omega)
        have oT14 := (oT12.ext' eZ).mod m14 (fun _ hj => by have := d4 hj.1; omega)
        have x14 : Ext h1 h14 := Mod.ext (x12.trans eZ) m14 (fun j hj => by have := d4 hj.1; omega)
        simp
        refine stB bB14 (by simp) ?_
        intro h15 bB15 m15
        simp at bB15
        have hB1 : h1.size ≤ B := by omega
        have oV15 := oV14.mod m15 (fun _ hj => by omega)
        have oT15 := oT14.mod m15 (fun _ hj => by omega)
        have nB : sa'.nl = false → B ≠ sa'.b ∧ st.b ≠ sa'.b ∧ sv'.b ≠ sa'.b ∧ h1.size ≤ sa'.b := by
          intro hn
          have lV12 := oV12.lt nV1
          have lT12 := oT12.lt g6
          have lB12 := bB12.lt
          rcases nA hn with ⟨q, e⟩ | q
          · have := d4 q
            have := lA11 q
            omega
          · omega
        have oA15 := oA14.mod m15 (fun hn hj => by have := nB hn; omega)
        simp [w1]
        refine ⟨⟨i + 1, sv', sa', _, _, _, _, _, _, _, _, _, _, rfl, by omega, bB15, oV15, oA15, oT15, nV1, by omega, by omega, by omega, nB, Mod.ext x14 m15 (fun j hj => by omega)⟩, by simp [argI]; omega⟩
      | false =>
        simp [w1, sem_bld12]
        refine ef_store_box bP rfl rfl (by simp) ?_
        intro h12 bP12 m12
        have z12 := m12.size
        have bB12 := m12.blk (bB11.ext eP) (by omega)
        have lV11 := oV11.lt nV1
        have lT11 := oT11.lt g6
        have x12 : Ext h1 h12 := Mod.ext (x11.trans eP) m12 (fun j hj => by omega)
        have oV12 := (oV11.ext' eP).mod m12 (fun _ hj => by omega)
        have oT12 := (oT11.ext' eP).mod m12 (fun _ hj => by omega)
        have oA12 := (oA11.ext' eP).mod m12 (fun hn hj => by have := lA11 hn; omega)
        simp [bB12.hc, rd_blk bP12]
        refine ef_bslice_all rfl rfl rfl ?_ (by omega)
        intro Z h13 gZ bZ eZ oZ
        have z13 := eZ.size
        have lP13 := bP12.lt
        simp
        refine ef_append3 rfl (oA12.ext' eZ) bZ rfl rfl rfl (by omega) (by omega) ?_
        intro sa' h14 oA14 m14 hs14
        have z14 := m14.size
        have oA14 : Own h14 3 sa' (cells3 ((starA (i + 1) false).map triV)) := by rw [starA_succ, List.map_append]; exact oA14
        have nA : sa'.nl = false → (sa.nl = false ∧ sa'.b = sa.b) ∨ h13.size ≤ sa'.b := by
          intro hn
          rcases hs14 with ⟨q1, q2⟩ | ⟨q1, q2⟩
          · exact .inl ⟨by rw [← q2, hn], q1⟩
          · exact .inr q1
        have bB14 := m14.blk (bB12.ext eZ) (fun hj => by have := d4 hj.1; omega)
        have oV14 := (oV12.ext' eZ).mod m14 (fun _ hj => by have := d4 hj.1; have := lA11 hj.1; omega)
        have oT14 := (oT12.ext' eZ).mod m14 (fun _ hj => by have := d4 hj.1; omega)
        have x14 : Ext h1 h14 := Mod.ext (x12.trans eZ) m14 (fun j hj => by have := d4 hj.1; omega)
        simp
        refine stB bB14 (by simp) ?_
        intro h15 bB15 m15
        simp at bB15
        have hB1 : h1.size ≤ B := by omega
        have oV15 := oV14.mod m15 (fun _ hj => by omega)
        have oT15 := oT14.mod m15 (fun _ hj => by omega)
        have nB : sa'.nl = false → B ≠ sa'.b ∧ st.b ≠ sa'.b ∧ sv'.b ≠ sa'.b ∧ h1.size ≤ sa'.b := by
          intro hn
          have lV12 := oV12.lt nV1
          have lT12 := oT12.lt g6
          have lB12 := bB12.lt
          rcases nA hn with ⟨q, e⟩ | q
          · have := d4 q
            have := lA11 q
            omega
          · omega
        have oA15 := oA14.mod m15 (fun hn hj => by have := nB hn; omega)
        simp [w1]
        refine ⟨⟨i + 1, sv', sa', _, _, _, _, _, _, _, _, _, _, rfl, by omega, bB15, oV15, oA15, oT15, nV1, by omega, by omega, by omega, nB, Mod.ext x14 m15 (fun j hj => by omega)⟩, by simp [argI]; omega⟩
    have c' : ¬ (i : Int) < d := by omega
    obtain rfl : i = d := by omega
    have hN : NetH h8 sv sa st (starN i b) := by
      refine ⟨oV.row3, oA.row3, Own.rowT (P := [(starT i b, Sl.nil), (starO b, Sl.nil)]) oT rfl ?_⟩
      intro p hp
      simp only [List.mem_cons, List.not_mem_nil, or_false] at hp
      rcases hp with rfl | rfl
      · rw [star_cs.1]; exact Row64.nil
      · rw [(star_cs (d := i) (b := b)).2]; exact Row64.nil
    have x0 : Ext h h8 := e1.trans x8
    have law := star_law i hd19 b
    simp [c', sem_build0]
    refine new_store (vs := #[.slice none 0 0, .int .i64 0]) rfl rfl (by simp) ?_
    intro P hPp gP bPp ePp stP1
    simp
    refine stP1 _ ?_
    intro hP bP eP
    clear stP1 bPp ePp
    have bB9 := bB8.ext eP
    have xP := x0.trans eP
    by_cases e16 : 16 < i
    · have e16' : (16 : Int) < i := by omega
      simp [e16']
      refine rat_spec RA ?_
      intro h10 w e10 hw
      obtain ⟨ps, rfl⟩ := hw.here.shape
      simp
      refine ef_store_box (bP.ext e10) rfl rfl (by simp) ?_
      intro h11 bP11 m11
      have lP := bP.lt
      have hw11 := hw.step m11 (fun j hj => by omega)
      have x11 : Ext h h11 := Mod.ext (xP.trans e10) m11 (fun j hj => by have := x0.size; omega)
      have y11 : Ext h8 h11 := Mod.ext (eP.trans e10) m11 (fun j hj => by omega)
      have hs : starW i = ([(wVert, 0)], 4) := by unfold starW; rw [if_pos e16]; rfl
      simp [(bB8.ext y11).hc, rd_blk (bB8.ext y11), rd_blk bP11]
      refine to3_spec L.To3 L.To2 (hN.ext y11) (by show (starV i).length ≤ 1000; rw [starV_len]; omega) (by show (starA i b).length ≤ 1000; rw [starA_len]; omega) (by simp [starN]) star_bc ?_
      intro h12 a1 a2 a3 e12 r12
      simp [rd_blk (bP11.ext e12)]
      refine ncheck_spec L.N1 L.T r12 ?_
      intro v h13 e13 hv
      rw [law] at hv
      simp [rd_blk ((bP11.ext e12).ext e13)]
      refine tells_spec (ps := [(wVert, 0)]) (c := 4) L.Tells E (((x11.trans e12).trans e13).hc hg (fun h => h)) ((hw11.ext (e12.trans e13)).here) ?_ (by simp) (by simp) ?_
      · rw [hs] at hv
        exact hv.here
      intro h14 e14
      simp
      exact hr _ (((x11.trans e12).trans e13).trans e14)
    · have e16' : ¬ (16 : Int) < i := by omega
      have y11 := eP
      have hs : starW i = wOK := by unfold starW; rw [if_neg e16]
      simp [e16', (bB8.ext y11).hc, rd_blk (bB8.ext y11), rd_blk bP]
      refine to3_spec L.To3 L.To2 (hN.ext y11) (by show (starV i).length ≤ 1000; rw [starV_len]; omega) (by show (starA i b).length ≤ 1000; rw [starA_len]; omega) (by simp [starN]) star_bc ?_
      intro h12 a1 a2 a3 e12 r12
      simp [rd_blk (bP.ext e12)]
      refine ncheck_spec L.N1 L.T r12 ?_
      intro v h13 e13 hv
      rw [law, hs] at hv
      simp [rd_blk ((bP.ext e12).ext e13)]
      refine tells_spec (ps := []) (c := 0) L.Tells E (((xP.trans e12).trans e13).hc hg (fun h => h)) ((FWr.ok (lo := 0) (h := h13)).here) hv.here (by simp) (by simp) ?_
      intro h14 e14
      simp
      exact hr _ (((xP.trans e12).trans e13).trans e14)
  have cont : ∀ h2, Ext hB h2 → Blk h2 C #[.int .i64 (starT d b).i, .int .i64 (starT d b).o, .slice none 0 0] → ∀ (v12 : Value), Stmt.wp Y S_rlaw3_NetDegrees.body.rest.rest.rest.rest.rest.rest.rest (resP S_rlaw3_NetDegrees.res R) (fun _ _ _ => False) (resP S_rlaw3_NetDegrees.res R)
      [.int .u8 a, .bool b, .bool false, .int .i64 d, .pointer (some ⟨B, 0, none⟩), .pointer (some ⟨C, 0, none⟩), undef, undef, undef, undef, .bool false, .bool !b, v12, undef, undef, undef, undef] h2 := by
    intro h2 x2 bC2 v12
    have bB2 := bB.ext x2
    simp [S_rlaw3_NetDegrees, Stmt.rest, rd_blk bC2]
    refine ef_bslice_all rfl rfl rfl ?_ (by omega)
    intro U hU gU bU eU oU
    simp at oU
    have lU := bU.lt
    have z2 := x2.size
    simp
    refine stB (bB2.ext eU) (by simp) ?_
    intro h3 bB3 m3
    have oU3 := oU.mod m3 (fun _ hj => by simp at hj; omega)
    have oV3 := ((oV.ext' (eB.trans x2)).ext' eU).mod m3 (fun _ hj => by simp at hj; omega)
    simp [sem_bld1]
    refine new_store (vs := #[.int .i64 1, .int .i64 0, .slice none 0 0]) rfl rfl (by simp) ?_
    intro D hDp gD bDp eDp stD1
    simp
    refine stD1 _ ?_
    intro hD bD eD
    clear stD1 bDp eDp
    have z3 := m3.size
    have xD : Ext h1 hD := Mod.ext (((eV.trans (eB.trans x2)).trans eU)) m3 (fun j hj => by omega) |>.trans eD
    have bB5 := bB3.ext eD
    simp at bB5
    cases b with
    | true =>
      simp [-SeqK_ap]
      rw [SeqK_ap]
      simp [-SeqK_ap]
      rw [SeqK_ap]
      simp [sem_bld2, -SeqK_ap]
      refine ef_store_box bD rfl rfl (by simp) ?_
      intro h4 bD4 m4
      have lD := bD.lt
      simp [-SeqK_ap]
      rw [SeqK_ap]
      exact cont2 U D h4 (Mod.ext xD m4 (fun j hj => by omega)) (m4.blk bB5 (by omega)) ((oV3.ext' eD).mod m4 (fun _ hj => by simp at hj; omega)) ((oU3.ext' eD).mod m4 (fun _ hj => by simp at hj; omega)) (by simpa [starO] using bD4) (by omega) _ _ _
    | false =>
      simp [-SeqK_ap]
      rw [SeqK_ap]
      simp [-SeqK_ap]
      rw [SeqK_ap]
      simp [-SeqK_ap]
      rw [SeqK_ap]
      exact cont2 U D hD xD bB5 (oV3.ext' eD) (oU3.ext' eD) (by simpa [starO] using bD) (by omega) _ _ _
  simp only [S_rlaw3_NetDegrees, Stmt.rest] at cont
  cases b with
  | true =>
    simp [-SeqK_ap]
    iterate 3
      rw [SeqK_ap]
      simp [-SeqK_ap]
    by_cases c : 16 < d
    · have c' : (16 : Int) < d := by omega
      rw [SeqK_ap]
      simp [c', sem_build0, -SeqK_ap]
      refine s1 _ _ _ eC bC rfl 0 0 ?_
      intro h3 x3 b3
      simp [-SeqK_ap]
      rw [SeqK_ap]
      exact cont h3 x3 (by simpa [starT, c] using b3) _
    · have c' : ¬ (16 : Int) < d := by omega
      rw [SeqK_ap]
      simp [c', -SeqK_ap]
      rw [SeqK_ap]
      exact cont hC eC (by simpa [starT, c] using bC) _
  | false =>
    simp [-SeqK_ap]
    rw [SeqK_ap]
    simp [-SeqK_ap]
    rw [SeqK_ap]
    simp [sem_bld2, -SeqK_ap]
    refine s1 _ _ _ eC bC rfl 0 d ?_
    intro h2 x2 b2
    simp [-SeqK_ap]
    rw [SeqK_ap]
    simp [-SeqK_ap]
    by_cases c : 16 < d
    · have c' : (16 : Int) < d := by omega
      rw [SeqK_ap]
      simp [c', sem_build0, -SeqK_ap]
      refine s1 _ _ _ x2 b2 rfl 0 0 ?_
      intro h3 x3 b3
      simp [-SeqK_ap]
      rw [SeqK_ap]
      exact cont h3 x3 (by simpa [starT, c] using b3) _
    · have c' : ¬ (16 : Int) < d := by omega
      rw [SeqK_ap]
      simp [c', -SeqK_ap]
      rw [SeqK_ap]
      exact cont h2 x2 (by simpa [starT, c] using b2) _
end
end Go.Rm
