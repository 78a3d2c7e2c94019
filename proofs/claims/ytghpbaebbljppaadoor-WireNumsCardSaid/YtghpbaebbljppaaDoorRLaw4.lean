/- The laws of numbers in bytes: known. -/
import Derived.Test.YtghpbaebbljppaaDoorRWire5
import Derived.Test.YtghpbaebbljppaaDoorSRlaw4
set_option linter.unusedSimpArgs false
set_option linter.unusedVariables false
namespace Go.Rm

structure RefWire (Y : Sys) : Prop where
  At : Y.Has F.rref6_At S_rref6_At
  Uint : Y.Has F.rref6_Uint S_rref6_Uint
  Int : Y.Has F.rref6_Int S_rref6_Int
  SumOf : Y.Has F.rref6_SumOf S_rref6_SumOf

theorem byteW_kind {a e : Int} (he : e ≠ 0) : ((byteW a e).2 ≠ 0 → 0 < (byteW a e).1.length) ∧ (byteW a e).1.length ≤ 4 := ⟨fun _ => by simp [byteW], by simp [byteW]⟩

section
variable {Y : Sys} {h : Heap}

theorem tellsB (HT : Y.Has F.rlaw1_Tells S_rlaw1_Tells) (E : ErrSys Y) {a e : Int} (he : e ≠ 0) {err wv : Value} (hg : hc h E.gb 0 = some E.hv) (hw : WrongV h (byteW a e).1 (byteW a e).2 wv) (hv : Err Y h (byteW a e) err)
    {R : Value → Heap → Prop} (hr : ∀ h', Ext h h' → R (.bool true) h') : CallP Y F.rlaw1_Tells [err, wv] h R :=
  tells_spec HT E hg hw hv (byteW_kind he).1 (byteW_kind he).2 hr

theorem encU_lt {v : Nat} (hv : v < 2 ^ 64) : ∀ x ∈ encU v, x < 256 := encF_lt (k := 9) (by simpa using Nat.lt_of_lt_of_le hv (by decide))

theorem sb_eq {a b : List Nat} (ha : ∀ x ∈ a, x < 256) (hb : ∀ x ∈ b, x < 256) : sbin .eql (strB a) (strB b) = some (.bool (decide (a = b))) := by
  rw [sbin_eql, strB_eq ha hb]
theorem sb_ne {a b : List Nat} (ha : ∀ x ∈ a, x < 256) (hb : ∀ x ∈ b, x < 256) : sbin .neq (strB a) (strB b) = some (.bool !(decide (a = b))) := by
  rw [sbin_neq, strB_eq ha hb]

theorem sumB_lt {bs : List Nat} : ∀ x ∈ sumB bs, x < 256 := by
  have := sumF_lt (bs := bs) (a := 0) (c := 0) (by omega) (by omega)
  intro x hx
  simp only [sumB, List.mem_cons, List.not_mem_nil, or_false] at hx
  omega

theorem Mod.toExt {p : Nat} {h0 h h' : Heap} (x : Ext h0 h) (m : Mod (fun j => j = p) h h') (hp : h0.size ≤ p) : Ext h0 h' := Mod.ext x m (fun j hj => by omega)

theorem known4_spec (HK : Y.Has F.rlaw4_known S_rlaw4_known) (W : WireFns Y) (RW : RefWire Y) (HT : Y.Has F.rlaw1_Tells S_rlaw1_Tells) (E : ErrSys Y) (hg : hc h E.gb 0 = some E.hv) {R : Value → Heap → Prop} (hr : ∀ h', Ext h h' → R (.bool true) h') :
    CallP Y F.rlaw4_known [] h R := by
  have u1 : rdU [172, 2, 3, 7] 0 0 300 = (300, 2, 0) := by decide
  have u2 : rdI [172, 2, 3, 7] 2 0 2 = (-2, 3, 0) := by decide
  have u3 : rdU [128, 0] 0 0 9 = (0, 0, 2) := by decide
  have u4 : rdB [172, 2, 3, 7] 3 0 1 = ([7], 4, 0) := by decide
  refine .of_has HK rfl ?_
  simp [S_rlaw4_known, FnS.wp, ef_bslice4]
  intro t
  have o1 := own_laid (h := h) (bs := [172, 2, 3, 7]) (t := t) (by simp)
  have e1 : Ext h (h.push (.cells #[.int .u8 172, .int .u8 2, .int .u8 3, .int .u8 7] t)) := Mod.push
  have r1 : RowB (h.push (.cells #[.int .u8 172, .int .u8 2, .int .u8 3, .int .u8 7] t)) (Sl.at h.size 4 4) [172, 2, 3, 7] := o1.rowB (by decide)
  generalize h.push (.cells #[.int .u8 172, .int .u8 2, .int .u8 3, .int .u8 7] t) = h1 at *
  refine wnew_spec W (s := Sl.at h.size 4 4) r1 (by simp) ?_
  intro h2 p s2 e2 d2 hp hs2
  have x2 := e1.trans e2
  have z1 := e1.size
  have hp0 : h.size ≤ p := by omega
  simp
  refine ruint_spec W d2 (most := 300) ?_
  intro h3 m3 d3
  rw [u1] at d3 ⊢
  have x3 := Mod.toExt x2 m3 hp0
  simp
  refine rint_spec W d3 (most := 2) ?_
  intro h4 m4 d4
  rw [u2] at d4 ⊢
  have x4 := Mod.toExt x3 m4 hp0
  simp
  refine rdone_spec W d4 ?_
  intro h5 ev e5 hv5
  have d5 := d4.ext e5
  have x5 := x4.trans e5
  have plt : p < h4.size := d4.blk.lt
  rw [show doneW [172, 2, 3, 7] 3 0 = byteW 3 4 from by decide] at hv5
  simp [ef_bslice2]
  intro t
  have o6 := own_laid (h := h5) (bs := [128, 0]) (t := t) (by simp)
  have e6 : Ext h5 (h5.push (.cells #[.int .u8 128, .int .u8 0] t)) := Mod.push
  have r6 : RowB (h5.push (.cells #[.int .u8 128, .int .u8 0] t)) (Sl.at h5.size 2 2) [128, 0] := o6.rowB (by decide)
  generalize h5.push (.cells #[.int .u8 128, .int .u8 0] t) = h6 at *
  refine wnew_spec W (s := Sl.at h5.size 2 2) r6 (by simp) ?_
  intro h7 q s7 e7 d7 hq hs7
  have y7 := e6.trans e7
  have x7 := x5.trans y7
  have z5 := e5.size
  have z6 := e6.size
  have z7 := e7.size
  have plt7 : p < h6.size := by omega
  have hpq : p ≠ q := by omega
  have d57 := d5.ext y7
  have hq0 : h.size ≤ q := by have := x5.size; omega
  have hs2q : [172, 2, 3, 7] ≠ ([] : List Nat) → s2.b ≠ q := by
    intro hne
    have h1 := d5.row.val 0 (by decide)
    have : s2.b < h5.size := by
      rcases Nat.lt_or_ge s2.b h5.size with g | g
      · exact g
      · simp [Rm.hc, Array.getElem?_eq_none g] at h1
    omega
  simp
  refine ruint_spec W d7 (most := 9) ?_
  intro h8 m8 d8
  rw [u3] at d8 ⊢
  have x8 := Mod.toExt x7 m8 hq0
  have d58 := d57.other m8 hpq hs2q
  have hv8 : FErr Y h4.size h8 (byteW 3 4) ev := by
    have := hv5.ext y7
    intro h'' m''
    exact hv5 h'' (Mod.then ((Mod.then (y7.mono fun _ _ h => h.elim) m8 (fun i hi hS => by omega) : Mod (fun j => j < h4.size) h5 h8)) m'' (fun i hi h => h))
  simp
  refine wuint_spec W.Uint (v := 300) (by decide) ?_
  intro h9 s9 e9 o9 _
  have r9 := o9.rowB (lt_mem (encU_lt (v := 300) (by decide)))
  simp [sem_b2s r9 o9.sp]
  rw [show (⟨#[172, 2]⟩ : ByteArray) = strB [172, 2] from rfl, sb_eq (encU_lt (v := 300) (by decide)) (by decide), show decide (encU 300 = [172, 2]) = true from by decide]
  simp
  refine wint_spec W.Int W.Uint (v := -2) (by omega) ?_
  intro h10 s10 e10 o10 _
  have r10 := o10.rowB (lt_mem (encU_lt (v := zz (-2)) (by decide)))
  simp [sem_b2s r10 o10.sp]
  rw [show (⟨#[3]⟩ : ByteArray) = strB [3] from rfl, sb_eq (encU_lt (v := zz (-2)) (by decide)) (by decide), show decide (encU (zz (-2)) = [3]) = true from by decide]
  have y10 := e9.trans e10
  have d510 := d58.ext y10
  have d10 := d8.ext y10
  have x10 := x8.trans y10
  simp
  refine rat'_spec W d510 ?_
  simp
  refine rerr_spec W d510 ?_
  intro h11 v11 e11 hv11
  have := hv11.here.nil (by decide)
  subst this
  have x11 := x10.trans e11
  simp
  refine rat_spec RW.At ?_
  intro h12 v12 e12 hv12
  have x12 := x11.trans e12
  have y12 := (y10.trans e11).trans e12
  simp
  refine tellsB HT E (a := 3) (e := 4) (by omega) (x12.hc hg (fun h => h)) hv12.here ((hv8.ext y12).here) ?_
  intro h13 e13
  have x13 := x12.trans e13
  have y13 := (e11.trans e12).trans e13
  have d513 := d510.ext y13
  have d13 := d10.ext y13
  simp
  refine rbytes_spec W d513 (n := 1) (by omega) ?_
  intro h14 s14 m14 d514 r14 sp14 _
  rw [u4] at d514 r14
  have x14 := Mod.toExt x13 m14 hp0
  have hs7p : [128, 0] ≠ ([] : List Nat) → s7.b ≠ p := fun hne => by have := hs7 hne; omega
  have d14 := d13.other m14 (fun h => hpq h.symm) hs7p
  simp [sem_b2s r14 sp14]
  rw [show (⟨#[7]⟩ : ByteArray) = strB [7] from rfl, sb_eq (by decide) (by decide), show decide ([7] = [7]) = true from by decide]
  simp
  refine rdone_spec W d514 ?_
  intro h15 v15 e15 hv15
  have := hv15.here.nil (by decide)
  subst this
  have x15 := x14.trans e15
  have d15 := d14.ext e15
  simp
  refine rerr_spec W d15 ?_
  intro h16 v16 e16 hv16
  have x16 := x15.trans e16
  simp
  refine rat_spec RW.At ?_
  intro h17 v17 e17 hv17
  have x17 := x16.trans e17
  simp
  refine tellsB HT E (a := 0) (e := 2) (by omega) (x17.hc hg (fun h => h)) hv17.here ?_ ?_
  · have := (hv16.ext e17).here
    rw [show rdW 0 2 = byteW 0 2 from by decide] at this
    exact this
  intro h18 e18
  have x18 := x17.trans e18
  simp [ef_bslice2]
  intro t
  have o19 := own_laid (h := h18) (bs := [1, 2]) (t := t) (by simp)
  have e19 : Ext h18 (h18.push (.cells #[.int .u8 1, .int .u8 2] t)) := Mod.push
  have r19 : RowB (h18.push (.cells #[.int .u8 1, .int .u8 2] t)) (Sl.at h18.size 2 2) [1, 2] := o19.rowB (by decide)
  generalize h18.push (.cells #[.int .u8 1, .int .u8 2] t) = h19 at *
  refine wsum_spec W.Sum (s := Sl.at h18.size 2 2) r19 (by simp) ?_
  intro h20 s20 e20 o20 _ _
  have r20 := o20.rowB (lt_mem sumB_lt)
  simp [sem_b2s r20 o20.sp]
  rw [show (⟨#[3, 0, 4, 0]⟩ : ByteArray) = strB [3, 0, 4, 0] from rfl, sb_eq sumB_lt (by decide), show decide (sumB [1, 2] = [3, 0, 4, 0]) = true from by decide]
  simp
  exact hr _ ((x18.trans e19).trans e20)
end
end Go.Rm
