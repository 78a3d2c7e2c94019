/- Numbers in bytes: rows of bytes; readers. -/
import Derived.Test.YtghpbaebbljppaaDoorRLaw2
import Derived.Test.YtghpbaebbljppaaDoorSWire
set_option linter.unusedSimpArgs false
set_option linter.unusedVariables false
namespace Go.Rm

def bytesL (l : List Nat) : List Value := l.map fun (k : Nat) => Value.int .u8 (k : Int)
theorem bytesL_get {l : List Nat} {i : Nat} (h : i < l.length) : (bytesL l)[i]? = some (.int .u8 (nth l i : Int)) := by
  simp [bytesL, nth, h]
@[simp] theorem bytesL_len {l : List Nat} : (bytesL l).length = l.length := by simp [bytesL]
theorem bytesL_one {l : List Nat} : ∀ v ∈ bytesL l, v.oneCell' = true := by
  intro v hv
  simp only [bytesL, List.mem_map] at hv
  obtain ⟨k, _, rfl⟩ := hv
  rfl

section
variable {Y : Sys} {h h' : Heap}

theorem Own.sp {sz : Nat} {s : Sl} {cells : List Value} (o : Own h sz s cells) : s.sp = none := by
  rcases o.2 with ⟨rfl, _⟩ | ⟨_, _, h, _⟩
  · rfl
  · exact h

/-- a row of bytes that is read -/
structure RowB (h : Heap) (s : Sl) (bs : List Nat) : Prop where
  ok : s.ok
  len : bs.length = s.n
  val : ∀ i, i < bs.length → hc h s.b (s.o + i) = some (.int .u8 (nth bs i : Int))
  lt : ∀ i, i < bs.length → nth bs i < 256
theorem RowB.ext {s : Sl} {bs : List Nat} (r : RowB h s bs) (he : Ext h h') : RowB h' s bs := ⟨r.ok, r.len, fun i hi => he.hc (r.val i hi) (fun h => h), r.lt⟩
theorem RowB.mod {S : Nat → Prop} {s : Sl} {bs : List Nat} (r : RowB h s bs) (he : Mod S h h') (hs : bs ≠ [] → ¬ S s.b) : RowB h' s bs :=
  ⟨r.ok, r.len, fun i hi => he.hc (r.val i hi) (hs (by intro e; rw [e] at hi; simp at hi)), r.lt⟩
theorem RowB.at {s : Sl} {bs : List Nat} {i : Nat} (r : RowB h s bs) (hi : i < s.n) : hc h s.b (s.o + i) = some (.int .u8 (nth bs i : Int)) := r.val i (by rw [r.len]; exact hi)
theorem Own.rowB {s : Sl} {bs : List Nat} (o : Own h 1 s (bytesL bs)) (hl : ∀ i, i < bs.length → nth bs i < 256) : RowB h s bs :=
  ⟨o.ok, by have := o.1; simpa using this, fun i hi => o.cell (bytesL_get hi), hl⟩
theorem rd_rowB {s : Sl} {bs : List Nat} (r : RowB h s bs) : rd h s.b s.o bs.length = some (bytesL bs) := by
  have := rd_of (h := h) (b := s.b) (l := bytesL bs) (o := s.o) fun i v hi => by
    have hi' : i < bs.length := by
      have := (List.getElem?_eq_some_iff.1 hi).1
      simpa using this
    rw [bytesL_get hi'] at hi
    cases hi
    exact r.val i hi'
  simpa using this
theorem srcOf_rowB {s : Sl} {bs : List Nat} (r : RowB h s bs) : srcOf h 1 s.n s.v = some (bytesL bs) := by
  have hr := rd_rowB r
  rw [r.len] at hr
  unfold Sl.v
  cases hnl : s.nl with
  | true =>
    have : bs = [] := List.eq_nil_of_length_eq_zero (by rw [r.len]; exact (r.ok.nil hnl).1)
    subst this
    rfl
  | false =>
    cases hsp : s.sp with
    | none => simp only [Bool.false_eq_true, if_false, srcOf, Nat.mul_one]; exact hr
    | some q =>
      have h0 : s.n = 0 := by
        have := r.ok.spot.resolve_left (by rw [hsp]; simp)
        have := r.ok.le; omega
      have : bs = [] := List.eq_nil_of_length_eq_zero (by rw [r.len]; exact h0)
      subst this
      simp [srcOf, h0, bytesL]

/-- append(own, bytes...) -/
theorem ef_appendB {K : Value → Heap → Prop} {s : Sl} {bs : List Nat} (r : RowB h s bs) {h0 : Heap} {s0 : Sl} {cs : List Nat} (o : Own h 1 s0 (bytesL cs)) (hn : s0.n + s.n ≤ 1000000) (hb : s0.nl = true ∨ h0.size ≤ s0.b) (he : Ext h0 h)
    (hk : ∀ (s' : Sl) (h' : Heap), Own h' 1 s' (bytesL (cs ++ bs)) → (s'.nl = true ∨ h0.size ≤ s'.b) → Ext h0 h' → Mod (fun j => s0.nl = false ∧ j = s0.b) h h' → K s'.v h') : Ef.wp h K (.append 1 1 #[.int .u8 0]) [s0.v, s.v] := by
  refine ef_append_own o (m := s.n) (nw := bytesL bs) lenV_slv (srcOf_rowB r) (by simp [r.len]) bytesL_one rfl (by omega) (by omega) ?_
  intro s' h' o' hn' hm hs'
  refine hk s' h' (by simpa [bytesL] using o') ?_ ?_ hm
  · rcases hs' with ⟨e1, e2⟩ | ⟨e1, e2⟩
    · rw [e1, e2]; exact hb
    · have := he.size; exact .inr (by omega)
  · refine Mod.ext he hm ?_
    rintro b ⟨q1, q2⟩
    rcases hb with hb | hb
    · rw [q1] at hb; cases hb
    · rw [q2]; exact hb

theorem cloneB_spec (HC : Y.Has F.slices_Clone_byte_byte S_slices_Clone_byte_byte) {s : Sl} {bs : List Nat} (r : RowB h s bs) (hbig : s.n ≤ 1000000) {R : Value → Heap → Prop}
    (hr : ∀ h' s', Ext h h' → Own h' 1 s' (bytesL bs) → (s'.nl = true ∨ h.size ≤ s'.b) → R s'.v h') : CallP Y F.slices_Clone_byte_byte [s.v] h R := by
  refine .of_has HC rfl ?_
  cases hnl : s.nl with
  | true =>
    have : bs = [] := List.eq_nil_of_length_eq_zero (by rw [r.len]; exact (r.ok.nil hnl).1)
    subst this
    simp [S_slices_Clone_byte_byte, FnS.wp, hnl]
    exact hr h Sl.nil (Mod.refl h) Own.nil (.inl rfl)
  | false =>
    simp [S_slices_Clone_byte_byte, FnS.wp, hnl, ef_bslice0]
    intro t
    have e1 : Ext h (h.push (.cells #[] t)) := Mod.push
    refine ef_appendB (r.ext e1) (cs := []) own_empty (by simp; omega) (.inr (Nat.le_refl _)) e1 ?_
    intro s' h' o hb he _
    simp
    exact hr h' s' he (by simpa using o) hb

abbrev wByte : ByteArray := ⟨#[98, 121, 116, 101]⟩
def byteW (at' e : Int) : Wr := ([(wByte, at')], e)

/-- a reader in memory: its bytes, the place, the first error -/
structure RdR (h : Heap) (p : Nat) (bs : List Nat) (at' : Nat) (bad : Int) (s : Sl) : Prop where
  blk : Blk h p #[s.v, .int .i64 at', .int .i64 bad]
  row : RowB h s bs
  ne : bs ≠ [] → s.b ≠ p
  le : at' ≤ bs.length
  big : bs.length ≤ 1000000

theorem RdR.ext {p at' : Nat} {bs : List Nat} {bad : Int} {s : Sl} (r : RdR h p bs at' bad s) (he : Ext h h') : RdR h' p bs at' bad s := ⟨r.blk.ext he, r.row.ext he, r.ne, r.le, r.big⟩
theorem RdR.other {p q at' : Nat} {bs : List Nat} {bad : Int} {s : Sl} (r : RdR h p bs at' bad s) (hm : Mod (fun j => j = q) h h') (h1 : p ≠ q) (h2 : bs ≠ [] → s.b ≠ q) : RdR h' p bs at' bad s :=
  ⟨hm.blk r.blk h1, r.row.mod hm h2, r.ne, r.le, r.big⟩

structure WireFns (Y : Sys) : Prop where
  New : Y.Has F.wire_New S_wire_New
  At : Y.Has F.wire_Reader_At S_wire_Reader_At
  Err : Y.Has F.wire_Reader_Err S_wire_Reader_Err
  Done : Y.Has F.wire_Reader_Done S_wire_Reader_Done
  Bytes : Y.Has F.wire_Reader_Bytes S_wire_Reader_Bytes
  RUint : Y.Has F.wire_Reader_Uint S_wire_Reader_Uint
  RInt : Y.Has F.wire_Reader_Int S_wire_Reader_Int
  scan : Y.Has F.wire_scan S_wire_scan
  Uint : Y.Has F.wire_Uint S_wire_Uint
  Int : Y.Has F.wire_Int S_wire_Int
  Sum : Y.Has F.wire_Sum S_wire_Sum
  Clone : Y.Has F.slices_Clone_byte_byte S_slices_Clone_byte_byte

theorem sem_build3b {z0 z1 z2 : Value} {s : Sl} : IOp.sem Y h (.build #[z0, z1, z2] [(0, 1), (1, 1), (2, 1)] [0]) [s.v] = some (.agg #[s.v, z1, z2]) := by
  simp [IOp.sem, Instr.fill, cells_slv]

theorem wnew_spec (W : WireFns Y) {s : Sl} {bs : List Nat} (r : RowB h s bs) (hbig : s.n ≤ 1000000) {R : Value → Heap → Prop}
    (hr : ∀ h' p s', Ext h h' → RdR h' p bs 0 0 s' → h.size ≤ p → (bs ≠ [] → h.size ≤ s'.b) → R (.pointer (some ⟨p, 0, none⟩)) h') : CallP Y F.wire_New [s.v] h R := by
  refine .of_has W.New rfl ?_
  simp [S_wire_New, FnS.wp]
  refine cloneB_spec W.Clone r hbig ?_
  intro h1 s' e1 o1 hs'
  simp [sem_build3b]
  refine ef_new_box ?_
  intro p h2 g2 B2 e2
  simp
  have z1 := e1.size
  have hl := r.len
  have hb : bs ≠ [] → h.size ≤ s'.b ∧ s'.b < h1.size := by
    intro hne
    have hnl : s'.nl = false := by
      have h0 : 0 < (bytesL bs).length := by
        rw [bytesL_len]
        exact List.length_pos_iff.2 hne
      obtain ⟨_, _, _, hnl⟩ := o1.blk h0
      exact hnl
    exact ⟨hs'.resolve_left (by rw [hnl]; simp), o1.lt hnl⟩
  refine hr h2 p s' (e1.trans e2) ⟨B2, (o1.rowB r.lt).ext e2, fun hne => by have := hb hne; omega, by simp, by omega⟩ (by omega) (fun hne => (hb hne).1)

theorem rat'_spec (W : WireFns Y) {p at' : Nat} {bs : List Nat} {bad : Int} {s : Sl} (r : RdR h p bs at' bad s) {R : Value → Heap → Prop} (hr : R (.int .i64 at') h) : CallP Y F.wire_Reader_At [.pointer (some ⟨p, 0, none⟩)] h R := by
  refine .of_has W.At rfl ?_
  simp [S_wire_Reader_At, FnS.wp, r.blk.hc, hr]

def rdW (at' : Nat) (bad : Int) : Wr := if bad = 0 then wOK else byteW at' bad
def doneW (bs : List Nat) (at' : Nat) (bad : Int) : Wr := if bad ≠ 0 then byteW at' bad else if at' < bs.length then byteW at' 4 else wOK

theorem rerr_spec (W : WireFns Y) {p at' : Nat} {bs : List Nat} {bad : Int} {s : Sl} (r : RdR h p bs at' bad s) {R : Value → Heap → Prop} (hr : ∀ h' v, Ext h h' → FErr Y h.size h' (rdW at' bad) v → R v h') :
    CallP Y F.wire_Reader_Err [.pointer (some ⟨p, 0, none⟩)] h R := by
  refine .of_has W.Err rfl ?_
  by_cases h0 : bad = 0
  · have hw : rdW at' bad = wOK := by simp [rdW, h0]
    rw [hw] at hr
    simp [S_wire_Reader_Err, FnS.wp, r.blk.hc, h0]
    exact hr h _ (Mod.refl h) FErr.ok
  · have hw : rdW at' bad = byteW at' bad := by simp [rdW, h0]
    rw [hw] at hr
    simp [S_wire_Reader_Err, FnS.wp, r.blk.hc, h0]
    refine ef_new_box ?_
    intro b h1 g1 B1 e1
    simp
    exact hr h1 _ e1 (fun h' m => fault_at (m.blk B1 (by omega)) h0)

theorem rdone_spec (W : WireFns Y) {p at' : Nat} {bs : List Nat} {bad : Int} {s : Sl} (r : RdR h p bs at' bad s) {R : Value → Heap → Prop} (hr : ∀ h' v, Ext h h' → FErr Y h.size h' (doneW bs at' bad) v → R v h') :
    CallP Y F.wire_Reader_Done [.pointer (some ⟨p, 0, none⟩)] h R := by
  refine .of_has W.Done rfl ?_
  simp [S_wire_Reader_Done, FnS.wp]
  refine rerr_spec W r ?_
  intro h1 v e1 hv
  have r1 := r.ext e1
  by_cases h0 : bad = 0
  · have hw : (rdW at' bad).2 = 0 := by simp [rdW, h0, wOK]
    have := hv.here.nil hw
    subst this
    have hl := r.row.len
    by_cases hlt : at' < bs.length
    · have hw : doneW bs at' bad = byteW at' 4 := by simp [doneW, h0, hlt]
      rw [hw] at hr
      have hlt' : (at' : Int) < s.n := by omega
      simp [r1.blk.hc, hlt']
      refine ef_new_box ?_
      intro b h2 g2 B2 e2
      simp
      have := e1.size
      exact hr h2 _ (e1.trans e2) (fun h' m => fault_at (m.blk B2 (by omega)) (by omega))
    · have hw : doneW bs at' bad = wOK := by simp [doneW, h0, hlt]
      rw [hw] at hr
      have hlt' : ¬ (at' : Int) < s.n := by omega
      simp [r1.blk.hc, hlt']
      exact hr h1 _ e1 FErr.ok
  · have hw : doneW bs at' bad = rdW at' bad := by simp [doneW, rdW, h0]
    rw [hw] at hr
    obtain ⟨t, u, hv'⟩ := hv.here.iface (by simp [rdW, h0, byteW])
    subst hv'
    simp
    exact hr h1 _ e1 hv
end
end Go.Rm
