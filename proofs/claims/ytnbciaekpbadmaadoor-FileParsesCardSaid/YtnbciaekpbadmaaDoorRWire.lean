import Derived.Test.YtnbciaekpbadmaaDoorRLaw2
import Derived.Test.YtnbciaekpbadmaaDoorSNums
import Derived.Laws.Strings

/- Numbers in bytes: rows of bytes; readers. -/
set_option linter.unusedSimpArgs false
set_option linter.unusedVariables false
namespace Go.Rm

def bytesL (l : List Nat) : List Value := l.map fun (k : Nat) => Value.int .u8 (k : Int)
theorem bytesL_get {l : List Nat} {i : Nat} (h : i < l.length) : (bytesL l)[i]? = some (.int .u8 (nth l i : Int)) := by
  simp [bytesL, nth, h]
@[simp] theorem bytesL_len {l : List Nat} : (bytesL l).length = l.length := by simp [bytesL]
theorem bytesL_one {l : List Nat} : ∀ v ∈ bytesL l, v.oneCell' = true := by
  intro v hv
  simp only [bytesL, List.mem_map] at hv
  obtain ⟨k, _, rfl⟩ := hv
  rfl

section
variable {Y : Sys} {h h' : Heap}

theorem Own.sp {sz : Nat} {s : Sl} {cells : List Value} (o : Own h sz s cells) : s.sp = none := by
  rcases o.2 with ⟨rfl, _⟩ | ⟨_, _, h, _⟩
  · rfl
  · exact h

/-- a row of bytes that is read -/
structure RowB (h : Heap) (s : Sl) (bs : List Nat) : Prop where
  ok : s.ok
  len : bs.length = s.n
  val : ∀ i, i < bs.length → hc h s.b (s.o + i) = some (.int .u8 (nth bs i : Int))
  lt : ∀ i, i < bs.length → nth bs i < 256
theorem RowB.ext {s : Sl} {bs : List Nat} (r : RowB h s bs) (he : Ext h h') : RowB h' s bs := ⟨r.ok, r.len, fun i hi => he.hc (r.val i hi) (fun h => h), r.lt⟩
theorem RowB.mod {S : Nat → Prop} {s : Sl} {bs : List Nat} (r : RowB h s bs) (he : Mod S h h') (hs : bs ≠ [] → ¬ S s.b) : RowB h' s bs :=
  ⟨r.ok, r.len, fun i hi => he.hc (r.val i hi) (hs (by intro e; rw [e] at hi; simp at hi)), r.lt⟩
theorem RowB.at {s : Sl} {bs : List Nat} {i : Nat} (r : RowB h s bs) (hi : i < s.n) : hc h s.b (s.o + i) = some (.int .u8 (nth bs i : Int)) := r.val i (by rw [r.len]; exact hi)
theorem Own.rowB {s : Sl} {bs : List Nat} (o : Own h 1 s (bytesL bs)) (hl : ∀ i, i < bs.length → nth bs i < 256) : RowB h s bs :=
  ⟨o.ok, by have := o.1; simpa using this, fun i hi => o.cell (bytesL_get hi), hl⟩
theorem rd_rowB {s : Sl} {bs : List Nat} (r : RowB h s bs) : rd h s.b s.o bs.length = some (bytesL bs) := by
  have := rd_of (h := h) (b := s.b) (l := bytesL bs) (o := s.o) fun i v hi => by
    have hi' : i < bs.length := by
      have := (List.getElem?_eq_some_iff.1 hi).1
      simpa using this
    rw [bytesL_get hi'] at hi
    cases hi
    exact r.val i hi'
  simpa using this
theorem srcOf_rowB {s : Sl} {bs : List Nat} (r : RowB h s bs) : srcOf h 1 s.n s.v = some (bytesL bs) := by
  have hr := rd_rowB r
  rw [r.len] at hr
  unfold Sl.v
  cases hnl : s.nl with
  | true =>
    have : bs = [] := List.eq_nil_of_length_eq_zero (by rw [r.len]; exact (r.ok.nil hnl).1)
    subst this
    rfl
  | false =>
    cases hsp : s.sp with
    | none => simp only [Bool.false_eq_true, if_false, srcOf, Nat.mul_one]; exact hr
    | some q =>
      have h0 : s.n = 0 := by
        have := r.ok.spot.resolve_left (by rw [hsp]; simp)
        have := r.ok.le; omega
      have : bs = [] := List.eq_nil_of_length_eq_zero (by rw [r.len]; exact h0)
      subst this
      simp [srcOf, h0, bytesL]

/-- append(own, bytes...) -/
theorem ef_appendB {K : Value → Heap → Prop} {s : Sl} {bs : List Nat} (r : RowB h s bs) {h0 : Heap} {s0 : Sl} {cs : List Nat} (o : Own h 1 s0 (bytesL cs)) (hn : s0.n + s.n ≤ 1000000) (hb : s0.nl = true ∨ h0.size ≤ s0.b) (he : Ext h0 h)
    (hk : ∀ (s' : Sl) (h' : Heap), Own h' 1 s' (bytesL (cs ++ bs)) → (s'.nl = true ∨ h0.size ≤ s'.b) → Ext h0 h' → Mod (fun j => s0.nl = false ∧ j = s0.b) h h' → K s'.v h') : Ef.wp h K (.append 1 1 #[.int .u8 0]) [s0.v, s.v] := by
  refine ef_append_own o (m := s.n) (nw := bytesL bs) lenV_slv (srcOf_rowB r) (by simp [r.len]) bytesL_one rfl (by omega) (by omega) ?_
  intro s' h' o' hn' hm hs'
  refine hk s' h' (by simpa [bytesL] using o') ?_ ?_ hm
  · rcases hs' with ⟨e1, e2⟩ | ⟨e1, e2⟩
    · rw [e1, e2]; exact hb
    · have := he.size; exact .inr (by omega)
  · refine Mod.ext he hm ?_
    rintro b ⟨q1, q2⟩
    rcases hb with hb | hb
    · rw [q1] at hb; cases hb
    · rw [q2]; exact hb

theorem cloneB_spec (HC : Y.Has F.slices_Clone_byte_byte S_slices_Clone_byte_byte) {s : Sl} {bs : List Nat} (r : RowB h s bs) (hbig : s.n ≤ 1000000) {R : Value → Heap → Prop}
    (hr : ∀ h' s', Ext h h' → Own h' 1 s' (bytesL bs) → (s'.nl = true ∨ h.size ≤ s'.b) → R s'.v h') : CallP Y F.slices_Clone_byte_byte [s.v] h R := by
  refine .of_has HC rfl ?_
  cases hnl : s.nl with
  | true =>
    have : bs = [] := List.eq_nil_of_length_eq_zero (by rw [r.len]; exact (r.ok.nil hnl).1)
    subst this
    simp [S_slices_Clone_byte_byte, FnS.wp, hnl]
    exact hr h Sl.nil (Mod.refl h) Own.nil (.inl rfl)
  | false =>
    simp [S_slices_Clone_byte_byte, FnS.wp, hnl, ef_bslice0]
    intro t
    have e1 : Ext h (h.push (.cells #[] t)) := Mod.push
    refine ef_appendB (r.ext e1) (cs := []) own_empty (by simp; omega) (.inr (Nat.le_refl _)) e1 ?_
    intro s' h' o hb he _
    simp
    exact hr h' s' he (by simpa using o) hb

abbrev wByte : ByteArray := ⟨#[98, 121, 116, 101]⟩
def byteW (at' e : Int) : Wr := ([(wByte, at')], e)

/-- a reader in memory: its bytes, the place, the first error -/
structure RdR (h : Heap) (p : Nat) (bs : List Nat) (at' : Nat) (bad : Int) (s : Sl) : Prop where
  blk : Blk h p #[s.v, .int .i64 at', .int .i64 bad]
  row : RowB h s bs
  ne : bs ≠ [] → s.b ≠ p
  le : at' ≤ bs.length
  big : bs.length ≤ 1000000

theorem RdR.ext {p at' : Nat} {bs : List Nat} {bad : Int} {s : Sl} (r : RdR h p bs at' bad s) (he : Ext h h') : RdR h' p bs at' bad s := ⟨r.blk.ext he, r.row.ext he, r.ne, r.le, r.big⟩
theorem RdR.other {p q at' : Nat} {bs : List Nat} {bad : Int} {s : Sl} (r : RdR h p bs at' bad s) (hm : Mod (fun j => j = q) h h') (h1 : p ≠ q) (h2 : bs ≠ [] → s.b ≠ q) : RdR h' p bs at' bad s :=
  ⟨hm.blk r.blk h1, r.row.mod hm h2, r.ne, r.le, r.big⟩

structure WireFns (Y : Sys) : Prop where
  New : Y.Has F.wire_New S_wire_New
  Err : Y.Has F.wire_Reader_Err S_wire_Reader_Err
  Done : Y.Has F.wire_Reader_Done S_wire_Reader_Done
  RUint : Y.Has F.wire_Reader_Uint S_wire_Reader_Uint
  RInt : Y.Has F.wire_Reader_Int S_wire_Reader_Int
  scan : Y.Has F.wire_scan S_wire_scan
  Uint : Y.Has F.wire_Uint S_wire_Uint
  Int : Y.Has F.wire_Int S_wire_Int
  Sum : Y.Has F.wire_Sum S_wire_Sum
  Clone : Y.Has F.slices_Clone_byte_byte S_slices_Clone_byte_byte

theorem sem_build3b {z0 z1 z2 : Value} {s : Sl} : IOp.sem Y h (.build #[z0, z1, z2] [(0, 1), (1, 1), (2, 1)] [0]) [s.v] = some (.agg #[s.v, z1, z2]) := by
  simp [IOp.sem, Instr.fill, cells_slv]

theorem wnew_spec (W : WireFns Y) {s : Sl} {bs : List Nat} (r : RowB h s bs) (hbig : s.n ≤ 1000000) {R : Value → Heap → Prop}
    (hr : ∀ h' p s', Ext h h' → RdR h' p bs 0 0 s' → h.size ≤ p → (bs ≠ [] → h.size ≤ s'.b) → R (.pointer (some ⟨p, 0, none⟩)) h') : CallP Y F.wire_New [s.v] h R := by
  refine .of_has W.New rfl ?_
  simp [S_wire_New, FnS.wp]
  refine cloneB_spec W.Clone r hbig ?_
  intro h1 s' e1 o1 hs'
  simp [sem_build3b]
  refine ef_new_box ?_
  intro p h2 g2 B2 e2
  simp
  have z1 := e1.size
  have hl := r.len
  have hb : bs ≠ [] → h.size ≤ s'.b ∧ s'.b < h1.size := by
    intro hne
    have hnl : s'.nl = false := by
      have h0 : 0 < (bytesL bs).length := by
        rw [bytesL_len]
        exact List.length_pos_iff.2 hne
      obtain ⟨_, _, _, hnl⟩ := o1.blk h0
      exact hnl
    exact ⟨hs'.resolve_left (by rw [hnl]; simp), o1.lt hnl⟩
  refine hr h2 p s' (e1.trans e2) ⟨B2, (o1.rowB r.lt).ext e2, fun hne => by have := hb hne; omega, by simp, by omega⟩ (by omega) (fun hne => (hb hne).1)

def rdW (at' : Nat) (bad : Int) : Wr := if bad = 0 then wOK else byteW at' bad
def doneW (bs : List Nat) (at' : Nat) (bad : Int) : Wr := if bad ≠ 0 then byteW at' bad else if at' < bs.length then byteW at' 4 else wOK

theorem rerr_spec (W : WireFns Y) {p at' : Nat} {bs : List Nat} {bad : Int} {s : Sl} (r : RdR h p bs at' bad s) {R : Value → Heap → Prop} (hr : ∀ h' v, Ext h h' → FErr Y h.size h' (rdW at' bad) v → R v h') :
    CallP Y F.wire_Reader_Err [.pointer (some ⟨p, 0, none⟩)] h R := by
  refine .of_has W.Err rfl ?_
  by_cases h0 : bad = 0
  · have hw : rdW at' bad = wOK := by simp [rdW, h0]
    rw [hw] at hr
    simp [S_wire_Reader_Err, FnS.wp, r.blk.hc, h0]
    exact hr h _ (Mod.refl h) FErr.ok
  · have hw : rdW at' bad = byteW at' bad := by simp [rdW, h0]
    rw [hw] at hr
    simp [S_wire_Reader_Err, FnS.wp, r.blk.hc, h0]
    refine ef_new_box ?_
    intro b h1 g1 B1 e1
    simp
    exact hr h1 _ e1 (fun h' m => fault_at (m.blk B1 (by omega)) h0)

theorem rdone_spec (W : WireFns Y) {p at' : Nat} {bs : List Nat} {bad : Int} {s : Sl} (r : RdR h p bs at' bad s) {R : Value → Heap → Prop} (hr : ∀ h' v, Ext h h' → FErr Y h.size h' (doneW bs at' bad) v → R v h') :
    CallP Y F.wire_Reader_Done [.pointer (some ⟨p, 0, none⟩)] h R := by
  refine .of_has W.Done rfl ?_
  simp [S_wire_Reader_Done, FnS.wp]
  refine rerr_spec W r ?_
  intro h1 v e1 hv
  have r1 := r.ext e1
  by_cases h0 : bad = 0
  · have hw : (rdW at' bad).2 = 0 := by simp [rdW, h0, wOK]
    have := hv.here.nil hw
    subst this
    have hl := r.row.len
    by_cases hlt : at' < bs.length
    · have hw : doneW bs at' bad = byteW at' 4 := by simp [doneW, h0, hlt]
      rw [hw] at hr
      have hlt' : (at' : Int) < s.n := by omega
      simp [r1.blk.hc, hlt']
      refine ef_new_box ?_
      intro b h2 g2 B2 e2
      simp
      have := e1.size
      exact hr h2 _ (e1.trans e2) (fun h' m => fault_at (m.blk B2 (by omega)) (by omega))
    · have hw : doneW bs at' bad = wOK := by simp [doneW, h0, hlt]
      rw [hw] at hr
      have hlt' : ¬ (at' : Int) < s.n := by omega
      simp [r1.blk.hc, hlt']
      exact hr h1 _ e1 FErr.ok
  · have hw : doneW bs at' bad = rdW at' bad := by simp [doneW, rdW, h0]
    rw [hw] at hr
    obtain ⟨t, u, hv'⟩ := hv.here.iface (by simp [rdW, h0, byteW])
    subst hv'
    simp
    exact hr h1 _ e1 hv
end
end Go.Rm

/- Numbers in bytes: the plain law. -/
set_option linter.unusedVariables false
namespace Go.Rm

/-- v, seven bits a byte, the lowest first -/
def encF : Nat → Nat → List Nat
  | 0, v => [v]
  | k + 1, v => if v < 128 then [v] else (v % 128 + 128) :: encF k (v / 128)
def encU (v : Nat) : List Nat := encF 9 v

/-- one number at the head of bytes: it, how many bytes it takes, what is wrong -/
def scanF : Nat → Nat → Nat → List Nat → Nat × Nat × Nat
  | 0, _, _, _ => (0, 0, 2)
  | _ + 1, _, _, [] => (0, 0, 3)
  | f + 1, i, acc, x :: r => if 128 ≤ x then scanF f (i + 1) (acc + (x - 128) * 2 ^ (7 * i)) r else if (x = 0 ∧ 0 < i) ∨ (1 < x ∧ i = 9) then (0, 0, 2) else (acc + x * 2 ^ (7 * i), i + 1, 0)
def scanR (bs : List Nat) : Nat × Nat × Nat := scanF 10 0 0 bs

theorem scanF_bound : ∀ {f i acc : Nat} {bs : List Nat}, f + i = 10 → acc < 2 ^ (7 * i) → (∀ x ∈ bs, x < 256) → (scanF f i acc bs).1 < 2 ^ 64 ∧ (scanF f i acc bs).2.1 ≤ i + bs.length ∧ ((scanF f i acc bs).2.2 = 0 → i < (scanF f i acc bs).2.1) ∧ (scanF f i acc bs).2.2 ≤ 3 := by
  intro f
  induction f with
  | zero => intro i acc bs _ _ _; simp [scanF]
  | succ f ih =>
    intro i acc bs hf hacc hb
    cases bs with
    | nil => simp [scanF]
    | cons x r =>
      have hx := hb x (by simp)
      simp only [scanF]
      split
      · rename_i h1
        have hp : 2 ^ (7 * (i + 1)) = 2 ^ (7 * i) * 128 := by rw [show 7 * (i + 1) = 7 * i + 7 by omega, Nat.pow_add]
        have h2 : (x - 128) * 2 ^ (7 * i) ≤ 127 * 2 ^ (7 * i) := Nat.mul_le_mul_right _ (by omega)
        have := ih (i := i + 1) (acc := acc + (x - 128) * 2 ^ (7 * i)) (bs := r) (by omega) (by rw [hp]; omega) (fun y hy => hb y (by simp [hy]))
        refine ⟨this.1, by simp; omega, fun h => by have := this.2.2.1 h; omega, this.2.2.2⟩
      · rename_i h1
        split
        · simp
        · rename_i h2
          refine ⟨?_, by simp, fun _ => by simp, by simp⟩
          show acc + x * 2 ^ (7 * i) < 2 ^ 64
          by_cases h9 : i = 9
          · subst h9
            have hx1 : x ≤ 1 := by omega
            have : x * 2 ^ (7 * 9) ≤ 1 * 2 ^ (7 * 9) := Nat.mul_le_mul_right _ hx1
            have h64 : 2 ^ (7 * 9) + 2 ^ (7 * 9) = 2 ^ 64 := by decide
            omega
          · have h3 : x * 2 ^ (7 * i) ≤ 127 * 2 ^ (7 * i) := Nat.mul_le_mul_right _ (by omega)
            have h4 : 2 ^ (7 * i) * 128 ≤ 2 ^ 63 := by
              rw [show (2 : Nat) ^ (7 * i) * 128 = 2 ^ (7 * i + 7) by rw [Nat.pow_add]]
              exact Nat.pow_le_pow_right (by omega) (by omega)
            have : (2 : Nat) ^ 63 < 2 ^ 64 := by decide
            omega

theorem encF_pos : ∀ {k v : Nat}, 0 < (encF k v).length := by
  intro k v
  cases k with
  | zero => simp [encF]
  | succ k => simp only [encF]; split <;> simp

theorem encF_lt : ∀ {k v : Nat}, v < 2 ^ (7 * k + 7) → ∀ x ∈ encF k v, x < 256 := by
  intro k
  induction k with
  | zero => intro v hv x hx; simp [encF] at hx; subst hx; simp at hv; omega
  | succ k ih =>
    intro v hv x hx
    simp only [encF] at hx
    split at hx
    · simp at hx; omega
    · simp only [List.mem_cons] at hx
      rcases hx with hx | hx
      · omega
      · refine ih (v := v / 128) ?_ x hx
        rw [Nat.div_lt_iff_lt_mul (by omega)]
        rw [show 7 * (k + 1) + 7 = 7 * k + 7 + 7 by omega, Nat.pow_add] at hv
        exact hv

theorem scan_enc : ∀ {k i acc v : Nat} {rest : List Nat}, k + i = 9 → v < 2 ^ (64 - 7 * i) → (0 < i → 0 < v) → scanF (k + 1) i acc (encF k v ++ rest) = (acc + v * 2 ^ (7 * i), i + (encF k v).length, 0) := by
  intro k
  induction k with
  | zero =>
    intro i acc v rest hk hv hpos
    have : i = 9 := by omega
    subst this
    have h2 : v < 2 := by simpa using hv
    have h0 := hpos (by omega)
    simp only [encF, List.cons_append, List.nil_append, scanF]
    rw [if_neg (by omega), if_neg (by omega)]
    simp
  | succ k ih =>
    intro i acc v rest hk hv hpos
    simp only [encF]
    split
    · rename_i h1
      simp only [List.cons_append, List.nil_append, scanF]
      rw [if_neg (by omega), if_neg (by omega)]
      simp
    · rename_i h1
      simp only [List.cons_append]
      rw [scanF]
      rw [if_pos (by omega)]
      have hv' : v / 128 < 2 ^ (64 - 7 * (i + 1)) := by
        rw [Nat.div_lt_iff_lt_mul (by omega)]
        rw [show (2 : Nat) ^ (64 - 7 * (i + 1)) * 128 = 2 ^ (64 - 7 * (i + 1) + 7) by rw [Nat.pow_add]]
        rw [show 64 - 7 * (i + 1) + 7 = 64 - 7 * i by omega]
        exact hv
      rw [ih (i := i + 1) (by omega) hv' (fun _ => Nat.div_pos (by omega) (by omega))]
      have e1 : v % 128 + 128 - 128 = v % 128 := by omega
      have e2 : v = 128 * (v / 128) + v % 128 := (Nat.div_add_mod v 128).symm
      rw [e1, Prod.mk.injEq, Prod.mk.injEq]
      refine ⟨?_, by simp; omega, rfl⟩
      rw [show 7 * (i + 1) = 7 * i + 7 by omega, Nat.pow_add]
      have : v / 128 * (2 ^ (7 * i) * 2 ^ 7) = (128 * (v / 128)) * 2 ^ (7 * i) := by
        rw [show (2 : Nat) ^ 7 = 128 by decide]
        rw [Nat.mul_comm (2 ^ (7 * i)) 128, ← Nat.mul_assoc, Nat.mul_comm (v / 128) 128]
      rw [this, Nat.add_assoc, ← Nat.add_mul, show v % 128 + 128 * (v / 128) = v by omega]

theorem scan_encU {v : Nat} {rest : List Nat} (hv : v < 2 ^ 64) : scanR (encU v ++ rest) = (v, (encU v).length, 0) := by
  unfold scanR encU
  rw [scan_enc (k := 9) (i := 0) (by omega) (by simpa using hv) (by omega)]
  simp

theorem scanF_bound' : ∀ {f i acc : Nat} {bs : List Nat}, (scanF f i acc bs).2.2 = 0 → i < (scanF f i acc bs).2.1 := by
  intro f
  induction f with
  | zero => intro i acc bs h; simp [scanF] at h
  | succ f ih =>
    intro i acc bs h
    cases bs with
    | nil => simp [scanF] at h
    | cons x r =>
      simp only [scanF] at h ⊢
      split at h
      · rename_i h1; rw [if_pos h1]; have := ih h; omega
      · rename_i h1
        rw [if_neg h1]
        split at h
        · simp at h
        · rename_i h2; rw [if_neg h2]; simp


/-- what is read is told again as just these bytes -/
theorem enc_scan : ∀ {f i acc : Nat} {bs : List Nat}, f + i = 10 → (∀ x ∈ bs, x < 256) → (scanF f i acc bs).2.2 = 0 →
    ∃ w, (scanF f i acc bs).1 = acc + w * 2 ^ (7 * i) ∧ encF (f - 1) w = bs.take ((scanF f i acc bs).2.1 - i) ∧ (0 < i → 0 < w) := by
  intro f
  induction f with
  | zero => intro i acc bs _ _ h; simp [scanF] at h
  | succ f ih =>
    intro i acc bs hf hb h
    cases bs with
    | nil => simp [scanF] at h
    | cons x r =>
      have hx := hb x (by simp)
      simp only [scanF] at h ⊢
      split at h
      · rename_i h1
        rw [if_pos h1]
        have hf1 : 0 < f := by
          rcases Nat.eq_zero_or_pos f with h0 | h0
          · subst h0; simp [scanF] at h
          · exact h0
        obtain ⟨w, a, b, c⟩ := ih (i := i + 1) (acc := acc + (x - 128) * 2 ^ (7 * i)) (bs := r) (by omega) (fun y hy => hb y (by simp [hy])) h
        have hw := c (by omega)
        have hn := (scanF_bound' (f := f) (i := i + 1) (acc := acc + (x - 128) * 2 ^ (7 * i)) (bs := r) h)
        refine ⟨w * 128 + (x - 128), ?_, ?_, fun _ => by omega⟩
        · rw [a, show 7 * (i + 1) = 7 * i + 7 by omega, Nat.pow_add]
          rw [Nat.add_mul, show w * 128 * 2 ^ (7 * i) = w * (2 ^ (7 * i) * 2 ^ 7) by rw [show (2 : Nat) ^ 7 = 128 by decide, Nat.mul_assoc, Nat.mul_comm 128]]
          omega
        · obtain ⟨f', rfl⟩ : ∃ f', f = f' + 1 := ⟨f - 1, by omega⟩
          simp only [Nat.add_sub_cancel] at b ⊢
          simp only [encF]
          rw [if_neg (by omega)]
          have e1 : (w * 128 + (x - 128)) % 128 = x - 128 := by omega
          have e2 : (w * 128 + (x - 128)) / 128 = w := by omega
          rw [e1, e2, b]
          generalize (scanF (f' + 1) (i + 1) (acc + (x - 128) * 2 ^ (7 * i)) r).2.1 = n at *
          obtain ⟨m, rfl⟩ : ∃ m, n = m + (i + 1) := ⟨n - (i + 1), by omega⟩
          rw [show m + (i + 1) - (i + 1) = m by omega, show m + (i + 1) - i = m + 1 by omega, List.take_succ_cons, show x - 128 + 128 = x by omega]
      · rename_i h1
        rw [if_neg h1]
        split at h
        · simp at h
        · rename_i h2
          rw [if_neg h2]
          refine ⟨x, rfl, ?_, fun hi => by omega⟩
          simp only [Nat.add_sub_cancel, show i + 1 - i = 1 by omega, List.take_succ_cons, List.take_zero]
          cases f with
          | zero => rfl
          | succ f => simp only [encF]; rw [if_pos (by omega)]
theorem encU_scan {bs : List Nat} (hb : ∀ x ∈ bs, x < 256) (h : (scanR bs).2.2 = 0) : encU (scanR bs).1 = bs.take (scanR bs).2.1 := by
  obtain ⟨w, a, b, _⟩ := enc_scan (f := 10) (i := 0) (acc := 0) (by omega) hb h
  unfold scanR encU
  rw [a]
  simpa using b
end Go.Rm

/- Numbers in bytes: scan, and a reader's Uint, Bytes. -/
set_option linter.unusedSimpArgs false
set_option linter.unusedVariables false
namespace Go.Rm

theorem u64_wrap {n : Int} (h : 0 ≤ n ∧ n < 18446744073709551616) : IntKind.u64.wrap n = n := by
  simp [IntKind.wrap, IntKind.bits, IntKind.signed]; omega
theorem u8_wrap {n : Int} (h : 0 ≤ n ∧ n < 256) : IntKind.u8.wrap n = n := by
  simp [IntKind.wrap, IntKind.bits, IntKind.signed]; omega

theorem ib_and {k : IntKind} {a b : Int} : ibin .and k a k b = some (.int k (k.wrap (BitVec.ofInt k.bits a &&& BitVec.ofInt k.bits b).toNat)) := by simp [ibin]
theorem ib_or {k : IntKind} {a b : Int} : ibin .or k a k b = some (.int k (k.wrap (BitVec.ofInt k.bits a ||| BitVec.ofInt k.bits b).toNat)) := by simp [ibin]
theorem ib_shl {k j : IntKind} {a b : Int} (h : 0 ≤ b) : ibin .shl k a j b = some (.int k (k.wrap (a * 2 ^ (min b.toNat k.bits)))) := by simp [ibin]; omega
theorem ib_shr {k j : IntKind} {a b : Int} (h : 0 ≤ b) : ibin .shr k a j b = some (.int k (a.fdiv (2 ^ (min b.toNat k.bits)))) := by simp [ibin]; omega

theorem and127 : ∀ x : Nat, x < 256 → (BitVec.ofInt 8 (x : Int) &&& BitVec.ofInt 8 127).toNat = x % 128 := by decide +kernel
theorem or128 : ∀ x : Nat, x < 256 → (BitVec.ofInt 8 (x : Int) ||| BitVec.ofInt 8 128).toNat = x % 128 + 128 := by decide +kernel

theorem or_add {a b i : Nat} (ha : a < 2 ^ i) (h64 : a + b * 2 ^ i < 2 ^ 64) : (BitVec.ofInt 64 (a : Int) ||| BitVec.ofInt 64 ((b * 2 ^ i : Nat) : Int)).toNat = a + b * 2 ^ i := by
  have e1 : (BitVec.ofInt 64 (a : Int)).toNat = a := by
    rw [BitVec.ofInt_natCast, BitVec.toNat_ofNat]; exact Nat.mod_eq_of_lt (by omega)
  have e2 : (BitVec.ofInt 64 ((b * 2 ^ i : Nat) : Int)).toNat = b * 2 ^ i := by
    rw [BitVec.ofInt_natCast, BitVec.toNat_ofNat]; exact Nat.mod_eq_of_lt (by omega)
  rw [BitVec.toNat_or, e1, e2]
  have := Nat.two_pow_add_eq_or_of_lt ha b
  rw [Nat.or_comm, Nat.mul_comm b, ← this, Nat.add_comm]

section
variable {Y : Sys} {h : Heap} {k : IntKind} {a b : Int}
end
theorem ib_and127 {x : Nat} (hx : x < 256) : ibin .and .u8 (x : Int) .u8 127 = some (.int .u8 ((x % 128 : Nat) : Int)) := by
  rw [ib_and]
  have : (BitVec.ofInt IntKind.u8.bits (x : Int) &&& BitVec.ofInt IntKind.u8.bits 127).toNat = x % 128 := and127 x hx
  rw [this, u8_wrap (by omega)]
theorem ib_or128 {x : Nat} (hx : x < 256) : ibin .or .u8 (x : Int) .u8 128 = some (.int .u8 ((x % 128 + 128 : Nat) : Int)) := by
  rw [ib_or]
  have : (BitVec.ofInt IntKind.u8.bits (x : Int) ||| BitVec.ofInt IntKind.u8.bits 128).toNat = x % 128 + 128 := or128 x hx
  rw [this, u8_wrap (by omega)]
def shl64 (y i : Nat) : Int := IntKind.u64.wrap ((y : Int) * 2 ^ (7 * i))
def or64 (a b : Int) : Int := IntKind.u64.wrap (BitVec.ofInt 64 a ||| BitVec.ofInt 64 b).toNat
theorem ib_shl7 {y i : Nat} (hi : i < 10) : ibin .shl .u64 (y : Int) .i64 (7 * (i : Int)) = some (.int .u64 (shl64 y i)) := by
  rw [ib_shl (by omega)]
  have : min (7 * (i : Int)).toNat IntKind.u64.bits = 7 * i := by simp only [IntKind.bits]; omega
  rw [this]; rfl
theorem ib_or64 {a b : Int} : ibin .or .u64 a .u64 b = some (.int .u64 (or64 a b)) := by rw [ib_or]; rfl
theorem or64_spec {acc y i : Nat} (hacc : acc < 2 ^ (7 * i)) : ∃ g : Nat, or64 acc (shl64 y i) = (g : Int) ∧ g < 2 ^ 64 ∧ (acc + y * 2 ^ (7 * i) < 2 ^ 64 → g = acc + y * 2 ^ (7 * i)) := by
  have hlt : (BitVec.ofInt 64 (acc : Int) ||| BitVec.ofInt 64 (shl64 y i)).toNat < 2 ^ 64 := BitVec.isLt _
  refine ⟨(BitVec.ofInt 64 (acc : Int) ||| BitVec.ofInt 64 (shl64 y i)).toNat, ?_, hlt, ?_⟩
  · unfold or64
    exact u64_wrap (by omega)
  · intro h
    have : shl64 y i = ((y * 2 ^ (7 * i) : Nat) : Int) := by
      unfold shl64
      rw [show ((y : Int) * 2 ^ (7 * i)) = ((y * 2 ^ (7 * i) : Nat) : Int) by push_cast; rfl]
      exact u64_wrap (by omega)
    rw [this]
    exact or_add hacc h

section
variable {Y : Sys} {h h' : Heap}

def ScanI (s : Sl) (bs : List Nat) (h0 : Heap) (e : List Value) (h' : Heap) : Prop :=
  ∃ (i acc : Nat) (v5 v6 v8 v9 v10 v11 : Value), e = [s.v, .int .u64 0, .int .i64 0, .int .i64 0, .int .u64 acc, v5, v6, .int .i64 i, v8, v9, v10, v11] ∧ i ≤ 10 ∧ i ≤ bs.length ∧ (i < 10 → acc < 2 ^ (7 * i)) ∧ acc < 2 ^ 64 ∧
    (i < 10 → scanR bs = scanF (10 - i) i acc (bs.drop i)) ∧ (i = 10 → scanR bs = (0, 0, 2)) ∧ h' = h0

theorem nth_drop {bs : List Nat} {i : Nat} (hi : i < bs.length) : bs.drop i = nth bs i :: bs.drop (i + 1) := by
  rw [List.drop_eq_getElem_cons hi]
  congr 1
  simp [nth, hi]

theorem scan_spec (W : WireFns Y) {s : Sl} {bs : List Nat} (r : RowB h s bs) {R : Value → Heap → Prop} (hbig : bs.length ≤ 1000000)
    (hr : R (.tuple #[.int .u64 ((scanR bs).1 : Int), .int .i64 ((scanR bs).2.1 : Int), .int .i64 ((scanR bs).2.2 : Int)]) h) : CallP Y F.wire_scan [s.v] h R := by
  refine .of_has W.scan rfl ?_
  simp [S_wire_scan, FnS.wp]
  have hl := r.len
  refine wp_loop' (ScanI s bs h) (fun e _ => 10 - argI e 7) ⟨0, 0, _, _, _, _, _, _, rfl, by omega, by omega, by simp, by simp, fun _ => rfl, by omega, rfl⟩ ?_
  rintro e h' ⟨i, acc, v5, v6, v8, v9, v10, v11, rfl, hi, hib, hacc, h64, hsc, hsc10, rfl⟩
  by_cases h10 : i < 10
  · have h10' : (i : Int) < 10 := by omega
    have hsc := hsc h10
    have hacc := hacc h10
    have w1 : IntKind.i64.wrap ((i : Int) + 1) = (i : Int) + 1 := i64_wrap (by omega)
    have w7 : IntKind.i64.wrap (7 * (i : Int)) = 7 * (i : Int) := i64_wrap (by omega)
    by_cases hend : i = bs.length
    · have hend' : (i : Int) = s.n := by omega
      have hd : bs.drop i = [] := List.drop_eq_nil_of_le (by omega)
      rw [hd, show 10 - i = (9 - i) + 1 by omega, scanF] at hsc
      rw [hsc] at hr
      simp [h10', hend', hend, hl]
      have hz : (s.n : Int) < 10 := by omega
      simpa [hz] using hr
    · have hlt : i < bs.length := by omega
      have hend' : ¬ (i : Int) = s.n := by omega
      have hlt' : (i : Int) < s.n := by omega
      have hx := r.lt i hlt
      have hcell := r.at (i := i) (by omega)
      rw [nth_drop hlt, show 10 - i = (9 - i) + 1 by omega, scanF] at hsc
      generalize nth bs i = x at *
      obtain ⟨y, hyx⟩ : ∃ y, y = x % 128 := ⟨_, rfl⟩
      have hy128 : y < 128 := by omega
      have a3 : IntKind.u64.wrap (y : Int) = (y : Int) := u64_wrap (by omega)
      obtain ⟨g, g1, g2, g3⟩ := or64_spec (acc := acc) (y := y) (i := i) hacc
      have hp : 2 ^ (7 * (i + 1)) = 2 ^ (7 * i) * 128 := by rw [show 7 * (i + 1) = 7 * i + 7 by omega, Nat.pow_add]
      have hy : y * 2 ^ (7 * i) ≤ 127 * 2 ^ (7 * i) := Nat.mul_le_mul_right _ (by omega)
      have hpow : i < 9 → 2 ^ (7 * i) * 128 ≤ 2 ^ 63 := by
        intro h9
        rw [show (2 : Nat) ^ (7 * i) * 128 = 2 ^ (7 * i + 7) by rw [Nat.pow_add]]
        exact Nat.pow_le_pow_right (by omega) (by omega)
      have h63 : (2 : Nat) ^ 63 < 2 ^ 64 := by decide
      have hstep : ibin .and .u8 (x : Int) .u8 127 = some (.int .u8 (y : Int)) := by rw [ib_and127 hx, hyx]
      have hshl : ibin .shl .u64 (y : Int) .i64 (7 * (i : Int)) = some (.int .u64 (shl64 y i)) := ib_shl7 h10
      have hor : ibin .or .u64 (acc : Int) .u64 (shl64 y i) = some (.int .u64 (g : Int)) := by rw [ib_or64, g1]
      by_cases hx128 : 128 ≤ x
      · rw [if_pos hx128] at hsc
        have hx128' : (128 : Int) ≤ x := by omega
        have e1 : x - 128 = y := by omega
        rw [e1] at hsc
        simp [h10', hend', hlt', sem_idxa r.ok, hcell, hstep, a3, w7, hshl, hor, hx128', w1]
        refine ⟨⟨i + 1, g, _, _, _, _, _, _, rfl, by omega, by omega, ?_, g2, ?_, ?_, rfl⟩, by simp [argI]; omega⟩
        · intro h9
          have := hpow (by omega)
          rw [g3 (by omega), hp]; omega
        · intro h9
          have := hpow (by omega)
          rw [hsc, g3 (by omega), show 10 - (i + 1) = 9 - i by omega]
        · intro h9
          rw [hsc, show 9 - i = 0 by omega]
          rfl
      · rw [if_neg hx128] at hsc
        have hx128' : ¬ (128 : Int) ≤ x := by omega
        have exy : y = x := by omega
        by_cases hbad : (x = 0 ∧ 0 < i) ∨ (1 < x ∧ i = 9)
        · rw [if_pos hbad] at hsc
          rw [hsc] at hr
          by_cases hx0 : x = 0
          · have hi0 : 0 < i := by omega
            have hi0' : (0 : Int) < i := by omega
            have hz : (x = 0) = True := eq_true hx0
            simp [h10', hend', hlt', sem_idxa r.ok, hcell, hstep, a3, w7, hshl, hor, hx128', w1, hz, hi0]
            simpa using hr
          · have hx1 : (1 : Int) < x := by omega
            have hx1' : 1 < x := by omega
            have hi9 : (i : Int) = 9 := by omega
            have hz : ((i : Int) = 9) = True := eq_true hi9
            simp [h10', hend', hlt', sem_idxa r.ok, hcell, hstep, a3, w7, hshl, hor, hx128', w1, hx0, hx1, hx1', hz]
            simpa using hr
        · rw [if_neg hbad] at hsc
          rw [hsc] at hr
          have hg : g = acc + x * 2 ^ (7 * i) := by
            rw [← exy]
            apply g3
            by_cases h9 : i = 9
            · have hy1 : y ≤ 1 := by omega
              have h1 : y * 2 ^ (7 * i) ≤ 1 * 2 ^ (7 * i) := Nat.mul_le_mul_right _ hy1
              rw [h9] at hacc h1 ⊢
              have h64 : 2 ^ (7 * 9) + 2 ^ (7 * 9) = 2 ^ 64 := by decide
              omega
            · have := hpow (by omega)
              omega
          rw [← hg] at hr
          have hr' : R (.tuple #[.int .u64 (g : Int), .int .i64 ((i : Int) + 1), .int .i64 0]) h' := by simpa using hr
          by_cases hx0 : x = 0
          · have hi0 : ¬ 0 < i := by omega
            have hi0' : ¬ (0 : Int) < i := by omega
            have hx1 : ¬ (1 : Int) < x := by omega
            have hz : (x = 0) = True := eq_true hx0
            simp [h10', hend', hlt', sem_idxa r.ok, hcell, hstep, a3, w7, hshl, hor, hx128', w1, hz, hi0, hi0', hx1]
            exact hr'
          · by_cases hx1 : 1 < x
            · have hx1' : (1 : Int) < x := by omega
              have hi9 : ¬ (i : Int) = 9 := by omega
              simp [h10', hend', hlt', sem_idxa r.ok, hcell, hstep, a3, w7, hshl, hor, hx128', w1, hx0, hx1', hi9]
              exact hr'
            · have hx1' : ¬ (1 : Int) < x := by omega
              simp [h10', hend', hlt', sem_idxa r.ok, hcell, hstep, a3, w7, hshl, hor, hx128', w1, hx0, hx1']
              exact hr'
  · have : i = 10 := by omega
    subst this
    rw [hsc10 rfl] at hr
    simp
    simpa using hr
end
end Go.Rm

/- Numbers in bytes: a reader's Uint, Int, Bytes. -/
set_option linter.unusedSimpArgs false
set_option linter.unusedVariables false
namespace Go.Rm

/-- what Uint reads: the number, the place behind it, the error -/
def rdU (bs : List Nat) (at' : Nat) (bad : Int) (most : Nat) : Nat × Nat × Int :=
  if bad ≠ 0 then (0, at', bad)
  else if (scanR (bs.drop at')).2.2 ≠ 0 then (0, at', ((scanR (bs.drop at')).2.2 : Int))
  else if most < (scanR (bs.drop at')).1 then (0, at', 8)
  else ((scanR (bs.drop at')).1, at' + (scanR (bs.drop at')).2.1, 0)

section
variable {Y : Sys} {h h' : Heap}

theorem RowB.drop {s : Sl} {bs : List Nat} {a : Nat} (r : RowB h s bs) (ha : a ≤ bs.length) : RowB h { s with o := if s.c = a then s.o else s.o + a * 1, n := s.n - a, c := s.c - a } (bs.drop a) := by
  have hl := r.len
  refine ⟨⟨fun h => by have := r.ok.nil h; simp; omega, by have := r.ok.le; simp; omega, ?_⟩, by simp; omega, fun i hi => ?_, fun i hi => ?_⟩
  · rcases r.ok.spot with h | h
    · exact .inl h
    · exact .inr (by simp; omega)
  · simp at hi
    have := r.val (a + i) (by omega)
    have hc : s.c ≠ a := by have := r.ok.le; omega
    simp only [hc, if_false, Nat.mul_one]
    rw [show s.o + a + i = s.o + (a + i) by omega, this]
    congr 2
    simp [nth]
  · simp at hi
    have := r.lt (a + i) (by omega)
    simpa [nth] using this

theorem scanR_facts {bs : List Nat} (hb : ∀ i, i < bs.length → nth bs i < 256) : (scanR bs).1 < 2 ^ 64 ∧ (scanR bs).2.1 ≤ bs.length ∧ (scanR bs).2.2 ≤ 3 := by
  have hb' : ∀ x ∈ bs, x < 256 := by
    intro x hx
    obtain ⟨i, hi, rfl⟩ := List.getElem_of_mem hx
    have := hb i hi
    simpa [nth, hi] using this
  have := scanF_bound (f := 10) (i := 0) (acc := 0) (bs := bs) (by omega) (by simp) hb'
  unfold scanR
  refine ⟨this.1, by omega, this.2.2.2⟩

theorem rdU_facts {bs : List Nat} {at' : Nat} {bad : Int} {most : Nat} (hb : ∀ i, i < bs.length → nth bs i < 256) (ha : at' ≤ bs.length) : (rdU bs at' bad most).1 < 2 ^ 64 ∧ (rdU bs at' bad most).2.1 ≤ bs.length := by
  have hd : ∀ i, i < (bs.drop at').length → nth (bs.drop at') i < 256 := by
    intro i hi
    simp at hi
    have := hb (at' + i) (by omega)
    simpa [nth] using this
  have := scanR_facts hd
  simp at this
  unfold rdU
  split
  · simp; omega
  · split
    · simp; omega
    · split
      · simp; omega
      · simp; omega

theorem RdR.set2 {p at' : Nat} {bs : List Nat} {bad : Int} {s : Sl} (r : RdR h p bs at' bad s) (c : Int) : RdR (hset h p 2 (.int .i64 c)) p bs at' c s := by
  have hb := r.blk.set (o := 2) (v := .int .i64 c)
  simp at hb
  exact ⟨hb, r.row.mod (S := fun j => j = p) (Mod.set rfl) (fun hne h => r.ne hne h), r.ne, r.le, r.big⟩
theorem RdR.set1 {p at' : Nat} {bs : List Nat} {bad : Int} {s : Sl} (r : RdR h p bs at' bad s) {a : Nat} (ha : a ≤ bs.length) : RdR (hset h p 1 (.int .i64 a)) p bs a bad s := by
  have hb := r.blk.set (o := 1) (v := .int .i64 a)
  simp at hb
  exact ⟨hb, r.row.mod (S := fun j => j = p) (Mod.set rfl) (fun hne h => r.ne hne h), r.ne, ha, r.big⟩

theorem ruint_spec (W : WireFns Y) {p at' : Nat} {bs : List Nat} {bad : Int} {s : Sl} (r : RdR h p bs at' bad s) {most : Nat} {R : Value → Heap → Prop}
    (hr : ∀ h', Mod (fun j => j = p) h h' → RdR h' p bs (rdU bs at' bad most).2.1 (rdU bs at' bad most).2.2 s → R (.int .u64 ((rdU bs at' bad most).1 : Int)) h') :
    CallP Y F.wire_Reader_Uint [.pointer (some ⟨p, 0, none⟩), .int .u64 most] h R := by
  refine .of_has W.RUint rfl ?_
  by_cases h0 : bad = 0
  rotate_left
  · have hv : rdU bs at' bad most = (0, at', bad) := by simp [rdU, h0]
    rw [hv] at hr
    simp [S_wire_Reader_Uint, FnS.wp, r.blk.hc, h0]
    exact hr h (Mod.refl h) r
  subst h0
  have hl := r.row.len
  have ha : (at' : Int) ≤ s.n := by have := r.le; omega
  have rd := r.row.drop r.le
  simp only [Nat.mul_one] at rd
  have hbig := r.big
  have fx := scanR_facts rd.lt
  simp at fx
  simp [S_wire_Reader_Uint, FnS.wp, r.blk.hc, sem_slc_lo r.row.ok, ha]
  refine scan_spec W rd (by simp; omega) ?_
  have hv : rdU bs at' 0 most = if (scanR (bs.drop at')).2.2 ≠ 0 then (0, at', ((scanR (bs.drop at')).2.2 : Int)) else if most < (scanR (bs.drop at')).1 then (0, at', 8) else ((scanR (bs.drop at')).1, at' + (scanR (bs.drop at')).2.1, 0) := by
    simp [rdU]
  rw [hv] at hr
  generalize scanR (bs.drop at') = q at *
  obtain ⟨v, n, e⟩ := q
  simp only at hr fx
  have b2 : ∀ c : Int, (hc h p 2).isSome = true ∧ hfz h p 2 = false := fun c => ⟨by rw [r.blk.hc]; rfl, r.blk.hfz⟩
  by_cases he : e = 0
  · subst he
    by_cases hm : most < v
    · have hm' : (most : Int) < v := by omega
      rw [if_neg (by simp), if_pos hm] at hr
      have := hr _ (Mod.set rfl) (r.set2 8)
      simp [hm', r.blk.hc, StoreP.open, r.blk.hfz]
      simpa using this
    · have hm' : ¬ (most : Int) < v := by omega
      rw [if_neg (by simp), if_neg hm] at hr
      have w : IntKind.i64.wrap ((at' : Int) + n) = (at' : Int) + n := i64_wrap (by have := r.le; omega)
      have := hr _ (Mod.set rfl) (r.set1 (a := at' + n) (by have := r.le; omega))
      simp [hm', r.blk.hc, StoreP.open, r.blk.hfz, w]
      simpa using this
  · have he' : ¬ (e : Int) = 0 := by omega
    rw [if_pos (by simpa using he)] at hr
    have := hr _ (Mod.set rfl) (r.set2 (e : Int))
    simp [he, r.blk.hc, StoreP.open, r.blk.hfz]
    simpa using this

/-- a number from its bytes' number: -/
def unz (u : Nat) : Int := if u % 2 = 1 then -1 - ((u / 2 : Nat) : Int) else ((u / 2 : Nat) : Int)
def amt (u : Nat) : Nat := u / 2 + u % 2
def rdI (bs : List Nat) (at' : Nat) (bad : Int) (most : Nat) : Int × Nat × Int :=
  if (rdU bs at' bad 18446744073709551615).2.2 ≠ 0 then (0, (rdU bs at' bad 18446744073709551615).2.1, (rdU bs at' bad 18446744073709551615).2.2)
  else if most < amt (rdU bs at' bad 18446744073709551615).1 then (0, at', 8)
  else (unz (rdU bs at' bad 18446744073709551615).1, (rdU bs at' bad 18446744073709551615).2.1, 0)

theorem and1_64 {u : Nat} (hu : u < 2 ^ 64) : ibin .and .u64 (u : Int) .u64 1 = some (.int .u64 ((u % 2 : Nat) : Int)) := by
  rw [ib_and]
  have e1 : (BitVec.ofInt 64 (u : Int)).toNat = u := by
    rw [BitVec.ofInt_natCast, BitVec.toNat_ofNat]; exact Nat.mod_eq_of_lt (by omega)
  have e2 : (BitVec.ofInt 64 (1 : Int)).toNat = 1 := by decide
  have : (BitVec.ofInt IntKind.u64.bits (u : Int) &&& BitVec.ofInt IntKind.u64.bits 1).toNat = u % 2 := by
    show (BitVec.ofInt 64 (u : Int) &&& BitVec.ofInt 64 1).toNat = u % 2
    rw [BitVec.toNat_and, e1, e2, Nat.and_one_is_mod]
  rw [this, u64_wrap (by omega)]
theorem shr1_64 {u : Nat} {j : IntKind} : ibin .shr .u64 (u : Int) j 1 = some (.int .u64 ((u / 2 : Nat) : Int)) := by
  rw [ib_shr (by omega)]
  have : min (1 : Int).toNat IntKind.u64.bits = 1 := by decide
  rw [this]
  congr 2
  rw [Int.fdiv_eq_ediv_of_nonneg _ (by decide)]
  simp

theorem rint_spec (W : WireFns Y) {p at' : Nat} {bs : List Nat} {bad : Int} {s : Sl} (r : RdR h p bs at' bad s) {most : Nat} {R : Value → Heap → Prop}
    (hr : ∀ h', Mod (fun j => j = p) h h' → RdR h' p bs (rdI bs at' bad most).2.1 (rdI bs at' bad most).2.2 s → R (.int .i64 (rdI bs at' bad most).1) h') :
    CallP Y F.wire_Reader_Int [.pointer (some ⟨p, 0, none⟩), .int .u64 most] h R := by
  refine .of_has W.RInt rfl ?_
  simp [S_wire_Reader_Int, FnS.wp, r.blk.hc]
  refine ruint_spec W r (most := 18446744073709551615) ?_
  intro h1 m1 r1
  have fx := rdU_facts (bad := bad) (most := 18446744073709551615) r.row.lt r.le
  have hv : rdI bs at' bad most = if (rdU bs at' bad 18446744073709551615).2.2 ≠ 0 then (0, (rdU bs at' bad 18446744073709551615).2.1, (rdU bs at' bad 18446744073709551615).2.2)
    else if most < amt (rdU bs at' bad 18446744073709551615).1 then (0, at', 8) else (unz (rdU bs at' bad 18446744073709551615).1, (rdU bs at' bad 18446744073709551615).2.1, 0) := rfl
  rw [hv] at hr
  generalize rdU bs at' bad 18446744073709551615 = q at *
  obtain ⟨u, a, e⟩ := q
  simp only at hr fx r1
  have hle := r1.le
  by_cases he : e = 0
  rotate_left
  · rw [if_pos he] at hr
    simp [r1.blk.hc, he]
    exact hr h1 m1 r1
  subst he
  rw [if_neg (by simp)] at hr
  have hu := fx.1
  have w1 : IntKind.i64.wrap ((u / 2 : Nat) : Int) = ((u / 2 : Nat) : Int) := i64_wrap (by omega)
  obtain ⟨d, hd⟩ : ∃ d, d = u / 2 := ⟨_, rfl⟩
  obtain ⟨b, hb⟩ : ∃ b, b = u % 2 := ⟨_, rfl⟩
  have k1 : ibin .shr .u64 (u : Int) .u64 1 = some (.int .u64 (d : Int)) := by rw [shr1_64, hd]
  have k2 : ibin .and .u64 (u : Int) .u64 1 = some (.int .u64 (b : Int)) := by rw [and1_64 hu, hb]
  have w1 : IntKind.i64.wrap (d : Int) = (d : Int) := i64_wrap (by omega)
  have w2 : IntKind.i64.wrap (-1 - (d : Int)) = -1 - (d : Int) := i64_wrap (by omega)
  have w3 : IntKind.u64.wrap ((d : Int) + 1) = (d : Int) + 1 := u64_wrap (by omega)
  have hamt : amt u = d + b := by simp [amt, hd, hb]
  have hunz : unz u = if b = 1 then -1 - (d : Int) else (d : Int) := by simp [unz, hd, hb]
  rw [hamt, hunz] at hr
  have tail : ∀ (am : Nat) (v : Int), am = d + b → v = (if b = 1 then -1 - (d : Int) else (d : Int)) → (most < am → R (.int .i64 0) (hset (hset h1 p 1 (.int .i64 at')) p 2 (.int .i64 8))) ∧ (¬ most < am → R (.int .i64 v) h1) := by
    intro am v ham hvv
    subst ham; subst hvv
    constructor
    · intro hm
      rw [if_pos hm] at hr
      exact hr _ (m1.trans ((Mod.set (S := fun j => j = p) rfl).trans (Mod.set rfl))) ((r1.set1 (a := at') r.le).set2 8)
    · intro hm
      rw [if_neg hm] at hr
      exact hr h1 m1 r1
  have B1 := (r1.set1 (a := at') r.le).blk
  by_cases hb1 : b = 1
  · have hb1' : ((b : Nat) : Int) = 1 := by omega
    obtain ⟨t1, t2⟩ := tail (d + 1) (-1 - (d : Int)) (by omega) (by rw [if_pos hb1])
    by_cases hm : most < d + 1
    · have hm' : (most : Int) < (d : Int) + 1 := by omega
      simp [r1.blk.hc, k1, k2, w1, w2, w3, hb1, hm', StoreP.open, r1.blk.hfz, B1.hc, B1.hfz]
      exact t1 hm
    · have hm' : ¬ (most : Int) < (d : Int) + 1 := by omega
      simp [r1.blk.hc, k1, k2, w1, w2, w3, hb1, hm']
      exact t2 hm
  · have hb1' : ¬ ((b : Nat) : Int) = 1 := by omega
    obtain ⟨t1, t2⟩ := tail d (d : Int) (by omega) (by rw [if_neg hb1])
    by_cases hm : most < d
    · have hm' : (most : Int) < (d : Int) := by omega
      simp [r1.blk.hc, k1, k2, w1, w2, w3, hb1, hb1', hm, StoreP.open, r1.blk.hfz, B1.hc, B1.hfz]
      exact t1 hm
    · have hm' : ¬ (most : Int) < (d : Int) := by omega
      simp [r1.blk.hc, k1, k2, w1, w2, w3, hb1, hb1', hm]
      exact t2 hm

theorem RowB.cut {s : Sl} {bs : List Nat} {a n : Nat} (r : RowB h s bs) (ha : a + n ≤ bs.length) : RowB h { s with o := if s.c = a then s.o else s.o + a * 1, n := n, c := s.c - a } ((bs.drop a).take n) := by
  have d := r.drop (a := a) (by omega)
  have hl := r.len
  refine ⟨⟨fun h => by have := r.ok.nil h; simp; omega, by have := r.ok.le; simp; omega, d.ok.spot⟩, by simp; omega, fun i hi => ?_, fun i hi => ?_⟩
  · simp at hi
    have hi1 : i < n := by omega
    have := d.val i (by simp; omega)
    simp only at this ⊢
    rw [this]
    congr 2
    simp [nth, List.getElem?_take, hi1]
  · simp at hi
    have hi1 : i < n := by omega
    have := d.lt i (by simp; omega)
    simpa [nth, List.getElem?_take, hi1] using this

end
end Go.Rm

/- Numbers in bytes: Uint, Int, Sum, the program's and the document's. -/
set_option linter.unusedSimpArgs false
set_option linter.unusedVariables false
namespace Go.Rm

def zz (v : Int) : Nat := if v < 0 then 2 * (-1 - v).toNat + 1 else 2 * v.toNat
def sumF : Nat → Nat → List Nat → Nat × Nat
  | a, c, [] => (a, c)
  | a, c, x :: r => sumF ((a + x) % 257) ((c + (a + x) % 257) % 257) r
def sumB (bs : List Nat) : List Nat := [(sumF 0 0 bs).1 % 256, (sumF 0 0 bs).1 / 256, (sumF 0 0 bs).2 % 256, (sumF 0 0 bs).2 / 256]
theorem sumF_lt : ∀ {bs : List Nat} {a c : Nat}, a < 257 → c < 257 → (sumF a c bs).1 < 257 ∧ (sumF a c bs).2 < 257 := by
  intro bs
  induction bs with
  | nil => intro a c h1 h2; exact ⟨h1, h2⟩
  | cons x r ih => intro a c _ _; exact ih (by omega) (by omega)

theorem or128c {v : Nat} : ibin .or .u8 ((v : Int) % 256) .u8 128 = some (.int .u8 ((v % 128 + 128 : Nat) : Int)) := by
  have h : ((v : Int) % 256) = ((v % 256 : Nat) : Int) := by omega
  rw [h, ib_or128 (by omega)]
  congr 3
  omega
theorem u8_wrap_mod {v : Nat} : IntKind.u8.wrap (v : Int) = (v : Int) % 256 := by
  simp [IntKind.wrap, IntKind.bits, IntKind.signed]
theorem shr7_64 {u : Nat} {j : IntKind} : ibin .shr .u64 (u : Int) j 7 = some (.int .u64 ((u / 128 : Nat) : Int)) := by
  rw [ib_shr (by omega)]
  have : min (7 : Int).toNat IntKind.u64.bits = 7 := by decide
  rw [this]
  congr 2
  rw [Int.fdiv_eq_ediv_of_nonneg _ (by decide)]
  simp
theorem and255 : ∀ x : Nat, x < 257 → (BitVec.ofInt 64 (x : Int) &&& BitVec.ofInt 64 255).toNat = x % 256 := by decide +kernel
theorem ib_and255 {x : Nat} (hx : x < 257) : ibin .and .i64 (x : Int) .i64 255 = some (.int .i64 ((x % 256 : Nat) : Int)) := by
  rw [ib_and]
  have : (BitVec.ofInt IntKind.i64.bits (x : Int) &&& BitVec.ofInt IntKind.i64.bits 255).toNat = x % 256 := and255 x hx
  rw [this, i64_wrap (by omega)]
theorem shr8_64 {u : Nat} {j : IntKind} : ibin .shr .i64 (u : Int) j 8 = some (.int .i64 ((u / 256 : Nat) : Int)) := by
  rw [ib_shr (by omega)]
  have : min (8 : Int).toNat IntKind.i64.bits = 8 := by decide
  rw [this]
  congr 2
  rw [Int.fdiv_eq_ediv_of_nonneg _ (by decide)]
  simp

section
variable {Y : Sys} {h h' : Heap}

/-- what the two Uints go through -/
def EncI (v : Nat) (h0 : Heap) (v1 : Value) (e : List Value) (h' : Heap) : Prop :=
  ∃ (k w : Nat) (l : List Nat) (s : Sl) (v3 : Value), e = [.int .u64 w, v1, s.v, v3] ∧ k ≤ 9 ∧ encU v = l ++ encF k w ∧ l.length = 9 - k ∧ w < 2 ^ (64 - 7 * (9 - k)) ∧ Own h' 1 s (bytesL l) ∧ (s.nl = true ∨ h0.size ≤ s.b) ∧ Ext h0 h'

theorem enc_step {k w : Nat} (hw : w < 2 ^ (64 - 7 * (9 - k))) (h128 : ¬ w < 128) (hk : k ≤ 9) : ∃ k', k = k' + 1 ∧ encF k w = (w % 128 + 128) :: encF k' (w / 128) ∧ w / 128 < 2 ^ (64 - 7 * (9 - k')) := by
  cases k with
  | zero => simp at hw; omega
  | succ k' =>
    refine ⟨k', rfl, by simp only [encF]; rw [if_neg h128], ?_⟩
    rw [Nat.div_lt_iff_lt_mul (by omega)]
    rw [show (2 : Nat) ^ (64 - 7 * (9 - k')) * 128 = 2 ^ (64 - 7 * (9 - k') + 7) by rw [Nat.pow_add]]
    rw [show 64 - 7 * (9 - k') + 7 = 64 - 7 * (9 - (k' + 1)) by omega]
    exact hw
theorem enc_end {k w : Nat} (h128 : w < 128) : encF k w = [w] := by
  cases k with
  | zero => rfl
  | succ k => simp only [encF]; rw [if_pos h128]

theorem bytesL_snoc {l : List Nat} {x : Nat} : bytesL l ++ [.int .u8 (x : Int)] = bytesL (l ++ [x]) := by simp [bytesL]

theorem app1 {K : Value → Heap → Prop} {s : Sl} {l : List Nat} {x : Nat} {t : TypeId} {h0 : Heap} (o : Own h 1 s (bytesL l)) (hl : l.length ≤ 1000) (hs : s.nl = true ∨ h0.size ≤ s.b) (he : Ext h0 h)
    (hk : ∀ (s' : Sl) (h' : Heap), Own h' 1 s' (bytesL (l ++ [x])) → (s'.nl = true ∨ h0.size ≤ s'.b) → Ext h0 h' → K s'.v h') :
    Ef.wp (h.push (.cells #[.int .u8 (x : Int)] t)) K (.append 1 1 #[.int .u8 0]) [s.v, .slice (some ⟨h.size, 0, none⟩) 1 1] := by
  have hn : s.n = l.length := by have := o.1; simpa using this.symm
  refine ef_append1 rfl o (by omega) (by omega) ?_
  intro s' h' o' hn' m hs'
  rw [bytesL_snoc] at o'
  refine hk s' h' o' ?_ (Mod.ext he m ?_)
  · rcases hs' with ⟨e1, e2⟩ | ⟨e1, e2⟩
    · rw [e1, e2]; exact hs
    · have := he.size; exact .inr (by omega)
  · rintro b ⟨q1, q2⟩
    rcases hs with hs | hs
    · rw [q1] at hs; cases hs
    · rw [q2]; exact hs

theorem wuint_spec (HU : Y.Has F.wire_Uint S_wire_Uint) {v : Nat} (hv : v < 2 ^ 64) {R : Value → Heap → Prop}
    (hr : ∀ h' s', Ext h h' → Own h' 1 s' (bytesL (encU v)) → (s'.nl = true ∨ h.size ≤ s'.b) → R s'.v h') : CallP Y F.wire_Uint [.int .u64 v] h R := by
  refine .of_has HU rfl ?_
  simp [S_wire_Uint, FnS.wp]
  refine wp_loop' (EncI v h (.slice none 0 0)) (fun e _ => argI e 0) ⟨9, v, [], Sl.nil, _, rfl, by omega, rfl, by simp, by simpa using hv, Own.nil, .inl rfl, Mod.refl h⟩ ?_
  rintro e h1 ⟨k, w, l, s, v3, rfl, hk, henc, hl, hw, o1, hs, e1⟩
  by_cases h128 : w < 128
  · have h128' : ¬ (128 : Int) ≤ w := by omega
    have w1 : (w : Int) % 256 = w := by omega
    rw [enc_end h128] at henc
    simp [h128', u8_wrap_mod, w1, ef_bslice1_int]
    intro t
    refine app1 o1 (by omega) hs e1 ?_
    intro s' h' o' hs' e'
    rw [← henc] at o'
    simp
    exact hr h' s' e' o' hs'
  · have h128' : (128 : Int) ≤ w := by omega
    obtain ⟨k', rfl, g1, g2⟩ := enc_step hw h128 hk
    rw [g1] at henc
    obtain ⟨d, hd⟩ : ∃ d, d = w / 128 := ⟨_, rfl⟩
    obtain ⟨b, hb⟩ : ∃ b, b = w % 128 + 128 := ⟨_, rfl⟩
    have k1 : ibin .or .u8 ((w : Int) % 256) .u8 128 = some (.int .u8 (b : Int)) := by rw [or128c, hb]
    have k2 : ibin .shr .u64 (w : Int) .i64 7 = some (.int .u64 (d : Int)) := by rw [shr7_64, hd]
    have k3 : ibin .shr .u64 (w : Int) .u64 7 = some (.int .u64 (d : Int)) := by rw [shr7_64, hd]
    rw [← hb, ← hd] at henc
    rw [← hd] at g2
    simp [h128', u8_wrap_mod, k1, ef_bslice1_int]
    intro t
    refine app1 o1 (by omega) hs e1 ?_
    intro s' h' o' hs' e'
    simp [k2, k3]
    exact ⟨⟨k', d, l ++ [b], s', _, rfl, by omega, by rw [henc]; simp, by simp; omega, g2, o', hs', e'⟩, by simp [argI]; omega⟩

theorem wruint_spec (HU : Y.Has F.rref6_Uint S_rref6_Uint) {v : Nat} (hv : v < 2 ^ 64) {R : Value → Heap → Prop}
    (hr : ∀ h' s', Ext h h' → Own h' 1 s' (bytesL (encU v)) → (s'.nl = true ∨ h.size ≤ s'.b) → R s'.v h') : CallP Y F.rref6_Uint [.int .u64 v] h R := by
  refine .of_has HU rfl ?_
  simp [S_rref6_Uint, FnS.wp]
  refine wp_loop' (EncI v h (.slice none 0 0)) (fun e _ => argI e 0) ⟨9, v, [], Sl.nil, _, rfl, by omega, rfl, by simp, by simpa using hv, Own.nil, .inl rfl, Mod.refl h⟩ ?_
  rintro e h1 ⟨k, w, l, s, v3, rfl, hk, henc, hl, hw, o1, hs, e1⟩
  by_cases h128 : w < 128
  · have h128' : ¬ (128 : Int) ≤ w := by omega
    have w1 : (w : Int) % 256 = w := by omega
    rw [enc_end h128] at henc
    simp [h128', u8_wrap_mod, w1, ef_bslice1_int]
    intro t
    refine app1 o1 (by omega) hs e1 ?_
    intro s' h' o' hs' e'
    rw [← henc] at o'
    simp
    exact hr h' s' e' o' hs'
  · have h128' : (128 : Int) ≤ w := by omega
    have hwlt : w < 2 ^ 64 := Nat.lt_of_lt_of_le hw (Nat.pow_le_pow_right (by omega) (by omega))
    obtain ⟨k', rfl, g1, g2⟩ := enc_step hw h128 hk
    rw [g1] at henc
    obtain ⟨d, hd⟩ : ∃ d, d = w / 128 := ⟨_, rfl⟩
    obtain ⟨b, hb⟩ : ∃ b, b = w % 128 + 128 := ⟨_, rfl⟩
    have t1 : (w : Int).tmod 128 = ((w % 128 : Nat) : Int) := by rw [Int.tmod_eq_emod_of_nonneg (by omega)]; omega
    have t2 : (w : Int).tdiv 128 = (d : Int) := by rw [Int.tdiv_eq_ediv_of_nonneg (by omega), hd]; omega
    have w2 : IntKind.u64.wrap (((w % 128 : Nat) : Int) + 128) = (b : Int) := by rw [u64_wrap (by omega), hb]; omega
    have w3 : IntKind.u8.wrap (b : Int) = (b : Int) := u8_wrap (by omega)
    have w4 : IntKind.u64.wrap (d : Int) = (d : Int) := u64_wrap (by omega)
    have k1 : ibin .rem .u64 (w : Int) .u64 128 = some (.int .u64 ((w % 128 : Nat) : Int)) := by rw [ib_rem (by omega), t1]
    have k2 : ibin .quo .u64 (w : Int) .u64 128 = some (.int .u64 (d : Int)) := by rw [ib_quo (by omega), t2, w4]
    obtain ⟨m, hm⟩ : ∃ m, m = w % 128 := ⟨_, rfl⟩
    rw [← hm] at k1 w2
    rw [← hb, ← hd] at henc
    rw [← hd] at g2
    simp [h128', k1, w2, w3, ef_bslice1_int]
    intro t
    refine app1 o1 (by omega) hs e1 ?_
    intro s' h' o' hs' e'
    simp [k2]
    exact ⟨⟨k', d, l ++ [b], s', _, rfl, by omega, by rw [henc]; simp, by simp; omega, g2, o', hs', e'⟩, by simp [argI]; omega⟩

theorem zz_lt {v : Int} (hv : -9223372036854775808 ≤ v ∧ v ≤ 9223372036854775807) : zz v < 2 ^ 64 := by unfold zz; split <;> omega

theorem wint_spec (HI : Y.Has F.wire_Int S_wire_Int) (HU : Y.Has F.wire_Uint S_wire_Uint) {v : Int} (hv : -9223372036854775808 ≤ v ∧ v ≤ 9223372036854775807) {R : Value → Heap → Prop}
    (hr : ∀ h' s', Ext h h' → Own h' 1 s' (bytesL (encU (zz v))) → (s'.nl = true ∨ h.size ≤ s'.b) → R s'.v h') : CallP Y F.wire_Int [.int .i64 v] h R := by
  refine .of_has HI rfl ?_
  have hz := zz_lt hv
  by_cases h0 : v < 0
  · obtain ⟨d, hd⟩ : ∃ d : Nat, -1 - v = d := ⟨(-1 - v).toNat, by omega⟩
    have hzz : zz v = 2 * d + 1 := by unfold zz; rw [if_pos h0]; omega
    have w1 : IntKind.i64.wrap (-1 - v) = (d : Int) := by rw [i64_wrap (by omega)]; exact hd
    have w2 : IntKind.u64.wrap (d : Int) = (d : Int) := u64_wrap (by omega)
    have k1 : ∀ j, ibin .shl .u64 (d : Int) j 1 = some (.int .u64 ((d * 2 ^ 1 : Nat) : Int)) := by
      intro j
      rw [ib_shl (by omega)]
      have : min (1 : Int).toNat IntKind.u64.bits = 1 := by decide
      rw [this]
      congr 2
      rw [show ((d : Int) * 2 ^ 1) = ((d * 2 ^ 1 : Nat) : Int) by push_cast; rfl]
      exact u64_wrap (by omega)
    obtain ⟨m, hm⟩ : ∃ m, m = d * 2 ^ 1 := ⟨_, rfl⟩
    have k2 : ibin .or .u64 (m : Int) .u64 1 = some (.int .u64 ((zz v : Nat) : Int)) := by
      rw [ib_or]
      have : (BitVec.ofInt IntKind.u64.bits (m : Int) ||| BitVec.ofInt IntKind.u64.bits 1).toNat = zz v := by
        show (BitVec.ofInt 64 (m : Int) ||| BitVec.ofInt 64 ((1 : Nat) : Int)).toNat = zz v
        rw [BitVec.or_comm, hm, or_add (a := 1) (b := d) (i := 1) (by decide) (by omega), hzz]; omega
      rw [this, u64_wrap (by omega)]
    rw [← hm] at k1
    simp [S_wire_Int, FnS.wp, h0, w1, w2, k1, k2]
    refine wuint_spec HU hz ?_
    intro h' s' e' o' hs'
    simp
    exact hr h' s' e' o' hs'
  · obtain ⟨d, rfl⟩ : ∃ d : Nat, v = d := ⟨v.toNat, by omega⟩
    have hzz : zz (d : Int) = d * 2 ^ 1 := by unfold zz; rw [if_neg h0]; simp; omega
    have w2 : IntKind.u64.wrap (d : Int) = (d : Int) := u64_wrap (by omega)
    have k1 : ∀ j, ibin .shl .u64 (d : Int) j 1 = some (.int .u64 ((zz (d : Int) : Nat) : Int)) := by
      intro j
      rw [ib_shl (by omega)]
      have : min (1 : Int).toNat IntKind.u64.bits = 1 := by decide
      rw [this, hzz]
      congr 2
      rw [show ((d : Int) * 2 ^ 1) = ((d * 2 ^ 1 : Nat) : Int) by push_cast; rfl]
      exact u64_wrap (by omega)
    simp [S_wire_Int, FnS.wp, h0, w2, k1]
    refine wuint_spec HU hz ?_
    intro h' s' e' o' hs'
    simp
    exact hr h' s' e' o' hs'

theorem wrint_spec (HI : Y.Has F.rref6_Int S_rref6_Int) (HU : Y.Has F.rref6_Uint S_rref6_Uint) {v : Int} (hv : -9223372036854775808 ≤ v ∧ v ≤ 9223372036854775807) {R : Value → Heap → Prop}
    (hr : ∀ h' s', Ext h h' → Own h' 1 s' (bytesL (encU (zz v))) → (s'.nl = true ∨ h.size ≤ s'.b) → R s'.v h') : CallP Y F.rref6_Int [.int .i64 v] h R := by
  refine .of_has HI rfl ?_
  have hz := zz_lt hv
  by_cases h0 : v < 0
  · obtain ⟨d, hd⟩ : ∃ d : Nat, -1 - v = d := ⟨(-1 - v).toNat, by omega⟩
    have hzz : zz v = 2 * d + 1 := by unfold zz; rw [if_pos h0]; omega
    have w0 : IntKind.i64.wrap (v + 1) = v + 1 := i64_wrap (by omega)
    have w1 : IntKind.i64.wrap (0 - (v + 1)) = (d : Int) := by rw [i64_wrap (by omega)]; omega
    have w2 : IntKind.u64.wrap (d : Int) = (d : Int) := u64_wrap (by omega)
    have w3 : IntKind.u64.wrap ((d : Int) * 2) = (d : Int) * 2 := u64_wrap (by omega)
    have w4 : IntKind.u64.wrap ((d : Int) * 2 + 1) = ((zz v : Nat) : Int) := by rw [u64_wrap (by omega), hzz]; omega
    have w1' : IntKind.i64.wrap (-(v + 1)) = (d : Int) := by rw [← w1]; congr 1; omega
    simp [S_rref6_Int, FnS.wp, h0, w0, w1, w1', w2, w3, w4]
    refine wruint_spec HU hz ?_
    intro h' s' e' o' hs'
    simp
    exact hr h' s' e' o' hs'
  · obtain ⟨d, rfl⟩ : ∃ d : Nat, v = d := ⟨v.toNat, by omega⟩
    have hzz : zz (d : Int) = d * 2 := by unfold zz; rw [if_neg h0]; simp; omega
    have w2 : IntKind.u64.wrap (d : Int) = (d : Int) := u64_wrap (by omega)
    have w3 : IntKind.u64.wrap ((d : Int) * 2) = ((zz (d : Int) : Nat) : Int) := by rw [u64_wrap (by omega), hzz]; omega
    simp [S_rref6_Int, FnS.wp, h0, w2, w3]
    refine wruint_spec HU hz ?_
    intro h' s' e' o' hs'
    simp
    exact hr h' s' e' o' hs'
end
end Go.Rm

/- Numbers in bytes: Sum; bytes as a string. -/
set_option linter.unusedSimpArgs false
set_option linter.unusedVariables false
namespace Go.Rm

def strB (bs : List Nat) : ByteArray := ⟨(bs.map UInt8.ofNat).toArray⟩

theorem bytesV_bytesL : ∀ {bs : List Nat}, bytesV (bytesL bs) = some (bs.map UInt8.ofNat) := by
  intro bs
  induction bs with
  | nil => rfl
  | cons x r ih =>
    have : bytesL (x :: r) = .int .u8 (x : Int) :: bytesL r := rfl
    rw [this]
    simp only [bytesV, ih, Option.bind_some, Int.toNat_natCast, List.map_cons]

theorem strB_eq {a b : List Nat} (ha : ∀ x ∈ a, x < 256) (hb : ∀ x ∈ b, x < 256) : ((strB a).toList == (strB b).toList) = decide (a = b) := by
  have inj : ∀ {a b : List Nat}, (∀ x ∈ a, x < 256) → (∀ x ∈ b, x < 256) → a.map UInt8.ofNat = b.map UInt8.ofNat → a = b := by
    intro a
    induction a with
    | nil =>
      intro b _ _ h
      cases b with
      | nil => rfl
      | cons y b => simp at h
    | cons x a ih =>
      intro b ha hb h
      cases b with
      | nil => simp at h
      | cons y b =>
        simp only [List.map_cons, List.cons.injEq] at h
        have h1 : x = y := by
          have hx := ha x (by simp)
          have hy := hb y (by simp)
          have := congrArg UInt8.toNat h.1
          simp at this
          omega
        rw [h1, ih (fun z hz => ha z (by simp [hz])) (fun z hz => hb z (by simp [hz])) h.2]
  unfold strB
  rw [Go.ByteArray.toList_mk, Go.ByteArray.toList_mk]
  by_cases h : a = b
  · subst h; simp
  · rw [decide_eq_false h]
    simp only [beq_eq_false_iff_ne]
    exact fun e => h (inj ha hb e)

theorem mem_lt {bs : List Nat} (h : ∀ i, i < bs.length → nth bs i < 256) : ∀ x ∈ bs, x < 256 := by
  intro x hx
  obtain ⟨i, hi, rfl⟩ := List.getElem_of_mem hx
  have := h i hi
  simpa [nth, hi] using this
theorem lt_mem {bs : List Nat} (h : ∀ x ∈ bs, x < 256) : ∀ i, i < bs.length → nth bs i < 256 := by
  intro i hi
  have := h bs[i] (List.getElem_mem hi)
  simpa [nth, hi] using this

section
variable {Y : Sys} {h h' : Heap}

theorem sem_b2s {s : Sl} {bs : List Nat} (r : RowB h s bs) (hsp : s.sp = none) : IOp.sem Y h .b2s [s.v] = some (.string (strB bs)) := by
  have hr := rd_rowB r
  rw [r.len] at hr
  cases hnl : s.nl with
  | true =>
    have : bs = [] := List.eq_nil_of_length_eq_zero (by rw [r.len]; exact (r.ok.nil hnl).1)
    subst this
    unfold Sl.v
    rw [hnl]
    rfl
  | false =>
    unfold Sl.v
    rw [hnl, hsp]
    show (rd h s.b s.o s.n).bind _ = _
    rw [hr]
    simp only [Option.bind_some, bytesV_bytesL]
    rfl

theorem ef_bslice4 {K : Value → Heap → Prop} {z : Value} {k : IntKind} {a b c d : Int} :
    Ef.wp h K (.bslice 4 1 #[z] [0, 1, 2, 3]) [.int k a, .int k b, .int k c, .int k d] = ∀ t : TypeId, K (.slice (some ⟨h.size, 0, none⟩) 4 4) (h.push (.cells #[.int k a, .int k b, .int k c, .int k d] t)) := by
  have e : Instr.fill (fun i => some (i * 1, 1)) (zeros #[z] (4 * 1)) ([0, 1, 2, 3].zip [.int k a, .int k b, .int k c, .int k d]) = some #[.int k a, .int k b, .int k c, .int k d] := by
    simp [Instr.fill, zeros_one]
    rfl
  simp only [Ef.wp, e]
theorem ef_bslice2 {K : Value → Heap → Prop} {z : Value} {k : IntKind} {a b : Int} :
    Ef.wp h K (.bslice 2 1 #[z] [0, 1]) [.int k a, .int k b] = ∀ t : TypeId, K (.slice (some ⟨h.size, 0, none⟩) 2 2) (h.push (.cells #[.int k a, .int k b] t)) := by
  have e : Instr.fill (fun i => some (i * 1, 1)) (zeros #[z] (2 * 1)) ([0, 1].zip [.int k a, .int k b]) = some #[.int k a, .int k b] := by
    simp [Instr.fill, zeros_one]
    rfl
  simp only [Ef.wp, e]

/-- a row that is laid whole -/
theorem own_laid {bs : List Nat} {t : TypeId} (hn : bs.length ≤ 1000) : Own (h.push (.cells (bytesL bs).toArray t)) 1 (Sl.at h.size bs.length bs.length) (bytesL bs) := by
  refine ⟨by simp, .inr ⟨rfl, rfl, rfl, Nat.le_refl _, by simp; omega, _, Blk.new, by simp, ?_⟩⟩
  simp
  rw [← bytesL_len (l := bs)]
  exact List.take_length

def WSumI (s : Sl) (bs : List Nat) (v1 v4 : Value) (h0 : Heap) (e : List Value) (h' : Heap) : Prop :=
  ∃ (i a c : Nat) (v4 v8 : Value), e = [s.v, v1, .int .i64 a, .int .i64 c, v4, s.v, .int .i64 s.n, .int .i64 i, v8] ∧ i ≤ s.n ∧ a < 257 ∧ c < 257 ∧ sumF 0 0 bs = sumF a c (bs.drop i) ∧ h' = h0

theorem wsum_spec (HS : Y.Has F.wire_Sum S_wire_Sum) {s : Sl} {bs : List Nat} (r : RowB h s bs) (hbig : s.n ≤ 1000000) {R : Value → Heap → Prop}
    (hr : ∀ h' s', Ext h h' → Own h' 1 s' (bytesL (sumB bs)) → s'.nl = false → h.size ≤ s'.b → R s'.v h') : CallP Y F.wire_Sum [s.v] h R := by
  refine .of_has HS rfl ?_
  have hl := r.len
  simp [S_wire_Sum, FnS.wp]
  refine wp_loop' (WSumI s bs (.slice none 0 0) undef h) (fun e _ => s.n - argI e 7) ⟨0, 0, 0, _, _, rfl, by omega, by omega, by omega, by simp, rfl⟩ ?_
  rintro e h1 ⟨i, a, c, v4, v8, rfl, hi, ha, hc, hsum, rfl⟩
  by_cases hlt : i < s.n
  · have hlt' : (i : Int) < s.n := by omega
    have hx := r.lt i (by omega)
    rw [nth_drop (by omega), sumF] at hsum
    have hcell := r.at hlt
    generalize nth bs i = x at *
    have w0 : IntKind.i64.wrap (x : Int) = (x : Int) := i64_wrap (by omega)
    have w1 : IntKind.i64.wrap ((a : Int) + x) = (a : Int) + x := i64_wrap (by omega)
    obtain ⟨a', ha'⟩ : ∃ a', a' = (a + x) % 257 := ⟨_, rfl⟩
    obtain ⟨c', hc'⟩ : ∃ c', c' = (c + a') % 257 := ⟨_, rfl⟩
    have t1 : ((a : Int) + x).tmod 257 = (a' : Int) := by rw [Int.tmod_eq_emod_of_nonneg (by omega)]; omega
    have w2 : IntKind.i64.wrap ((c : Int) + a') = (c : Int) + a' := i64_wrap (by omega)
    have t2 : ((c : Int) + a').tmod 257 = (c' : Int) := by rw [Int.tmod_eq_emod_of_nonneg (by omega)]; omega
    have w3 : IntKind.i64.wrap ((i : Int) + 1) = (i : Int) + 1 := i64_wrap (by omega)
    rw [← ha', ← hc'] at hsum
    simp [hlt', sem_idxa r.ok, hcell, w0, w1, ib_rem, t1, w2, t2, w3]
    exact ⟨⟨i + 1, a', c', _, _, rfl, by omega, by omega, by omega, hsum, rfl⟩, by simp [argI]; omega⟩
  · have hlt' : ¬ (i : Int) < s.n := by omega
    rw [List.drop_eq_nil_of_le (by omega)] at hsum
    simp only [sumF] at hsum
    have q1 : (sumF 0 0 bs).1 = a := by rw [hsum]
    have q2 : (sumF 0 0 bs).2 = c := by rw [hsum]
    obtain ⟨b0, hb0⟩ : ∃ b, b = a % 256 := ⟨_, rfl⟩
    obtain ⟨b1, hb1⟩ : ∃ b, b = a / 256 := ⟨_, rfl⟩
    obtain ⟨b2, hb2⟩ : ∃ b, b = c % 256 := ⟨_, rfl⟩
    obtain ⟨b3, hb3⟩ : ∃ b, b = c / 256 := ⟨_, rfl⟩
    have k0 : ibin .and .i64 (a : Int) .i64 255 = some (.int .i64 (b0 : Int)) := by rw [ib_and255 ha, hb0]
    have k1 : ∀ j, ibin .shr .i64 (a : Int) j 8 = some (.int .i64 (b1 : Int)) := fun j => by rw [shr8_64, hb1]
    have k2 : ibin .and .i64 (c : Int) .i64 255 = some (.int .i64 (b2 : Int)) := by rw [ib_and255 hc, hb2]
    have k3 : ∀ j, ibin .shr .i64 (c : Int) j 8 = some (.int .i64 (b3 : Int)) := fun j => by rw [shr8_64, hb3]
    have w0 : IntKind.u8.wrap (b0 : Int) = (b0 : Int) := u8_wrap (by omega)
    have w1 : IntKind.u8.wrap (b1 : Int) = (b1 : Int) := u8_wrap (by omega)
    have w2 : IntKind.u8.wrap (b2 : Int) = (b2 : Int) := u8_wrap (by omega)
    have w3 : IntKind.u8.wrap (b3 : Int) = (b3 : Int) := u8_wrap (by omega)
    have hs : sumB bs = [b0, b1, b2, b3] := by simp only [sumB, q1, q2, hb0, hb1, hb2, hb3]
    simp [hlt', k0, k1, k2, k3, w0, w1, w2, w3, ef_bslice4]
    intro t
    have := own_laid (h := h1) (bs := [b0, b1, b2, b3]) (t := t) (by simp)
    rw [← hs] at this
    exact hr _ _ Mod.push (by rw [hs] at this ⊢; exact this) rfl (Nat.le_refl _)

def RSumI (s : Sl) (bs : List Nat) (v1 : Value) (h0 : Heap) (e : List Value) (h' : Heap) : Prop :=
  ∃ (i a c : Nat) (v5 : Value), e = [s.v, v1, .int .i64 a, .int .i64 c, .int .i64 i, v5] ∧ i ≤ s.n ∧ a < 257 ∧ c < 257 ∧ sumF 0 0 bs = sumF a c (bs.drop i) ∧ h' = h0

theorem wrsum_spec (HS : Y.Has F.rref6_SumOf S_rref6_SumOf) {s : Sl} {bs : List Nat} (r : RowB h s bs) (hbig : s.n ≤ 1000000) {R : Value → Heap → Prop}
    (hr : ∀ h' s', Ext h h' → Own h' 1 s' (bytesL (sumB bs)) → s'.nl = false → h.size ≤ s'.b → R s'.v h') : CallP Y F.rref6_SumOf [s.v] h R := by
  refine .of_has HS rfl ?_
  have hl := r.len
  simp [S_rref6_SumOf, FnS.wp]
  refine wp_loop' (RSumI s bs (.slice none 0 0) h) (fun e _ => s.n - argI e 4) ⟨0, 0, 0, _, rfl, by omega, by omega, by omega, by simp, rfl⟩ ?_
  rintro e h1 ⟨i, a, c, v5, rfl, hi, ha, hc, hsum, rfl⟩
  by_cases hlt : i < s.n
  · have hlt' : (i : Int) < s.n := by omega
    have hx := r.lt i (by omega)
    rw [nth_drop (by omega), sumF] at hsum
    have hcell := r.at hlt
    generalize nth bs i = x at *
    have w0 : IntKind.i64.wrap (x : Int) = (x : Int) := i64_wrap (by omega)
    have w1 : IntKind.i64.wrap ((a : Int) + x) = (a : Int) + x := i64_wrap (by omega)
    obtain ⟨a', ha'⟩ : ∃ a', a' = (a + x) % 257 := ⟨_, rfl⟩
    obtain ⟨c', hc'⟩ : ∃ c', c' = (c + a') % 257 := ⟨_, rfl⟩
    have t1 : ((a : Int) + x).tmod 257 = (a' : Int) := by rw [Int.tmod_eq_emod_of_nonneg (by omega)]; omega
    have w2 : IntKind.i64.wrap ((c : Int) + a') = (c : Int) + a' := i64_wrap (by omega)
    have t2 : ((c : Int) + a').tmod 257 = (c' : Int) := by rw [Int.tmod_eq_emod_of_nonneg (by omega)]; omega
    have w3 : IntKind.i64.wrap ((i : Int) + 1) = (i : Int) + 1 := i64_wrap (by omega)
    rw [← ha', ← hc'] at hsum
    simp [hlt', sem_idxa r.ok, hcell, w0, w1, ib_rem, t1, w2, t2, w3]
    exact ⟨⟨i + 1, a', c', _, rfl, by omega, by omega, by omega, hsum, rfl⟩, by simp [argI]; omega⟩
  · have hlt' : ¬ (i : Int) < s.n := by omega
    rw [List.drop_eq_nil_of_le (by omega)] at hsum
    simp only [sumF] at hsum
    have q1 : (sumF 0 0 bs).1 = a := by rw [hsum]
    have q2 : (sumF 0 0 bs).2 = c := by rw [hsum]
    obtain ⟨b0, hb0⟩ : ∃ b, b = a % 256 := ⟨_, rfl⟩
    obtain ⟨b1, hb1⟩ : ∃ b, b = a / 256 := ⟨_, rfl⟩
    obtain ⟨b2, hb2⟩ : ∃ b, b = c % 256 := ⟨_, rfl⟩
    obtain ⟨b3, hb3⟩ : ∃ b, b = c / 256 := ⟨_, rfl⟩
    have k0 : (a : Int).tmod 256 = (b0 : Int) := by rw [Int.tmod_eq_emod_of_nonneg (by omega)]; omega
    have k1 : (a : Int).tdiv 256 = (b1 : Int) := by rw [Int.tdiv_eq_ediv_of_nonneg (by omega)]; omega
    have k2 : (c : Int).tmod 256 = (b2 : Int) := by rw [Int.tmod_eq_emod_of_nonneg (by omega)]; omega
    have k3 : (c : Int).tdiv 256 = (b3 : Int) := by rw [Int.tdiv_eq_ediv_of_nonneg (by omega)]; omega
    have u1 : IntKind.i64.wrap (b1 : Int) = (b1 : Int) := i64_wrap (by omega)
    have u3 : IntKind.i64.wrap (b3 : Int) = (b3 : Int) := i64_wrap (by omega)
    have w0 : IntKind.u8.wrap (b0 : Int) = (b0 : Int) := u8_wrap (by omega)
    have w1 : IntKind.u8.wrap (b1 : Int) = (b1 : Int) := u8_wrap (by omega)
    have w2 : IntKind.u8.wrap (b2 : Int) = (b2 : Int) := u8_wrap (by omega)
    have w3 : IntKind.u8.wrap (b3 : Int) = (b3 : Int) := u8_wrap (by omega)
    have hs : sumB bs = [b0, b1, b2, b3] := by simp only [sumB, q1, q2, hb0, hb1, hb2, hb3]
    simp [hlt', ib_rem, ib_quo, k0, k1, k2, k3, u1, u3, w0, w1, w2, w3, ef_bslice4]
    intro t
    have := own_laid (h := h1) (bs := [b0, b1, b2, b3]) (t := t) (by simp)
    rw [← hs] at this
    exact hr _ _ Mod.push (by rw [hs] at this ⊢; exact this) rfl (Nat.le_refl _)
end
end Go.Rm
