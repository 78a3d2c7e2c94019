import Derived.Test.YtnbciaekpbadmaaDoorRLaw3f
import Derived.Test.YtnbciaekpbadmaaDoorRLaw4
import Derived.Test.YtnbciaekpbadmaaDoorRNet
import Derived.Test.YtnbciaekpbadmaaDoorRRef6a
import Derived.Test.YtnbciaekpbadmaaDoorSNums

/- Nets in bytes: the document's reader. -/
set_option linter.unusedSimpArgs false
set_option linter.unusedVariables false
namespace Go.Rm

def accD (l : List Nat) : Nat → Nat
  | 0 => 0
  | n + 1 => accD l n + (nth l n % 128) * 2 ^ (7 * n)
/-- the first k bytes go on -/
theorem scan_upto {l : List Nat} (hb : ∀ i, i < l.length → nth l i < 256) : ∀ {k : Nat}, k ≤ 10 → k ≤ l.length → (∀ j, j < k → 128 ≤ nth l j) → scanR l = scanF (10 - k) k (accD l k) (l.drop k) := by
  intro k
  induction k with
  | zero => intro _ _ _; rfl
  | succ k ih =>
    intro h1 h2 h3
    rw [ih (by omega) (by omega) (fun j hj => h3 j (by omega)), nth_drop (by omega), show 10 - k = (10 - (k + 1)) + 1 by omega, scanF, if_pos (h3 k (by omega))]
    have := h3 k (by omega)
    have := hb k (by omega)
    rw [show nth l k - 128 = nth l k % 128 by omega]
    rfl
theorem scan_ten {l : List Nat} (hb : ∀ i, i < l.length → nth l i < 256) (h2 : 10 ≤ l.length) (h3 : ∀ j, j < 10 → 128 ≤ nth l j) : scanR l = (0, 0, 2) := by
  rw [scan_upto hb (Nat.le_refl _) h2 h3]; rfl
theorem scan_end {l : List Nat} (hb : ∀ i, i < l.length → nth l i < 256) {k : Nat} (hk : k < 10) (h2 : k = l.length) (h3 : ∀ j, j < k → 128 ≤ nth l j) : scanR l = (0, 0, 3) := by
  rw [scan_upto hb (by omega) (by omega) h3, List.drop_eq_nil_of_le (by omega), show 10 - k = (9 - k) + 1 by omega, scanF]
theorem scan_last {l : List Nat} (hb : ∀ i, i < l.length → nth l i < 256) {k : Nat} (hk : k < 10) (h2 : k < l.length) (h3 : ∀ j, j < k → 128 ≤ nth l j) (hl : nth l k < 128) :
    scanR l = if (nth l k = 0 ∧ 0 < k) ∨ (1 < nth l k ∧ k = 9) then (0, 0, 2) else (accD l (k + 1), k + 1, 0) := by
  rw [scan_upto hb (by omega) (by omega) h3, nth_drop h2, show 10 - k = (9 - k) + 1 by omega, scanF, if_neg (by omega)]
  rw [show accD l (k + 1) = accD l k + (nth l k % 128) * 2 ^ (7 * k) from rfl, show nth l k % 128 = nth l k by omega]
theorem nth_drop' {l : List Nat} {a i : Nat} : nth (l.drop a) i = nth l (a + i) := by
  simp [nth, List.getD_eq_getElem?_getD]

section
variable {Y : Sys} {h h' : Heap}

/-- the document's reader in memory -/
structure RdD (h : Heap) (p : Nat) (bs : List Nat) (at' : Nat) (bad : Int) (s q : Sl) : Prop where
  blk : Blk h p #[s.v, .int .i64 at', q.v, .int .i64 bad]
  row : RowB h s bs
  ne : bs ≠ [] → s.b ≠ p
  le : at' ≤ bs.length
  big : bs.length ≤ 1000000
  nil : bad = 0 → q = Sl.nil
  parts : bad ≠ 0 → Blk h q.b #[.string wByte, .int .i64 at'] ∧ q = Sl.at q.b 1 1 ∧ q.b ≠ p
theorem RdD.ext {p at' : Nat} {bs : List Nat} {bad : Int} {s q : Sl} (r : RdD h p bs at' bad s q) (he : Ext h h') : RdD h' p bs at' bad s q :=
  ⟨r.blk.ext he, r.row.ext he, r.ne, r.le, r.big, r.nil, fun hb => ⟨(r.parts hb).1.ext he, (r.parts hb).2⟩⟩
theorem RdD.other {S : Nat → Prop} {p at' : Nat} {bs : List Nat} {bad : Int} {s q : Sl} (r : RdD h p bs at' bad s q) (hm : Mod S h h') (h1 : ¬ S p) (h2 : bs ≠ [] → ¬ S s.b) (h3 : bad ≠ 0 → ¬ S q.b) : RdD h' p bs at' bad s q :=
  ⟨hm.blk r.blk h1, r.row.mod hm h2, r.ne, r.le, r.big, r.nil, fun hb => ⟨hm.blk (r.parts hb).1 (h3 hb), (r.parts hb).2⟩⟩
theorem parts_at {b : Nat} {a : Int} {p : ByteArray} (hb : Blk h b #[.string p, .int .i64 a]) : PartsAt h (Sl.at b 1 1) [(p, a)] := by
  refine ⟨⟨fun h => (by cases h), by simp, .inl rfl⟩, rfl, ?_⟩
  intro i x hx
  match i with
  | 0 =>
    simp at hx
    subst hx
    exact ⟨by rw [show (Sl.at b 1 1).b = b from rfl, hb.hc]; rfl, by rw [show (Sl.at b 1 1).b = b from rfl, hb.hc]; rfl⟩
  | i + 1 => simp at hx
theorem RowB.blk_lt {s : Sl} {bs : List Nat} (r : RowB h s bs) (hn : bs ≠ []) : s.b < h.size := by
  have := r.val 0 (List.length_pos_iff.2 hn)
  unfold hc at this
  rcases Nat.lt_or_ge s.b h.size with g | g
  · exact g
  · rw [Array.getElem?_eq_none g] at this; cases this
theorem RdD.set1 {p at' : Nat} {bs : List Nat} {s q : Sl} (r : RdD h p bs at' 0 s q) {a : Nat} (ha : a ≤ bs.length) : RdD (hset h p 1 (.int .i64 a)) p bs a 0 s q :=
  ⟨r.blk.set, r.row.mod (S := fun j => j = p) (Mod.set rfl) (fun hn => r.ne hn), r.ne, ha, r.big, r.nil, fun hb => absurd rfl hb⟩

structure DocRd (Y : Sys) : Prop where
  At : Y.Has F.rref6_At S_rref6_At
  Uint : Y.Has F.rref6_Reader_Uint S_rref6_Reader_Uint
  Int : Y.Has F.rref6_Reader_Int S_rref6_Reader_Int
  cost : Y.Has F.rref6_Reader_cost S_rref6_Reader_cost
  Done : Y.Has F.rref6_Reader_Done S_rref6_Reader_Done
  fail : Y.Has F.rref6_Reader_fail S_rref6_Reader_fail
  table : Y.Has F.rref6_Reader_table S_rref6_Reader_table

/-- At, with the parts' block told -/
theorem rat1_spec (HA : Y.Has F.rref6_At S_rref6_At) {p : ByteArray} {a c : Int} {R : Value → Heap → Prop} (hr : ∀ h' b, Ext h h' → h.size ≤ b → Blk h' b #[.string p, .int .i64 a] → R (.agg #[(Sl.at b 1 1).v, .int .i64 c]) h') :
    CallP Y F.rref6_At [.string p, .int .i64 a, .int .i64 c] h R := by
  refine .of_has HA rfl ?_
  simp [S_rref6_At, FnS.wp]
  refine ef_new_box ?_
  intro b h1 g1 B1 e1
  simp [ef_bslice_part]
  intro t
  have P2 : Blk (h1.push (.cells #[.string p, .int .i64 a] t)) h1.size #[.string p, .int .i64 a] := Blk.new
  have e2 : Ext h1 (h1.push (.cells #[.string p, .int .i64 a] t)) := Mod.push
  have B2 := B1.ext e2
  have z1 := e1.size
  have B1lt := B1.lt
  generalize h1.push (.cells #[.string p, .int .i64 a] t) = h2 at *
  refine ef_store_box B2 rfl rfl (by simp) ?_
  intro h3 B3 m3
  simp
  refine resP_x rfl B3 rfl ?_
  exact hr h3 h1.size ((e1.trans e2).ext m3 (fun j hj => by omega)) (by omega) (m3.blk P2 (by omega))

theorem ef_store_at {K : Value → Heap → Prop} {b o n : Nat} {c vs c' : Array Value} (hb : Blk h b c) (hn : vs.size = n) (ho : o + n ≤ c.size) (h1 : ∀ v ∈ vs.toList, v.oneCell' = true)
    (hc' : (c.toList.take o ++ vs.toList ++ c.toList.drop (o + n)).toArray = c')
    (hk : ∀ h', Blk h' b c' → Mod (fun j => j = b) h h' → K undef h') : Ef.wp h K (.store n) [.pointer (some ⟨b, o, none⟩), .agg vs] := by
  obtain ⟨h', q1, q2, q3, q4⟩ := hst_blk (o := o) (vs := vs.toList) hb (by simp; omega) h1
  refine ⟨hn, ?_⟩
  simp only [cells_aggV, q1]
  refine hk h' ?_ q3
  rw [← hc']
  have : vs.toList.length = n := by simpa using hn
  rw [← this]
  exact q2

theorem dfail_spec (D : DocRd Y) {p at' : Nat} {bs : List Nat} {s q : Sl} (r : RdD h p bs at' 0 s q) {e : Int} (he : e ≠ 0) {R : Value → Heap → Prop}
    (hr : ∀ v h' q', Mod (fun j => j = p) h h' → RdD h' p bs at' e s q' → h.size ≤ q'.b → R v h') : CallP Y F.rref6_Reader_fail [.pointer (some ⟨p, 0, none⟩), .int .i64 e] h R := by
  refine .of_has D.fail rfl ?_
  simp [S_rref6_Reader_fail, FnS.wp, r.blk.hc]
  refine rat1_spec D.At ?_
  intro h1 b e1 g1 B1
  have r1 := r.ext e1
  have lp := r.blk.lt
  simp
  refine ef_store_at (c' := #[s.v, .int .i64 at', (Sl.at b 1 1).v, .int .i64 e]) r1.blk rfl (by simp) (by simp) rfl ?_
  intro h2 b2 m2
  simp
  have z1 := e1.size
  refine hr _ h2 (Sl.at b 1 1) ((e1.mono (fun _ _ h => h.elim)).trans m2) ⟨b2, r1.row.mod m2 (fun hn => r.ne hn), r.ne, r.le, r.big, fun hq => absurd hq he, fun _ => ⟨m2.blk B1 (show ¬ b = p by omega), rfl, show b ≠ p by omega⟩⟩ g1

def DuI (p most at' : Nat) (l : List Nat) (h0 : Heap) (e : List Value) (h' : Heap) : Prop :=
  ∃ (i : Nat) (v4 v5 v6 v7 v8 v9 v10 v11 v12 v13 : Value), e = [.pointer (some ⟨p, 0, none⟩), .int .u64 most, .int .u64 0, .int .i64 i, v4, v5, v6, v7, v8, v9, v10, v11, v12, v13] ∧ i ≤ 10 ∧ i ≤ l.length ∧ (∀ j, j < i → 128 ≤ nth l j) ∧ h' = h0
def DuJ (p most k x : Nat) (l : List Nat) (h0 : Heap) (e : List Value) (h' : Heap) : Prop :=
  ∃ (i : Nat) (v : Nat) (z : Int) (v7 v8 v9 v10 v11 v12 v13 : Value), e = [.pointer (some ⟨p, 0, none⟩), .int .u64 most, .int .u64 0, .int .i64 k, .int .u8 x, .int .u64 v, .int .i64 z, v7, v8, v9, v10, v11, v12, v13] ∧ i ≤ k + 1 ∧ z = (i : Int) - 1 ∧ accD l i + v * 2 ^ (7 * i) = accD l (k + 1) ∧ h' = h0

theorem duint_spec (D : DocRd Y) {p at' : Nat} {bs : List Nat} {bad : Int} {s q : Sl} (r : RdD h p bs at' bad s q) {most : Nat} (hmost : most < 2 ^ 64) {R : Value → Heap → Prop}
    (hr : ∀ h' q', Mod (fun j => j = p) h h' → RdD h' p bs (rdU bs at' bad most).2.1 (rdU bs at' bad most).2.2 s q' → ((rdU bs at' bad most).2.2 ≠ 0 → (bad ≠ 0 ∧ q' = q) ∨ h.size ≤ q'.b) → R (.int .u64 ((rdU bs at' bad most).1 : Int)) h') :
    CallP Y F.rref6_Reader_Uint [.pointer (some ⟨p, 0, none⟩), .int .u64 most] h R := by
  refine .of_has D.Uint rfl ?_
  by_cases h0 : bad = 0
  rotate_left
  · have hv : rdU bs at' bad most = (0, at', bad) := by simp [rdU, h0]
    rw [hv] at hr
    simp [S_rref6_Reader_Uint, FnS.wp, r.blk.hc, h0]
    exact hr h q (Mod.refl h) r (fun _ => .inl ⟨h0, rfl⟩)
  subst h0
  have hl := r.row.len
  have hbig := r.big
  have hle := r.le
  obtain ⟨l, hld⟩ : ∃ l, l = bs.drop at' := ⟨_, rfl⟩
  have hll : l.length = bs.length - at' := by rw [hld]; simp
  have hnl : ∀ i, nth l i = nth bs (at' + i) := fun i => by rw [hld]; exact nth_drop'
  have hlb : ∀ i, i < l.length → nth l i < 256 := fun i hi => by rw [hnl]; exact r.row.lt _ (by omega)
  have hv : rdU bs at' 0 most = if (scanR l).2.2 ≠ 0 then (0, at', ((scanR l).2.2 : Int)) else if most < (scanR l).1 then (0, at', 8) else ((scanR l).1, at' + (scanR l).2.1, 0) := by
    simp [rdU, hld]
  rw [hv] at hr
  clear hv
  have fx := scanR_facts hlb
  have bad' : ∀ (e : Nat) (K : Value → Heap → Prop), e ≠ 0 → scanR l = (0, 0, e) ∨ (e = 8 ∧ (scanR l).2.2 = 0 ∧ most < (scanR l).1) → (∀ v h', R (.int .u64 0) h' → K v h') → CallP Y F.rref6_Reader_fail [.pointer (some ⟨p, 0, none⟩), .int .i64 e] h K := by
    intro e K he hs hK
    refine dfail_spec D r (by omega) ?_
    intro v h1 q1 m1 r1 g1
    refine hK v h1 ?_
    rcases hs with hs | ⟨rfl, hs1, hs2⟩
    · rw [hs, if_pos (by simpa using he)] at hr
      exact hr h1 q1 m1 r1 (fun _ => .inr g1)
    · rw [if_neg (by simpa using hs1), if_pos hs2] at hr
      exact hr h1 q1 m1 r1 (fun _ => .inr g1)
  simp [S_rref6_Reader_Uint, FnS.wp, r.blk.hc]
  refine wp_loop' (DuI p most at' l h) (fun e _ => 10 - argI e 3) ⟨0, _, _, _, _, _, _, _, _, _, _, rfl, by omega, by omega, fun j hj => by omega, rfl⟩ ?_
  rintro e h' ⟨i, v4, v5, v6, v7, v8, v9, v10, v11, v12, v13, rfl, hi, hil, hhi, rfl⟩
  by_cases h10 : i < 10
  rotate_left
  · have h10' : ¬ (i : Int) < 10 := by omega
    have h10'' : ((i : Int) = 10) = True := by simp; omega
    simp [h10', h10'']
    have : i = 10 := by omega
    subst this
    refine bad' 2 _ (by omega) (.inl (scan_ten hlb hil hhi)) ?_
    intro v h1 hR
    simp
    exact hR
  have h10' : (i : Int) < 10 := by omega
  have h10'' : ((i : Int) = 10) = False := by simp; omega
  have h10n : (i = 10) = False := by simp; omega
  have w1 : IntKind.i64.wrap ((at' : Int) + i) = (at' : Int) + i := i64_wrap (by omega)
  have w2 : IntKind.i64.wrap ((i : Int) + 1) = (i : Int) + 1 := i64_wrap (by omega)
  by_cases hend : i < l.length
  rotate_left
  · have hend' : ¬ (at' : Int) + i < s.n := by omega
    have hend'' : (s.n : Int) ≤ (at' : Int) + i := by omega
    simp [h10', h10'', h10n, r.blk.hc, w1, hend', hend'']
    refine bad' 3 _ (by omega) (.inl (scan_end hlb h10 (by omega) hhi)) ?_
    intro v h1 hR
    simp
    exact hR
  have hend' : (at' : Int) + i < s.n := by omega
  have hend'' : ¬ (s.n : Int) ≤ (at' : Int) + i := by omega
  have hend3 : at' + i < s.n := by omega
  have hx := hlb i hend
  have hcells : ∀ j, j < l.length → hc h' s.b (s.o + (at' + j)) = some (.int .u8 (nth l j : Int)) := fun j hj => by
    rw [hnl]; exact r.row.at (i := at' + j) (by omega)
  have hcell := hcells i hend
  have hidxs : ∀ j, j < l.length → IOp.sem Y h' (.idxa 1) [s.v, .int .i64 ((at' : Int) + j)] = some (.pointer (some ⟨s.b, s.o + (at' + j), none⟩)) := fun j hj => by
    have := sem_idxa (Y := Y) (h := h') (k := .i64) (sz := 1) (i := (at' : Int) + j) r.row.ok (by omega) (by omega)
    rw [this, Nat.mul_one, show ((at' : Int) + j).toNat = at' + j by omega]
  have hidx := hidxs i hend
  by_cases hi128 : 128 ≤ nth l i
  · have hge : (128 : Int) ≤ (nth l i : Int) := by omega
    simp [h10', r.blk.hc, w1, w2, hend', hidx, hcell, hge]
    have hhi' : ∀ j, j < i + 1 → 128 ≤ nth l j := by
      intro j hj
      rcases Nat.lt_or_eq_of_le (Nat.lt_succ_iff.1 hj) with g | g
      · exact hhi j g
      · rw [g]; exact hi128
    refine ⟨⟨i + 1, _, _, _, _, _, _, _, _, _, _, rfl, by omega, by omega, hhi', rfl⟩, by simp [argI]; omega⟩
  have hge : ¬ (128 : Int) ≤ (nth l i : Int) := by omega
  have hlast := scan_last hlb h10 hend hhi (by omega)
  by_cases hbad : (nth l i = 0 ∧ 0 < i) ∨ (1 < nth l i ∧ i = 9)
  · rw [if_pos hbad] at hlast
    rcases hbad with ⟨z1, z2⟩ | ⟨z1, z2⟩
    · have z1' : ((nth l i : Int) = 0) = True := by simp; omega
      have z1'' : (nth l i = 0) = True := by simp; omega
      have z2' : (0 : Int) < i := by omega
      simp [h10', h10'', h10n, r.blk.hc, w1, w2, hend', hend'', hidx, hcell, hge, z1', z1'', z2', z2]
      refine bad' 2 _ (by omega) (.inl hlast) ?_
      intro v h1 hR
      simp
      exact hR
    · have z1' : ((nth l i : Int) = 0) = False := by simp; omega
      have z1'' : (nth l i = 0) = False := by simp; omega
      have z1n : (1 : Int) < nth l i := by omega
      have z2' : ((i : Int) = 9) = True := by simp; omega
      have z2'' : (i = 9) = True := by simp; omega
      simp [h10', h10'', h10n, r.blk.hc, w1, w2, hend', hend'', hidx, hcell, hge, z1', z1'', z2', z2'', z1n]
      refine bad' 2 _ (by omega) (.inl hlast) ?_
      intro v h1 hR
      simp
      exact hR
  rw [if_neg hbad] at hlast
  have hok : (nth l i = 0 ∧ i = 0) ∨ (nth l i ≠ 0 ∧ i = 9 ∧ nth l i ≤ 1) ∨ (nth l i ≠ 0 ∧ i ≠ 9) := by omega
  have tail : ∀ (v7 v8 v9 v10 v11 v12 v13 : Value), Stmt.wp Y S_rref6_Reader_Uint.body.rest.rest.rest.rest.rest.rest.rest.rest (resP S_rref6_Reader_Uint.res R) (fun _ _ _ => False) (resP S_rref6_Reader_Uint.res R)
      [.pointer (some ⟨p, 0, none⟩), .int .u64 most, .int .u64 0, .int .i64 i, .int .u8 (nth l i), v5, v6, v7, v8, v9, v10, v11, v12, v13] h' := by
    intro v7 v8 v9 v10 v11 v12 v13
    simp [S_rref6_Reader_Uint, Stmt.rest]
    obtain ⟨total, htot⟩ : ∃ total, total = accD l (i + 1) := ⟨_, rfl⟩
    have ht64 : total < 2 ^ 64 := by rw [htot]; have := fx.1; rw [hlast] at this; exact this
    refine wp_loop' (DuJ p most i (nth l i) l h') (fun e _ => (argZ e 6 + 1).toNat) ⟨i + 1, 0, (i : Int), _, _, _, _, _, _, _, by rfl, by omega, by omega, by simp, rfl⟩ ?_
    rintro e h2 ⟨j, v, z, w7, w8, w9, w10, w11, w12, w13, rfl, hj, hz, hacc, rfl⟩
    rw [← htot] at hacc
    cases j with
    | zero =>
      have hz' : ¬ (0 : Int) ≤ z := by omega
      have hz2 : z < 0 := by omega
      have hvt : v = total := by simpa [accD] using hacc
      by_cases hm : most < v
      · have hm' : (most : Int) < v := by omega
        simp [hz', hz2, hm']
        refine bad' 8 _ (by omega) (.inr ⟨rfl, by rw [hlast], by rw [hlast]; show most < accD l (i + 1); omega⟩) ?_
        intro v h1 hR
        simp
        exact hR
      · have hm' : ¬ (most : Int) < v := by omega
        have w3 : IntKind.i64.wrap ((at' : Int) + i + 1) = ((at' + (i + 1) : Nat) : Int) := by rw [i64_wrap (by omega)]; omega
        rw [hlast, if_neg (by simp), if_neg (by simp only; omega)] at hr
        have := hr _ q (Mod.set rfl) (r.set1 (a := at' + (i + 1)) (by omega)) (fun hq => absurd rfl hq)
        simp only at this
        rw [← htot, ← hvt] at this
        simp [hz', hz2, hm', r.blk.hc, StoreP.open, r.blk.hfz, w1, w3]
        simpa using this
    | succ m =>
      have hzm : z = (m : Int) := by omega
      subst hzm
      have hml : m < l.length := by omega
      obtain ⟨d, hd⟩ : ∃ d, d = nth l m % 128 := ⟨_, rfl⟩
      have hd1 : d < 128 := by omega
      obtain ⟨v2, hv2⟩ : ∃ v2, v2 = v * 128 + d := ⟨_, rfl⟩
      have hacc2 : accD l m + v2 * 2 ^ (7 * m) = total := by
        rw [← hacc, hv2, show accD l (m + 1) = accD l m + (nth l m % 128) * 2 ^ (7 * m) from rfl, ← hd, show 7 * (m + 1) = 7 * m + 7 by omega, Nat.pow_add, Nat.add_mul, show (2 : Nat) ^ 7 = 128 by decide,
          show v * (2 ^ (7 * m) * 128) = v * 128 * 2 ^ (7 * m) by rw [Nat.mul_comm (2 ^ (7 * m)) 128, Nat.mul_assoc]]
        omega
      have hpos : 1 ≤ 2 ^ (7 * m) := Nat.one_le_two_pow
      have hv64 : v2 < 2 ^ 64 := by
        have : v2 * 1 ≤ v2 * 2 ^ (7 * m) := Nat.mul_le_mul_left _ hpos
        omega
      have t0 : (0 : Int) ≤ (m : Int) := by omega
      have t1 : IntKind.i64.wrap ((at' : Int) + m) = (at' : Int) + m := i64_wrap (by omega)
      have t2 : ((nth l m : Nat) : Int).tmod 128 = (d : Int) := by rw [Int.tmod_eq_emod_of_nonneg (by omega)]; omega
      have t3 : IntKind.u8.wrap (d : Int) = (d : Int) := u8_wrap (by omega)
      have t4 : IntKind.u64.wrap (d : Int) = (d : Int) := u64_wrap (by omega)
      have t5 : IntKind.u64.wrap ((v : Int) * 128) = (v : Int) * 128 := u64_wrap (by omega)
      have t6 : IntKind.u64.wrap ((v : Int) * 128 + d) = (v2 : Int) := by rw [u64_wrap (by omega)]; omega
      have t7 : IntKind.i64.wrap ((m : Int) - 1) = (m : Int) - 1 := i64_wrap (by omega)
      have h128 : (128 : Int) ≠ 0 := by decide
      simp [t0, r.blk.hc, t1, hidxs m hml, hcells m hml, ib_rem h128, t2, t3, t4, t5, t6, t7]
      refine ⟨⟨m, v2, (m : Int) - 1, _, _, _, _, _, _, _, rfl, by omega, rfl, by rw [← htot]; exact hacc2, rfl⟩, by simp [argZ]; omega⟩
  simp only [S_rref6_Reader_Uint, Stmt.rest] at tail
  rcases hok with ⟨z1, z2⟩ | ⟨z1, z2, z3⟩ | ⟨z1, z2⟩
  · have z1' : ((nth l i : Int) = 0) = True := by simp; omega
    have z1'' : (nth l i = 0) = True := by simp; omega
    have z2' : ¬ (0 : Int) < i := by omega
    have z2n : ¬ 0 < i := by omega
    have z3' : ((i : Int) = 9) = False := by simp; omega
    have z3'' : (i = 9) = False := by simp; omega
    have z4'' : (i = 0) = True := by simp; omega
    simp [h10', h10'', h10n, r.blk.hc, w1, w2, hend', hend'', hidx, hcell, hge, z1', z1'', z2', z2n, z3', z3'', z4'']
    have t := tail v7 (.bool false) (.bool false) (.bool false) (.bool false) v12 v13
    simp at t
    exact t
  · have z1' : ((nth l i : Int) = 0) = False := by simp; omega
    have z1'' : (nth l i = 0) = False := by simp; omega
    have z1n : ¬ (1 : Int) < nth l i := by omega
    have z2' : ((i : Int) = 9) = True := by simp; omega
    have z2'' : (i = 9) = True := by simp; omega
    simp [h10', h10'', h10n, r.blk.hc, w1, w2, hend', hend'', hidx, hcell, hge, z1', z1'', z2', z2'', z1n]
    have t := tail v7 (.bool false) (.bool false) (.bool false) (.bool false) v12 v13
    simp at t
    exact t
  · have z1' : ((nth l i : Int) = 0) = False := by simp; omega
    have z1'' : (nth l i = 0) = False := by simp; omega
    have z2' : ((i : Int) = 9) = False := by simp; omega
    have z2'' : (i = 9) = False := by simp; omega
    simp [h10', h10'', h10n, r.blk.hc, w1, w2, hend', hend'', hidx, hcell, hge, z1', z1'', z2', z2'']
    have t := tail v7 (.bool false) (.bool false) (.bool false) (.bool false) v12 v13
    simp at t
    exact t

theorem rdU_bad {bs : List Nat} {at' most : Nat} {bad : Int} (hb : bad ≠ 0) : rdU bs at' bad most = (0, at', bad) := by simp [rdU, hb]
def costU (u : Nat) : Int := if u = 0 then 1152921504606846976 else (u : Int) - 1
theorem dcost_spec (D : DocRd Y) {p at' : Nat} {bs : List Nat} {bad : Int} {s q : Sl} (r : RdD h p bs at' bad s q) {R : Value → Heap → Prop}
    (hr : ∀ h' q', Mod (fun j => j = p) h h' → RdD h' p bs (rdU bs at' bad 2147483649).2.1 (rdU bs at' bad 2147483649).2.2 s q' → ((rdU bs at' bad 2147483649).2.2 ≠ 0 → (bad ≠ 0 ∧ q' = q) ∨ h.size ≤ q'.b) → R (.int .i64 (costU (rdU bs at' bad 2147483649).1)) h') :
    CallP Y F.rref6_Reader_cost [.pointer (some ⟨p, 0, none⟩)] h R := by
  refine .of_has D.cost rfl ?_
  simp [S_rref6_Reader_cost, FnS.wp]
  refine duint_spec D (most := 2147483649) r (by omega) ?_
  intro h1 q1 m1 r1 g1
  have := hr h1 q1 m1 r1 g1
  have hb : (rdU bs at' bad 2147483649).1 ≤ 2147483649 := by
    unfold rdU
    split
    · simp
    · split
      · simp
      · split
        · simp
        · simp only; omega
  generalize rdU bs at' bad 2147483649 = t at *
  obtain ⟨u, a, b⟩ := t
  simp only at *
  by_cases hu : u = 0
  · have hu' : ((u : Int) = 0) = True := by simp; omega
    rw [costU, if_pos hu] at this
    simp [hu, hu']
    exact this
  · have hu' : ((u : Int) = 0) = False := by simp; omega
    have w0 : IntKind.i64.wrap (u : Int) = (u : Int) := i64_wrap (by omega)
    have w1 : IntKind.i64.wrap ((u : Int) - 1) = (u : Int) - 1 := i64_wrap (by omega)
    rw [costU, if_neg hu] at this
    simp [hu, hu', w0, w1]
    exact this

theorem RdD.fwr {lo p at' : Nat} {bs : List Nat} {bad : Int} {s q : Sl} (r : RdD h p bs at' bad s q) (hq : bad ≠ 0 → lo ≤ q.b) : FWr lo h (rdW at' bad) (.agg #[q.v, .int .i64 bad]) := by
  intro h' m
  by_cases h0 : bad = 0
  · rw [r.nil h0, h0]
    exact ⟨Sl.nil, rfl, Sl.nil_ok, rfl, fun i x hx => by simp [rdW, wOK] at hx⟩
  · obtain ⟨b1, e1, _⟩ := r.parts h0
    have b2 := m.blk b1 (by have := hq h0; omega)
    refine ⟨q, by simp [rdW, h0, byteW], ?_⟩
    simp only [rdW, h0, if_false, byteW]
    rw [e1]
    exact parts_at b2

theorem ddone_spec (D : DocRd Y) {p at' : Nat} {bs : List Nat} {bad : Int} {s q : Sl} (r : RdD h p bs at' bad s q) {lo : Nat} (hlo : lo ≤ h.size) (hq : bad ≠ 0 → lo ≤ q.b) {R : Value → Heap → Prop}
    (hr : ∀ h' v, Ext h h' → FWr lo h' (doneW bs at' bad) v → R v h') : CallP Y F.rref6_Reader_Done [.pointer (some ⟨p, 0, none⟩)] h R := by
  refine .of_has D.Done rfl ?_
  simp [S_rref6_Reader_Done, FnS.wp]
  refine ef_new_box ?_
  intro b h1 g1 B1 e1
  have r1 := r.ext e1
  have hl := r.row.len
  have lB := B1.lt
  have rd2 : rd h1 p 2 2 = some [q.v, .int .i64 bad] := by simp [rd, r1.blk.hc]
  have lp := r.blk.lt
  have fin : ∀ (K : Value → Heap → Prop), doneW bs at' bad = rdW at' bad → (∀ h2 v, R (.agg #[q.v, .int .i64 bad]) h2 → Blk h2 b #[q.v, .int .i64 bad] → K v h2) → Ef.wp h1 K (.store 2) [.pointer (some ⟨b, 0, none⟩), .agg #[q.v, .int .i64 bad]] := by
    intro K hw hK
    refine ef_store_box B1 rfl rfl (by simp) ?_
    intro h2 B2 m2
    refine hK h2 _ (hr h2 _ (e1.ext m2 (fun j hj => by omega)) ?_) B2
    rw [hw]
    refine (r1.other m2 (by omega) (fun hn => ?_) (fun hb => ?_)).fwr hq
    · have := r.row.blk_lt hn; omega
    · have := (r.parts hb).1.lt; omega
  by_cases h0 : bad = 0
  · subst h0
    by_cases hlt : at' < bs.length
    · have hw : doneW bs at' 0 = byteW at' 4 := by simp [doneW, hlt]
      rw [hw] at hr
      have hlt' : (at' : Int) < s.n := by omega
      simp [r1.blk.hc, hlt']
      refine rat_spec D.At ?_
      intro h2 v e2 hv
      obtain ⟨s2, rfl⟩ := hv.here.shape
      simp
      refine ef_store_box (B1.ext e2) rfl rfl (by simp) ?_
      intro h3 B3 m3
      simp
      refine resP_x rfl B3 rfl ?_
      exact hr h3 _ ((e1.trans e2).ext m3 (fun j hj => by omega)) ((hv.step m3 (fun j hj => by omega)).mono (by have := e1.size; omega))
    · have hlt' : ¬ (at' : Int) < s.n := by omega
      simp [r1.blk.hc, hlt', rd2]
      refine fin _ (by simp [doneW, rdW, hlt]) ?_
      intro h2 v hR B2
      simp
      exact resP_x rfl B2 rfl hR
  · simp [r1.blk.hc, h0, rd2]
    refine fin _ (by simp [doneW, rdW, h0]) ?_
    intro h2 v hR B2
    simp
    exact resP_x rfl B2 rfl hR

theorem dint_spec (D : DocRd Y) {p at' : Nat} {bs : List Nat} {bad : Int} {s q : Sl} (r : RdD h p bs at' bad s q) {most : Nat} (hmost : most < 2 ^ 62) {R : Value → Heap → Prop}
    (hr : ∀ h' q', Mod (fun j => j = p) h h' → RdD h' p bs (rdI bs at' bad most).2.1 (rdI bs at' bad most).2.2 s q' → ((rdI bs at' bad most).2.2 ≠ 0 → (bad ≠ 0 ∧ q' = q) ∨ h.size ≤ q'.b) → R (.int .i64 (rdI bs at' bad most).1) h') :
    CallP Y F.rref6_Reader_Int [.pointer (some ⟨p, 0, none⟩), .int .u64 most] h R := by
  refine .of_has D.Int rfl ?_
  simp [S_rref6_Reader_Int, FnS.wp, r.blk.hc]
  refine duint_spec D (most := 18446744073709551615) r (by omega) ?_
  intro h1 q1 m1 r1 g1
  have fx := rdU_facts (most := 18446744073709551615) (bad := bad) r.row.lt r.le
  unfold rdI at hr
  generalize rdU bs at' bad 18446744073709551615 = t at *
  obtain ⟨u, a, b⟩ := t
  simp only at *
  by_cases hb : b = 0
  rotate_left
  · rw [if_pos hb] at hr
    have := hr h1 q1 m1 r1 g1
    simp [r1.blk.hc, hb]
    exact this
  subst hb
  rw [if_neg (by simp)] at hr
  have h2 : (2 : Int) ≠ 0 := by decide
  obtain ⟨d, hd⟩ : ∃ d, d = u / 2 := ⟨_, rfl⟩
  obtain ⟨c, hc2⟩ : ∃ c, c = u % 2 := ⟨_, rfl⟩
  have t1 : (u : Int).tdiv 2 = (d : Int) := by rw [Int.tdiv_eq_ediv_of_nonneg (by omega)]; omega
  have t2 : (u : Int).tmod 2 = (c : Int) := by rw [Int.tmod_eq_emod_of_nonneg (by omega)]; omega
  have w1 : IntKind.u64.wrap (d : Int) = (d : Int) := u64_wrap (by omega)
  have w2 : IntKind.i64.wrap (d : Int) = (d : Int) := i64_wrap (by omega)
  have w3 : IntKind.u64.wrap (c : Int) = (c : Int) := u64_wrap (by omega)
  have w4 : IntKind.i64.wrap (-1 - (d : Int)) = -1 - (d : Int) := i64_wrap (by omega)
  have w5 : IntKind.u64.wrap ((d : Int) + 1) = (d : Int) + 1 := u64_wrap (by omega)
  have hA : amt u = d + c := by unfold amt; rw [hd, hc2]
  rw [hA] at hr
  have fl : ∀ (K : Value → Heap → Prop), most < d + c → (∀ v h', R (.int .i64 0) h' → K v h') → CallP Y F.rref6_Reader_fail [.pointer (some ⟨p, 0, none⟩), .int .i64 8] (hset h1 p 1 (.int .i64 at')) K := by
    intro K hm hK
    rw [if_pos hm] at hr
    refine dfail_spec D (r1.set1 r.le) (by omega) ?_
    intro v h3 q3 m3 r3 g3
    have z1 := m1.size
    have z2 : (hset h1 p 1 (.int .i64 at')).size = h1.size := by simp
    exact hK v h3 (hr h3 q3 ((m1.trans (Mod.set rfl)).trans m3) r3 (fun _ => .inr (by omega)))
  have fg : ¬ most < d + c → R (.int .i64 (unz u)) h1 := by
    intro hm
    rw [if_neg hm] at hr
    exact hr h1 q1 m1 r1 (fun hq => absurd rfl hq)
  by_cases hc1 : c = 1
  · have hc1' : ((c : Int) = 1) = True := by simp; omega
    have hu : unz u = -1 - (d : Int) := by unfold unz; rw [if_pos (by omega), hd]
    rw [hu] at fg
    by_cases hm : most < d + c
    · have hm' : (most : Int) < (d : Int) + 1 := by omega
      simp [r1.blk.hc, ib_quo h2, ib_rem h2, t1, t2, w1, w2, w3, w4, w5, hc1', hm', StoreP.open, r1.blk.hfz]
      refine fl _ hm ?_
      intro v h3 hR
      simp
      exact hR
    · have hm' : ¬ (most : Int) < (d : Int) + 1 := by omega
      simp [r1.blk.hc, ib_quo h2, ib_rem h2, t1, t2, w1, w2, w3, w4, w5, hc1', hm']
      exact fg hm
  · have hc1' : ((c : Int) = 1) = False := by simp; omega
    have hu : unz u = (d : Int) := by unfold unz; rw [if_neg (by omega), hd]
    rw [hu] at fg
    have hc0 : c = 0 := by omega
    by_cases hm : most < d + c
    · have hm' : (most : Int) < (d : Int) := by omega
      simp [r1.blk.hc, ib_quo h2, ib_rem h2, t1, t2, w1, w2, w3, w4, w5, hc1', hm', StoreP.open, r1.blk.hfz]
      refine fl _ hm ?_
      intro v h3 hR
      simp
      exact hR
    · have hm' : ¬ (most : Int) < (d : Int) := by omega
      simp [r1.blk.hc, ib_quo h2, ib_rem h2, t1, t2, w1, w2, w3, w4, w5, hc1', hm']
      exact fg hm
end
end Go.Rm

/- Nets in bytes: what is read (plain); tables. -/
set_option linter.unusedSimpArgs false
set_option linter.unusedVariables false
namespace Go.Rm

def itr {α : Type} (f : α → α) : Nat → α → α
  | 0, a => a
  | n + 1, a => f (itr f n a)
theorem itr_stuck {α : Type} {f : α → α} {a : α} {i : Nat} (h : f (itr f i a) = itr f i a) : ∀ {n : Nat}, i ≤ n → itr f n a = itr f i a := by
  intro n
  induction n with
  | zero => intro hi; rw [show i = 0 by omega]
  | succ n ih =>
    intro hi
    rcases Nat.lt_or_eq_of_le hi with g | g
    · show f (itr f n a) = _
      rw [ih (by omega), h]
    · rw [g]

def stC (bs : List Nat) (s : List Int × Nat × Int) : List Int × Nat × Int :=
  if s.2.2 ≠ 0 then s else (s.1 ++ [costU (rdU bs s.2.1 s.2.2 2147483649).1], (rdU bs s.2.1 s.2.2 2147483649).2)
def rdT (bs : List Nat) (a : Nat) (b : Int) : Tab × Nat × Int :=
  let i := rdU bs a b 16
  let o := rdU bs i.2.1 i.2.2 16
  let c := itr (stC bs) (i.1 * o.1) ([], o.2)
  (⟨(i.1 : Int), (o.1 : Int), c.1⟩, c.2)
def stT (bs : List Nat) (s : List Tab × Nat × Int) : List Tab × Nat × Int :=
  if s.2.2 ≠ 0 then s else (s.1 ++ [(rdT bs s.2.1 s.2.2).1], (rdT bs s.2.1 s.2.2).2)
def stV (bs : List Nat) (s : (Int × Int × List Tri) × Nat × Int) : (Int × Int × List Tri) × Nat × Int :=
  if s.2.2 ≠ 0 then s else
    let x := rdI bs s.2.1 s.2.2 2097152
    let y := rdI bs x.2.1 x.2.2 2097152
    let t := rdU bs y.2.1 y.2.2 16384
    ((s.1.1 + x.1, s.1.2.1 + y.1, s.1.2.2 ++ [⟨s.1.1 + x.1, s.1.2.1 + y.1, (t.1 : Int)⟩]), t.2)
def stA (bs : List Nat) (s : List Tri × Nat × Int) : List Tri × Nat × Int :=
  if s.2.2 ≠ 0 then s else
    let f := rdU bs s.2.1 s.2.2 16384
    let t := rdU bs f.2.1 f.2.2 16384
    let w := rdU bs t.2.1 t.2.2 2147483649
    (s.1 ++ [⟨(f.1 : Int), (t.1 : Int), costU w.1⟩], w.2)
/-- a net out of bytes, as far as there is nothing wrong -/
def rdNet (bs : List Nat) : NetD × Nat × Int :=
  let kt := rdU bs 0 0 256
  let kv := rdU bs kt.2.1 kt.2.2 4096
  let ka := rdU bs kv.2.1 kv.2.2 16384
  let T := itr (stT bs) kt.1 ([], ka.2)
  let V := itr (stV bs) kv.1 ((0, 0, []), T.2)
  let A := itr (stA bs) ka.1 ([], V.2)
  (⟨V.1.2.2, A.1, T.1⟩, A.2)

theorem rdU_le {bs : List Nat} {at' most : Nat} {bad : Int} : (rdU bs at' bad most).1 ≤ most := by
  unfold rdU
  split
  · simp
  · split
    · simp
    · split
      · simp
      · simp only; omega

section
variable {Y : Sys} {h h' : Heap}

theorem RdR.others {S : Nat → Prop} {p at' : Nat} {bs : List Nat} {bad : Int} {s : Sl} (r : RdR h p bs at' bad s) (hm : Mod S h h') (h1 : ¬ S p) (h2 : bs ≠ [] → ¬ S s.b) : RdR h' p bs at' bad s := ⟨hm.blk r.blk h1, r.row.mod hm h2, r.ne, r.le, r.big⟩
structure FileRd (Y : Sys) : Prop where
  W : WireFns Y
  paid : Y.Has F.file_paid S_file_paid
  table : Y.Has F.file_table S_file_table

theorem fpaid_spec (D : FileRd Y) {p at' : Nat} {bs : List Nat} {bad : Int} {s : Sl} (r : RdR h p bs at' bad s) {R : Value → Heap → Prop}
    (hr : ∀ h', Mod (fun j => j = p) h h' → RdR h' p bs (rdU bs at' bad 2147483649).2.1 (rdU bs at' bad 2147483649).2.2 s → R (.int .i64 (costU (rdU bs at' bad 2147483649).1)) h') :
    CallP Y F.file_paid [.pointer (some ⟨p, 0, none⟩)] h R := by
  refine .of_has D.paid rfl ?_
  simp [S_file_paid, FnS.wp]
  refine ruint_spec D.W (most := 2147483649) r ?_
  intro h1 m1 r1
  have := hr h1 m1 r1
  have hb : (rdU bs at' bad 2147483649).1 ≤ 2147483649 := rdU_le
  generalize rdU bs at' bad 2147483649 = t at *
  obtain ⟨u, a, b⟩ := t
  simp only at *
  by_cases hu : u = 0
  · have hu' : ((u : Int) = 0) = True := by simp; omega
    rw [costU, if_pos hu] at this
    simp [hu, hu']
    exact this
  · have hu' : ((u : Int) = 0) = False := by simp; omega
    have w0 : IntKind.i64.wrap (u : Int) = (u : Int) := i64_wrap (by omega)
    have w1 : IntKind.i64.wrap ((u : Int) - 1) = (u : Int) - 1 := i64_wrap (by omega)
    rw [costU, if_neg hu] at this
    simp [hu, hu', w0, w1]
    exact this

theorem stC_stuck {bs : List Nat} {st : List Int × Nat × Int} (h : st.2.2 ≠ 0) : stC bs st = st := by unfold stC; rw [if_pos h]
theorem stC_go {bs : List Nat} {st : List Int × Nat × Int} (h : st.2.2 = 0) : stC bs st = (st.1 ++ [costU (rdU bs st.2.1 0 2147483649).1], (rdU bs st.2.1 0 2147483649).2) := by unfold stC; rw [if_neg (by simp [h]), h]
theorem stC_len {bs : List Nat} {st : List Int × Nat × Int} : (stC bs st).1.length ≤ st.1.length + 1 := by
  unfold stC
  split
  · omega
  · simp
theorem itrC_len {bs : List Nat} {st : List Int × Nat × Int} (h0 : st.1 = []) : ∀ {n : Nat}, (itr (stC bs) n st).1.length ≤ n := by
  intro n
  induction n with
  | zero => simp [itr, h0]
  | succ n ih => have := stC_len (bs := bs) (st := itr (stC bs) n st); simp only [itr]; omega
theorem itrC_stuck {bs : List Nat} {st : List Int × Nat × Int} {i n : Nat} (hb : (itr (stC bs) i st).2.2 ≠ 0) (hi : i ≤ n) : itr (stC bs) n st = itr (stC bs) i st :=
  itr_stuck (stC_stuck hb) hi

/-- a new row that one owns -/
def NewO (lo : Nat) (u : Sl) : Prop := u.nl = true ∨ lo ≤ u.b

def TbI (p rb tb I O lo : Nat) (bs : List Nat) (s : Sl) (st : List Int × Nat × Int) (h0 : Heap) (e : List Value) (h' : Heap) : Prop :=
  ∃ (i : Nat) (u : Sl) (v4 : Value), e = [.pointer (some ⟨p, 0, none⟩), .pointer (some ⟨rb, 0, none⟩), .pointer (some ⟨tb, 0, none⟩), .int .i64 i, v4] ∧ i ≤ I * O ∧ Blk h' tb #[.int .i64 I, .int .i64 O, u.v] ∧ Own h' 1 u (ints64 (itr (stC bs) i st).1) ∧ RdR h' p bs (itr (stC bs) i st).2.1 (itr (stC bs) i st).2.2 s ∧ NewO lo u ∧ Mod (fun j => j = p ∨ j = tb) h0 h'

theorem ftable_spec (D : FileRd Y) {p at' : Nat} {bs : List Nat} {bad : Int} {s : Sl} (r : RdR h p bs at' bad s) {R : Value → Heap → Prop}
    (hr : ∀ h' u, Mod (fun j => j = p) h h' → RdR h' p bs (rdT bs at' bad).2.1 (rdT bs at' bad).2.2 s → Own h' 1 u (ints64 (rdT bs at' bad).1.cs) → NewO h.size u → (rdT bs at' bad).1.cs.length ≤ 256 → R (.agg #[.int .i64 (rdT bs at' bad).1.i, .int .i64 (rdT bs at' bad).1.o, u.v]) h') :
    CallP Y F.file_table [.pointer (some ⟨p, 0, none⟩)] h R := by
  refine .of_has D.table rfl ?_
  simp [S_file_table, FnS.wp]
  refine ef_new_box ?_
  intro rb h1 g1 B1 e1
  have r1 := r.ext e1
  have lp := r.blk.lt
  have lB := B1.lt
  simp
  refine ruint_spec D.W (most := 16) r1 ?_
  intro h2 m2 r2
  have bI : (rdU bs at' bad 16).1 ≤ 16 := rdU_le
  have w1 : IntKind.i64.wrap ((rdU bs at' bad 16).1 : Int) = ((rdU bs at' bad 16).1 : Int) := i64_wrap (by omega)
  simp [w1]
  refine ruint_spec D.W (most := 16) r2 ?_
  intro h3 m3 r3
  have bO : (rdU bs (rdU bs at' bad 16).2.1 (rdU bs at' bad 16).2.2 16).1 ≤ 16 := rdU_le
  unfold rdT at hr
  simp only at hr
  generalize rdU bs (rdU bs at' bad 16).2.1 (rdU bs at' bad 16).2.2 16 = o at *
  generalize rdU bs at' bad 16 = i at *
  obtain ⟨I, a1, b1⟩ := i
  obtain ⟨O, a2, b2⟩ := o
  simp only at *
  have w2 : IntKind.i64.wrap (O : Int) = (O : Int) := i64_wrap (by omega)
  simp [w2, sem_bld12]
  refine ef_new_box ?_
  intro tb h4 g4 T4 e4
  have r4 := r3.ext e4
  have z1 := e1.size
  have z2 := m2.size
  have z3 := m3.size
  have B4 := (m3.blk (m2.blk B1 (by omega)) (by omega)).ext e4
  simp
  refine ef_store_box T4 rfl rfl (by simp) ?_
  intro h5 T5 m5
  have lT := T4.lt
  have B5 := m5.blk B4 (by omega)
  have rb5 : RdR h5 p bs a2 b2 s := r4.other m5 (by omega) (fun hn => by have := r3.row.blk_lt hn; omega)
  have lT5 := T5.lt
  have lB5 := B5.lt
  have m05 : Mod (fun j => j = p) h h5 := (((e1.mono (fun _ _ h => h.elim)).trans m2).trans m3).trans (Mod.then (e4.mono (fun _ _ h => h.elim)) m5 (fun j hj hq => by omega))
  obtain ⟨n, hn⟩ : ∃ n, n = I * O := ⟨_, rfl⟩
  have hn256 : n ≤ 256 := by rw [hn]; exact Nat.le_trans (Nat.mul_le_mul bI bO) (by decide)
  have hnz : (I : Int) * (O : Int) = (n : Int) := by rw [hn]; simp
  have w3 : IntKind.i64.wrap (n : Int) = (n : Int) := i64_wrap (by omega)
  simp
  refine wp_loop' (TbI p rb tb I O h5.size bs s ([], a2, b2) h5) (fun e _ => n - argI e 3) ⟨0, Sl.nil, _, rfl, by omega, T5, Own.nil, rb5, .inl rfl, Mod.refl _⟩ ?_
  rintro e h6 ⟨i, u, v4, rfl, hi, T6, o6, r6, hu, m6⟩
  have B6 := m6.blk B5 (by omega)
  rw [← hn] at hi
  have hilen := itrC_len (bs := bs) (st := ([], a2, b2)) rfl (n := i)
  have z5 := m5.size
  have z4 := e4.size
  have fin : ∀ {h7 h8 : Heap}, Ext h6 h7 → itr (stC bs) n ([], a2, b2) = itr (stC bs) i ([], a2, b2) → Mod (fun j => j = rb) h7 h8 → R (.agg #[.int .i64 I, .int .i64 O, u.v]) h8 := by
    intro h7 h8 e7 hit m8
    rw [← hn, hit] at hr
    refine hr h8 u ?_ ((r6.ext e7).other m8 (by omega) (fun hn => by have := r.row.blk_lt hn; omega)) ((o6.ext' e7).mod m8 (fun hn => ?_)) ?_ (by omega)
    · refine Mod.then (Mod.then m05 m6 (fun k hk hq => by omega)) (Mod.then (e7.mono (fun _ _ h => h.elim)) m8 (S := fun j => j = rb) (fun k hk hq => hq)) (fun k hk hq => by omega)
    · have := hu.resolve_left (by rw [hn]; simp)
      omega
    · rcases hu with hu | hu
      · exact .inl hu
      · exact .inr (by omega)
  by_cases c : i < n
  rotate_left
  · have c' : ¬ (i : Int) < n := by omega
    simp [T6.hc, hnz, w3, c', rd_blk T6]
    refine ef_store_box B6 rfl rfl (by simp) ?_
    intro h8 B8 m8
    simp
    refine resP_x rfl B8 rfl ?_
    exact fin (Mod.refl h6) (by rw [show i = n by omega]) m8
  have c' : (i : Int) < n := by omega
  simp [T6.hc, hnz, w3, c']
  refine rerr_spec D.W r6 ?_
  intro h7 v e7 hv
  have r7 := r6.ext e7
  have T7 := T6.ext e7
  have B7 := B6.ext e7
  by_cases hb : (itr (stC bs) i ([], a2, b2)).2.2 = 0
  rotate_left
  · obtain ⟨t, q, hv'⟩ := hv.here.iface (by simp [rdW, hb, byteW])
    subst hv'
    simp [rd_blk T7]
    refine ef_store_box B7 rfl rfl (by simp) ?_
    intro h8 B8 m8
    simp
    refine resP_x rfl B8 rfl ?_
    exact fin e7 (itrC_stuck hb hi) m8
  have hvn := hv.here.nil (by simp [rdW, hb, wOK])
  subst hvn
  have o7 := o6.ext' e7
  simp [T7.hc]
  refine fpaid_spec D r7 ?_
  intro h8 m8 r8
  have T8 := m8.blk T7 (by omega)
  simp [T8.hc, ef_bslice1_int]
  intro t
  have hstep : itr (stC bs) (i + 1) ([], a2, b2) = stC bs (itr (stC bs) i ([], a2, b2)) := rfl
  rw [stC_go hb] at hstep
  rw [hb] at r8 ⊢
  have hu5 : u.nl = false → h5.size ≤ u.b := fun hn => hu.resolve_left (by rw [hn]; simp)
  have o8 := o7.mod m8 (fun hn => by have := hu5 hn; omega)
  have hun := o6.1
  simp at hun
  have e9 : Ext h8 (h8.push (.cells #[.int .i64 (costU (rdU bs (itr (stC bs) i ([], a2, b2)).2.1 0 2147483649).1)] t)) := Mod.push
  have T9 := T8.ext e9
  refine ⟨T9.hc.trans rfl, ?_⟩
  refine ef_append1 rfl o8 (by omega) (by omega) ?_
  intro u' h9 o9 hn9 m9 hs9
  have T9' := m9.blk T8 (fun hq => by have := hu5 hq.1; omega)
  have w4 : IntKind.i64.wrap ((i : Int) + 1) = (i : Int) + 1 := i64_wrap (by omega)
  simp
  refine stB T9' (by simp) ?_
  intro h10 T10 m10
  simp [w4]
  have z6 := m6.size
  have z7 := e7.size
  have z8 := m8.size
  have hu9 : u'.nl = false → h5.size ≤ u'.b := by
    intro hq
    rcases hs9 with ⟨q1, q2⟩ | ⟨q1, q2⟩
    · rw [q1]; exact hu5 (by rw [← q2]; exact hq)
    · omega
  have r10 := (r8.others m9 (fun hq => by have := hu5 hq.1; omega) (fun hn hq => by have := hu5 hq.1; have := r.row.blk_lt hn; omega)).other m10 (by omega) (fun hn => by have := r.row.blk_lt hn; omega)
  have o10 := o9.mod m10 (fun hq => by have := hu9 hq; omega)
  have mm : Mod (fun j => j = p ∨ j = tb) h5 h10 := by
    have q1 : Mod (fun j => j = p ∨ j = tb ∨ (u.nl = false ∧ j = u.b)) h6 h10 :=
      (((e7.mono (fun _ _ h => h.elim)).trans (m8.mono (fun _ _ h => .inl h))).trans (m9.mono (fun _ _ h => .inr (.inr h)))).trans (m10.mono (fun _ _ h => .inr (.inl h)))
    refine Mod.then m6 q1 ?_
    intro k hk hq
    rcases hq with hq | hq | hq
    · exact .inl hq
    · exact .inr hq
    · have := hu5 hq.1; omega
  have hN : NewO h5.size u' := by
    cases hq : u'.nl with
    | true => exact .inl hq
    | false => exact .inr (hu9 hq)
  refine ⟨⟨i + 1, u', _, rfl, by omega, T10, by rw [hstep]; simpa [ints64] using o10, by rw [hstep]; exact r10, hN, mm⟩, by simp [argI]; omega⟩
end
end Go.Rm

/- Nets in bytes: the document's tables. -/
set_option linter.unusedSimpArgs false
set_option linter.unusedVariables false
namespace Go.Rm
section
variable {Y : Sys} {h h' : Heap}

def DtI (p rb tb I O lo : Nat) (bs : List Nat) (s : Sl) (st : List Int × Nat × Int) (h0 : Heap) (e : List Value) (h' : Heap) : Prop :=
  ∃ (i : Nat) (u q : Sl) (v4 : Value), e = [.pointer (some ⟨p, 0, none⟩), .pointer (some ⟨rb, 0, none⟩), .pointer (some ⟨tb, 0, none⟩), .int .i64 i, v4] ∧ i ≤ I * O ∧ Blk h' tb #[.int .i64 I, .int .i64 O, u.v] ∧ Own h' 1 u (ints64 (itr (stC bs) i st).1) ∧ RdD h' p bs (itr (stC bs) i st).2.1 (itr (stC bs) i st).2.2 s q ∧ NewO h0.size u ∧ Mod (fun j => j = p ∨ j = tb) h0 h' ∧ ((itr (stC bs) i st).2.2 ≠ 0 → lo ≤ q.b ∧ q.b ≠ tb ∧ q.b ≠ rb)

theorem dtable_spec (D : DocRd Y) {p at' : Nat} {bs : List Nat} {s q : Sl} (r : RdD h p bs at' 0 s q) {R : Value → Heap → Prop}
    (hr : ∀ h' u q', Mod (fun j => j = p) h h' → RdD h' p bs (rdT bs at' 0).2.1 (rdT bs at' 0).2.2 s q' → ((rdT bs at' 0).2.2 ≠ 0 → h.size ≤ q'.b) → Own h' 1 u (ints64 (rdT bs at' 0).1.cs) → NewO h.size u → (rdT bs at' 0).1.cs.length ≤ 256 → R (.agg #[.int .i64 (rdT bs at' 0).1.i, .int .i64 (rdT bs at' 0).1.o, u.v]) h') :
    CallP Y F.rref6_Reader_table [.pointer (some ⟨p, 0, none⟩)] h R := by
  refine .of_has D.table rfl ?_
  simp [S_rref6_Reader_table, FnS.wp]
  refine ef_new_box ?_
  intro rb h1 g1 B1 e1
  have r1 := r.ext e1
  have lp := r.blk.lt
  have lB := B1.lt
  simp
  refine duint_spec D (most := 16) r1 (by omega) ?_
  intro h2 q2 m2 r2 gq2
  have bI : (rdU bs at' 0 16).1 ≤ 16 := rdU_le
  have w1 : IntKind.i64.wrap ((rdU bs at' 0 16).1 : Int) = ((rdU bs at' 0 16).1 : Int) := i64_wrap (by omega)
  simp [w1, sem_bld1]
  refine ef_new_box ?_
  intro tb h3 g3 T3 e3
  have r3 := r2.ext e3
  simp
  refine ef_store_box T3 rfl rfl (by simp) ?_
  intro h4 T4 m4
  have z1 := e1.size
  have z2 := m2.size
  have z3 := e3.size
  have z4 := m4.size
  have lT := T3.lt
  have qb2 : (rdU bs at' 0 16).2.2 ≠ 0 → h1.size ≤ q2.b ∧ q2.b < h2.size := fun hb => by
    have e2 := (gq2 hb)
    have := (r2.parts hb).1.lt
    rcases e2 with e2 | e2
    · exact absurd rfl e2.1
    · exact ⟨e2, this⟩
  have r4 := r3.other m4 (by omega) (fun hn => by have := r.row.blk_lt hn; omega) (fun hb => by have := qb2 hb; omega)
  simp
  refine duint_spec D (most := 16) r4 (by omega) ?_
  intro h5 q5 m5 r5 gq5
  have bO : (rdU bs (rdU bs at' 0 16).2.1 (rdU bs at' 0 16).2.2 16).1 ≤ 16 := rdU_le
  unfold rdT at hr
  simp only at hr
  generalize rdU bs (rdU bs at' 0 16).2.1 (rdU bs at' 0 16).2.2 16 = o at *
  generalize rdU bs at' 0 16 = i at *
  obtain ⟨I, a1, b1⟩ := i
  obtain ⟨O, a2, b2⟩ := o
  simp only at *
  have w2 : IntKind.i64.wrap (O : Int) = (O : Int) := i64_wrap (by omega)
  have z5 := m5.size
  have T5 := m5.blk T4 (by omega)
  have qb5 : b2 ≠ 0 → h1.size ≤ q5.b ∧ q5.b ≠ tb ∧ q5.b ≠ rb := fun hb => by
    rcases gq5 hb with ⟨e1, e2⟩ | e2
    · have := qb2 e1
      rw [e2]
      omega
    · omega
  simp [w2]
  refine stB T5 (by simp) ?_
  intro h6 T6 m6
  have r6 := r5.other m6 (by omega) (fun hn => by have := r.row.blk_lt hn; omega) (fun hb => (qb5 hb).2.1)
  have B6 : Blk h6 rb _ := m6.blk (m5.blk (m4.blk ((m2.blk B1 (by omega)).ext e3) (by omega)) (by omega)) (by omega)
  have z6 := m6.size
  have m06 : Mod (fun j => j = p) h h6 := by
    have q1 : Mod (fun j => j = p ∨ j = tb) h h6 := (((((e1.mono (fun _ _ h => h.elim)).trans (m2.mono (fun _ _ h => .inl h))).trans (e3.mono (fun _ _ h => h.elim))).trans (m4.mono (fun _ _ h => .inr h))).trans (m5.mono (fun _ _ h => .inl h))).trans (m6.mono (fun _ _ h => .inr h))
    exact q1.mono (fun k hk hq => by omega)
  obtain ⟨n, hn⟩ : ∃ n, n = I * O := ⟨_, rfl⟩
  have hn256 : n ≤ 256 := by rw [hn]; exact Nat.le_trans (Nat.mul_le_mul bI bO) (by decide)
  have hnz : (I : Int) * (O : Int) = (n : Int) := by rw [hn]; simp
  have w3 : IntKind.i64.wrap (n : Int) = (n : Int) := i64_wrap (by omega)
  simp
  refine wp_loop' (DtI p rb tb I O h1.size bs s ([], a2, b2) h6) (fun e _ => n - argI e 3) ⟨0, Sl.nil, q5, _, rfl, by omega, T6, Own.nil, r6, .inl rfl, Mod.refl _, qb5⟩ ?_
  rintro e h7 ⟨i, u, q7, v4, rfl, hi, T7, o7, r7, hu, m7, hq7⟩
  have B7 := m7.blk B6 (by omega)
  rw [← hn] at hi
  have hilen := itrC_len (bs := bs) (st := ([], a2, b2)) rfl (n := i)
  have hu5 : u.nl = false → h6.size ≤ u.b := fun hn => hu.resolve_left (by rw [hn]; simp)
  have lT6 := T6.lt
  have lB6 := B6.lt
  have z7 := m7.size
  have fin : ∀ {h8 : Heap}, itr (stC bs) n ([], a2, b2) = itr (stC bs) i ([], a2, b2) → Mod (fun j => j = rb) h7 h8 → R (.agg #[.int .i64 I, .int .i64 O, u.v]) h8 := by
    intro h8 hit m8
    rw [← hn, hit] at hr
    refine hr h8 u q7 ?_ (r7.other m8 (by omega) (fun hn => by have := r.row.blk_lt hn; omega) (fun hb => (hq7 hb).2.2)) (fun hb => by have := (hq7 hb).1; omega) (o7.mod m8 (fun hn => ?_)) ?_ (by omega)
    · have q1 : Mod (fun j => j = p ∨ j = tb ∨ j = rb) h h8 := ((m06.mono (fun _ _ h => .inl h)).trans (m7.mono (fun _ _ h => h.elim .inl (fun h => .inr (.inl h))))).trans (m8.mono (fun _ _ h => .inr (.inr h)))
      exact q1.mono (fun k hk hq => by omega)
    · have := hu5 hn
      omega
    · rcases hu with hu | hu
      · exact .inl hu
      · exact .inr (by omega)
  by_cases c : i < n
  rotate_left
  · have c' : ¬ (i : Int) < n := by omega
    simp [T7.hc, hnz, w3, c', rd_blk T7]
    refine ef_store_box B7 rfl rfl (by simp) ?_
    intro h8 B8 m8
    simp
    refine resP_x rfl B8 rfl ?_
    exact fin (by rw [show i = n by omega]) m8
  have c' : (i : Int) < n := by omega
  by_cases hb : (itr (stC bs) i ([], a2, b2)).2.2 = 0
  rotate_left
  · simp [T7.hc, hnz, w3, c', r7.blk.hc, hb, rd_blk T7]
    refine ef_store_box B7 rfl rfl (by simp) ?_
    intro h8 B8 m8
    simp
    refine resP_x rfl B8 rfl ?_
    exact fin (itrC_stuck hb hi) m8
  have hstep : itr (stC bs) (i + 1) ([], a2, b2) = stC bs (itr (stC bs) i ([], a2, b2)) := rfl
  rw [stC_go hb] at hstep
  rw [hb] at r7
  simp [T7.hc, hnz, w3, c', r7.blk.hc]
  refine dcost_spec D r7 ?_
  intro h8 q8 m8 r8 g8
  have T8 := m8.blk T7 (by omega)
  simp [T8.hc, ef_bslice1_int]
  intro t
  have o8 := o7.mod m8 (fun hn => by have := hu5 hn; omega)
  have hun := o7.1
  simp at hun
  have z8 := m8.size
  have e9 : Ext h8 (h8.push (.cells #[.int .i64 (costU (rdU bs (itr (stC bs) i ([], a2, b2)).2.1 0 2147483649).1)] t)) := Mod.push
  have T9 := T8.ext e9
  refine ⟨T9.hc.trans rfl, ?_⟩
  refine ef_append1 rfl o8 (by omega) (by omega) ?_
  intro u' h9 o9 hn9 m9 hs9
  have T9' := m9.blk T8 (fun hq => by have := hu5 hq.1; omega)
  have w4 : IntKind.i64.wrap ((i : Int) + 1) = (i : Int) + 1 := i64_wrap (by omega)
  simp
  refine stB T9' (by simp) ?_
  intro h10 T10 m10
  simp [w4]
  have hq8 : (rdU bs (itr (stC bs) i ([], a2, b2)).2.1 0 2147483649).2.2 ≠ 0 → h7.size ≤ q8.b := fun hb => by
    rcases g8 hb with e | e
    · exact absurd rfl e.1
    · exact e
  have hu9 : u'.nl = false → h6.size ≤ u'.b := by
    intro hq
    rcases hs9 with ⟨q1, q2⟩ | ⟨q1, q2⟩
    · rw [q1]; exact hu5 (by rw [← q2]; exact hq)
    · omega
  have r10 := (r8.other m9 (fun hq => by have := hu5 hq.1; omega) (fun hn hq => by have := hu5 hq.1; have := r.row.blk_lt hn; omega) (fun hb hq => by have := hq8 hb; have := o7.lt hq.1; omega)).other m10 (by omega) (fun hn => by have := r.row.blk_lt hn; omega) (fun hb => by have := hq8 hb; omega)
  have o10 := o9.mod m10 (fun hq => by have := hu9 hq; omega)
  have mm : Mod (fun j => j = p ∨ j = tb) h6 h10 := by
    have q1 : Mod (fun j => j = p ∨ j = tb ∨ (u.nl = false ∧ j = u.b)) h7 h10 :=
      ((m8.mono (fun _ _ h => .inl h)).trans (m9.mono (fun _ _ h => .inr (.inr h)))).trans (m10.mono (fun _ _ h => .inr (.inl h)))
    refine Mod.then m7 q1 ?_
    intro k hk hq
    rcases hq with hq | hq | hq
    · exact .inl hq
    · exact .inr hq
    · have := hu5 hq.1; omega
  have hN : NewO h6.size u' := by
    cases hq : u'.nl with
    | true => exact .inl hq
    | false => exact .inr (hu9 hq)
  refine ⟨⟨i + 1, u', q8, _, rfl, by omega, T10, by rw [hstep]; simpa [ints64] using o10, by rw [hstep]; exact r10, hN, mm, by rw [hstep]; exact fun hb => by have := hq8 hb; omega⟩, by simp [argI]; omega⟩
end
end Go.Rm

/- Nets in bytes: facts of the plain reading; the program's body. -/
set_option linter.unusedSimpArgs false
set_option linter.unusedVariables false
namespace Go.Rm

theorem rdI_abs {bs : List Nat} {at' most : Nat} {bad : Int} : -(most : Int) ≤ (rdI bs at' bad most).1 ∧ (rdI bs at' bad most).1 ≤ most := by
  unfold rdI
  generalize rdU bs at' bad 18446744073709551615 = t
  obtain ⟨u, a, b⟩ := t
  simp only
  split
  · simp only; omega
  · split
    · simp only; omega
    · rename_i hm
      simp only [amt] at hm
      simp only [unz]
      split <;> omega
theorem stT_stuck {bs : List Nat} {st : List Tab × Nat × Int} (h : st.2.2 ≠ 0) : stT bs st = st := by unfold stT; rw [if_pos h]
theorem stV_stuck {bs : List Nat} {st : (Int × Int × List Tri) × Nat × Int} (h : st.2.2 ≠ 0) : stV bs st = st := by unfold stV; rw [if_pos h]
theorem stA_stuck {bs : List Nat} {st : List Tri × Nat × Int} (h : st.2.2 ≠ 0) : stA bs st = st := by unfold stA; rw [if_pos h]
theorem stT_go {bs : List Nat} {st : List Tab × Nat × Int} (h : st.2.2 = 0) : stT bs st = (st.1 ++ [(rdT bs st.2.1 0).1], (rdT bs st.2.1 0).2) := by unfold stT; rw [if_neg (by simp [h]), h]
theorem itrT_stuck {bs : List Nat} {st : List Tab × Nat × Int} {i n : Nat} (hb : (itr (stT bs) i st).2.2 ≠ 0) (hi : i ≤ n) : itr (stT bs) n st = itr (stT bs) i st := itr_stuck (stT_stuck hb) hi
theorem itrV_stuck {bs : List Nat} {st : (Int × Int × List Tri) × Nat × Int} {i n : Nat} (hb : (itr (stV bs) i st).2.2 ≠ 0) (hi : i ≤ n) : itr (stV bs) n st = itr (stV bs) i st := itr_stuck (stV_stuck hb) hi
theorem itrA_stuck {bs : List Nat} {st : List Tri × Nat × Int} {i n : Nat} (hb : (itr (stA bs) i st).2.2 ≠ 0) (hi : i ≤ n) : itr (stA bs) n st = itr (stA bs) i st := itr_stuck (stA_stuck hb) hi
theorem stT_len {bs : List Nat} {st : List Tab × Nat × Int} : (stT bs st).1.length ≤ st.1.length + 1 := by
  unfold stT
  split
  · omega
  · simp
theorem stV_len {bs : List Nat} {st : (Int × Int × List Tri) × Nat × Int} : (stV bs st).1.2.2.length ≤ st.1.2.2.length + 1 := by
  unfold stV
  split
  · omega
  · simp
theorem stA_len {bs : List Nat} {st : List Tri × Nat × Int} : (stA bs st).1.length ≤ st.1.length + 1 := by
  unfold stA
  split
  · omega
  · simp
theorem itrT_len {bs : List Nat} {st : List Tab × Nat × Int} (h0 : st.1 = []) : ∀ {n : Nat}, (itr (stT bs) n st).1.length ≤ n := by
  intro n
  induction n with
  | zero => simp [itr, h0]
  | succ n ih => have := stT_len (bs := bs) (st := itr (stT bs) n st); simp only [itr]; omega
theorem itrV_len {bs : List Nat} {st : (Int × Int × List Tri) × Nat × Int} (h0 : st.1.2.2 = []) : ∀ {n : Nat}, (itr (stV bs) n st).1.2.2.length ≤ n := by
  intro n
  induction n with
  | zero => simp [itr, h0]
  | succ n ih => have := stV_len (bs := bs) (st := itr (stV bs) n st); simp only [itr]; omega
theorem itrA_len {bs : List Nat} {st : List Tri × Nat × Int} (h0 : st.1 = []) : ∀ {n : Nat}, (itr (stA bs) n st).1.length ≤ n := by
  intro n
  induction n with
  | zero => simp [itr, h0]
  | succ n ih => have := stA_len (bs := bs) (st := itr (stA bs) n st); simp only [itr]; omega
/-- sums of steps stay small -/
theorem itrV_abs {bs : List Nat} {l : List Tri} {r : Nat × Int} : ∀ {n : Nat}, -(2097152 * (n : Int)) ≤ (itr (stV bs) n ((0, 0, l), r)).1.1 ∧ (itr (stV bs) n ((0, 0, l), r)).1.1 ≤ 2097152 * n ∧
    -(2097152 * (n : Int)) ≤ (itr (stV bs) n ((0, 0, l), r)).1.2.1 ∧ (itr (stV bs) n ((0, 0, l), r)).1.2.1 ≤ 2097152 * n := by
  intro n
  induction n with
  | zero => simp [itr]
  | succ n ih =>
    simp only [itr]
    generalize itr (stV bs) n ((0, 0, l), r) = st at *
    unfold stV
    split
    · omega
    · have h1 := rdI_abs (bs := bs) (at' := st.2.1) (bad := st.2.2) (most := 2097152)
      have h2 := rdI_abs (bs := bs) (at' := (rdI bs st.2.1 st.2.2 2097152).2.1) (bad := (rdI bs st.2.1 st.2.2 2097152).2.2) (most := 2097152)
      simp only
      omega
end Go.Rm

/- Nets in bytes: the program's body: arcs, vertices. -/
set_option linter.unusedSimpArgs false
set_option linter.unusedVariables false
namespace Go.Rm
section
variable {Y : Sys} {h h' : Heap}

abbrev FNet (lo : Nat) (h : Heap) (sv sa st : Sl) (N : NetD) : Prop := Fresh lo (fun h => NetH h sv sa st N) h
theorem Own.frow3 {lo : Nat} {s : Sl} {l : List Tri} (o : Own h 3 s (cells3 (l.map triV))) (n : NewO lo s) : Fresh lo (fun h => Row3 h s l) h := by
  intro h' m
  exact (o.mod m (fun hn => by have := n.resolve_left (by rw [hn]; simp); omega)).row3

def FbI3 (p rb M na : Nat) (s1 s2 : Sl) (bs : List Nat) (s : Sl) (st : List Tri × Nat × Int) (h0 : Heap) (e : List Value) (h' : Heap) : Prop :=
  ∃ (i : Nat) (s3 : Sl) (v3 v4 v6 v7 v8 v9 v11 v12 v13 v14 v15 : Value), e = [.pointer (some ⟨p, 0, none⟩), .pointer (some ⟨rb, 0, none⟩), .pointer (some ⟨M, 0, none⟩), v3, v4, .int .i64 na, v6, v7, v8, v9, .int .i64 i, v11, v12, v13, v14, v15] ∧ i ≤ na ∧ Blk h' M #[s2.v, s3.v, s1.v] ∧ Own h' 3 s3 (cells3 ((itr (stA bs) i st).1.map triV)) ∧ RdR h' p bs (itr (stA bs) i st).2.1 (itr (stA bs) i st).2.2 s ∧ NewO h0.size s3 ∧ Mod (fun j => j = p ∨ j = M) h0 h'

def FbI2 (p rb M nt nv na : Nat) (s1 : Sl) (bs : List Nat) (s : Sl) (st : (Int × Int × List Tri) × Nat × Int) (h0 : Heap) (e : List Value) (h' : Heap) : Prop :=
  ∃ (i : Nat) (s2 : Sl) (x y : Int) (v6 v10 v11 v12 v13 v14 v15 : Value), e = [.pointer (some ⟨p, 0, none⟩), .pointer (some ⟨rb, 0, none⟩), .pointer (some ⟨M, 0, none⟩), .int .i64 nt, .int .i64 nv, .int .i64 na, v6, .int .i64 x, .int .i64 y, .int .i64 i, v10, v11, v12, v13, v14, v15] ∧ i ≤ nv ∧ x = (itr (stV bs) i st).1.1 ∧ y = (itr (stV bs) i st).1.2.1 ∧ Blk h' M #[s2.v, .slice none 0 0, s1.v] ∧ Own h' 3 s2 (cells3 ((itr (stV bs) i st).1.2.2.map triV)) ∧ RdR h' p bs (itr (stV bs) i st).2.1 (itr (stV bs) i st).2.2 s ∧ NewO h0.size s2 ∧ Mod (fun j => j = p ∨ j = M) h0 h'

theorem stA_go {bs : List Nat} {st : List Tri × Nat × Int} (h : st.2.2 = 0) : stA bs st =
    (let f := rdU bs st.2.1 st.2.2 16384
     let t := rdU bs f.2.1 f.2.2 16384
     let w := rdU bs t.2.1 t.2.2 2147483649
     (st.1 ++ [⟨(f.1 : Int), (t.1 : Int), costU w.1⟩], w.2)) := by unfold stA; rw [if_neg (by simp [h])]
theorem stV_go {bs : List Nat} {st : (Int × Int × List Tri) × Nat × Int} (h : st.2.2 = 0) : stV bs st =
    (let x := rdI bs st.2.1 st.2.2 2097152
     let y := rdI bs x.2.1 x.2.2 2097152
     let t := rdU bs y.2.1 y.2.2 16384
     ((st.1.1 + x.1, st.1.2.1 + y.1, st.1.2.2 ++ [⟨st.1.1 + x.1, st.1.2.1 + y.1, (t.1 : Int)⟩]), t.2)) := by unfold stV; rw [if_neg (by simp [h])]

structure FileBd (Y : Sys) : Prop where
  D : FileRd Y
  body : Y.Has F.file_body S_file_body

theorem fb_arcs (B : FileBd Y) {p rb M na : Nat} {s1 s2 s : Sl} {bs : List Nat} {st : List Tri × Nat × Int} (hna : na ≤ 16384) (h0 : st.1 = []) (r7 : RdR h p bs st.2.1 st.2.2 s)
    (M7 : Blk h M #[s2.v, .slice none 0 0, s1.v]) (B7 : Blk h rb #[.slice none 0 0, .slice none 0 0, .slice none 0 0]) (hpr : p ≠ rb) (hpM : p ≠ M) (hrM : rb ≠ M) (hsb : bs ≠ [] → s.b ≠ rb ∧ s.b ≠ M) {R : Value → Heap → Prop}
    (hr : ∀ h' s3, Mod (fun j => j = p ∨ j = M ∨ j = rb) h h' → RdR h' p bs (itr (stA bs) na st).2.1 (itr (stA bs) na st).2.2 s → Own h' 3 s3 (cells3 ((itr (stA bs) na st).1.map triV)) → NewO h.size s3 → R (netV s2 s3 s1) h')
    (v3 v4 v6 v7 v8 v9 v10 v11 v12 v13 v14 v15 : Value) : Stmt.wp Y S_file_body.body.rest.rest.rest.rest.rest.rest.rest.rest (resP S_file_body.res R) (fun _ _ _ => False) (resP S_file_body.res R)
      [.pointer (some ⟨p, 0, none⟩), .pointer (some ⟨rb, 0, none⟩), .pointer (some ⟨M, 0, none⟩), v3, v4, .int .i64 na, v6, v7, v8, v9, v10, v11, v12, v13, v14, v15] h := by
  simp [S_file_body, Stmt.rest]
  have lM := M7.lt
  have lB := B7.lt
  have lp := r7.blk.lt
  have hsp : bs ≠ [] → s.b < h.size := fun hn => r7.row.blk_lt hn
  refine wp_loop' (FbI3 p rb M na s1 s2 bs s st h) (fun e _ => na - argI e 10) ⟨0, Sl.nil, _, _, _, _, _, _, _, _, _, _, _, rfl, by omega, M7, by simpa [itr, h0, cells3] using Own.nil, r7, .inl rfl, Mod.refl _⟩ ?_
  rintro e h8 ⟨i, s3, v3, v4, v6, v7, v8, v9, v11, v12, v13, v14, v15, rfl, hi, M8, o8, r8, hs3, m8⟩
  have B8 := m8.blk B7 (by omega)
  have len := itrA_len (bs := bs) (st := st) h0 (n := i)
  have n8 := o8.n3
  simp at n8
  have fin : ∀ {h9 : Heap}, Ext h8 h9 → itr (stA bs) na st = itr (stA bs) i st → ∀ {K : Value → Heap → Prop}, (∀ h10, R (netV s2 s3 s1) h10 → Blk h10 rb #[s2.v, s3.v, s1.v] → K undef h10) → Ef.wp h9 K (.store 3) [.pointer (some ⟨rb, 0, none⟩), .agg #[s2.v, s3.v, s1.v]] := by
    intro h9 e9 hend K hK
    refine ef_store_box (B8.ext e9) rfl rfl (by simp) ?_
    intro h10 B10 m10
    refine hK h10 ?_ B10
    rw [hend] at hr
    refine hr h10 s3 ?_ ((r8.ext e9).other m10 hpr (fun hn => (hsb hn).1)) ((o8.ext' e9).mod m10 (fun hn => ?_)) hs3
    · exact ((m8.mono (fun _ _ h => h.elim .inl (fun h => .inr (.inl h)))).trans (e9.mono (fun _ _ h => h.elim))).trans (m10.mono (fun _ _ h => .inr (.inr h)))
    · have := hs3.resolve_left (by rw [hn]; simp)
      omega
  by_cases c : i < na
  rotate_left
  · have c' : ¬ (i : Int) < na := by omega
    simp [c', rd_blk M8]
    refine fin (Mod.refl _) (by rw [show i = na by omega]) ?_
    intro h10 hR B10
    simp
    exact resP_x rfl B10 rfl hR
  have c' : (i : Int) < na := by omega
  simp [c']
  refine rerr_spec B.D.W r8 ?_
  intro h9 v e9 hv
  have M9 := M8.ext e9
  by_cases hb : (itr (stA bs) i st).2.2 = 0
  rotate_left
  · obtain ⟨t, q, hv'⟩ := hv.here.iface (by simp [rdW, hb, byteW])
    subst hv'
    simp [rd_blk M9]
    refine fin e9 (itrA_stuck hb hi) ?_
    intro h10 hR B10
    simp
    exact resP_x rfl B10 rfl hR
  have hvn := hv.here.nil (by simp [rdW, hb, wOK])
  subst hvn
  have hstep : itr (stA bs) (i + 1) st = stA bs (itr (stA bs) i st) := rfl
  rw [stA_go hb] at hstep
  have r9 := r8.ext e9
  generalize itr (stA bs) i st = x at *
  simp
  refine ruint_spec B.D.W (most := 16384) r9 ?_
  intro h10 m10 r10
  have bF : (rdU bs x.2.1 x.2.2 16384).1 ≤ 16384 := rdU_le
  have w1 : IntKind.i64.wrap ((rdU bs x.2.1 x.2.2 16384).1 : Int) = ((rdU bs x.2.1 x.2.2 16384).1 : Int) := i64_wrap (by omega)
  simp [w1]
  refine ruint_spec B.D.W (most := 16384) r10 ?_
  intro h11 m11 r11
  simp only at hstep
  generalize rdU bs x.2.1 x.2.2 16384 = f at *
  have bT : (rdU bs f.2.1 f.2.2 16384).1 ≤ 16384 := rdU_le
  have w2 : IntKind.i64.wrap ((rdU bs f.2.1 f.2.2 16384).1 : Int) = ((rdU bs f.2.1 f.2.2 16384).1 : Int) := i64_wrap (by omega)
  have M11 := m11.blk (m10.blk M9 (by omega)) (by omega)
  simp [w2, M11.hc]
  refine fpaid_spec B.D r11 ?_
  intro h12 m12 r12
  generalize rdU bs f.2.1 f.2.2 16384 = g at *
  have M12 := m12.blk M11 (by omega)
  simp [M12.hc, sem_build_ints3, ef_bslice3]
  intro t
  generalize rdU bs g.2.1 g.2.2 2147483649 = k at *
  have z8 := m8.size
  have z9 := e9.size
  have z10 := m10.size
  have z11 := m11.size
  have z12 := m12.size
  have hs3' : s3.nl = false → h.size ≤ s3.b := fun hn => hs3.resolve_left (by rw [hn]; simp)
  have l3 : s3.nl = false → s3.b < h8.size := fun hn => o8.lt hn
  have o12 := (((o8.ext' e9).mod m10 (fun hn => by have := hs3' hn; omega)).mod m11 (fun hn => by have := hs3' hn; omega)).mod m12 (fun hn => by have := hs3' hn; omega)
  have e13 : Ext h12 (h12.push (.cells #[.int .i64 f.1, .int .i64 g.1, .int .i64 (costU k.1)] t)) := Mod.push
  have z13 := e13.size
  have M13 := M12.ext e13
  refine ⟨M13.hc.trans rfl, ?_⟩
  refine ef_append3 rfl (o12.ext' e13) Blk.new rfl rfl rfl (by omega) (by omega) ?_
  intro s' h14 o14 m14 hs14
  have z14 := m14.size
  have M14 := m14.blk M13 (fun hq => by have := hs3' hq.1; omega)
  have w4 : IntKind.i64.wrap ((i : Int) + 1) = (i : Int) + 1 := i64_wrap (by omega)
  have hs' : s'.nl = false → h.size ≤ s'.b := by
    intro hq
    rcases hs14 with ⟨q1, q2⟩ | ⟨q1, q2⟩
    · rw [q1]; exact hs3' (by rw [← q2]; exact hq)
    · omega
  simp
  refine stB M14 (by simp) ?_
  intro h15 M15 m15
  simp [w4]
  have r15 := ((r12.ext e13).others m14 (fun hq => by have := hs3' hq.1; omega) (fun hn hq => by have := hs3' hq.1; have := hsp hn; omega)).other m15 (by omega) (fun hn => (hsb hn).2)
  have o15 := o14.mod m15 (fun hq => by have := hs' hq; omega)
  have hN : NewO h.size s' := by
    cases hq : s'.nl with
    | true => exact .inl hq
    | false => exact .inr (hs' hq)
  have mm : Mod (fun j => j = p ∨ j = M) h h15 := by
    have q1 : Mod (fun j => j = p ∨ j = M ∨ (s3.nl = false ∧ j = s3.b)) h8 h15 :=
      ((((((e9.mono (fun _ _ h => h.elim)).trans (m10.mono (fun _ _ h => .inl h))).trans (m11.mono (fun _ _ h => .inl h))).trans (m12.mono (fun _ _ h => .inl h))).trans (e13.mono (fun _ _ h => h.elim))).trans (m14.mono (fun _ _ h => .inr (.inr h)))).trans (m15.mono (fun _ _ h => .inr (.inl h)))
    refine Mod.then m8 q1 ?_
    intro k hk hq
    rcases hq with hq | hq | hq
    · exact .inl hq
    · exact .inr hq
    · have := hs3' hq.1; omega
  refine ⟨⟨i + 1, s', _, _, _, _, _, _, _, _, _, _, _, rfl, by omega, by simpa using M15, by rw [hstep]; simpa [triV] using o15, by rw [hstep]; exact r15, hN, mm⟩, by simp [argI]; omega⟩

theorem fb_verts (B : FileBd Y) {p rb M nt nv na : Nat} {s1 s : Sl} {bs : List Nat} {r0 : Nat × Int} (hna : na ≤ 16384) (hnv : nv ≤ 4096) (r7 : RdR h p bs r0.1 r0.2 s)
    (M7 : Blk h M #[.slice none 0 0, .slice none 0 0, s1.v]) (B7 : Blk h rb #[.slice none 0 0, .slice none 0 0, .slice none 0 0]) (hpr : p ≠ rb) (hpM : p ≠ M) (hrM : rb ≠ M) (hsb : bs ≠ [] → s.b ≠ rb ∧ s.b ≠ M) {R : Value → Heap → Prop}
    (hr : ∀ h' s2 s3, Mod (fun j => j = p ∨ j = M ∨ j = rb) h h' → RdR h' p bs (itr (stA bs) na ([], (itr (stV bs) nv ((0, 0, []), r0)).2)).2.1 (itr (stA bs) na ([], (itr (stV bs) nv ((0, 0, []), r0)).2)).2.2 s →
      Fresh h.size (fun h => Row3 h s2 (itr (stV bs) nv ((0, 0, []), r0)).1.2.2) h' → Fresh h.size (fun h => Row3 h s3 (itr (stA bs) na ([], (itr (stV bs) nv ((0, 0, []), r0)).2)).1) h' → R (netV s2 s3 s1) h')
    (v6 v7 v8 v9 v10 v11 v12 v13 v14 v15 : Value) : Stmt.wp Y S_file_body.body.rest.rest.rest.rest.rest.rest (resP S_file_body.res R) (fun _ _ _ => False) (resP S_file_body.res R)
      [.pointer (some ⟨p, 0, none⟩), .pointer (some ⟨rb, 0, none⟩), .pointer (some ⟨M, 0, none⟩), .int .i64 nt, .int .i64 nv, .int .i64 na, v6, v7, v8, v9, v10, v11, v12, v13, v14, v15] h := by
  simp [S_file_body, Stmt.rest]
  have lM := M7.lt
  have lB := B7.lt
  have lp := r7.blk.lt
  have hsp : bs ≠ [] → s.b < h.size := fun hn => r7.row.blk_lt hn
  refine wp_loop' (FbI2 p rb M nt nv na s1 bs s ((0, 0, []), r0) h) (fun e _ => nv - argI e 9) ⟨0, Sl.nil, 0, 0, _, _, _, _, _, _, _, rfl, by omega, rfl, rfl, M7, Own.nil, r7, .inl rfl, Mod.refl _⟩ ?_
  rintro e h8 ⟨i, s2, x, y, w6, w10, w11, w12, w13, w14, w15, rfl, hi, hx, hy, M8, o8, r8, hs2, m8⟩
  have B8 := m8.blk B7 (by omega)
  have ab := itrV_abs (bs := bs) (l := []) (r := r0) (n := i)
  rw [← hx, ← hy] at ab
  have len := itrV_len (bs := bs) (st := ((0, 0, []), r0)) rfl (n := i)
  have n8 := o8.n3
  simp at n8
  have hs2' : s2.nl = false → h.size ≤ s2.b := fun hn => hs2.resolve_left (by rw [hn]; simp)
  have l2 : s2.nl = false → s2.b < h8.size := fun hn => o8.lt hn
  have z8 := m8.size
  have tail : ∀ {h9 : Heap}, Ext h8 h9 → itr (stV bs) nv ((0, 0, []), r0) = itr (stV bs) i ((0, 0, []), r0) → ∀ (v6 v7 v8 v9 v10 v11 v12 v13 v14 v15 : Value), Stmt.wp Y S_file_body.body.rest.rest.rest.rest.rest.rest.rest.rest (resP S_file_body.res R) (fun _ _ _ => False) (resP S_file_body.res R)
      [.pointer (some ⟨p, 0, none⟩), .pointer (some ⟨rb, 0, none⟩), .pointer (some ⟨M, 0, none⟩), .int .i64 nt, .int .i64 nv, .int .i64 na, v6, v7, v8, v9, v10, v11, v12, v13, v14, v15] h9 := by
    intro h9 e9 hend v6 v7 v8 v9 v10 v11 v12 v13 v14 v15
    rw [hend] at hr
    have z9 := e9.size
    refine fb_arcs B (st := ([], (itr (stV bs) i ((0, 0, []), r0)).2)) hna rfl (r8.ext e9) (M8.ext e9) (B8.ext e9) hpr hpM hrM hsb ?_ _ _ _ _ _ _ _ _ _ _ _ _
    intro h10 s3 m10 r10 o10 hs3
    refine hr h10 s2 s3 ?_ r10 ?_ (o10.frow3 (hs3.imp id (fun q => by omega)))
    · refine Mod.then ((m8.mono (S' := fun j => j = p ∨ j = M ∨ j = rb) (fun _ _ h => h.elim .inl (fun h => .inr (.inl h)))).trans (e9.mono (fun _ _ h => h.elim))) m10 (fun k hk hq => hq)
    · exact ((o8.ext' e9).mod m10 (fun hn => by have := hs2' hn; omega)).frow3 hs2
  simp only [S_file_body, Stmt.rest] at tail
  by_cases c : i < nv
  rotate_left
  · have c' : ¬ (i : Int) < nv := by omega
    have tt := tail (Mod.refl h8) (by rw [show i = nv by omega]) w6 (.int .i64 x) (.int .i64 y) (.int .i64 i) w10 w11 w12 w13 (.bool false) w15
    simp at tt
    simp [c']
    exact tt
  have c' : (i : Int) < nv := by omega
  simp [c']
  refine rerr_spec B.D.W r8 ?_
  intro h9 v e9 hv
  have M9 := M8.ext e9
  by_cases hb : (itr (stV bs) i ((0, 0, []), r0)).2.2 = 0
  rotate_left
  · obtain ⟨t, q, hv'⟩ := hv.here.iface (by simp [rdW, hb, byteW])
    subst hv'
    have tt := tail e9 (itrV_stuck hb hi) w6 (.int .i64 x) (.int .i64 y) (.int .i64 i) w10 w11 w12 w13 (.bool false) w15
    simp at tt
    simp
    exact tt
  clear tail
  have hvn := hv.here.nil (by simp [rdW, hb, wOK])
  subst hvn
  have hstep : itr (stV bs) (i + 1) ((0, 0, []), r0) = stV bs (itr (stV bs) i ((0, 0, []), r0)) := rfl
  rw [stV_go hb] at hstep
  have r9 := r8.ext e9
  generalize itr (stV bs) i ((0, 0, []), r0) = st at *
  rw [← hx, ← hy] at hstep
  simp
  refine rint_spec B.D.W (most := 2097152) r9 ?_
  intro h10 m10 r10
  have a1 := rdI_abs (bs := bs) (at' := st.2.1) (bad := st.2.2) (most := 2097152)
  simp only at hstep
  generalize rdI bs st.2.1 st.2.2 2097152 = X at *
  obtain ⟨dx, pX⟩ := X
  simp only at *
  have wx : IntKind.i64.wrap (x + dx) = x + dx := i64_wrap (by omega)
  simp [wx]
  refine rint_spec B.D.W (most := 2097152) r10 ?_
  intro h11 m11 r11
  have a2 := rdI_abs (bs := bs) (at' := pX.1) (bad := pX.2) (most := 2097152)
  generalize rdI bs pX.1 pX.2 2097152 = X at *
  obtain ⟨dy, pY⟩ := X
  simp only at *
  have wy : IntKind.i64.wrap (y + dy) = y + dy := i64_wrap (by omega)
  have M11 := m11.blk (m10.blk M9 (by omega)) (by omega)
  simp [wy, M11.hc]
  refine ruint_spec B.D.W (most := 16384) r11 ?_
  intro h12 m12 r12
  have bT : (rdU bs pY.1 pY.2 16384).1 ≤ 16384 := rdU_le
  generalize rdU bs pY.1 pY.2 16384 = X at *
  obtain ⟨tt, pT⟩ := X
  simp only at *
  have wt : IntKind.i64.wrap (tt : Int) = (tt : Int) := i64_wrap (by omega)
  have M12 := m12.blk M11 (by omega)
  simp [wt, M12.hc, sem_build_ints3, ef_bslice3]
  intro t
  have z9 := e9.size
  have z10 := m10.size
  have z11 := m11.size
  have z12 := m12.size
  have o12 := (((o8.ext' e9).mod m10 (fun hn => by have := hs2' hn; omega)).mod m11 (fun hn => by have := hs2' hn; omega)).mod m12 (fun hn => by have := hs2' hn; omega)
  have e13 : Ext h12 (h12.push (.cells #[.int .i64 (x + dx), .int .i64 (y + dy), .int .i64 tt] t)) := Mod.push
  have z13 := e13.size
  have M13 := M12.ext e13
  refine ⟨M13.hc.trans rfl, ?_⟩
  refine ef_append3 rfl (o12.ext' e13) Blk.new rfl rfl rfl (by omega) (by omega) ?_
  intro s' h14 o14 m14 hs14
  have z14 := m14.size
  have M14 := m14.blk M13 (fun hq => by have := hs2' hq.1; omega)
  have w4 : IntKind.i64.wrap ((i : Int) + 1) = (i : Int) + 1 := i64_wrap (by omega)
  have hs' : s'.nl = false → h.size ≤ s'.b := by
    intro hq
    rcases hs14 with ⟨q1, q2⟩ | ⟨q1, q2⟩
    · rw [q1]; exact hs2' (by rw [← q2]; exact hq)
    · omega
  simp
  refine stB M14 (by simp) ?_
  intro h15 M15 m15
  simp [w4]
  have r15 := ((r12.ext e13).others m14 (fun hq => by have := hs2' hq.1; omega) (fun hn hq => by have := hs2' hq.1; have := hsp hn; omega)).other m15 (by omega) (fun hn => (hsb hn).2)
  have o15 := o14.mod m15 (fun hq => by have := hs' hq; omega)
  have hN : NewO h.size s' := by
    cases hq : s'.nl with
    | true => exact .inl hq
    | false => exact .inr (hs' hq)
  have mm : Mod (fun j => j = p ∨ j = M) h h15 := by
    have q1 : Mod (fun j => j = p ∨ j = M ∨ (s2.nl = false ∧ j = s2.b)) h8 h15 :=
      ((((((e9.mono (fun _ _ h => h.elim)).trans (m10.mono (fun _ _ h => .inl h))).trans (m11.mono (fun _ _ h => .inl h))).trans (m12.mono (fun _ _ h => .inl h))).trans (e13.mono (fun _ _ h => h.elim))).trans (m14.mono (fun _ _ h => .inr (.inr h)))).trans (m15.mono (fun _ _ h => .inr (.inl h)))
    refine Mod.then m8 q1 ?_
    intro k hk hq
    rcases hq with hq | hq | hq
    · exact .inl hq
    · exact .inr hq
    · have := hs2' hq.1; omega
  exact ⟨⟨i + 1, s', x + dx, y + dy, _, _, _, _, _, _, _, rfl, by omega, by rw [hstep], by rw [hstep], by simpa using M15, by rw [hstep]; simpa [triV] using o15, by rw [hstep]; exact r15, hN, mm⟩, by simp [argI]; omega⟩
end
end Go.Rm

/- Nets in bytes: the program's body. -/
set_option linter.unusedSimpArgs false
set_option linter.unusedVariables false
namespace Go.Rm
section
variable {Y : Sys} {h h' : Heap}

/-- tables that are owned one by one, behind a row of them -/
def TabsOK (lo : Nat) (h : Heap) (s : Sl) (P : List (Tab × Sl)) : Prop :=
  ∀ q ∈ P, Row64 h q.2 q.1.cs ∧ q.1.cs.length ≤ 256 ∧ (q.1.cs ≠ [] → lo ≤ q.2.b ∧ (s.nl = false → q.2.b ≠ s.b) ∧ q.2.b < h.size)
theorem TabsOK.mod {S : Nat → Prop} {lo : Nat} {s : Sl} {P : List (Tab × Sl)} (t : TabsOK lo h s P) (m : Mod S h h') (hs : ∀ j, lo ≤ j → (s.nl = false → j ≠ s.b) → j < h.size → ¬ S j) : TabsOK lo h' s P := by
  intro q hq
  obtain ⟨a, b, c⟩ := t q hq
  exact ⟨a.mod m (fun hn => hs _ (c hn).1 (c hn).2.1 (c hn).2.2), b, fun hn => ⟨(c hn).1, (c hn).2.1, by have := m.size; have := (c hn).2.2; omega⟩⟩

theorem Own.frowT {lo : Nat} {s : Sl} {P : List (Tab × Sl)} {l : List Tab} (o : Own h 3 s (cells3 (P.map tabP))) (n : NewO lo s) (hl : P.map Prod.fst = l) (t : TabsOK lo h s P) : Fresh lo (fun h => RowT h s l) h := by
  intro h' m
  refine Own.rowT (o.mod m (fun hn => by have := n.resolve_left (by rw [hn]; simp); omega)) hl ?_
  intro q hq
  obtain ⟨g1, g2, g3⟩ := t q hq
  exact g1.mod m (fun hn => by have := (g3 hn).1; omega)

def FbI1 (p rb M kt kv ka : Nat) (bs : List Nat) (s : Sl) (st : List Tab × Nat × Int) (h0 : Heap) (e : List Value) (h' : Heap) : Prop :=
  ∃ (i : Nat) (s1 : Sl) (P : List (Tab × Sl)) (v7 v8 v9 v10 v11 v12 v13 v14 v15 : Value), e = [.pointer (some ⟨p, 0, none⟩), .pointer (some ⟨rb, 0, none⟩), .pointer (some ⟨M, 0, none⟩), .int .i64 kt, .int .i64 kv, .int .i64 ka, .int .i64 i, v7, v8, v9, v10, v11, v12, v13, v14, v15] ∧ i ≤ kt ∧ Blk h' M #[.slice none 0 0, .slice none 0 0, s1.v] ∧ Own h' 3 s1 (cells3 (P.map tabP)) ∧ P.map Prod.fst = (itr (stT bs) i st).1 ∧ TabsOK h0.size h' s1 P ∧ RdR h' p bs (itr (stT bs) i st).2.1 (itr (stT bs) i st).2.2 s ∧ NewO h0.size s1 ∧ Mod (fun j => j = p ∨ j = M) h0 h'

theorem fbody_spec (B : FileBd Y) {p : Nat} {bs : List Nat} {s : Sl} (r : RdR h p bs 0 0 s) {R : Value → Heap → Prop}
    (hr : ∀ h' s1 s2 s3, Mod (fun j => j = p) h h' → RdR h' p bs (rdNet bs).2.1 (rdNet bs).2.2 s → FNet h.size h' s1 s2 s3 (rdNet bs).1 → R (netV s1 s2 s3) h') :
    CallP Y F.file_body [.pointer (some ⟨p, 0, none⟩)] h R := by
  refine .of_has B.body rfl ?_
  simp [S_file_body, FnS.wp]
  refine ef_new_box ?_
  intro rb h1 g1 B1 e1
  simp
  refine ef_new_box ?_
  intro M h2 g2 M2 e2
  have r2 := (r.ext e1).ext e2
  have lp := r.blk.lt
  have lB := B1.lt
  have lM := M2.lt
  have z1 := e1.size
  have z2 := e2.size
  simp
  refine ruint_spec B.D.W (most := 256) r2 ?_
  intro h3 m3 r3
  have bT : (rdU bs 0 0 256).1 ≤ 256 := rdU_le
  have w1 : IntKind.i64.wrap ((rdU bs 0 0 256).1 : Int) = ((rdU bs 0 0 256).1 : Int) := i64_wrap (by omega)
  simp [w1]
  refine ruint_spec B.D.W (most := 4096) r3 ?_
  intro h4 m4 r4
  have bV : (rdU bs (rdU bs 0 0 256).2.1 (rdU bs 0 0 256).2.2 4096).1 ≤ 4096 := rdU_le
  have w2 : IntKind.i64.wrap ((rdU bs (rdU bs 0 0 256).2.1 (rdU bs 0 0 256).2.2 4096).1 : Int) = ((rdU bs (rdU bs 0 0 256).2.1 (rdU bs 0 0 256).2.2 4096).1 : Int) := i64_wrap (by omega)
  simp [w2]
  refine ruint_spec B.D.W (most := 16384) r4 ?_
  intro h5 m5 r5
  have bA : (rdU bs (rdU bs (rdU bs 0 0 256).2.1 (rdU bs 0 0 256).2.2 4096).2.1 (rdU bs (rdU bs 0 0 256).2.1 (rdU bs 0 0 256).2.2 4096).2.2 16384).1 ≤ 16384 := rdU_le
  unfold rdNet at hr
  simp only at hr
  generalize rdU bs (rdU bs (rdU bs 0 0 256).2.1 (rdU bs 0 0 256).2.2 4096).2.1 (rdU bs (rdU bs 0 0 256).2.1 (rdU bs 0 0 256).2.2 4096).2.2 16384 = ka at *
  generalize rdU bs (rdU bs 0 0 256).2.1 (rdU bs 0 0 256).2.2 4096 = kv at *
  generalize rdU bs 0 0 256 = kt at *
  obtain ⟨nt, a1, b1⟩ := kt
  obtain ⟨nv, a2, b2⟩ := kv
  obtain ⟨na, a3, b3⟩ := ka
  simp only at *
  have w3 : IntKind.i64.wrap (na : Int) = (na : Int) := i64_wrap (by omega)
  have z3 := m3.size
  have z4 := m4.size
  have z5 := m5.size
  have B5 := m5.blk (m4.blk (m3.blk (B1.ext e2) (by omega)) (by omega)) (by omega)
  have M5 := m5.blk (m4.blk (m3.blk M2 (by omega)) (by omega)) (by omega)
  have hsp : bs ≠ [] → s.b < h.size := fun hn => r.row.blk_lt hn
  have m05 : Mod (fun j => j = p) h h5 := ((((e1.mono (fun _ _ h => h.elim)).trans (e2.mono (fun _ _ h => h.elim))).trans m3).trans m4).trans m5
  simp [w3]
  refine wp_loop' (FbI1 p rb M nt nv na bs s ([], a3, b3) h5) (fun e _ => nt - argI e 6) ⟨0, Sl.nil, [], _, _, _, _, _, _, _, _, _, rfl, by omega, M5, Own.nil, rfl, by intro q hq; simp at hq, r5, .inl rfl, Mod.refl _⟩ ?_
  rintro e h6 ⟨i, s1, P, v7, v8, v9, v10, v11, v12, v13, v14, v15, rfl, hi, M6, o6, hP, hT, r6, hs1, m6⟩
  have B6 := m6.blk B5 (by omega)
  have lenP : P.length ≤ nt := by
    have := itrT_len (bs := bs) (st := ([], a3, b3)) rfl (n := i)
    rw [← hP] at this
    simp at this
    omega
  have n6 := o6.n3
  simp at n6
  by_cases c : i < nt ∧ (itr (stT bs) i ([], a3, b3)).2.2 = 0
  · obtain ⟨c, hb⟩ := c
    have c' : (i : Int) < nt := by omega
    simp [c']
    refine rerr_spec B.D.W r6 ?_
    intro h7 v e7 hv
    have hvn := hv.here.nil (by simp [rdW, hb, wOK])
    subst hvn
    have M7 := M6.ext e7
    simp [M7.hc]
    refine ftable_spec B.D (r6.ext e7) ?_
    intro h8 u m8 r8 o8 hu8 hl8
    have M8 := m8.blk M7 (by omega)
    simp [M8.hc, ef_bslice3]
    intro t
    have hstep : itr (stT bs) (i + 1) ([], a3, b3) = stT bs (itr (stT bs) i ([], a3, b3)) := rfl
    rw [stT_go hb] at hstep
    rw [hb] at r8 o8 hl8 ⊢
    generalize hst : itr (stT bs) i ([], a3, b3) = st at *
    generalize htt : rdT bs st.2.1 0 = tt at *
    have e9 : Ext h8 (h8.push (.cells #[.int .i64 tt.1.i, .int .i64 tt.1.o, u.v] t)) := Mod.push
    have M9 := M8.ext e9
    have z6 := m6.size
    have z7 := e7.size
    have z8 := m8.size
    have z9 := e9.size
    have hs1' : s1.nl = false → h5.size ≤ s1.b := fun hn => hs1.resolve_left (by rw [hn]; simp)
    have l1 : s1.nl = false → s1.b < h6.size := fun hn => o6.lt hn
    have o9 := ((o6.ext' e7).mod m8 (fun hn => by have := hs1' hn; omega)).ext' e9
    refine ⟨M9.hc.trans rfl, ?_⟩
    refine ef_append3 rfl o9 Blk.new rfl rfl (by simp) (by omega) (by omega) ?_
    intro s' h10 o10 m10 hs10
    have z10 := m10.size
    have M10 := m10.blk M9 (fun hq => by have := hs1' hq.1; omega)
    have w4 : IntKind.i64.wrap ((i : Int) + 1) = (i : Int) + 1 := i64_wrap (by omega)
    have hs' : s'.nl = false → h5.size ≤ s'.b := by
      intro hq
      rcases hs10 with ⟨q1, q2⟩ | ⟨q1, q2⟩
      · rw [q1]; exact hs1' (by rw [← q2]; exact hq)
      · omega
    simp
    refine stB M10 (by simp) ?_
    intro h11 M11 m11
    have z11 := m11.size
    simp [w4]
    have lM5 := M5.lt
    have lp5 := B5.lt
    have r11 := ((r8.ext e9).others m10 (fun hq => by have := hs1' hq.1; omega) (fun hn hq => by have := hs1' hq.1; have := hsp hn; omega)).other m11 (by omega) (fun hn => by have := hsp hn; omega)
    have o11 : Own h11 3 s' (cells3 ((P ++ [(tt.1, u)]).map tabP)) := by
      have := o10.mod m11 (fun hq => by have := hs' hq; omega)
      simpa [tabP] using this
    have unl : tt.1.cs ≠ [] → u.nl = false ∧ u.b < h8.size := fun hne => by
      obtain ⟨_, hb, _, hnl⟩ := o8.blk (i := 0) (by have := List.length_pos_iff.2 hne; simpa [ints64] using this)
      exact ⟨hnl, o8.lt hnl⟩
    have sne : ∀ k, k < h8.size → (s1.nl = false → k ≠ s1.b) → s'.nl = false → k ≠ s'.b := by
      intro k hk h1 hq
      rcases hs10 with ⟨q1, q2⟩ | ⟨q1, q2⟩
      · rw [q1]; exact h1 (by rw [← q2]; exact hq)
      · omega
    have hT11 : TabsOK h5.size h11 s' (P ++ [(tt.1, u)]) := by
      intro q hq
      rcases List.mem_append.1 hq with g | g
      · obtain ⟨g1, g2, g3⟩ := hT q g
        refine ⟨(((((g1.ext e7).mod m8 (fun hn => by have := (g3 hn).1; omega)).ext e9).mod m10 (fun hn hq => (g3 hn).2.1 hq.1 hq.2)).mod m11 (fun hn => by have := (g3 hn).1; omega)), g2, fun hn => ⟨(g3 hn).1, ?_, by have := (g3 hn).2.2; omega⟩⟩
        exact sne _ (by have := (g3 hn).2.2; omega) (g3 hn).2.1
      · simp only [List.mem_singleton] at g
        subst g
        have ub : tt.1.cs ≠ [] → h7.size ≤ u.b := fun hne => hu8.resolve_left (by rw [(unl hne).1]; simp)
        refine ⟨((o8.row64.ext e9).mod m10 (fun hn hq => by have := ub hn; have := l1 hq.1; have := hq.2; omega)).mod m11 (fun hn => by have := ub hn; omega), hl8, fun hn => ⟨?_, ?_, ?_⟩⟩
        · have := ub hn; show h5.size ≤ u.b; omega
        · exact sne u.b (unl hn).2 (fun hq => by have := ub hn; have := l1 hq; omega)
        · have := (unl hn).2; show u.b < h11.size; omega
    have hN : NewO h5.size s' := by
      cases hq : s'.nl with
      | true => exact .inl hq
      | false => exact .inr (hs' hq)
    have mm : Mod (fun j => j = p ∨ j = M) h5 h11 := by
      have q1 : Mod (fun j => j = p ∨ j = M ∨ (s1.nl = false ∧ j = s1.b)) h6 h11 :=
        ((((e7.mono (fun _ _ h => h.elim)).trans (m8.mono (fun _ _ h => .inl h))).trans (e9.mono (fun _ _ h => h.elim))).trans (m10.mono (fun _ _ h => .inr (.inr h)))).trans (m11.mono (fun _ _ h => .inr (.inl h)))
      refine Mod.then m6 q1 ?_
      intro k hk hq
      rcases hq with hq | hq | hq
      · exact .inl hq
      · exact .inr hq
      · have := hs1' hq.1; omega
    refine ⟨⟨i + 1, s', P ++ [(tt.1, u)], _, _, _, _, _, _, _, _, _, rfl, by omega, by simpa using M11, o11, by rw [hstep]; simp [hP], hT11, by rw [hstep]; exact r11, hN, mm⟩, by simp [argI]; omega⟩
  have hend : itr (stT bs) nt ([], a3, b3) = itr (stT bs) i ([], a3, b3) := by
    by_cases c1 : i < nt
    · exact itrT_stuck (fun hb => c ⟨c1, hb⟩) hi
    · rw [show i = nt by omega]
  have tail : ∀ (h7 : Heap) (v6 v7 v8 v9 v10 v11 v12 v13 v14 v15 : Value), Ext h6 h7 → Stmt.wp Y S_file_body.body.rest.rest.rest.rest.rest.rest (resP S_file_body.res R) (fun _ _ _ => False) (resP S_file_body.res R)
      [.pointer (some ⟨p, 0, none⟩), .pointer (some ⟨rb, 0, none⟩), .pointer (some ⟨M, 0, none⟩), .int .i64 nt, .int .i64 nv, .int .i64 na, v6, v7, v8, v9, v10, v11, v12, v13, v14, v15] h7 := by
    intro h7 v6 v7 v8 v9 v10 v11 v12 v13 v14 v15 e7
    rw [← hend] at r6 hP
    have r7 := r6.ext e7
    have M7 := M6.ext e7
    have B7 := B6.ext e7
    refine fb_verts B (r0 := (itr (stT bs) nt ([], a3, b3)).2) bA bV r7 M7 B7 (by omega) (by omega) (by omega) (fun hn => by have := hsp hn; omega) ?_ _ _ _ _ _ _ _ _ _ _
    intro h8 s2 s3 m8 r8 q2 q3
    have z6 := m6.size
    have z7 := e7.size
    have z8 := m8.size
    have hs1' : s1.nl = false → h5.size ≤ s1.b := fun hn => hs1.resolve_left (by rw [hn]; simp)
    refine hr h8 s2 s3 s1 ?_ r8 ?_
    · refine Mod.then m05 (((m6.mono (S' := fun j => j = p ∨ j = M ∨ j = rb) (fun _ _ h => h.elim .inl (fun h => .inr (.inl h)))).trans (e7.mono (fun _ _ h => h.elim))).trans m8) (fun k hk hq => by omega)
    · have z5' := m5.size
      have f3 := Own.frowT (lo := h5.size) o6 hs1 hP hT
      have m68 : Mod (fun j => j < h5.size) h6 h8 := (e7.mono (fun _ _ h => h.elim)).trans (m8.mono (fun j _ hj => by omega))
      have f4 := f3.step m68 (fun _ h => h)
      intro g mg
      exact ⟨q2 g (mg.mono (fun j _ hj => by omega)), q3 g (mg.mono (fun j _ hj => by omega)), f4 g (mg.mono (fun j _ hj => by omega))⟩
  simp only [S_file_body, Stmt.rest] at tail
  by_cases c1 : i < nt
  · have c' : (i : Int) < nt := by omega
    have hb : (itr (stT bs) i ([], a3, b3)).2.2 ≠ 0 := fun hb => c ⟨c1, hb⟩
    simp [c']
    refine rerr_spec B.D.W r6 ?_
    intro h7 v e7 hv
    obtain ⟨t, q, hv'⟩ := hv.here.iface (by simp [rdW, hb, byteW])
    subst hv'
    have tt := tail h7 (.int .i64 i) v7 v8 v9 v10 v11 v12 (.bool false) v14 v15 e7
    simp at tt
    simp
    exact tt
  · have c' : ¬ (i : Int) < nt := by omega
    have tt := tail h6 (.int .i64 i) v7 v8 v9 v10 v11 v12 (.bool false) v14 v15 (Mod.refl _)
    simp at tt
    simp [c']
    exact tt
end
end Go.Rm
