/- The document's tables (roundsmanref6): BackTable, WithTable. -/
import Derived.Test.YtghpbaebbljppaaDoorRRef6b
set_option linter.unusedSimpArgs false
set_option linter.unusedVariables false
namespace Go.Rm
section
variable {Y : Sys} {h : Heap}

theorem FWr.any {w : Wr} {v : Value} (hw : WrongV h w.1 w.2 v) (h0 : w.1 = []) {lo : Nat} {h' : Heap} : FWr lo h' w v := by
  obtain ⟨s, e, p⟩ := hw
  intro h'' _
  refine ⟨s, e, p.ok, p.len, fun i x hx => ?_⟩
  rw [h0] at hx; simp at hx

def RBackI (n : Nat) (s : Sl) (tb wb nb cb : Nat) (wv : Value) (h0 : Heap) (e : List Value) (h' : Heap) : Prop :=
  ∃ (i : Nat) (v6 : Value), e = [.int .i64 n, .pointer (some ⟨tb, 0, none⟩), .pointer (some ⟨wb, 0, none⟩), .pointer (some ⟨nb, 0, none⟩), .pointer (some ⟨cb, 0, none⟩), .int .i64 i, v6] ∧ i ≤ n ∧
    Own h' 1 s (ints64 (backI n i)) ∧ Blk h' tb #[.int .i64 0, .int .i64 0, .slice none 0 0] ∧ Blk h' wb #[.slice none 0 0, .int .i64 0] ∧ Blk h' nb #[.int .i64 n, .int .i64 n, s.v] ∧ Blk h' cb wv.cells ∧
    Ext h0 h'

theorem rback_spec (HB : Y.Has F.rref6_BackTable S_rref6_BackTable) (HF : Y.Has F.rref6_FreeTable S_rref6_FreeTable) (T : RefTab Y) {n : Int} {R : Value → Heap → Prop}
    (hr : ∀ h' v, Ext h h' → MadeW h.size h' (sidesW n n) n n (backL n.toNat) v → R v h') : CallP Y F.rref6_BackTable [.int .i64 n] h R := by
  refine .of_has HB rfl ?_
  simp [S_rref6_BackTable, FnS.wp]
  refine ef_new_box ?_
  intro tb h1 g1 T1 e1
  simp
  refine ef_new_box ?_
  intro wb h2 g2 W2 e2
  have T2 := T1.ext e2
  have T1lt := T1.lt
  have W2lt := W2.lt
  have z1 := e1.size
  have z2 := e2.size
  simp
  refine rfree_spec HF T ?_
  rintro h3 v e3 ⟨ins', outs', s, cs', u, rfl, he, ho, hsb, hcase⟩
  have z3 := e3.size
  obtain ⟨ps, rfl⟩ := he.here.shape
  simp
  refine ef_new_box ?_
  intro nb h4 g4 N4 e4
  simp
  refine ef_new_box ?_
  intro cb h5 g5 C5 e5
  have N5 := N4.ext e5
  have z4 := e4.size
  have z5 := e5.size
  have N4lt := N4.lt
  have C5lt := C5.lt
  simp
  refine ef_store_box (vs := #[.int .i64 ins', .int .i64 outs', s.v]) N5 rfl rfl (by simp) ?_
  intro h6 N6 m6
  have C6 := m6.blk C5 (by omega)
  have z6 := m6.size
  simp
  refine ef_store_box (vs := #[ps.v, .int .i64 (sidesW n n).2]) C6 rfl rfl (by simp) ?_
  intro h7 C7 m7
  have N7 := m7.blk N6 (by omega)
  have z7 := m7.size
  have T7 := m7.blk (m6.blk (((T2.ext e3).ext e4).ext e5) (by omega)) (by omega)
  have W7 := m7.blk (m6.blk (((W2.ext e3).ext e4).ext e5) (by omega)) (by omega)
  have m37 : Mod (fun j => j < h2.size) h3 h7 := Mod.then (Mod.then ((e4.trans e5).mono fun _ _ h => h.elim) m6 (fun i hi hS => by omega)) m7 (fun i hi hS => by omega)
  have he7 := he.step m37 (fun j h => h)
  have ho7 := ho.step m37 (fun j h => h)
  have e7 : Ext h h7 := ((((e1.trans e2).trans e3).trans (e4.trans e5)).ext m6 (fun j hj => by omega)).ext m7 (fun j hj => by omega)
  simp
  rcases hcase with ⟨h0, q1, q2, q3, hnl⟩ | ⟨h0, q1, q2, q3, q4⟩
  · subst q1; subst q2; subst q3
    obtain ⟨hs, a1, a2, a3, a4⟩ := sides_ok h0
    have hsb : h2.size ≤ s.b := hsb.resolve_left (by rw [hnl]; simp)
    have hslt := ho.here.lt hnl
    obtain ⟨N, rfl⟩ : ∃ N : Nat, outs' = N := ⟨outs'.toNat, by omega⟩
    have hNN : ((N : Int) * N).toNat = N * N := by rw [← Int.natCast_mul, Int.toNat_natCast]
    rw [hNN] at ho7
    have hN : N ≤ 16 := by omega
    have hw7 := he.here
    refine wp_loop' (RBackI N s tb wb nb cb (.agg #[ps.v, .int .i64 (sidesW (N : Int) N).2]) h) (fun e _ => N - argI e 5) ⟨0, _, rfl, by omega, by simpa [backI] using ho7.here, T7, W7, N7, C7, e7⟩ ?_
    clear he he7 ho ho7 T7 W7 N7 C7 e7 m37 N6 C6 N5 C5 m6 m7 N4
    rintro e h8 ⟨i, v6, rfl, hi, o8, T8, W8, N8, C8, e8⟩
    by_cases hlt : i < N
    · have w1 : IntKind.i64.wrap ((i : Int) + 1) = (i : Int) + 1 := i64_wrap (by omega)
      obtain ⟨w2, w3, p0, p1⟩ := place_wrap (ins := (N : Int)) (outs := (N : Int)) (i := (i : Int)) (k := (i : Int)) (by omega) (by omega) (by omega) (by omega) (by omega) (by omega)
      have hidx : ((i : Int) * N + i).toNat = i * N + i := by rw [← Int.natCast_mul, ← Int.natCast_add, Int.toNat_natCast]
      have hpl : i * N + i < (ints64 (backI N i)).length := by
        rw [ints64_len, backI_len]
        have : (i : Int) * N + i < N * N := p1
        exact_mod_cast this
      have hpl2 : (i : Int) * N + i < s.n := by
        have := o8.row64.len
        rw [backI_len] at this
        rw [← this]
        have := p1
        push_cast
        exact this
      obtain ⟨arr, D8, D8s, _⟩ := o8.blk hpl
      have hcell := o8.cell (ints64_get (l := backI N i) (i := i * N + i) (by simpa using hpl))
      have o9 := o8.set (v := .int .i64 1152921504606846976) hpl
      rw [ints64_set, ← backI_succ] at o9
      have T9 := T8.set_ne (b' := s.b) (o := s.o + (i * N + i)) (v := .int .i64 1152921504606846976) (by omega)
      have W9 := W8.set_ne (b' := s.b) (o := s.o + (i * N + i)) (v := .int .i64 1152921504606846976) (by omega)
      have N9 := N8.set_ne (b' := s.b) (o := s.o + (i * N + i)) (v := .int .i64 1152921504606846976) (by omega)
      have C9 := C8.set_ne (b' := s.b) (o := s.o + (i * N + i)) (v := .int .i64 1152921504606846976) (by omega)
      have x9 : Mod (fun j => j = s.b) h8 (hset h8 s.b (s.o + (i * N + i)) (.int .i64 1152921504606846976)) := Mod.set rfl
      simp [hlt, N8.hc, w2, w3, sem_idxa o8.ok, p0, hpl2, hidx, StoreP.open, hcell, D8.hfz, w1]
      exact ⟨⟨i + 1, _, rfl, by omega, o9, T9, W9, N9, C9, e8.ext x9 (fun j hj => by omega)⟩, by simp [argI]; omega⟩
    · have : i = N := by omega
      subst this
      simp [N8.hc, rd_blk N8, rd_blk C8]
      refine ef_store_box T8 rfl rfl (by simp) ?_
      intro h9 T9 m9
      have C9 := m9.blk C8 (by omega)
      have W9 := m9.blk W8 (by omega)
      simp [rd_blk C9]
      refine ef_store_box W9 rfl rfl (by simp) ?_
      intro h10 W10 m10
      have T10 := m10.blk T9 (by omega)
      simp
      refine resP_xx rfl T10 rfl rfl W10 rfl ?_
      have o10 := (o8.mod m9 (fun _ h => by omega)).mod m10 (fun _ h => by omega)
      refine hr h10 _ ((e8.ext m9 (fun j hj => by omega)).ext m10 (fun j hj => by omega)) ⟨i, i, s, _, _, rfl, FWr.any hw7 (by rw [hs]; rfl), fresh_own o10 (.inr (by omega)), .inr (by omega), .inl ⟨h0, rfl, rfl, by simp [backI, backL], hnl⟩⟩
  · subst q1; subst q2; subst q3; subst q4
    refine wp_loop' (fun e h' => e = [.int .i64 n, .pointer (some ⟨tb, 0, none⟩), .pointer (some ⟨wb, 0, none⟩), .pointer (some ⟨nb, 0, none⟩), .pointer (some ⟨cb, 0, none⟩), .int .i64 0, undef] ∧ h' = h7) (fun e _ => 0) ⟨rfl, rfl⟩ ?_
    rintro e h8 ⟨rfl, rfl⟩
    simp [N7.hc, rd_blk N7, rd_blk C7]
    refine ef_store_box T7 rfl rfl (by simp) ?_
    intro h9 T9 m9
    have C9 := m9.blk C7 (by omega)
    have W9 := m9.blk W7 (by omega)
    simp [rd_blk C9]
    refine ef_store_box W9 rfl rfl (by simp) ?_
    intro h10 W10 m10
    have T10 := m10.blk T9 (by omega)
    simp
    refine resP_xx rfl T10 rfl rfl W10 rfl ?_
    refine hr h10 _ ((e7.ext m9 (fun j hj => by omega)).ext m10 (fun j hj => by omega)) ⟨0, 0, Sl.nil, [], _, rfl, ((he7.step m9 (fun j hj => by omega)).step m10 (fun j hj => by omega)).mono (by omega), fun _ _ => Own.nil, .inl rfl, .inr ⟨h0, rfl, rfl, rfl, rfl⟩⟩

/-- what WithTable hands back, of a table that may be -/
def RWithR (lo : Nat) (h' : Heap) (ins outs : Int) (cs : List Int) (i k c : Int) (v : Value) : Prop :=
  ∃ ins' outs' s' cs' u, v = .tuple #[tabV ins' outs' s', u] ∧ FWr lo h' (withW ins outs cs i k c) u ∧ Fresh lo (fun h => Row64 h s' cs') h' ∧
    (((withW ins outs cs i k c).2 = 0 ∧ ins' = ins ∧ outs' = outs ∧ cs' = cs.set (i * outs + k).toNat c) ∨ ((withW ins outs cs i k c).2 ≠ 0 ∧ ins' = 0 ∧ outs' = 0 ∧ s' = Sl.nil ∧ cs' = []))

theorem rwith_spec (HW : Y.Has F.rref6_WithTable S_rref6_WithTable) (T : RefTab Y) {ins outs i k c : Int} {s : Sl} {cs : List Int} (r : Row64 h s cs) (hok : (tabW ins outs cs).2 = 0) {R : Value → Heap → Prop}
    (hr : ∀ h' v, Ext h h' → RWithR h.size h' ins outs cs i k c v → R v h') : CallP Y F.rref6_WithTable [tabV ins outs s, .int .i64 i, .int .i64 k, .int .i64 c] h R := by
  obtain ⟨a1, a2, a3, a4, a5, a6, a7⟩ := tab_ok hok
  refine .of_has HW rfl ?_
  simp [S_rref6_WithTable, FnS.wp, tabV]
  refine ef_new_box ?_
  intro b h1 g1 B1 e1
  simp
  refine ef_new_box ?_
  intro tb h2 g2 T2 e2
  simp
  refine ef_new_box ?_
  intro wb h3 g3 W3 e3
  have B2 := B1.ext (e2.trans e3)
  have T3 := T2.ext e3
  have z1 := e1.size
  have z2 := e2.size
  have z3 := e3.size
  have B1lt := B1.lt
  have T2lt := T2.lt
  have W3lt := W3.lt
  have e123 := (e1.trans e2).trans e3
  have hl := r.len
  -- refused
  have fin : ∀ {a e : Int} {K : Value → Heap → Prop}, withW ins outs cs i k c = turnW a e → e ≠ 0 → (∀ h4 v, Ext h3 h4 → FWr h3.size h4 (withW ins outs cs i k c) v → K v h4) → CallP Y F.rref6_At [.string wTurn, .int .i64 a, .int .i64 e] h3 K := by
    intro a e K hw he hk
    refine rat_spec T.At ?_
    intro h4 v e4 hv
    exact hk h4 v e4 (by rw [hw]; exact hv)
  have fin2 : ∀ {h4 : Heap} {v : Value} {K : Value → Heap → Prop}, Ext h3 h4 → (withW ins outs cs i k c).2 ≠ 0 → FWr h3.size h4 (withW ins outs cs i k c) v →
      (∀ h5, (∀ K' : Value → Heap → Prop, (∀ h6, (∃ ws : Array Value, v = .agg ws ∧ ws.size = 2 ∧ Blk h6 wb ws) → Blk h6 tb #[.int .i64 0, .int .i64 0, .slice none 0 0] → R (.tuple #[.agg #[.int .i64 0, .int .i64 0, .slice none 0 0], v]) h6 → K' undef h6) →
        Ef.wp h5 K' (.store 2) [.pointer (some ⟨wb, 0, none⟩), v]) → K undef h5) →
      Ef.wp h4 K (.store 3) [.pointer (some ⟨tb, 0, none⟩), .agg #[.int .i64 0, .int .i64 0, .slice none 0 0]] := by
    intro h4 v K e4 hw hv hk
    have z4 := e4.size
    refine ef_store_box (T3.ext e4) rfl rfl (by simp) ?_
    intro h5 T5 m5
    have W5 := m5.blk (W3.ext e4) (by omega)
    refine hk h5 ?_
    intro K' hk'
    obtain ⟨ps, rfl⟩ := hv.here.shape
    refine ef_store_box W5 rfl rfl (by simp) ?_
    intro h6 W6 m6
    have T6 := m6.blk T5 (by omega)
    refine hk' h6 ⟨_, rfl, rfl, W6⟩ T6 (hr h6 _ (((e123.trans e4).ext m5 (fun j hj => by omega)).ext m6 (fun j hj => by omega)) ⟨0, 0, Sl.nil, [], _, rfl, ((hv.step m5 (fun j hj => by omega)).step m6 (fun j hj => by omega)).mono (by omega), fun _ _ => Row64.nil, .inr ⟨hw, rfl, rfl, rfl, rfl⟩⟩)
  by_cases c1 : i < 0
  · have hw : withW ins outs cs i k c = turnW 0 5 := by simp [withW, c1]
    simp [c1]
    refine fin hw (by omega) ?_
    intro h4 v e4 hv
    simp
    refine fin2 e4 (by rw [hw]; simp [turnW]) hv ?_
    intro h5 hk
    simp
    refine hk _ ?_
    rintro h6 ⟨ws, rfl, hs, W6⟩ T6 hR
    simp
    exact resP_xx rfl T6 rfl rfl W6 hs hR
  by_cases c2 : ins ≤ i
  · have hw : withW ins outs cs i k c = turnW 0 5 := by simp [withW, c2]
    simp [c1, B2.hc, c2]
    refine fin hw (by omega) ?_
    intro h4 v e4 hv
    simp
    refine fin2 e4 (by rw [hw]; simp [turnW]) hv ?_
    intro h5 hk
    simp
    refine hk _ ?_
    rintro h6 ⟨ws, rfl, hs, W6⟩ T6 hR
    simp
    exact resP_xx rfl T6 rfl rfl W6 hs hR
  by_cases c3 : k < 0
  · have hw : withW ins outs cs i k c = turnW 1 5 := by simp [withW, c1, c2, c3]
    simp [c1, B2.hc, c2, c3]
    refine fin hw (by omega) ?_
    intro h4 v e4 hv
    simp
    refine fin2 e4 (by rw [hw]; simp [turnW]) hv ?_
    intro h5 hk
    simp
    refine hk _ ?_
    rintro h6 ⟨ws, rfl, hs, W6⟩ T6 hR
    simp
    exact resP_xx rfl T6 rfl rfl W6 hs hR
  by_cases c4 : outs ≤ k
  · have hw : withW ins outs cs i k c = turnW 1 5 := by simp [withW, c1, c2, c4]
    simp [c1, B2.hc, c2, c3, c4]
    refine fin hw (by omega) ?_
    intro h4 v e4 hv
    simp
    refine fin2 e4 (by rw [hw]; simp [turnW]) hv ?_
    intro h5 hk
    simp
    refine hk _ ?_
    rintro h6 ⟨ws, rfl, hs, W6⟩ T6 hR
    simp
    exact resP_xx rfl T6 rfl rfl W6 hs hR
  simp [c1, B2.hc, c2, c3, c4]
  refine rweight_spec T.Weight ?_
  cases hwt : weightB c with
  | false =>
    have hw : withW ins outs cs i k c = turnW 2 8 := by simp [withW, c1, c2, c3, c4, hwt]
    simp
    refine fin hw (by omega) ?_
    intro h4 v e4 hv
    simp
    refine fin2 e4 (by rw [hw]; simp [turnW]) hv ?_
    intro h5 hk
    simp
    refine hk _ ?_
    rintro h6 ⟨ws, rfl, hs, W6⟩ T6 hR
    simp
    exact resP_xx rfl T6 rfl rfl W6 hs hR
  | true =>
    have hw : withW ins outs cs i k c = wOK := by simp [withW, c1, c2, c3, c4, hwt, a7]
    obtain ⟨w1, w2, p0, p1⟩ := place_wrap (ins := ins) (outs := outs) (i := i) (k := k) (by omega) (by omega) (by omega) (by omega) a2 a4
    have m3 := (mul_wrap ⟨a1, a2⟩ ⟨a3, a4⟩).2
    simp [ef_bslice0]
    intro t
    have e4 : Ext h3 (h3.push (.cells #[] t)) := Mod.push
    simp [(B2.ext e4).hc]
    refine ef_clone64 ((r.ext e123).ext e4) (by omega) own_empty (.inr (Nat.le_refl _)) e4 ?_
    intro s' h5 o5 hs' e5
    have z5 := e5.size
    have B5 := B2.ext e5
    have T5 := T3.ext e5
    have W5 := W3.ext e5
    have hpl : (i * outs + k).toNat < (ints64 cs).length := by rw [ints64_len]; omega
    have hnl : s'.nl = false := by
      obtain ⟨arr, _, _, hnl⟩ := o5.blk hpl
      exact hnl
    have hsb : h3.size ≤ s'.b := hs'.resolve_left (by rw [hnl]; simp)
    have hpl2 : i * outs + k < s'.n := by have := o5.row64.len; omega
    obtain ⟨arr, A5, A5s, _⟩ := o5.blk hpl
    have hcell := o5.cell (ints64_get (l := cs) (i := (i * outs + k).toNat) (by omega))
    have o6 := o5.set (v := .int .i64 c) hpl
    rw [ints64_set] at o6
    have B6 := B5.set_ne (b' := s'.b) (o := s'.o + (i * outs + k).toNat) (v := .int .i64 c) (by omega)
    have T6 := T5.set_ne (b' := s'.b) (o := s'.o + (i * outs + k).toNat) (v := .int .i64 c) (by omega)
    have W6 := W5.set_ne (b' := s'.b) (o := s'.o + (i * outs + k).toNat) (v := .int .i64 c) (by omega)
    have x6 : Mod (fun j => j = s'.b) h5 (hset h5 s'.b (s'.o + (i * outs + k).toNat) (.int .i64 c)) := Mod.set rfl
    simp [B5.hc, w1, w2, sem_idxa o5.ok, p0, hpl2, StoreP.open, hcell, A5.hfz]
    generalize hset h5 s'.b (s'.o + (i * outs + k).toNat) (.int .i64 c) = h6 at *
    simp [B6.hc]
    refine ef_store_box T6 rfl rfl (by simp) ?_
    intro h7 T7 m7
    have W7 := m7.blk W6 (by omega)
    simp
    refine ef_store_box W7 rfl rfl (by simp) ?_
    intro h8 W8 m8
    have T8 := m8.blk T7 (by omega)
    simp
    refine resP_xx rfl T8 rfl rfl W8 rfl ?_
    have o8 := (o6.mod m7 (fun _ h => by omega)).mod m8 (fun _ h => by omega)
    refine hr h8 _ ((((e123.trans e5).ext x6 (fun j hj => by omega)).ext m7 (fun j hj => by omega)).ext m8 (fun j hj => by omega)) ⟨ins, outs, s', _, _, rfl, ?_, fresh_row o8 (.inr (by omega)), .inl ⟨by rw [hw]; rfl, rfl, rfl, rfl⟩⟩
    rw [hw]; exact FWr.ok
end
end Go.Rm
