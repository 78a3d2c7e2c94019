/- Tables of turns: Free, Back. -/
import Derived.Test.YtghpbaebbljppaaDoorRTurn2
set_option linter.unusedSimpArgs false
set_option linter.unusedVariables false
namespace Go.Rm
section
variable {Y : Sys} {h : Heap}

/-- what Free and Back hand back: a table of one's own, or none and why -/
def MadeR (Y : Sys) (lo : Nat) (h' : Heap) (w : Wr) (ins outs : Int) (cs : List Int) (v : Value) : Prop :=
  ∃ ins' outs' s' cs' u, v = .tuple #[tabV ins' outs' s', u] ∧ FErr Y lo h' w u ∧ Fresh lo (fun h => Own h 1 s' (ints64 cs')) h' ∧ (s'.nl = true ∨ lo ≤ s'.b) ∧
    ((w.2 = 0 ∧ ins' = ins ∧ outs' = outs ∧ cs' = cs ∧ s'.nl = false) ∨ (w.2 ≠ 0 ∧ ins' = 0 ∧ outs' = 0 ∧ s' = Sl.nil ∧ cs' = []))

theorem free_spec (HF : Y.Has F.turn_Free S_turn_Free) (T : TurnFns Y) {ins outs : Int} {R : Value → Heap → Prop}
    (hr : ∀ h' v, Ext h h' → MadeR Y h.size h' (sidesW ins outs) ins outs (zerosL (ins * outs).toNat) v → R v h') : CallP Y F.turn_Free [.int .i64 ins, .int .i64 outs] h R := by
  refine .of_has HF rfl ?_
  simp [S_turn_Free, FnS.wp]
  refine ef_new_box ?_
  intro rb h1 g1 B1 e1
  have B1lt := B1.lt
  simp
  refine sides_spec T.sides T.fault ?_
  intro v h2 e2 he
  have B2 := B1.ext e2
  have z1 := e1.size
  have z2 := e2.size
  by_cases h0 : (sidesW ins outs).2 = 0
  · obtain ⟨hs, a1, a2, a3, a4⟩ := sides_ok h0
    have := he.here.nil h0
    subst this
    obtain ⟨m1, m2, m3⟩ := mul_wrap ⟨a1, a2⟩ ⟨a3, a4⟩
    simp [m1, ef_mkslice, m2, zeros_one]
    refine ⟨by omega, by omega, fun t => ?_⟩
    have hN : ((ins * outs).toNat : Int) = ins * outs := Int.toNat_of_nonneg m2
    have o3 : Own (h2.push (.cells (Array.replicate (ins * outs).toNat (.int .i64 0)) t)) 1 (Sl.at h2.size (ins * outs).toNat (ins * outs).toNat) (ints64 (zerosL (ins * outs).toNat)) := own_zero (by omega)
    have e3 : Ext h2 (h2.push (.cells (Array.replicate (ins * outs).toNat (.int .i64 0)) t)) := Mod.push
    have B3 := B2.ext e3
    have hlt3 := o3.lt rfl
    simp at hlt3
    generalize h2.push (.cells (Array.replicate (ins * outs).toNat (.int .i64 0)) t) = h3 at *
    refine ef_store_box B3 rfl rfl (by simp) ?_
    intro h4 B4 m4
    simp
    refine resP_xn rfl B4 rfl ?_
    refine hr h4 _ ?_ ⟨ins, outs, Sl.at h2.size (ins * outs).toNat (ins * outs).toNat, _, .nilIface, rfl, by rw [hs]; exact FErr.ok, fresh_own (o3.mod m4 (fun _ h => by simp at h; omega)) (.inr (by simp; omega)), .inr (by simp; omega), .inl ⟨h0, rfl, rfl, rfl, rfl⟩⟩
    exact ((e1.trans e2).trans e3).ext m4 (fun j hj => by omega)
  · obtain ⟨t, u, hv⟩ := he.here.iface h0
    subst hv
    simp
    refine ef_store_box B2 rfl rfl (by simp) ?_
    intro h4 B4 m4
    simp
    refine resP_xn rfl B4 rfl ?_
    refine hr h4 _ ((e1.trans e2).ext m4 (fun j hj => by omega)) ⟨0, 0, Sl.nil, [], _, rfl, (he.step m4 (fun j hj => by omega)).mono z1, fun _ _ => Own.nil, .inl rfl, .inr ⟨h0, rfl, rfl, rfl, rfl⟩⟩

def BackLI (n : Nat) (s : Sl) (rb tb : Nat) (h0 : Heap) (e : List Value) (h' : Heap) : Prop :=
  ∃ (i : Nat) (v5 v6 v9 : Value), e = [.int .i64 n, .pointer (some ⟨rb, 0, none⟩), .nilIface, .pointer (some ⟨tb, 0, none⟩), .nilIface, v5, v6, .int .i64 n, .int .i64 i, v9] ∧ i ≤ n ∧
    Own h' 1 s (ints64 (backI n i)) ∧ Blk h' rb #[.int .i64 0, .int .i64 0, .slice none 0 0] ∧ Blk h' tb #[.int .i64 n, .int .i64 n, s.v] ∧ Ext h0 h'

theorem back_spec (HB : Y.Has F.turn_Back S_turn_Back) (HF : Y.Has F.turn_Free S_turn_Free) (T : TurnFns Y) {n : Int} {R : Value → Heap → Prop}
    (hr : ∀ h' v, Ext h h' → MadeR Y h.size h' (sidesW n n) n n (backL n.toNat) v → R v h') : CallP Y F.turn_Back [.int .i64 n] h R := by
  refine .of_has HB rfl ?_
  simp [S_turn_Back, FnS.wp]
  refine ef_new_box ?_
  intro rb h1 g1 B1 e1
  have B1lt := B1.lt
  simp
  refine free_spec HF T ?_
  rintro h2 v e2 ⟨ins', outs', s, cs', u, rfl, he, ho, hsb, hcase⟩
  have B2 := B1.ext e2
  have z1 := e1.size
  have z2 := e2.size
  simp
  refine ef_new_box ?_
  intro tb h3 g3 A3 e3
  have B3 := B2.ext e3
  have he3 := he.ext e3
  have ho3 := ho.ext e3
  simp
  refine ef_store_box (vs := #[.int .i64 ins', .int .i64 outs', s.v]) A3 rfl rfl (by simp) ?_
  intro h4 A4 m4
  have hne : rb ≠ tb := by omega
  have B4 := m4.blk B3 hne
  have z3 := e3.size
  have z4 := m4.size
  have e4 : Ext h h4 := ((e1.trans e2).trans e3).ext m4 (fun j hj => by omega)
  have A3lt := A3.lt
  have htb : h2.size ≤ tb := g3
  rcases hcase with ⟨h0, rfl, rfl, rfl, hnl⟩ | ⟨h0, rfl, rfl, rfl, rfl⟩
  · obtain ⟨hs, a1, a2, a3, a4⟩ := sides_ok h0
    have := he3.here.nil h0
    subst this
    have hsb : h1.size ≤ s.b := hsb.resolve_left (by rw [hnl]; simp)
    have hslt := ho.here.lt hnl
    obtain ⟨N, rfl⟩ : ∃ N : Nat, outs' = N := ⟨outs'.toNat, by omega⟩
    have hNN : ((N : Int) * N).toNat = N * N := by rw [← Int.natCast_mul, Int.toNat_natCast]
    rw [hNN] at ho3
    have o4 := ho3.here.mod m4 (fun _ h => by omega)
    have hN : N ≤ 16 := by omega
    clear ho ho3 he he3 A3 e1 e2 e3
    simp
    refine wp_loop' (BackLI N s rb tb h) (fun e _ => N - argI e 8) ⟨0, _, _, _, by rfl, by omega, by simpa [backI] using o4, B4, A4, e4⟩ ?_
    clear o4 A4 B4 e4 m4 B2 B3
    rintro e h5 ⟨i, v5, v6, v9, rfl, hi, o5, B5, A5, e5⟩
    by_cases hlt : i < N
    · have w1 : IntKind.i64.wrap ((i : Int) + 1) = (i : Int) + 1 := i64_wrap (by omega)
      obtain ⟨w2, w3, p0, p1⟩ := place_wrap (ins := (N : Int)) (outs := (N : Int)) (i := (i : Int)) (k := (i : Int)) (by omega) (by omega) (by omega) (by omega) (by omega) (by omega)
      have hidx : ((i : Int) * N + i).toNat = i * N + i := by rw [← Int.natCast_mul, ← Int.natCast_add, Int.toNat_natCast]
      have hpl : i * N + i < (ints64 (backI N i)).length := by
        rw [ints64_len, backI_len]
        have : i * N + i < N * N := by
          have : (i : Int) * N + i < N * N := p1
          exact_mod_cast this
        exact this
      have hpl2 : (i : Int) * N + i < s.n := by
        have := o5.row64.len
        rw [backI_len] at this
        rw [← this]
        have := p1
        push_cast
        exact this
      obtain ⟨arr, C5, C5s, _⟩ := o5.blk hpl
      have hcell := o5.cell (ints64_get (l := backI N i) (i := i * N + i) (by simpa using hpl))
      have o6 := o5.set (v := .int .i64 1152921504606846976) hpl
      rw [ints64_set, ← backI_succ] at o6
      have B6 := B5.set_ne (b' := s.b) (o := s.o + (i * N + i)) (v := .int .i64 1152921504606846976) (by omega)
      have A6 := A5.set_ne (b' := s.b) (o := s.o + (i * N + i)) (v := .int .i64 1152921504606846976) (by omega)
      have x6 : Mod (fun j => j = s.b) h5 (hset h5 s.b (s.o + (i * N + i)) (.int .i64 1152921504606846976)) := Mod.set rfl
      simp [hlt, A5.hc, w2, w3, sem_idxa o5.ok, p0, hpl2, hidx, StoreP.open, hcell, C5.hfz, w1]
      exact ⟨⟨i + 1, _, _, _, rfl, by omega, o6, B6, A6, e5.ext x6 (fun j hj => by omega)⟩, by simp [argI]; omega⟩
    · have : i = N := by omega
      subst this
      simp [rd_blk A5]
      refine ef_store_box B5 rfl rfl (by simp) ?_
      intro h7 B7 m7
      simp
      refine resP_xn rfl B7 rfl ?_
      refine hr h7 _ (e5.ext m7 (fun j hj => by omega)) ⟨i, i, s, _, .nilIface, rfl, by rw [hs]; exact FErr.ok, fresh_own (o5.mod m7 (fun _ h => by omega)) (.inr (by omega)), .inr (by omega), .inl ⟨h0, rfl, rfl, by simp [backI, backL], hnl⟩⟩
  · obtain ⟨t, u', hv⟩ := he3.here.iface h0
    subst hv
    simp
    refine ef_store_box B4 rfl rfl (by simp) ?_
    intro h7 B7 m7
    simp
    refine resP_xn rfl B7 rfl ?_
    have m24 : Mod (fun j => j < h1.size) h2 h4 := Mod.then (e3.mono fun _ _ h => h.elim) m4 (fun i hi hS => by omega)
    have he4 := he.step m24 (fun j h => h)
    refine hr h7 _ (e4.ext m7 (fun j hj => by omega)) ⟨0, 0, Sl.nil, [], _, rfl, ?_, fun _ _ => Own.nil, .inl rfl, .inr ⟨h0, rfl, rfl, rfl, rfl⟩⟩
    exact (he4.step m7 (fun j hj => by omega)).mono z1
end
end Go.Rm
