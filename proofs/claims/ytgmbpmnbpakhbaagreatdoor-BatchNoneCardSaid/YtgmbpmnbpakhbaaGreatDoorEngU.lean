import Derived.Test.YtgmbpmnbpakhbaaGreatDoorEngB
import Derived.Test.YtgmbpmnbpakhbaaGreatDoorEngT

/- Errors: from the kit's walks of errors.Is and errors.As to conditions of a seat's system. -/
set_option linter.unusedSimpArgs false
set_option linter.unusedVariables false
namespace Go.Rm

theorem CallP.of_sysC {s : Seat} {j f : Nat} (hj : s.fns.lookup j = some f) {xs : List Value} {h : Heap} {R : Value → Heap → Prop} (hc : sysC s.P f xs h R) : CallP s.sys j xs h R := by
  have hid : s.sys.fid j = f := by simp [Seat.sys, hj]
  unfold CallP
  rw [hid]
  exact hc

theorem hc_hset {h : Heap} {b o : Nat} {v old : Value} (hb : hc h b o = some old) : hc (hset h b o v) b o = some v := by
  unfold hc at hb
  split at hb
  · rename_i c t f hh
    have ho : o < c.size := (Array.getElem?_eq_some_iff.1 hb).1
    unfold hc hset
    rw [Array.getElem?_modify, hh]
    simp [ho]
  · cases hb

theorem Mod.push' {S : Nat → Prop} {a b : Heap} (x : Obj) (h : Mod S a b) : Mod S a (b.push x) := h.trans Mod.push

theorem alloc4_set {w w' : World} {x1 x2 x3 x4 : Obj} {t : Nat} {v old : Value} (hc0 : hc w.heap t 0 = some old) (e : w' = ((((w.alloc x1).alloc x2).alloc x3).alloc x4).setCell ⟨t, 0, none⟩ v) :
    Mod (fun j => j = t) w.heap w'.heap ∧ hc w'.heap t 0 = some v ∧ Same w w' := by
  have hh : w'.heap = hset ((((w.heap.push x1).push x2).push x3).push x4) t 0 v := by
    rw [e, setCell_hset]
    rfl
  have m4 : Mod (fun _ => False) w.heap ((((w.heap.push x1).push x2).push x3).push x4) := ((((Mod.refl _).push' x1).push' x2).push' x3).push' x4
  refine ⟨?_, ?_, ?_⟩
  · rw [hh]
    exact (m4.mono fun _ _ h => h.elim).trans (Mod.set rfl)
  · rw [hh]
    exact hc_hset (m4.hc hc0 (fun h => h))
  · rw [e]; exact ⟨rfl, rfl, rfl⟩

theorem alloc3_ext {w w' : World} {x1 x2 x3 : Obj} (e : w' = ((w.alloc x1).alloc x2).alloc x3) : Ext w.heap w'.heap ∧ Same w w' := by
  rw [e]
  exact ⟨(((Mod.refl _).push' x1).push' x2).push' x3, rfl, rfl, rfl⟩

theorem is_hit_of {s : Seat} {PF EN IS : Nat} (hI : s.fns.lookup F.errors_Is = some IS) (hP : s.tps.lookup Ty.api_Fault = some PF) (hE : s.tps.lookup Ty.api_Errno = some EN)
    (i1 : ∀ (b0 : Nat) (c : Int) (w : World), w.cell? ⟨b0, 2, none⟩ = some (.iface EN (.int .i64 c)) →
      Calls s.P IS #[.iface PF (.pointer (some ⟨b0, 0, none⟩)), .iface EN (.int .i64 c)] w fun e w' => e = .returned (.bool true) ∧ w' = w)
    (i2 : ∀ (b0 b1 : Nat) (c : Int) (w : World), w.cell? ⟨b0, 2, none⟩ = some (.iface PF (.pointer (some ⟨b1, 0, none⟩))) → w.cell? ⟨b1, 2, none⟩ = some (.iface EN (.int .i64 c)) →
      Calls s.P IS #[.iface PF (.pointer (some ⟨b0, 0, none⟩)), .iface EN (.int .i64 c)] w fun e w' => e = .returned (.bool true) ∧ w' = w)
    (i3 : ∀ (b0 b1 b2 : Nat) (c : Int) (w : World), w.cell? ⟨b0, 2, none⟩ = some (.iface PF (.pointer (some ⟨b1, 0, none⟩))) → w.cell? ⟨b1, 2, none⟩ = some (.iface PF (.pointer (some ⟨b2, 0, none⟩))) → w.cell? ⟨b2, 2, none⟩ = some (.iface EN (.int .i64 c)) →
      Calls s.P IS #[.iface PF (.pointer (some ⟨b0, 0, none⟩)), .iface EN (.int .i64 c)] w fun e w' => e = .returned (.bool true) ∧ w' = w)
    (i4 : ∀ (b0 b1 b2 b3 : Nat) (c : Int) (w : World), w.cell? ⟨b0, 2, none⟩ = some (.iface PF (.pointer (some ⟨b1, 0, none⟩))) → w.cell? ⟨b1, 2, none⟩ = some (.iface PF (.pointer (some ⟨b2, 0, none⟩))) → w.cell? ⟨b2, 2, none⟩ = some (.iface PF (.pointer (some ⟨b3, 0, none⟩))) → w.cell? ⟨b3, 2, none⟩ = some (.iface EN (.int .i64 c)) →
      Calls s.P IS #[.iface PF (.pointer (some ⟨b0, 0, none⟩)), .iface EN (.int .i64 c)] w fun e w' => e = .returned (.bool true) ∧ w' = w)
    {h : Heap} {ps : List (ByteArray × Int)} {c : Int} {v : Value} {R : Value → Heap → Prop} (he : ErrAt s.sys h ps c v) (hl0 : 0 < ps.length) (hl : ps.length ≤ 4) (hr : ∀ h', Ext h h' → R (.bool true) h') :
    CallP s.sys F.errors_Is [v, .iface (s.sys.tid Ty.api_Errno) (.int .i64 c)] h R := by
  have tP : s.sys.tid Ty.api_Fault = PF := by simp [Seat.sys, hP]
  have tE : s.sys.tid Ty.api_Errno = EN := by simp [Seat.sys, hE]
  have fin : ∀ {v : Value} {w : World}, w.heap = h → (Calls s.P IS #[v, .iface EN (.int .i64 c)] w fun e w' => e = .returned (.bool true) ∧ w' = w) → Calls s.P IS #[v, .iface EN (.int .i64 c)] w (Rr R w) := by
    intro v w hw hc
    refine hc.mono fun e w' ⟨h1, h2⟩ => ⟨_, h1, ?_, ?_⟩
    · rw [h2, hw]; exact hr h (Mod.refl h)
    · rw [h2]; exact Same.refl w
  refine CallP.of_sysC hI ?_
  rw [tE]
  intro w hw
  have ce : ∀ {b o : Nat} {x : Value}, hc h b o = some x → w.cell? ⟨b, o, none⟩ = some x := fun hx => by rw [cell_hc, hw]; exact hx
  match ps, hl0, hl, he with
  | [(_, _)], _, _, he =>
    obtain ⟨b0, u, rfl, _, _, h0, e1⟩ := he
    simp only [ErrAt] at e1
    subst e1
    rw [tE] at h0
    rw [tP]
    exact fin hw (i1 b0 c w (ce h0))
  | [(_, _), (_, _)], _, _, he =>
    obtain ⟨b0, u, rfl, _, _, h0, b1, u1, rfl, _, _, h1, e1⟩ := he
    simp only [ErrAt] at e1
    subst e1
    rw [tE] at h1
    rw [tP] at h0 ⊢
    exact fin hw (i2 b0 b1 c w (ce h0) (ce h1))
  | [(_, _), (_, _), (_, _)], _, _, he =>
    obtain ⟨b0, u, rfl, _, _, h0, b1, u1, rfl, _, _, h1, b2, u2, rfl, _, _, h2, e1⟩ := he
    simp only [ErrAt] at e1
    subst e1
    rw [tE] at h2
    rw [tP] at h0 h1 ⊢
    exact fin hw (i3 b0 b1 b2 c w (ce h0) (ce h1) (ce h2))
  | [(_, _), (_, _), (_, _), (_, _)], _, _, he =>
    obtain ⟨b0, u, rfl, _, _, h0, b1, u1, rfl, _, _, h1, b2, u2, rfl, _, _, h2, b3, u3, rfl, _, _, h3, e1⟩ := he
    simp only [ErrAt] at e1
    subst e1
    rw [tE] at h3
    rw [tP] at h0 h1 h2 ⊢
    exact fin hw (i4 b0 b1 b2 b3 c w (ce h0) (ce h1) (ce h2) (ce h3))
end Go.Rm
