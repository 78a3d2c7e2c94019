import Derived.Test.YtmamhkolgnoefaaDoorRTurn
import Derived.Test.YtmamhkolgnoefaaDoorSNums

/- The document's tables (roundsmanref6): what each function does. -/
set_option linter.unusedSimpArgs false
set_option linter.unusedVariables false
namespace Go.Rm
section
variable {Y : Sys} {h : Heap}

theorem ef_bslice_part {K : Value → Heap → Prop} {z0 z1 p a : Value} :
    Ef.wp h K (.bslice 1 2 #[z0, z1] [0]) [.agg #[p, a]] = ∀ t : TypeId, K (.slice (some ⟨h.size, 0, none⟩) 1 1) (h.push (.cells #[p, a] t)) := by
  have e : Instr.fill (fun i => some (i * 2, 2)) (zeros #[z0, z1] (1 * 2)) ([0].zip [.agg #[p, a]]) = some #[p, a] := by
    simp [Instr.fill, zeros]
    apply Array.ext
    · simp
    · intro i h1 h2
      match i, h2 with
      | 0, _ => simp
      | 1, _ => simp
      | i + 2, h2 => exact absurd h2 (by simp)
  simp only [Ef.wp, e]

abbrev FWr (lo : Nat) (h : Heap) (w : Wr) (v : Value) : Prop := Fresh lo (fun h => WrongV h w.1 w.2 v) h
theorem FWr.ok {lo : Nat} : FWr lo h wOK (.agg #[.slice none 0 0, .int .i64 0]) := fun h' _ => ⟨Sl.nil, rfl, Sl.nil_ok, rfl, fun i x hx => by simp [wOK] at hx⟩
theorem WrongV.shape {w : Wr} {v : Value} (hw : WrongV h w.1 w.2 v) : ∃ s : Sl, v = .agg #[s.v, .int .i64 w.2] := by
  obtain ⟨s, e, _⟩ := hw
  exact ⟨s, e⟩

theorem rat_spec (HA : Y.Has F.rref6_At S_rref6_At) {p : ByteArray} {a c : Int} {R : Value → Heap → Prop} (hr : ∀ h' v, Ext h h' → FWr h.size h' ([(p, a)], c) v → R v h') :
    CallP Y F.rref6_At [.string p, .int .i64 a, .int .i64 c] h R := by
  refine .of_has HA rfl ?_
  simp [S_rref6_At, FnS.wp]
  refine ef_new_box ?_
  intro b h1 g1 B1 e1
  simp [ef_bslice_part]
  intro t
  have P2 : Blk (h1.push (.cells #[.string p, .int .i64 a] t)) h1.size #[.string p, .int .i64 a] := Blk.new
  have e2 : Ext h1 (h1.push (.cells #[.string p, .int .i64 a] t)) := Mod.push
  have B2 := B1.ext e2
  have z1 := e1.size
  have B1lt := B1.lt
  generalize h1.push (.cells #[.string p, .int .i64 a] t) = h2 at *
  refine ef_store_box B2 rfl rfl (by simp) ?_
  intro h3 B3 m3
  simp
  refine resP_x rfl B3 rfl ?_
  refine hr h3 _ ((e1.trans e2).ext m3 (fun j hj => by omega)) ?_
  have P3 := m3.blk P2 (by omega)
  intro h4 m4
  have P4 := m4.blk P3 (by omega)
  refine ⟨Sl.at h1.size 1 1, rfl, ⟨fun h => (by cases h), by simp, .inl rfl⟩, rfl, ?_⟩
  intro i x hx
  match i with
  | 0 =>
    simp at hx
    subst hx
    exact ⟨by rw [show (Sl.at h1.size 1 1).b = h1.size from rfl, P4.hc]; rfl, by rw [show (Sl.at h1.size 1 1).b = h1.size from rfl, P4.hc]; rfl⟩
  | i + 1 => simp at hx

structure RefCk (Y : Sys) : Prop where
  At : Y.Has F.rref6_At S_rref6_At
  Weight : Y.Has F.rref6_Weight S_rref6_Weight
  Check : Y.Has F.rref6_CheckTable S_rref6_CheckTable
structure RefSame (Y : Sys) : Prop where
  SameT : Y.Has F.rref6_SameTable S_rref6_SameTable
  SameC : Y.Has F.rref6_SameCosts S_rref6_SameCosts
structure RefCkS (Y : Sys) : Prop extends RefCk Y, RefSame Y where
  At2 : Y.Has F.rref6_At S_rref6_At
structure RefTab (Y : Sys) : Prop extends RefCkS Y where
  TurnAt : Y.Has F.rref6_TurnAt S_rref6_TurnAt
instance : Coe (RefCkS Y) (RefCk Y) := ⟨RefCkS.toRefCk⟩
instance : Coe (RefCkS Y) (RefSame Y) := ⟨RefCkS.toRefSame⟩
instance : Coe (RefTab Y) (RefCkS Y) := ⟨RefTab.toRefCkS⟩

end
end Go.Rm

/- The document's tables (roundsmanref6): FreeTable, BackTable, WithTable. -/
set_option linter.unusedSimpArgs false
set_option linter.unusedVariables false
namespace Go.Rm

section
variable {Y : Sys} {h : Heap}

end
end Go.Rm

/- The document's tables (roundsmanref6): BackTable, WithTable. -/
set_option linter.unusedSimpArgs false
set_option linter.unusedVariables false
namespace Go.Rm
section
variable {Y : Sys} {h : Heap}

theorem FWr.any {w : Wr} {v : Value} (hw : WrongV h w.1 w.2 v) (h0 : w.1 = []) {lo : Nat} {h' : Heap} : FWr lo h' w v := by
  obtain ⟨s, e, p⟩ := hw
  intro h'' _
  refine ⟨s, e, p.ok, p.len, fun i x hx => ?_⟩
  rw [h0] at hx; simp at hx

end
end Go.Rm
