import Derived.Test.YtgmbpmnbpakhbaaGreatDoorRGate8

/- The laws of gates: the known net. -/
set_option linter.unusedSimpArgs false
set_option linter.unusedVariables false
namespace Go.Rm

def twoL : List (List Int) := [[0, 0, 1], [0, 0, 0]]
theorem twoL_ok : PartOK 3 twoL := partOK_iff.1 (by decide +kernel)
theorem may15_facts {N : NetD} {L : List (List Int)} (h : may15 N L = true) : fewD N = true ∧ NetOK N ∧ PartOK N.vs.length L ∧ N.vs.length ≤ 24 ∧ N.as.length ≤ 90 := by
  simp [may15, may13, smallD] at h
  obtain ⟨⟨⟨h1, h2⟩, h3⟩, ⟨h4, h5⟩, h6⟩ := h
  have h7 := may_ok h3
  exact ⟨h7.1, h7.2, partOK_iff.1 h6, h1, h2⟩

section
variable {Y : Sys} {h h' : Heap}

theorem two15_spec (HT : Y.Has F.rlaw15_Two S_rlaw15_Two) {R : Value → Heap → Prop} (hr : ∀ h' s, Ext h h' → RowL h' s twoL → s.n = 2 → R (ptV s) h') : CallP Y F.rlaw15_Two [] h R := by
  refine .of_has HT rfl ?_
  simp [S_rlaw15_Two, FnS.wp]
  refine ef_new_box ?_
  intro B h1 g1 B1 e1
  simp
  refine ef_bslice_all rfl rfl rfl ?_ (by omega)
  intro b2 h2 g2 B2 e2 o2
  simp
  refine ef_bslice_all rfl rfl rfl ?_ (by omega)
  intro b3 h3 g3 B3 e3 o3
  simp
  refine ef_bslice_all rfl rfl rfl ?_ (by omega)
  intro b4 h4 g4 B4 e4 o4
  simp at o2 o3 o4
  have hb : ∀ g, IOp.sem Y g (.build #[.slice none 0 0] [(0, 1)] [0]) [.slice (some ⟨b4, 0, none⟩) 2 2] = some (.agg #[.slice (some ⟨b4, 0, none⟩) 2 2]) := fun g => by simp [IOp.sem, Instr.fill]
  simp [hb]
  have x4 := ((e1.trans e2).trans e3).trans e4
  refine ef_store_box ((((B1.ext e2).ext e3).ext e4)) rfl rfl (by simp) ?_
  intro h5 B5 m5
  simp
  refine resP_x rfl B5 rfl ?_
  have z1 := e1.size
  have z2 := e2.size
  have z3 := e3.size
  have lB := B1.lt
  have := hr h5 (Sl.at b4 2 2) (Mod.ext x4 m5 (fun j hj => by omega)) ?_ rfl
  · exact this
  · have o25 : Own h5 1 (Sl.at b2 3 3) (ints64 [0, 0, 1]) := (((o2.ext' e3).ext' e4).mod m5 (fun _ => by simp; omega))
    have o35 : Own h5 1 (Sl.at b3 3 3) (ints64 [0, 0, 0]) := ((o3.ext' e4).mod m5 (fun _ => by simp; omega))
    refine Own.rowL (P := [([0, 0, 1], Sl.at b2 3 3), ([0, 0, 0], Sl.at b3 3 3)]) (o4.mod m5 (fun _ => by simp; omega)) rfl (fun p hp => ?_)
    simp only [List.mem_cons, List.not_mem_nil, or_false] at hp
    rcases hp with rfl | rfl
    · exact o25.row64
    · exact o35.row64

theorem gates_at {s : Sl} {N : NetD} {L : List (List Int)} (g : GatesH h s N L) {i : Nat} (hi : i < s.n) : ∃ u : Sl, (∀ h', Ext h h' → hc h' s.b (s.o + i) = some u.v) ∧ CellsH h u (gateN L i) (gateD N L i) := by
  obtain ⟨u, a, b⟩ := g.val i (by rw [g.len]; exact hi)
  exact ⟨u, fun g e => e.hc a (fun h => h), b⟩
theorem cells_at {u : Sl} {n : Nat} {D : Bool → Nat → List Int} (g : CellsH h u n D) {c : Nat} (hc' : c < n) : ∃ a b : Sl, (∀ h', Ext h h' → hc h' u.b (u.o + c * 2) = some a.v ∧ hc h' u.b (u.o + c * 2 + 1) = some b.v ∧ rd h' u.b (u.o + c * 2) 2 = some [a.v, b.v]) ∧ Row64 h a (D false c) ∧ Row64 h b (D true c) := by
  obtain ⟨a, a1, a2⟩ := g.val false c hc'
  obtain ⟨b, b1, b2⟩ := g.val true c hc'
  simp [b2n] at a1 b1
  refine ⟨a, b, fun h' e => ?_, a2, b2⟩
  have q1 := e.hc a1 (fun h => h)
  have q2 := e.hc b1 (fun h => h)
  refine ⟨q1, q2, rd_of (l := [a.v, b.v]) (fun j v hj => ?_)⟩
  match j with
  | 0 => simp at hj; subst hj; exact q1
  | 1 => simp at hj; subst hj; exact q2
  | j + 2 => simp at hj

end
end Go.Rm

/- The laws of gates: GateTells, GatePlace. -/
set_option linter.unusedSimpArgs false
set_option linter.unusedVariables false
namespace Go.Rm
section
variable {Y : Sys} {h h' : Heap}

end
end Go.Rm

/- The laws of gates: GatePlace. -/
set_option linter.unusedSimpArgs false
set_option linter.unusedVariables false
namespace Go.Rm
section
variable {Y : Sys} {h h' : Heap}

end
end Go.Rm
