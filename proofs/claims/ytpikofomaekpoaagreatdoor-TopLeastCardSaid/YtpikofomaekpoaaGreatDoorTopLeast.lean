/- TopLeast: for every input the law returns true, and each argument reads behind the call as it read before; the listed variables are tied to the program's text. No other condition. -/
import Derived.Test.YtpikofomaekpoaaGreatDoorFacts
import Derived.Test.YtpikofomaekpoaaGreatDoorTie
import Derived.Test.YtpikofomaekpoaaGreatDoorCards
import Derived.Test.YtpikofomaekpoaaGreatDoorInst
import Derived.Test.YtpikofomaekpoaaGreatDoorWit
import Derived.Test.YtpikofomaekpoaaGreatDoorT04
import Derived.Test.YtpikofomaekpoaaGreatDoorT18
import Derived.Test.YtpikofomaekpoaaGreatDoorT34
import Derived.Test.YtpikofomaekpoaaGreatDoorT42
import Derived.Test.YtpikofomaekpoaaGreatDoorT43
import Derived.Lay
import Derived.LaidHandle
import Derived.LaidLaws
import Derived.Shelf.Sort.Plain
import Derived.SevenTiedAt
import Derived.Stop.Joined
namespace Go.Proofs.YtpikofomaekpoaaGreatDoor
open Go.ChangeShapes Go.WideShapes Go.ChangeAt Go.RowKit Go.Rm Go.Deep

theorem own : ownKnob Tryz.prog.godebug = none := by kernel_rfl
theorem laidOut : laidOutB Tryz.prog = true := by kernel_rfl

noncomputable def netTy : Z15 Tryz.prog where
  net := 26
  verts := 22
  arcs := 23
  types := 24
  vert := 118
  arc := 86
  tab := 116
  int := 3
  i64 := 2
  costs := 39
  Zz8 := _
  vertF := _
  arcF := _
  tabF := _
  u_net := Tryz.underlying26
  u_vert := Tryz.underlying118
  u_arc := Tryz.underlying86
  u_tab := Tryz.underlying116
  u_verts := Tryz.underlying22
  u_arcs := Tryz.underlying23
  u_types := Tryz.underlying24
  u_costs := Tryz.underlying39
  u_int := Tryz.underlying3
  u_i64 := Tryz.underlying2
  c_net := by kernel_rfl
  c_vert := by kernel_rfl
  c_arc := by kernel_rfl
  c_tab := by kernel_rfl
  c_verts := by kernel_rfl
  c_arcs := by kernel_rfl
  c_types := by kernel_rfl
  c_costs := by kernel_rfl
  c_int := by kernel_rfl
  c_i64 := by kernel_rfl
  n0 := rfl
  n1 := rfl
  n2 := rfl
  v0 := rfl
  v1 := rfl
  v2 := rfl
  a0 := rfl
  a1 := rfl
  a2 := rfl
  t0 := rfl
  t1 := rfl
  t2 := rfl

theorem cells3 : Tryz.prog.cellsOf 3 = 1 := by kernel_rfl

set_option maxRecDepth 100000 in
theorem topLeast_lifted (os : Os) (started : os.Started) (H : Type) (enc : TypeId × Value → H) :
    ReturnsInHanded {} Tryz.checked os 3 .any (fun w args => (Rows.topLeastSpec.pre enc Tryz.prog Tryz.f3 [] false w args ∧ laidMetH Tryz.prog laid w) ∧ sizedMet enc Tryz.prog Tryz.f3 (OpenSpec.ofChange Rows.topLeastSpec) false w args)
      (Rows.topLeastSpec.post enc Tryz.prog Tryz.f3 false true false false) := by
  refine Z5l (C := Tryz.checked) (X := fun w _ => laidMetH Tryz.prog laid w) (fun _ _ _ hh h => h.of_heap hh) own started (by kernel_rfl) Tryz.func3
    (ChangeSpec.witness_shaped (enc := enc) (C := Tryz.checked) (os := os) (X := fun w _ => laidMetH Tryz.prog laid w) false (laidWorld os) #[.agg #[.slice none 0 0, .slice none 0 0, .slice none 0 0], .agg #[.slice none 0 0], .slice none 0 0, .slice none 0 0] 8 (laidWorld_os os) (laidWorld_shaped os) (by kernel_rfl) (by kernel_rfl) (by kernel_rfl) (laidWorld_met os _))
    ⟨rfl, fun H ds h => by rw [Tryz.params3] at h; match ds, h with | [d1, d2, d3, d4], _ => rfl⟩ laidOut (Z8o (by kernel_rfl)) (tb := 4) (by kernel_rfl) Tryz.underlying4 ?_
  intro W vs hx hA
  rw [Tryz.params3] at hA
  match vs, hA with
  | [v1, v2, v3, v4], ⟨h1, h2, h3, h4, _⟩ =>
    obtain ⟨sva, saa, sta, Na, rfl, ra⟩ := Zb7.net netTy h1
    obtain ⟨sp, Lp, rfl, rp, mp⟩ := Zb7.part h2 Tryz.underlying29 (by kernel_rfl) rfl Tryz.underlying27 (by kernel_rfl) Tryz.underlying31 Tryz.underlying3 (by kernel_rfl) cells3
    obtain ⟨sl, l, rfl, rl, ml⟩ := Zb7.actss h3 Tryz.underlying30 (by kernel_rfl) Tryz.underlying56 Tryz.underlying55 (by kernel_rfl) rfl rfl rfl rfl rfl Tryz.underlying3 Tryz.underlying2 (by kernel_rfl) (by kernel_rfl)
    obtain ⟨sw, w, rfl, rw, qw⟩ := h4.costs Tryz.underlying31 Tryz.underlying3 cells3
    exact Xdb (s := seat) (by kernel_rfl) (Z5y fns ra rp (Nat.le_trans mp (by decide)) rl (Nat.le_trans ml (by decide)) rw fun h' he => ⟨rfl, he⟩)

theorem topLeast_row : Rows.TopLeastSaid :=
  OpenClaim.holds_of_wide 3 Tryz.f3 rfl rfl rfl rfl rfl rfl rfl ⟨rfl, rfl, rfl, rfl, rfl⟩ rfl rfl rfl rfl rfl cf3 Tryz.func3 closed
    (of_decide_eq_true (by kernel_rfl)) (by unfold Func.isWrapper; first | (rw [if_pos (by decide +kernel)]; kernel_rfl) | (rw [if_neg (by decide +kernel)]; exact ⟨rfl, rfl⟩))
    (fun os started H enc _ => topLeast_lifted os started H enc)

theorem topLeast_holds : Rows.TopLeastCardSaid :=
  Claim7.holds_tied_plain_at .later [] [.data, .data, .data, .data, .handle, .pinned] true (true, "6c5e4187a8ed0a89bcd78cceb2e7e17f775873c52e63c38a334c59256cfabe2f") true
    topLeast_row (fun _ h => by cases h) cf1 (fun _ h => by cases h) topLeast_row_tie rfl ⟨rfl, rfl⟩ (by kernel_rfl) rfl
    (fun f fn hf hfn => by
      obtain rfl : f = 3 := Option.some.inj (cf3.symm.trans hf) |>.symm
      obtain rfl : fn = Tryz.f3 := (Option.some.inj (Tryz.func3.symm.trans hfn)).symm
      exact ⟨cf4, Z9h (P := Tryz.prog) (by kernel_rfl)⟩)
    cf2
end Go.Proofs.YtpikofomaekpoaaGreatDoor
