/- TopEquations: for every input the law returns true, and each argument reads behind the call as it read before; the listed variables are tied to the program's text. No other condition. -/
import Derived.Test.YtmpamfkkaakbfaaGreatDoorFacts
import Derived.Test.YtmpamfkkaakbfaaGreatDoorTie
import Derived.Test.YtmpamfkkaakbfaaGreatDoorCards
import Derived.Test.YtmpamfkkaakbfaaGreatDoorInst
import Derived.Test.YtmpamfkkaakbfaaGreatDoorWit
import Derived.Test.YtmpamfkkaakbfaaGreatDoorT04
import Derived.Test.YtmpamfkkaakbfaaGreatDoorT19
import Derived.Test.YtmpamfkkaakbfaaGreatDoorT35
import Derived.Test.YtmpamfkkaakbfaaGreatDoorT42
import Derived.Test.YtmpamfkkaakbfaaGreatDoorT43
import Derived.Lay
import Derived.LaidHandle
import Derived.LaidLaws
import Derived.Shelf.Sort.Plain
import Derived.SevenTiedAt
import Derived.Stop.Joined
namespace Go.Proofs.YtmpamfkkaakbfaaGreatDoor
open Go.ChangeShapes Go.WideShapes Go.ChangeAt Go.RowKit Go.Rm Go.Deep

theorem own : ownKnob Tryz.prog.godebug = none := by kernel_rfl
theorem laidOut : laidOutB Tryz.prog = true := by kernel_rfl

noncomputable def netTy : Z0g Tryz.prog where
  net := 26
  verts := 22
  arcs := 23
  types := 24
  vert := 104
  arc := 48
  tab := 102
  int := 3
  i64 := 2
  costs := 37
  Zyf := _
  vertF := _
  arcF := _
  tabF := _
  u_net := Tryz.underlying26
  u_vert := Tryz.underlying104
  u_arc := Tryz.underlying48
  u_tab := Tryz.underlying102
  u_verts := Tryz.underlying22
  u_arcs := Tryz.underlying23
  u_types := Tryz.underlying24
  u_costs := Tryz.underlying37
  u_int := Tryz.underlying3
  u_i64 := Tryz.underlying2
  c_net := by kernel_rfl
  c_vert := by kernel_rfl
  c_arc := by kernel_rfl
  c_tab := by kernel_rfl
  c_verts := by kernel_rfl
  c_arcs := by kernel_rfl
  c_types := by kernel_rfl
  c_costs := by kernel_rfl
  c_int := by kernel_rfl
  c_i64 := by kernel_rfl
  n0 := rfl
  n1 := rfl
  n2 := rfl
  v0 := rfl
  v1 := rfl
  v2 := rfl
  a0 := rfl
  a1 := rfl
  a2 := rfl
  t0 := rfl
  t1 := rfl
  t2 := rfl

theorem cells3 : Tryz.prog.cellsOf 3 = 1 := by kernel_rfl

set_option maxRecDepth 100000 in
theorem topEquations_lifted (os : Os) (started : os.Started) (H : Type) (enc : TypeId × Value → H) :
    ReturnsInHanded {} Tryz.checked os 3 .any (fun w args => (Rows.topEquationsSpec.pre enc Tryz.prog Tryz.f3 [] false w args ∧ laidMetH Tryz.prog laid w) ∧ sizedMet enc Tryz.prog Tryz.f3 (OpenSpec.ofChange Rows.topEquationsSpec) false w args)
      (Rows.topEquationsSpec.post enc Tryz.prog Tryz.f3 false true false false) := by
  refine Z3u (C := Tryz.checked) (X := fun w _ => laidMetH Tryz.prog laid w) (fun _ _ _ hh h => h.of_heap hh) own started (by kernel_rfl) Tryz.func3
    (ChangeSpec.witness_shaped (enc := enc) (C := Tryz.checked) (os := os) (X := fun w _ => laidMetH Tryz.prog laid w) false (laidWorld os) #[.agg #[.slice none 0 0, .slice none 0 0, .slice none 0 0], .agg #[.slice none 0 0], .slice none 0 0, .int .u16 0] 8 (laidWorld_os os) (laidWorld_shaped os) (by kernel_rfl) (by kernel_rfl) (by kernel_rfl) (laidWorld_met os _))
    ⟨rfl, fun H ds h => by rw [Tryz.params3] at h; match ds, h with | [d1, d2, d3, d4], _ => rfl⟩ laidOut (Z6t (by kernel_rfl)) (tb := 4) (by kernel_rfl) Tryz.underlying4 ?_
  intro W vs hx hA
  rw [Tryz.params3] at hA
  match vs, hA with
  | [v1, v2, v3, v4], ⟨h1, h2, h3, h4, _⟩ =>
    obtain ⟨sva, saa, sta, Na, rfl, ra⟩ := Zcn.net netTy h1
    obtain ⟨sp, Lp, rfl, rp, mp⟩ := Zcn.part h2 Tryz.underlying29 (by kernel_rfl) rfl Tryz.underlying27 (by kernel_rfl) Tryz.underlying55 Tryz.underlying3 (by kernel_rfl) cells3
    obtain ⟨sl, l, rfl, rl, ml⟩ := Zcn.actss h3 Tryz.underlying30 (by kernel_rfl) Tryz.underlying54 Tryz.underlying53 (by kernel_rfl) rfl rfl rfl rfl rfl Tryz.underlying3 Tryz.underlying2 (by kernel_rfl) (by kernel_rfl)
    obtain ⟨x, rfl, x1, x2⟩ := h4.int Tryz.underlying31
    simp [IntKind.min, IntKind.max, IntKind.signed, IntKind.bits] at x1 x2
    exact Xbg (s := seat) (by kernel_rfl) (Z9b fns ra rp (Nat.le_trans mp (by decide)) rl (Nat.le_trans ml (by decide)) ⟨x1, x2⟩ fun h' he => ⟨rfl, he⟩)

theorem topEquations_row : Rows.TopEquationsSaid :=
  OpenClaim.holds_of_wide 3 Tryz.f3 rfl rfl rfl rfl rfl rfl rfl ⟨rfl, rfl, rfl, rfl, rfl⟩ rfl rfl rfl rfl rfl cf3 Tryz.func3 closed
    (of_decide_eq_true (by kernel_rfl)) (by unfold Func.isWrapper; first | (rw [if_pos (by decide +kernel)]; kernel_rfl) | (rw [if_neg (by decide +kernel)]; exact ⟨rfl, rfl⟩))
    (fun os started H enc _ => topEquations_lifted os started H enc)

theorem topEquations_holds : Rows.TopEquationsCardSaid :=
  Claim7.holds_tied_plain_at .later [] [.data, .data, .data, .data, .handle, .pinned] true (true, "e2168b32d0501d38e08a449184e6bc2795997f75a525fcf1bc637071749dfb6a") true
    topEquations_row (fun _ h => by cases h) cf1 (fun _ h => by cases h) topEquations_row_tie rfl ⟨rfl, rfl⟩ (by kernel_rfl) rfl
    (fun f fn hf hfn => by
      obtain rfl : f = 3 := Option.some.inj (cf3.symm.trans hf) |>.symm
      obtain rfl : fn = Tryz.f3 := (Option.some.inj (Tryz.func3.symm.trans hfn)).symm
      exact ⟨cf4, Z7l (P := Tryz.prog) (by kernel_rfl)⟩)
    cf2
end Go.Proofs.YtmpamfkkaakbfaaGreatDoor
