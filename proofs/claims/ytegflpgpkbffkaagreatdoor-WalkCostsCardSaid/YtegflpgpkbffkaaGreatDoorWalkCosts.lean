/- WalkCosts: for every input the law returns true, and each argument reads behind the call as it read before; the listed variable errors.errorType is tied to the program's text. No other condition. -/
import Derived.Test.YtegflpgpkbffkaaGreatDoorEsys
import Derived.Test.YtegflpgpkbffkaaGreatDoorTie
import Derived.Test.YtegflpgpkbffkaaGreatDoorCards
import Derived.Test.YtegflpgpkbffkaaGreatDoorRArg2
import Derived.Test.YtegflpgpkbffkaaGreatDoorRLaw8f
namespace Go.Proofs.YtegflpgpkbffkaaGreatDoor
open Go.ChangeShapes Go.WideShapes Go.ChangeAt Go.RowKit Go.Rm Go.Deep

theorem own : ownKnob Tryz.prog.godebug = none := by kernel_rfl
theorem laidOut : laidOutB Tryz.prog = true := by kernel_rfl

noncomputable def netTy : NetTy Tryz.prog where
  net := 26
  verts := 22
  arcs := 23
  types := 24
  vert := 80
  arc := 76
  tab := 78
  int := 3
  i64 := 2
  costs := 41
  netF := _
  vertF := _
  arcF := _
  tabF := _
  u_net := Tryz.underlying26
  u_vert := Tryz.underlying80
  u_arc := Tryz.underlying76
  u_tab := Tryz.underlying78
  u_verts := Tryz.underlying22
  u_arcs := Tryz.underlying23
  u_types := Tryz.underlying24
  u_costs := Tryz.underlying41
  u_int := Tryz.underlying3
  u_i64 := Tryz.underlying2
  c_net := by kernel_rfl
  c_vert := by kernel_rfl
  c_arc := by kernel_rfl
  c_tab := by kernel_rfl
  c_verts := by kernel_rfl
  c_arcs := by kernel_rfl
  c_types := by kernel_rfl
  c_costs := by kernel_rfl
  c_int := by kernel_rfl
  c_i64 := by kernel_rfl
  n0 := rfl
  n1 := rfl
  n2 := rfl
  v0 := rfl
  v1 := rfl
  v2 := rfl
  a0 := rfl
  a1 := rfl
  a2 := rfl
  t0 := rfl
  t1 := rfl
  t2 := rfl
theorem cells3 : Tryz.prog.cellsOf 3 = 1 := by kernel_rfl
theorem walkDo : WalkDo seat.sys := ⟨⟨⟨⟨⟨⟨has_heap_New, has_heap_Heap_Put, has_heap_Heap_Pop, has_heap_Heap_key, has_heap_Heap_up, has_heap_Heap_down, has_heap_Heap_ahead, has_heap_Heap_swap⟩, ⟨has_graph_Graph_arc, has_graph_Graph_vert, has_graph_Graph_Arcs, has_graph_Graph_From, has_graph_Graph_To, has_graph_Graph_Weight, has_graph_Graph_Ins, has_graph_Graph_Outs, has_graph_Graph_Turn, has_slices_Clone_int_int, ⟨⟨has_turn_Check, has_turn_sides, has_turn_fault, has_cost_Weight⟩, has_turn_At⟩⟩, ⟨has_cost_Held, has_cost_Add, has_cost_Sum⟩, has_walk_none, has_walk_spread⟩, has_walk_From, has_walk_Path, has_walk_Reach, has_walk_Cost, has_walk_To, has_slices_Reverse_int_int⟩, ⟨⟨⟨has_heap_New, has_heap_Heap_Put, has_heap_Heap_Pop, has_heap_Heap_key, has_heap_Heap_up, has_heap_Heap_down, has_heap_Heap_ahead, has_heap_Heap_swap⟩, ⟨has_graph_Graph_arc, has_graph_Graph_vert, has_graph_Graph_Arcs, has_graph_Graph_From, has_graph_Graph_To, has_graph_Graph_Weight, has_graph_Graph_Ins, has_graph_Graph_Outs, has_graph_Graph_Turn, has_slices_Clone_int_int, ⟨⟨has_turn_Check, has_turn_sides, has_turn_fault, has_cost_Weight⟩, has_turn_At⟩⟩, ⟨has_cost_Held, has_cost_Add, has_cost_Sum⟩, has_walk_none, has_walk_spread⟩, has_cost_Add, has_walk_Inside_1, has_walk_Inside_2, has_walk_Inside⟩, ⟨has_graph_New, has_graph_build, ⟨has_graph_clone, has_slices_Clone_int64_int64, has_slices_Clone_net_Vert_net_Vert, has_slices_Clone_net_Arc_net_Arc⟩, ⟨has_net_Check, has_net_fault, has_net_meet, has_net_far, has_net_vertex⟩⟩, ⟨has_rlaw3_To, has_rlaw2_To⟩, has_rlaw6_Ring, has_rref6_SameCosts, has_rref6_SameInts, has_rlaw8_Made, has_rlaw8_known⟩, ⟨has_rlaw3_May, has_rlaw3_Few, ⟨has_rref6_CheckNet, has_rref6_Within, has_rref6_Coord⟩, ⟨⟨has_rref6_At, has_rref6_Weight, has_rref6_CheckTable⟩, has_rref6_TurnAt⟩⟩, has_rlaw8_Small, has_rlaw8_known⟩, ⟨has_rlaw6_Do, ⟨has_graph_Graph_Bend, has_graph_fault, has_turn_With, has_slices_Clone_int64_int64⟩, ⟨has_graph_Graph_arc, has_graph_Graph_Set, has_graph_fault, has_cost_Weight⟩, ⟨has_rref6_Set, has_rref6_Bend, has_rref6_There, has_rref6_CopyNet, has_rref6_Within, has_rref6_WithTable⟩, ⟨⟨has_rref6_At, has_rref6_Weight, has_rref6_CheckTable⟩, has_rref6_TurnAt⟩, ⟨⟨has_turn_Check, has_turn_sides, has_turn_fault, has_cost_Weight⟩, has_turn_At⟩, has_rlaw1_Tells⟩, ⟨has_rref6_There, has_rref6_Place, has_rref6_Ins, has_rref6_Outs, has_rref6_Turn⟩, ⟨has_rref6_Walk, has_rref6_Cost⟩, ⟨has_rref6_Held, has_rref6_Add⟩⟩

set_option maxRecDepth 100000 in
theorem walkCosts_lifted (os : Os) (started : os.Started) (H : Type) (enc : TypeId × Value → H) :
    ReturnsInHanded {} Tryz.checked os 3 .any (fun w args => (Rows.walkCostsSpec.pre enc Tryz.prog Tryz.f3 [] false w args ∧ laidMetH Tryz.prog laid w) ∧ sizedMet enc Tryz.prog Tryz.f3 (OpenSpec.ofChange Rows.walkCostsSpec) false w args)
      (Rows.walkCostsSpec.post enc Tryz.prog Tryz.f3 false true false false) := by
  refine law_lifted_and (C := Tryz.checked) (X := fun w _ => laidMetH Tryz.prog laid w) (fun _ _ _ hh h => h.of_heap hh) own started (by kernel_rfl) Tryz.func3
    (ChangeSpec.witness_at (enc := enc) (C := Tryz.checked) (os := os) (X := fun w _ => laidMetH Tryz.prog laid w) false (laidWorld os) #[.agg #[.slice none 0 0, .slice none 0 0, .slice none 0 0], .slice none 0 0, .slice none 0 0] 8 rfl (by kernel_rfl) (by kernel_rfl) (by kernel_rfl) (by kernel_rfl) (by kernel_rfl) (laidWorld_met os _))
    ⟨rfl, fun H ds h => by rw [Tryz.params3] at h; match ds, h with | [d1, d2, d3], _ => rfl⟩ laidOut (readable_of (by kernel_rfl)) (tb := 4) (by kernel_rfl) Tryz.underlying4 ?_
  intro W vs hx hA
  obtain ⟨_, hx⟩ := hx
  have hL := handle_of_laid hx
  rw [Tryz.params3] at hA
  match vs, hA with
  | [v1, v2, v3], ⟨h1, h2, h3, _⟩ =>
    obtain ⟨sva, saa, sta, Na, rfl, ra⟩ := ArgIs.net netTy h1
    obtain ⟨sl, l, rfl, rl⟩ := ArgIs.acts h2 Tryz.underlying27 Tryz.underlying36 (by kernel_rfl) rfl rfl rfl rfl rfl Tryz.underlying3 Tryz.underlying2 (by kernel_rfl) (by kernel_rfl)
    obtain ⟨sp, p, rfl, rp, qp⟩ := h3.costs Tryz.underlying28 Tryz.underlying3 cells3
    exact sysC_of (s := seat) (by kernel_rfl) (walkcosts_law walkDo has_rlaw8_WalkCosts errs hL ra rl rp fun h' he => ⟨rfl, he⟩)

theorem walkCosts_row : Rows.WalkCostsSaid :=
  OpenClaim.holds_of_wide 3 Tryz.f3 rfl rfl rfl rfl rfl rfl rfl ⟨rfl, rfl, rfl, rfl, rfl⟩ rfl rfl rfl rfl rfl (by kernel_rfl) Tryz.func3 (by kernel_rfl)
    (of_decide_eq_true (by kernel_rfl)) (by unfold Func.isWrapper; first | (rw [if_pos (by decide +kernel)]; kernel_rfl) | (rw [if_neg (by decide +kernel)]; exact ⟨rfl, rfl⟩))
    (fun os started H enc _ => walkCosts_lifted os started H enc)

theorem walkCosts_holds : Rows.WalkCostsCardSaid :=
  Claim7.holds_tied_plain_at .later [] [.handle] true (true, "8b8746358c4d76373e5b9d04e1c13e28efb796dbeaf40e5033a3fed760db0614") true
    walkCosts_row (fun _ h => by cases h) (by kernel_rfl) (fun _ h => by cases h) walkCosts_row_tie rfl ⟨rfl, rfl⟩ (by kernel_rfl) rfl
    (fun f fn hf hfn => by
      obtain rfl : f = 3 := Option.some.inj ((show Tryz.prog.funcNamed Rows.walkCostsRow.func = some 3 by kernel_rfl).symm.trans hf) |>.symm
      obtain rfl : fn = Tryz.f3 := (Option.some.inj (Tryz.func3.symm.trans hfn)).symm
      exact ⟨by kernel_rfl, noStand_of (P := Tryz.prog) (by kernel_rfl)⟩)
    (by kernel_rfl)
end Go.Proofs.YtegflpgpkbffkaaGreatDoor
