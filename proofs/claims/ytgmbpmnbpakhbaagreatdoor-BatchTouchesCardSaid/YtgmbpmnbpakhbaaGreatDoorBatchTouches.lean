/- BatchTouches: for every input the law returns true, and each argument reads behind the call as it read before; the listed variable errors.errorType is tied to the program's text. No other condition. -/
import Derived.Test.YtgmbpmnbpakhbaaGreatDoorEsys
import Derived.Test.YtgmbpmnbpakhbaaGreatDoorTie
import Derived.Test.YtgmbpmnbpakhbaaGreatDoorCards
import Derived.Test.YtgmbpmnbpakhbaaGreatDoorRArg2
import Derived.Test.YtgmbpmnbpakhbaaGreatDoorRArg3
import Derived.Test.YtgmbpmnbpakhbaaGreatDoorRLaw19
namespace Go.Proofs.YtgmbpmnbpakhbaaGreatDoor
open Go.ChangeShapes Go.WideShapes Go.ChangeAt Go.RowKit Go.Rm Go.Deep

theorem own : ownKnob Tryz.prog.godebug = none := by kernel_rfl
theorem laidOut : laidOutB Tryz.prog = true := by kernel_rfl

noncomputable def netTy : NetTy Tryz.prog where
  net := 26
  verts := 22
  arcs := 23
  types := 24
  vert := 83
  arc := 72
  tab := 80
  int := 3
  i64 := 2
  costs := 78
  netF := _
  vertF := _
  arcF := _
  tabF := _
  u_net := Tryz.underlying26
  u_vert := Tryz.underlying83
  u_arc := Tryz.underlying72
  u_tab := Tryz.underlying80
  u_verts := Tryz.underlying22
  u_arcs := Tryz.underlying23
  u_types := Tryz.underlying24
  u_costs := Tryz.underlying78
  u_int := Tryz.underlying3
  u_i64 := Tryz.underlying2
  c_net := by kernel_rfl
  c_vert := by kernel_rfl
  c_arc := by kernel_rfl
  c_tab := by kernel_rfl
  c_verts := by kernel_rfl
  c_arcs := by kernel_rfl
  c_types := by kernel_rfl
  c_costs := by kernel_rfl
  c_int := by kernel_rfl
  c_i64 := by kernel_rfl
  n0 := rfl
  n1 := rfl
  n2 := rfl
  v0 := rfl
  v1 := rfl
  v2 := rfl
  a0 := rfl
  a1 := rfl
  a2 := rfl
  t0 := rfl
  t1 := rfl
  t2 := rfl
theorem cells3 : Tryz.prog.cellsOf 3 = 1 := by kernel_rfl
theorem batchLaw : BatchLaw seat.sys := ⟨⟨⟨⟨⟨has_rref16_most, has_rref16_Has, has_rref16_Count⟩, has_rref16_checkLevel⟩, has_rref16_CheckPart, has_rref6_At⟩, has_rlaw13_Few, has_rlaw13_May, has_rlaw15_May, has_rlaw8_Small, has_rlaw3_Few, has_rlaw3_May, ⟨has_rref6_CheckNet, has_rref6_Within, has_rref6_Coord⟩, ⟨has_rref6_At, has_rref6_Weight, has_rref6_CheckTable⟩⟩, ⟨⟨has_over_New, has_over_Over_Part, has_over_Over_Levels, has_over_Over_Cells, ⟨has_over_fresh, has_over_twin⟩, ⟨⟨⟨has_graph_Graph_From, has_graph_Graph_To, has_graph_Graph_arc, has_graph_Graph_Verts, has_graph_Graph_Arcs⟩, ⟨has_part_numbers, has_part_Count, has_rim_row⟩, has_rim_ends, has_rim_Cross⟩, ⟨⟨has_slices_Index_int_int, has_slices_Contains_int_int, has_slices_IsSorted_int_int, has_cmp_Less_int, has_cmp_isNaN_int⟩, has_part_Check, has_part_tally, has_part_nested⟩, has_gate_Of⟩, has_graph_Graph_From, has_graph_Graph_Arcs⟩, has_rlaw17_Made, ⟨has_rlaw8_Made, has_rlaw3_To, has_rlaw2_To, ⟨has_graph_New, has_graph_build, ⟨has_graph_clone, has_slices_Clone_int64_int64, has_slices_Clone_net_Vert_net_Vert, has_slices_Clone_net_Arc_net_Arc⟩, ⟨has_net_Check, has_net_fault, has_net_meet, has_net_far, has_net_vertex⟩⟩, ⟨has_turn_Check, has_turn_sides, has_turn_fault, has_cost_Weight⟩⟩, ⟨has_rlaw13_To⟩⟩, ⟨⟨⟨has_batch_Check, has_batch_lookAt, has_batch_isTurn, has_cost_Weight, has_graph_Graph_Arcs, has_graph_Graph_Net, ⟨has_graph_clone, has_slices_Clone_int64_int64, has_slices_Clone_net_Vert_net_Vert, has_slices_Clone_net_Arc_net_Arc⟩⟩, has_batch_Apply, ⟨has_graph_Graph_arc, has_graph_Graph_Set, has_graph_fault, has_cost_Weight⟩, ⟨has_graph_Graph_Bend, has_graph_fault, has_turn_With, has_slices_Clone_int64_int64⟩, ⟨⟨has_turn_Check, has_turn_sides, has_turn_fault, has_cost_Weight⟩, has_turn_At⟩⟩, ⟨has_over_New, has_over_Over_Part, has_over_Over_Levels, has_over_Over_Cells, ⟨has_over_fresh, has_over_twin⟩, ⟨⟨⟨has_graph_Graph_From, has_graph_Graph_To, has_graph_Graph_arc, has_graph_Graph_Verts, has_graph_Graph_Arcs⟩, ⟨has_part_numbers, has_part_Count, has_rim_row⟩, has_rim_ends, has_rim_Cross⟩, ⟨⟨has_slices_Index_int_int, has_slices_Contains_int_int, has_slices_IsSorted_int_int, has_cmp_Less_int, has_cmp_isNaN_int⟩, has_part_Check, has_part_tally, has_part_nested⟩, has_gate_Of⟩, has_graph_Graph_From, has_graph_Graph_Arcs⟩, has_batch_Touched, has_batch_mark, has_graph_Graph_Weight⟩, ⟨has_rref20_one, has_rref20_CheckBatch, has_rref6_There, has_rref6_Weight, has_rref6_At⟩, ⟨has_rref20_Apply, has_rref6_CopyNet⟩, ⟨⟨⟨has_rref16_most, has_rref16_Has, has_rref16_Count⟩, has_rref16_Inside, has_rref16_Members⟩, ⟨has_rref6_SameTable, has_rref6_SameCosts⟩, has_rref20_Touched⟩, ⟨has_graph_Graph_Verts, has_graph_Graph_Arcs, has_graph_Graph_From, has_graph_Graph_To, has_graph_Graph_Weight, has_graph_Graph_Net, has_graph_Graph_arc, ⟨has_graph_clone, has_slices_Clone_int64_int64, has_slices_Clone_net_Vert_net_Vert, has_slices_Clone_net_Arc_net_Arc⟩, has_rlaw3_Of, has_rlaw2_Of, has_rref6_SameNet, ⟨has_rref6_SameTable, has_rref6_SameCosts⟩, has_rlaw6_Same⟩, has_rlaw19_To, has_rlaw1_Tells, has_rlaw6_Ring, has_rlaw15_Two, has_rref20_SameRows, has_rref11_SameBools, has_rref20_How, has_rlaw19_known⟩

set_option maxRecDepth 100000 in
theorem batchTouches_lifted (os : Os) (started : os.Started) (H : Type) (enc : TypeId × Value → H) :
    ReturnsInHanded {} Tryz.checked os 4 .any (fun w args => (Rows.batchTouchesSpec.pre enc Tryz.prog Tryz.f4 [] false w args ∧ laidMetH Tryz.prog laid w) ∧ sizedMet enc Tryz.prog Tryz.f4 (OpenSpec.ofChange Rows.batchTouchesSpec) false w args)
      (Rows.batchTouchesSpec.post enc Tryz.prog Tryz.f4 false true false false) := by
  refine law_lifted_and (C := Tryz.checked) (X := fun w _ => laidMetH Tryz.prog laid w) (fun _ _ _ hh h => h.of_heap hh) own started (by kernel_rfl) Tryz.func4
    (ChangeSpec.witness_at (enc := enc) (C := Tryz.checked) (os := os) (X := fun w _ => laidMetH Tryz.prog laid w) false (laidWorld os) #[.agg #[.slice none 0 0, .slice none 0 0, .slice none 0 0], .agg #[.slice none 0 0], .slice none 0 0] 8 rfl (by kernel_rfl) (by kernel_rfl) (by kernel_rfl) (by kernel_rfl) (by kernel_rfl) (laidWorld_met os _))
    ⟨rfl, fun H ds h => by rw [Tryz.params4] at h; match ds, h with | [d1, d2, d3], _ => rfl⟩ laidOut (readable_of (by kernel_rfl)) (tb := 4) (by kernel_rfl) Tryz.underlying4 ?_
  intro W vs hx hA
  obtain ⟨_, hx⟩ := hx
  have hL := handle_of_laid hx
  rw [Tryz.params4] at hA
  match vs, hA with
  | [v1, v2, v3], ⟨h1, h2, h3, _⟩ =>
    obtain ⟨sva, saa, sta, Na, rfl, ra⟩ := ArgIs.net netTy h1
    obtain ⟨sp, Lp, rfl, rp, mp⟩ := ArgIs.part h2 Tryz.underlying47 (by kernel_rfl) rfl Tryz.underlying45 (by kernel_rfl) Tryz.underlying77 Tryz.underlying3 (by kernel_rfl) cells3
    obtain ⟨sl, l, rfl, rl⟩ := ArgIs.acts h3 Tryz.underlying27 Tryz.underlying59 (by kernel_rfl) rfl rfl rfl rfl rfl Tryz.underlying3 Tryz.underlying2 (by kernel_rfl) (by kernel_rfl)
    exact sysC_of (s := seat) (by kernel_rfl) (batchtouches_law batchLaw has_rlaw19_BatchTouches errs hL ra rp (Nat.le_trans mp (by decide)) rl fun h' he => ⟨rfl, he⟩)

theorem batchTouches_row : Rows.BatchTouchesSaid :=
  OpenClaim.holds_of_wide 4 Tryz.f4 rfl rfl rfl rfl rfl rfl rfl ⟨rfl, rfl, rfl, rfl, rfl⟩ rfl rfl rfl rfl rfl (by kernel_rfl) Tryz.func4 (by kernel_rfl)
    (of_decide_eq_true (by kernel_rfl)) (by unfold Func.isWrapper; first | (rw [if_pos (by decide +kernel)]; kernel_rfl) | (rw [if_neg (by decide +kernel)]; exact ⟨rfl, rfl⟩))
    (fun os started H enc _ => batchTouches_lifted os started H enc)

theorem batchTouches_holds : Rows.BatchTouchesCardSaid :=
  Claim7.holds_tied_plain_at .later [] [.handle] true (true, "5edbd36fe2aa8eda9a40a86a26571075151fe9f072b8af7ef3d6dfdd4f2eb6ff") true
    batchTouches_row (fun _ h => by cases h) (by kernel_rfl) (fun _ h => by cases h) batchTouches_row_tie rfl ⟨rfl, rfl⟩ (by kernel_rfl) rfl
    (fun f fn hf hfn => by
      obtain rfl : f = 4 := Option.some.inj ((show Tryz.prog.funcNamed Rows.batchTouchesRow.func = some 4 by kernel_rfl).symm.trans hf) |>.symm
      obtain rfl : fn = Tryz.f4 := (Option.some.inj (Tryz.func4.symm.trans hfn)).symm
      exact ⟨by kernel_rfl, noStand_of (P := Tryz.prog) (by kernel_rfl)⟩)
    (by kernel_rfl)
end Go.Proofs.YtgmbpmnbpakhbaaGreatDoor
