/- GateTurned: for every input the law returns true, and each argument reads behind the call as it read before. No other condition. -/
import Derived.Test.YtmfhceopnilhfaaSeat
import Derived.Test.YtmfhceopnilhfaaRArg3
import Derived.Test.YtmfhceopnilhfaaRLaw16e
namespace Go.Proofs.Ytmfhceopnilhfaa
open Go.ChangeShapes Go.WideShapes Go.ChangeAt Go.RowKit Go.Rm Go.Deep

theorem own : ownKnob Try.prog.godebug = none := by kernel_rfl
theorem laidOut : laidOutB Try.prog = true := by kernel_rfl

noncomputable def netTy : NetTy Try.prog where
  net := 26
  verts := 22
  arcs := 23
  types := 24
  vert := 90
  arc := 58
  tab := 61
  int := 3
  i64 := 2
  costs := 59
  netF := _
  vertF := _
  arcF := _
  tabF := _
  u_net := Try.underlying26
  u_vert := Try.underlying90
  u_arc := Try.underlying58
  u_tab := Try.underlying61
  u_verts := Try.underlying22
  u_arcs := Try.underlying23
  u_types := Try.underlying24
  u_costs := Try.underlying59
  u_int := Try.underlying3
  u_i64 := Try.underlying2
  c_net := by kernel_rfl
  c_vert := by kernel_rfl
  c_arc := by kernel_rfl
  c_tab := by kernel_rfl
  c_verts := by kernel_rfl
  c_arcs := by kernel_rfl
  c_types := by kernel_rfl
  c_costs := by kernel_rfl
  c_int := by kernel_rfl
  c_i64 := by kernel_rfl
  n0 := rfl
  n1 := rfl
  n2 := rfl
  v0 := rfl
  v1 := rfl
  v2 := rfl
  a0 := rfl
  a1 := rfl
  a2 := rfl
  t0 := rfl
  t1 := rfl
  t2 := rfl
theorem cells3 : Try.prog.cellsOf 3 = 1 := by kernel_rfl
theorem cells54 : Try.prog.cellsOf 54 = 1 := by kernel_rfl
theorem gateLaw : GateLaw seat.sys := ⟨⟨⟨⟨⟨has_rref16_most, has_rref16_Has, has_rref16_Count⟩, has_rref16_checkLevel⟩, has_rref16_CheckPart, has_rref6_At⟩, has_rlaw13_Few, has_rlaw13_May, has_rlaw15_May, has_rlaw8_Small, has_rlaw3_Few, has_rlaw3_May, ⟨has_rref6_CheckNet, has_rref6_Within, has_rref6_Coord⟩, ⟨has_rref6_At, has_rref6_Weight, has_rref6_CheckTable⟩⟩, ⟨has_rlaw8_Made, has_rlaw3_To, has_rlaw2_To, ⟨has_graph_New, has_graph_build, ⟨has_graph_clone, has_slices_Clone_int64_int64, has_slices_Clone_net_Vert_net_Vert, has_slices_Clone_net_Arc_net_Arc⟩, ⟨has_net_Check, has_net_fault, has_net_meet, has_net_far, has_net_vertex⟩⟩, ⟨has_turn_Check, has_turn_sides, has_turn_fault, has_cost_Weight⟩⟩, ⟨has_rlaw13_To⟩, ⟨⟨⟨has_graph_Graph_From, has_graph_Graph_To, has_graph_Graph_arc, has_graph_Graph_Verts, has_graph_Graph_Arcs⟩, ⟨has_part_numbers, has_part_Count, has_rim_row⟩, has_rim_ends, has_rim_Cross⟩, ⟨⟨has_slices_Index_int_int, has_slices_Contains_int_int, has_slices_IsSorted_int_int, has_cmp_Less_int, has_cmp_isNaN_int⟩, has_part_Check, has_part_tally, has_part_nested⟩, has_gate_Of⟩, ⟨⟨⟨has_graph_Graph_From, has_graph_Graph_To, has_graph_Graph_arc, has_graph_Graph_Verts, has_graph_Graph_Arcs⟩, ⟨has_part_numbers, has_part_Count, has_rim_row⟩, has_rim_ends, has_rim_Cross⟩, has_gate_ends, has_gate_Enters, has_gate_Leaves⟩, ⟨⟨⟨has_rref16_most, has_rref16_Has, has_rref16_Count⟩, has_rref16_Cross, has_rref16_Enters, has_rref16_Leaves, has_rref6_Place⟩, has_rref16_Gates⟩, ⟨⟨has_slices_Index_int_int, has_slices_Contains_int_int, has_slices_IsSorted_int_int, has_cmp_Less_int, has_cmp_isNaN_int⟩, has_slices_BinarySearch_int_int, has_slices_isNaN_int, has_gate_Place⟩, has_rlaw16_Is, has_rlaw16_known, has_rlaw6_Ring, has_rlaw15_Two, has_rref6_SameInts⟩

set_option maxRecDepth 100000 in
theorem gateTurned_lifted (os : Os) (started : os.Started) (H : Type) (enc : TypeId × Value → H) :
    ReturnsInHanded {} Try.checked os 6 .any (Rows.gateTurnedSpec.pre6 enc Try.prog Try.f6 Rows.gateTurnedRow.domain false) (Rows.gateTurnedSpec.post enc Try.prog Try.f6 false true false false) := by
  refine law_lifted (C := Try.checked) own started (by kernel_rfl) Try.func6
    (ChangeSpec.witness6 (enc := enc) (C := Try.checked) false ⟨#[], #[.agg #[.slice none 0 0, .slice none 0 0, .slice none 0 0], .agg #[.slice none 0 0]], []⟩ 8 (by kernel_rfl) (by kernel_rfl) (by kernel_rfl) (by kernel_rfl))
    ⟨rfl, fun H ds h => by rw [Try.params6] at h; match ds, h with | [d1, d2], _ => rfl⟩ laidOut (readable_of (by kernel_rfl)) (tb := 4) (by kernel_rfl) Try.underlying4 ?_
  intro W vs hA
  rw [Try.params6] at hA
  match vs, hA with
  | [v1, v2], ⟨h1, h2, _⟩ =>
    obtain ⟨sva, saa, sta, Na, rfl, ra⟩ := ArgIs.net netTy h1
    obtain ⟨sp, Lp, rfl, rp, mp⟩ := ArgIs.part h2 Try.underlying29 (by kernel_rfl) rfl Try.underlying27 (by kernel_rfl) Try.underlying45 Try.underlying3 (by kernel_rfl) cells3
    exact sysC_of (s := seat) (by kernel_rfl) (gateturned_spec gateLaw has_rlaw16_GateTurned has_rref6_CopyNet ra rp (Nat.le_trans mp (by decide)) fun h' he => ⟨rfl, he⟩)

theorem gateTurned_holds : Rows.GateTurnedSaid :=
  OpenClaim.holds_of_wide 6 Try.f6 rfl rfl rfl rfl rfl rfl rfl ⟨rfl, rfl, rfl, rfl, rfl⟩ rfl rfl rfl rfl rfl (by kernel_rfl) Try.func6 (by kernel_rfl)
    (of_decide_eq_true (by kernel_rfl)) (by unfold Func.isWrapper; first | (rw [if_pos (by decide +kernel)]; kernel_rfl) | (rw [if_neg (by decide +kernel)]; exact ⟨rfl, rfl⟩))
    (fun os started H enc _ => gateTurned_lifted os started H enc)
end Go.Proofs.Ytmfhceopnilhfaa
