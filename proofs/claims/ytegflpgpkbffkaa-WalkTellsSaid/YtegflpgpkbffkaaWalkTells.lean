/- WalkTells: for every input the law returns true, and each argument reads behind the call as it read before. No other condition. -/
import Derived.Test.YtegflpgpkbffkaaSeat
import Derived.Test.YtegflpgpkbffkaaRArg
import Derived.Test.YtegflpgpkbffkaaRLaw8g
namespace Go.Proofs.Ytegflpgpkbffkaa
open Go.ChangeShapes Go.WideShapes Go.ChangeAt Go.RowKit Go.Rm Go.Deep

theorem own : ownKnob Try.prog.godebug = none := by kernel_rfl
theorem laidOut : laidOutB Try.prog = true := by kernel_rfl

noncomputable def netTy : NetTy Try.prog where
  net := 26
  verts := 22
  arcs := 23
  types := 24
  vert := 78
  arc := 53
  tab := 76
  int := 3
  i64 := 2
  costs := 36
  netF := _
  vertF := _
  arcF := _
  tabF := _
  u_net := Try.underlying26
  u_vert := Try.underlying78
  u_arc := Try.underlying53
  u_tab := Try.underlying76
  u_verts := Try.underlying22
  u_arcs := Try.underlying23
  u_types := Try.underlying24
  u_costs := Try.underlying36
  u_int := Try.underlying3
  u_i64 := Try.underlying2
  c_net := by kernel_rfl
  c_vert := by kernel_rfl
  c_arc := by kernel_rfl
  c_tab := by kernel_rfl
  c_verts := by kernel_rfl
  c_arcs := by kernel_rfl
  c_types := by kernel_rfl
  c_costs := by kernel_rfl
  c_int := by kernel_rfl
  c_i64 := by kernel_rfl
  n0 := rfl
  n1 := rfl
  n2 := rfl
  v0 := rfl
  v1 := rfl
  v2 := rfl
  a0 := rfl
  a1 := rfl
  a2 := rfl
  t0 := rfl
  t1 := rfl
  t2 := rfl
theorem walkLaw : WalkLaw seat.sys := ⟨⟨⟨⟨⟨has_heap_New, has_heap_Heap_Put, has_heap_Heap_Pop, has_heap_Heap_key, has_heap_Heap_up, has_heap_Heap_down, has_heap_Heap_ahead, has_heap_Heap_swap⟩, ⟨has_graph_Graph_arc, has_graph_Graph_vert, has_graph_Graph_Arcs, has_graph_Graph_From, has_graph_Graph_To, has_graph_Graph_Weight, has_graph_Graph_Ins, has_graph_Graph_Outs, has_graph_Graph_Turn, has_slices_Clone_int_int, ⟨⟨has_turn_Check, has_turn_sides, has_turn_fault, has_cost_Weight⟩, has_turn_At⟩⟩, ⟨has_cost_Held, has_cost_Add, has_cost_Sum⟩, has_walk_none, has_walk_spread⟩, has_walk_From, has_walk_Path, has_walk_Reach, has_walk_Cost, has_walk_To, has_slices_Reverse_int_int⟩, ⟨⟨⟨has_heap_New, has_heap_Heap_Put, has_heap_Heap_Pop, has_heap_Heap_key, has_heap_Heap_up, has_heap_Heap_down, has_heap_Heap_ahead, has_heap_Heap_swap⟩, ⟨has_graph_Graph_arc, has_graph_Graph_vert, has_graph_Graph_Arcs, has_graph_Graph_From, has_graph_Graph_To, has_graph_Graph_Weight, has_graph_Graph_Ins, has_graph_Graph_Outs, has_graph_Graph_Turn, has_slices_Clone_int_int, ⟨⟨has_turn_Check, has_turn_sides, has_turn_fault, has_cost_Weight⟩, has_turn_At⟩⟩, ⟨has_cost_Held, has_cost_Add, has_cost_Sum⟩, has_walk_none, has_walk_spread⟩, has_cost_Add, has_walk_Inside_1, has_walk_Inside_2, has_walk_Inside⟩, ⟨has_graph_New, has_graph_build, ⟨has_graph_clone, has_slices_Clone_int64_int64, has_slices_Clone_net_Vert_net_Vert, has_slices_Clone_net_Arc_net_Arc⟩, ⟨has_net_Check, has_net_fault, has_net_meet, has_net_far, has_net_vertex⟩⟩, ⟨has_rlaw3_To, has_rlaw2_To⟩, has_rlaw6_Ring, has_rref6_SameCosts, has_rref6_SameInts, has_rlaw8_Made, has_rlaw8_known⟩, ⟨has_rlaw3_May, has_rlaw3_Few, ⟨has_rref6_CheckNet, has_rref6_Within, has_rref6_Coord⟩, ⟨⟨has_rref6_At, has_rref6_Weight, has_rref6_CheckTable⟩, has_rref6_TurnAt⟩⟩, has_rlaw8_Small, has_rlaw8_known⟩
theorem walkRoads : WalkRoads seat.sys := ⟨⟨has_rref11_Of, has_rref6_Place, ⟨⟨has_rref6_At, has_rref6_Weight, has_rref6_CheckTable⟩, has_rref6_TurnAt⟩⟩, ⟨has_rref11_never, has_rref6_There, ⟨has_rref6_Held, has_rref6_Add⟩⟩, has_rref11_Roads_From, has_rref11_Roads_To⟩

set_option maxRecDepth 100000 in
theorem walkTells_lifted (os : Os) (started : os.Started) (H : Type) (enc : TypeId × Value → H) :
    ReturnsInHanded {} Try.checked os 3 .any (Rows.walkTellsSpec.pre6 enc Try.prog Try.f3 Rows.walkTellsRow.domain false) (Rows.walkTellsSpec.post enc Try.prog Try.f3 false true false false) := by
  refine law_lifted (C := Try.checked) own started (by kernel_rfl) Try.func3
    (ChangeSpec.witness6 (enc := enc) (C := Try.checked) false ⟨#[], #[.agg #[.slice none 0 0, .slice none 0 0, .slice none 0 0], .int .i64 0], []⟩ 8 (by kernel_rfl) (by kernel_rfl) (by kernel_rfl) (by kernel_rfl))
    ⟨rfl, fun H ds h => by rw [Try.params3] at h; match ds, h with | [d1, d2], _ => rfl⟩ laidOut (readable_of (by kernel_rfl)) (tb := 4) (by kernel_rfl) Try.underlying4 ?_
  intro W vs hA
  rw [Try.params3] at hA
  match vs, hA with
  | [v1, v2], ⟨h1, h2, _⟩ =>
    obtain ⟨sva, saa, sta, Na, rfl, ra⟩ := ArgIs.net netTy h1
    obtain ⟨x, rfl, x1, x2⟩ := h2.int Try.underlying3
    exact sysC_of (s := seat) (by kernel_rfl) (walktells_law walkLaw walkRoads has_rlaw8_WalkTells ra fun h' he => ⟨rfl, he⟩)

theorem walkTells_holds : Rows.WalkTellsSaid :=
  OpenClaim.holds_of_wide 3 Try.f3 rfl rfl rfl rfl rfl rfl rfl ⟨rfl, rfl, rfl, rfl, rfl⟩ rfl rfl rfl rfl rfl (by kernel_rfl) Try.func3 (by kernel_rfl)
    (of_decide_eq_true (by kernel_rfl)) (by unfold Func.isWrapper; first | (rw [if_pos (by decide +kernel)]; kernel_rfl) | (rw [if_neg (by decide +kernel)]; exact ⟨rfl, rfl⟩))
    (fun os started H enc _ => walkTells_lifted os started H enc)
end Go.Proofs.Ytegflpgpkbffkaa
