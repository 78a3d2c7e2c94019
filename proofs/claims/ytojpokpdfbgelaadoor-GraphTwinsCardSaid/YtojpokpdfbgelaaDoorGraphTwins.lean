/- GraphTwins: for every input the law returns true, and each argument reads behind the call as it read before; the listed variable errors.errorType is tied to the program's text. No other condition. -/
import Derived.Test.YtojpokpdfbgelaaDoorEsys
import Derived.Test.YtojpokpdfbgelaaDoorTie
import Derived.Test.YtojpokpdfbgelaaDoorCards
import Derived.Test.YtojpokpdfbgelaaDoorRArg2
import Derived.Test.YtojpokpdfbgelaaDoorRLaw6d
namespace Go.Proofs.YtojpokpdfbgelaaDoor
open Go.ChangeShapes Go.WideShapes Go.ChangeAt Go.RowKit Go.Rm Go.Deep

theorem own : ownKnob Tryd.prog.godebug = none := by kernel_rfl
theorem laidOut : laidOutB Tryd.prog = true := by kernel_rfl

noncomputable def netTy : NetTy Tryd.prog where
  net := 26
  verts := 22
  arcs := 23
  types := 24
  vert := 69
  arc := 54
  tab := 57
  int := 3
  i64 := 2
  costs := 55
  netF := _
  vertF := _
  arcF := _
  tabF := _
  u_net := Tryd.underlying26
  u_vert := Tryd.underlying69
  u_arc := Tryd.underlying54
  u_tab := Tryd.underlying57
  u_verts := Tryd.underlying22
  u_arcs := Tryd.underlying23
  u_types := Tryd.underlying24
  u_costs := Tryd.underlying55
  u_int := Tryd.underlying3
  u_i64 := Tryd.underlying2
  c_net := by kernel_rfl
  c_vert := by kernel_rfl
  c_arc := by kernel_rfl
  c_tab := by kernel_rfl
  c_verts := by kernel_rfl
  c_arcs := by kernel_rfl
  c_types := by kernel_rfl
  c_costs := by kernel_rfl
  c_int := by kernel_rfl
  c_i64 := by kernel_rfl
  n0 := rfl
  n1 := rfl
  n2 := rfl
  v0 := rfl
  v1 := rfl
  v2 := rfl
  a0 := rfl
  a1 := rfl
  a2 := rfl
  t0 := rfl
  t1 := rfl
  t2 := rfl
theorem cells3 : Tryd.prog.cellsOf 3 = 1 := by kernel_rfl
theorem grLaw : GrLaw seat.sys := ⟨⟨has_graph_Graph_Verts, has_graph_Graph_Arcs, has_graph_Graph_From, has_graph_Graph_To, has_graph_Graph_Weight, has_graph_Graph_Place, has_graph_Graph_Turn, has_graph_Graph_Ins, has_graph_Graph_Net, has_graph_Graph_vert, has_slices_Clone_int_int, ⟨has_graph_Graph_arc, has_graph_Graph_Set, has_graph_fault, has_cost_Weight⟩, ⟨has_graph_Graph_Bend, has_graph_fault, has_turn_With, has_slices_Clone_int64_int64⟩, ⟨has_graph_New, has_graph_build, ⟨has_graph_clone, has_slices_Clone_int64_int64, has_slices_Clone_net_Vert_net_Vert, has_slices_Clone_net_Arc_net_Arc⟩, ⟨has_net_Check, has_net_fault, has_net_meet, has_net_far, has_net_vertex⟩⟩, ⟨has_turn_Check, has_turn_sides, has_turn_fault, has_cost_Weight, has_turn_At⟩, ⟨has_rref6_Set, has_rref6_Bend, has_rref6_There, has_rref6_CopyNet, has_rref6_Within, has_rref6_WithTable⟩, ⟨has_rref6_At, has_rref6_Weight, has_rref6_CheckTable, has_rref6_TurnAt, has_rref6_SameTable, has_rref6_SameCosts⟩, ⟨has_rlaw3_To, has_rlaw2_To⟩, has_rlaw3_Of, has_rlaw2_Of, has_rref6_SameNet, has_rref6_SameInts, has_rlaw1_Tells, has_rlaw6_Ring, has_rlaw6_known, has_rlaw6_Same, has_rlaw6_Do⟩, ⟨has_rlaw3_May, has_rlaw3_Few, ⟨has_rref6_CheckNet, has_rref6_Within, has_rref6_Coord⟩, ⟨has_rref6_At, has_rref6_Weight, has_rref6_CheckTable, has_rref6_TurnAt, has_rref6_SameTable, has_rref6_SameCosts⟩⟩, ⟨has_rref6_There, has_rref6_Place, has_rref6_Ins, has_rref6_Outs, has_rref6_Turn⟩, has_graph_Graph_Outs, has_graph_Graph_Twin⟩

set_option maxRecDepth 100000 in
theorem graphTwins_lifted (os : Os) (started : os.Started) (H : Type) (enc : TypeId × Value → H) :
    ReturnsInHanded {} Tryd.checked os 5 .any (fun w args => (Rows.graphTwinsSpec.pre enc Tryd.prog Tryd.f5 [] false w args ∧ laidMetH Tryd.prog laid w) ∧ sizedMet enc Tryd.prog Tryd.f5 (OpenSpec.ofChange Rows.graphTwinsSpec) false w args)
      (Rows.graphTwinsSpec.post enc Tryd.prog Tryd.f5 false true false false) := by
  refine law_lifted_and (C := Tryd.checked) (X := fun w _ => laidMetH Tryd.prog laid w) (fun _ _ _ hh h => h.of_heap hh) own started (by kernel_rfl) Tryd.func5
    (ChangeSpec.witness_at (enc := enc) (C := Tryd.checked) (os := os) (X := fun w _ => laidMetH Tryd.prog laid w) false (laidWorld os) #[.agg #[.slice none 0 0, .slice none 0 0, .slice none 0 0], .slice none 0 0, .slice none 0 0] 8 rfl (by kernel_rfl) (by kernel_rfl) (by kernel_rfl) (by kernel_rfl) (by kernel_rfl) (laidWorld_met os _))
    ⟨rfl, fun H ds h => by rw [Tryd.params5] at h; match ds, h with | [d1, d2, d3], _ => rfl⟩ laidOut (readable_of (by kernel_rfl)) (tb := 4) (by kernel_rfl) Tryd.underlying4 ?_
  intro W vs hx hA
  obtain ⟨_, hx⟩ := hx
  have hL := handle_of_laid hx
  rw [Tryd.params5] at hA
  match vs, hA with
  | [v1, v2, v3], ⟨h1, h2, h3, _⟩ =>
    obtain ⟨sva, saa, sta, Na, rfl, ra⟩ := ArgIs.net netTy h1
    obtain ⟨sl, l, rfl, rl⟩ := ArgIs.acts h2 Tryd.underlying27 Tryd.underlying44 (by kernel_rfl) rfl rfl rfl rfl rfl Tryd.underlying3 Tryd.underlying2 (by kernel_rfl) (by kernel_rfl)
    obtain ⟨sm, m, rfl, rm⟩ := ArgIs.acts h3 Tryd.underlying27 Tryd.underlying44 (by kernel_rfl) rfl rfl rfl rfl rfl Tryd.underlying3 Tryd.underlying2 (by kernel_rfl) (by kernel_rfl)
    exact sysC_of (s := seat) (by kernel_rfl) (graphtwins_spec grLaw has_rlaw6_GraphTwins errs hL ra rl rm fun h' he => ⟨rfl, he⟩)

theorem graphTwins_row : Rows.GraphTwinsSaid :=
  OpenClaim.holds_of_wide 5 Tryd.f5 rfl rfl rfl rfl rfl rfl rfl ⟨rfl, rfl, rfl, rfl, rfl⟩ rfl rfl rfl rfl rfl (by kernel_rfl) Tryd.func5 (by kernel_rfl)
    (of_decide_eq_true (by kernel_rfl)) (by unfold Func.isWrapper; first | (rw [if_pos (by decide +kernel)]; kernel_rfl) | (rw [if_neg (by decide +kernel)]; exact ⟨rfl, rfl⟩))
    (fun os started H enc _ => graphTwins_lifted os started H enc)

theorem graphTwins_holds : Rows.GraphTwinsCardSaid :=
  Claim7.holds_tied_plain_at .later [] [.handle] true (true, "4cdee80ff24b8d9d427b73fe3fb8f099f71c5b08f0fbd6dd5d05b8cc0e528104") true
    graphTwins_row (fun _ h => by cases h) (by kernel_rfl) (fun _ h => by cases h) graphTwins_row_tie rfl ⟨rfl, rfl⟩ (by kernel_rfl) rfl
    (fun f fn hf hfn => by
      obtain rfl : f = 5 := Option.some.inj ((show Tryd.prog.funcNamed Rows.graphTwinsRow.func = some 5 by kernel_rfl).symm.trans hf) |>.symm
      obtain rfl : fn = Tryd.f5 := (Option.some.inj (Tryd.func5.symm.trans hfn)).symm
      exact ⟨by kernel_rfl, noStand_of (P := Tryd.prog) (by kernel_rfl)⟩)
    (by kernel_rfl)
end Go.Proofs.YtojpokpdfbgelaaDoor
