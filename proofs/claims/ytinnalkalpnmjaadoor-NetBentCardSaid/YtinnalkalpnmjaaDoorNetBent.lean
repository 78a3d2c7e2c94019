/- NetBent: for every input the law returns true, and each argument reads behind the call as it read before; the listed variable errors.errorType is tied to the program's text. No other condition. -/
import Derived.Test.YtinnalkalpnmjaaDoorEsys
import Derived.Test.YtinnalkalpnmjaaDoorTie
import Derived.Test.YtinnalkalpnmjaaDoorCards
import Derived.Test.YtinnalkalpnmjaaDoorRArg
import Derived.Test.YtinnalkalpnmjaaDoorRLaw3g
namespace Go.Proofs.YtinnalkalpnmjaaDoor
open Go.ChangeShapes Go.WideShapes Go.ChangeAt Go.RowKit Go.Rm Go.Deep

theorem own : ownKnob Tryd.prog.godebug = none := by kernel_rfl
theorem laidOut : laidOutB Tryd.prog = true := by kernel_rfl

noncomputable def netTy : NetTy Tryd.prog where
  net := 26
  verts := 22
  arcs := 23
  types := 24
  vert := 62
  arc := 70
  tab := 60
  int := 3
  i64 := 2
  costs := 56
  netF := _
  vertF := _
  arcF := _
  tabF := _
  u_net := Tryd.underlying26
  u_vert := Tryd.underlying62
  u_arc := Tryd.underlying70
  u_tab := Tryd.underlying60
  u_verts := Tryd.underlying22
  u_arcs := Tryd.underlying23
  u_types := Tryd.underlying24
  u_costs := Tryd.underlying56
  u_int := Tryd.underlying3
  u_i64 := Tryd.underlying2
  c_net := by kernel_rfl
  c_vert := by kernel_rfl
  c_arc := by kernel_rfl
  c_tab := by kernel_rfl
  c_verts := by kernel_rfl
  c_arcs := by kernel_rfl
  c_types := by kernel_rfl
  c_costs := by kernel_rfl
  c_int := by kernel_rfl
  c_i64 := by kernel_rfl
  n0 := rfl
  n1 := rfl
  n2 := rfl
  v0 := rfl
  v1 := rfl
  v2 := rfl
  a0 := rfl
  a1 := rfl
  a2 := rfl
  t0 := rfl
  t1 := rfl
  t2 := rfl
theorem cells3 : Tryd.prog.cellsOf 3 = 1 := by kernel_rfl
theorem netLaw : NetLaw seat.sys := ⟨⟨has_net_Check, has_net_fault, has_net_meet, has_net_far, has_net_vertex⟩, ⟨has_net_arc, has_net_vertex, has_net_Ins, has_net_Outs, has_net_bend, has_net_Turn, has_net_places, has_net_over, has_net_Walk, has_net_Cost⟩, ⟨has_net_Same, has_slices_Equal_net_Vert_net_Vert, has_slices_Equal_net_Arc_net_Arc, has_slices_EqualFunc_turn_Table_turn_Table_turn_Table_turn_Table⟩, ⟨has_turn_Check, has_turn_sides, has_turn_fault, has_cost_Weight, has_turn_At, has_turn_Same, has_slices_Equal_int64_int64⟩, ⟨has_cost_Held, has_cost_Add, has_cost_Sum⟩, ⟨has_rref6_CheckNet, has_rref6_Within, has_rref6_Coord⟩, ⟨has_rref6_There, has_rref6_Place, has_rref6_Ins, has_rref6_Outs, has_rref6_Turn, has_rref6_Walk, has_rref6_Cost⟩, ⟨has_rref6_At, has_rref6_Weight, has_rref6_CheckTable, has_rref6_TurnAt, has_rref6_SameTable, has_rref6_SameCosts⟩, ⟨has_rref6_Held, has_rref6_Add⟩, has_rref6_SameNet, has_rref6_SameInts, has_rlaw3_To, has_rlaw2_To, has_rlaw3_Few, has_rlaw3_May, has_rlaw3_ring, has_rlaw3_known, has_rlaw1_Tells⟩

set_option maxRecDepth 100000 in
theorem netBent_lifted (os : Os) (started : os.Started) (H : Type) (enc : TypeId × Value → H) :
    ReturnsInHanded {} Tryd.checked os 8 .any (fun w args => (Rows.netBentSpec.pre enc Tryd.prog Tryd.f8 [] false w args ∧ laidMetH Tryd.prog laid w) ∧ sizedMet enc Tryd.prog Tryd.f8 (OpenSpec.ofChange Rows.netBentSpec) false w args)
      (Rows.netBentSpec.post enc Tryd.prog Tryd.f8 false true false false) := by
  refine law_lifted_and (C := Tryd.checked) (X := fun w _ => laidMetH Tryd.prog laid w) (fun _ _ _ hh h => h.of_heap hh) own started (by kernel_rfl) Tryd.func8
    (ChangeSpec.witness_at (enc := enc) (C := Tryd.checked) (os := os) (X := fun w _ => laidMetH Tryd.prog laid w) false (laidWorld os) #[.agg #[.slice none 0 0, .slice none 0 0, .slice none 0 0], .int .u8 0, .int .u16 0, .int .u16 0] 8 rfl (by kernel_rfl) (by kernel_rfl) (by kernel_rfl) (by kernel_rfl) (by kernel_rfl) (laidWorld_met os _))
    ⟨rfl, fun H ds h => by rw [Tryd.params8] at h; match ds, h with | [d1, d2, d3, d4], _ => rfl⟩ laidOut (readable_of (by kernel_rfl)) (tb := 4) (by kernel_rfl) Tryd.underlying4 ?_
  intro W vs hx hA
  obtain ⟨_, hx⟩ := hx
  have hL := handle_of_laid hx
  rw [Tryd.params8] at hA
  match vs, hA with
  | [v1, v2, v3, v4], ⟨h1, h2, h3, h4, _⟩ =>
    obtain ⟨sva, saa, sta, Na, rfl, ra⟩ := ArgIs.net netTy h1
    obtain ⟨w', rfl, w1, w2⟩ := h2.int Tryd.underlying5
    obtain ⟨w, rfl⟩ : ∃ n : Nat, w' = n := ⟨w'.toNat, by simp [IntKind.min, IntKind.signed] at w1; omega⟩
    simp [IntKind.max, IntKind.signed, IntKind.bits] at w2
    obtain ⟨x', rfl, x1, x2⟩ := h3.int Tryd.underlying66
    obtain ⟨x, rfl⟩ : ∃ n : Nat, x' = n := ⟨x'.toNat, by simp [IntKind.min, IntKind.signed] at x1; omega⟩
    simp [IntKind.max, IntKind.signed, IntKind.bits] at x2
    obtain ⟨y', rfl, y1, y2⟩ := h4.int Tryd.underlying66
    obtain ⟨y, rfl⟩ : ∃ n : Nat, y' = n := ⟨y'.toNat, by simp [IntKind.min, IntKind.signed] at y1; omega⟩
    simp [IntKind.max, IntKind.signed, IntKind.bits] at y2
    exact sysC_of (s := seat) (by kernel_rfl) (netbent_spec netLaw has_rlaw3_NetBent has_rref6_CopyNet has_rref6_At errs hL ra (by omega) (by omega) (by omega) fun h' he => ⟨rfl, he⟩)

theorem netBent_row : Rows.NetBentSaid :=
  OpenClaim.holds_of_wide 8 Tryd.f8 rfl rfl rfl rfl rfl rfl rfl ⟨rfl, rfl, rfl, rfl, rfl⟩ rfl rfl rfl rfl rfl (by kernel_rfl) Tryd.func8 (by kernel_rfl)
    (of_decide_eq_true (by kernel_rfl)) (by unfold Func.isWrapper; first | (rw [if_pos (by decide +kernel)]; kernel_rfl) | (rw [if_neg (by decide +kernel)]; exact ⟨rfl, rfl⟩))
    (fun os started H enc _ => netBent_lifted os started H enc)

theorem netBent_holds : Rows.NetBentCardSaid :=
  Claim7.holds_tied_plain_at .later [] [.handle] true (true, "d87e97abe2eaefb05629f4763044e039601e9c9e9c1d0a6b4b13bec7b6218380") true
    netBent_row (fun _ h => by cases h) (by kernel_rfl) (fun _ h => by cases h) netBent_row_tie rfl ⟨rfl, rfl⟩ (by kernel_rfl) rfl
    (fun f fn hf hfn => by
      obtain rfl : f = 8 := Option.some.inj ((show Tryd.prog.funcNamed Rows.netBentRow.func = some 8 by kernel_rfl).symm.trans hf) |>.symm
      obtain rfl : fn = Tryd.f8 := (Option.some.inj (Tryd.func8.symm.trans hfn)).symm
      exact ⟨by kernel_rfl, noStand_of (P := Tryd.prog) (by kernel_rfl)⟩)
    (by kernel_rfl)
end Go.Proofs.YtinnalkalpnmjaaDoor
