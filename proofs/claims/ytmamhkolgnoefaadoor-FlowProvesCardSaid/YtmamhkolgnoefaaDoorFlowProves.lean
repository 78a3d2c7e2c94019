/- FlowProves: for every input the law returns true, and each argument reads behind the call as it read before; the listed variable errors.errorType is tied to the program's text. No other condition. -/
import Derived.Test.YtmamhkolgnoefaaDoorEsys
import Derived.Test.YtmamhkolgnoefaaDoorTie
import Derived.Test.YtmamhkolgnoefaaDoorCards
import Derived.Test.YtmamhkolgnoefaaDoorRArg4
import Derived.Test.YtmamhkolgnoefaaDoorRLaw9
namespace Go.Proofs.YtmamhkolgnoefaaDoor
open Go.ChangeShapes Go.WideShapes Go.ChangeAt Go.RowKit Go.Rm Go.Deep

theorem own : ownKnob Tryd.prog.godebug = none := by kernel_rfl
theorem laidOut : laidOutB Tryd.prog = true := by kernel_rfl
theorem cells3 : Tryd.prog.cellsOf 3 = 1 := by kernel_rfl
theorem cells4 : Tryd.prog.cellsOf 4 = 1 := by kernel_rfl
theorem flowLaw : FlowLaw seat.sys := ⟨⟨⟨⟨has_flow_check, has_flow_check_1, has_flow_fault⟩, ⟨⟨has_flow_work_advance, has_flow_work_push⟩, ⟨has_flow_depths, has_flow_sides, has_flow_links⟩, has_flow_work_grow⟩, has_flow_Max⟩, ⟨⟨has_flow_check, has_flow_check_1, has_flow_fault⟩, ⟨has_flow_depths, has_flow_sides, has_flow_links⟩, ⟨has_flow_rest, has_flow_value⟩, has_slices_Equal_bool_bool, has_flow_Proves⟩, has_rlaw9_copies, has_rref11_SameBools, has_rref6_At, has_rlaw1_Tells, has_rlaw9_known⟩, ⟨has_rref11_CheckFlow, has_rref6_At, has_rref6_Place, has_rref11_sides, has_rref11_reach, has_rref11_room, has_rref11_Proves⟩, has_rref11_Cross, has_rref11_marked⟩

set_option maxRecDepth 100000 in
theorem flowProves_lifted (os : Os) (started : os.Started) (H : Type) (enc : TypeId × Value → H) :
    ReturnsInHanded {} Tryd.checked os 3 .any (fun w args => (Rows.flowProvesSpec.pre enc Tryd.prog Tryd.f3 [] false w args ∧ laidMetH Tryd.prog laid w) ∧ sizedMet enc Tryd.prog Tryd.f3 (OpenSpec.ofChange Rows.flowProvesSpec) false w args)
      (Rows.flowProvesSpec.post enc Tryd.prog Tryd.f3 false true false false) := by
  refine law_lifted_and (C := Tryd.checked) (X := fun w _ => laidMetH Tryd.prog laid w) (fun _ _ _ hh h => h.of_heap hh) own started (by kernel_rfl) Tryd.func3
    (ChangeSpec.witness_at (enc := enc) (C := Tryd.checked) (os := os) (X := fun w _ => laidMetH Tryd.prog laid w) false (laidWorld os) #[.int .i64 0, .slice none 0 0, .slice none 0 0, .slice none 0 0, .agg #[.int .i64 0, .slice none 0 0, .slice none 0 0, .slice none 0 0]] 8 rfl (by kernel_rfl) (by kernel_rfl) (by kernel_rfl) (by kernel_rfl) (by kernel_rfl) (laidWorld_met os _))
    ⟨rfl, fun H ds h => by rw [Tryd.params3] at h; match ds, h with | [d1, d2, d3, d4, d5], _ => rfl⟩ laidOut (readable_of (by kernel_rfl)) (tb := 4) (by kernel_rfl) Tryd.underlying4 ?_
  intro W vs hx hA
  obtain ⟨_, hx⟩ := hx
  have hL := handle_of_laid hx
  rw [Tryd.params3] at hA
  match vs, hA with
  | [v1, v2, v3, v4, v5], ⟨h1, h2, h3, h4, h5, _⟩ =>
    obtain ⟨n, rfl, n1, n2⟩ := h1.int Tryd.underlying3
    obtain ⟨se, e, rfl, re⟩ := ArgIs.pairs h2 Tryd.underlying22 Tryd.underlying43 Tryd.underlying3 (by kernel_rfl) cells3
    obtain ⟨sp, p, rfl, rp, qp⟩ := h3.costs Tryd.underlying23 Tryd.underlying3 cells3
    obtain ⟨st, t, rfl, rt, qt⟩ := h4.costs Tryd.underlying23 Tryd.underlying3 cells3
    obtain ⟨val, sf, sn, sr, fl, near, far, rfl, rf, rn, rr⟩ := ArgIs.res h5 Tryd.underlying26 (by kernel_rfl) rfl rfl rfl rfl Tryd.underlying3 cells3 Tryd.underlying23 (by kernel_rfl) Tryd.underlying24 (by kernel_rfl) Tryd.underlying4 cells4
    exact sysC_of (s := seat) (by kernel_rfl) (flowproves_law flowLaw has_rlaw9_To has_rlaw9_FlowProves errs hL re rp rt rf rn rr fun h' he => ⟨rfl, he⟩)

theorem flowProves_row : Rows.FlowProvesSaid :=
  OpenClaim.holds_of_wide 3 Tryd.f3 rfl rfl rfl rfl rfl rfl rfl ⟨rfl, rfl, rfl, rfl, rfl⟩ rfl rfl rfl rfl rfl (by kernel_rfl) Tryd.func3 (by kernel_rfl)
    (of_decide_eq_true (by kernel_rfl)) (by unfold Func.isWrapper; first | (rw [if_pos (by decide +kernel)]; kernel_rfl) | (rw [if_neg (by decide +kernel)]; exact ⟨rfl, rfl⟩))
    (fun os started H enc _ => flowProves_lifted os started H enc)

theorem flowProves_holds : Rows.FlowProvesCardSaid :=
  Claim7.holds_tied_plain_at .later [] [.handle] true (true, "6c6971676ddac85cb608a267c5c6fc87d5017f5f1b7b86897629fedf05a45212") true
    flowProves_row (fun _ h => by cases h) (by kernel_rfl) (fun _ h => by cases h) flowProves_row_tie rfl ⟨rfl, rfl⟩ (by kernel_rfl) rfl
    (fun f fn hf hfn => by
      obtain rfl : f = 3 := Option.some.inj ((show Tryd.prog.funcNamed Rows.flowProvesRow.func = some 3 by kernel_rfl).symm.trans hf) |>.symm
      obtain rfl : fn = Tryd.f3 := (Option.some.inj (Tryd.func3.symm.trans hfn)).symm
      exact ⟨by kernel_rfl, noStand_of (P := Tryd.prog) (by kernel_rfl)⟩)
    (by kernel_rfl)
end Go.Proofs.YtmamhkolgnoefaaDoor
