/- FileParses: for every input the law returns true, and each argument reads behind the call as it read before; the listed variable errors.errorType is tied to the program's text. No other condition. -/
import Derived.Test.YtnbciaekpbadmaaDoorEsys
import Derived.Test.YtnbciaekpbadmaaDoorTie
import Derived.Test.YtnbciaekpbadmaaDoorCards
import Derived.Test.YtnbciaekpbadmaaDoorRArg
import Derived.Test.YtnbciaekpbadmaaDoorRLaw5f
namespace Go.Proofs.YtnbciaekpbadmaaDoor
open Go.ChangeShapes Go.WideShapes Go.ChangeAt Go.RowKit Go.Rm Go.Deep

theorem own : ownKnob Tryd.prog.godebug = none := by kernel_rfl
theorem laidOut : laidOutB Tryd.prog = true := by kernel_rfl

noncomputable def netTy : NetTy Tryd.prog where
  net := 37
  verts := 33
  arcs := 34
  types := 35
  vert := 58
  arc := 60
  tab := 63
  int := 3
  i64 := 2
  costs := 61
  netF := _
  vertF := _
  arcF := _
  tabF := _
  u_net := Tryd.underlying37
  u_vert := Tryd.underlying58
  u_arc := Tryd.underlying60
  u_tab := Tryd.underlying63
  u_verts := Tryd.underlying33
  u_arcs := Tryd.underlying34
  u_types := Tryd.underlying35
  u_costs := Tryd.underlying61
  u_int := Tryd.underlying3
  u_i64 := Tryd.underlying2
  c_net := by kernel_rfl
  c_vert := by kernel_rfl
  c_arc := by kernel_rfl
  c_tab := by kernel_rfl
  c_verts := by kernel_rfl
  c_arcs := by kernel_rfl
  c_types := by kernel_rfl
  c_costs := by kernel_rfl
  c_int := by kernel_rfl
  c_i64 := by kernel_rfl
  n0 := rfl
  n1 := rfl
  n2 := rfl
  v0 := rfl
  v1 := rfl
  v2 := rfl
  a0 := rfl
  a1 := rfl
  a2 := rfl
  t0 := rfl
  t1 := rfl
  t2 := rfl
theorem cells3 : Tryd.prog.cellsOf 3 = 1 := by kernel_rfl
theorem cells5 : Tryd.prog.cellsOf 5 = 1 := by kernel_rfl
theorem fileLaw : FileLaw seat.sys := ⟨⟨⟨⟨⟨has_wire_New, has_wire_Reader_Err, has_wire_Reader_Done, has_wire_Reader_Uint, has_wire_Reader_Int, has_wire_scan, has_wire_Uint, has_wire_Int, has_wire_Sum, has_slices_Clone_byte_byte⟩, has_file_paid, has_file_table⟩, has_file_body⟩, has_file_Parse, has_file_fault, has_bytes_Equal, has_wire_Sum⟩, ⟨has_file_Encode, has_file_price, has_file_fault, has_wire_Uint, has_wire_Int, has_wire_Sum⟩, ⟨has_file_Hex, has_file_Unhex, has_file_digit, has_file_fault⟩, ⟨has_rref6_At, has_rref6_Reader_Uint, has_rref6_Reader_Int, has_rref6_Reader_cost, has_rref6_Reader_Done, has_rref6_Reader_fail, has_rref6_Reader_table⟩, ⟨has_rref6_Encode, has_rref6_price, has_rref6_At, has_rref6_Uint, has_rref6_Int, has_rref6_SumOf⟩, ⟨has_net_Check, has_net_fault, has_net_meet, has_net_far, has_net_vertex⟩, ⟨has_turn_Check, has_turn_sides, has_turn_fault, has_cost_Weight⟩, ⟨has_rref6_CheckNet, has_rref6_Within, has_rref6_Coord⟩, ⟨⟨has_rref6_At, has_rref6_Weight, has_rref6_CheckTable⟩, ⟨has_rref6_SameTable, has_rref6_SameCosts⟩, has_rref6_At⟩, has_rref6_Parse, has_rref6_SameNet, has_rlaw3_To, has_rlaw2_To, has_rlaw3_Of, has_rlaw2_Of, has_rlaw3_Few, has_rlaw3_May, has_rlaw1_Tells, has_rlaw5_known⟩

set_option maxRecDepth 100000 in
theorem fileParses_lifted (os : Os) (started : os.Started) (H : Type) (enc : TypeId × Value → H) :
    ReturnsInHanded {} Tryd.checked os 3 .any (fun w args => (Rows.fileParsesSpec.pre enc Tryd.prog Tryd.f3 [] false w args ∧ laidMetH Tryd.prog laid w) ∧ sizedMet enc Tryd.prog Tryd.f3 (OpenSpec.ofChange Rows.fileParsesSpec) false w args)
      (Rows.fileParsesSpec.post enc Tryd.prog Tryd.f3 false true false false) := by
  refine law_lifted_and (C := Tryd.checked) (X := fun w _ => laidMetH Tryd.prog laid w) (fun _ _ _ hh h => h.of_heap hh) own started (by kernel_rfl) Tryd.func3
    (ChangeSpec.witness_at (enc := enc) (C := Tryd.checked) (os := os) (X := fun w _ => laidMetH Tryd.prog laid w) false (laidWorld os) #[.slice none 0 0] 8 rfl (by kernel_rfl) (by kernel_rfl) (by kernel_rfl) (by kernel_rfl) (by kernel_rfl) (laidWorld_met os _))
    ⟨rfl, fun H ds h => by rw [Tryd.params3] at h; match ds, h with | [d1], _ => rfl⟩ laidOut (readable_of (by kernel_rfl)) (tb := 4) (by kernel_rfl) Tryd.underlying4 ?_
  intro W vs hx hA
  obtain ⟨_, hx⟩ := hx
  have hL := handle_of_laid hx
  rw [Tryd.params3] at hA
  match vs, hA with
  | [v1], ⟨h1, _⟩ =>
    obtain ⟨sb, fb, rfl, _, hsb, hfb, spb⟩ := h1.ints' Tryd.underlying22 Tryd.underlying5 cells5
    exact sysC_of (s := seat) (by kernel_rfl) (fileparses_spec fileLaw has_rlaw5_FileParses errs hL (rowB_of hsb hfb) spb fun h' he => ⟨rfl, he⟩)

theorem fileParses_row : Rows.FileParsesSaid :=
  OpenClaim.holds_of_wide 3 Tryd.f3 rfl rfl rfl rfl rfl rfl rfl ⟨rfl, rfl, rfl, rfl, rfl⟩ rfl rfl rfl rfl rfl (by kernel_rfl) Tryd.func3 (by kernel_rfl)
    (of_decide_eq_true (by kernel_rfl)) (by unfold Func.isWrapper; first | (rw [if_pos (by decide +kernel)]; kernel_rfl) | (rw [if_neg (by decide +kernel)]; exact ⟨rfl, rfl⟩))
    (fun os started H enc _ => fileParses_lifted os started H enc)

theorem fileParses_holds : Rows.FileParsesCardSaid :=
  Claim7.holds_tied_plain_at .later [] [.handle] true (true, "6d30b8d5d393782eb666b80d7757990e63d6dc3f393aaeb9a5ed3e2752d18bdd") true
    fileParses_row (fun _ h => by cases h) (by kernel_rfl) (fun _ h => by cases h) fileParses_row_tie rfl ⟨rfl, rfl⟩ (by kernel_rfl) rfl
    (fun f fn hf hfn => by
      obtain rfl : f = 3 := Option.some.inj ((show Tryd.prog.funcNamed Rows.fileParsesRow.func = some 3 by kernel_rfl).symm.trans hf) |>.symm
      obtain rfl : fn = Tryd.f3 := (Option.some.inj (Tryd.func3.symm.trans hfn)).symm
      exact ⟨by kernel_rfl, noStand_of (P := Tryd.prog) (by kernel_rfl)⟩)
    (by kernel_rfl)
end Go.Proofs.YtnbciaekpbadmaaDoor
