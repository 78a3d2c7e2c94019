/- WireSums: for every input the law returns true, and each argument reads behind the call as it read before; the listed variable errors.errorType is tied to the program's text. No other condition. -/
import Derived.Test.YtghpbaebbljppaaDoorEsys
import Derived.Test.YtghpbaebbljppaaDoorEngO
import Derived.Test.YtghpbaebbljppaaDoorTie
import Derived.Test.YtghpbaebbljppaaDoorCards
import Derived.Test.YtghpbaebbljppaaDoorRLaw4e
namespace Go.Proofs.YtghpbaebbljppaaDoor
open Go.ChangeShapes Go.WideShapes Go.ChangeAt Go.RowKit Go.Rm Go.Deep

theorem own : ownKnob Tryd.prog.godebug = none := by kernel_rfl
theorem laidOut : laidOutB Tryd.prog = true := by kernel_rfl
theorem cellsU8 : Tryd.prog.cellsOf 5 = 1 := by kernel_rfl
theorem cellsI64 : Tryd.prog.cellsOf 2 = 1 := by kernel_rfl
theorem cellsU64 : Tryd.prog.cellsOf 28 = 1 := by kernel_rfl
theorem wireFns : WireFns seat.sys := ⟨has_wire_New, has_wire_Reader_At, has_wire_Reader_Err, has_wire_Reader_Done, has_wire_Reader_Bytes, has_wire_Reader_Uint, has_wire_Reader_Int, has_wire_scan, has_wire_Uint, has_wire_Int, has_wire_Sum, has_slices_Clone_byte_byte⟩
theorem refWire : RefWire seat.sys := ⟨has_rref6_At, has_rref6_Uint, has_rref6_Int, has_rref6_SumOf⟩

set_option maxRecDepth 100000 in
theorem wireSums_lifted (os : Os) (started : os.Started) (H : Type) (enc : TypeId × Value → H) :
    ReturnsInHanded {} Tryd.checked os 4 .any (fun w args => (Rows.wireSumsSpec.pre enc Tryd.prog Tryd.f4 [] false w args ∧ laidMetH Tryd.prog laid w) ∧ sizedMet enc Tryd.prog Tryd.f4 (OpenSpec.ofChange Rows.wireSumsSpec) false w args)
      (Rows.wireSumsSpec.post enc Tryd.prog Tryd.f4 false true false false) := by
  refine law_lifted_and (C := Tryd.checked) (X := fun w _ => laidMetH Tryd.prog laid w) (fun _ _ _ hh h => h.of_heap hh) own started (by kernel_rfl) Tryd.func4
    (ChangeSpec.witness_at (enc := enc) (C := Tryd.checked) (os := os) (X := fun w _ => laidMetH Tryd.prog laid w) false (laidWorld os) #[.slice none 0 0, .int .u16 0, .int .u8 0] 8 rfl (by kernel_rfl) (by kernel_rfl) (by kernel_rfl) (by kernel_rfl) (by kernel_rfl) (laidWorld_met os _))
    ⟨rfl, fun H ds h => by rw [Tryd.params4] at h; match ds, h with | [d1, d2, d3], _ => rfl⟩ laidOut (readable_of (by kernel_rfl)) (tb := 4) (by kernel_rfl) Tryd.underlying4 ?_
  intro W vs hx hA
  obtain ⟨_, hx⟩ := hx
  have hL := handle_of_laid hx
  rw [Tryd.params4] at hA
  match vs, hA with
  | [v1, v2, v3], ⟨h1, h2, h3, _⟩ =>
    obtain ⟨s, f, rfl, _, hs, hf, sp⟩ := h1.ints' Tryd.underlying26 Tryd.underlying5 cellsU8
    obtain ⟨a', rfl, a1, a2⟩ := h2.int Tryd.underlying24
    obtain ⟨a, rfl⟩ : ∃ n : Nat, a' = n := ⟨a'.toNat, by simp [IntKind.min, IntKind.signed] at a1; omega⟩
    simp [IntKind.max, IntKind.signed, IntKind.bits] at a2
    obtain ⟨b', rfl, b1, b2⟩ := h3.int Tryd.underlying5
    obtain ⟨b, rfl⟩ : ∃ n : Nat, b' = n := ⟨b'.toNat, by simp [IntKind.min, IntKind.signed] at b1; omega⟩
    simp [IntKind.max, IntKind.signed, IntKind.bits] at b2
    exact sysC_of (s := seat) (by kernel_rfl) (sums_spec has_rlaw4_WireSums has_rlaw4_known wireFns refWire has_rlaw1_Tells errs hL (rowB_of hs hf) sp (by omega) (by omega) fun h' he => ⟨rfl, he⟩)

theorem wireSums_row : Rows.WireSumsSaid :=
  OpenClaim.holds_of_wide 4 Tryd.f4 rfl rfl rfl rfl rfl rfl rfl ⟨rfl, rfl, rfl, rfl, rfl⟩ rfl rfl rfl rfl rfl (by kernel_rfl) Tryd.func4 (by kernel_rfl)
    (of_decide_eq_true (by kernel_rfl)) (by unfold Func.isWrapper; first | (rw [if_pos (by decide +kernel)]; kernel_rfl) | (rw [if_neg (by decide +kernel)]; exact ⟨rfl, rfl⟩))
    (fun os started H enc _ => wireSums_lifted os started H enc)

theorem wireSums_holds : Rows.WireSumsCardSaid :=
  Claim7.holds_tied_plain_at .later [] [.handle] true (true, "774d4ea270e0911f07430c2b18c5d798a9291130a1a34336e3e67cfff6c24572") true
    wireSums_row (fun _ h => by cases h) (by kernel_rfl) (fun _ h => by cases h) wireSums_row_tie rfl ⟨rfl, rfl⟩ (by kernel_rfl) rfl
    (fun f fn hf hfn => by
      obtain rfl : f = 4 := Option.some.inj ((show Tryd.prog.funcNamed Rows.wireSumsRow.func = some 4 by kernel_rfl).symm.trans hf) |>.symm
      obtain rfl : fn = Tryd.f4 := (Option.some.inj (Tryd.func4.symm.trans hfn)).symm
      exact ⟨by kernel_rfl, noStand_of (P := Tryd.prog) (by kernel_rfl)⟩)
    (by kernel_rfl)
end Go.Proofs.YtghpbaebbljppaaDoor
