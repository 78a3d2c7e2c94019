/- WireNums: for every input the law returns true, and each argument reads behind the call as it read before; the listed variable errors.errorType is tied to the program's text. No other condition. -/
import Derived.Test.YtghpbaebbljppaaDoorEsys
import Derived.Test.YtghpbaebbljppaaDoorEngO
import Derived.Test.YtghpbaebbljppaaDoorTie
import Derived.Test.YtghpbaebbljppaaDoorCards
import Derived.Test.YtghpbaebbljppaaDoorRLaw4g
namespace Go.Proofs.YtghpbaebbljppaaDoor
open Go.ChangeShapes Go.WideShapes Go.ChangeAt Go.RowKit Go.Rm Go.Deep

theorem own : ownKnob Tryd.prog.godebug = none := by kernel_rfl
theorem laidOut : laidOutB Tryd.prog = true := by kernel_rfl
theorem cellsU8 : Tryd.prog.cellsOf 5 = 1 := by kernel_rfl
theorem cellsI64 : Tryd.prog.cellsOf 2 = 1 := by kernel_rfl
theorem cellsU64 : Tryd.prog.cellsOf 28 = 1 := by kernel_rfl
theorem wireFns : WireFns seat.sys := ⟨has_wire_New, has_wire_Reader_At, has_wire_Reader_Err, has_wire_Reader_Done, has_wire_Reader_Bytes, has_wire_Reader_Uint, has_wire_Reader_Int, has_wire_scan, has_wire_Uint, has_wire_Int, has_wire_Sum, has_slices_Clone_byte_byte⟩
theorem refWire : RefWire seat.sys := ⟨has_rref6_At, has_rref6_Uint, has_rref6_Int, has_rref6_SumOf⟩

set_option maxRecDepth 100000 in
theorem wireNums_lifted (os : Os) (started : os.Started) (H : Type) (enc : TypeId × Value → H) :
    ReturnsInHanded {} Tryd.checked os 3 .any (fun w args => (Rows.wireNumsSpec.pre enc Tryd.prog Tryd.f3 [] false w args ∧ laidMetH Tryd.prog laid w) ∧ sizedMet enc Tryd.prog Tryd.f3 (OpenSpec.ofChange Rows.wireNumsSpec) false w args)
      (Rows.wireNumsSpec.post enc Tryd.prog Tryd.f3 false true false false) := by
  refine law_lifted_and (C := Tryd.checked) (X := fun w _ => laidMetH Tryd.prog laid w) (fun _ _ _ hh h => h.of_heap hh) own started (by kernel_rfl) Tryd.func3
    (ChangeSpec.witness_at (enc := enc) (C := Tryd.checked) (os := os) (X := fun w _ => laidMetH Tryd.prog laid w) false (laidWorld os) #[.slice none 0 0, .slice none 0 0, .int .u16 0] 8 rfl (by kernel_rfl) (by kernel_rfl) (by kernel_rfl) (by kernel_rfl) (by kernel_rfl) (laidWorld_met os _))
    ⟨rfl, fun H ds h => by rw [Tryd.params3] at h; match ds, h with | [d1, d2, d3], _ => rfl⟩ laidOut (readable_of (by kernel_rfl)) (tb := 4) (by kernel_rfl) Tryd.underlying4 ?_
  intro W vs hx hA
  obtain ⟨_, hx⟩ := hx
  have hL := handle_of_laid hx
  rw [Tryd.params3] at hA
  match vs, hA with
  | [v1, v2, v3], ⟨h1, h2, h3, _⟩ =>
    obtain ⟨s, f, rfl, _, hs, hf⟩ := h1.ints Tryd.underlying22 Tryd.underlying28 cellsU64
    obtain ⟨t, g, rfl, _, ht, hg⟩ := h2.ints Tryd.underlying23 Tryd.underlying2 cellsI64
    obtain ⟨b', rfl, b1, b2⟩ := h3.int Tryd.underlying24
    obtain ⟨b, rfl⟩ : ∃ n : Nat, b' = n := ⟨b'.toNat, by simp [IntKind.min, IntKind.signed] at b1; omega⟩
    simp [IntKind.max, IntKind.signed, IntKind.bits] at b2
    obtain ⟨u1, u2, u3⟩ := u64_of hs hf
    obtain ⟨i1, i2, i3⟩ := i64_of ht hg
    exact sysC_of (s := seat) (by kernel_rfl) (nums_spec has_rlaw4_WireNums has_rlaw4_known wireFns refWire has_rlaw1_Tells errs hL u1 u2 u3 i1 i2 i3 (by omega) fun h' he => ⟨rfl, he⟩)

theorem wireNums_row : Rows.WireNumsSaid :=
  OpenClaim.holds_of_wide 3 Tryd.f3 rfl rfl rfl rfl rfl rfl rfl ⟨rfl, rfl, rfl, rfl, rfl⟩ rfl rfl rfl rfl rfl (by kernel_rfl) Tryd.func3 (by kernel_rfl)
    (of_decide_eq_true (by kernel_rfl)) (by unfold Func.isWrapper; first | (rw [if_pos (by decide +kernel)]; kernel_rfl) | (rw [if_neg (by decide +kernel)]; exact ⟨rfl, rfl⟩))
    (fun os started H enc _ => wireNums_lifted os started H enc)

theorem wireNums_holds : Rows.WireNumsCardSaid :=
  Claim7.holds_tied_plain_at .later [] [.handle] true (true, "774d4ea270e0911f07430c2b18c5d798a9291130a1a34336e3e67cfff6c24572") true
    wireNums_row (fun _ h => by cases h) (by kernel_rfl) (fun _ h => by cases h) wireNums_row_tie rfl ⟨rfl, rfl⟩ (by kernel_rfl) rfl
    (fun f fn hf hfn => by
      obtain rfl : f = 3 := Option.some.inj ((show Tryd.prog.funcNamed Rows.wireNumsRow.func = some 3 by kernel_rfl).symm.trans hf) |>.symm
      obtain rfl : fn = Tryd.f3 := (Option.some.inj (Tryd.func3.symm.trans hfn)).symm
      exact ⟨by kernel_rfl, noStand_of (P := Tryd.prog) (by kernel_rfl)⟩)
    (by kernel_rfl)
end Go.Proofs.YtghpbaebbljppaaDoor
