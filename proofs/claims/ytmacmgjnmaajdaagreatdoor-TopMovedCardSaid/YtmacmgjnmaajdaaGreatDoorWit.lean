/- A world that meets the row's condition: the listed variables laid. -/
import Derived.Test.YtmacmgjnmaajdaaGreatDoorTie
import Derived.Lay
import Derived.LaidHandle
import Derived.LaidLaws
namespace Go.Proofs.YtmacmgjnmaajdaaGreatDoor
def laid : List (String × DataW Unit) := [("math/bits.deBruijn32tab", Rows.laid_math_bits_deBruijn32tab), ("math/bits.deBruijn64tab", Rows.laid_math_bits_deBruijn64tab), ("internal/strconv.uint64pow10", Rows.laid_internal_strconv_uint64pow10), ("unicode/utf8.acceptRanges", Rows.laid_unicode_utf8_acceptRanges), ("errors.errorType", Rows.laid_errors_errorType), ("unicode/utf8.first", Rows.laid_unicode_utf8_first)]
def plain : List (String × DataW Unit) := [("math/bits.deBruijn32tab", Rows.laid_math_bits_deBruijn32tab), ("math/bits.deBruijn64tab", Rows.laid_math_bits_deBruijn64tab), ("internal/strconv.uint64pow10", Rows.laid_internal_strconv_uint64pow10), ("unicode/utf8.acceptRanges", Rows.laid_unicode_utf8_acceptRanges), ("unicode/utf8.first", Rows.laid_unicode_utf8_first)]
/-- A world that meets the condition: the settled one, the cell of errors.errorType laid, then the tables. -/
noncomputable def world0 (os : Os) : World :=
  let w0 := World.holding Tryz.prog os ⟨#[], #[], []⟩
  { w0 with heap := w0.heap.modify 0 fun
      | .cells _ t frozen => .cells #[.iface 329 (.agg #[.pointer (some ⟨7, 57, none⟩)])] t frozen
      | o => o }
noncomputable def laidWorld (os : Os) : World := (world0 os).layVars Tryz.prog plain
theorem laidWorld_os (os : Os) : (laidWorld os).os = os := World.layVars_os _ _ _
set_option maxRecDepth 100000 in
theorem plain_met (os : Os) : laidMet Tryz.prog plain (laidWorld os) := by
  have e1 : (plain.filter fun x => (plain.map (·.1)).contains x.1) = plain := List.filter_eq_self.2 fun x hx => List.contains_iff_mem.2 (List.mem_map.2 ⟨x, hx, rfl⟩)
  have e2 : (plain.filter fun x => !(plain.map (·.1)).contains x.1) = [] := List.filter_eq_nil_iff.2 fun x hx => by rw [List.contains_iff_mem.2 (List.mem_map.2 ⟨x, hx, rfl⟩)]; simp
  exact laidMet_layVars (w0 := world0 os) (plain.map (·.1)) [] (by rw [e1]; rfl) (by rw [e1]; kernel_rfl) (by rw [e1]; kernel_rfl) (by rw [e2]; exact LaidIn.none)
set_option maxRecDepth 100000 in
theorem laidWorld_met (os : Os) (args : Array Value) : laidMetH Tryz.prog laid ((laidWorld os).forCall (fun _ _ => 0) ⟨#[], args, []⟩).memory :=
  laidMetH_of_parts (by
    rw [show (laid.filter fun x => x.2.handleName?.isNone) = plain by kernel_rfl]
    exact (plain_met os).of_heap (by simp [World.memory, World.forCall, Input.heap])) (by kernel_rfl)
set_option maxRecDepth 100000 in
theorem laidWorld_shaped (os : Os) : (laidWorld os).Shaped Tryz.prog := World.shaped_of_ZipB (by kernel_rfl) (by kernel_rfl)
end Go.Proofs.YtmacmgjnmaajdaaGreatDoor
