/- errors.Is and errors.As as conditions of the seat's system; the cell of errors.errorType, out of the row's condition. -/
import Derived.Test.YtgmbpmnbpakhbaaGreatDoorSeat
import Derived.Test.YtgmbpmnbpakhbaaGreatDoorErrs
import Derived.Test.YtgmbpmnbpakhbaaGreatDoorEngU
import Derived.LaidLaws
import Derived.LaidHandle
import Derived.Stop.Joined
namespace Go.Proofs.YtgmbpmnbpakhbaaGreatDoor
open Go.Rm

theorem tPF : seat.sys.tid Ty.api_Fault = 96 := by kernel_rfl
theorem tPPF : seat.sys.tid Ty.api_Fault_51 = 98 := by kernel_rfl
theorem tEN : seat.sys.tid Ty.api_Errno = 95 := by kernel_rfl
theorem tPEN : seat.sys.tid Ty.api_Errno_54 = 103 := by kernel_rfl
noncomputable def errs : ErrSys seat.sys where
  gb := 0
  hv := .iface 182 (.agg #[.pointer (some ⟨1, 38, none⟩)])
  is_hit := is_hit_of (s := seat) (PF := 96) (EN := 95) (IS := 40) (by kernel_rfl) (by kernel_rfl) (by kernel_rfl) (fun b0 c w h0 => e_is1 b0 c w h0) (fun b0 b1 c w h0 h1 => e_is2 b0 b1 c w h0 h1) (fun b0 b1 b2 c w h0 h1 h2 => e_is3 b0 b1 b2 c w h0 h1 h2) (fun b0 b1 b2 b3 c w h0 h1 h2 h3 => e_is4 b0 b1 b2 b3 c w h0 h1 h2 h3)
  as_fault := by
    intro h b t old R hg ht hf hr
    rw [tPF, tPPF]
    refine CallP.of_sysC (s := seat) (f := 41) (by kernel_rfl) ?_
    intro w hw
    subst hw
    refine (e_as_fault ⟨b, 0, none⟩ ⟨t, 0, none⟩ old w (by rw [cell_hc]; exact hg) (by rw [cell_hc]; exact ht) hf).mono ?_
    rintro e w' ⟨h1, h2⟩
    obtain ⟨m, g, sm⟩ := alloc4_set ht h2
    exact ⟨_, h1, hr _ m g, sm⟩
  as_errno := by
    intro h t c old R hg ht hf hr
    rw [tEN, tPEN]
    refine CallP.of_sysC (s := seat) (f := 41) (by kernel_rfl) ?_
    intro w hw
    subst hw
    refine (e_as_errno c ⟨t, 0, none⟩ old w (by rw [cell_hc]; exact hg) (by rw [cell_hc]; exact ht) hf).mono ?_
    rintro e w' ⟨h1, h2⟩
    obtain ⟨m, g, sm⟩ := alloc4_set ht h2
    exact ⟨_, h1, hr _ m g, sm⟩
  as_miss := by
    intro h t c old R hg ht hr
    rw [tEN, tPPF]
    refine CallP.of_sysC (s := seat) (f := 41) (by kernel_rfl) ?_
    intro w hw
    subst hw
    refine (e_as_miss c ⟨t, 0, none⟩ old w (by rw [cell_hc]; exact hg) (by rw [cell_hc]; exact ht)).mono ?_
    rintro e w' ⟨h1, h2⟩
    obtain ⟨m, sm⟩ := alloc3_ext h2
    exact ⟨_, h1, hr _ m, sm⟩

theorem e_et : Tryz.prog.globalNamed "errors.errorType" = some 0 := by kernel_rfl
theorem e_rt : (Tryz.prog.cutTypes.find? (·.1 == "internal/reflectlite.rtype")).map (·.2) = some 182 := by kernel_rfl
theorem e_oneRow : ((List.range 243).filter fun t => Tryz.prog.rowNamed t [101, 114, 114, 111, 114]) = [38] := by kernel_rfl
theorem e_size : Tryz.prog.types.size = 243 := by kernel_rfl
def laid : List (String × DataW Unit) := [("errors.errorType", Rows.laid_errors_errorType)]
theorem handle_of_laid {W : World} (h : laidMetH Tryz.prog laid W) : hc W.heap errs.gb 0 = some errs.hv := by
  have h' : laidMet Tryz.prog [] W ∧ handlesMet Tryz.prog laid W := h
  obtain ⟨name, u, ty, e1, e2, e3, e4, e5⟩ := h'.2 _ (List.mem_singleton.2 rfl)
  have en : name = [101, 114, 114, 111, 114] := (Option.some.inj e1).symm
  subst en
  obtain rfl := Option.some.inj (e_rt.symm.trans e2)
  have hm : ty ∈ (List.range 243).filter fun t => Tryz.prog.rowNamed t [101, 114, 114, 111, 114] := List.mem_filter.2 ⟨List.mem_range.2 (by rw [← e_size]; exact e3), e4⟩
  rw [e_oneRow] at hm
  obtain rfl := List.mem_singleton.1 hm
  have hh : typeHandle Tryz.prog 38 = .pointer (some ⟨1, 38, none⟩) := by kernel_rfl
  rw [hh] at e5
  have := World.var?_cell e_et e5 0
  rw [← cell_hc]
  simpa [errs] using this

/-- A world that meets the condition: the settled one, the variable's cell laid. -/
noncomputable def laidWorld (os : Os) : World :=
  let w0 := World.holding Tryz.prog os ⟨#[], #[], []⟩
  { w0 with heap := w0.heap.modify 0 fun
      | .cells _ t frozen => .cells #[.iface 182 (.agg #[.pointer (some ⟨1, 38, none⟩)])] t frozen
      | o => o }
theorem laidWorld_met (os : Os) (args : Array Value) : laidMetH Tryz.prog laid ((laidWorld os).forCall (fun _ _ => 0) ⟨#[], args, []⟩).memory :=
  laidMetH_of_parts (laidMet_nil _ _) (by kernel_rfl)
end Go.Proofs.YtgmbpmnbpakhbaaGreatDoor
