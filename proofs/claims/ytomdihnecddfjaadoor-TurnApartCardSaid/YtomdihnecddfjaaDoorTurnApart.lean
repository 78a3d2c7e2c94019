/- TurnApart: for every input the law returns true, and each argument reads behind the call as it read before; the listed variable errors.errorType is tied to the program's text. No other condition. -/
import Derived.Test.YtomdihnecddfjaaDoorEsys
import Derived.Test.YtomdihnecddfjaaDoorEngO
import Derived.Test.YtomdihnecddfjaaDoorTie
import Derived.Test.YtomdihnecddfjaaDoorCards
import Derived.Test.YtomdihnecddfjaaDoorRLaw2e
namespace Go.Proofs.YtomdihnecddfjaaDoor
open Go.ChangeShapes Go.WideShapes Go.ChangeAt Go.RowKit Go.Rm Go.Deep

theorem own : ownKnob Tryd.prog.godebug = none := by kernel_rfl
theorem laidOut : laidOutB Tryd.prog = true := by kernel_rfl
theorem cellsI : Tryd.prog.cellsOf 3 = 1 := by kernel_rfl
theorem cellsI64 : Tryd.prog.cellsOf 2 = 1 := by kernel_rfl
theorem cellsSL : Tryd.prog.cellsOf 22 = 1 := by kernel_rfl
theorem cellsU16 : Tryd.prog.cellsOf 56 = 1 := by kernel_rfl
theorem cellsTab : Tryd.prog.cellsOf 24 = 3 := by kernel_rfl
theorem turnAll : TurnAll seat.sys := ⟨⟨has_turn_Check, has_turn_sides, has_turn_fault, has_cost_Weight, has_turn_At, has_turn_Bans, has_turn_Same, has_slices_Equal_int64_int64, has_slices_Clone_int64_int64⟩, has_turn_With, has_turn_Free, has_turn_Back⟩
theorem refAll : RefAll seat.sys := ⟨⟨has_rref6_At, has_rref6_Weight, has_rref6_CheckTable, has_rref6_TurnAt, has_rref6_Bans, has_rref6_SameTable, has_rref6_SameCosts⟩, has_rref6_WithTable, has_rref6_FreeTable, has_rref6_BackTable⟩

theorem tab_of {H : Type} {enc : TypeId × Value → H} {W : World} {v : Value} (h : ArgIs enc Tryd.prog W 24 v) : ∃ (i o : Int) (s : Sl) (cs : List Int), v = tabV i o s ∧ Row64 W.heap s cs := by
  obtain ⟨cs, rfl, hsz, hr⟩ := h.1.agg Tryd.underlying24 (by rw [cellsTab]; decide)
  rw [cellsTab] at hsz
  obtain ⟨i, hi, _⟩ := hr.fint (i := 0) Tryd.underlying24 rfl Tryd.underlying3 cellsI
  obtain ⟨o, ho, _⟩ := hr.fint (i := 1) Tryd.underlying24 rfl Tryd.underlying3 cellsI
  obtain ⟨u, hu, hru⟩ := hr.fslice (i := 2) Tryd.underlying24 rfl Tryd.underlying22 cellsSL
  obtain ⟨s, f, e, _, hs, _⟩ := hru.ints Tryd.underlying22 Tryd.underlying2 cellsI64
  obtain rfl : u = s.v := by simpa using e
  refine ⟨i, o, s, (List.range s.n).map f, ?_, hs.ok, by simp, fun k hk => ?_⟩
  · unfold tabV
    congr 1
    apply Array.ext'
    apply List.ext_getElem?
    intro k
    match k with
    | 0 => exact hi
    | 1 => exact ho
    | 2 => exact hu
    | k + 3 =>
      rw [List.getElem?_eq_none (by simp; omega), List.getElem?_eq_none (by simp)]
  · have hk : k < s.n := by simpa using hk
    rw [hs.val k hk]
    simp [nthI, hk]

set_option maxRecDepth 100000 in
theorem turnApart_lifted (os : Os) (started : os.Started) (H : Type) (enc : TypeId × Value → H) :
    ReturnsInHanded {} Tryd.checked os 7 .any (fun w args => (Rows.turnApartSpec.pre enc Tryd.prog Tryd.f7 [] false w args ∧ laidMetH Tryd.prog laid w) ∧ sizedMet enc Tryd.prog Tryd.f7 (OpenSpec.ofChange Rows.turnApartSpec) false w args)
      (Rows.turnApartSpec.post enc Tryd.prog Tryd.f7 false true false false) := by
  refine law_lifted_and (C := Tryd.checked) (X := fun w _ => laidMetH Tryd.prog laid w) (fun _ _ _ hh h => h.of_heap hh) own started (by kernel_rfl) Tryd.func7
    (ChangeSpec.witness_at (enc := enc) (C := Tryd.checked) (os := os) (X := fun w _ => laidMetH Tryd.prog laid w) false (laidWorld os) #[.agg #[.int .i64 0, .int .i64 0, .slice none 0 0], .agg #[.int .i64 0, .int .i64 0, .slice none 0 0]] 8 rfl (by kernel_rfl) (by kernel_rfl) (by kernel_rfl) (by kernel_rfl) (by kernel_rfl) (laidWorld_met os _))
    ⟨rfl, fun H ds h => by rw [Tryd.params7] at h; match ds, h with | [d1, d2], _ => rfl⟩ laidOut (readable_of (by kernel_rfl)) (tb := 4) (by kernel_rfl) Tryd.underlying4 ?_
  intro W vs hx hA
  obtain ⟨_, hx⟩ := hx
  have hL := handle_of_laid hx
  rw [Tryd.params7] at hA
  match vs, hA with
  | [v1, v2], ⟨h1, h2, _⟩ =>
    obtain ⟨ai, ao, as', ac, rfl, ha⟩ := tab_of h1
    obtain ⟨bi, bo, bs, bc, rfl, hb⟩ := tab_of h2
    exact sysC_of (s := seat) (by kernel_rfl) (apart_spec has_rlaw2_TurnApart has_rlaw2_known has_rlaw2_To turnAll refAll has_rlaw1_Tells errs hL ha hb fun h' he => ⟨rfl, he⟩)

theorem turnApart_row : Rows.TurnApartSaid :=
  OpenClaim.holds_of_wide 7 Tryd.f7 rfl rfl rfl rfl rfl rfl rfl ⟨rfl, rfl, rfl, rfl, rfl⟩ rfl rfl rfl rfl rfl (by kernel_rfl) Tryd.func7 (by kernel_rfl)
    (of_decide_eq_true (by kernel_rfl)) (by unfold Func.isWrapper; first | (rw [if_pos (by decide +kernel)]; kernel_rfl) | (rw [if_neg (by decide +kernel)]; exact ⟨rfl, rfl⟩))
    (fun os started H enc _ => turnApart_lifted os started H enc)

theorem turnApart_holds : Rows.TurnApartCardSaid :=
  Claim7.holds_tied_plain_at .later [] [.handle] true (true, "841b9146c61c9a44d56880fc9910a9560cb8ad1eeafed6fcb0b73ac22e63085d") true
    turnApart_row (fun _ h => by cases h) (by kernel_rfl) (fun _ h => by cases h) turnApart_row_tie rfl ⟨rfl, rfl⟩ (by kernel_rfl) rfl
    (fun f fn hf hfn => by
      obtain rfl : f = 7 := Option.some.inj ((show Tryd.prog.funcNamed Rows.turnApartRow.func = some 7 by kernel_rfl).symm.trans hf) |>.symm
      obtain rfl : fn = Tryd.f7 := (Option.some.inj (Tryd.func7.symm.trans hfn)).symm
      exact ⟨by kernel_rfl, noStand_of (P := Tryd.prog) (by kernel_rfl)⟩)
    (by kernel_rfl)
end Go.Proofs.YtomdihnecddfjaaDoor
