/- TopOrder: for every input the law returns true, and each argument reads behind the call as it read before; the listed variables are tied to the program's text. No other condition. -/
import Derived.Test.YtnmnlnpbekafmaaGreatDoorFacts
import Derived.Test.YtnmnlnpbekafmaaGreatDoorTie
import Derived.Test.YtnmnlnpbekafmaaGreatDoorCards
import Derived.Test.YtnmnlnpbekafmaaGreatDoorInst
import Derived.Test.YtnmnlnpbekafmaaGreatDoorWit
import Derived.Test.YtnmnlnpbekafmaaGreatDoorT04
import Derived.Test.YtnmnlnpbekafmaaGreatDoorT19
import Derived.Test.YtnmnlnpbekafmaaGreatDoorT37
import Derived.Test.YtnmnlnpbekafmaaGreatDoorT42
import Derived.Test.YtnmnlnpbekafmaaGreatDoorT43
import Derived.Lay
import Derived.LaidHandle
import Derived.LaidLaws
import Derived.Shelf.Sort.Plain
import Derived.SevenTiedAt
import Derived.Stop.Joined
namespace Go.Proofs.YtnmnlnpbekafmaaGreatDoor
open Go.ChangeShapes Go.WideShapes Go.ChangeAt Go.RowKit Go.Rm Go.Deep

theorem own : ownKnob Tryz.prog.godebug = none := by kernel_rfl
theorem laidOut : laidOutB Tryz.prog = true := by kernel_rfl

noncomputable def netTy : Z0r Tryz.prog where
  net := 26
  verts := 22
  arcs := 23
  types := 24
  vert := 100
  arc := 102
  tab := 105
  int := 3
  i64 := 2
  costs := 41
  Zyo := _
  vertF := _
  arcF := _
  tabF := _
  u_net := Tryz.underlying26
  u_vert := Tryz.underlying100
  u_arc := Tryz.underlying102
  u_tab := Tryz.underlying105
  u_verts := Tryz.underlying22
  u_arcs := Tryz.underlying23
  u_types := Tryz.underlying24
  u_costs := Tryz.underlying41
  u_int := Tryz.underlying3
  u_i64 := Tryz.underlying2
  c_net := by kernel_rfl
  c_vert := by kernel_rfl
  c_arc := by kernel_rfl
  c_tab := by kernel_rfl
  c_verts := by kernel_rfl
  c_arcs := by kernel_rfl
  c_types := by kernel_rfl
  c_costs := by kernel_rfl
  c_int := by kernel_rfl
  c_i64 := by kernel_rfl
  n0 := rfl
  n1 := rfl
  n2 := rfl
  v0 := rfl
  v1 := rfl
  v2 := rfl
  a0 := rfl
  a1 := rfl
  a2 := rfl
  t0 := rfl
  t1 := rfl
  t2 := rfl

theorem cells3 : Tryz.prog.cellsOf 3 = 1 := by kernel_rfl

set_option maxRecDepth 100000 in
theorem topOrder_lifted (os : Os) (started : os.Started) (H : Type) (enc : TypeId × Value → H) :
    ReturnsInHanded {} Tryz.checked os 3 .any (fun w args => (Rows.topOrderSpec.pre enc Tryz.prog Tryz.f3 [] false w args ∧ laidMetH Tryz.prog laid w) ∧ sizedMet enc Tryz.prog Tryz.f3 (OpenSpec.ofChange Rows.topOrderSpec) false w args)
      (Rows.topOrderSpec.post enc Tryz.prog Tryz.f3 false true false false) := by
  refine Z37 (C := Tryz.checked) (X := fun w _ => laidMetH Tryz.prog laid w) (fun _ _ _ hh h => h.of_heap hh) own started (by kernel_rfl) Tryz.func3
    (ChangeSpec.witness_shaped (enc := enc) (C := Tryz.checked) (os := os) (X := fun w _ => laidMetH Tryz.prog laid w) false (laidWorld os) #[.agg #[.slice none 0 0, .slice none 0 0, .slice none 0 0], .agg #[.slice none 0 0], .slice none 0 0, .slice none 0 0, .int .u16 0, .int .u16 0] 8 (laidWorld_os os) (laidWorld_shaped os) (by kernel_rfl) (by kernel_rfl) (by kernel_rfl) (laidWorld_met os _))
    ⟨rfl, fun H ds h => by rw [Tryz.params3] at h; match ds, h with | [d1, d2, d3, d4, d5, d6], _ => rfl⟩ laidOut (Z69 (by kernel_rfl)) (tb := 4) (by kernel_rfl) Tryz.underlying4 ?_
  intro W vs hx hA
  rw [Tryz.params3] at hA
  match vs, hA with
  | [v1, v2, v3, v4, v5, v6], ⟨h1, h2, h3, h4, h5, h6, _⟩ =>
    obtain ⟨sva, saa, sta, Na, rfl, ra⟩ := Zbu.net netTy h1
    obtain ⟨sp, Lp, rfl, rp, mp⟩ := Zbu.part h2 Tryz.underlying29 (by kernel_rfl) rfl Tryz.underlying27 (by kernel_rfl) Tryz.underlying64 Tryz.underlying3 (by kernel_rfl) cells3
    obtain ⟨sx, x, rfl, rx⟩ := Read.acts (h3.slice Tryz.underlying30) Tryz.underlying30 Tryz.underlying63 (by kernel_rfl) rfl rfl rfl rfl rfl Tryz.underlying3 Tryz.underlying2 (by kernel_rfl) (by kernel_rfl)
    obtain ⟨sy, y, rfl, ry⟩ := Read.acts (h4.slice Tryz.underlying30) Tryz.underlying30 Tryz.underlying63 (by kernel_rfl) rfl rfl rfl rfl rfl Tryz.underlying3 Tryz.underlying2 (by kernel_rfl) (by kernel_rfl)
    obtain ⟨u, rfl, u1, u2⟩ := h5.int Tryz.underlying31
    simp [IntKind.min, IntKind.max, IntKind.signed, IntKind.bits] at u1 u2
    obtain ⟨v, rfl, v1, v2⟩ := h6.int Tryz.underlying31
    simp [IntKind.min, IntKind.max, IntKind.signed, IntKind.bits] at v1 v2
    exact Xbw (s := seat) (by kernel_rfl) (Z4k fns ra rp (Nat.le_trans mp (by decide)) rx ry ⟨u1, u2⟩ ⟨v1, v2⟩ fun h' he => ⟨rfl, he⟩)

theorem topOrder_row : Rows.TopOrderSaid :=
  OpenClaim.holds_of_wide 3 Tryz.f3 rfl rfl rfl rfl rfl rfl rfl ⟨rfl, rfl, rfl, rfl, rfl⟩ rfl rfl rfl rfl rfl cf3 Tryz.func3 closed
    (of_decide_eq_true (by kernel_rfl)) (by unfold Func.isWrapper; first | (rw [if_pos (by decide +kernel)]; kernel_rfl) | (rw [if_neg (by decide +kernel)]; exact ⟨rfl, rfl⟩))
    (fun os started H enc _ => topOrder_lifted os started H enc)

theorem topOrder_holds : Rows.TopOrderCardSaid :=
  Claim7.holds_tied_plain_at .later [] [.data, .data, .data, .data, .handle, .pinned] true (true, "6f4d06bb089e2396e3281e1039d5bfb6a9a0201093d6bec8ad756b272b209131") true
    topOrder_row (fun _ h => by cases h) cf1 (fun _ h => by cases h) topOrder_row_tie rfl ⟨rfl, rfl⟩ (by kernel_rfl) rfl
    (fun f fn hf hfn => by
      obtain rfl : f = 3 := Option.some.inj (cf3.symm.trans hf) |>.symm
      obtain rfl : fn = Tryz.f3 := (Option.some.inj (Tryz.func3.symm.trans hfn)).symm
      exact ⟨cf4, Z72 (P := Tryz.prog) (by kernel_rfl)⟩)
    cf2
end Go.Proofs.YtnmnlnpbekafmaaGreatDoor
