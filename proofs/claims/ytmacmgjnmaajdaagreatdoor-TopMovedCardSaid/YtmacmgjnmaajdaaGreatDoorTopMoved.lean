/- TopMoved: for every input the law returns true, and each argument reads behind the call as it read before; the listed variables are tied to the program's text. No other condition. -/
import Derived.Test.YtmacmgjnmaajdaaGreatDoorFacts
import Derived.Test.YtmacmgjnmaajdaaGreatDoorTie
import Derived.Test.YtmacmgjnmaajdaaGreatDoorCards
import Derived.Test.YtmacmgjnmaajdaaGreatDoorInst
import Derived.Test.YtmacmgjnmaajdaaGreatDoorWit
import Derived.Test.YtmacmgjnmaajdaaGreatDoorT04
import Derived.Test.YtmacmgjnmaajdaaGreatDoorT11
import Derived.Test.YtmacmgjnmaajdaaGreatDoorT16
import Derived.Test.YtmacmgjnmaajdaaGreatDoorT24
import Derived.Test.YtmacmgjnmaajdaaGreatDoorT25
import Derived.Lay
import Derived.LaidHandle
import Derived.LaidLaws
import Derived.Shelf.Sort.Plain
import Derived.SevenTiedAt
import Derived.Stop.Joined
namespace Go.Proofs.YtmacmgjnmaajdaaGreatDoor
open Go.ChangeShapes Go.WideShapes Go.ChangeAt Go.RowKit Go.Rm Go.Deep

theorem own : ownKnob Tryz.prog.godebug = none := by kernel_rfl
theorem laidOut : laidOutB Tryz.prog = true := by kernel_rfl

noncomputable def netTy : Z38 Tryz.prog where
  net := 26
  verts := 22
  arcs := 23
  types := 24
  vert := 115
  arc := 39
  tab := 93
  int := 3
  i64 := 2
  cN := 43
  Z1u := _
  vertF := _
  arcF := _
  tabF := _
  u_net := Tryz.underlying26
  u_vert := Tryz.underlying115
  u_arc := Tryz.underlying39
  u_tab := Tryz.underlying93
  u_verts := Tryz.underlying22
  u_arcs := Tryz.underlying23
  u_types := Tryz.underlying24
  u_costs := Tryz.underlying43
  u_int := Tryz.underlying3
  u_i64 := Tryz.underlying2
  c_net := by kernel_rfl
  c_vert := by kernel_rfl
  c_arc := by kernel_rfl
  c_tab := by kernel_rfl
  c_verts := by kernel_rfl
  c_arcs := by kernel_rfl
  c_types := by kernel_rfl
  c_costs := by kernel_rfl
  c_int := by kernel_rfl
  c_i64 := by kernel_rfl
  n0 := rfl
  n1 := rfl
  n2 := rfl
  v0 := rfl
  v1 := rfl
  v2 := rfl
  a0 := rfl
  a1 := rfl
  a2 := rfl
  t0 := rfl
  t1 := rfl
  t2 := rfl

theorem cells3 : Tryz.prog.cellsOf 3 = 1 := by kernel_rfl
theorem cells5 : Tryz.prog.cellsOf 5 = 1 := by kernel_rfl

set_option maxRecDepth 100000 in
theorem topMoved_lifted (os : Os) (started : os.Started) (H : Type) (enc : TypeId × Value → H) :
    ReturnsInHanded {} Tryz.checked os 3 .any (fun w args => (Rows.topMovedSpec.pre enc Tryz.prog Tryz.f3 [] false w args ∧ laidMetH Tryz.prog laid w) ∧ sizedMet enc Tryz.prog Tryz.f3 (OpenSpec.ofChange Rows.topMovedSpec) false w args)
      (Rows.topMovedSpec.post enc Tryz.prog Tryz.f3 false true false false) := by
  refine Z78 (C := Tryz.checked) (X := fun w _ => laidMetH Tryz.prog laid w) (fun _ _ _ hh h => h.of_heap hh) own started (by kernel_rfl) Tryz.func3
    (ChangeSpec.witness_shaped (enc := enc) (C := Tryz.checked) (os := os) (X := fun w _ => laidMetH Tryz.prog laid w) false (laidWorld os) #[.agg #[.slice none 0 0, .slice none 0 0, .slice none 0 0], .agg #[.slice none 0 0], .slice none 0 0, .int .u16 0, .int .u16 0, .agg #[.int .i64 0, .int .i64 0, .int .i64 0, .slice none 0 0]] 8 (laidWorld_os os) (laidWorld_shaped os) (by kernel_rfl) (by kernel_rfl) (by kernel_rfl) (laidWorld_met os _))
    ⟨rfl, fun H ds h => by rw [Tryz.params3] at h; match ds, h with | [d1, d2, d3, d4, d5, d6], _ => rfl⟩ laidOut (Xbo (by kernel_rfl)) (tb := 4) (by kernel_rfl) Tryz.underlying4 ?_
  intro W vs hx hA
  rw [Tryz.params3] at hA
  match vs, hA with
  | [v1, v2, v3, v4, v5, v6], ⟨h1, h2, h3, h4, h5, h6, _⟩ =>
    obtain ⟨sva, saa, sta, Na, rfl, ra⟩ := Zb6.net netTy h1
    obtain ⟨sp, Lp, rfl, rp, mp⟩ := Zb6.part h2 Tryz.underlying29 (by kernel_rfl) rfl Tryz.underlying27 (by kernel_rfl) Tryz.underlying50 Tryz.underlying3 (by kernel_rfl) cells3
    obtain ⟨sb, fb, rfl, _, rb, qb⟩ := h3.ints Tryz.underlying30 Tryz.underlying5 cells5
    obtain ⟨u, rfl, u1, u2⟩ := h4.int Tryz.underlying31
    simp [IntKind.min, IntKind.max, IntKind.signed, IntKind.bits] at u1 u2
    obtain ⟨v, rfl, v1, v2⟩ := h5.int Tryz.underlying31
    simp [IntKind.min, IntKind.max, IntKind.signed, IntKind.bits] at v1 v2
    obtain ⟨sj, j, rfl, rj, mj⟩ := Zb6.job h6 Tryz.underlying34 (by kernel_rfl) rfl rfl rfl rfl Tryz.underlying32 Tryz.underlying81 (by kernel_rfl) rfl rfl Tryz.underlying3 Tryz.underlying2 (by kernel_rfl) (by kernel_rfl) (by kernel_rfl)
    exact Xgo (s := seat) (by kernel_rfl) (Z8n fns ra rp (Nat.le_trans mp (by decide)) rb (fun i hi => by have := qb i hi; simp [IntKind.min, IntKind.max, IntKind.signed, IntKind.bits] at this; omega) ⟨u1, u2⟩ ⟨v1, v2⟩ rj (Nat.le_trans mj (by decide)) fun h' he => ⟨rfl, he⟩)

theorem topMoved_row : Rows.TopMovedSaid :=
  OpenClaim.holds_of_wide 3 Tryz.f3 rfl rfl rfl rfl rfl rfl rfl ⟨rfl, rfl, rfl, rfl, rfl⟩ rfl rfl rfl rfl rfl cf3 Tryz.func3 closed
    (of_decide_eq_true (by kernel_rfl)) (by unfold Func.isWrapper; first | (rw [if_pos (by decide +kernel)]; kernel_rfl) | (rw [if_neg (by decide +kernel)]; exact ⟨rfl, rfl⟩))
    (fun os started H enc _ => topMoved_lifted os started H enc)

theorem topMoved_holds : Rows.TopMovedCardSaid :=
  Claim7.holds_tied_plain_at .later [] [.data, .data, .data, .data, .handle, .pinned] true (true, "5c524205875a18443580f446cf229104c2e3236a74ca56f7a4748c128a338fd5") true
    topMoved_row (fun _ h => by cases h) cf1 (fun _ h => by cases h) topMoved_row_tie rfl ⟨rfl, rfl⟩ (by kernel_rfl) rfl
    (fun f fn hf hfn => by
      obtain rfl : f = 3 := Option.some.inj (cf3.symm.trans hf) |>.symm
      obtain rfl : fn = Tryz.f3 := (Option.some.inj (Tryz.func3.symm.trans hfn)).symm
      exact ⟨cf4, Xch (P := Tryz.prog) (by kernel_rfl)⟩)
    cf2
end Go.Proofs.YtmacmgjnmaajdaaGreatDoor
