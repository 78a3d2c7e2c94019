/- The seat's part: which number each function and each type of the program has, and that each function is its program in the small language. -/
import Derived.Test.YtomdihnecddfjaaDoorRows
import Derived.Test.YtomdihnecddfjaaDoorEngO
import Derived.Test.YtomdihnecddfjaaDoorSApi
import Derived.Test.YtomdihnecddfjaaDoorSCost
import Derived.Test.YtomdihnecddfjaaDoorSRlaw1
import Derived.Test.YtomdihnecddfjaaDoorSRlaw2
import Derived.Test.YtomdihnecddfjaaDoorSRref6
import Derived.Test.YtomdihnecddfjaaDoorSSlices
import Derived.Test.YtomdihnecddfjaaDoorSTurn
namespace Go.Proofs.YtomdihnecddfjaaDoor
open Go.Rm
noncomputable def seat : Go.Rm.Seat := ⟨Tryd.prog, [(26, 3), (27, 4), (28, 5), (29, 6), (30, 7), (31, 8), (32, 9), (33, 10), (34, 11), (35, 12), (36, 13), (37, 14), (38, 15), (39, 16), (40, 17), (41, 18), (42, 19), (43, 20), (44, 21), (45, 22), (46, 23), (47, 24), (48, 25), (49, 26), (50, 27), (51, 28), (52, 29), (53, 30), (54, 31), (55, 32), (56, 33), (57, 34), (58, 35), (65, 63)], [(1, 2), (2, 3), (3, 4), (4, 5), (5, 6), (6, 8), (7, 9), (8, 10), (9, 11), (10, 12), (11, 14), (12, 15), (13, 16), (14, 17), (15, 19), (16, 20), (17, 21), (23, 22), (41, 24), (42, 26), (43, 28), (44, 31), (45, 32), (46, 34), (47, 55), (48, 56), (49, 60), (50, 61), (51, 63), (52, 65), (53, 67), (54, 68), (55, 73), (56, 74), (40, 77), (57, 78), (58, 80), (35, 83), (59, 88), (60, 89), (61, 90), (62, 93), (63, 95), (64, 96), (65, 100), (30, 105), (31, 106), (32, 108), (33, 111), (34, 112), (36, 114), (37, 115), (38, 116), (39, 118), (66, 122), (67, 123), (68, 126), (69, 127), (70, 128), (71, 130), (72, 131)], []⟩
theorem seat_ok : seat.ok = true := by kernel_rfl
theorem has_rlaw2_TurnAny : seat.sys.Has F.rlaw2_TurnAny S_rlaw2_TurnAny := Seat.has seat_ok (f := 3) (fn := Tryd.f3) (by kernel_rfl) Tryd.func3 (by kernel_rfl)
theorem has_rlaw2_TurnMakes : seat.sys.Has F.rlaw2_TurnMakes S_rlaw2_TurnMakes := Seat.has seat_ok (f := 4) (fn := Tryd.f4) (by kernel_rfl) Tryd.func4 (by kernel_rfl)
theorem has_rlaw2_TurnSets : seat.sys.Has F.rlaw2_TurnSets S_rlaw2_TurnSets := Seat.has seat_ok (f := 5) (fn := Tryd.f5) (by kernel_rfl) Tryd.func5 (by kernel_rfl)
theorem has_rlaw2_TurnBans : seat.sys.Has F.rlaw2_TurnBans S_rlaw2_TurnBans := Seat.has seat_ok (f := 6) (fn := Tryd.f6) (by kernel_rfl) Tryd.func6 (by kernel_rfl)
theorem has_rlaw2_TurnApart : seat.sys.Has F.rlaw2_TurnApart S_rlaw2_TurnApart := Seat.has seat_ok (f := 7) (fn := Tryd.f7) (by kernel_rfl) Tryd.func7 (by kernel_rfl)
theorem has_rlaw2_known : seat.sys.Has F.rlaw2_known S_rlaw2_known := Seat.has seat_ok (f := 8) (fn := Tryd.f8) (by kernel_rfl) Tryd.func8 (by kernel_rfl)
theorem has_rref6_CheckTable : seat.sys.Has F.rref6_CheckTable S_rref6_CheckTable := Seat.has seat_ok (f := 9) (fn := Tryd.f9) (by kernel_rfl) Tryd.func9 (by kernel_rfl)
theorem has_rlaw1_Tells : seat.sys.Has F.rlaw1_Tells S_rlaw1_Tells := Seat.has seat_ok (f := 10) (fn := Tryd.f10) (by kernel_rfl) Tryd.func10 (by kernel_rfl)
theorem has_turn_Check : seat.sys.Has F.turn_Check S_turn_Check := Seat.has seat_ok (f := 11) (fn := Tryd.f11) (by kernel_rfl) Tryd.func11 (by kernel_rfl)
theorem has_rlaw2_To : seat.sys.Has F.rlaw2_To S_rlaw2_To := Seat.has seat_ok (f := 12) (fn := Tryd.f12) (by kernel_rfl) Tryd.func12 (by kernel_rfl)
theorem has_turn_Same : seat.sys.Has F.turn_Same S_turn_Same := Seat.has seat_ok (f := 13) (fn := Tryd.f13) (by kernel_rfl) Tryd.func13 (by kernel_rfl)
theorem has_rref6_SameTable : seat.sys.Has F.rref6_SameTable S_rref6_SameTable := Seat.has seat_ok (f := 14) (fn := Tryd.f14) (by kernel_rfl) Tryd.func14 (by kernel_rfl)
theorem has_turn_With : seat.sys.Has F.turn_With S_turn_With := Seat.has seat_ok (f := 15) (fn := Tryd.f15) (by kernel_rfl) Tryd.func15 (by kernel_rfl)
theorem has_rref6_WithTable : seat.sys.Has F.rref6_WithTable S_rref6_WithTable := Seat.has seat_ok (f := 16) (fn := Tryd.f16) (by kernel_rfl) Tryd.func16 (by kernel_rfl)
theorem has_turn_At : seat.sys.Has F.turn_At S_turn_At := Seat.has seat_ok (f := 17) (fn := Tryd.f17) (by kernel_rfl) Tryd.func17 (by kernel_rfl)
theorem has_rref6_TurnAt : seat.sys.Has F.rref6_TurnAt S_rref6_TurnAt := Seat.has seat_ok (f := 18) (fn := Tryd.f18) (by kernel_rfl) Tryd.func18 (by kernel_rfl)
theorem has_turn_Bans : seat.sys.Has F.turn_Bans S_turn_Bans := Seat.has seat_ok (f := 19) (fn := Tryd.f19) (by kernel_rfl) Tryd.func19 (by kernel_rfl)
theorem has_rref6_Bans : seat.sys.Has F.rref6_Bans S_rref6_Bans := Seat.has seat_ok (f := 20) (fn := Tryd.f20) (by kernel_rfl) Tryd.func20 (by kernel_rfl)
theorem has_rlaw2_Of : seat.sys.Has F.rlaw2_Of S_rlaw2_Of := Seat.has seat_ok (f := 21) (fn := Tryd.f21) (by kernel_rfl) Tryd.func21 (by kernel_rfl)
theorem has_turn_Free : seat.sys.Has F.turn_Free S_turn_Free := Seat.has seat_ok (f := 22) (fn := Tryd.f22) (by kernel_rfl) Tryd.func22 (by kernel_rfl)
theorem has_rref6_FreeTable : seat.sys.Has F.rref6_FreeTable S_rref6_FreeTable := Seat.has seat_ok (f := 23) (fn := Tryd.f23) (by kernel_rfl) Tryd.func23 (by kernel_rfl)
theorem has_turn_Back : seat.sys.Has F.turn_Back S_turn_Back := Seat.has seat_ok (f := 24) (fn := Tryd.f24) (by kernel_rfl) Tryd.func24 (by kernel_rfl)
theorem has_rref6_BackTable : seat.sys.Has F.rref6_BackTable S_rref6_BackTable := Seat.has seat_ok (f := 25) (fn := Tryd.f25) (by kernel_rfl) Tryd.func25 (by kernel_rfl)
theorem has_rref6_Weight : seat.sys.Has F.rref6_Weight S_rref6_Weight := Seat.has seat_ok (f := 26) (fn := Tryd.f26) (by kernel_rfl) Tryd.func26 (by kernel_rfl)
theorem has_rref6_At : seat.sys.Has F.rref6_At S_rref6_At := Seat.has seat_ok (f := 27) (fn := Tryd.f27) (by kernel_rfl) Tryd.func27 (by kernel_rfl)
theorem has_turn_sides : seat.sys.Has F.turn_sides S_turn_sides := Seat.has seat_ok (f := 30) (fn := Tryd.f30) (by kernel_rfl) Tryd.func30 (by kernel_rfl)
theorem has_turn_fault : seat.sys.Has F.turn_fault S_turn_fault := Seat.has seat_ok (f := 31) (fn := Tryd.f31) (by kernel_rfl) Tryd.func31 (by kernel_rfl)
theorem has_cost_Weight : seat.sys.Has F.cost_Weight S_cost_Weight := Seat.has seat_ok (f := 32) (fn := Tryd.f32) (by kernel_rfl) Tryd.func32 (by kernel_rfl)
theorem has_slices_Equal_int64_int64 : seat.sys.Has F.slices_Equal_int64_int64 S_slices_Equal_int64_int64 := Seat.has seat_ok (f := 33) (fn := Tryd.f33) (by kernel_rfl) Tryd.func33 (by kernel_rfl)
theorem has_rref6_SameCosts : seat.sys.Has F.rref6_SameCosts S_rref6_SameCosts := Seat.has seat_ok (f := 34) (fn := Tryd.f34) (by kernel_rfl) Tryd.func34 (by kernel_rfl)
theorem has_slices_Clone_int64_int64 : seat.sys.Has F.slices_Clone_int64_int64 S_slices_Clone_int64_int64 := Seat.has seat_ok (f := 35) (fn := Tryd.f35) (by kernel_rfl) Tryd.func35 (by kernel_rfl)
theorem has_api_Fault_Unwrap : seat.sys.Has F.api_Fault_Unwrap S_api_Fault_Unwrap := Seat.has seat_ok (f := 63) (fn := Tryd.f63) (by kernel_rfl) Tryd.func63 (by kernel_rfl)
end Go.Proofs.YtomdihnecddfjaaDoor
