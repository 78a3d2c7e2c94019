/- The seat's part: which number each function and each type of the program has, and that each function is its program in the small language. -/
import Derived.Test.YtmamhkolgnoefaaDoorRows
import Derived.Test.YtmamhkolgnoefaaDoorEngR
import Derived.Test.YtmamhkolgnoefaaDoorSNums
namespace Go.Proofs.YtmamhkolgnoefaaDoor
open Go.Rm
noncomputable def seat : Go.Rm.Seat := ⟨Tryd.prog, [(136, 3), (137, 4), (138, 5), (139, 6), (140, 7), (141, 8), (142, 9), (143, 10), (144, 11), (145, 12), (146, 13), (147, 14), (148, 15), (149, 16), (33, 17), (50, 18), (150, 19), (151, 20), (152, 21), (153, 22), (154, 23), (131, 24), (155, 25), (156, 26), (157, 27), (51, 28), (52, 29), (158, 30), (159, 31), (160, 32), (161, 33), (162, 34), (163, 35), (164, 42), (165, 43)], [(1, 2), (2, 3), (3, 4), (4, 5), (5, 6), (6, 8), (7, 9), (8, 10), (9, 11), (10, 12), (11, 14), (12, 15), (13, 16), (14, 17), (15, 19), (16, 20), (17, 21), (90, 22), (26, 23), (28, 24), (91, 26), (92, 30), (42, 33), (43, 35), (44, 37), (45, 38), (93, 43), (48, 47), (94, 56), (95, 60), (96, 62), (49, 66), (50, 67), (51, 69), (52, 71), (53, 73), (54, 74), (97, 80), (98, 82), (55, 84), (56, 85), (40, 88), (57, 89), (58, 91), (35, 94), (59, 102), (60, 103), (61, 104), (62, 107), (63, 109), (64, 110), (65, 114), (30, 119), (31, 120), (32, 122), (33, 125), (34, 126), (36, 128), (37, 129), (38, 130), (39, 132), (66, 136), (67, 137), (68, 140), (69, 141), (70, 142), (71, 144), (72, 145)], []⟩
theorem seat_ok : seat.ok = true := by kernel_rfl
theorem has_rlaw9_FlowProves : seat.sys.Has F.rlaw9_FlowProves S_rlaw9_FlowProves := Seat.has seat_ok (f := 3) (fn := Tryd.f3) (by kernel_rfl) Tryd.func3 (by kernel_rfl)
theorem has_rlaw9_FlowCuts : seat.sys.Has F.rlaw9_FlowCuts S_rlaw9_FlowCuts := Seat.has seat_ok (f := 4) (fn := Tryd.f4) (by kernel_rfl) Tryd.func4 (by kernel_rfl)
theorem has_rlaw9_FlowTurned : seat.sys.Has F.rlaw9_FlowTurned S_rlaw9_FlowTurned := Seat.has seat_ok (f := 5) (fn := Tryd.f5) (by kernel_rfl) Tryd.func5 (by kernel_rfl)
theorem has_rlaw9_FlowRows : seat.sys.Has F.rlaw9_FlowRows S_rlaw9_FlowRows := Seat.has seat_ok (f := 6) (fn := Tryd.f6) (by kernel_rfl) Tryd.func6 (by kernel_rfl)
theorem has_rlaw9_FlowMore : seat.sys.Has F.rlaw9_FlowMore S_rlaw9_FlowMore := Seat.has seat_ok (f := 7) (fn := Tryd.f7) (by kernel_rfl) Tryd.func7 (by kernel_rfl)
theorem has_rlaw9_known : seat.sys.Has F.rlaw9_known S_rlaw9_known := Seat.has seat_ok (f := 8) (fn := Tryd.f8) (by kernel_rfl) Tryd.func8 (by kernel_rfl)
theorem has_flow_Proves : seat.sys.Has F.flow_Proves S_flow_Proves := Seat.has seat_ok (f := 9) (fn := Tryd.f9) (by kernel_rfl) Tryd.func9 (by kernel_rfl)
theorem has_rlaw9_copies : seat.sys.Has F.rlaw9_copies S_rlaw9_copies := Seat.has seat_ok (f := 10) (fn := Tryd.f10) (by kernel_rfl) Tryd.func10 (by kernel_rfl)
theorem has_rlaw9_To : seat.sys.Has F.rlaw9_To S_rlaw9_To := Seat.has seat_ok (f := 11) (fn := Tryd.f11) (by kernel_rfl) Tryd.func11 (by kernel_rfl)
theorem has_rref11_Proves : seat.sys.Has F.rref11_Proves S_rref11_Proves := Seat.has seat_ok (f := 12) (fn := Tryd.f12) (by kernel_rfl) Tryd.func12 (by kernel_rfl)
theorem has_rref11_CheckFlow : seat.sys.Has F.rref11_CheckFlow S_rref11_CheckFlow := Seat.has seat_ok (f := 13) (fn := Tryd.f13) (by kernel_rfl) Tryd.func13 (by kernel_rfl)
theorem has_flow_Max : seat.sys.Has F.flow_Max S_flow_Max := Seat.has seat_ok (f := 14) (fn := Tryd.f14) (by kernel_rfl) Tryd.func14 (by kernel_rfl)
theorem has_rref11_Cross : seat.sys.Has F.rref11_Cross S_rref11_Cross := Seat.has seat_ok (f := 15) (fn := Tryd.f15) (by kernel_rfl) Tryd.func15 (by kernel_rfl)
theorem has_rref11_SameBools : seat.sys.Has F.rref11_SameBools S_rref11_SameBools := Seat.has seat_ok (f := 16) (fn := Tryd.f16) (by kernel_rfl) Tryd.func16 (by kernel_rfl)
theorem has_rlaw1_Tells : seat.sys.Has F.rlaw1_Tells S_rlaw1_Tells := Seat.has seat_ok (f := 17) (fn := Tryd.f17) (by kernel_rfl) Tryd.func17 (by kernel_rfl)
theorem has_rref6_At : seat.sys.Has F.rref6_At S_rref6_At := Seat.has seat_ok (f := 18) (fn := Tryd.f18) (by kernel_rfl) Tryd.func18 (by kernel_rfl)
theorem has_flow_check : seat.sys.Has F.flow_check S_flow_check := Seat.has seat_ok (f := 19) (fn := Tryd.f19) (by kernel_rfl) Tryd.func19 (by kernel_rfl)
theorem has_flow_value : seat.sys.Has F.flow_value S_flow_value := Seat.has seat_ok (f := 20) (fn := Tryd.f20) (by kernel_rfl) Tryd.func20 (by kernel_rfl)
theorem has_flow_sides : seat.sys.Has F.flow_sides S_flow_sides := Seat.has seat_ok (f := 21) (fn := Tryd.f21) (by kernel_rfl) Tryd.func21 (by kernel_rfl)
theorem has_flow_links : seat.sys.Has F.flow_links S_flow_links := Seat.has seat_ok (f := 22) (fn := Tryd.f22) (by kernel_rfl) Tryd.func22 (by kernel_rfl)
theorem has_slices_Equal_bool_bool : seat.sys.Has F.slices_Equal_bool_bool S_slices_Equal_bool_bool := Seat.has seat_ok (f := 23) (fn := Tryd.f23) (by kernel_rfl) Tryd.func23 (by kernel_rfl)
theorem has_rref6_Place : seat.sys.Has F.rref6_Place S_rref6_Place := Seat.has seat_ok (f := 24) (fn := Tryd.f24) (by kernel_rfl) Tryd.func24 (by kernel_rfl)
theorem has_rref11_sides : seat.sys.Has F.rref11_sides S_rref11_sides := Seat.has seat_ok (f := 25) (fn := Tryd.f25) (by kernel_rfl) Tryd.func25 (by kernel_rfl)
theorem has_flow_work_grow : seat.sys.Has F.flow_work_grow S_flow_work_grow := Seat.has seat_ok (f := 26) (fn := Tryd.f26) (by kernel_rfl) Tryd.func26 (by kernel_rfl)
theorem has_rref11_marked : seat.sys.Has F.rref11_marked S_rref11_marked := Seat.has seat_ok (f := 27) (fn := Tryd.f27) (by kernel_rfl) Tryd.func27 (by kernel_rfl)
theorem has_flow_fault : seat.sys.Has F.flow_fault S_flow_fault := Seat.has seat_ok (f := 30) (fn := Tryd.f30) (by kernel_rfl) Tryd.func30 (by kernel_rfl)
theorem has_flow_check_1 : seat.sys.Has F.flow_check_1 S_flow_check_1 := Seat.has seat_ok (f := 31) (fn := Tryd.f31) (by kernel_rfl) Tryd.func31 (by kernel_rfl)
theorem has_flow_rest : seat.sys.Has F.flow_rest S_flow_rest := Seat.has seat_ok (f := 32) (fn := Tryd.f32) (by kernel_rfl) Tryd.func32 (by kernel_rfl)
theorem has_flow_depths : seat.sys.Has F.flow_depths S_flow_depths := Seat.has seat_ok (f := 33) (fn := Tryd.f33) (by kernel_rfl) Tryd.func33 (by kernel_rfl)
theorem has_rref11_reach : seat.sys.Has F.rref11_reach S_rref11_reach := Seat.has seat_ok (f := 34) (fn := Tryd.f34) (by kernel_rfl) Tryd.func34 (by kernel_rfl)
theorem has_flow_work_push : seat.sys.Has F.flow_work_push S_flow_work_push := Seat.has seat_ok (f := 35) (fn := Tryd.f35) (by kernel_rfl) Tryd.func35 (by kernel_rfl)
theorem has_rref11_room : seat.sys.Has F.rref11_room S_rref11_room := Seat.has seat_ok (f := 42) (fn := Tryd.f42) (by kernel_rfl) Tryd.func42 (by kernel_rfl)
theorem has_flow_work_advance : seat.sys.Has F.flow_work_advance S_flow_work_advance := Seat.has seat_ok (f := 43) (fn := Tryd.f43) (by kernel_rfl) Tryd.func43 (by kernel_rfl)
end Go.Proofs.YtmamhkolgnoefaaDoor
