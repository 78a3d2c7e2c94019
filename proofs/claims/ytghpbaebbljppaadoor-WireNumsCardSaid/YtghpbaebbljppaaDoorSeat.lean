/- The seat's part: which number each function and each type of the program has, and that each function is its program in the small language. -/
import Derived.Test.YtghpbaebbljppaaDoorRows
import Derived.Test.YtghpbaebbljppaaDoorEngO
import Derived.Test.YtghpbaebbljppaaDoorSApi
import Derived.Test.YtghpbaebbljppaaDoorSRlaw1
import Derived.Test.YtghpbaebbljppaaDoorSRlaw4
import Derived.Test.YtghpbaebbljppaaDoorSRref6
import Derived.Test.YtghpbaebbljppaaDoorSSlices
import Derived.Test.YtghpbaebbljppaaDoorSWire
namespace Go.Proofs.YtghpbaebbljppaaDoor
open Go.Rm
noncomputable def seat : Go.Rm.Seat := ⟨Tryd.prog, [(69, 3), (70, 4), (71, 5), (72, 6), (73, 7), (74, 8), (75, 9), (76, 10), (77, 11), (78, 12), (79, 13), (80, 14), (81, 15), (82, 16), (83, 17), (84, 18), (33, 19), (50, 20), (85, 21), (86, 22), (87, 23), (88, 24), (89, 25), (51, 26), (52, 27), (65, 55)], [(1, 2), (2, 3), (3, 4), (4, 5), (5, 6), (6, 8), (7, 9), (8, 10), (9, 11), (10, 12), (11, 14), (12, 15), (13, 16), (14, 17), (15, 19), (16, 20), (17, 21), (73, 22), (23, 23), (48, 24), (22, 26), (74, 28), (75, 30), (44, 34), (45, 35), (42, 39), (43, 41), (76, 50), (49, 51), (77, 53), (50, 56), (52, 58), (51, 61), (53, 63), (54, 64), (55, 65), (56, 66), (40, 69), (57, 70), (58, 72), (35, 75), (59, 80), (60, 81), (61, 82), (62, 85), (63, 86), (64, 87), (65, 91), (30, 96), (31, 97), (32, 99), (33, 101), (34, 102), (36, 104), (37, 105), (38, 106), (39, 108), (66, 112), (67, 113), (68, 116), (69, 117), (70, 118), (71, 120), (72, 121)], []⟩
theorem seat_ok : seat.ok = true := by kernel_rfl
theorem has_rlaw4_WireNums : seat.sys.Has F.rlaw4_WireNums S_rlaw4_WireNums := Seat.has seat_ok (f := 3) (fn := Tryd.f3) (by kernel_rfl) Tryd.func3 (by kernel_rfl)
theorem has_rlaw4_WireSums : seat.sys.Has F.rlaw4_WireSums S_rlaw4_WireSums := Seat.has seat_ok (f := 4) (fn := Tryd.f4) (by kernel_rfl) Tryd.func4 (by kernel_rfl)
theorem has_rlaw4_WireMost : seat.sys.Has F.rlaw4_WireMost S_rlaw4_WireMost := Seat.has seat_ok (f := 5) (fn := Tryd.f5) (by kernel_rfl) Tryd.func5 (by kernel_rfl)
theorem has_rlaw4_WireOnce : seat.sys.Has F.rlaw4_WireOnce S_rlaw4_WireOnce := Seat.has seat_ok (f := 6) (fn := Tryd.f6) (by kernel_rfl) Tryd.func6 (by kernel_rfl)
theorem has_rlaw4_WireParts : seat.sys.Has F.rlaw4_WireParts S_rlaw4_WireParts := Seat.has seat_ok (f := 7) (fn := Tryd.f7) (by kernel_rfl) Tryd.func7 (by kernel_rfl)
theorem has_rlaw4_known : seat.sys.Has F.rlaw4_known S_rlaw4_known := Seat.has seat_ok (f := 8) (fn := Tryd.f8) (by kernel_rfl) Tryd.func8 (by kernel_rfl)
theorem has_wire_Uint : seat.sys.Has F.wire_Uint S_wire_Uint := Seat.has seat_ok (f := 9) (fn := Tryd.f9) (by kernel_rfl) Tryd.func9 (by kernel_rfl)
theorem has_rref6_Uint : seat.sys.Has F.rref6_Uint S_rref6_Uint := Seat.has seat_ok (f := 10) (fn := Tryd.f10) (by kernel_rfl) Tryd.func10 (by kernel_rfl)
theorem has_wire_Int : seat.sys.Has F.wire_Int S_wire_Int := Seat.has seat_ok (f := 11) (fn := Tryd.f11) (by kernel_rfl) Tryd.func11 (by kernel_rfl)
theorem has_rref6_Int : seat.sys.Has F.rref6_Int S_rref6_Int := Seat.has seat_ok (f := 12) (fn := Tryd.f12) (by kernel_rfl) Tryd.func12 (by kernel_rfl)
theorem has_wire_New : seat.sys.Has F.wire_New S_wire_New := Seat.has seat_ok (f := 13) (fn := Tryd.f13) (by kernel_rfl) Tryd.func13 (by kernel_rfl)
theorem has_wire_Reader_Uint : seat.sys.Has F.wire_Reader_Uint S_wire_Reader_Uint := Seat.has seat_ok (f := 14) (fn := Tryd.f14) (by kernel_rfl) Tryd.func14 (by kernel_rfl)
theorem has_wire_Reader_Int : seat.sys.Has F.wire_Reader_Int S_wire_Reader_Int := Seat.has seat_ok (f := 15) (fn := Tryd.f15) (by kernel_rfl) Tryd.func15 (by kernel_rfl)
theorem has_wire_Reader_Done : seat.sys.Has F.wire_Reader_Done S_wire_Reader_Done := Seat.has seat_ok (f := 16) (fn := Tryd.f16) (by kernel_rfl) Tryd.func16 (by kernel_rfl)
theorem has_wire_Reader_At : seat.sys.Has F.wire_Reader_At S_wire_Reader_At := Seat.has seat_ok (f := 17) (fn := Tryd.f17) (by kernel_rfl) Tryd.func17 (by kernel_rfl)
theorem has_wire_Reader_Err : seat.sys.Has F.wire_Reader_Err S_wire_Reader_Err := Seat.has seat_ok (f := 18) (fn := Tryd.f18) (by kernel_rfl) Tryd.func18 (by kernel_rfl)
theorem has_rlaw1_Tells : seat.sys.Has F.rlaw1_Tells S_rlaw1_Tells := Seat.has seat_ok (f := 19) (fn := Tryd.f19) (by kernel_rfl) Tryd.func19 (by kernel_rfl)
theorem has_rref6_At : seat.sys.Has F.rref6_At S_rref6_At := Seat.has seat_ok (f := 20) (fn := Tryd.f20) (by kernel_rfl) Tryd.func20 (by kernel_rfl)
theorem has_wire_Sum : seat.sys.Has F.wire_Sum S_wire_Sum := Seat.has seat_ok (f := 21) (fn := Tryd.f21) (by kernel_rfl) Tryd.func21 (by kernel_rfl)
theorem has_rref6_SumOf : seat.sys.Has F.rref6_SumOf S_rref6_SumOf := Seat.has seat_ok (f := 22) (fn := Tryd.f22) (by kernel_rfl) Tryd.func22 (by kernel_rfl)
theorem has_wire_Reader_Bytes : seat.sys.Has F.wire_Reader_Bytes S_wire_Reader_Bytes := Seat.has seat_ok (f := 23) (fn := Tryd.f23) (by kernel_rfl) Tryd.func23 (by kernel_rfl)
theorem has_slices_Clone_byte_byte : seat.sys.Has F.slices_Clone_byte_byte S_slices_Clone_byte_byte := Seat.has seat_ok (f := 24) (fn := Tryd.f24) (by kernel_rfl) Tryd.func24 (by kernel_rfl)
theorem has_wire_scan : seat.sys.Has F.wire_scan S_wire_scan := Seat.has seat_ok (f := 25) (fn := Tryd.f25) (by kernel_rfl) Tryd.func25 (by kernel_rfl)
theorem has_api_Fault_Unwrap : seat.sys.Has F.api_Fault_Unwrap S_api_Fault_Unwrap := Seat.has seat_ok (f := 55) (fn := Tryd.f55) (by kernel_rfl) Tryd.func55 (by kernel_rfl)
end Go.Proofs.YtghpbaebbljppaaDoor
