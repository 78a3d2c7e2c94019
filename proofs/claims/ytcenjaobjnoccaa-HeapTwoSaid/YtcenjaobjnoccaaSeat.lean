/- The seat's part: which number each function and each type of the program has, and that each function is its program in the small language. -/
import Derived.Test.YtcenjaobjnoccaaRows
import Derived.Test.YtcenjaobjnoccaaEngO
import Derived.Test.YtcenjaobjnoccaaSCost
import Derived.Test.YtcenjaobjnoccaaSHeap
import Derived.Test.YtcenjaobjnoccaaSRlaw7
import Derived.Test.YtcenjaobjnoccaaSRref11
import Derived.Test.YtcenjaobjnoccaaSRref6
namespace Go.Proofs.Ytcenjaobjnoccaa
open Go.Rm
noncomputable def seat : Go.Rm.Seat := ⟨Try.prog, [(1, 3), (2, 4), (3, 5), (4, 6), (5, 7), (6, 8), (7, 9), (8, 10), (9, 11), (10, 12), (11, 13), (12, 14), (13, 15), (14, 16), (15, 17), (16, 18), (17, 19), (18, 20), (19, 21), (20, 22), (21, 23), (22, 24), (23, 25), (24, 26), (25, 27)], [(1, 2), (2, 3), (3, 4), (4, 5), (5, 6), (6, 8), (7, 9), (8, 10), (9, 11), (10, 12), (11, 14), (12, 15), (13, 16), (14, 17), (15, 19), (16, 20), (17, 21), (18, 22), (19, 24), (20, 26), (21, 29), (22, 35), (23, 36), (24, 37), (25, 38), (26, 46), (27, 48), (28, 49), (29, 51), (30, 58), (31, 59), (32, 61), (33, 62), (34, 63), (35, 64), (36, 66), (37, 67), (38, 68), (39, 70), (40, 71)], []⟩
theorem seat_ok : seat.ok = true := by kernel_rfl
theorem has_rlaw7_HeapPlays : seat.sys.Has F.rlaw7_HeapPlays S_rlaw7_HeapPlays := Seat.has seat_ok (f := 3) (fn := Try.f3) (by kernel_rfl) Try.func3 (by kernel_rfl)
theorem has_rlaw7_HeapSorts : seat.sys.Has F.rlaw7_HeapSorts S_rlaw7_HeapSorts := Seat.has seat_ok (f := 4) (fn := Try.f4) (by kernel_rfl) Try.func4 (by kernel_rfl)
theorem has_rlaw7_HeapEdges : seat.sys.Has F.rlaw7_HeapEdges S_rlaw7_HeapEdges := Seat.has seat_ok (f := 5) (fn := Try.f5) (by kernel_rfl) Try.func5 (by kernel_rfl)
theorem has_rlaw7_HeapTwo : seat.sys.Has F.rlaw7_HeapTwo S_rlaw7_HeapTwo := Seat.has seat_ok (f := 6) (fn := Try.f6) (by kernel_rfl) Try.func6 (by kernel_rfl)
theorem has_rlaw7_known : seat.sys.Has F.rlaw7_known S_rlaw7_known := Seat.has seat_ok (f := 7) (fn := Try.f7) (by kernel_rfl) Try.func7 (by kernel_rfl)
theorem has_heap_New : seat.sys.Has F.heap_New S_heap_New := Seat.has seat_ok (f := 8) (fn := Try.f8) (by kernel_rfl) Try.func8 (by kernel_rfl)
theorem has_rref11_NewHeap : seat.sys.Has F.rref11_NewHeap S_rref11_NewHeap := Seat.has seat_ok (f := 9) (fn := Try.f9) (by kernel_rfl) Try.func9 (by kernel_rfl)
theorem has_heap_Heap_Put : seat.sys.Has F.heap_Heap_Put S_heap_Heap_Put := Seat.has seat_ok (f := 10) (fn := Try.f10) (by kernel_rfl) Try.func10 (by kernel_rfl)
theorem has_rref11_Heap_Put : seat.sys.Has F.rref11_Heap_Put S_rref11_Heap_Put := Seat.has seat_ok (f := 11) (fn := Try.f11) (by kernel_rfl) Try.func11 (by kernel_rfl)
theorem has_heap_Heap_Pop : seat.sys.Has F.heap_Heap_Pop S_heap_Heap_Pop := Seat.has seat_ok (f := 12) (fn := Try.f12) (by kernel_rfl) Try.func12 (by kernel_rfl)
theorem has_rref11_Heap_Pop : seat.sys.Has F.rref11_Heap_Pop S_rref11_Heap_Pop := Seat.has seat_ok (f := 13) (fn := Try.f13) (by kernel_rfl) Try.func13 (by kernel_rfl)
theorem has_heap_Heap_Clear : seat.sys.Has F.heap_Heap_Clear S_heap_Heap_Clear := Seat.has seat_ok (f := 14) (fn := Try.f14) (by kernel_rfl) Try.func14 (by kernel_rfl)
theorem has_rlaw7_same : seat.sys.Has F.rlaw7_same S_rlaw7_same := Seat.has seat_ok (f := 15) (fn := Try.f15) (by kernel_rfl) Try.func15 (by kernel_rfl)
theorem has_rref6_Held : seat.sys.Has F.rref6_Held S_rref6_Held := Seat.has seat_ok (f := 16) (fn := Try.f16) (by kernel_rfl) Try.func16 (by kernel_rfl)
theorem has_heap_Heap_Len : seat.sys.Has F.heap_Heap_Len S_heap_Heap_Len := Seat.has seat_ok (f := 17) (fn := Try.f17) (by kernel_rfl) Try.func17 (by kernel_rfl)
theorem has_heap_Heap_Cost : seat.sys.Has F.heap_Heap_Cost S_heap_Heap_Cost := Seat.has seat_ok (f := 18) (fn := Try.f18) (by kernel_rfl) Try.func18 (by kernel_rfl)
theorem has_rlaw7_first : seat.sys.Has F.rlaw7_first S_rlaw7_first := Seat.has seat_ok (f := 19) (fn := Try.f19) (by kernel_rfl) Try.func19 (by kernel_rfl)
theorem has_heap_Heap_key : seat.sys.Has F.heap_Heap_key S_heap_Heap_key := Seat.has seat_ok (f := 20) (fn := Try.f20) (by kernel_rfl) Try.func20 (by kernel_rfl)
theorem has_cost_Held : seat.sys.Has F.cost_Held S_cost_Held := Seat.has seat_ok (f := 21) (fn := Try.f21) (by kernel_rfl) Try.func21 (by kernel_rfl)
theorem has_heap_Heap_up : seat.sys.Has F.heap_Heap_up S_heap_Heap_up := Seat.has seat_ok (f := 22) (fn := Try.f22) (by kernel_rfl) Try.func22 (by kernel_rfl)
theorem has_heap_Heap_swap : seat.sys.Has F.heap_Heap_swap S_heap_Heap_swap := Seat.has seat_ok (f := 23) (fn := Try.f23) (by kernel_rfl) Try.func23 (by kernel_rfl)
theorem has_heap_Heap_down : seat.sys.Has F.heap_Heap_down S_heap_Heap_down := Seat.has seat_ok (f := 24) (fn := Try.f24) (by kernel_rfl) Try.func24 (by kernel_rfl)
theorem has_rref11_Heap_Len : seat.sys.Has F.rref11_Heap_Len S_rref11_Heap_Len := Seat.has seat_ok (f := 25) (fn := Try.f25) (by kernel_rfl) Try.func25 (by kernel_rfl)
theorem has_rref11_Heap_Cost : seat.sys.Has F.rref11_Heap_Cost S_rref11_Heap_Cost := Seat.has seat_ok (f := 26) (fn := Try.f26) (by kernel_rfl) Try.func26 (by kernel_rfl)
theorem has_heap_Heap_ahead : seat.sys.Has F.heap_Heap_ahead S_heap_Heap_ahead := Seat.has seat_ok (f := 27) (fn := Try.f27) (by kernel_rfl) Try.func27 (by kernel_rfl)
end Go.Proofs.Ytcenjaobjnoccaa
