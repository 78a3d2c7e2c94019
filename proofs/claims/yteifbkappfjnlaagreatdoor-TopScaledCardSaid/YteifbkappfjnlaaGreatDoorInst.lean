/- Each function that the law comes to is its program; the library's sort, by the shelf's contract. -/
import Derived.Test.YteifbkappfjnlaaGreatDoorTie
import Derived.Test.YteifbkappfjnlaaGreatDoorCards
import Derived.Test.YteifbkappfjnlaaGreatDoorT04
import Derived.Test.YteifbkappfjnlaaGreatDoorT11
import Derived.Test.YteifbkappfjnlaaGreatDoorT16
import Derived.Test.YteifbkappfjnlaaGreatDoorT25
import Derived.Shelf.Sort.Plain
import Derived.SevenTiedAt
import Derived.Stop.Joined
import Derived.Shelf.SlSortCmp.NoneTotal
import Derived.Shelf.Abstract
import Derived.Test.YteifbkappfjnlaaGreatDoorKnown
namespace Go.Proofs.YteifbkappfjnlaaGreatDoor
open Go.Rm
/-- the library's sort of numbers, by the shelf's contract -/
def ren : Go.Shelf.Ren := ⟨fun | 125 => 159 | 128 => 220 | 129 => 221 | 189 => 306 | 215 => 160 | 216 => 266 | 257 => 323 | 294 => 331 | 295 => 332 | 296 => 333 | 297 => 334 | 298 => 335 | 299 => 336 | 300 => 337 | 301 => 338 | 328 => 343 | 329 => 277 | 330 => 278 | 331 => 344 | 332 => 345 | 343 => 352 | x => x, fun | 0 => 0 | 3 => 3 | 4 => 4 | 5 => 5 | 9 => 9 | 28 => 63 | 46 => 290 | 51 => 368 | 53 => 204 | 131 => 271 | 182 => 361 | 183 => 362 | 218 => 414 | 222 => 418 | 228 => 440 | 229 => 441 | x => x, fun x => x⟩
set_option maxRecDepth 100000 in
theorem lays : Go.Proofs.Lays.n189 Tryz.prog ren := by
  constructor <;> first | kernel_rfl | (intro w; kernel_rfl)
theorem sortOk : Xcm seat.sys := fun o hn hl hr => by
  have h := Xea (P := Tryz.prog) (f := 306) (fun cM off cap zs w h1 h2 h3 => Go.Proofs.Any.slices_Sort_int lays cM off cap zs w h1 h2 h3) o hn hl hr
  unfold Zu
  exact h
def laysVR : Go.Shelf.Ren := ⟨fun | 6 => 151 | 14 => 210 | 15 => 159 | 20 => 268 | 21 => 269 | 22 => 270 | 23 => 271 | 24 => 272 | 25 => 273 | 26 => 274 | 27 => 275 | 28 => 220 | 29 => 221 | 46 => 308 | 47 => 277 | 48 => 278 | 49 => 309 | 50 => 310 | 57 => 324 | x => x, fun | 0 => 0 | 3 => 3 | 4 => 4 | 5 => 5 | 9 => 9 | 22 => 186 | 24 => 189 | 25 => 284 | 39 => 290 | 45 => 361 | 46 => 362 | 50 => 271 | 53 => 368 | 55 => 204 | 66 => 414 | 70 => 418 | 76 => 440 | 77 => 441 | x => x, fun x => x⟩
set_option maxRecDepth 100000 in
theorem laysV : Go.Proofs.SlLaysF0.n6 Tryz.prog laysVR := by
  refine ⟨?_,⟨"slices.SortFunc[[]roundsman/save.Saving,roundsman/save.Saving]",rfl,?_⟩,⟨"slices.pdqsortCmpFunc[roundsman/save.Saving]",rfl,?_⟩,?_,⟨"slices.insertionSortCmpFunc[roundsman/save.Saving]",rfl,?_⟩,⟨"slices.heapSortCmpFunc[roundsman/save.Saving]",rfl,?_⟩,⟨"slices.breakPatternsCmpFunc[roundsman/save.Saving]",rfl,?_⟩,⟨"slices.choosePivotCmpFunc[roundsman/save.Saving]",rfl,?_⟩,⟨"slices.reverseRangeCmpFunc[roundsman/save.Saving]",rfl,?_⟩,⟨"slices.partialInsertionSortCmpFunc[roundsman/save.Saving]",rfl,?_⟩,⟨"slices.partitionEqualCmpFunc[roundsman/save.Saving]",rfl,?_⟩,⟨"slices.partitionCmpFunc[roundsman/save.Saving]",rfl,?_⟩,?_,?_,⟨"slices.siftDownCmpFunc[roundsman/save.Saving]",rfl,?_⟩,?_,?_,⟨"slices.medianAdjacentCmpFunc[roundsman/save.Saving]",rfl,?_⟩,⟨"slices.medianCmpFunc[roundsman/save.Saving]",rfl,?_⟩,⟨"slices.order2CmpFunc[roundsman/save.Saving]",rfl,?_⟩,?_,?_,?_,?_,?_,?_,?_,?_,?_,?_,?_,?_,?_,?_,?_,?_,?_,?_,?_,?_,?_,?_,?_,?_,?_,?_,?_,?_,?_,?_,?_,?_,?_,?_,?_,?_,?_,?_,?_,?_,?_,?_,?_,?_,?_,?_,?_,?_,?_,?_,?_,?_,?_,?_,?_,?_,?_,?_,?_,?_,?_,?_,?_,?_,?_,?_,?_,?_⟩ <;> first | kernel_rfl | (intro w; kernel_rfl)
def laysUR : Go.Shelf.Ren := ⟨fun | 6 => 82 | 14 => 158 | 15 => 159 | 20 => 212 | 21 => 213 | 22 => 214 | 23 => 215 | 24 => 216 | 25 => 217 | 26 => 218 | 27 => 219 | 28 => 220 | 29 => 221 | 46 => 276 | 47 => 277 | 48 => 278 | 49 => 279 | 50 => 280 | 57 => 311 | x => x, fun | 0 => 0 | 3 => 3 | 4 => 4 | 5 => 5 | 9 => 9 | 22 => 27 | 24 => 63 | 25 => 197 | 39 => 290 | 45 => 361 | 46 => 362 | 50 => 271 | 53 => 368 | 55 => 204 | 66 => 414 | 70 => 418 | 76 => 440 | 77 => 441 | x => x, fun x => x⟩
set_option maxRecDepth 100000 in
theorem laysU : Go.Proofs.SlLaysF.n6 Tryz.prog laysUR := by
  refine ⟨?_,⟨"slices.SortFunc[[][]int,[]int]",rfl,?_⟩,⟨"slices.pdqsortCmpFunc[[]int]",rfl,?_⟩,?_,⟨"slices.insertionSortCmpFunc[[]int]",rfl,?_⟩,⟨"slices.heapSortCmpFunc[[]int]",rfl,?_⟩,⟨"slices.breakPatternsCmpFunc[[]int]",rfl,?_⟩,⟨"slices.choosePivotCmpFunc[[]int]",rfl,?_⟩,⟨"slices.reverseRangeCmpFunc[[]int]",rfl,?_⟩,⟨"slices.partialInsertionSortCmpFunc[[]int]",rfl,?_⟩,⟨"slices.partitionEqualCmpFunc[[]int]",rfl,?_⟩,⟨"slices.partitionCmpFunc[[]int]",rfl,?_⟩,?_,?_,⟨"slices.siftDownCmpFunc[[]int]",rfl,?_⟩,?_,?_,⟨"slices.medianAdjacentCmpFunc[[]int]",rfl,?_⟩,⟨"slices.medianCmpFunc[[]int]",rfl,?_⟩,⟨"slices.order2CmpFunc[[]int]",rfl,?_⟩,?_,?_,?_,?_,?_,?_,?_,?_,?_,?_,?_,?_,?_,?_,?_,?_,?_,?_,?_,?_,?_,?_,?_,?_,?_,?_,?_,?_,?_,?_,?_,?_,?_,?_,?_,?_,?_,?_,?_,?_,?_,?_,?_,?_,?_,?_,?_,?_,?_,?_,?_,?_,?_,?_,?_,?_,?_,?_,?_,?_,?_,?_,?_,?_,?_,?_,?_,?_,?_,?_⟩ <;> first | kernel_rfl | (intro w; kernel_rfl)
theorem enV : ∀ args w, (callFunc 152 args).run Tryz.prog w = .ok (.enter 152 args) w := Go.Proofs.enters_of Tryz.func152 (by kernel_rfl) rfl
theorem enU : ∀ args w, (callFunc 83 args).run Tryz.prog w = .ok (.enter 83 args) w := Go.Proofs.enters_of Tryz.func83 (by kernel_rfl) rfl
theorem cmpFns : Zko seat.sys := by
  repeat' first | exact hk (by kernel_rfl) | constructor
theorem aggV (w) : (isAgg 189).run Tryz.prog w = .ok true w := by kernel_rfl
theorem sizV (w) : (Go.sizeOf 189).run Tryz.prog w = .ok 3 w := by kernel_rfl
theorem savOk : Xga seat.sys := ⟨fun o hl hr => by
  have h := Xd2 (P := Tryz.prog) (f := 151) (g := 152) (fun cM cap d w h1 h2 h3 h4 => Go.Proofs.AnyQ.slices_SortFunc laysV 3 aggV sizV Zvw (fun _ => rfl) (fun x v hv => by simp [Zvw] at hv; rcases hv with rfl | rfl | rfl <;> rfl) cfT Xis 152 #[] cM 0 cap d w enV h1 h2 h3 h4)
    (fun p cap fv w => Go.Proofs.AnyF.slices_SortFunc_none laysV p cap fv w) (fun x y h R hr => Xew (Y := seat.sys) cmpFns hr) o hl hr
  exact h⟩
theorem rtSort : Xb1 seat.sys := ⟨fun o hn hne hl hr => by
  have h := Xfe (P := Tryz.prog) (f := 82) (g := 83) (fun α _ enc cf cM cap d w h0 hO h1 h2 h3 h4 => Go.Proofs.Any.slices_SortFunc laysU enc h0 cf hO 83 #[] cM 0 cap d w enU h1 h2 h3 h4)
    (fun p cap fv w => Go.Proofs.AnyF.slices_SortFunc_none { laysU with } p cap fv w) (fun v w p q h R a b c d hr => Xfq (Y := seat.sys) cmpFns a b c d hr) o hn hne hl hr
  exact h⟩
theorem fns : Z21 seat.sys := by
  repeat' first | exact known | exact sortOk | exact savOk | exact rtSort | exact hk (by kernel_rfl) | constructor
end Go.Proofs.YteifbkappfjnlaaGreatDoor
