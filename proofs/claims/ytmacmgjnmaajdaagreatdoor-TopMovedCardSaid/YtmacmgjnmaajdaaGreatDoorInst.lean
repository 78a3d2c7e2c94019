/- Each function that the law comes to is its program; the library's sort, by the shelf's contract. -/
import Derived.Test.YtmacmgjnmaajdaaGreatDoorTie
import Derived.Test.YtmacmgjnmaajdaaGreatDoorCards
import Derived.Test.YtmacmgjnmaajdaaGreatDoorT04
import Derived.Test.YtmacmgjnmaajdaaGreatDoorT11
import Derived.Test.YtmacmgjnmaajdaaGreatDoorT16
import Derived.Test.YtmacmgjnmaajdaaGreatDoorT24
import Derived.Test.YtmacmgjnmaajdaaGreatDoorT25
import Derived.Shelf.Sort.Plain
import Derived.SevenTiedAt
import Derived.Stop.Joined
import Derived.Shelf.SlSortCmp.NoneTotal
import Derived.Shelf.Abstract
import Derived.Test.YtmacmgjnmaajdaaGreatDoorKnown
namespace Go.Proofs.YtmacmgjnmaajdaaGreatDoor
open Go.Rm
/-- the library's sort of numbers, by the shelf's contract -/
def ren : Go.Shelf.Ren := ⟨fun | 125 => 165 | 128 => 225 | 129 => 226 | 189 => 311 | 215 => 166 | 216 => 271 | 257 => 328 | 294 => 336 | 295 => 337 | 296 => 338 | 297 => 339 | 298 => 340 | 299 => 341 | 300 => 342 | 301 => 343 | 328 => 348 | 329 => 282 | 330 => 283 | 331 => 349 | 332 => 350 | 343 => 357 | x => x, fun | 0 => 0 | 3 => 3 | 4 => 4 | 5 => 5 | 9 => 9 | 28 => 50 | 46 => 175 | 51 => 376 | 53 => 222 | 131 => 280 | 182 => 369 | 183 => 370 | 218 => 422 | 222 => 426 | 228 => 448 | 229 => 449 | x => x, fun x => x⟩
set_option maxRecDepth 100000 in
theorem lays : Go.Proofs.Lays.n189 Tryz.prog ren := by
  constructor <;> first | kernel_rfl | (intro w; kernel_rfl)
theorem sortOk : Xcz seat.sys := fun o hn hl hr => by
  have h := Xeo (P := Tryz.prog) (f := 311) (fun cM off cap zs w h1 h2 h3 => Go.Proofs.Any.slices_Sort_int lays cM off cap zs w h1 h2 h3) o hn hl hr
  unfold Zt
  exact h
def laysVR : Go.Shelf.Ren := ⟨fun | 6 => 157 | 14 => 215 | 15 => 165 | 20 => 273 | 21 => 274 | 22 => 275 | 23 => 276 | 24 => 277 | 25 => 278 | 26 => 279 | 27 => 280 | 28 => 225 | 29 => 226 | 46 => 313 | 47 => 282 | 48 => 283 | 49 => 314 | 50 => 315 | 57 => 329 | x => x, fun | 0 => 0 | 3 => 3 | 4 => 4 | 5 => 5 | 9 => 9 | 22 => 204 | 24 => 207 | 25 => 293 | 39 => 175 | 45 => 369 | 46 => 370 | 50 => 280 | 53 => 376 | 55 => 222 | 66 => 422 | 70 => 426 | 76 => 448 | 77 => 449 | x => x, fun x => x⟩
set_option maxRecDepth 100000 in
theorem laysV : Go.Proofs.SlLaysF0.n6 Tryz.prog laysVR := by
  refine ⟨?_,⟨"slices.SortFunc[[]roundsman/save.Saving,roundsman/save.Saving]",rfl,?_⟩,⟨"slices.pdqsortCmpFunc[roundsman/save.Saving]",rfl,?_⟩,?_,⟨"slices.insertionSortCmpFunc[roundsman/save.Saving]",rfl,?_⟩,⟨"slices.heapSortCmpFunc[roundsman/save.Saving]",rfl,?_⟩,⟨"slices.breakPatternsCmpFunc[roundsman/save.Saving]",rfl,?_⟩,⟨"slices.choosePivotCmpFunc[roundsman/save.Saving]",rfl,?_⟩,⟨"slices.reverseRangeCmpFunc[roundsman/save.Saving]",rfl,?_⟩,⟨"slices.partialInsertionSortCmpFunc[roundsman/save.Saving]",rfl,?_⟩,⟨"slices.partitionEqualCmpFunc[roundsman/save.Saving]",rfl,?_⟩,⟨"slices.partitionCmpFunc[roundsman/save.Saving]",rfl,?_⟩,?_,?_,⟨"slices.siftDownCmpFunc[roundsman/save.Saving]",rfl,?_⟩,?_,?_,⟨"slices.medianAdjacentCmpFunc[roundsman/save.Saving]",rfl,?_⟩,⟨"slices.medianCmpFunc[roundsman/save.Saving]",rfl,?_⟩,⟨"slices.order2CmpFunc[roundsman/save.Saving]",rfl,?_⟩,?_,?_,?_,?_,?_,?_,?_,?_,?_,?_,?_,?_,?_,?_,?_,?_,?_,?_,?_,?_,?_,?_,?_,?_,?_,?_,?_,?_,?_,?_,?_,?_,?_,?_,?_,?_,?_,?_,?_,?_,?_,?_,?_,?_,?_,?_,?_,?_,?_,?_,?_,?_,?_,?_,?_,?_,?_,?_,?_,?_,?_,?_,?_,?_,?_,?_,?_,?_⟩ <;> first | kernel_rfl | (intro w; kernel_rfl)
def laysUR : Go.Shelf.Ren := ⟨fun | 6 => 91 | 14 => 164 | 15 => 165 | 20 => 217 | 21 => 218 | 22 => 219 | 23 => 220 | 24 => 221 | 25 => 222 | 26 => 223 | 27 => 224 | 28 => 225 | 29 => 226 | 46 => 281 | 47 => 282 | 48 => 283 | 49 => 284 | 50 => 285 | 57 => 316 | x => x, fun | 0 => 0 | 3 => 3 | 4 => 4 | 5 => 5 | 9 => 9 | 22 => 27 | 24 => 50 | 25 => 215 | 39 => 175 | 45 => 369 | 46 => 370 | 50 => 280 | 53 => 376 | 55 => 222 | 66 => 422 | 70 => 426 | 76 => 448 | 77 => 449 | x => x, fun x => x⟩
set_option maxRecDepth 100000 in
theorem laysU : Go.Proofs.SlLaysF.n6 Tryz.prog laysUR := by
  refine ⟨?_,⟨"slices.SortFunc[[][]int,[]int]",rfl,?_⟩,⟨"slices.pdqsortCmpFunc[[]int]",rfl,?_⟩,?_,⟨"slices.insertionSortCmpFunc[[]int]",rfl,?_⟩,⟨"slices.heapSortCmpFunc[[]int]",rfl,?_⟩,⟨"slices.breakPatternsCmpFunc[[]int]",rfl,?_⟩,⟨"slices.choosePivotCmpFunc[[]int]",rfl,?_⟩,⟨"slices.reverseRangeCmpFunc[[]int]",rfl,?_⟩,⟨"slices.partialInsertionSortCmpFunc[[]int]",rfl,?_⟩,⟨"slices.partitionEqualCmpFunc[[]int]",rfl,?_⟩,⟨"slices.partitionCmpFunc[[]int]",rfl,?_⟩,?_,?_,⟨"slices.siftDownCmpFunc[[]int]",rfl,?_⟩,?_,?_,⟨"slices.medianAdjacentCmpFunc[[]int]",rfl,?_⟩,⟨"slices.medianCmpFunc[[]int]",rfl,?_⟩,⟨"slices.order2CmpFunc[[]int]",rfl,?_⟩,?_,?_,?_,?_,?_,?_,?_,?_,?_,?_,?_,?_,?_,?_,?_,?_,?_,?_,?_,?_,?_,?_,?_,?_,?_,?_,?_,?_,?_,?_,?_,?_,?_,?_,?_,?_,?_,?_,?_,?_,?_,?_,?_,?_,?_,?_,?_,?_,?_,?_,?_,?_,?_,?_,?_,?_,?_,?_,?_,?_,?_,?_,?_,?_,?_,?_,?_,?_,?_,?_⟩ <;> first | kernel_rfl | (intro w; kernel_rfl)
theorem enV : ∀ args w, (callFunc 158 args).run Tryz.prog w = .ok (.enter 158 args) w := Go.Proofs.enters_of Tryz.func158 (by kernel_rfl) rfl
theorem enU : ∀ args w, (callFunc 92 args).run Tryz.prog w = .ok (.enter 92 args) w := Go.Proofs.enters_of Tryz.func92 (by kernel_rfl) rfl
theorem cmpFns : Zkx seat.sys := by
  repeat' first | exact hk (by kernel_rfl) | constructor
theorem aggV (w) : (isAgg 207).run Tryz.prog w = .ok true w := by kernel_rfl
theorem sizV (w) : (Go.sizeOf 207).run Tryz.prog w = .ok 3 w := by kernel_rfl
theorem savOk : Xgl seat.sys := ⟨fun o hl hr => by
  have h := Xeg (P := Tryz.prog) (f := 157) (g := 158) (fun cM cap d w h1 h2 h3 h4 => Go.Proofs.AnyQ.slices_SortFunc laysV 3 aggV sizV Zwa (fun _ => rfl) (fun x v hv => by simp [Zwa] at hv; rcases hv with rfl | rfl | rfl <;> rfl) cfT Xi3 158 #[] cM 0 cap d w enV h1 h2 h3 h4)
    (fun p cap fv w => Go.Proofs.AnyF.slices_SortFunc_none laysV p cap fv w) (fun x y h R hr => Xe9 (Y := seat.sys) cmpFns hr) o hl hr
  exact h⟩
theorem rtSort : Xce seat.sys := ⟨fun o hn hne hl hr => by
  have h := Xfp (P := Tryz.prog) (f := 91) (g := 92) (fun α _ enc cf cM cap d w h0 hO h1 h2 h3 h4 => Go.Proofs.Any.slices_SortFunc laysU enc h0 cf hO 92 #[] cM 0 cap d w enU h1 h2 h3 h4)
    (fun p cap fv w => Go.Proofs.AnyF.slices_SortFunc_none { laysU with } p cap fv w) (fun v w p q h R a b c d hr => Xf1 (Y := seat.sys) cmpFns a b c d hr) o hn hne hl hr
  exact h⟩
theorem fns : Zyz seat.sys := by
  repeat' first | exact known | exact sortOk | exact savOk | exact rtSort | exact hk (by kernel_rfl) | constructor
end Go.Proofs.YtmacmgjnmaajdaaGreatDoor
