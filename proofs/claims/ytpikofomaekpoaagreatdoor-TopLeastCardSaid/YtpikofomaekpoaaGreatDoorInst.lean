/- Each function that the law comes to is its program; the library's sort, by the shelf's contract. -/
import Derived.Test.YtpikofomaekpoaaGreatDoorTie
import Derived.Test.YtpikofomaekpoaaGreatDoorCards
import Derived.Test.YtpikofomaekpoaaGreatDoorT04
import Derived.Test.YtpikofomaekpoaaGreatDoorT18
import Derived.Test.YtpikofomaekpoaaGreatDoorT34
import Derived.Test.YtpikofomaekpoaaGreatDoorT42
import Derived.Test.YtpikofomaekpoaaGreatDoorT43
import Derived.Shelf.Sort.Plain
import Derived.SevenTiedAt
import Derived.Stop.Joined
import Derived.Test.YtpikofomaekpoaaGreatDoorKnown
namespace Go.Proofs.YtpikofomaekpoaaGreatDoor
open Go.Rm
/-- the library's sort of numbers, by the shelf's contract -/
def ren : Go.Shelf.Ren := ⟨fun | 125 => 172 | 128 => 233 | 129 => 234 | 189 => 319 | 215 => 173 | 216 => 279 | 257 => 336 | 294 => 344 | 295 => 345 | 296 => 346 | 297 => 347 | 298 => 348 | 299 => 349 | 300 => 350 | 301 => 351 | 328 => 356 | 329 => 290 | 330 => 291 | 331 => 357 | 332 => 358 | 343 => 365 | x => x, fun | 0 => 0 | 3 => 3 | 4 => 4 | 5 => 5 | 9 => 9 | 28 => 31 | 46 => 300 | 51 => 376 | 53 => 215 | 131 => 281 | 182 => 369 | 183 => 370 | 218 => 422 | 222 => 426 | 228 => 448 | 229 => 449 | x => x, fun x => x⟩
set_option maxRecDepth 100000 in
theorem lays : Go.Proofs.Lays.n189 Tryz.prog ren := by
  constructor <;> first | kernel_rfl | (intro w; kernel_rfl)
theorem sortOk : Z9y seat.sys := fun o hn hl hr => by
  have h := Xbk (P := Tryz.prog) (f := 319) (fun blk off cap zs w h1 h2 h3 => Go.Proofs.Any.slices_Sort_int lays blk off cap zs w h1 h2 h3) o hn hl hr
  unfold Zv
  exact h
theorem fns : Xbt seat.sys := by
  repeat' first | exact known | exact sortOk | exact hk (by kernel_rfl) | constructor
end Go.Proofs.YtpikofomaekpoaaGreatDoor
