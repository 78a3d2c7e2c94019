/- Each function that the law comes to is its program; the library's sort, by the shelf's contract. -/
import Derived.Test.YtmpamfkkaakbfaaGreatDoorTie
import Derived.Test.YtmpamfkkaakbfaaGreatDoorCards
import Derived.Test.YtmpamfkkaakbfaaGreatDoorT04
import Derived.Test.YtmpamfkkaakbfaaGreatDoorT19
import Derived.Test.YtmpamfkkaakbfaaGreatDoorT35
import Derived.Test.YtmpamfkkaakbfaaGreatDoorT42
import Derived.Test.YtmpamfkkaakbfaaGreatDoorT43
import Derived.Shelf.Sort.Plain
import Derived.SevenTiedAt
import Derived.Stop.Joined
import Derived.Test.YtmpamfkkaakbfaaGreatDoorKnown
namespace Go.Proofs.YtmpamfkkaakbfaaGreatDoor
open Go.Rm
/-- the library's sort of numbers, by the shelf's contract -/
def ren : Go.Shelf.Ren := ⟨fun | 125 => 170 | 128 => 231 | 129 => 232 | 189 => 317 | 215 => 171 | 216 => 277 | 257 => 334 | 294 => 342 | 295 => 343 | 296 => 344 | 297 => 345 | 298 => 346 | 299 => 347 | 300 => 348 | 301 => 349 | 328 => 354 | 329 => 288 | 330 => 289 | 331 => 355 | 332 => 356 | 343 => 363 | x => x, fun | 0 => 0 | 3 => 3 | 4 => 4 | 5 => 5 | 9 => 9 | 28 => 55 | 46 => 299 | 51 => 375 | 53 => 214 | 131 => 280 | 182 => 368 | 183 => 369 | 218 => 421 | 222 => 425 | 228 => 447 | 229 => 448 | x => x, fun x => x⟩
set_option maxRecDepth 100000 in
theorem lays : Go.Proofs.Lays.n189 Tryz.prog ren := by
  constructor <;> first | kernel_rfl | (intro w; kernel_rfl)
theorem sortOk : Z72 seat.sys := fun o hn hl hr => by
  have h := Z9n (P := Tryz.prog) (f := 317) (fun blk off cap zs w h1 h2 h3 => Go.Proofs.Any.slices_Sort_int lays blk off cap zs w h1 h2 h3) o hn hl hr
  unfold Zm
  exact h
theorem fns : Xap seat.sys := by
  repeat' first | exact known | exact sortOk | exact hk (by kernel_rfl) | constructor
end Go.Proofs.YtmpamfkkaakbfaaGreatDoor
