/- Each function that the law comes to is its program; the library's sort, by the shelf's contract. -/
import Derived.Test.YtnmnlnpbekafmaaGreatDoorTie
import Derived.Test.YtnmnlnpbekafmaaGreatDoorCards
import Derived.Test.YtnmnlnpbekafmaaGreatDoorT04
import Derived.Test.YtnmnlnpbekafmaaGreatDoorT19
import Derived.Test.YtnmnlnpbekafmaaGreatDoorT37
import Derived.Test.YtnmnlnpbekafmaaGreatDoorT42
import Derived.Test.YtnmnlnpbekafmaaGreatDoorT43
import Derived.Shelf.Sort.Plain
import Derived.SevenTiedAt
import Derived.Stop.Joined
import Derived.Test.YtnmnlnpbekafmaaGreatDoorKnown
namespace Go.Proofs.YtnmnlnpbekafmaaGreatDoor
open Go.Rm
/-- the library's sort of numbers, by the shelf's contract -/
def ren : Go.Shelf.Ren := ⟨fun | 125 => 171 | 128 => 231 | 129 => 232 | 189 => 314 | 215 => 172 | 216 => 274 | 257 => 331 | 294 => 339 | 295 => 340 | 296 => 341 | 297 => 342 | 298 => 343 | 299 => 344 | 300 => 345 | 301 => 346 | 328 => 351 | 329 => 285 | 330 => 286 | 331 => 352 | 332 => 353 | 343 => 360 | x => x, fun | 0 => 0 | 3 => 3 | 4 => 4 | 5 => 5 | 9 => 9 | 28 => 64 | 46 => 305 | 51 => 380 | 53 => 225 | 131 => 286 | 182 => 373 | 183 => 374 | 218 => 423 | 222 => 427 | 228 => 449 | 229 => 450 | x => x, fun x => x⟩
set_option maxRecDepth 100000 in
theorem lays : Go.Proofs.Lays.n189 Tryz.prog ren := by
  constructor <;> first | kernel_rfl | (intro w; kernel_rfl)
theorem sortOk : Z8k seat.sys := fun o hn hl hr => by
  have h := Z93 (P := Tryz.prog) (f := 314) (fun blk off cap zs w h1 h2 h3 => Go.Proofs.Any.slices_Sort_int lays blk off cap zs w h1 h2 h3) o hn hl hr
  unfold Zv
  exact h
theorem fns : Xae seat.sys := by
  repeat' first | exact known | exact sortOk | exact hk (by kernel_rfl) | constructor
end Go.Proofs.YtnmnlnpbekafmaaGreatDoor
