import Derived.Test.YtmpamfkkaakbfaaGreatDoorT05
import Derived.Test.YtmpamfkkaakbfaaGreatDoorT01
/- Parts EngU -/
set_option linter.unusedSimpArgs false
set_option linter.unusedVariables false
namespace Go.Rm
theorem Z4x {h:Za} {b o:Nat} {v r:Value} (hb:hc h b o=some r):hc (Wm h b o v) b o=some v:=by
 unfold hc at hb
 split at hb
 ·rename_i c t f D
  have G:o<c.size:=(Array.getElem?_eq_some_iff.1 hb).1
  unfold hc Wm
  rw [Xf6,D]
  simp [G]
 ·cases hb
end Go.Rm
