import Derived.Test.YtnmnlnpbekafmaaGreatDoorT05
/- Parts. -/
set_option linter.unusedSimpArgs false
set_option linter.unusedVariables false
namespace Go.Rm
theorem Z5c {h:Zk} {b o:Nat} {v r:Value} (hb:hc h b o=some r):hc (Wy h b o v) b o=some v:=by
 unfold hc at hb
 split at hb
 ·rename_i c t f D;have G:o<c.size:=(Array.getElem?_eq_some_iff.1 hb).1;unfold hc Wy;rw [Xgo,D];simp [G]
 cases hb
end Go.Rm
