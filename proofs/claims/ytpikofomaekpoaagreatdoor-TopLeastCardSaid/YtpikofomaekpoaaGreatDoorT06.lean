import Derived.Test.YtpikofomaekpoaaGreatDoorT05
/- Parts. -/
set_option linter.unusedSimpArgs false
set_option linter.unusedVariables false
namespace Go.Rm
theorem Z6p {h:Zk} {b o:Nat} {v r:Value} (hb:hc h b o=some r):hc (Vd h b o v) b o=some v:=by
 unfold hc at hb
 split at hb
 ·rename_i c t f D;have G:o<c.size:=(Array.getElem?_eq_some_iff.1 hb).1;unfold hc Vd;rw [Xh0,D];simp [G]
 cases hb
end Go.Rm
