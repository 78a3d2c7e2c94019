import Derived.Test.YtmpamfkkaakbfaaGreatDoorT23
/- Parts RLaw6b -/
set_option linter.unusedSimpArgs false
set_option linter.unusedVariables false
namespace Go.Rm
theorem Z5b {N:Zg} {a:Nat} {w:Int} (D:a<N.as.length) (r:Yi w=true):Zhd N a w=Ur/\setN N a w = { N with as:=N.as.set a ⟨(Zf N.as a).a,(Zf N.as a).b,w⟩ }:=by
 have h1:Zhd N a w=Ur:=by
  unfold Zhd
  rw [if_neg (by simp [Zt]; omega),if_neg (by simp [r])]
 refine ⟨h1,?_⟩
 unfold setN
 rw [h1,if_pos (show Ur.2=0 from rfl)]
 simp
theorem Z1e {N:Zg} (D:Yd N) {t p i o A B:Nat} {c:Int} (ht:t<N.ts.length) (G:(Zp N.ts t).i=i) (r:(Zp N.ts t).o=o) (h1:A<i) (M:B<o) (H:A * o+B=p) (hc:Yi c=true) :
  Zb3 N t A B c=Ur/\Zaw N t A B c = { N with ts:=N.ts.set t ⟨(Zp N.ts t).i,(Zp N.ts t).o,(Zp N.ts t).cs.set p c⟩ }:=by
 have I:=Z3b (D.tab t ht)
 have J:Qh (Zp N.ts t).i (Zp N.ts t).o (Zp N.ts t).cs A B c=Ur:=by
  unfold Qh
  rw [if_neg (by rw [G]; omega),if_neg (by rw [r]; omega),if_neg (by simp [hc])]
  exact I
 have hb:Zb3 N t A B c=Ur:=by
  unfold Zb3
  rw [if_neg (by simp [Zt]; omega)]
  simp only [Xd9]
  rw [J]
  rfl
 refine ⟨hb,?_⟩
 unfold Zaw
 rw [hb,if_pos (show Ur.2=0 from rfl)]
 simp only [Xd9,Zg2]
 have:((A:Int) * (Zp N.ts t).o+(B:Int)).toNat=p:=by
  rw [r]
  have:((A:Int) * (o:Int)+(B:Int))=((A * o+B:Nat):Int):=by simp
  rw [this,H]
  simp
 rw [this]
end Go.Rm
