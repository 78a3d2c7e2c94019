import Derived.Test.YtpikofomaekpoaaGreatDoorT22
/- Parts. -/
set_option linter.unusedSimpArgs false
set_option linter.unusedVariables false
namespace Go.Rm
theorem Z63 {N:Zr} {a:Nat} {w:Int} (D:a<N.as.length) (r:Yt w=true):Zig N a w=Qg/\setN N a w = { N with as:=N.as.set a ⟨(Zp N.as a).a,(Zp N.as a).b,w⟩ }:=by
 have h1:Zig N a w=Qg:=by
  unfold Zig;rw [if_neg (by simp [Yf];omega),if_neg (by simp [r])]
 refine ⟨h1,?_⟩;unfold setN;rw [h1,if_pos (show Qg.2=0 from rfl)];simp
theorem Z24 {N:Zr} (D:Yl N) {t p i o A B:Nat} {c:Int} (ht:t<N.ts.length) (G:(Zz N.ts t).i=i) (r:(Zz N.ts t).o=o) (h1:A<i) (M:B<o) (H:A * o+B=p) (hc:Yt c=true) :
  Zcv N t A B c=Qg/\Zbk N t A B c = { N with ts:=N.ts.set t ⟨(Zz N.ts t).i,(Zz N.ts t).o,(Zz N.ts t).cs.set p c⟩ }:=by
 have I:=Z43 (D.tab t ht);have J:Qw (Zz N.ts t).i (Zz N.ts t).o (Zz N.ts t).cs A B c=Qg:=by
  unfold Qw;rw [if_neg (by rw [G];omega),if_neg (by rw [r];omega),if_neg (by simp [hc])];exact I
 have hb:Zcv N t A B c=Qg:=by
  unfold Zcv;rw [if_neg (by simp [Yf];omega)];simp only [Xf1];rw [J]
  rfl
 refine ⟨hb,?_⟩;unfold Zbk;rw [hb,if_pos (show Qg.2=0 from rfl)];simp only [Xf1,Zh2];have:((A:Int) * (Zz N.ts t).o+(B:Int)).toNat=p:=by
  rw [r];have:((A:Int) * (o:Int)+(B:Int))=((A * o+B:Nat):Int):=by simp
  rw [this,H];simp
 rw [this]
end Go.Rm
