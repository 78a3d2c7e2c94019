import Derived.Test.YtnmnlnpbekafmaaGreatDoorT23
/- Parts. -/
set_option linter.unusedSimpArgs false
set_option linter.unusedVariables false
namespace Go.Rm
theorem Z5p {N:Zq} {a:Nat} {w:Int} (D:a<N.as.length) (r:Yu w=true):Zhn N a w=Qa/\setN N a w = { N with as:=N.as.set a ⟨(Zp N.as a).a,(Zp N.as a).b,w⟩ }:=by
 have h1:Zhn N a w=Qa:=by
  unfold Zhn;rw [if_neg (by simp [Ye];omega),if_neg (by simp [r])]
 refine ⟨h1,?_⟩;unfold setN;rw [h1,if_pos (show Qa.2=0 from rfl)];simp
theorem Z1q {N:Zq} (D:Ym N) {t p i o A B:Nat} {c:Int} (ht:t<N.ts.length) (G:(Zx N.ts t).i=i) (r:(Zx N.ts t).o=o) (h1:A<i) (M:B<o) (H:A * o+B=p) (hc:Yu c=true) :
  Zck N t A B c=Qa/\Qu N t A B c = { N with ts:=N.ts.set t ⟨(Zx N.ts t).i,(Zx N.ts t).o,(Zx N.ts t).cs.set p c⟩ }:=by
 have I:=Z3p (D.tab t ht);have J:Qr (Zx N.ts t).i (Zx N.ts t).o (Zx N.ts t).cs A B c=Qa:=by
  unfold Qr;rw [if_neg (by rw [G];omega),if_neg (by rw [r];omega),if_neg (by simp [hc])];exact I
 have hb:Zck N t A B c=Qa:=by
  unfold Zck;rw [if_neg (by simp [Ye];omega)];simp only [Xeo];rw [J]
  rfl
 refine ⟨hb,?_⟩;unfold Qu;rw [hb,if_pos (show Qa.2=0 from rfl)];simp only [Xeo,Zhb];have:((A:Int) * (Zx N.ts t).o+(B:Int)).toNat=p:=by
  rw [r];have:((A:Int) * (o:Int)+(B:Int))=((A * o+B:Nat):Int):=by simp
  rw [this,H];simp
 rw [this]
end Go.Rm
