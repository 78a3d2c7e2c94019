import Derived.Test.YtpikofomaekpoaaGreatDoorT15
/- Parts. -/
set_option linter.unusedSimpArgs false
set_option linter.unusedVariables false
namespace Go.Rm
section
variable {Y:Sys} {h:Zk}
theorem Zr6 (HC:Y.Has 216 Y216) {s:Sl} {l:List Xe} (r:Z6 h s l) (I:s.n<=1000000) {R:Ze}
  (J:∀ h' G,Ext h h'->Ym h' 3 G (Ye (l.map Xz))->(G.nl=false->h.size<=G.b)->R G.v h'):Zv Y 216 [s.v] h R:=by
 have M:=r.len;refine .of_has HC rfl ?_
 cases D:s.nl with
 | true =>
  have:l=[]:=Xgw (by rw [r.len];exact (r.ok.nil D).1);subst this;simp [Y216,Xm.wp,D];exact J h Sl.nil (Mod.refl h) Ym.nil (fun h=>(by cases h))
 | false =>
  simp [Y216,Xm.wp,D];refine Yu ?_;intro b h1 X o1 H;simp;refine Yq o1 Xf (Yx (r.ext H)) (by rw [Yk,Xf2,M]) Yw rfl (by omega) (by omega) ?_;intro G O o2 n2 e2 U V;simp;have:=H.size;exact J O G (H.trans e2) o2 (fun _=>by omega)
theorem Zrm (HC:Y.Has 217 Y217) {s:Sl} {l:List Xe} (r:Z6 h s l) (I:s.n<=1000000) {R:Ze}
  (J:∀ h' G,Ext h h'->Ym h' 3 G (Ye (l.map Xz))->(G.nl=false->h.size<=G.b)->R G.v h'):Zv Y 217 [s.v] h R:=by
 have M:=r.len;refine .of_has HC rfl ?_
 cases D:s.nl with
 | true =>
  have:l=[]:=Xgw (by rw [r.len];exact (r.ok.nil D).1);subst this;simp [Y217,Xm.wp,D];exact J h Sl.nil (Mod.refl h) Ym.nil (fun h=>(by cases h))
 | false =>
  simp [Y217,Xm.wp,D];refine Yu ?_;intro b h1 X o1 H;simp;refine Yq o1 Xf (Yx (r.ext H)) (by rw [Yk,Xf2,M]) Yw rfl (by omega) (by omega) ?_;intro G O o2 n2 e2 U V;simp;have:=H.size;exact J O G (H.trans e2) o2 (fun _=>by omega)
theorem Ze7 (HC:Y.Has 245 Y245) {s:Sl} {l:Zb} (r:Yd h s l) (I:s.n<=17592186044416) {R:Ze}
  (J:∀ h' G,Ext h h'->Ym h' 1 G (Zq l)->(G.nl=false->h.size<=G.b)->R G.v h'):Zv Y 245 [s.v] h R:=by
 have M:=r.len;refine .of_has HC rfl ?_
 cases D:s.nl with
 | true =>
  have:l=[]:=Xgw (by rw [r.len];exact (r.ok.nil D).1);subst this;simp [Y245,Xm.wp,D];exact J h Sl.nil (Mod.refl h) Ym.nil (fun h=>(by cases h))
 | false =>
  simp [Y245,Xm.wp,D];refine Yu ?_;intro b h1 X o1 H;simp;refine Yq o1 Xf (U7 (r.ext H)) (by rw [Vm,M,Xgd]) Zai rfl (by omega) (by omega) ?_;intro G O o2 n2 e2 U V;simp;have:=H.size;exact J O G (H.trans e2) o2 (fun _=>by omega)
theorem Vs {K:Ze} {n sz bytes:Nat} {zero:Array Value} {m:Int} (H:n<=1000000) (r:bytes<=1000) (D:m=n)
  (G:∀ (b:Nat) (h':Zk),h.size<=b->Ym h' sz (Sl.at b n n) (Xy zero (n * sz)).toList->Ext h h'->b<h'.size->K (.slice (some ⟨b,0,none⟩) n n) h') :
  Ef.wp h K (.mkslice sz bytes zero) [.int .i64 m,.int .i64 m]:=by
 subst D;rw [Vq];refine ⟨by omega,by omega,by omega,?_,fun t=>?_⟩
 ·have:(bytes:Int) * n<=1000 * 1000000:=Int.mul_le_mul (by omega) (by omega) (by omega) (by omega);omega
 simp only [Xf1];refine G h.size _ (Xfy _) ?_ Mod.push (by simp);exact ⟨by simp [Xy],.inr ⟨rfl,rfl,rfl,Xfy _,by simp;omega,_,Xb.new,by simp [Xy],by
  rw [Xf7];simp [Xy]⟩⟩
theorem Uo {v:Value} {n:Nat}:(Xy #[v] (n * 1)).toList=List.replicate n v:=by
 rw [Xgd,Ui];simp
theorem Zdj {v:Value} {n:Nat}:(Xy #[v,v] (n * 2)).toList=List.replicate (n * 2) v:=by
 apply Xgb (by simp [Xy]);intro i h1 r;simp only [Xy,Xih,Xgo,List.getElem_replicate];have:((Array.range (n * 2)).toList[i]'(by simpa [Xy] using h1)) % (#[v,v]:Array Value).size<2:=by
  exact Nat.mod_lt _ (by simp)
 generalize ((Array.range (n * 2)).toList[i]'(by simpa [Xy] using h1)) % (#[v,v]:Array Value).size=k at this
 match k,this with
 | 0,_=>rfl
 | 1,_=>rfl
theorem Z0i {n:Nat}:(Xy #[.int .i64 0,.int .i64 0,.slice none 0 0] (n * 3)).toList=Ye ((List.replicate n ((⟨0,0,[]⟩:Tab),Sl.nil)).map X5):=by
 apply Xgb (by rw [Yk];simp [Xy]);intro i h1 H;have J:i<n * 3:=by simpa [Xy] using h1
 have r:=Zgm (l:=(List.replicate n ((⟨0,0,[]⟩:Tab),Sl.nil)).map X5) (i:=i / 3) (by simp;omega);simp only [Xgo,List.getElem_replicate,X5] at r;obtain ⟨D,G,g2⟩:=r;have e:(Xy #[.int .i64 0,.int .i64 0,.slice none 0 0] (n * 3)).toList[i]=(#[.int .i64 0,.int .i64 0,.slice none 0 0]:Array Value)[i % 3]! := by
  simp [Xy]
 rw [e];have e2:(Ye ((List.replicate n ((⟨0,0,[]⟩:Tab),Sl.nil)).map X5))[i]? = some (Ye ((List.replicate n ((⟨0,0,[]⟩:Tab),Sl.nil)).map X5))[i]:=Xg6 H;have I:i % 3=0\/i % 3=1\/i % 3=2:=by omega
 rcases I with m | m | m
 ·have q:i=i / 3 * 3:=by omega
  rw [<-q,e2] at D;rw [m];simpa using D.symm
 ·have q:i=i / 3 * 3+1:=by omega
  rw [<-q,e2] at G;rw [m];simpa using G.symm
 have q:i=i / 3 * 3+2:=by omega
 rw [<-q,e2] at g2;rw [m];simpa [Sl.nil_v] using g2.symm
end
end Go.Rm
namespace Go.Rm
theorem Zfl {l:List Xe} {v i:Nat} {t:Xe} (hv:v<l.length):Zp (l.set v t) i=if i=v then t else Zp l i:=by
 unfold Zp;simp only [Xf5,Xhp];by_cases c:v=i
 ·subst c;simp [hv]
 have:¬ i=v:=fun e=>c e.symm;simp [c,this]
theorem Zhz {l:List Tab} {v i:Nat} {t:Tab} (hv:v<l.length):Zz (l.set v t) i=if i=v then t else Zz l i:=by
 unfold Zz;simp only [Xf5,Xhp];by_cases c:v=i
 ·subst c;simp [hv]
 have:¬ i=v:=fun e=>c e.symm;simp [c,this]
section bent
variable {N:Zr} (ok:Yl N)
include ok
omit ok in
theorem Zz7 {p:ByteArray} {k:Int} {w:Wr} (h:w.2≠0):(Wx p k w).2≠0:=by
 unfold Wx;rw [if_neg h];exact h
end bent
theorem Zkc {l:List (Value × Value × Value)}:∀ {i:Nat} {x:Value},i<l.length ->
  (Ye l).set (i * 3) x=Ye (l.set i (x,(l.getD i (undef,undef,undef)).2.1,(l.getD i (undef,undef,undef)).2.2)) /\
  (Ye l).set (i * 3+1) x=Ye (l.set i ((l.getD i (undef,undef,undef)).1,x,(l.getD i (undef,undef,undef)).2.2)) /\
  (Ye l).set (i * 3+2) x=Ye (l.set i ((l.getD i (undef,undef,undef)).1,(l.getD i (undef,undef,undef)).2.1,x)):=by
 induction l with
 | nil=>intro i x D;simp at D
 | cons t r ih =>
  intro i x D;have e:Ye (t::r)=t.1::t.2.1::t.2.2::Ye r:=rfl;rw [e]
  cases i with
  | zero=>exact ⟨rfl,rfl,rfl⟩
  | succ i =>
   obtain ⟨h0,h1,G⟩:=ih (i:=i) (x:=x) (by simpa using D);have H:(i+1) * 3=i * 3+1+1+1:=by omega
   have I:(i+1) * 3+1=i * 3+1+1+1+1:=by omega
   have J:(i+1) * 3+2=i * 3+2+1+1+1:=by omega
   rw [I,J,H];simp only [Xiw,h0,h1,G];exact ⟨rfl,rfl,rfl⟩
theorem Zyk {l:List Xe} {i:Nat} {x:Int} (r:i<l.length) :
  (Ye (l.map Xz)).set (i * 3) (.int .i64 x)=Ye ((l.set i ⟨x,(Zp l i).b,(Zp l i).c⟩).map Xz) /\
  (Ye (l.map Xz)).set (i * 3+1) (.int .i64 x)=Ye ((l.set i ⟨(Zp l i).a,x,(Zp l i).c⟩).map Xz) /\
  (Ye (l.map Xz)).set (i * 3+2) (.int .i64 x)=Ye ((l.set i ⟨(Zp l i).a,(Zp l i).b,x⟩).map Xz):=by
 have h:=Zkc (l:=l.map Xz) (i:=i) (x:=.int .i64 x) (by simpa using r);have e:(l.map Xz).getD i (undef,undef,undef)=Xz (Zp l i):=by
  rw [Wy r];simp [r]
 rw [e] at h;simp only [Xg2];exact h
end Go.Rm
