import Derived.Test.YtnmnlnpbekafmaaGreatDoorT16
/- Parts. -/
set_option linter.unusedSimpArgs false
set_option linter.unusedVariables false
namespace Go.Rm
section
variable {Y:Sys} {h:Zk}
theorem Zqw (HC:Y.Has 216 Y216) {s:Sl} {l:List Xe} (r:Zaz h s l) (I:s.n<=1000000) {R:Ze}
  (J:∀ h' G,Ext h h'->Yl h' 3 G (Yb (l.map Xv))->(G.nl=false->h.size<=G.b)->R G.v h'):Zv Y 216 [s.v] h R:=by
 have M:=r.len;refine .of_has HC rfl ?_
 cases D:s.nl with
 | true =>
  have:l=[]:=Xfb (by rw [r.len];exact (r.ok.nil D).1);subst this;simp [Y216,Xn.wp,D];exact J h Sl.nil (Mod.refl h) Yl.nil (fun h=>(by cases h))
 | false =>
  simp [Y216,Xn.wp,D];refine Yq ?_;intro b h1 X o1 H;simp;refine Yr o1 Yy (Yw (r.ext H)) (by rw [Yg,Xep,M]) Yv rfl (by omega) (by omega) ?_;intro G O o2 n2 e2 U V;simp;have:=H.size;exact J O G (H.trans e2) o2 (fun _=>by omega)
theorem Zqe (HC:Y.Has 217 Y217) {s:Sl} {l:List Xe} (r:Zaz h s l) (I:s.n<=1000000) {R:Ze}
  (J:∀ h' G,Ext h h'->Yl h' 3 G (Yb (l.map Xv))->(G.nl=false->h.size<=G.b)->R G.v h'):Zv Y 217 [s.v] h R:=by
 have M:=r.len;refine .of_has HC rfl ?_
 cases D:s.nl with
 | true =>
  have:l=[]:=Xfb (by rw [r.len];exact (r.ok.nil D).1);subst this;simp [Y217,Xn.wp,D];exact J h Sl.nil (Mod.refl h) Yl.nil (fun h=>(by cases h))
 | false =>
  simp [Y217,Xn.wp,D];refine Yq ?_;intro b h1 X o1 H;simp;refine Yr o1 Yy (Yw (r.ext H)) (by rw [Yg,Xep,M]) Yv rfl (by omega) (by omega) ?_;intro G O o2 n2 e2 U V;simp;have:=H.size;exact J O G (H.trans e2) o2 (fun _=>by omega)
theorem Ziq (HC:Y.Has 245 Y245) {s:Sl} {l:Zb} (r:Yf h s l) (I:s.n<=17592186044416) {R:Ze}
  (J:∀ h' G,Ext h h'->Yl h' 1 G (Zt l)->(G.nl=false->h.size<=G.b)->R G.v h'):Zv Y 245 [s.v] h R:=by
 have M:=r.len;refine .of_has HC rfl ?_
 cases D:s.nl with
 | true =>
  have:l=[]:=Xfb (by rw [r.len];exact (r.ok.nil D).1);subst this;simp [Y245,Xn.wp,D];exact J h Sl.nil (Mod.refl h) Yl.nil (fun h=>(by cases h))
 | false =>
  simp [Y245,Xn.wp,D];refine Yq ?_;intro b h1 X o1 H;simp;refine Yr o1 Yy (Zau (r.ext H)) (by rw [Vr,M,Xe1]) Zbt rfl (by omega) (by omega) ?_;intro G O o2 n2 e2 U V;simp;have:=H.size;exact J O G (H.trans e2) o2 (fun _=>by omega)
theorem Vk {K:Ze} {n sz bytes:Nat} {zero:Array Value} {m:Int} (H:n<=1000000) (r:bytes<=1000) (D:m=n)
  (G:∀ (b:Nat) (h':Zk),h.size<=b->Yl h' sz (Sl.at b n n) (Xt zero (n * sz)).toList->Ext h h'->b<h'.size->K (.slice (some ⟨b,0,none⟩) n n) h') :
  Ef.wp h K (.mkslice sz bytes zero) [.int .i64 m,.int .i64 m]:=by
 subst D;rw [Vi];refine ⟨by omega,by omega,by omega,?_,fun t=>?_⟩
 ·have:(bytes:Int) * n<=1000 * 1000000:=Int.mul_le_mul (by omega) (by omega) (by omega) (by omega);omega
 simp only [Xeo];refine G h.size _ (Xel _) ?_ Mod.push (by simp);exact ⟨by simp [Xt],.inr ⟨rfl,rfl,rfl,Xel _,by simp;omega,_,Xa.new,by simp [Xt],by
  rw [Xeu];simp [Xt]⟩⟩
theorem Uh {v:Value} {n:Nat}:(Xt #[v] (n * 1)).toList=List.replicate n v:=by
 rw [Xe1,Ua];simp
theorem Zc7 {v:Value} {n:Nat}:(Xt #[v,v] (n * 2)).toList=List.replicate (n * 2) v:=by
 apply Xew (by simp [Xt]);intro i h1 r;simp only [Xt,Xg4,Xe7,List.getElem_replicate];have:((Array.range (n * 2)).toList[i]'(by simpa [Xt] using h1)) % (#[v,v]:Array Value).size<2:=by
  exact Xge _ (by simp)
 generalize ((Array.range (n * 2)).toList[i]'(by simpa [Xt] using h1)) % (#[v,v]:Array Value).size=k at this
 match k,this with
 | 0,_=>rfl
 | 1,_=>rfl
theorem Zyy {n:Nat}:(Xt #[.int .i64 0,.int .i64 0,.slice none 0 0] (n * 3)).toList=Yb ((List.replicate n ((⟨0,0,[]⟩:Tab),Sl.nil)).map Qv):=by
 apply Xew (by rw [Yg];simp [Xt]);intro i h1 H;have J:i<n * 3:=by simpa [Xt] using h1
 have r:=Zfz (l:=(List.replicate n ((⟨0,0,[]⟩:Tab),Sl.nil)).map Qv) (i:=i / 3) (by simp;omega);simp only [Xe7,List.getElem_replicate,Qv] at r;obtain ⟨D,G,g2⟩:=r;have e:(Xt #[.int .i64 0,.int .i64 0,.slice none 0 0] (n * 3)).toList[i]=(#[.int .i64 0,.int .i64 0,.slice none 0 0]:Array Value)[i % 3]! := by
  simp [Xt]
 rw [e];have e2:(Yb ((List.replicate n ((⟨0,0,[]⟩:Tab),Sl.nil)).map Qv))[i]? = some (Yb ((List.replicate n ((⟨0,0,[]⟩:Tab),Sl.nil)).map Qv))[i]:=Xfq H;have I:i % 3=0\/i % 3=1\/i % 3=2:=by omega
 rcases I with m | m | m
 ·have q:i=i / 3 * 3:=by omega
  rw [<-q,e2] at D;rw [m];simpa using D.symm
 ·have q:i=i / 3 * 3+1:=by omega
  rw [<-q,e2] at G;rw [m];simpa using G.symm
 have q:i=i / 3 * 3+2:=by omega
 rw [<-q,e2] at g2;rw [m];simpa [Sl.nil_v] using g2.symm
end
end Go.Rm
namespace Go.Rm
theorem Zca {l:List Xe} {v i:Nat} {t:Xe} (hv:v<l.length):Zp (l.set v t) i=if i=v then t else Zp l i:=by
 unfold Zp;simp only [Xet,Xf7];by_cases c:v=i
 ·subst c;simp [hv]
 have:¬ i=v:=fun e=>c e.symm;simp [c,this]
theorem Zdc {l:List Tab} {v i:Nat} {t:Tab} (hv:v<l.length):Zx (l.set v t) i=if i=v then t else Zx l i:=by
 unfold Zx;simp only [Xet,Xf7];by_cases c:v=i
 ·subst c;simp [hv]
 have:¬ i=v:=fun e=>c e.symm;simp [c,this]
section bent
variable {N:Zq} (ok:Ym N)
include ok
omit ok in
theorem Zyn {p:ByteArray} {k:Int} {w:Wr} (h:w.2≠0):(Wx p k w).2≠0:=by
 unfold Wx;rw [if_neg h];exact h
end bent
theorem Zjc {l:List (Value × Value × Value)}:∀ {i:Nat} {x:Value},i<l.length ->
  (Yb l).set (i * 3) x=Yb (l.set i (x,(l.getD i (undef,undef,undef)).2.1,(l.getD i (undef,undef,undef)).2.2)) /\
  (Yb l).set (i * 3+1) x=Yb (l.set i ((l.getD i (undef,undef,undef)).1,x,(l.getD i (undef,undef,undef)).2.2)) /\
  (Yb l).set (i * 3+2) x=Yb (l.set i ((l.getD i (undef,undef,undef)).1,(l.getD i (undef,undef,undef)).2.1,x)):=by
 induction l with
 | nil=>intro i x D;simp at D
 | cons t r G =>
  intro i x D;have e:Yb (t::r)=t.1::t.2.1::t.2.2::Yb r:=rfl;rw [e]
  cases i with
  | zero=>exact ⟨rfl,rfl,rfl⟩
  | succ i =>
   obtain ⟨h0,h1,H⟩:=G (i:=i) (x:=x) (by simpa using D);have I:(i+1) * 3=i * 3+1+1+1:=by omega
   have J:(i+1) * 3+1=i * 3+1+1+1+1:=by omega
   have M:(i+1) * 3+2=i * 3+2+1+1+1:=by omega
   rw [J,M,I];simp only [Xhj,h0,h1,H];exact ⟨rfl,rfl,rfl⟩
theorem Zwz {l:List Xe} {i:Nat} {x:Int} (r:i<l.length) :
  (Yb (l.map Xv)).set (i * 3) (.int .i64 x)=Yb ((l.set i ⟨x,(Zp l i).b,(Zp l i).c⟩).map Xv) /\
  (Yb (l.map Xv)).set (i * 3+1) (.int .i64 x)=Yb ((l.set i ⟨(Zp l i).a,x,(Zp l i).c⟩).map Xv) /\
  (Yb (l.map Xv)).set (i * 3+2) (.int .i64 x)=Yb ((l.set i ⟨(Zp l i).a,(Zp l i).b,x⟩).map Xv):=by
 have h:=Zjc (l:=l.map Xv) (i:=i) (x:=.int .i64 x) (by simpa using r);have e:(l.map Xv).getD i (undef,undef,undef)=Xv (Zp l i):=by
  rw [Wn r];simp [r]
 rw [e] at h;simp only [Xfn];exact h
end Go.Rm
