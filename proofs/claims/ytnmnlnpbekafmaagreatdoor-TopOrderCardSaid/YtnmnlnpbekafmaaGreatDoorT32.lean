import Derived.Test.YtnmnlnpbekafmaaGreatDoorT31
/- Parts. -/
set_option linter.unusedSimpArgs false
set_option linter.unusedVariables false
namespace Go.Rm
abbrev Wm:Int:=1152921504606846976
def Z4 (N:Zq) (a:Nat):Nat:=(Zp N.as a).a.toNat
def Xl (N:Zq) (a:Nat):Nat:=(Zp N.as a).b.toNat
def AtI (s:Nat) (b:Nat) (c:Int):Prop:=b=s/\c=0
def EdC (N:Zq) (ce:Nat->Int) (k:Int) (a b:Nat) (w:Int):Prop:=EdW N a b w/\ce (Z4 N b)=k/\ce (Xl N b)=k
def Zlb (N:Zq) (ce:Nat->Int) (k:Int) (i o:Nat) (x:Int):Prop:=∃ a y,Xy (AtI i) (EdC N ce k) a y/\Xb N a o≠Wm/\x=y+Xb N a o
structure U1 (P:Int->Prop) (d:Int):Prop where
 le:d<=Wm
 all:∀ x,P x->d<=x
 is:d=Wm\/P d
theorem U1.uniq {P:Int->Prop} {d r:Int} (h:U1 P d) (h':U1 P r):d=r:=by
 have D:=h.le;have G:=h'.le;rcases h.is with e | e <;> rcases h'.is with e' | e'
 ·omega
 ·have:=h.all _ e';omega
 ·have:=h'.all _ e;omega
 have:=h.all _ e';have:=h'.all _ e;omega
theorem Xy.then {I:Nat->Int->Prop} {E E':Nat->Nat->Int->Prop} {a b:Nat} {y z:Int} (h:Xy I E a y) (k:Xy (AtI a) E' b z) (le:∀ a b w,E' a b w->E a b w):Xy I E b (y+z):=by
 induction k with
 | init h'=>obtain ⟨rfl,rfl⟩:=h';simpa using h
 | step _ e r=>rw [<-Int.add_assoc];exact .step r (le _ _ _ e)
theorem Zcf {N:Zq} {ce:Nat->Int} {k:Int} {i a:Nat} {y:Int} (w:Xy (AtI i) (EdC N ce k) a y) (r:ce (Xl N i)=k):ce (Xl N a)=k:=by
 cases w with
 | init h=>obtain ⟨rfl,_⟩:=h;exact r
 | step _ e=>exact e.2.2
theorem Zbv {N:Zq} {a b:Nat} (h:Xb N a b≠Wm):Xl N a=Z4 N b:=by
 have:=(Zkq h).2.2.1;simp at this;unfold Xl Z4;rw [this]
def Zt7 (N:Zq) (ce f:Nat->Int) (k:Int) (ent:Nat->Nat->Int) (a b:Nat) (w:Int):Prop :=
 f (Z4 N b)=f (Xl N a)/\f (Xl N b)≠f (Xl N a)/\ce (Z4 N b)=k/\ce (Xl N b)=k/\ent a b≠Wm/\Yc N b≠Wm/\w=ent a b+Yc N b
def Xbg (N:Zq) (f:Nat->Int) (ent:Nat->Nat->Int) (a o:Nat) (w:Int):Prop:=f (Z4 N o)=f (Xl N a)/\f (Xl N o)≠f (Xl N a)/\ent a o≠Wm/\w=ent a o
def Zrn (N:Zq) (ce f:Nat->Int) (k:Int) (ent:Nat->Nat->Int) (i o:Nat) (x:Int):Prop:=∃ a y w,Xy (AtI i) (Zt7 N ce f k ent) a y/\Xbg N f ent a o w/\x=y+w
def Zim (f ce:Nat->Int):Prop:=∀ u v,f u=f v->ce u=ce v
def InK (N:Zq) (f:Nat->Int) (a:Nat):Prop:=f (Z4 N a)≠f (Xl N a)
def Zj9 (N:Zq) (f:Nat->Int) (ent:Nat->Nat->Int):Prop:=∀ a b,InK N f a->f (Z4 N b)=f (Xl N a)->f (Xl N b)≠f (Xl N a)->U1 (Zlb N f (f (Xl N a)) a b) (ent a b)
section
variable {N:Zq} {ce f:Nat->Int} {k:Int} {ent:Nat->Nat->Int} {i o:Nat}
theorem Zog {a:Nat} {y:Int} (w:Xy (AtI i) (Zt7 N ce f k ent) a y) (r:InK N f i) (hc:ce (Xl N i)=k):InK N f a/\ce (Xl N a)=k:=by
 induction w with
 | init h=>obtain ⟨rfl,_⟩:=h;exact ⟨r,hc⟩
 | step _ e _=>exact ⟨fun h=>e.2.1 (by rw [<-e.1];exact h.symm),e.2.2.2.1⟩
theorem Zxl (hb:Zim f ce) (D:Zj9 N f ent) (G:InK N f i) (hc:ce (Xl N i)=k) {a:Nat} {y:Int} (w:Xy (AtI i) (Zt7 N ce f k ent) a y):Xy (AtI i) (EdC N ce k) a y:=by
 induction w with
 | init h=>exact .init h
 | @step a b c w w0 e H =>
  obtain ⟨I,e2,e3,J,M,O,R⟩:=e;obtain ⟨U,r⟩:=Zog w0 G hc;obtain ⟨x,z,V,g2,X⟩:=((D a b U I e2).is).resolve_left M;have g:∀ p q u,EdC N f (f (Xl N a)) p q u->EdC N ce k p q u:=fun p q u h=>⟨h.1,by rw [<-r];exact hb _ _ h.2.1,by rw [<-r];exact hb _ _ h.2.2⟩
  have:=Xy.step (H.then V g) (show EdC N ce k x b (Xb N x b+Yc N b) from ⟨⟨g2,O,rfl⟩,e3,J⟩);rw [R,X];rw [show c+(z+Xb N x b+Yc N b)=c+z+(Xb N x b+Yc N b) by omega];exact this
theorem Zv8 (r:Ym N) {a b:Nat} {w:Int} (e:EdC N ce k a b w):0<=w:=by
 obtain ⟨⟨D,G,rfl⟩,_⟩:=e;have h1:=Ug r (a:=a) (b:=b);have H:=Up r (a:=b);omega
theorem Zeq (r:Ym N) {a:Nat} {y:Int} (w:Xy (AtI i) (EdC N ce k) a y):0<=y:=by
 induction w with
 | init h=>obtain ⟨_,rfl⟩:=h;omega
 | step _ e D=>have:=Zv8 r e;omega
theorem Zoh (hb:Zim f ce) (V:Zj9 N f ent) (H:Ym N) (X:InK N f i) (hc:ce (Xl N i)=k) {a:Nat} {y:Int} (w:Xy (AtI i) (EdC N ce k) a y) :
  Wm<=y\/∃ p D G,Xy (AtI i) (Zt7 N ce f k ent) p D/\Xy (AtI p) (EdC N f (f (Xl N p))) a G/\0<=D/\D+G<=y:=by
 induction w with
 | @init b c h =>
  obtain ⟨rfl,rfl⟩:=h;exact .inr ⟨b,0,0,.init ⟨rfl,rfl⟩,.init ⟨rfl,rfl⟩,by omega,by omega⟩
 | @step a b c w w0 e O =>
  have hw:=Zv8 H e;rcases O with O | ⟨p,D,G,I,g2,Z,g3⟩
  ·exact .inl (by omega)
  obtain ⟨⟨J,R,t3⟩,e2,e3⟩:=e;obtain ⟨hp,aa⟩:=Zog I X hc;have M:=Zcf g2 rfl;have r:f (Z4 N b)=f (Xl N p):=by rw [<-Zbv J];exact M
  by_cases q:f (Xl N b)=f (Xl N p)
  ·exact .inr ⟨p,D,G+w,I,.step g2 ⟨⟨J,R,t3⟩,r,q⟩,Z,by omega⟩
  have U:=V p b hp r q;have ab:=U.all (G+Xb N a b) ⟨a,G,g2,J,rfl⟩;have ac:=Up H (a:=b);by_cases z:ent p b=Wm
  ·exact .inl (by have:=Zeq H g2;omega)
  have ad:0<=ent p b:=by
   obtain ⟨x,u,q1,q2,q3⟩:=U.is.resolve_left z;have:=Zeq H q1;have:=Ug H (a:=x) (b:=b);omega
  exact .inr ⟨b,D+(ent p b+Yc N b),0,.step I ⟨r,q,e2,e3,z,R,rfl⟩,.init ⟨rfl,rfl⟩,by omega,by omega⟩
theorem Zsr (hb:Zim f ce) (O:Zj9 N f ent) (Z:Ym N) (R:InK N f i) (hc:ce (Xl N i)=k) (ho:ce (Z4 N o)=k) (U:ce (Xl N o)≠k) {d:Int} :
  U1 (Zrn N ce f k ent i o) d↔U1 (Zlb N ce k i o) d:=by
 have D:∀ x,Zrn N ce f k ent i o x->Zlb N ce k i o x:=by
  rintro x ⟨a,y,w,I,⟨g2,g3,g4,g5⟩,rfl⟩;obtain ⟨ha,J⟩:=Zog I R hc;obtain ⟨p,z,q1,q2,q3⟩:=(O a o ha g2 g3).is.resolve_left g4;have g:∀ p q u,EdC N f (f (Xl N a)) p q u->EdC N ce k p q u:=fun p q u h=>⟨h.1,by rw [<-J];exact hb _ _ h.2.1,by rw [<-J];exact hb _ _ h.2.2⟩
  exact ⟨p,y+z,(Zxl hb O R hc I).then q1 g,q2,by rw [g5,q3];omega⟩
 have r:∀ x,Zlb N ce k i o x->Wm<=x\/∃ G,G<=x/\Zrn N ce f k ent i o G:=by
  rintro x ⟨a,y,I,g2,rfl⟩;have ht:=Ug Z (a:=a) (b:=o);rcases Zoh hb O Z R hc I with h | ⟨p,y1,y2,h1,h2,h0,h3⟩
  ·exact .inl (by omega)
  obtain ⟨hp,V⟩:=Zog h1 R hc;have X:=Zcf h2 rfl;have M:f (Z4 N o)=f (Xl N p):=by rw [<-Zbv g2];exact X
  have H:f (Xl N o)≠f (Xl N p):=fun e=>U (by rw [hb _ _ e];exact V);have aa:=(O p o hp M H).all (y2+Xb N a o) ⟨a,y2,h2,g2,rfl⟩;by_cases z:ent p o=Wm
  ·exact .inl (by omega)
  exact .inr ⟨y1+ent p o,by omega,p,y1,ent p o,h1,⟨M,H,z,rfl⟩,rfl⟩
 constructor
 ·intro h;refine ⟨h.le,fun x hx=>?_,h.is.imp id (D d)⟩;rcases r x hx with g | ⟨G,I,g2⟩
  ·have:=h.le;omega
  have:=h.all G g2;omega
 intro h;refine ⟨h.le,fun x hx=>h.all x (D x hx),?_⟩;rcases h.is with g | g
 ·exact .inl g
 rcases r d g with I | ⟨G,I,g2⟩
 ·exact .inl (by have:=h.le;omega)
 have:=h.all G (D G g2);have e:G=d:=by omega
 exact .inr (e ▸ g2)
end
def Ub (ce:Nat->Nat->Int) (v a b:Nat):Nat->Nat
 | 0=>0
 | k+1=>if ce (k+1) v≠ce (k+1) a/\ce (k+1) v≠ce (k+1) b then k+1 else Ub ce v a b k
theorem Zi7 {ce:Nat->Nat->Int} {v a b:Nat}:∀ {n:Nat},Ub ce v a b n<=n:=by
 intro n
 induction n with
 | zero=>exact Xel _
 | succ n r =>
  unfold Ub
  split
  ·exact Xel _
  omega
theorem Zi1 {ce:Nat->Nat->Int} {v a b:Nat}:∀ {n:Nat},Ub ce v a b n≠0->ce (Ub ce v a b n) v≠ce (Ub ce v a b n) a/\ce (Ub ce v a b n) v≠ce (Ub ce v a b n) b:=by
 intro n
 induction n with
 | zero=>intro h;exact absurd rfl h
 | succ n r =>
  intro h;unfold Ub at h ⊢
  split
  ·assumption
  rename_i c;rw [if_neg c] at h;exact r h
theorem Z1e {ce:Nat->Nat->Int} {v a b:Nat} {j:Nat}:∀ {n:Nat},0<j->j<=n->ce j v≠ce j a->ce j v≠ce j b->j<=Ub ce v a b n:=by
 intro n
 induction n with
 | zero=>intro h1 r;omega
 | succ n G =>
  intro h1 r D h4;unfold Ub
  split
  ·exact r
  rename_i c;by_cases q:j=n+1
  ·subst q;exact absurd ⟨D,h4⟩ c
  exact G h1 (by omega) D h4
def Zs8 (n:Nat) (ce:Nat->Nat->Int):Prop:=∀ j k,0<j->j<=k->k<=n->Zim (ce j) (ce k)
def Zh4 (N:Zq) (n:Nat) (ce:Nat->Nat->Int) (ent:Nat->Nat->Nat->Int) (s t:Nat) (a b:Nat) (w:Int):Prop :=
 let k:=Ub ce (Xl N a) (Xl N s) (Z4 N t) n
 if k=0 then EdW N a b w else InK N (ce k) a/\ce k (Z4 N b)=ce k (Xl N a)/\ce k (Xl N b)≠ce k (Xl N a)/\ent k a b≠Wm/\Yc N b≠Wm/\w=ent k a b+Yc N b
section
variable {N:Zq} {n:Nat} {ce:Nat->Nat->Int} {ent:Nat->Nat->Nat->Int} {s t:Nat}
theorem Zv9 (r:Ym N) {a b:Nat} {w:Int} (e:EdW N a b w):0<=w:=by
 obtain ⟨D,G,rfl⟩:=e;have h1:=Ug r (a:=a) (b:=b);have H:=Up r (a:=b);omega
theorem Zf4 (H:∀ k,0<k->k<=n->Zj9 N (ce k) (ent k)) {I:Nat->Int->Prop} {a:Nat} {y:Int} (w:Xy I (Zh4 N n ce ent s t) a y):Xy I (EdW N) a y:=by
 induction w with
 | init h=>exact .init h
 | @step a b c w w0 e D =>
  unfold Zh4 at e;obtain ⟨k,G⟩:∃ k,Ub ce (Xl N a) (Xl N s) (Z4 N t) n=k:=⟨_,rfl⟩
  simp only [G] at e;by_cases z:k=0
  ·rw [if_pos z] at e;exact .step D e
  rw [if_neg z] at e;obtain ⟨J,M,e2,O,R,U⟩:=e;have r:k<=n:=by rw [<-G];exact Zi7
  obtain ⟨x,u,V,g2,X⟩:=((H k (by omega) r a b J M e2).is).resolve_left O;have:=Xy.step (D.then V (fun p q u h=>h.1)) (show EdW N x b (Xb N x b+Yc N b) from ⟨g2,R,rfl⟩);rw [U,X,show c+(u+Xb N x b+Yc N b)=c+u+(Xb N x b+Yc N b) by omega];exact this
theorem Zlr (ok:Ym N) (hn:Zs8 n ce) (he:∀ k,0<k->k<=n->Zj9 N (ce k) (ent k)) {I:Nat->Int->Prop} (hI:∀ b c,I b c->b=s/\c=0) {a:Nat} {y:Int} (w:Xy I (EdW N) a y) :
  Wm<=y\/∃ p r D,Xy I (Zh4 N n ce ent s t) p r/\(Ub ce (Xl N p) (Xl N s) (Z4 N t) n≠0->InK N (ce (Ub ce (Xl N p) (Xl N s) (Z4 N t) n)) p) /\
   (if Ub ce (Xl N p) (Xl N s) (Z4 N t) n=0 then a=p/\D=0 else Xy (AtI p) (EdC N (ce (Ub ce (Xl N p) (Xl N s) (Z4 N t) n)) (ce (Ub ce (Xl N p) (Xl N s) (Z4 N t) n) (Xl N p))) a D)/\0<=r/\r+D<=y:=by
 induction w with
 | @init b c h =>
  obtain ⟨rfl,rfl⟩:=hI _ _ h;have hz:Ub ce (Xl N b) (Xl N b) (Z4 N t) n=0:=by
   by_cases z:Ub ce (Xl N b) (Xl N b) (Z4 N t) n=0
   ·exact z
   exact absurd rfl (Zi1 z).1
  exact .inr ⟨b,0,0,.init h,fun h=>absurd hz h,by rw [if_pos hz];exact ⟨rfl,rfl⟩,by omega,by omega⟩
 | @step a b c w w0 e ih =>
  have hw:=Zv9 ok e;rcases ih with ih | ⟨p,r,D,g1,O,g2,g0,g3⟩
  ·exact .inl (by omega)
  obtain ⟨t1,t2,t3⟩:=id e;have R:=Zbv t1;obtain ⟨k,U⟩:∃ k,Ub ce (Xl N p) (Xl N s) (Z4 N t) n=k:=⟨_,rfl⟩
  have aa:k<=n:=by rw [<-U];exact Zi7
  have ad:=@Zi1 ce (Xl N p) (Xl N s) (Z4 N t) n;have G:=fun j=>@Z1e ce (Xl N p) (Xl N s) (Z4 N t) j n;rw [U] at O g2 ad;simp only [U] at G;obtain ⟨m,hm⟩:∃ m,Ub ce (Xl N b) (Xl N s) (Z4 N t) n=m:=⟨_,rfl⟩
  have V:m<=n:=by rw [<-hm];exact Zi7
  have X:=@Zi1 ce (Xl N b) (Xl N s) (Z4 N t) n;rw [hm] at X;have H:∀ (M:m≠0->InK N (ce m) b) (z:Int),0<=z->Xy I (Zh4 N n ce ent s t) b z->z<=c+w->Wm<=c+w\/∃ p r D,Xy I (Zh4 N n ce ent s t) p r/\(Ub ce (Xl N p) (Xl N s) (Z4 N t) n≠0->InK N (ce (Ub ce (Xl N p) (Xl N s) (Z4 N t) n)) p) /\
   (if Ub ce (Xl N p) (Xl N s) (Z4 N t) n=0 then b=p/\D=0 else Xy (AtI p) (EdC N (ce (Ub ce (Xl N p) (Xl N s) (Z4 N t) n)) (ce (Ub ce (Xl N p) (Xl N s) (Z4 N t) n) (Xl N p))) b D)/\0<=r/\r+D<=c+w:=by
   intro M z z0 hz zl;refine .inr ⟨b,z,0,hz,by rw [hm];exact M,?_,z0,by omega⟩;rw [hm]
   split
   ·exact ⟨rfl,rfl⟩
   exact .init ⟨rfl,rfl⟩
  by_cases z:k=0
  ·rw [if_pos z] at g2;obtain ⟨rfl,rfl⟩:=g2;refine H (fun Z h=>?_) (r+w) (by omega) (.step g1 ?_) (by omega)
   ·have q:=X Z;have:=G m (by omega) V (by rw [R,h];exact q.1) (by rw [R,h];exact q.2);omega
   unfold Zh4;simp only [U];rw [if_pos z];exact e
  rw [if_neg z] at g2;have ae:=Zcf g2 rfl;have J:ce k (Z4 N b)=ce k (Xl N p):=by rw [<-R];exact ae
  by_cases q:ce k (Xl N b)=ce k (Xl N p)
  ·refine .inr ⟨p,r,D+w,g1,by rw [U];exact O,?_,g0,by omega⟩;rw [U,if_neg z];exact .step g2 ⟨e,J,q⟩
  have ab:=O z;have hl:=he k (by omega) aa p b ab J q;have af:=hl.all (D+Xb N a b) ⟨a,D,g2,t1,rfl⟩;have ag:=Up ok (a:=b);by_cases u:ent k p b=Wm
  ·exact .inl (by have:=Zeq ok g2;omega)
  have ah:0<=ent k p b:=by
   obtain ⟨x,v,q1,q2,q3⟩:=hl.is.resolve_left u;have:=Zeq ok q1;have:=Ug ok (a:=x) (b:=b);omega
  refine H (fun Z h=>?_) (r+(ent k p b+Yc N b)) (by omega) (.step g1 ?_) (by omega)
  ·have qm:=X Z;rcases Xen k m with c1 | c1
   ·have ac:ce m (Xl N p)=ce m (Xl N b):=by
     rw [<-h];exact hn k m (by omega) (by omega) V _ _ J.symm
    have:=G m (by omega) V (by rw [ac];exact qm.1) (by rw [ac];exact qm.2);omega
   exact q (by rw [<-J];exact (hn m k (by omega) c1 aa _ _ h).symm)
  unfold Zh4;simp only [U];rw [if_neg z];exact ⟨ab,J,q,u,t2,trivial⟩
theorem Zus (O:Ym N) (R:Zs8 n ce) (G:∀ k,0<k->k<=n->Zj9 N (ce k) (ent k)) {I:Nat->Int->Prop} (U:∀ b c,I b c->b=s/\c=0) {d:Int}:Zba I (Zh4 N n ce ent s t) t d↔Zba I (EdW N) t d:=by
 have r:∀ y,Xy I (EdW N) t y->Wm<=y\/∃ J,J<=y/\Xy I (Zh4 N n ce ent s t) t J:=by
  intro y w;rcases Zlr (t:=t) O R G U w with h | ⟨p,M,X,D,V,g2,Z,g3⟩
  ·exact .inl h
  split at g2
  ·obtain ⟨rfl,rfl⟩:=g2;exact .inr ⟨M,by omega,D⟩
  rename_i z
  cases g2 with
  | init h=>obtain ⟨rfl,rfl⟩:=h;exact .inr ⟨M,by omega,D⟩
  | step _ e=>exact absurd e.2.1.symm (Zi1 z).2
 constructor
 ·intro h;refine ⟨h.le,fun x hx=>?_,h.is.imp id (Zf4 G)⟩;rcases r x hx with g | ⟨H,D,g2⟩
  ·have:d<=Wm:=h.le;omega
  have:=h.all H g2;omega
 intro h;refine ⟨h.le,fun x hx=>h.all x (Zf4 G hx),?_⟩;rcases h.is with g | g
 ·exact .inl g
 rcases r d g with D | ⟨H,D,g2⟩
 ·exact .inl (by have:d<=Wm:=h.le;have:Wm=1152921504606846976:=rfl;omega)
 have:=h.all H (Zf4 G g2);have e:H=d:=by omega
 exact .inr (e ▸ g2)
end
end Go.Rm
