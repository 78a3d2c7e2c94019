import Derived.Test.YtmpamfkkaakbfaaGreatDoorT29
/- Parts RTop1 RTop2 -/
set_option linter.unusedSimpArgs false
set_option linter.unusedVariables false
namespace Go.Rm
abbrev Xr:Int:=1152921504606846976
def Z0 (N:Zg) (a:Nat):Nat:=(Zf N.as a).a.toNat
def Xd (N:Zg) (a:Nat):Nat:=(Zf N.as a).b.toNat
def AtI (s:Nat) (b:Nat) (c:Int):Prop:=b=s/\c=0
def EdC (N:Zg) (ce:Nat->Int) (k:Int) (a b:Nat) (w:Int):Prop:=EdW N a b w/\ce (Z0 N b)=k/\ce (Xd N b)=k
def Zk1 (N:Zg) (ce:Nat->Int) (k:Int) (i o:Nat) (x:Int):Prop:=∃ a y,Xk (AtI i) (EdC N ce k) a y/\Ye N a o≠Xr/\x=y+Ye N a o
structure Zas (P:Int->Prop) (d:Int):Prop where
 le:d<=Xr
 all:∀ x,P x->d<=x
 is:d=Xr\/P d
theorem Xk.then {I:Nat->Int->Prop} {E E':Nat->Nat->Int->Prop} {a b:Nat} {y z:Int} (h:Xk I E a y) (k:Xk (AtI a) E' b z) (le:∀ a b w,E' a b w->E a b w):Xk I E b (y+z):=by
 induction k with
 | init h'=>obtain ⟨rfl,rfl⟩:=h'; simpa using h
 | step _ e r=>rw [<-Int.add_assoc]; exact .step r (le _ _ _ e)
theorem Zbx {N:Zg} {ce:Nat->Int} {k:Int} {i a:Nat} {y:Int} (w:Xk (AtI i) (EdC N ce k) a y) (r:ce (Xd N i)=k):ce (Xd N a)=k:=by
 cases w with
 | init h=>obtain ⟨rfl,_⟩:=h; exact r
 | step _ e=>exact e.2.2
theorem Zbb {N:Zg} {a b:Nat} (h:Ye N a b≠Xr):Xd N a=Z0 N b:=by
 have:=(Zkh h).2.2.1
 simp at this
 unfold Xd Z0
 rw [this]
def Ztw (N:Zg) (ce f:Nat->Int) (k:Int) (ent:Nat->Nat->Int) (a b:Nat) (w:Int):Prop :=
 f (Z0 N b)=f (Xd N a)/\f (Xd N b)≠f (Xd N a)/\ce (Z0 N b)=k/\ce (Xd N b)=k/\ent a b≠Xr/\Zl N b≠Xr/\w=ent a b+Zl N b
def Xa2 (N:Zg) (f:Nat->Int) (ent:Nat->Nat->Int) (a o:Nat) (w:Int):Prop:=f (Z0 N o)=f (Xd N a)/\f (Xd N o)≠f (Xd N a)/\ent a o≠Xr/\w=ent a o
def Zre (N:Zg) (ce f:Nat->Int) (k:Int) (ent:Nat->Nat->Int) (i o:Nat) (x:Int):Prop:=∃ a y w,Xk (AtI i) (Ztw N ce f k ent) a y/\Xa2 N f ent a o w/\x=y+w
def Zic (f ce:Nat->Int):Prop:=∀ u v,f u=f v->ce u=ce v
def InK (N:Zg) (f:Nat->Int) (a:Nat):Prop:=f (Z0 N a)≠f (Xd N a)
def Zj0 (N:Zg) (f:Nat->Int) (ent:Nat->Nat->Int):Prop:=∀ a b,InK N f a->f (Z0 N b)=f (Xd N a)->f (Xd N b)≠f (Xd N a)->Zas (Zk1 N f (f (Xd N a)) a b) (ent a b)
section
variable {N:Zg} {ce f:Nat->Int} {k:Int} {ent:Nat->Nat->Int} {i o:Nat}
theorem Zn1 {a:Nat} {y:Int} (w:Xk (AtI i) (Ztw N ce f k ent) a y) (r:InK N f i) (hc:ce (Xd N i)=k):InK N f a/\ce (Xd N a)=k:=by
 induction w with
 | init h=>obtain ⟨rfl,_⟩:=h; exact ⟨r,hc⟩
 | step _ e _=>exact ⟨fun h=>e.2.1 (by rw [<-e.1]; exact h.symm),e.2.2.2.1⟩
theorem Zxd (hb:Zic f ce) (D:Zj0 N f ent) (G:InK N f i) (hc:ce (Xd N i)=k) {a:Nat} {y:Int} (w:Xk (AtI i) (Ztw N ce f k ent) a y):Xk (AtI i) (EdC N ce k) a y:=by
 induction w with
 | init h=>exact .init h
 | @step a b c w w0 e H =>
  obtain ⟨I,e2,e3,J,M,O,R⟩:=e
  obtain ⟨U,r⟩:=Zn1 w0 G hc
  obtain ⟨x,z,V,g2,X⟩:=((D a b U I e2).is).resolve_left M
  have g:∀ p q u,EdC N f (f (Xd N a)) p q u->EdC N ce k p q u:=fun p q u h=>⟨h.1,by rw [<-r]; exact hb _ _ h.2.1,by rw [<-r]; exact hb _ _ h.2.2⟩
  have:=Xk.step (H.then V g) (show EdC N ce k x b (Ye N x b+Zl N b) from ⟨⟨g2,O,rfl⟩,e3,J⟩)
  rw [R,X]
  rw [show c+(z+Ye N x b+Zl N b)=c+z+(Ye N x b+Zl N b) by omega]
  exact this
theorem Zv1 (r:Yd N) {a b:Nat} {w:Int} (e:EdC N ce k a b w):0<=w:=by
 obtain ⟨⟨D,G,rfl⟩,_⟩:=e
 have h1:=Ws r (a:=a) (b:=b)
 have H:=Vf r (a:=b)
 omega
theorem Zea (r:Yd N) {a:Nat} {y:Int} (w:Xk (AtI i) (EdC N ce k) a y):0<=y:=by
 induction w with
 | init h=>obtain ⟨_,rfl⟩:=h; omega
 | step _ e D=>have:=Zv1 r e; omega
theorem Zn2 (hb:Zic f ce) (V:Zj0 N f ent) (H:Yd N) (X:InK N f i) (hc:ce (Xd N i)=k) {a:Nat} {y:Int} (w:Xk (AtI i) (EdC N ce k) a y) :
  Xr<=y\/∃ p D G,Xk (AtI i) (Ztw N ce f k ent) p D/\Xk (AtI p) (EdC N f (f (Xd N p))) a G/\0<=D/\D+G<=y:=by
 induction w with
 | @init b c h =>
  obtain ⟨rfl,rfl⟩:=h
  exact .inr ⟨b,0,0,.init ⟨rfl,rfl⟩,.init ⟨rfl,rfl⟩,by omega,by omega⟩
 | @step a b c w w0 e O =>
  have hw:=Zv1 H e
  rcases O with O | ⟨p,D,G,I,g2,Z,g3⟩
  ·exact .inl (by omega)
  obtain ⟨⟨J,R,t3⟩,e2,e3⟩:=e
  obtain ⟨hp,aa⟩:=Zn1 I X hc
  have M:=Zbx g2 rfl
  have r:f (Z0 N b)=f (Xd N p):=by rw [<-Zbb J]; exact M
  by_cases q:f (Xd N b)=f (Xd N p)
  ·exact .inr ⟨p,D,G+w,I,.step g2 ⟨⟨J,R,t3⟩,r,q⟩,Z,by omega⟩
  ·have U:=V p b hp r q
   have ab:=U.all (G+Ye N a b) ⟨a,G,g2,J,rfl⟩
   have ac:=Vf H (a:=b)
   by_cases z:ent p b=Xr
   ·exact .inl (by have:=Zea H g2; omega)
   ·have ad:0<=ent p b:=by
     obtain ⟨x,u,q1,q2,q3⟩:=U.is.resolve_left z
     have:=Zea H q1
     have:=Ws H (a:=x) (b:=b)
     omega
    exact .inr ⟨b,D+(ent p b+Zl N b),0,.step I ⟨r,q,e2,e3,z,R,rfl⟩,.init ⟨rfl,rfl⟩,by omega,by omega⟩
theorem Zsi (hb:Zic f ce) (O:Zj0 N f ent) (Z:Yd N) (R:InK N f i) (hc:ce (Xd N i)=k) (ho:ce (Z0 N o)=k) (U:ce (Xd N o)≠k) {d:Int} :
  Zas (Zre N ce f k ent i o) d↔Zas (Zk1 N ce k i o) d:=by
 have D:∀ x,Zre N ce f k ent i o x->Zk1 N ce k i o x:=by
  rintro x ⟨a,y,w,I,⟨g2,g3,g4,g5⟩,rfl⟩
  obtain ⟨ha,J⟩:=Zn1 I R hc
  obtain ⟨p,z,q1,q2,q3⟩:=(O a o ha g2 g3).is.resolve_left g4
  have g:∀ p q u,EdC N f (f (Xd N a)) p q u->EdC N ce k p q u:=fun p q u h=>⟨h.1,by rw [<-J]; exact hb _ _ h.2.1,by rw [<-J]; exact hb _ _ h.2.2⟩
  exact ⟨p,y+z,(Zxd hb O R hc I).then q1 g,q2,by rw [g5,q3]; omega⟩
 have r:∀ x,Zk1 N ce k i o x->Xr<=x\/∃ G,G<=x/\Zre N ce f k ent i o G:=by
  rintro x ⟨a,y,I,g2,rfl⟩
  have ht:=Ws Z (a:=a) (b:=o)
  rcases Zn2 hb O Z R hc I with h | ⟨p,y1,y2,h1,h2,h0,h3⟩
  ·exact .inl (by omega)
  ·obtain ⟨hp,V⟩:=Zn1 h1 R hc
   have X:=Zbx h2 rfl
   have M:f (Z0 N o)=f (Xd N p):=by rw [<-Zbb g2]; exact X
   have H:f (Xd N o)≠f (Xd N p):=fun e=>U (by rw [hb _ _ e]; exact V)
   have aa:=(O p o hp M H).all (y2+Ye N a o) ⟨a,y2,h2,g2,rfl⟩
   by_cases z:ent p o=Xr
   ·exact .inl (by omega)
   ·exact .inr ⟨y1+ent p o,by omega,p,y1,ent p o,h1,⟨M,H,z,rfl⟩,rfl⟩
 constructor
 ·intro h
  refine ⟨h.le,fun x hx=>?_,h.is.imp id (D d)⟩
  rcases r x hx with g | ⟨G,I,g2⟩
  ·have:=h.le; omega
  ·have:=h.all G g2; omega
 ·intro h
  refine ⟨h.le,fun x hx=>h.all x (D x hx),?_⟩
  rcases h.is with g | g
  ·exact .inl g
  ·rcases r d g with I | ⟨G,I,g2⟩
   ·exact .inl (by have:=h.le; omega)
   ·have:=h.all G (D G g2)
    have e:G=d:=by omega
    exact .inr (e ▸ g2)
end
def Vw (ce:Nat->Nat->Int) (v a b:Nat):Nat->Nat
 | 0=>0
 | k+1=>if ce (k+1) v≠ce (k+1) a/\ce (k+1) v≠ce (k+1) b then k+1 else Vw ce v a b k
theorem Zix {ce:Nat->Nat->Int} {v a b:Nat}:∀ {n:Nat},Vw ce v a b n<=n:=by
 intro n
 induction n with
 | zero=>exact Xd6 _
 | succ n r =>
  unfold Vw
  split
  ·exact Xd6 _
  ·omega
theorem Zir {ce:Nat->Nat->Int} {v a b:Nat}:∀ {n:Nat},Vw ce v a b n≠0->ce (Vw ce v a b n) v≠ce (Vw ce v a b n) a/\ce (Vw ce v a b n) v≠ce (Vw ce v a b n) b:=by
 intro n
 induction n with
 | zero=>intro h; exact absurd rfl h
 | succ n r =>
  intro h
  unfold Vw at h ⊢
  split
  ·assumption
  ·rename_i c
   rw [if_neg c] at h
   exact r h
theorem Z01 {ce:Nat->Nat->Int} {v a b:Nat} {j:Nat}:∀ {n:Nat},0<j->j<=n->ce j v≠ce j a->ce j v≠ce j b->j<=Vw ce v a b n:=by
 intro n
 induction n with
 | zero=>intro h1 r; omega
 | succ n G =>
  intro h1 r D h4
  unfold Vw
  split
  ·exact r
  ·rename_i c
   by_cases q:j=n+1
   ·subst q; exact absurd ⟨D,h4⟩ c
   ·exact G h1 (by omega) D h4
def Zsy (n:Nat) (ce:Nat->Nat->Int):Prop:=∀ j k,0<j->j<=k->k<=n->Zic (ce j) (ce k)
def Zdk (N:Zg) (n:Nat) (ce:Nat->Nat->Int) (ent:Nat->Nat->Nat->Int) (s t:Nat) (a b:Nat) (w:Int):Prop :=
 let k:=Vw ce (Xd N a) (Xd N s) (Z0 N t) n
 if k=0 then EdW N a b w else InK N (ce k) a/\ce k (Z0 N b)=ce k (Xd N a)/\ce k (Xd N b)≠ce k (Xd N a)/\ent k a b≠Xr/\Zl N b≠Xr/\w=ent k a b+Zl N b
section
variable {N:Zg} {n:Nat} {ce:Nat->Nat->Int} {ent:Nat->Nat->Nat->Int} {s t:Nat}
theorem Zv2 (r:Yd N) {a b:Nat} {w:Int} (e:EdW N a b w):0<=w:=by
 obtain ⟨D,G,rfl⟩:=e
 have h1:=Ws r (a:=a) (b:=b)
 have H:=Vf r (a:=b)
 omega
theorem Zft (H:∀ k,0<k->k<=n->Zj0 N (ce k) (ent k)) {I:Nat->Int->Prop} {a:Nat} {y:Int} (w:Xk I (Zdk N n ce ent s t) a y):Xk I (EdW N) a y:=by
 induction w with
 | init h=>exact .init h
 | @step a b c w w0 e D =>
  unfold Zdk at e
  obtain ⟨k,G⟩:∃ k,Vw ce (Xd N a) (Xd N s) (Z0 N t) n=k:=⟨_,rfl⟩
  simp only [G] at e
  by_cases z:k=0
  ·rw [if_pos z] at e
   exact .step D e
  ·rw [if_neg z] at e
   obtain ⟨J,M,e2,O,R,U⟩:=e
   have r:k<=n:=by rw [<-G]; exact Zix
   obtain ⟨x,u,V,g2,X⟩:=((H k (by omega) r a b J M e2).is).resolve_left O
   have:=Xk.step (D.then V (fun p q u h=>h.1)) (show EdW N x b (Ye N x b+Zl N b) from ⟨g2,R,rfl⟩)
   rw [U,X,show c+(u+Ye N x b+Zl N b)=c+u+(Ye N x b+Zl N b) by omega]
   exact this
theorem Zld (ok:Yd N) (hn:Zsy n ce) (he:∀ k,0<k->k<=n->Zj0 N (ce k) (ent k)) {I:Nat->Int->Prop} (hI:∀ b c,I b c->b=s/\c=0) {a:Nat} {y:Int} (w:Xk I (EdW N) a y) :
  Xr<=y\/∃ p r D,Xk I (Zdk N n ce ent s t) p r/\(Vw ce (Xd N p) (Xd N s) (Z0 N t) n≠0->InK N (ce (Vw ce (Xd N p) (Xd N s) (Z0 N t) n)) p) /\
   (if Vw ce (Xd N p) (Xd N s) (Z0 N t) n=0 then a=p/\D=0 else Xk (AtI p) (EdC N (ce (Vw ce (Xd N p) (Xd N s) (Z0 N t) n)) (ce (Vw ce (Xd N p) (Xd N s) (Z0 N t) n) (Xd N p))) a D)/\0<=r/\r+D<=y:=by
 induction w with
 | @init b c h =>
  obtain ⟨rfl,rfl⟩:=hI _ _ h
  have hz:Vw ce (Xd N b) (Xd N b) (Z0 N t) n=0:=by
   by_cases z:Vw ce (Xd N b) (Xd N b) (Z0 N t) n=0
   ·exact z
   ·exact absurd rfl (Zir z).1
  exact .inr ⟨b,0,0,.init h,fun h=>absurd hz h,by rw [if_pos hz]; exact ⟨rfl,rfl⟩,by omega,by omega⟩
 | @step a b c w w0 e ih =>
  have hw:=Zv2 ok e
  rcases ih with ih | ⟨p,r,D,g1,O,g2,g0,g3⟩
  ·exact .inl (by omega)
  obtain ⟨t1,t2,t3⟩:=id e
  have R:=Zbb t1
  obtain ⟨k,U⟩:∃ k,Vw ce (Xd N p) (Xd N s) (Z0 N t) n=k:=⟨_,rfl⟩
  have aa:k<=n:=by rw [<-U]; exact Zix
  have ad:=@Zir ce (Xd N p) (Xd N s) (Z0 N t) n
  have G:=fun j=>@Z01 ce (Xd N p) (Xd N s) (Z0 N t) j n
  rw [U] at O g2 ad
  simp only [U] at G
  obtain ⟨m,hm⟩:∃ m,Vw ce (Xd N b) (Xd N s) (Z0 N t) n=m:=⟨_,rfl⟩
  have V:m<=n:=by rw [<-hm]; exact Zix
  have X:=@Zir ce (Xd N b) (Xd N s) (Z0 N t) n
  rw [hm] at X
  have H:∀ (M:m≠0->InK N (ce m) b) (z:Int),0<=z->Xk I (Zdk N n ce ent s t) b z->z<=c+w->Xr<=c+w\/∃ p r D,Xk I (Zdk N n ce ent s t) p r/\(Vw ce (Xd N p) (Xd N s) (Z0 N t) n≠0->InK N (ce (Vw ce (Xd N p) (Xd N s) (Z0 N t) n)) p) /\
   (if Vw ce (Xd N p) (Xd N s) (Z0 N t) n=0 then b=p/\D=0 else Xk (AtI p) (EdC N (ce (Vw ce (Xd N p) (Xd N s) (Z0 N t) n)) (ce (Vw ce (Xd N p) (Xd N s) (Z0 N t) n) (Xd N p))) b D)/\0<=r/\r+D<=c+w:=by
   intro M z z0 hz zl
   refine .inr ⟨b,z,0,hz,by rw [hm]; exact M,?_,z0,by omega⟩
   rw [hm]
   split
   ·exact ⟨rfl,rfl⟩
   ·exact .init ⟨rfl,rfl⟩
  by_cases z:k=0
  ·rw [if_pos z] at g2
   obtain ⟨rfl,rfl⟩:=g2
   refine H (fun Z h=>?_) (r+w) (by omega) (.step g1 ?_) (by omega)
   ·have q:=X Z
    have:=G m (by omega) V (by rw [R,h]; exact q.1) (by rw [R,h]; exact q.2)
    omega
   ·unfold Zdk
    simp only [U]
    rw [if_pos z]
    exact e
  ·rw [if_neg z] at g2
   have ae:=Zbx g2 rfl
   have J:ce k (Z0 N b)=ce k (Xd N p):=by rw [<-R]; exact ae
   by_cases q:ce k (Xd N b)=ce k (Xd N p)
   ·refine .inr ⟨p,r,D+w,g1,by rw [U]; exact O,?_,g0,by omega⟩
    rw [U,if_neg z]
    exact .step g2 ⟨e,J,q⟩
   ·have ab:=O z
    have hl:=he k (by omega) aa p b ab J q
    have af:=hl.all (D+Ye N a b) ⟨a,D,g2,t1,rfl⟩
    have ag:=Vf ok (a:=b)
    by_cases u:ent k p b=Xr
    ·exact .inl (by have:=Zea ok g2; omega)
    ·have ah:0<=ent k p b:=by
      obtain ⟨x,v,q1,q2,q3⟩:=hl.is.resolve_left u
      have:=Zea ok q1
      have:=Ws ok (a:=x) (b:=b)
      omega
     refine H (fun Z h=>?_) (r+(ent k p b+Zl N b)) (by omega) (.step g1 ?_) (by omega)
     ·have qm:=X Z
      rcases Xd8 k m with c1 | c1
      ·have ac:ce m (Xd N p)=ce m (Xd N b):=by
        rw [<-h]; exact hn k m (by omega) (by omega) V _ _ J.symm
       have:=G m (by omega) V (by rw [ac]; exact qm.1) (by rw [ac]; exact qm.2)
       omega
      ·exact q (by rw [<-J]; exact (hn m k (by omega) c1 aa _ _ h).symm)
     ·unfold Zdk
      simp only [U]
      rw [if_neg z]
      exact ⟨ab,J,q,u,t2,trivial⟩
theorem Zug (O:Yd N) (R:Zsy n ce) (G:∀ k,0<k->k<=n->Zj0 N (ce k) (ent k)) {I:Nat->Int->Prop} (U:∀ b c,I b c->b=s/\c=0) {d:Int}:Zcg I (Zdk N n ce ent s t) t d↔Zcg I (EdW N) t d:=by
 have r:∀ y,Xk I (EdW N) t y->Xr<=y\/∃ J,J<=y/\Xk I (Zdk N n ce ent s t) t J:=by
  intro y w
  rcases Zld (t:=t) O R G U w with h | ⟨p,M,X,D,V,g2,Z,g3⟩
  ·exact .inl h
  ·split at g2
   ·obtain ⟨rfl,rfl⟩:=g2
    exact .inr ⟨M,by omega,D⟩
   ·rename_i z
    cases g2 with
    | init h=>obtain ⟨rfl,rfl⟩:=h; exact .inr ⟨M,by omega,D⟩
    | step _ e=>exact absurd e.2.1.symm (Zir z).2
 constructor
 ·intro h
  refine ⟨h.le,fun x hx=>?_,h.is.imp id (Zft G)⟩
  rcases r x hx with g | ⟨H,D,g2⟩
  ·have:d<=Xr:=h.le; omega
  ·have:=h.all H g2; omega
 ·intro h
  refine ⟨h.le,fun x hx=>h.all x (Zft G hx),?_⟩
  rcases h.is with g | g
  ·exact .inl g
  ·rcases r d g with D | ⟨H,D,g2⟩
   ·exact .inl (by have:d<=Xr:=h.le; have:Xr=1152921504606846976:=rfl; omega)
   ·have:=h.all H (Zft G g2)
    have e:H=d:=by omega
    exact .inr (e ▸ g2)
end
end Go.Rm
