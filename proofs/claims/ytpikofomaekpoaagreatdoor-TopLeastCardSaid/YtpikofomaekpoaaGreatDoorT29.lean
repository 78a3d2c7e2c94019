import Derived.Test.YtpikofomaekpoaaGreatDoorT28
/- Parts. -/
set_option linter.unusedSimpArgs false
set_option linter.unusedVariables false
namespace Go.Rm
abbrev Xq:Int:=1152921504606846976
def Qe (N:Zr) (a:Nat):Nat:=(Zp N.as a).a.toNat
def Xd (N:Zr) (a:Nat):Nat:=(Zp N.as a).b.toNat
def AtI (s:Nat) (b:Nat) (c:Int):Prop:=b=s/\c=0
def EdC (N:Zr) (ce:Nat->Int) (k:Int) (a b:Nat) (w:Int):Prop:=EdW N a b w/\ce (Qe N b)=k/\ce (Xd N b)=k
def Zmf (N:Zr) (ce:Nat->Int) (k:Int) (i o:Nat) (x:Int):Prop:=∃ a y,Xg (AtI i) (EdC N ce k) a y/\Yr N a o≠Xq/\x=y+Yr N a o
structure Zao (P:Int->Prop) (d:Int):Prop where
 le:d<=Xq
 all:∀ x,P x->d<=x
 is:d=Xq\/P d
theorem Xg.then {I:Nat->Int->Prop} {E E':Nat->Nat->Int->Prop} {a b:Nat} {y z:Int} (h:Xg I E a y) (k:Xg (AtI a) E' b z) (le:∀ a b w,E' a b w->E a b w):Xg I E b (y+z):=by
 induction k with
 | init h'=>obtain ⟨rfl,rfl⟩:=h';simpa using h
 | step _ e ih=>rw [<-Int.add_assoc];exact .step ih (le _ _ _ e)
theorem Xg.mono {I:Nat->Int->Prop} {E E':Nat->Nat->Int->Prop} {b:Nat} {z:Int} (k:Xg I E b z) (le:∀ a b w,E a b w->E' a b w):Xg I E' b z:=by
 induction k with
 | init h'=>exact .init h'
 | step _ e ih=>exact .step ih (le _ _ _ e)
theorem Zbo {N:Zr} {ce:Nat->Int} {k:Int} {i a:Nat} {y:Int} (w:Xg (AtI i) (EdC N ce k) a y) (r:ce (Xd N i)=k):ce (Xd N a)=k:=by
 cases w with
 | init h=>obtain ⟨rfl,_⟩:=h;exact r
 | step _ e=>exact e.2.2
theorem Zb8 {N:Zr} {a b:Nat} (h:Yr N a b≠Xq):Xd N a=Qe N b:=by
 have:=(Zlt h).2.2.1;simp at this;unfold Xd Qe;rw [this]
def Zpn (N:Zr) (ce f:Nat->Int) (k:Int) (ent:Nat->Nat->Int) (a b:Nat) (w:Int):Prop :=
 f (Qe N b)=f (Xd N a)/\f (Xd N b)≠f (Xd N a)/\ce (Qe N b)=k/\ce (Xd N b)=k/\ent a b≠Xq/\Zu N b≠Xq/\w=ent a b+Zu N b
def Xas (N:Zr) (f:Nat->Int) (ent:Nat->Nat->Int) (a o:Nat) (w:Int):Prop:=f (Qe N o)=f (Xd N a)/\f (Xd N o)≠f (Xd N a)/\ent a o≠Xq/\w=ent a o
def Zsy (N:Zr) (ce f:Nat->Int) (k:Int) (ent:Nat->Nat->Int) (i o:Nat) (x:Int):Prop:=∃ a y w,Xg (AtI i) (Zpn N ce f k ent) a y/\Xas N f ent a o w/\x=y+w
def Zjl (f ce:Nat->Int):Prop:=∀ u v,f u=f v->ce u=ce v
def InK (N:Zr) (f:Nat->Int) (a:Nat):Prop:=f (Qe N a)≠f (Xd N a)
def Zhq (N:Zr) (f:Nat->Int) (ent:Nat->Nat->Int):Prop:=∀ a b,InK N f a->f (Qe N b)=f (Xd N a)->f (Xd N b)≠f (Xd N a)->Zao (Zmf N f (f (Xd N a)) a b) (ent a b)
section
variable {N:Zr} {ce f:Nat->Int} {k:Int} {ent:Nat->Nat->Int} {i o:Nat}
theorem Zgt {a:Nat} {y:Int} (w:Xg (AtI i) (Zpn N ce f k ent) a y) (r:InK N f i) (hc:ce (Xd N i)=k):InK N f a/\ce (Xd N a)=k:=by
 induction w with
 | init h=>obtain ⟨rfl,_⟩:=h;exact ⟨r,hc⟩
 | step _ e _=>exact ⟨fun h=>e.2.1 (by rw [<-e.1];exact h.symm),e.2.2.2.1⟩
theorem Zy7 (hb:Zjl f ce) (D:Zhq N f ent) (G:InK N f i) (hc:ce (Xd N i)=k) {a:Nat} {y:Int} (w:Xg (AtI i) (Zpn N ce f k ent) a y):Xg (AtI i) (EdC N ce k) a y:=by
 induction w with
 | init h=>exact .init h
 | @step a b c w w0 e ih =>
  obtain ⟨H,e2,e3,I,J,M,O⟩:=e;obtain ⟨R,r⟩:=Zgt w0 G hc;obtain ⟨x,z,U,g2,V⟩:=((D a b R H e2).is).resolve_left J;have g:∀ p q u,EdC N f (f (Xd N a)) p q u->EdC N ce k p q u:=fun p q u h=>⟨h.1,by rw [<-r];exact hb _ _ h.2.1,by rw [<-r];exact hb _ _ h.2.2⟩
  have:=Xg.step (ih.then U g) (show EdC N ce k x b (Yr N x b+Zu N b) from ⟨⟨g2,M,rfl⟩,e3,I⟩);rw [O,V];rw [show c+(z+Yr N x b+Zu N b)=c+z+(Yr N x b+Zu N b) by omega];exact this
theorem Zxs (r:Yl N) {a b:Nat} {w:Int} (e:EdC N ce k a b w):0<=w:=by
 obtain ⟨⟨D,G,rfl⟩,_⟩:=e;have h1:=Wq r (a:=a) (b:=b);have H:=Ve r (a:=b);omega
theorem Ze1 (r:Yl N) {a:Nat} {y:Int} (w:Xg (AtI i) (EdC N ce k) a y):0<=y:=by
 induction w with
 | init h=>obtain ⟨_,rfl⟩:=h;omega
 | step _ e ih=>have:=Zxs r e;omega
theorem Zpo (hb:Zjl f ce) (U:Zhq N f ent) (H:Yl N) (V:InK N f i) (hc:ce (Xd N i)=k) {a:Nat} {y:Int} (w:Xg (AtI i) (EdC N ce k) a y) :
  Xq<=y\/∃ p D G,Xg (AtI i) (Zpn N ce f k ent) p D/\Xg (AtI p) (EdC N f (f (Xd N p))) a G/\0<=D/\D+G<=y:=by
 induction w with
 | @init b c h =>
  obtain ⟨rfl,rfl⟩:=h;exact .inr ⟨b,0,0,.init ⟨rfl,rfl⟩,.init ⟨rfl,rfl⟩,by omega,by omega⟩
 | @step a b c w w0 e ih =>
  have hw:=Zxs H e;rcases ih with ih | ⟨p,D,G,I,g2,X,g3⟩
  ·exact .inl (by omega)
  obtain ⟨⟨J,O,Z⟩,e2,e3⟩:=e;obtain ⟨hp,aa⟩:=Zgt I V hc;have M:=Zbo g2 rfl;have r:f (Qe N b)=f (Xd N p):=by rw [<-Zb8 J];exact M
  by_cases q:f (Xd N b)=f (Xd N p)
  ·exact .inr ⟨p,D,G+w,I,.step g2 ⟨⟨J,O,Z⟩,r,q⟩,X,by omega⟩
  have R:=U p b hp r q;have ab:=R.all (G+Yr N a b) ⟨a,G,g2,J,rfl⟩;have ac:=Ve H (a:=b);by_cases z:ent p b=Xq
  ·exact .inl (by have:=Ze1 H g2;omega)
  have ad:0<=ent p b:=by
   obtain ⟨x,u,q1,q2,q3⟩:=R.is.resolve_left z;have:=Ze1 H q1;have:=Wq H (a:=x) (b:=b);omega
  exact .inr ⟨b,D+(ent p b+Zu N b),0,.step I ⟨r,q,e2,e3,z,O,rfl⟩,.init ⟨rfl,rfl⟩,by omega,by omega⟩
theorem Zjs (hb:Zjl f ce) (O:Zhq N f ent) (Z:Yl N) (R:InK N f i) (hc:ce (Xd N i)=k) (ho:ce (Qe N o)=k) (U:ce (Xd N o)≠k) {d:Int} :
  Zao (Zsy N ce f k ent i o) d↔Zao (Zmf N ce k i o) d:=by
 have D:∀ x,Zsy N ce f k ent i o x->Zmf N ce k i o x:=by
  rintro x ⟨a,y,w,I,⟨g2,g3,g4,g5⟩,rfl⟩;obtain ⟨ha,J⟩:=Zgt I R hc;obtain ⟨p,z,q1,q2,q3⟩:=(O a o ha g2 g3).is.resolve_left g4;have g:∀ p q u,EdC N f (f (Xd N a)) p q u->EdC N ce k p q u:=fun p q u h=>⟨h.1,by rw [<-J];exact hb _ _ h.2.1,by rw [<-J];exact hb _ _ h.2.2⟩
  exact ⟨p,y+z,(Zy7 hb O R hc I).then q1 g,q2,by rw [g5,q3];omega⟩
 have r:∀ x,Zmf N ce k i o x->Xq<=x\/∃ G,G<=x/\Zsy N ce f k ent i o G:=by
  rintro x ⟨a,y,I,g2,rfl⟩;have ht:=Wq Z (a:=a) (b:=o);rcases Zpo hb O Z R hc I with h | ⟨p,y1,y2,h1,h2,h0,h3⟩
  ·exact .inl (by omega)
  obtain ⟨hp,V⟩:=Zgt h1 R hc;have X:=Zbo h2 rfl;have M:f (Qe N o)=f (Xd N p):=by rw [<-Zb8 g2];exact X
  have H:f (Xd N o)≠f (Xd N p):=fun e=>U (by rw [hb _ _ e];exact V);have aa:=(O p o hp M H).all (y2+Yr N a o) ⟨a,y2,h2,g2,rfl⟩;by_cases z:ent p o=Xq
  ·exact .inl (by omega)
  exact .inr ⟨y1+ent p o,by omega,p,y1,ent p o,h1,⟨M,H,z,rfl⟩,rfl⟩
 constructor
 ·intro h;refine ⟨h.le,fun x hx=>?_,h.is.imp id (D d)⟩;rcases r x hx with g | ⟨G,I,g2⟩
  ·have:=h.le;omega
  have:=h.all G g2;omega
 intro h;refine ⟨h.le,fun x hx=>h.all x (D x hx),?_⟩;rcases h.is with g | g
 ·exact .inl g
 rcases r d g with I | ⟨G,I,g2⟩
 ·exact .inl (by have:=h.le;omega)
 have:=h.all G (D G g2);have e:G=d:=by omega
 exact .inr (e ▸ g2)
end
def Uk (ce:Nat->Nat->Int) (v a b:Nat):Nat->Nat
 | 0=>0
 | k+1=>if ce (k+1) v≠ce (k+1) a/\ce (k+1) v≠ce (k+1) b then k+1 else Uk ce v a b k
theorem Zh9 {ce:Nat->Nat->Int} {v a b:Nat}:∀ {n:Nat},Uk ce v a b n<=n:=by
 intro n
 induction n with
 | zero=>exact Xfy _
 | succ n ih =>
  unfold Uk
  split
  ·exact Xfy _
  omega
theorem Zj1 {ce:Nat->Nat->Int} {v a b:Nat}:∀ {n:Nat},Uk ce v a b n≠0->ce (Uk ce v a b n) v≠ce (Uk ce v a b n) a/\ce (Uk ce v a b n) v≠ce (Uk ce v a b n) b:=by
 intro n
 induction n with
 | zero=>intro h;exact absurd rfl h
 | succ n ih =>
  intro h;unfold Uk at h ⊢
  split
  ·assumption
  rename_i c;rw [if_neg c] at h;exact ih h
theorem Z2r {ce:Nat->Nat->Int} {v a b:Nat} {j:Nat}:∀ {n:Nat},0<j->j<=n->ce j v≠ce j a->ce j v≠ce j b->j<=Uk ce v a b n:=by
 intro n
 induction n with
 | zero=>intro h1 r;omega
 | succ n ih =>
  intro h1 r D h4;unfold Uk
  split
  ·exact r
  rename_i c;by_cases q:j=n+1
  ·subst q;exact absurd ⟨D,h4⟩ c
  exact ih h1 (by omega) D h4
def Zuk (n:Nat) (ce:Nat->Nat->Int):Prop:=∀ j k,0<j->j<=k->k<=n->Zjl (ce j) (ce k)
def Zid (N:Zr) (n:Nat) (ce:Nat->Nat->Int) (ent:Nat->Nat->Nat->Int) (s t:Nat) (a b:Nat) (w:Int):Prop :=
 let k:=Uk ce (Xd N a) (Xd N s) (Qe N t) n
 if k=0 then EdW N a b w else InK N (ce k) a/\ce k (Qe N b)=ce k (Xd N a)/\ce k (Xd N b)≠ce k (Xd N a)/\ent k a b≠Xq/\Zu N b≠Xq/\w=ent k a b+Zu N b
section
variable {N:Zr} {n:Nat} {ce:Nat->Nat->Int} {ent:Nat->Nat->Nat->Int} {s t:Nat}
theorem Zxt (r:Yl N) {a b:Nat} {w:Int} (e:EdW N a b w):0<=w:=by
 obtain ⟨D,G,rfl⟩:=e;have h1:=Wq r (a:=a) (b:=b);have H:=Ve r (a:=b);omega
theorem Zgs (G:∀ k,0<k->k<=n->Zhq N (ce k) (ent k)) {I:Nat->Int->Prop} {a:Nat} {y:Int} (w:Xg I (Zid N n ce ent s t) a y):Xg I (EdW N) a y:=by
 induction w with
 | init h=>exact .init h
 | @step a b c w w0 e ih =>
  unfold Zid at e;obtain ⟨k,D⟩:∃ k,Uk ce (Xd N a) (Xd N s) (Qe N t) n=k:=⟨_,rfl⟩
  simp only [D] at e;by_cases z:k=0
  ·rw [if_pos z] at e;exact .step ih e
  rw [if_neg z] at e;obtain ⟨H,J,e2,M,O,R⟩:=e;have r:k<=n:=by rw [<-D];exact Zh9
  obtain ⟨x,u,U,g2,V⟩:=((G k (by omega) r a b H J e2).is).resolve_left M;have:=Xg.step (ih.then U (fun p q u h=>h.1)) (show EdW N x b (Yr N x b+Zu N b) from ⟨g2,O,rfl⟩);rw [R,V,show c+(u+Yr N x b+Zu N b)=c+u+(Yr N x b+Zu N b) by omega];exact this
theorem Zmt (ok:Yl N) (hn:Zuk n ce) (he:∀ k,0<k->k<=n->Zhq N (ce k) (ent k)) {I:Nat->Int->Prop} (hI:∀ b c,I b c->b=s/\c=0) {a:Nat} {y:Int} (w:Xg I (EdW N) a y) :
  Xq<=y\/∃ p r D,Xg I (Zid N n ce ent s t) p r/\(Uk ce (Xd N p) (Xd N s) (Qe N t) n≠0->InK N (ce (Uk ce (Xd N p) (Xd N s) (Qe N t) n)) p) /\
   (if Uk ce (Xd N p) (Xd N s) (Qe N t) n=0 then a=p/\D=0 else Xg (AtI p) (EdC N (ce (Uk ce (Xd N p) (Xd N s) (Qe N t) n)) (ce (Uk ce (Xd N p) (Xd N s) (Qe N t) n) (Xd N p))) a D)/\0<=r/\r+D<=y:=by
 induction w with
 | @init b c h =>
  obtain ⟨rfl,rfl⟩:=hI _ _ h;have hz:Uk ce (Xd N b) (Xd N b) (Qe N t) n=0:=by
   by_cases z:Uk ce (Xd N b) (Xd N b) (Qe N t) n=0
   ·exact z
   exact absurd rfl (Zj1 z).1
  exact .inr ⟨b,0,0,.init h,fun h=>absurd hz h,by rw [if_pos hz];exact ⟨rfl,rfl⟩,by omega,by omega⟩
 | @step a b c w w0 e ih =>
  have hw:=Zxt ok e;rcases ih with ih | ⟨p,r,D,g1,O,g2,g0,g3⟩
  ·exact .inl (by omega)
  obtain ⟨t1,t2,t3⟩:=id e;have R:=Zb8 t1;obtain ⟨k,U⟩:∃ k,Uk ce (Xd N p) (Xd N s) (Qe N t) n=k:=⟨_,rfl⟩
  have aa:k<=n:=by rw [<-U];exact Zh9
  have ad:=@Zj1 ce (Xd N p) (Xd N s) (Qe N t) n;have G:=fun j=>@Z2r ce (Xd N p) (Xd N s) (Qe N t) j n;rw [U] at O g2 ad;simp only [U] at G;obtain ⟨m,hm⟩:∃ m,Uk ce (Xd N b) (Xd N s) (Qe N t) n=m:=⟨_,rfl⟩
  have V:m<=n:=by rw [<-hm];exact Zh9
  have X:=@Zj1 ce (Xd N b) (Xd N s) (Qe N t) n;rw [hm] at X;have H:∀ (M:m≠0->InK N (ce m) b) (z:Int),0<=z->Xg I (Zid N n ce ent s t) b z->z<=c+w->Xq<=c+w\/∃ p r D,Xg I (Zid N n ce ent s t) p r/\(Uk ce (Xd N p) (Xd N s) (Qe N t) n≠0->InK N (ce (Uk ce (Xd N p) (Xd N s) (Qe N t) n)) p) /\
   (if Uk ce (Xd N p) (Xd N s) (Qe N t) n=0 then b=p/\D=0 else Xg (AtI p) (EdC N (ce (Uk ce (Xd N p) (Xd N s) (Qe N t) n)) (ce (Uk ce (Xd N p) (Xd N s) (Qe N t) n) (Xd N p))) b D)/\0<=r/\r+D<=c+w:=by
   intro M z z0 hz zl;refine .inr ⟨b,z,0,hz,by rw [hm];exact M,?_,z0,by omega⟩;rw [hm]
   split
   ·exact ⟨rfl,rfl⟩
   exact .init ⟨rfl,rfl⟩
  by_cases z:k=0
  ·rw [if_pos z] at g2;obtain ⟨rfl,rfl⟩:=g2;refine H (fun Z h=>?_) (r+w) (by omega) (.step g1 ?_) (by omega)
   ·have q:=X Z;have:=G m (by omega) V (by rw [R,h];exact q.1) (by rw [R,h];exact q.2);omega
   unfold Zid;simp only [U];rw [if_pos z];exact e
  rw [if_neg z] at g2;have ae:=Zbo g2 rfl;have J:ce k (Qe N b)=ce k (Xd N p):=by rw [<-R];exact ae
  by_cases q:ce k (Xd N b)=ce k (Xd N p)
  ·refine .inr ⟨p,r,D+w,g1,by rw [U];exact O,?_,g0,by omega⟩;rw [U,if_neg z];exact .step g2 ⟨e,J,q⟩
  have ab:=O z;have hl:=he k (by omega) aa p b ab J q;have af:=hl.all (D+Yr N a b) ⟨a,D,g2,t1,rfl⟩;have ag:=Ve ok (a:=b);by_cases u:ent k p b=Xq
  ·exact .inl (by have:=Ze1 ok g2;omega)
  have ah:0<=ent k p b:=by
   obtain ⟨x,v,q1,q2,q3⟩:=hl.is.resolve_left u;have:=Ze1 ok q1;have:=Wq ok (a:=x) (b:=b);omega
  refine H (fun Z h=>?_) (r+(ent k p b+Zu N b)) (by omega) (.step g1 ?_) (by omega)
  ·have qm:=X Z;rcases Xf0 k m with c1 | c1
   ·have ac:ce m (Xd N p)=ce m (Xd N b):=by
     rw [<-h];exact hn k m (by omega) (by omega) V _ _ J.symm
    have:=G m (by omega) V (by rw [ac];exact qm.1) (by rw [ac];exact qm.2);omega
   exact q (by rw [<-J];exact (hn m k (by omega) c1 aa _ _ h).symm)
  unfold Zid;simp only [U];rw [if_neg z];exact ⟨ab,J,q,u,t2,trivial⟩
theorem Zv6 (O:Yl N) (R:Zuk n ce) (G:∀ k,0<k->k<=n->Zhq N (ce k) (ent k)) {I:Nat->Int->Prop} (U:∀ b c,I b c->b=s/\c=0) {d:Int}:X9 I (Zid N n ce ent s t) t d↔X9 I (EdW N) t d:=by
 have r:∀ y,Xg I (EdW N) t y->Xq<=y\/∃ J,J<=y/\Xg I (Zid N n ce ent s t) t J:=by
  intro y w;rcases Zmt (t:=t) O R G U w with h | ⟨p,M,X,D,V,g2,Z,g3⟩
  ·exact .inl h
  split at g2
  ·obtain ⟨rfl,rfl⟩:=g2;exact .inr ⟨M,by omega,D⟩
  rename_i z
  cases g2 with
  | init h=>obtain ⟨rfl,rfl⟩:=h;exact .inr ⟨M,by omega,D⟩
  | step _ e=>exact absurd e.2.1.symm (Zj1 z).2
 constructor
 ·intro h;refine ⟨h.le,fun x hx=>?_,h.is.imp id (Zgs G)⟩;rcases r x hx with g | ⟨H,D,g2⟩
  ·have:d<=Xq:=h.le;omega
  have:=h.all H g2;omega
 intro h;refine ⟨h.le,fun x hx=>h.all x (Zgs G hx),?_⟩;rcases h.is with g | g
 ·exact .inl g
 rcases r d g with D | ⟨H,D,g2⟩
 ·exact .inl (by have:d<=Xq:=h.le;have:Xq=1152921504606846976:=rfl;omega)
 have:=h.all H (Zgs G g2);have e:H=d:=by omega
 exact .inr (e ▸ g2)
end
end Go.Rm
