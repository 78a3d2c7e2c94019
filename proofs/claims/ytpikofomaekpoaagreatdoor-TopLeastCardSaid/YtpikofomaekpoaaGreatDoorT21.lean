import Derived.Test.YtpikofomaekpoaaGreatDoorT19
import Derived.Test.YtpikofomaekpoaaGreatDoorT20
/- Parts. -/
set_option linter.unusedSimpArgs false
set_option linter.unusedVariables false
namespace Go.Rm
theorem Zjg {a:Int}:∀ {l:Zb} {k:Nat},(∀ x∈l,x≠a)->Yg k l a = -1:=by
 intro l
 induction l with
 | nil=>intro k _;rfl
 | cons x r ih =>
  intro k h;simp only [Yg];rw [if_neg (h x (by simp)),ih (fun y hy=>h y (by simp [hy]))]
section
variable {Y:Sys} {h h':Zk}
structure Zlq (Y:Sys):Prop where
 Index:Y.Has 222 Y222
 Contains:Y.Has 218 Y218
 Sorted:Y.Has 219 Y219
 Less:Y.Has 213 Y213
 NaN:Y.Has 221 Y221
theorem Zug (S:Zlq Y) {a:Int} {R:Ze} (r:R (.bool false) h):Zv Y 221 [Zg a] h R:=by
 refine .of_has S.NaN rfl ?_;simp [Y221,Xm.wp];exact r
theorem Znz (S:Zlq Y) {a b:Int} {R:Ze} (r:R (.bool (decide (a<b))) h):Zv Y 213 [Zg a,Zg b] h R:=by
 refine .of_has S.Less rfl ?_;simp [Y213,Xm.wp];refine Zug S ?_;simp;exact r
def IxI (s:Sl) (a:Int) (l:Zb) (h0:Zk) (e:Zc) (h':Zk):Prop :=
 ∃ (i:Nat) (v2 v3 v6 v7:Value),e=[s.v,Zg a,v2,v3,Zg s.n,Zg i,v6,v7]/\i<=s.n/\Yg 0 l a=Yg i (l.drop i) a/\h'=h0
theorem Zwu (S:Zlq Y) {s:Sl} {l:Zb} (r:Yd h s l) (G:s.n<=1000000) {a:Int} {R:Ze} (D:R (Zg (Yg 0 l a)) h):Zv Y 222 [s.v,Zg a] h R:=by
 refine .of_has S.Index rfl ?_;have M:=r.len;simp [Y222,Xm.wp];refine Zt (IxI s a l h) (fun e _=>s.n-Zy e 5) ⟨0,_,_,_,_,rfl,by omega,by simp,rfl⟩ ?_;rintro e h1 ⟨i,O,U,V,X,rfl,Z,hp,H⟩;subst H;by_cases c:i<s.n
 ·have c':(i:Int)<s.n:=by omega
  have I:=Zj (i:=i) (by omega);rw [Zi8 (by omega)] at hp;by_cases d:Zl l i=a
  ·rw [if_pos d] at hp;rw [hp] at D;simp [c',Zm r.ok,r.at c,d];exact D
  rw [if_neg d] at hp;have J:(a=Zl l i)=False:=by simp;omega
  simp [c',Zm r.ok,r.at c,J,I];refine ⟨⟨i+1,_,_,_,_,rfl,by omega,hp,rfl⟩,by simp [Zy];omega⟩
 have c':¬ (i:Int)<s.n:=by omega
 rw [Xgs (by omega)] at hp;simp only [Yg] at hp;rw [hp] at D;simp [c'];exact D
theorem Zmr (S:Zlq Y) {s:Sl} {l:Zb} (r:Yd h s l) (D:s.n<=1000000) {a:Int} {R:Ze} (G:R (.bool (decide (0<=Yg 0 l a))) h):Zv Y 218 [s.v,Zg a] h R:=by
 refine .of_has S.Contains rfl ?_;simp [Y218,Xm.wp];refine Zwu S r D ?_;simp;exact G
def SoI (s:Sl) (h0:Zk) (e:Zc) (h':Zk):Prop :=
 ∃ (i:Nat) (j:Int) (v1 v3 v4:Value),e=[s.v,v1,Zg j,v3,v4]/\i<=s.n/\j=(s.n:Int)-1-i/\h'=h0
theorem Zss (S:Zlq Y) {s:Sl} {l:Zb} (r:Yd h s l) (D:s.n<=1000000) (hs:∀ i,i+1<l.length->Zl l i<=Zl l (i+1)) {R:Ze} (M:R (.bool true) h):Zv Y 219 [s.v] h R:=by
 refine .of_has S.Sorted rfl ?_;have Z:=r.len;have w0:IntKind.i64.wrap ((s.n:Int)-1)=(s.n:Int)-1:=Zo (by omega);simp [Y219,Xm.wp,w0];refine Zt (SoI s h) (fun e _=>s.n-(Xcr e 2+1-s.n).natAbs) ⟨0,(s.n:Int)-1,_,_,_,rfl,by omega,by omega,rfl⟩ ?_;rintro e h1 ⟨i,j,G,v3,v4,rfl,hi,hj,O⟩;subst O;by_cases c:0<j
 ·obtain ⟨k,U⟩:∃ k:Nat,j=(k:Int)+1:=⟨(j-1).toNat,by omega⟩
  have c1:k+1<s.n:=by omega
  have H:k<s.n:=by omega
  have w1:IntKind.i64.wrap ((k:Int)+1-1)=(k:Int):=by rw [Zo (by omega)];omega
  have I:IntKind.i64.wrap (k:Int)=(k:Int):=Zo (by omega);have J:=Zm (Y:=Y) (h:=h1) (k:=.i64) (sz:=1) (i:=(k:Int)+1) r.ok (by omega) (by omega);rw [Xgd,show ((k:Int)+1).toNat=k+1 by omega] at J;have G:=r.at c1;have V:=hs k (by omega);have d:¬ Zl l (k+1)<Zl l k:=by omega
  have X:(0:Int)<(k:Int)+1:=by omega
  subst U;simp [X,J,G,I,Zm r.ok,H,r.at H];refine Znz S ?_;simp [d,I];exact ⟨⟨i+1,(k:Int),_,_,_,rfl,by omega,by omega,rfl⟩,by simp [Xcr];omega⟩
 simp [c];exact M
structure Zp2 (Y:Sys):Prop where
 S:Zlq Y
 Check:Y.Has 188 Y188
 tally:Y.Has 203 Y203
 nested:Y.Has 204 Y204
theorem Zog {l:Zb} {i:Nat} (r:i<l.length):(if Wn (l.take i)-1<Zl l i then Zl l i else Wn (l.take i)-1)=Wn (l.take (i+1))-1:=by
 rw [Zak r];by_cases h:Wn (l.take i)<Zl l i+1
 ·rw [if_pos (by omega),if_pos h];omega
 rw [if_neg (by omega),if_neg h]
def TyI (s k:Sl) (l:Zb) (h0:Zk) (e:Zc) (h':Zk):Prop :=
 ∃ (i:Nat) (v6 v10 v11:Value),e=[s.v,Zi,.bool false,Zg s.n,k.v,Zg (Wn (l.take i)-1),v6,s.v,Zg s.n,Zg i,v10,v11]/\i<=s.n/\Ym h' 1 k (Zq (Zf5 s.n (l.take i)))/\Mod (fun j=>j=k.b) h0 h'
theorem Zwk (P:Zp2 Y) {s:Sl} {l:Zb} (r:Yd h s l) (H:s.n<=1000000) (I:∀ v,v<l.length->0<=Zl l v/\Zl l v<l.length) (D:∀ c,c<(Wn l).toNat->Zbt l c≠0) {R:Ze}
  (hr:∀ h' t,Ext h h'->R (.tuple #[t,.bool true]) h'):Zv Y 203 [s.v] h R:=by
 refine .of_has P.tally rfl ?_;have hl:=r.len;simp [Y203,Xm.wp];refine Zfw (n:=s.n) H rfl ?_;intro U h1 g1 o1 e1 l1;rw [<-Zra] at o1;simp;refine Zt (TyI s (Sl.at U s.n s.n) l h1) (fun e _=>s.n-Zy e 9) ⟨0,_,_,_,rfl,by omega,by simpa using o1,Mod.refl _⟩ ?_;rintro e V ⟨i,v6,ac,ad,rfl,hi,o2,m2⟩;have x2:Ext h V:=Mod.ext e1 m2 (fun j G=>by rw [G];exact g1);have r2:=r.ext x2;have ko:=o2.ok;by_cases c:i<s.n
 ·have c':(i:Int)<s.n:=by omega
  have w1:=Zj (i:=i) (by omega);obtain ⟨d1,d2⟩:=I i (by omega);obtain ⟨t,ht⟩:∃ t:Nat,Zl l i=t:=⟨(Zl l i).toNat,by omega⟩
  have J:t<s.n:=by omega
  have X:¬ (t:Int)<0:=by omega
  have Z:¬ (s.n:Int)<=(t:Int):=by omega
  have kx:=fun g=>Zm (Y:=Y) (h:=g) (s:=Sl.at U s.n s.n) (sz:=1) (k:=.i64) (i:=(t:Int)) ko (by omega) (by simp;omega);simp at kx;have kc:=o2.row64.val t (by simp;omega);simp [Zp4 J] at kc;have cl:=Zxe (l:=l.take i) (c:=t);have ae:(l.take i).length<=i:=by simp;omega
  have w2:IntKind.i64.wrap ((Zbt (l.take i) t:Int)+1)=(Zbt (l.take i) t:Int)+1:=Zo (by omega);have M:=Zog (l:=l) (i:=i) (by omega);rw [ht] at M;simp [c',Zm r.ok,r2.at c,ht,X,Z,kx,kc,w2];refine Zsf o2 (k:=t) (by simp;omega) ?_;intro h3 o3 m3;rw [Zoi (by omega) ht J] at o3;simp [w1,M];refine ⟨⟨i+1,_,_,_,rfl,by omega,o3,m2.trans m3⟩,by simp [Zy];omega⟩
 have c':¬ (i:Int)<s.n:=by omega
 rw [Xf7 (by omega)] at o2;obtain ⟨af,ag,ah⟩:=Zc9 (l:=l) (n:=(s.n:Int)) (by omega) (fun j G=>by have:=(I j G).2;omega);obtain ⟨m,hm⟩:∃ m:Nat,Wn l=m:=⟨(Wn l).toNat,by omega⟩
 have tl:l.take i=l:=Xf7 (by omega);have w2:IntKind.i64.wrap ((m:Int)-1+1)=(m:Int):=by rw [Zo (by omega)];omega
 have sl:=Zch (Y:=Y) (h:=V) (s:=Sl.at U s.n s.n) (sz:=1) (k:=.i64) (j:=(m:Int)) ko (by omega) (by simp;omega);simp at sl;have rt:Yd V { Sl.at U s.n s.n with n:=m } ((Zf5 s.n l).take m):=by
  have r0:=o2.row64;refine ⟨⟨fun h=>(by cases h),by simp;omega,.inl rfl⟩,by simp;omega,fun j G=>?_⟩;have O:j<m:=by simp at G;omega
  have:=r0.val j (by simp;omega);rw [show Zl ((Zf5 s.n l).take m) j=Zl (Zf5 s.n l) j by simp [Zl,O]];exact this
 have aa:IntKind.i64.wrap (m:Int)=(m:Int):=Zo (by omega);simp [c',tl,hm,aa,sl];refine Zmr P.S rt (by simp;omega) ?_;have ab:Yg 0 ((Zf5 s.n l).take m) 0 = -1:=by
  refine Zjg (fun x hx=>?_);obtain ⟨j,G,rfl⟩:=Xgx hx;have O:j<m:=by simp at G;omega
  have:=D j (by omega);simp [Zf5];omega
 simp [ab];exact hr V _ x2
def Xez (s t k:Sl) (h0:Zk) (e:Zc) (h':Zk):Prop :=
 ∃ (i:Nat) (cs:Zb) (v2 v4 v5 v6 v7 v10 v11 v12 v13 v14 v15:Value),e=[s.v,t.v,v2,k.v,v4,v5,v6,v7,Zg s.n,Zg i,v10,v11,v12,v13,v14,v15]/\i<=s.n/\Ym h' 1 k (Zq cs)/\cs.length=s.n/\(∀ c,c<i->Zl cs c = -1)/\Mod (fun j=>j=k.b) h0 h'
def Xei (s t k:Sl) (l q:Zb) (h0:Zk) (e:Zc) (h':Zk):Prop :=
 ∃ (i:Nat) (cs:Zb) (v2 v4 v6 v7 v8 v9 v10 v14 v15:Value),e=[s.v,t.v,v2,k.v,v4,Zg (Wn (l.take i)-1),v6,v7,v8,v9,v10,s.v,Zg s.n,Zg i,v14,v15]/\i<=s.n/\Ym h' 1 k (Zq cs)/\cs.length=s.n/\(∀ c,c<s.n->(Zl cs c = -1/\∀ v,v<i->Zl l v≠(c:Int))\/∃ v,v<i/\Zl l v=(c:Int)/\Zl cs c=Zl q v)/\Mod (fun j=>j=k.b) h0 h'
theorem Zoy {l:Zb} {i j:Nat} {y:Int} (r:i<l.length):Zl (l.set i y) j=if j=i then y else Zl l j:=by
 simp only [Zl,Xf5,Xhp];by_cases h:i=j
 ·subst h;simp [r]
 have:¬ j=i:=fun e=>h e.symm;simp [h,this]
theorem Zr0 (P:Zp2 Y) {s t:Sl} {l q:Zb} (r:Yd h s l) (rq:Yd h t q) (V:s.n<=1000000) (ak:l.length=q.length) (X:∀ v,v<l.length->0<=Zl l v/\Zl l v<l.length) (M:∀ c,c<(Wn l).toNat->Zbt l c≠0)
  (D:∀ a,a<l.length->∀ b,b<l.length->Zl l a<=Zl l b->Zl q a<=Zl q b) {R:Ze}
  (hr:∀ h',Ext h h'->R (.bool true) h'):Zv Y 204 [s.v,t.v] h R:=by
 refine .of_has P.nested rfl ?_;have hl:=r.len;have hlq:=rq.len;simp [Y204,Xm.wp];refine Zfw (n:=s.n) V rfl ?_;intro J h1 g1 o1 e1 l1;simp;refine Zt (Xez s t (Sl.at J s.n s.n) h1) (fun e _=>s.n-Zy e 9) ⟨0,List.replicate s.n 0,_,_,_,_,_,_,_,_,_,_,_,rfl,by omega,o1,by simp,fun c hc=>by omega,Mod.refl _⟩ ?_;rintro e h2 ⟨i,cs,v2,v4,v5,v6,v7,ae,al,am,an,af,ag,rfl,hi,o2,G,hc,m2⟩;have ko:=o2.ok;have x2:Ext h h2:=Mod.ext e1 m2 (fun j H=>by rw [H];exact g1);by_cases c:i<s.n
 ·have c':(i:Int)<s.n:=by omega
  have w1:=Zj (i:=i) (by omega);have U:=Zm (Y:=Y) (h:=h2) (s:=Sl.at J s.n s.n) (sz:=1) (k:=.i64) (i:=(i:Int)) ko (by omega) (by simp;omega);simp at U;simp [c',U];refine Zsf o2 (k:=i) (by omega) ?_;intro Z o3 m3;have hc':∀ c,c<i+1->Zl (cs.set i (-1)) c = -1:=by
   intro c aa;rw [Zoy (by omega)]
   split
   ·rfl
   exact hc c (by omega)
  simp [w1];refine ⟨⟨i+1,cs.set i (-1),_,_,_,_,_,_,_,_,_,_,_,rfl,by omega,o3,by simpa using G,hc',m2.trans m3⟩,by simp [Zy];omega⟩
 have c':¬ (i:Int)<s.n:=by omega
 obtain rfl:i=s.n:=by omega
 simp [c'];refine Zt (Xei s t (Sl.at J s.n s.n) l q h2) (fun e _=>s.n-Zy e 13) ⟨0,cs,_,_,_,_,_,_,_,_,_,rfl,by omega,o2,G,fun c aa=>.inl ⟨hc c aa,fun v hv=>by omega⟩,Mod.refl _⟩ ?_;clear o2 G hc;rintro e Z ⟨v,cs,v2,v4,v6,v7,v8,v9,ae,af,ag,rfl,hv,o3,G,hc,m3⟩;have x3:Ext h Z:=Mod.ext x2 m3 (fun j H=>by rw [H];exact g1);have r3:=r.ext x3;have q3:=rq.ext x3;by_cases d:v<s.n
 ·have d':(v:Int)<s.n:=by omega
  have w1:=Zj (i:=v) (by omega);obtain ⟨a1,a2⟩:=X v (by omega);obtain ⟨b,hb⟩:∃ b:Nat,Zl l v=b:=⟨(Zl l v).toNat,by omega⟩
  have ah:b<s.n:=by omega
  have U:=fun g=>Zm (Y:=Y) (h:=g) (s:=Sl.at J s.n s.n) (sz:=1) (k:=.i64) (i:=(b:Int)) ko (by omega) (by simp;omega);simp at U;have kc:=o3.row64.val b (by omega);simp at kc;have O:=Zog (l:=l) (i:=v) (by omega);rw [hb] at O;have dq:v<t.n:=by omega
  have ab:(v:Int)<t.n:=by omega
  have step:∀ {h4:Zk},Ym h4 1 (Sl.at J s.n s.n) (Zq (cs.set b (Zl q v)))->Mod (fun j=>j=J) Z h4->(∀ c,c<s.n->(Zl (cs.set b (Zl q v)) c = -1/\∀ u,u<v+1->Zl l u≠(c:Int))\/∃ u,u<v+1/\Zl l u=(c:Int)/\Zl (cs.set b (Zl q v)) c=Zl q u):=by
   intro h4 _ _ c ai;rw [Zoy (by omega)];by_cases e:c=b
   ·subst e;rw [if_pos rfl];exact .inr ⟨v,by omega,hb,rfl⟩
   rw [if_neg e];rcases hc c ai with ⟨f1,f2⟩ | ⟨u,f1,f2,f3⟩
   ·left;refine ⟨f1,fun u hu=>?_⟩;rcases Xf0 u v with g | g
    ·exact f2 u g
    obtain rfl:u=v:=by omega
    rw [hb];omega
   exact .inr ⟨u,by omega,f2,f3⟩
  have ac:0<=Zl cs b->Zl cs b=Zl q v:=by
   intro h0;rcases hc b ah with ⟨f1,_⟩ | ⟨u,f1,f2,f3⟩
   ·omega
   rw [f3];have h1:=D u (by omega) v (by omega) (by omega);have h2:=D v (by omega) u (by omega) (by omega);omega
  by_cases g:0<=Zl cs b
  ·have sm:=ac g;have gq:0<=Zl q v:=by omega
   simp [d',Zm r.ok,Zm rq.ok,ab,r3.at d,q3.at dq,hb,U,kc,sm,gq];refine Zsf o3 (k:=b) (by omega) ?_;intro h4 o4 m4;simp [w1,O];refine ⟨⟨v+1,cs.set b (Zl q v),_,_,_,_,_,_,_,_,_,rfl,by omega,o4,by simpa using G,step o4 m4,m3.trans m4⟩,by simp [Zy];omega⟩
  simp [d',Zm r.ok,Zm rq.ok,ab,r3.at d,q3.at dq,hb,U,kc,g];refine Zsf o3 (k:=b) (by omega) ?_;intro h4 o4 m4;simp [w1,O];refine ⟨⟨v+1,cs.set b (Zl q v),_,_,_,_,_,_,_,_,_,rfl,by omega,o4,by simpa using G,step o4 m4,m3.trans m4⟩,by simp [Zy];omega⟩
 have d':¬ (v:Int)<s.n:=by omega
 obtain ⟨ao,ap,aq⟩:=Zc9 (l:=l) (n:=(s.n:Int)) (by omega) (fun j H=>by have:=(X j H).2;omega);obtain ⟨m,hm⟩:∃ m:Nat,Wn l=m:=⟨(Wn l).toNat,by omega⟩
 have tl:l.take v=l:=Xf7 (by omega);have w2:IntKind.i64.wrap ((m:Int)-1+1)=(m:Int):=by rw [Zo (by omega)];omega
 have aj:IntKind.i64.wrap (m:Int)=(m:Int):=Zo (by omega);have sl:=Zch (Y:=Y) (h:=Z) (s:=Sl.at J s.n s.n) (sz:=1) (k:=.i64) (j:=(m:Int)) ko (by omega) (by simp;omega);simp at sl;have rt:Yd Z { Sl.at J s.n s.n with n:=m } (cs.take m):=by
  have r0:=o3.row64;refine ⟨⟨fun h=>(by cases h),by simp;omega,.inl rfl⟩,by simp;omega,fun j H=>?_⟩;have I:j<m:=by simp at H;omega
  have:=r0.val j (by omega);rw [show Zl (cs.take m) j=Zl cs j by simp [Zl,I]];exact this
 have ad:∀ j,j<m->∃ u,u<l.length/\Zl l u=(j:Int)/\Zl cs j=Zl q u:=by
  intro j H;rcases hc j (by omega) with ⟨f1,f2⟩ | ⟨u,f1,f2,f3⟩
  ·obtain ⟨u,hu,e⟩:=Zl5.1 (M j (by omega));exact absurd e (f2 u (by omega))
  exact ⟨u,by omega,f2,f3⟩
 simp [d',tl,hm,aj,sl];refine Zss P.S rt (by simp;omega) (fun j H=>?_) ?_
 ·have I:j+1<m:=by simp at H;omega
  rw [show Zl (cs.take m) j=Zl cs j by simp [Zl,show j<m by omega],show Zl (cs.take m) (j+1)=Zl cs (j+1) by simp [Zl,I]];obtain ⟨u,u1,u2,u3⟩:=ad j (by omega);obtain ⟨w,p1,p2,p3⟩:=ad (j+1) I;rw [u3,p3];exact D u u1 w p1 (by omega)
 simp;exact hr _ x3
def PkI (n B C:Nat) (v1 v2:Value) (s:Sl) (L:Za) (h0:Zk) (e:Zc) (h':Zk):Prop :=
 ∃ (i:Nat) (v5 v7 v8 v9 v10 v11 v12 v13 v17 v18 v19 v20:Value),e=[Zg n,v1,v2,Zh B,Zh C,v5,Zg s.n,v7,v8,v9,v10,v11,v12,v13,s.v,Zg s.n,Zg i,v17,v18,v19,v20]/\i<=s.n/\Ext h0 h'
theorem Zjn (P:Zp2 Y) {s:Sl} {L:Za} {n:Nat} (r:Qn h s L) (I:Yv n L) {R:Ze}
  (hr:∀ h',Ext h h'->R .nilIface h'):Zv Y 188 [Zg n,Q1 s,Zi] h R:=by
 refine .of_has P.Check rfl ?_;have lL:=r.len;have b1:=I.bn;have b2:=I.bL;have b3:=I.pos;have n0:¬ (n:Int)<0:=by omega
 have n1:¬ (4096:Int)<n:=by omega
 have n2:¬ (6:Int)<s.n:=by omega
 have O:(s.n=0)=False:=by simp;omega
 simp [Y188,Xm.wp,Q1];refine Zn ?_;intro B h1 g1 B1 e1;simp;refine Zn ?_;intro C h2 g2 C2 e2;have x2:=e1.trans e2;have B2:=B1.ext e2;simp [B2.hc,C2.hc,n0,n1,n2,O];refine Zt (PkI n B C (.agg #[s.v]) (Zi) s L h2) (fun e _=>s.n-Zy e 16) ⟨0,_,_,_,_,_,_,_,_,_,_,_,_,rfl,by omega,Mod.refl _⟩ ?_;rintro e h3 ⟨i,v5,v7,v8,v9,ab,ac,ad,ae,af,ag,ah,ai,rfl,hi,e3⟩;have U:=x2.trans e3;by_cases c:i<s.n;rotate_left
 ·have c':¬ (i:Int)<s.n:=by omega
  simp [c'];exact hr _ U
 have c':(i:Int)<s.n:=by omega
 have w1:=Zj (i:=i) (by omega);obtain ⟨u,hu,V⟩:=r.at (i:=i) c;have lu:=V.len;obtain ⟨z1,z2,z3,z4⟩:=Uy (I.lv i (by omega));have un:((u.n:Int)=(n:Int))=True:=by simp;omega
 simp [c',Zm r.ok,hu,U];refine Zn ?_;intro D h4 g4 D4 e4;simp;refine stB (o:=0) D4 (by simp) ?_;intro h5 D5 m5;have G:=Mod.toExt e4 m5 g4;have x5:=U.trans G;simp [un];refine Zwk P (V.ext x5) (by omega) (fun v hv=>by rw [z1] at hv ⊢;exact z2 v hv) z3 ?_;intro h6 t H;have X:=x5.trans H;have D6:=D5.ext H;have C6:=C2.ext ((e3.trans G).trans H);have B6:=B2.ext ((e3.trans G).trans H);simp at D6;by_cases Z:i=0
 ·subst Z;have aa:IntKind.i64.wrap 1=1:=rfl;simp [D6.hc,C6.hc,aa];refine ⟨⟨1,_,_,_,_,_,_,_,_,_,_,_,_,rfl,by omega,(e3.trans G).trans H⟩,by simp [Zy];omega⟩
 have ip:(0:Int)<i:=by omega
 have J:0<i:=by omega
 have w2:IntKind.i64.wrap ((i:Int)-1)=((i-1:Nat):Int):=by rw [Zo (by omega)];omega
 obtain ⟨m,hm⟩:∃ m,m=i-1:=⟨_,rfl⟩
 rw [<-hm] at w2 z4;have M:m<s.n:=by omega
 obtain ⟨q,hq,rq⟩:=r.at (i:=m) M;obtain ⟨y1,y2,y3,_⟩:=Uy (I.lv m (by omega));have lq:=rq.len;simp [D6.hc,J,B6.hc,w2,Zm r.ok,M,hq,X];refine Zr0 P (rq.ext X) (V.ext X) (by omega) (by omega) (fun v hv=>by rw [y1] at hv ⊢;exact y2 v hv) y3 (fun a ha b hb=>by rw [y1] at ha hb;exact z4 J a ha b hb) ?_;intro h7 e7;have C7:=C6.ext e7;simp [C7.hc,w1];refine ⟨⟨i+1,_,_,_,_,_,_,_,_,_,_,_,_,rfl,by omega,((e3.trans G).trans H).trans e7⟩,by simp [Zy];omega⟩
def Zbg (row:Zb) (a:Xe):Bool:=decide (a.a.toNat<row.length/\a.b.toNat<row.length/\Zl row a.a.toNat≠Zl row a.b.toNat)
def Uv (N:Zr) (L:Za) (l:Int):Zb:=Ud (Zbg (lvl L l)) 0 N.as
structure Zfq (N:Zr) (L:Za):Prop where
 bL:L.length<=6
 ln:∀ i,i<L.length->(Ya L i).length=N.vs.length
 ok:Yl N
theorem Zfq.of {N:Zr} {L:Za} (r:Yl N) (p:Yv N.vs.length L):Zfq N L:=⟨p.bL,fun i D=>(Uy (p.lv i D)).1,r⟩
theorem Zfq.arc {N:Zr} {L:Za} (c:Zfq N L) {i:Nat} (D:i<N.as.length):∃ x y:Nat,(Zp N.as i).a=x/\(Zp N.as i).b=y/\x<N.vs.length/\y<N.vs.length:=by
 obtain ⟨h1,r⟩:=c.ok.arcs i D;simp [Yf] at h1 r;exact ⟨_,_,(Int.toNat_of_nonneg h1.1).symm,(Int.toNat_of_nonneg r.1).symm,by omega,by omega⟩
structure GrR (Y:Sys):Prop where
 From:Y.Has 193 Y193
 To:Y.Has 192 Y192
 arc:Y.Has 211 Y211
 Verts:Y.Has 189 Y189
 Arcs:Y.Has 209 Y209
structure Zvp (Y:Sys):Prop where
 G:GrR Y
 P:Zhh Y
 ends:Y.Has 210 Y210
 Cross:Y.Has 191 Y191
theorem Zpq (F':Zvp Y) {p:Nat} {N:Zr} {S:Zf} (g:Xc h p N S) {u:Sl} {row:Zb} (J:Yd h u row) {i x y:Nat} (V:i<N.as.length) (hx:(Zp N.as i).a=x) (hy:(Zp N.as i).b=y) {R:Ze}
  (I:R (.tuple #[Zg (if x<row.length/\y<row.length then Zl row x else 0),Zg (if x<row.length/\y<row.length then Zl row y else 0),.bool (decide (x<row.length/\y<row.length))]) h) :
  Zv Y 210 [Zh p,u.v,Zg i] h R:=by
 refine .of_has F'.ends rfl ?_;have X:=J.len;have hv:Yf N.as.length (i:Int)=true:=by simp [Yf];omega
 have f1:Zdg N (i:Int)=x:=by simp [Zdg,hv,hx]
 have f2:toV N (i:Int)=y:=by simp [toV,hv,hy]
 simp [Y210,Xm.wp];refine Zap F'.G.From F'.G.arc g ?_;simp;refine Z2 F'.G.To F'.G.arc g ?_;rw [f1,f2];have M:¬ (x:Int)<0:=by omega
 have O:¬ (y:Int)<0:=by omega
 by_cases c1:x<u.n;rotate_left
 ·have D:(u.n:Int)<=x:=by omega
  have c1n:u.n<=x:=by omega
  have r:¬ (x<row.length/\y<row.length):=by omega
  rw [if_neg r,if_neg r,decide_eq_false r] at I;simp [M,O,D];exact I
 have D:¬ (u.n:Int)<=x:=by omega
 have c1n:¬ u.n<=x:=by omega
 by_cases U:y<u.n;rotate_left
 ·have H:(u.n:Int)<=y:=by omega
  have c2n:u.n<=y:=by omega
  have r:¬ (x<row.length/\y<row.length):=by omega
  rw [if_neg r,if_neg r,decide_eq_false r] at I;simp [M,O,D,H];exact I
 have H:¬ (u.n:Int)<=y:=by omega
 have c2n:¬ u.n<=y:=by omega
 have r:x<row.length/\y<row.length:=by omega
 rw [if_pos r,if_pos r,decide_eq_true r] at I;simp [M,O,D,H,Zm J.ok,c1,U,J.at c1,J.at U];exact I
def RcI (p n:Nat) (u:Sl) (N:Zr) (row:Zb) (h0:Zk) (e:Zc) (h':Zk):Prop :=
 ∃ (i:Nat) (s:Sl) (v1 v2 v3 v4 v7 v8 v9 v10 v13 v14:Value),e=[Zh p,v1,v2,v3,v4,u.v,s.v,v7,v8,v9,v10,Zg n,Zg i,v13,v14]/\i<=n/\Ym h' 1 s (Zq (Ud (Zbg row) 0 (N.as.take i)))/\(s.nl=true\/h0.size<=s.b)/\Ext h0 h'
theorem Zm6 (F':Zvp Y) {p:Nat} {N:Zr} {S:Zf} {L:Za} {s:Sl} (g:Xc h p N S) (r:Qn h s L) (c:Zfq N L) {l:Int} (hl : -9223372036854775808<=l/\l<=9223372036854775807) {R:Ze}
  (hr:∀ h' t,Ext h h'->Ym h' 1 t (Zq (Uv N L l))->(t.nl=true\/h.size<=t.b)->R t.v h'):Zv Y 191 [Zh p,Q1 s,Zg l] h R:=by
 refine .of_has F'.Cross rfl ?_;have bA:=c.ok.ba;have lL:=r.len;simp [Y191,Xm.wp,Q1];refine Zn ?_;intro B h1 g1 B1 e1;simp [Yj B1];refine Ztb F'.P (r.ext e1) (by have:=c.bL;omega) hl ?_;intro O u e2 ru;have X:=e1.trans e2;simp;refine Zat F'.G.Arcs (g.ext X) ?_;unfold Uv at hr;generalize ac:lvl L l=row at *
 simp;refine Zt (RcI p N.as.length u N row O) (fun e _=>N.as.length-Zy e 12) ⟨0,Sl.nil,_,_,_,_,_,_,_,_,_,_,rfl,by omega,by simpa [Ud,Zq] using Ym.nil,.inl rfl,Mod.refl _⟩ ?_;rintro e h3 ⟨i,t,v1,v2,v3,v4,v7,v8,v9,ae,af,ag,rfl,hi,o3,D,e3⟩;have x3:=X.trans e3;have z1:=X.size;by_cases d:i<N.as.length;rotate_left
 ·have Z:¬ (i:Int)<N.as.length:=by omega
  rw [Xf7 (by omega)] at o3;simp [Z];exact hr _ t x3 o3 (D.imp id (fun q=>by omega))
 have Z:(i:Int)<N.as.length:=by omega
 have w1:=Zj (i:=i) (by omega);obtain ⟨x,y,hx,hy,_,_⟩:=c.arc d;have aa:=ru.ext (e2.trans e3);have hs:=Zb4 (p:=Zbg row) (l:=N.as) (i:=i) d;have ad:(Ud (Zbg row) 0 (N.as.take i)).length<=i:=by rw [Q8];refine Xgk (Xgz ..) (by simp;omega)
 have tn:=o3.1;simp at tn;simp [Z];refine Zpq F' (g.ext x3) aa d hx hy ?_;have I:Zbg row (Zp N.as i)=decide (x<row.length/\y<row.length/\Zl row x≠Zl row y):=by unfold Zbg;rw [hx,hy];rfl
 by_cases H:x<row.length/\y<row.length;rotate_left
 ·have hf:Zbg row (Zp N.as i)=false:=by rw [I];exact decide_eq_false (fun U=>H ⟨U.1,U.2.1⟩)
  rw [hf] at hs;simp at hs;rw [if_neg H,if_neg H,decide_eq_false H];simp [w1];refine ⟨⟨i+1,t,_,_,_,_,_,_,_,_,_,_,rfl,by omega,by rw [hs];exact o3,D,e3⟩,by simp [Zy];omega⟩
 rw [if_pos H,if_pos H,decide_eq_true H];by_cases V:Zl row x=Zl row y
 ·have hf:Zbg row (Zp N.as i)=false:=by rw [I];exact decide_eq_false (fun U=>U.2.2 V)
  rw [hf] at hs;simp at hs;simp [V,w1];refine ⟨⟨i+1,t,_,_,_,_,_,_,_,_,_,_,rfl,by omega,by rw [hs];exact o3,D,e3⟩,by simp [Zy];omega⟩
 have hf:Zbg row (Zp N.as i)=true:=by rw [I];exact decide_eq_true ⟨H.1,H.2,V⟩
 rw [hf] at hs;simp at hs;simp [V];refine Xp rfl ?_;intro b4 h4 g4 V4 e4;simp;refine Wg (bytes:=8) rfl (o3.ext' e4) V4 (by omega) (by omega) ?_;intro t5 h5 o5 ah m5 ab;have z4:=e4.size;have z3:=e3.size;have J:t.nl=false->O.size<=t.b:=fun hn=>D.resolve_left (by rw [hn];simp);have e5:Ext O h5:=Mod.ext (e3.trans e4) m5 (fun j hj=>by rw [hj.2];exact J hj.1);have M:t5.nl=true\/O.size<=t5.b:=by
  rcases ab with ⟨k1,k2⟩ | ⟨k1,k2⟩
  ·rw [k1,k2];exact D
  exact .inr (by omega)
 simp [w1];refine ⟨⟨i+1,t5,_,_,_,_,_,_,_,_,_,_,rfl,by omega,by rw [hs];simpa [Zq] using o5,M,e5⟩,by simp [Zy];omega⟩
theorem Qr {a:Int}:∀ {l:Zb} {k:Nat},0<=Yg k l a↔a∈l:=by
 intro l
 induction l with
 | nil=>intro k;simp [Yg]
 | cons x r ih =>
  intro k;simp only [Yg];by_cases h:x=a
  ·rw [if_pos h];simp [h]
  have h':¬ a=x:=fun e=>h e.symm;rw [if_neg h,ih];simp [h']
theorem Ztf {p:Xe->Bool} {a:Int}:∀ {l:List Xe} {k:Nat},a∈Ud p k l↔∃ i,i<l.length/\a=((k+i:Nat):Int)/\p (Zp l i)=true:=by
 intro l
 induction l with
 | nil=>intro k;simp [Ud]
 | cons x r ih =>
  intro k;have e:Ud p k (x::r)=(if p x then [(k:Int)] else [])++Ud p (k+1) r:=by simp only [Ud];split <;> simp_all
  rw [e,List.mem_append,ih];constructor
  ·rintro (h | ⟨i,h1,D,G⟩)
   ·split at h
    ·rename_i hp;simp at h;exact ⟨0,by simp,by simpa using h,by simpa [Zp] using hp⟩
    simp at h
   exact ⟨i+1,by simpa using h1,by rw [D];congr 1;omega,by simpa [Zp] using G⟩
  rintro ⟨i,h1,D,G⟩
  cases i with
  | zero =>
   left;have hp:p x=true:=by simpa [Zp] using G
   rw [if_pos hp];simpa using D
  | succ i=>exact .inr ⟨i,by simpa using h1,by rw [D];congr 1;omega,by simpa [Zp] using G⟩
theorem Zg7 {N:Zr} {L:Za} {l a:Int}:a∈Uv N L l↔Yf N.as.length a=true/\Zbg (lvl L l) (Zp N.as a.toNat)=true:=by
 unfold Uv;rw [Ztf];simp only [Yf,decide_eq_true_eq];constructor
 ·rintro ⟨i,h1,r,D⟩;simp at r;subst r;exact ⟨by omega,by simpa using D⟩
 rintro ⟨h1,r⟩;exact ⟨a.toNat,by omega,by simp;omega,r⟩
def b2n (x:Bool):Nat:=if x then 1 else 0
def Zi1 (n:Nat) (Q:Bool->Nat->Sl):Array Value:=((List.range (n * 2)).map fun j=>(Q (decide (j % 2=1)) (j / 2)).v).toArray
@[simp] theorem Zis {n:Nat} {Q:Bool->Nat->Sl}:(Zi1 n Q).size=n * 2:=by simp [Zi1]
theorem Zkl {n c:Nat} {Q:Bool->Nat->Sl} {x:Bool} (hc:c<n):(Zi1 n Q)[c * 2+b2n x]? = some (Q x c).v:=by
 have h1:(c * 2+b2n x) / 2=c:=by unfold b2n;split <;> omega
 have D:decide ((c * 2+b2n x) % 2=1)=x:=by unfold b2n;cases x <;> simp <;> omega
 have r:c * 2+b2n x<n * 2:=by unfold b2n;split <;> omega
 have h4:decide (b2n x % 2=1)=x:=by cases x <;> rfl
 simp [Zi1,r,h1,h4]
def Zqe (Q:Bool->Nat->Sl) (x:Bool) (c:Nat) (s:Sl):Bool->Nat->Sl:=fun y v=>if y=x/\v=c then s else Q y v
def Zpk (D:Bool->Nat->Zb) (x:Bool) (c:Nat) (a:Int):Bool->Nat->Zb:=fun y v=>if y=x/\v=c then D x c++[a] else D y v
theorem Z5u {n c : Nat} {Q : Bool → Nat → Sl} {x : Bool} {s : Sl} (hc : c < n) : (Zi1 n Q).setIfInBounds (c * 2 + b2n x) s.v = Zi1 n (Zqe Q x c s) := by
  apply Xhm
  · simp
  intro j h1 r;simp only [Zis] at r;rw [Array.getElem_setIfInBounds (by simpa using h1)];have hx : b2n x ≤ 1 := by unfold b2n; split <;> omega
  simp only [Zi1, Zqe, List.getElem_toArray, Xgo, Xhu];by_cases e : c * 2 + b2n x = j
  · subst e;have h1 : (c * 2 + b2n x) / 2 = c := by omega
    have r : decide ((c * 2 + b2n x) % 2 = 1) = x := by unfold b2n; cases x <;> simp <;> omega
    rw [if_pos rfl, h1, r, if_pos ⟨rfl, rfl⟩]
  rw [if_neg e, if_neg];rintro ⟨D, G⟩;apply e;unfold b2n
  cases x with
  | false => have : ¬ j % 2 = 1 := by simpa using D
             simp; omega
  | true => have : j % 2 = 1 := by simpa using D
            simp; omega
structure Fam (lo:Nat) (h:Zk) (n:Nat) (Q:Bool->Nat->Sl) (D:Bool->Nat->Zb):Prop where
 own:∀ x v,v<n->Ym h 1 (Q x v) (Zq (D x v))
 fr:∀ x v,v<n->(Q x v).nl=false->lo<=(Q x v).b
 dj:∀ x u y v,u<n->v<n->(x≠y\/u≠v)->(Q x u).nl=false->(Q y v).nl=false->(Q x u).b≠(Q y v).b
theorem Fam.none {lo n:Nat}:Fam lo h n (fun _ _=>Sl.nil) (fun _ _=>[]):=⟨fun _ _ _=>Ym.nil,fun _ _ _ r=>(by cases r),fun _ _ _ _ _ _ _ r=>(by cases r)⟩
theorem Fam.mod {S:Zf} {lo n:Nat} {Q:Bool->Nat->Sl} {D:Bool->Nat->Zb} (q:Fam lo h n Q D) (m:Mod S h h') (hs:∀ x v,v<n->(Q x v).nl=false->¬ S (Q x v).b):Fam lo h' n Q D :=
 ⟨fun x v hv=>(q.own x v hv).mod m (hs x v hv),q.fr,q.dj⟩
theorem Fam.ext {lo n:Nat} {Q:Bool->Nat->Sl} {D:Bool->Nat->Zb} (q:Fam lo h n Q D) (m:Ext h h'):Fam lo h' n Q D:=q.mod m fun _ _ _ _ h=>h
theorem Fam.step {lo n t:Nat} {Q:Bool->Nat->Sl} {D:Bool->Nat->Zb} {x:Bool} {J:Sl} {a:Int} (q:Fam lo h n Q D) (ht:t<n) (M:lo<=h.size) (o:Ym h' 1 J (Zq (D x t)++[.int .i64 a])) (m:Mod (fun j=>(Q x t).nl=false/\j=(Q x t).b) h h')
  (hs:(J.b=(Q x t).b/\J.nl=(Q x t).nl)\/(h.size<=J.b/\J.nl=false)):Fam lo h' n (Zqe Q x t J) (Zpk D x t a):=by
 unfold Zqe Zpk;refine ⟨fun y v hv=>?_,fun y v hv G=>?_,fun y u z v hu hv r h1 I=>?_⟩
 ·by_cases c:y=x/\v=t
  ·obtain ⟨rfl,rfl⟩:=c;simp only [and_self,if_true];simpa [Zq] using o
  simp only [if_neg c];have hc:y≠x\/v≠t:=by
   rcases Decidable.em (y=x) with e | e
   ·exact .inr fun e2=>c ⟨e,e2⟩
   exact .inl e
  exact (q.own y v hv).mod m fun G hb=>q.dj y v x t hv ht hc G hb.1 hb.2
 ·by_cases c:y=x/\v=t
  ·simp only [if_pos c] at G ⊢;rcases hs with ⟨H,e2⟩ | ⟨H,_⟩
   ·rw [H];exact q.fr x t ht (by rw [<-e2];exact G)
   omega
  simp only [if_neg c] at G ⊢;exact q.fr y v hv G
 have lt:∀ y v,v<n->(Q y v).nl=false->(Q y v).b<h.size:=fun y v hv G=>(q.own y v hv).lt G;by_cases c:y=x/\u=t
 ·by_cases d:z=x/\v=t
  ·obtain ⟨rfl,rfl⟩:=c;obtain ⟨rfl,rfl⟩:=d;rcases r with e | e <;> exact absurd rfl e
  simp only [if_pos c] at h1 ⊢;simp only [if_neg d] at I ⊢;obtain ⟨rfl,rfl⟩:=c;rcases hs with ⟨H,e2⟩ | ⟨H,_⟩
  ·rw [H];exact q.dj y u z v hu hv r (by rw [<-e2];exact h1) I
  have:=lt z v hv I;omega
 by_cases d:z=x/\v=t
 ·simp only [if_neg c] at h1 ⊢;simp only [if_pos d] at I ⊢;obtain ⟨rfl,rfl⟩:=d;rcases hs with ⟨H,e2⟩ | ⟨H,_⟩
  ·rw [H];exact q.dj y u z v hu hv r h1 (by rw [<-e2];exact I)
  have:=lt y u hu h1;omega
 simp only [if_neg c] at h1 ⊢;simp only [if_neg d] at I ⊢;exact q.dj y u z v hu hv r h1 I
structure Cel (lo U:Nat) (h:Zk) (n:Nat) (Q:Bool->Nat->Sl) (D:Bool->Nat->Zb):Prop where
 blk:Xb h U (Zi1 n Q)
 fam:Fam lo h n Q D
 ult:U<lo
theorem Cel.app {K:Ze} {lo U n c:Nat} {Q:Bool->Nat->Sl} {D:Bool->Nat->Zb} {x:Bool} {a:Int} (q:Cel lo U h n Q D) (hc:c<n) (I:lo<=h.size) (O:(D x c).length<=1000000) {z:Value} {b:Nat} (V:Xb h b #[.int .i64 a])
  (R:∀ (G:Sl) (h':Zk),Mod (fun j=>j=U\/lo<=j) h h'->Xb h' U (Zi1 n Q)->(∀ r,Xb r U ((Zi1 n Q).setIfInBounds (c * 2+b2n x) G.v)->Mod (fun j=>j=U) h' r->Cel lo U r n (Zqe Q x c G) (Zpk D x c a))->K G.v h') :
  Ef.wp h K (.append 1 8 #[z]) [(Q x c).v,.slice (some ⟨b,0,none⟩) 1 1]:=by
 have o:=q.fam.own x c hc;have H:=o.1;simp at H;refine Wg (bytes:=8) rfl o V (by omega) (by omega) ?_;intro G h1 o1 X J M;have fr:(Q x c).nl=false->lo<=(Q x c).b:=fun H=>q.fam.fr x c hc H;have B1:=J.blk q.blk (fun hq=>by have:=fr hq.1;have:=q.ult;omega);refine R G h1 (J.mono (fun j hj hq=>by have:=fr hq.1;omega)) B1 ?_;intro h2 B2 Z;have f1:=q.fam.step hc I o1 J M;rw [Z5u hc] at B2;refine ⟨B2,f1.mod Z (fun y v hv H=>?_),q.ult⟩;have:=f1.fr y v hv H;have:=q.ult;omega
structure Ze9 (h:Zk) (u:Sl) (n:Nat) (D:Bool->Nat->Zb):Prop where
 ok:u.ok
 len:u.n=n
 val:∀ x c,c<n->∃ s:Sl,hc h u.b (u.o+c * 2+b2n x)=some s.v/\Yd h s (D x c)
theorem Ze9.ext {u:Sl} {n:Nat} {D:Bool->Nat->Zb} (c:Ze9 h u n D) (e:Ext h h'):Ze9 h' u n D :=
 ⟨c.ok,c.len,fun x k r=>by
  obtain ⟨s,a,b⟩:=c.val x k r;exact ⟨s,e.hc a (fun h=>h),b.ext e⟩⟩
theorem Cel.cells {lo U n:Nat} {Q:Bool->Nat->Sl} {D:Bool->Nat->Zb} (q:Cel lo U h n Q D):Ze9 h (Sl.at U n n) n D :=
 ⟨⟨fun h=>(by cases h),Xfy _,.inl rfl⟩,rfl,fun x c hc=>⟨Q x c,by rw [Sl.at_b,Sl.at_o,Xgl,q.blk.hc];exact Zkl hc,(q.fam.own x c hc).row64⟩⟩
def Zcr (N:Zr) (row:Zb) (l:Zb) (b:Bool) (c:Nat):Zb:=l.filter fun a=>decide (Zl row (if b then (Zp N.as a.toNat).a.toNat else (Zp N.as a.toNat).b.toNat)=(c:Int))
def Zx (N:Zr) (L:Za) (i:Nat):Bool->Nat->Zb:=Zcr N (Ya L i) (Uv N L ((i:Int)+1))
def Yi (L:Za) (i:Nat):Nat:=(Wn (Ya L i)).toNat
structure Ziu (h:Zk) (s:Sl) (N:Zr) (L:Za):Prop where
 ok:s.ok
 len:L.length=s.n
 val:∀ i,i<L.length->∃ u:Sl,hc h s.b (s.o+i)=some u.v/\Ze9 h u (Yi L i) (Zx N L i)
theorem Ziu.ext {s:Sl} {N:Zr} {L:Za} (g:Ziu h s N L) (e:Ext h h'):Ziu h' s N L :=
 ⟨g.ok,g.len,fun i r=>by
  obtain ⟨u,a,b⟩:=g.val i r;exact ⟨u,e.hc a (fun h=>h),b.ext e⟩⟩
theorem Zur {N:Zr} {row l:Zb} {i x y:Nat} {a:Int} (r:i<l.length) (D:Zl l i=a) (hx:Zl row (Zp N.as a.toNat).a.toNat=x) (hy:Zl row (Zp N.as a.toNat).b.toNat=y) :
  Zcr N row (l.take (i+1))=Zpk (Zpk (Zcr N row (l.take i)) false y a) true x a:=by
 funext b c
 have G:l.take (i+1)=l.take i++[a]:=by rw [Xgc r,<-D];simp [Zl,r]
 unfold Zcr Zpk;rw [G,Xh3]
 cases b with
 | false =>
  simp only [Xga,false_and,if_false,true_and];by_cases e:c=y
  ·subst e;simp [hy]
  have:¬ (y:Int)=(c:Int):=by omega
  simp [hy,e,this]
 | true =>
  simp only [if_true,true_and];by_cases e:c=x
  ·subst e;simp [hx]
  have:¬ (x:Int)=(c:Int):=by omega
  simp [hx,e,this]
theorem Z38 {v:Value} {m:Nat}:Xy #[v,v] m=Array.replicate m v:=by
 apply Xhm
 ·simp [Xy]
 intro i h1 r;have:i % 2=0\/i % 2=1:=by omega
 rcases this with e | e <;> simp [Xy,e]
theorem Z06 {n:Nat}:Array.replicate (n * 2) (Value.slice none 0 0)=Zi1 n (fun _ _=>Sl.nil):=by
 apply Xhm
 ·simp
 intro i h1 r;simp [Zi1,Sl.nil_v]
theorem Zzo {K:Ze} {n:Nat} {m:Int} (G:n<=1000000) (r:m=n) (D:∀ (b:Nat) (h':Zk),h.size<=b->Xb h' b (Zi1 n (fun _ _=>Sl.nil))->Ext h h'->K (.slice (some ⟨b,0,none⟩) n n) h') :
  Ef.wp h K (.mkslice 2 48 #[.slice none 0 0,.slice none 0 0]) [.int .i64 m,.int .i64 m]:=by
 subst r;rw [Vq];refine ⟨by omega,by omega,by omega,by omega,fun t=>?_⟩;simp only [Xf1,Z38,Z06];exact D h.size _ (Xfy _) Xb.new Mod.push
theorem Zoz {K:Ze} {n:Nat} {m:Int} (G:n<=1000000) (r:m=n) (D:∀ (b:Nat) (h':Zk),h.size<=b->Ym h' 1 (Sl.at b n n) (List.replicate n (.slice none 0 0))->Ext h h'->b<h'.size->K (.slice (some ⟨b,0,none⟩) n n) h') :
  Ef.wp h K (.mkslice 1 24 #[.slice none 0 0]) [.int .i64 m,.int .i64 m]:=by
 subst r;rw [Vq];refine ⟨by omega,by omega,by omega,by omega,fun t=>?_⟩;simp only [Xf1,Xgd,Ui];refine D h.size _ (Xfy _) ⟨by simp,.inr ⟨rfl,rfl,rfl,Xfy _,by simp;omega,_,Xb.new,by simp,by simp⟩⟩ Mod.push (by simp)
theorem Xeq {K:Ze} {b n m k:Nat} {cells:Zc} {v:Value} (o:Ym h 1 (Sl.at b n m) cells) (D:k<cells.length)
  (G:∀ h',Ym h' 1 (Sl.at b n m) (cells.set k v)->Mod (fun j=>j=b) h h'->K undef h'):Xt h b k v K:=by
 rw [Xt.open];obtain ⟨H,hb,r,_⟩:=o.blk D;have o1:=o.set (v:=v) D;simp at o1 r hb;refine ⟨by rw [hb.hc];simp [r],hb.hfz,G _ o1 (Mod.set rfl)⟩
def Zga (lo ob:Nat) (h:Zk) (u:Sl) (n:Nat) (D:Bool->Nat->Zb):Prop:=∀ h',Mod (fun j=>j=ob\/j<lo) h h'->Ze9 h' u n D
theorem Zga.step {lo ob n:Nat} {u:Sl} {D:Bool->Nat->Zb} (k:Zga lo ob h u n D) (m:Mod (fun j=>j=ob) h h'):Zga lo ob h' u n D:=fun r m'=>k r ((m.mono fun _ _ h=>.inl h).trans m')
theorem Zga.ext {lo ob n:Nat} {u:Sl} {D:Bool->Nat->Zb} (k:Zga lo ob h u n D) (m:Ext h h'):Zga lo ob h' u n D:=k.step (m.mono (fun _ _ h=>h.elim))
theorem Cel.kept {r lo U n ob:Nat} {Q:Bool->Nat->Sl} {D:Bool->Nat->Zb} (q:Cel lo U h n Q D) (h1:ob≠U) (H:ob<lo) (I:r<=lo) (h4:r<=U):Zga r ob h (Sl.at U n n) n D:=by
 intro h' m;refine Cel.cells (lo:=lo) (Q:=Q) ⟨m.blk q.blk (fun e=>by omega),q.fam.mod m (fun x v hv G e=>?_),q.ult⟩;have:=q.fam.fr x v hv G;omega
structure Z42 (Y:Sys):Prop where
 R:Zvp Y
 P:Zp2 Y
 Of:Y.Has 174 Y174
theorem Xs {N:Zr} {L:Za} (r:Yv N.vs.length L) {i:Nat} (G:i<L.length):(Ya L i).length=N.vs.length/\(Wn (Ya L i)=(Yi L i:Nat))/\Yi L i<=4096/\∀ v,v<N.vs.length->∃ c:Nat,Zl (Ya L i) v=c/\c<Yi L i:=by
 obtain ⟨H,D,M,O⟩:=Uy (r.lv i G);have R:=r.bn;obtain ⟨U,V,I⟩:=Zc9 (l:=Ya L i) (n:=(N.vs.length:Int)) (by omega) (fun j X=>by have:=(D j (by omega)).2;omega);have J:Wn (Ya L i)=(Yi L i:Nat):=by unfold Yi;omega
 refine ⟨H,J,by omega,fun v hv=>?_⟩;have:=D v hv;have:=I v (by omega);exact ⟨(Zl (Ya L i) v).toNat,by omega,by omega⟩
theorem Znh {N:Zr} {row l:Zb} {b:Bool} {c:Nat}:(Zcr N row l b c).length<=l.length:=Xgz ..
theorem Zks {N:Zr} {L:Za} {l:Int}:(Uv N L l).length<=N.as.length:=by unfold Uv;rw [Q8];exact Xgz ..
theorem Zzr {N:Zr} {L:Za} {l:Int} {j:Nat} (r:j<(Uv N L l).length):∃ a:Nat,Zl (Uv N L l) j=a/\a<N.as.length:=by
 have D:Zl (Uv N L l) j∈Uv N L l:=by rw [show Zl (Uv N L l) j=(Uv N L l)[j] by simp [Zl,r]];exact Xgf r
 have hv:=(Zg7.1 D).1;simp [Yf] at hv;exact ⟨(Zl (Uv N L l) j).toNat,by omega,by omega⟩
theorem Xaq {L:Za} {i:Nat} (r:i<L.length):lvl L ((i:Int)+1)=Ya L i:=by
 have:Zg1 L ((i:Int)+1)=true:=by simp [Zg1];omega
 simp [lvl,this]
def GoI (p B ob:Nat) (s:Sl) (N:Zr) (L:Za) (h0:Zk) (e:Zc) (h':Zk):Prop :=
 ∃ (i:Nat) (vals:Zc) (v1 v3 v5 v6 v7 v8 v9 v10 v11 v15 v16 v17 v18 v19:Value),e=[Zh p,v1,Zh B,v3,.slice (some ⟨ob,0,none⟩) s.n s.n,v5,v6,v7,v8,v9,v10,v11,s.v,Zg s.n,Zg i,v15,v16,v17,v18,v19]/\i<=s.n/\Ym h' 1 (Sl.at ob s.n s.n) vals/\vals.length=s.n/\(∀ k,k<i->∃ u:Sl,vals[k]? = some u.v/\Zga h0.size ob h' u (Yi L k) (Zx N L k))/\Mod (fun j=>j=ob) h0 h'
def GoJ (p B ob U n k:Nat) (s w t:Sl) (N:Zr) (row x:Zb) (h0:Zk) (e:Zc) (h':Zk):Prop :=
 ∃ (i:Nat) (Q:Bool->Nat->Sl) (v1 v3 v8 v9 v10 v11 v15 v19:Value),e=[Zh p,v1,Zh B,v3,.slice (some ⟨ob,0,none⟩) s.n s.n,Zg k,w.v,.slice (some ⟨U,0,none⟩) n n,v8,v9,v10,v11,s.v,Zg s.n,Zg k,v15,t.v,Zg t.n,Zg i,v19]/\i<=t.n/\Cel h0.size U h' n Q (Zcr N row (x.take i))/\Mod (fun j=>j=U) h0 h'
theorem Zpx (G:Z42 Y) {p:Nat} {N:Zr} {S:Zf} {L:Za} {s:Sl} (g:Xc h p N S) (r:Qn h s L) (ok:Yl N) (pk:Yv N.vs.length L) {R:Ze}
  (hr:∀ h' t,Ext h h'->(∀ g,Mod (fun j=>j<h.size) h' g->Ziu g t N L)->R t.v h'):Zv Y 174 [Zh p,Q1 s] h R:=by
 refine .of_has G.Of rfl ?_;have lL:=r.len;have bL:=pk.bL;have cc:=Zfq.of ok pk;have bA:=ok.ba;simp [Y174,Xm.wp,Q1];refine Zn ?_;intro B h1 g1 B1 e1;simp [Yj B1];refine Zjd G.R.G.Verts (g.ext e1) ?_;simp [Yj B1];refine Zjn G.P (r.ext e1) pk ?_;intro h2 e2;have B2:=B1.ext e2;simp [B2.hc];refine Zoz (n:=s.n) (by omega) rfl ?_;intro ob h3 g3 o3 e3 l3;have x3:=(e1.trans e2).trans e3;have z2:=e2.size;have B3:=B2.ext e3;have lB:=B1.lt;simp [B3.hc];refine Zt (GoI p B ob s N L h3) (fun e _=>s.n-Zy e 14) ⟨0,List.replicate s.n (Zi),_,_,_,_,_,_,_,_,_,_,_,_,_,_,rfl,by omega,o3,by simp,fun k hk=>by omega,Mod.refl _⟩ ?_;rintro e h4 ⟨i,V,v1,v3,v5,v6,v7,v8,v9,au,av,aw,aQ,aR,aS,ax,rfl,hi,o4,ay,ag,m4⟩;have x4:Ext h h4:=Mod.ext x3 m4 (fun j J=>by omega);have B4:=m4.blk B3 (by omega);have z4:=m4.size;by_cases c:i<s.n;rotate_left
 ·have c':¬ (i:Int)<s.n:=by omega
  simp [c'];have:R (Sl.at ob s.n s.n).v h4:=by
   refine hr h4 (Sl.at ob s.n s.n) x4 (fun g mg=>⟨o4.ok,lL,fun k hk=>?_⟩);obtain ⟨u,hu,hc⟩:=ag k (by omega);refine ⟨u,?_,hc g (mg.mono fun j _ J=>.inr (by omega))⟩;have:=(o4.mod mg (fun _ hb=>by simp at hb;omega)).cell hu;simpa using this
  simpa using this
 have c':(i:Int)<s.n:=by omega
 have ah:i<L.length:=by omega
 have w1:=Zj (i:=i) (by omega);obtain ⟨u,hu,ru⟩:=r.at (i:=i) c;obtain ⟨rl,rm,rb,rv⟩:=Xs pk ah;have lu:=ru.len;simp [c',Zm r.ok,hu,x4,Yj B4,w1];refine Zsl G.R.P (r.ext x4) (by omega) (fun j J=>?_) (by omega) ?_
 ·obtain ⟨y1,y2,_,_⟩:=Uy (pk.lv j J);have:=pk.bn;exact ⟨by omega,fun v hv=>by have:=y2 v (by omega);omega⟩
 intro h5 e5;have B5:=B4.ext e5;rw [Xaq ah,rm];generalize hn:Yi L i=n at *
 simp;refine Zzo (n:=n) (by omega) rfl ?_;intro U h6 g6 U6 e6;have x6:=(x4.trans e5).trans e6;have B6:=B5.ext e6;simp [Yj B6,w1];refine Zm6 G.R (g.ext x6) (r.ext x6) cc (by omega) ?_;intro h7 t e7 o7 az;have x7:=x6.trans e7;have lU:=U6.lt;have z5:=e5.size;have z7:=e7.size;have tn:=o7.1;simp at tn;have aA:=Zks (N:=N) (L:=L) (l:=(i:Int)+1);obtain ⟨x,hx⟩:∃ x,x=Uv N L ((i:Int)+1):=⟨_,rfl⟩
 obtain ⟨row,X⟩:∃ row,row=Ya L i:=⟨_,rfl⟩
 have aB:Zx N L i=Zcr N row x:=by unfold Zx;rw [<-hx,<-X]
 have ai:∀ j,j<x.length->∃ a:Nat,Zl x j=a/\a<N.as.length:=fun j J=>by rw [hx] at J ⊢;exact Zzr J
 rw [<-hx] at o7 tn aA;rw [<-X] at ru rl rm rv lu;have tb:t.nl=false->h6.size<=t.b:=fun hn=>az.resolve_left (by rw [hn];simp);simp;refine Zt (GoJ p B ob U n i s u t N row x h7) (fun e _=>t.n-Zy e 18) ⟨0,fun _ _=>Sl.nil,_,_,_,_,_,_,_,_,rfl,by omega,⟨U6.ext e7,Fam.none,by omega⟩,Mod.refl _⟩ ?_;rintro e h8 ⟨j,Q,v1,v3,v8,v9,au,av,aw,ax,rfl,J,q8,m8⟩;have z8:=m8.size;have x8:Ext h h8:=Mod.ext x7 m8 (fun j J=>by omega);by_cases d:j<t.n;rotate_left
 ·have d':¬ (j:Int)<t.n:=by omega
  rw [Xf7 (by omega)] at q8;have Z:Ext h4 h8:=Mod.ext ((e5.trans e6).trans e7) m8 (fun j J=>by omega);have o8:=o4.ext' Z;have ix:=Zm (Y:=Y) (h:=h8) (s:=Sl.at ob s.n s.n) (sz:=1) (k:=.i64) (i:=(i:Int)) o4.ok (by omega) (by simp;omega);simp at ix;simp [d',ix];have kq:Zga h3.size ob h8 (Sl.at U n n) n (Zcr N row x):=q8.kept (by omega) (by omega) (by omega) (by omega);refine Xeq o8 (k:=i) (v:=(Sl.at U n n).v) (by omega) ?_;intro h9 o9 m9;have aC:∀ k,k<i+1->∃ u:Sl,(V.set i (Sl.at U n n).v)[k]? = some u.v/\Zga h3.size ob h9 u (Yi L k) (Zx N L k):=by
   intro k hk;rcases Xf0 k i with g | g
   ·obtain ⟨u,hu,hc⟩:=ag k g;exact ⟨u,by rw [Xig (by omega)];exact hu,(hc.ext Z).step m9⟩
   obtain rfl:k=i:=by omega
   refine ⟨Sl.at U n n,by rw [List.getElem?_set_self (by omega)],?_⟩;rw [hn,aB];exact kq.step m9
  simp [w1];refine ⟨⟨i+1,V.set i (Sl.at U n n).v,_,_,_,_,_,_,_,_,_,_,_,_,_,_,rfl,by omega,o9,by simpa using ay,aC,m4.trans ((Z.mono (fun _ _ h=>h.elim)).trans m9)⟩,by simp [Zy];omega⟩
 have d':(j:Int)<t.n:=by omega
 have w2:=Zj (i:=j) (by omega);obtain ⟨a,ha,aD⟩:=ai j (by omega);obtain ⟨xv,yv,aj,ak,aE,aF⟩:=cc.arc aD;obtain ⟨cx,al,D⟩:=rv xv aE;obtain ⟨H,aa,I⟩:=rv yv aF;have am:Yf N.as.length (a:Int)=true:=by simp [Yf];omega
 have f1:Zdg N (a:Int)=xv:=by simp [Zdg,am,aj]
 have f2:toV N (a:Int)=yv:=by simp [toV,am,ak]
 have aG:=(o7.mod m8 (fun hn=>by have:=tb hn;omega)).row64;have ab:=ru.ext x8;have xu:xv<u.n:=by omega
 have yu:yv<u.n:=by omega
 have ac:=fun g (k:Nat) (hk:k<n)=>Zm (Y:=Y) (h:=g) (s:=Sl.at U n n) (sz:=2) (k:=.i64) (i:=(k:Int)) ⟨fun h=>(by cases h),Xfy _,.inl rfl⟩ (by omega) (by simp;omega);simp at ac;have l0:hc h8 U (H * 2)=some (Q false H).v:=by rw [q8.blk.hc];exact Zkl (x:=false) I
 simp [d',Zm o7.ok,aG.at d,ha];refine Z2 G.R.G.To G.R.G.arc (g.ext x8) ?_;rw [f2];simp [Zm ru.ok,yu,ab.at yu,aa,ac _ H I];refine Zap G.R.G.From G.R.G.arc (g.ext x8) ?_;rw [f1];simp [Zm ru.ok,xu,ab.at xu,ab.at yu,al,aa,ac _ cx D,l0];refine Xp rfl ?_;intro b9 h9 g9 V9 e9;have q9:Cel h7.size U h9 n Q (Zcr N row (x.take j)):=⟨q8.blk.ext e9,q8.fam.ext e9,q8.ult⟩
 have z9:=e9.size;simp;refine q9.app (x:=false) I (by omega) (by have:=Znh (N:=N) (row:=row) (l:=x.take j) (b:=false) (c:=H);have:(x.take j).length<=j:=(by simp;omega);omega) V9 ?_;intro ad aT an B10 aH;simp;refine stB (o:=H * 2) B10 (by rw [Zis];omega) ?_;intro ae B11 af;have M:=aH ae B11 af;have aU:=an.size;have aV:=af.size;have ao:Mod (fun j=>j=U\/h7.size<=j) h8 ae:=((e9.mono (fun _ _ h=>h.elim)).trans an).trans (af.mono (fun _ _ h=>.inl h));have l1:hc ae U (cx * 2+1)=some (Zqe Q false H ad true cx).v:=by rw [M.blk.hc];exact Zkl (x:=true) D
 have aI:Zpk (Zcr N row (x.take j)) false H a true cx=Zcr N row (x.take j) true cx:=by simp [Zpk]
 simp [l1];refine Xp rfl ?_;intro aW aJ aX V12 O;have aK:Cel h7.size U aJ n (Zqe Q false H ad) (Zpk (Zcr N row (x.take j)) false H a):=⟨M.blk.ext O,M.fam.ext O,M.ult⟩
 have aY:=O.size;simp;refine aK.app (x:=true) D (by omega) (by rw [aI];have:=Znh (N:=N) (row:=row) (l:=x.take j) (b:=true) (c:=cx);have:(x.take j).length<=j:=(by simp;omega);omega) V12 ?_;intro aL aZ aM B13 aN;simp;refine stB (o:=cx * 2+1) B13 (by rw [Zis];omega) ?_;intro ap B14 aq;have aO:=aN ap B14 aq;have ar:Mod (fun j=>j=U) h7 ap:=Mod.then m8 (((ao.trans (O.mono (fun _ _ h=>h.elim))).trans aM).trans (aq.mono (fun _ _ h=>.inl h))) (fun k hk hq=>by omega);have aP:=Zur (N:=N) (row:=row) (l:=x) (i:=j) (x:=cx) (y:=H) (a:=(a:Int)) (by omega) ha (by simp [aj,al]) (by simp [ak,aa]);simp [w2];refine ⟨⟨j+1,Zqe (Zqe Q false H ad) true cx aL,_,_,_,_,_,_,_,_,rfl,by omega,by rw [aP];exact aO,ar⟩,by simp [Zy];omega⟩
end
end Go.Rm

namespace Go.Rm
theorem Zoe {a:Int}:∀ {l:Zb} {k i:Nat},i<l.length->Zl l i=a->(∀ j,j<i->Zl l j≠a)->Yg k l a=((k+i:Nat):Int):=by
 intro l
 induction l with
 | nil=>intro k i D;simp at D
 | cons x r ih =>
  intro k i D G H;simp only [Yg]
  cases i with
  | zero =>
   have:x=a:=by simpa [Zl] using G
   rw [if_pos this];simp
  | succ i =>
   have h0:¬ x=a:=by simpa [Zl] using H 0 (by omega)
   rw [if_neg h0,ih (i:=i) (by simpa using D) (by simpa [Zl] using G) (fun j I=>by have:=H (j+1) (by omega);simpa [Zl] using this)]
   congr 1;omega
def Zcb (l:Zb):Prop:=∀ i j,i<j->j<l.length->Zl l i<Zl l j
theorem Zx6 {l:Zb} {a:Int} (h:a∈l):∃ i,i<l.length/\Zl l i=a:=by
 obtain ⟨i,r,rfl⟩:=Xgx h;exact ⟨i,r,by simp [Zl,r]⟩
theorem Zgn {a:Int} {l:Zb} {k:Nat} (h:∀ i,i<l.length->Zl l i≠a):Yg k l a = -1 :=
 Zjg fun x hx e=>by
  obtain ⟨i,r,q⟩:=Zx6 hx;exact h i r (q.trans e)
section
variable {Y:Sys} {h h':Zk}
structure Zs5 (Y:Sys):Prop where
 S:Zlq Y
 Bin:Y.Has 197 Y197
 NaN2:Y.Has 214 Y214
 Place:Y.Has 181 Y181
theorem Zrj (S:Zs5 Y) {a:Int} {R:Ze} (r:R (.bool false) h):Zv Y 214 [Zg a] h R:=by
 refine .of_has S.NaN2 rfl ?_;simp [Y214,Xm.wp];exact r
def BsI (s:Sl) (a:Int) (l:Zb) (h0:Zk) (e:Zc) (h':Zk):Prop :=
 ∃ (i:Nat) (j:Nat) (v2 v3 v7 v8 v9:Value),e=[s.v,Zg a,v2,v3,Zg s.n,Zg i,Zg j,v7,v8,v9]/\i<=j/\j<=s.n/\(∀ k,k<i->Zl l k<a)/\(∀ k,j<=k->k<s.n->a<=Zl l k)/\h'=h0
theorem Zbl (S:Zs5 Y) {s:Sl} {l:Zb} (r:Yd h s l) (Z:s.n<=1000000) (hs:Zcb l) {a:Int} {R:Ze} (H:R (Zg (Yg 0 l a)) h):Zv Y 181 [s.v,Zg a] h R:=by
 refine .of_has S.Place rfl ?_;have hl:=r.len;simp [Y181,Xm.wp];refine .of_has S.Bin rfl ?_;simp [Y197,Xm.wp];refine Zt (BsI s a l h) (fun e _=>Zy e 6-Zy e 5) ⟨0,s.n,_,_,_,_,_,rfl,by omega,by omega,fun k I=>by omega,fun k h1 h2=>by omega,rfl⟩ ?_;rintro e h1 ⟨i,j,v2,v3,v7,v8,v9,rfl,aa,hj,D,J,hh⟩;subst hh;by_cases c:i<j
 ·have c':(i:Int)<j:=by omega
  obtain ⟨m,hm⟩:∃ m,m=(i+j) / 2:=⟨_,rfl⟩
  have w1:IntKind.i64.wrap ((i:Int)+j)=((i+j:Nat):Int):=by rw [Zo (by omega)];omega
  have w2:IntKind.u64.wrap ((i+j:Nat):Int)=((i+j:Nat):Int):=Zst (by omega);have X:IntKind.u64.wrap ((i:Int)+j)=((i+j:Nat):Int):=by rw [Zst (by omega)];omega
  have sh:=Zxo (u:=i+j) (j:=.i64);have G:=Zxo (u:=i+j) (j:=.u64);rw [<-hm] at sh G;have w3:IntKind.i64.wrap (m:Int)=(m:Int):=Zo (by omega);have w4:=Zj (i:=m) (by omega);have M:m<s.n:=by omega
  obtain ⟨t,ht⟩:∃ t,t=i+j:=⟨_,rfl⟩
  rw [<-ht] at w1 w2 X sh G;simp [c',w1,w2,G,w3,Zm r.ok,M,r.at M];refine Znz S.S ?_;by_cases d:Zl l m<a
  ·simp [d,w4];have O:∀ k,k<m+1->Zl l k<a:=by
    intro k I;rcases Xf0 k m with g | g
    ·have:=hs k m g (by omega);omega
    obtain rfl:k=m:=by omega
    exact d
   exact ⟨⟨m+1,j,_,_,_,_,_,rfl,by omega,hj,O,J,rfl⟩,by simp [Zy];omega⟩
  simp [d];have U:∀ k,m<=k->k<s.n->a<=Zl l k:=by
   intro k h1 h2;rcases Xf0 m k with g | g
   ·have:=hs m k g (by omega);omega
   obtain rfl:k=m:=by omega
   omega
  exact ⟨⟨i,m,_,_,_,_,_,rfl,by omega,by omega,D,U,rfl⟩,by simp [Zy];omega⟩
 have c':¬ (i:Int)<j:=by omega
 by_cases d:i<s.n;rotate_left
 ·have V:¬ (i:Int)<s.n:=by omega
  have hp:Yg 0 l a = -1:=Zgn (fun k I=>by have:=D k (by omega);omega);rw [hp] at H;simp [c',V];exact H
 have V:(i:Int)<s.n:=by omega
 by_cases q:Zl l i=a
 ·have hp:Yg 0 l a=(i:Int):=by rw [Zoe (i:=i) (by omega) q (fun k I=>by have:=D k I;omega)];simp
  rw [hp] at H;simp [c',V,Zm r.ok,r.at d,q];exact H
 have hp:Yg 0 l a = -1:=by
  refine Zgn (fun k I e=>?_);rcases Xf0 k i with g | g
  ·have:=D k g;omega
  have h1:=J i (by omega) d;rcases Xf0 i k with g2 | g2
  ·have:=hs i k g2 I;omega
  obtain rfl:k=i:=by omega
  exact q e
 rw [hp] at H;simp [c',V,Zm r.ok,r.at d,q];refine Zrj S ?_;simp;exact H
end
end Go.Rm
