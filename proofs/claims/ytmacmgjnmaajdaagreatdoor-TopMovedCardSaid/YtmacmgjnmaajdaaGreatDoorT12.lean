import Derived.Test.YtmacmgjnmaajdaaGreatDoorT11
/- Parts. -/
set_option linter.all false
namespace Go.Rm
def Zjo{a:Int}:∀{l:Zb}{k:Nat},(∀x∈l,x≠a)->Yk k l a = -1:=by
 intro l
 induction l with
 |nil=>intro k _;rfl
 |cons x r G =>
  intro k h;simp only[Yk];rw[if_neg (h x (by simp)),G (fun y hy=>h y (by simp[hy]))]
section
variable{Y:Sys}{h h':Zk}
structure Zlx(Y:Sys):Prop where
 Index:Y.cL 222 Y222
 Contains:Y.cL 218 Y218
 Sorted:Y.cL 219 Y219
 Less:Y.cL 213 Y213
 NaN:Y.cL 221 Y221
def Zvb(S:Zlx Y){a:Int}{R:Ze}(G:R (.bool false) h):Zt Y 221 [Zg a] h R:=by
 refine .o S.NaN ?_;simp[Y221,Yw.wp];exact G
def Zof(S:Zlx Y){a b:Int}{R:Ze}(G:R (.bool (decide (a<b))) h):Zt Y 213 [Zg a,Zg b] h R:=by
 refine .o S.Less ?_;simp[Y213,Yw.wp];refine Zvb S ?_;simp;exact G
def IxI(s:Sl)(a:Int)(l:Zb)(h0:Zk)(e:Zc)(h':Zk):Prop :=
 ∃(i:Nat)(v2 v3 v6 v7:Zj),e=[s.v,Zg a,v2,v3,Zg s.n,Zg i,v6,v7]/\i<=s.n/\Yk 0 l a=Yk i (l.drop i) a/\h'=h0
def Zxx(S:Zlx Y){s:Sl}{l:Zb}(r:Zw h s l)(H:s.n<=1000000){a:Int}{R:Ze}(G:R (Zg (Yk 0 l a)) h):Zt Y 222 [s.v,Zg a] h R:=by
 refine .o S.Index ?_;have U:=r.len;simp[Y222,Yw.wp];refine Zp (IxI s a l h) (fun e _=>s.n-Zx e 5) ⟨0,_,_,_,_,rfl,by omega,by simp,rfl⟩ ?_;rintro e h1 ⟨i,X,v3,v6,v7,rfl,hi,hp,I⟩;subst I;by_cases c:i<s.n
 ·have c':(i:Int)<s.n:=by omega
  have J:=wrapS (i:=i);rw[Zrw (by omega)] at hp;by_cases d:Zm l i=a
  ·rw[if_pos d] at hp;rw[hp] at G;simp[c',Zl r.ok,r.at c,d];exact G
  rw[if_neg d] at hp;have O:(a=Zm l i)=False:=by simp;omega
  simp[c',Zl r.ok,r.at c,O,J];refine nx ⟨i+1,_,_,_,_,rfl,by omega,hp,rfl⟩
 have c':¬(i:Int)<s.n:=by omega
 rw[Xj2] at hp;simp only[Yk] at hp;rw[hp] at G;simp[c'];exact G
def Zm5(S:Zlx Y){s:Sl}{l:Zb}(r:Zw h s l)(G:s.n<=1000000){a:Int}{R:Ze}(H:R (.bool (decide (0<=Yk 0 l a))) h):Zt Y 218 [s.v,Zg a] h R:=by
 refine .o S.Contains ?_;simp[Y218,Yw.wp];refine Zxx S r G ?_;simp;exact H
def SoI(s:Sl)(h0:Zk)(e:Zc)(h':Zk):Prop :=
 ∃(i:Nat)(j:Int)(v1 v3 v4:Zj),e=[s.v,v1,Zg j,v3,v4]/\i<=s.n/\j=(s.n:Int)-1-i/\h'=h0
def Ztj(S:Zlx Y){s:Sl}{l:Zb}(r:Zw h s l)(G:s.n<=1000000)(U:∀i,i+1<l.length->Zm l i<=Zm l (i+1)){R:Ze}(X:R (.bool true) h):Zt Y 219 [s.v] h R:=by
 refine .o S.Sorted ?_;have hl:=r.len;have w0:IntKind.i64.wrap ((s.n:Int)-1)=(s.n:Int)-1:=Zn;simp[Y219,Yw.wp,w0];refine Zp (SoI s h) (fun e _=>s.n-(Xf0 e 2+1-s.n).natAbs) ⟨0,(s.n:Int)-1,_,_,_,rfl,by omega,by omega,rfl⟩ ?_;rintro e h1 ⟨i,j,H,v3,v4,rfl,hi,hj,hh⟩;subst hh;by_cases c:0<j
 ·obtain⟨k,hk⟩:∃k:Nat,j=(k:Int)+1:=⟨(j-1).toNat,by omega⟩
  have c1:k+1<s.n:=by omega
  have I:k<s.n:=by omega
  have w1:IntKind.i64.wrap ((k:Int)+1-1)=(k:Int):=by rw[Zn];omega
  have J:IntKind.i64.wrap (k:Int)=(k:Int):=Zn;have O:=Zl (Y:=Y) (h:=h1) (k:=.i64) (sz:=1) (i:=(k:Int)+1) r.ok (by omega) (by omega);rw[Xjd,show ((k:Int)+1).toNat=k+1 by omega] at O;have H:=r.at c1;have aa:=U k (by omega);have d:¬Zm l (k+1)<Zm l k:=by omega
  have kp:(0:Int)<(k:Int)+1:=by omega
  subst hk;simp[kp,O,H,J,Zl r.ok,I,r.at I];refine Zof S ?_;simp[d,J];exact⟨⟨i+1,(k:Int),_,_,_,rfl,by omega,by omega,rfl⟩,by simp[Xf0];omega⟩
 simp[c];exact X
structure Zql(Y:Sys):Prop where
 S:Zlx Y
 Check:Y.cL 188 Y188
 tally:Y.cL 203 Y203
 nested:Y.cL 204 Y204
def Zox{l:Zb}{i:Nat}(G:i<l.length:=by omega):(if Wp (l.take i)-1<Zm l i then Zm l i else Wp (l.take i)-1)=Wp (l.take (i+1))-1:=by
 rw[Zaq G];by_cases h:Wp (l.take i)<Zm l i+1
 ·rw[ifP,if_pos h];omega
 rw[ifN,if_neg h]
def TyI(s k:Sl)(l:Zb)(h0:Zk)(e:Zc)(h':Zk):Prop :=
 ∃(i:Nat)(v6 v10 v11:Zj),e=[s.v,Zi,.bool false,Zg s.n,k.v,Zg (Wp (l.take i)-1),v6,s.v,Zg s.n,Zg i,v10,v11]/\i<=s.n/\Yh h' 1 k (Zu (Zf9 s.n (l.take i)))/\Mod (fun j=>j=k.b) h0 h'
def Zxo(P:Zql Y){s:Sl}{l:Zb}(r:Zw h s l)(I:s.n<=1000000)(J:∀v,v<l.length->0<=Zm l v/\Zm l v<l.length)(G:∀c,c<(Wp l).toNat->Zbu l c≠0){R:Ze}
  (hr:∀h' t,Ext h h'->R (.tuple #[t,.bool true]) h'):Zt Y 203 [s.v] h R:=by
 refine .o P.tally ?_;have hl:=r.len;simp[Y203,Yw.wp];refine Zf4 (n:=s.n) I rfl ?_;intro kb h1 g1 o1 e1 l1;rw[<-Zrv] at o1;simp;refine Zp (TyI s (Sl.at kb s.n s.n) l h1) (fun e _=>s.n-Zx e 9) ⟨0,_,_,_,rfl,by omega,by simpa using o1,Mod.refl _⟩ ?_;rintro e h2 ⟨i,v6,ae,af,rfl,hi,o2,m2⟩;have x2:Ext h h2:=Mod.cC e1 m2 (fun j H=>by rw[H];exact g1);have r2:=r.cC x2;have ko:=o2.ok;by_cases c:i<s.n
 ·have c':(i:Int)<s.n:=by omega
  have w1:=wrapS (i:=i);obtain⟨d1,d2⟩:=J i (by omega);obtain⟨t,ht⟩:∃t:Nat,Zm l i=t:=⟨(Zm l i).toNat,by omega⟩
  have O:t<s.n:=by omega
  have aa:¬(t:Int)<0:=by omega
  have ab:¬(s.n:Int)<=(t:Int):=by omega
  have kx:=fun g=>Zl (Y:=Y) (h:=g) (s:=Sl.at kb s.n s.n) (sz:=1) (k:=.i64) (i:=(t:Int)) ko (by omega) (by simp;omega);simp at kx;have kc:=o2.cE.val t (by simp;omega);simp[Zqn O] at kc;have cl:=Zyh (l:=l.take i) (c:=t);have ag:(l.take i).length<=i:=by simp;omega
  have w2:IntKind.i64.wrap ((Zbu (l.take i) t:Int)+1)=(Zbu (l.take i) t:Int)+1:=Zn;have U:=Zox (l:=l) (i:=i);rw[ht] at U;simp[c',Zl r.ok,r2.at c,ht,aa,ab,kx,kc,w2];refine Zs5 o2 (k:=t) ?_ (by simp;omega);intro h3 o3 m3;rw[Zo0 (by omega) ht O] at o3;simp[w1,U];refine nx ⟨i+1,_,_,_,rfl,by omega,o3,m2.trans m3⟩
 have c':¬(i:Int)<s.n:=by omega
 rw[Xji (by omega)] at o2;obtain⟨ah,ai,aj⟩:=Zc8 (l:=l) (n:=(s.n:Int)) (by omega) (fun j H=>by have:=(J j H).2;omega);obtain⟨m,hm⟩:∃m:Nat,Wp l=m:=⟨(Wp l).toNat,by omega⟩
 have tl:l.take i=l:=Xji (by omega);have w2:IntKind.i64.wrap ((m:Int)-1+1)=(m:Int):=by rw[Zn];omega
 have sl:=X1 (Y:=Y) (h:=h2) (s:=Sl.at kb s.n s.n) (sz:=1) (k:=.i64) (j:=(m:Int)) ko (by omega) (by simp;omega);simp at sl;have rt:Zw h2 { Sl.at kb s.n s.n with n:=m } ((Zf9 s.n l).take m):=by
  have r0:=o2.cE;refine⟨⟨fun h=>(by cases h),by simp;omega,.inl rfl⟩,by simp;omega,fun j H=>?_⟩;have X:j<m:=by simp at H;omega
  have:=r0.val j (by simp;omega);rw[show Zm ((Zf9 s.n l).take m) j=Zm (Zf9 s.n l) j by simp[Zm,X]];exact this
 have ac:IntKind.i64.wrap (m:Int)=(m:Int):=Zn;simp[c',tl,hm,ac,sl];refine Zm5 P.S rt (by simp;omega) ?_;have ad:Yk 0 ((Zf9 s.n l).take m) 0 = -1:=by
  refine Zjo (fun x hx=>?_);obtain⟨j,H,rfl⟩:=Xju hx;have X:j<m:=by simp at H;omega
  have:=G j (by omega);simp[Zf9];omega
 simp[ad];exact hr h2 _ x2
def Xh4(s t k:Sl)(h0:Zk)(e:Zc)(h':Zk):Prop :=
 ∃(i:Nat)(cs:Zb)(m o p q r a d f g h l:Zj),e=[s.v,t.v,m,k.v,o,p,q,r,Zg s.n,Zg i,a,d,f,g,h,l]/\i<=s.n/\Yh h' 1 k (Zu cs)/\cs.length=s.n/\(∀c,c<i->Zm cs c = -1)/\Mod (fun j=>j=k.b) h0 h'
def Xhr(s t k:Sl)(l q:Zb)(h0:Zk)(e:Zc)(h':Zk):Prop :=
 ∃(i:Nat)(cs:Zb)(g h m o p r a d f:Zj),e=[s.v,t.v,g,k.v,h,Zg (Wp (l.take i)-1),m,o,p,r,a,s.v,Zg s.n,Zg i,d,f]/\i<=s.n/\Yh h' 1 k (Zu cs)/\cs.length=s.n/\(∀c,c<s.n->(Zm cs c = -1/\∀v,v<i->Zm l v≠(c:Int))\/∃v,v<i/\Zm l v=(c:Int)/\Zm cs c=Zm q v)/\Mod (fun j=>j=k.b) h0 h'
def Zpf{l:Zb}{i j:Nat}{y:Int}(G:i<l.length:=by omega):Zm (l.set i y) j=if j=i then y else Zm l j:=by
 simp only[Zm,Xja,Xk5];by_cases h:i=j
 ·subst h;simp[G]
 have:¬j=i:=fun e=>h e.symm;simp[h,this]
def Zso(P:Zql Y){s t:Sl}{l q:Zb}(r:Zw h s l)(rq:Zw h t q)(aa:s.n<=1000000)(am:l.length=q.length)(ab:∀v,v<l.length->0<=Zm l v/\Zm l v<l.length)(U:∀c,c<(Wp l).toNat->Zbu l c≠0)
  (G:∀a,a<l.length->∀b,b<l.length->Zm l a<=Zm l b->Zm q a<=Zm q b) {R:Ze}
  (hr:∀h',Ext h h'->R (.bool true) h'):Zt Y 204 [s.v,t.v] h R:=by
 refine .o P.nested ?_;have hl:=r.len;have hlq:=rq.len;simp[Y204,Yw.wp];refine Zf4 (n:=s.n) aa rfl ?_;intro O h1 g1 o1 e1 l1;simp;refine Zp (Xh4 s t (Sl.at O s.n s.n) h1) (fun e _=>s.n-Zx e 9) ⟨0,List.replicate s.n 0,_,_,_,_,_,_,_,_,_,_,_,rfl,by omega,o1,by simp,fun c hc=>by omega,Mod.refl _⟩ ?_;rintro e h2 ⟨i,cs,f,p,z,x,y,ag,an,ao,ap,ah,ai,rfl,hi,o2,H,hc,m2⟩;have ko:=o2.ok;have x2:Ext h h2:=Mod.cC e1 m2 (fun j I=>by rw[I];exact g1);by_cases c:i<s.n
 ·have c':(i:Int)<s.n:=by omega
  have w1:=wrapS (i:=i);have kx:=Zl (Y:=Y) (h:=h2) (s:=Sl.at O s.n s.n) (sz:=1) (k:=.i64) (i:=(i:Int)) ko (by omega) (by simp;omega);simp at kx;simp[c',kx];refine Zs5 o2 (k:=i) ?_;intro h3 o3 m3;have hc':∀c,c<i+1->Zm (cs.set i (-1)) c = -1:=by
   intro c ac;rw[Zpf]
   split
   ·rfl
   exact hc c (by omega)
  simp[w1];refine nx ⟨i+1,cs.set i (-1),_,_,_,_,_,_,_,_,_,_,_,rfl,by omega,o3,by simpa using H,hc',m2.trans m3⟩
 have c':¬(i:Int)<s.n:=by omega
 obtain rfl:i=s.n:=by omega
 simp[c'];refine Zp (Xhr s t (Sl.at O s.n s.n) l q h2) (fun e _=>s.n-Zx e 13) ⟨0,cs,_,_,_,_,_,_,_,_,_,rfl,by omega,o2,H,fun c ac=>.inl ⟨hc c ac,fun v hv=>by omega⟩,Mod.refl _⟩ ?_;clear o2 H hc;rintro e h3 ⟨v,cs,f,p,x,y,A,B,ag,ah,ai,rfl,hv,o3,H,hc,m3⟩;have x3:Ext h h3:=Mod.cC x2 m3 (fun j I=>by rw[I];exact g1);have r3:=r.cC x3;have q3:=rq.cC x3;by_cases d:v<s.n
 ·have d':(v:Int)<s.n:=by omega
  have w1:=wrapS (i:=v);obtain⟨a1,a2⟩:=ab v (by omega);obtain⟨b,hb⟩:∃b:Nat,Zm l v=b:=⟨(Zm l v).toNat,by omega⟩
  have aj:b<s.n:=by omega
  have kx:=fun g=>Zl (Y:=Y) (h:=g) (s:=Sl.at O s.n s.n) (sz:=1) (k:=.i64) (i:=(b:Int)) ko (by omega) (by simp;omega);simp at kx;have kc:=o3.cE.val b (by omega);simp at kc;have X:=Zox (l:=l) (i:=v);rw[hb] at X;have dq:v<t.n:=by omega
  have ad:(v:Int)<t.n:=by omega
  have step:∀{h4:Zk},Yh h4 1 (Sl.at O s.n s.n) (Zu (cs.set b (Zm q v)))->Mod (fun j=>j=O) h3 h4->(∀c,c<s.n->(Zm (cs.set b (Zm q v)) c = -1/\∀u,u<v+1->Zm l u≠(c:Int))\/∃u,u<v+1/\Zm l u=(c:Int)/\Zm (cs.set b (Zm q v)) c=Zm q u):=by
   intro h4 _ _ c ak;rw[Zpf];by_cases e:c=b
   ·subst e;rw[if_pos rfl];exact .inr ⟨v,by omega,hb,rfl⟩
   rw[if_neg e];rcases hc c ak with⟨f1,f2⟩|⟨u,f1,f2,f3⟩
   ·left;refine⟨f1,fun u hu=>?_⟩;rcases Xi6 u v with g|g
    ·exact f2 u g
    obtain rfl:u=v:=by omega
    rw[hb];omega
   exact .inr ⟨u,by omega,f2,f3⟩
  have ae:0<=Zm cs b->Zm cs b=Zm q v:=by
   intro h0;rcases hc b aj with⟨f1,_⟩|⟨u,f1,f2,f3⟩
   ·omega
   rw[f3];have h1:=G u (by omega) v (by omega) (by omega);have h2:=G v (by omega) u (by omega) (by omega);omega
  by_cases g:0<=Zm cs b
  ·have sm:=ae g;have gq:0<=Zm q v:=by omega
   simp[d',Zl r.ok,Zl rq.ok,ad,r3.at d,q3.at dq,hb,kx,kc,sm,gq];refine Zs5 o3 (k:=b) ?_;intro h4 o4 m4;simp[w1,X];refine nx ⟨v+1,cs.set b (Zm q v),_,_,_,_,_,_,_,_,_,rfl,by omega,o4,by simpa using H,step o4 m4,m3.trans m4⟩
  simp[d',Zl r.ok,Zl rq.ok,ad,r3.at d,q3.at dq,hb,kx,kc,g];refine Zs5 o3 (k:=b) ?_;intro h4 o4 m4;simp[w1,X];refine nx ⟨v+1,cs.set b (Zm q v),_,_,_,_,_,_,_,_,_,rfl,by omega,o4,by simpa using H,step o4 m4,m3.trans m4⟩
 have d':¬(v:Int)<s.n:=by omega
 obtain⟨aq,ar,au⟩:=Zc8 (l:=l) (n:=(s.n:Int)) (by omega) (fun j I=>by have:=(ab j I).2;omega);obtain⟨m,hm⟩:∃m:Nat,Wp l=m:=⟨(Wp l).toNat,by omega⟩
 have tl:l.take v=l:=Xji (by omega);have w2:IntKind.i64.wrap ((m:Int)-1+1)=(m:Int):=by rw[Zn];omega
 have al:IntKind.i64.wrap (m:Int)=(m:Int):=Zn;have sl:=X1 (Y:=Y) (h:=h3) (s:=Sl.at O s.n s.n) (sz:=1) (k:=.i64) (j:=(m:Int)) ko (by omega) (by simp;omega);simp at sl;have rt:Zw h3 { Sl.at O s.n s.n with n:=m } (cs.take m):=by
  have r0:=o3.cE;refine⟨⟨fun h=>(by cases h),by simp;omega,.inl rfl⟩,by simp;omega,fun j I=>?_⟩;have J:j<m:=by simp at I;omega
  have:=r0.val j (by omega);rw[show Zm (cs.take m) j=Zm cs j by simp[Zm,J]];exact this
 have af:∀j,j<m->∃u,u<l.length/\Zm l u=(j:Int)/\Zm cs j=Zm q u:=by
  intro j I;rcases hc j (by omega) with⟨f1,f2⟩|⟨u,f1,f2,f3⟩
  ·obtain⟨u,hu,e⟩:=Zmg.1 (U j (by omega));exact absurd e (f2 u (by omega))
  exact⟨u,by omega,f2,f3⟩
 simp[d',tl,hm,al,sl];refine Ztj P.S rt (by simp;omega) (fun j I=>?_) ?_
 ·have J:j+1<m:=by simp at I;omega
  rw[show Zm (cs.take m) j=Zm cs j by simp[Zm,show j<m by omega],show Zm (cs.take m) (j+1)=Zm cs (j+1) by simp[Zm,J]];obtain⟨u,u1,u2,u3⟩:=af j (by omega);obtain⟨w,p1,p2,p3⟩:=af (j+1) J;rw[u3,p3];exact G u u1 w p1 (by omega)
 simp;exact hr _ x3
def PkI(n B C:Nat)(k l:Zj)(s:Sl)(L:Za)(h0:Zk)(e:Zc)(h':Zk):Prop :=
 ∃(i:Nat)(m o p q a b c d f g h j:Zj),e=[Zg n,k,l,Zh B,Zh C,m,Zg s.n,o,p,q,a,b,c,d,s.v,Zg s.n,Zg i,f,g,h,j]/\i<=s.n/\Ext h0 h'
def Zjw(P:Zql Y){s:Sl}{L:Za}{n:Nat}(r:Wm h s L)(ok:Yq n L){R:Ze}
  (hr:∀h',Ext h h'->R .nilIface h'):Zt Y 188 [Zg n,W7 s,Zi] h R:=by
 refine .o P.Check ?_;have lL:=r.len;have b1:=ok.bn;have b2:=ok.bL;have b3:=ok.pos;have n0:¬(n:Int)<0:=by omega
 have n1:¬(4096:Int)<n:=by omega
 have n2:¬(6:Int)<s.n:=by omega
 have O:(s.n=0)=False:=by simp;omega
 simp[Y188,Yw.wp,W7];refine Zo ?_;intro B h1 g1 B1 e1;simp;refine Zo ?_;intro C h2 g2 C2 e2;have x2:=e1.trans e2;have B2:=B1.cC e2;simp[B2.hc,C2.hc,n0,n1,n2,O];refine Zp (PkI n B C (.agg #[s.v]) (Zi) s L h2) (fun e _=>s.n-Zx e 16) ⟨0,_,_,_,_,_,_,_,_,_,_,_,_,rfl,by omega,Mod.refl _⟩ ?_;rintro e h3 ⟨i,v5,v7,v8,v9,ac,ad,ae,af,ag,ah,ai,aj,rfl,hi,e3⟩;have U:=x2.trans e3;by_cases c:i<s.n;rotate_left
 ·have c':¬(i:Int)<s.n:=by omega
  simp[c'];exact hr _ U
 have c':(i:Int)<s.n:=by omega
 have w1:=wrapS (i:=i);obtain⟨u,hu,X⟩:=r.at (i:=i) c;have lu:=X.len;obtain⟨z1,z2,z3,z4⟩:=Qp (ok.lv i (by omega));have un:((u.n:Int)=(n:Int))=True:=by simp;omega
 simp[c',Zl r.ok,hu,U];refine Zo ?_;intro D h4 g4 D4 e4;simp;refine stB (o:=0) D4 (by simp) ?_;intro h5 D5 m5;have G:=Mod.toExt e4 m5 g4;have x5:=U.trans G;simp[un];refine Zxo P (X.cC x5) (by omega) (fun v hv=>by rw[z1] at hv ⊢;exact z2 v hv) z3 ?_;intro h6 t H;have x6:=x5.trans H;have D6:=D5.cC H;have C6:=C2.cC ((e3.trans G).trans H);have B6:=B2.cC ((e3.trans G).trans H);simp at D6;by_cases aa:i=0
 ·subst aa;have ab:IntKind.i64.wrap 1=1:=rfl;simp[D6.hc,C6.hc,ab];refine nx ⟨1,_,_,_,_,_,_,_,_,_,_,_,_,rfl,by omega,(e3.trans G).trans H⟩
 have ip:(0:Int)<i:=by omega
 have I:0<i:=by omega
 have w2:IntKind.i64.wrap ((i:Int)-1)=((i-1:Nat):Int):=by rw[Zn];omega
 obtain⟨m,hm⟩:∃m,m=i-1:=⟨_,rfl⟩
 rw[<-hm] at w2 z4;have J:m<s.n:=by omega
 obtain⟨q,hq,rq⟩:=r.at (i:=m) J;obtain⟨y1,y2,y3,_⟩:=Qp (ok.lv m (by omega));have lq:=rq.len;simp[D6.hc,I,B6.hc,w2,Zl r.ok,J,hq,x6];refine Zso P (rq.cC x6) (X.cC x6) (by omega) (by omega) (fun v hv=>by rw[y1] at hv ⊢;exact y2 v hv) y3 (fun a ha b hb=>by rw[y1] at ha hb;exact z4 I a ha b hb) ?_;intro h7 e7;have C7:=C6.cC e7;simp[C7.hc,w1];refine nx ⟨i+1,_,_,_,_,_,_,_,_,_,_,_,_,rfl,by omega,((e3.trans G).trans H).trans e7⟩
def Zav(row:Zb)(a:Yt):Bool:=decide (a.a.toNat<row.length/\a.b.toNat<row.length/\Zm row a.a.toNat≠Zm row a.b.toNat)
def Qv(N:Zs)(L:Za)(l:Int):Zb:=Uw (Zav (lvl L l)) 0 N.as
structure Zfv(N:Zs)(L:Za):Prop where
 bL:L.length<=6
 ln:∀i,i<L.length->(Yc L i).length=N.vs.length
 ok:Yl N
def Zfv.of{N:Zs}{L:Za}(ok:Yl N)(p:Yq N.vs.length L):Zfv N L:=⟨p.bL,fun i G=>(Qp (p.lv i G)).1,ok⟩
def Zfv.arc{N:Zs}{L:Za}(c:Zfv N L){i:Nat}(H:i<N.as.length):∃x y:Nat,(Zq N.as i).a=x/\(Zq N.as i).b=y/\x<N.vs.length/\y<N.vs.length:=by
 obtain⟨h1,G⟩:=c.ok.arcs i H;simp[Yi] at h1 G;exact⟨_,_,(Int.toNat_of_nonneg h1.1).symm,(Int.toNat_of_nonneg G.1).symm,by omega,by omega⟩
structure GrR(Y:Sys):Prop where
 From:Y.cL 193 Y193
 To:Y.cL 192 Y192
 arc:Y.cL 211 Y211
 Verts:Y.cL 189 Y189
 Arcs:Y.cL 209 Y209
structure Zwp(Y:Sys):Prop where
 G:GrR Y
 P:Zhj Y
 ends:Y.cL 210 Y210
 Cross:Y.cL 191 Y191
def Zp7(F':Zwp Y){p:Nat}{N:Zs}{S:Zf}(g:Xi h p N S){u:Sl}{row:Zb}(U:Zw h u row){i x y:Nat}(hi:i<N.as.length)(hx:(Zq N.as i).a=x)(hy:(Zq N.as i).b=y){R:Ze}
  (O:R (.tuple #[Zg (if x<row.length/\y<row.length then Zm row x else 0),Zg (if x<row.length/\y<row.length then Zm row y else 0),.bool (decide (x<row.length/\y<row.length))]) h) :
  Zt Y 210 [Zh p,u.v,Zg i] h R:=by
 refine .o F'.ends ?_;have lu:=U.len;have hv:Yi N.as.length (i:Int)=true:=by simp[Yi];omega
 have f1:Ze3 N (i:Int)=x:=by simp[Ze3,hv,hx]
 have f2:toV N (i:Int)=y:=by simp[toV,hv,hy]
 simp[Y210,Yw.wp];refine Zcg F'.G.From F'.G.arc g ?_;simp;refine U0 F'.G.To F'.G.arc g ?_;rw[f1,f2];have X:¬(x:Int)<0:=by omega
 have y0:¬(y:Int)<0:=by omega
 by_cases c1:x<u.n;rotate_left
 ·have I:(u.n:Int)<=x:=by omega
  have c1n:u.n<=x:=by omega
  have H:¬(x<row.length/\y<row.length):=by omega
  rw[if_neg H,if_neg H,decide_eq_false H] at O;simp[X,y0,I];exact O
 have I:¬(u.n:Int)<=x:=by omega
 have c1n:¬u.n<=x:=by omega
 by_cases c2:y<u.n;rotate_left
 ·have J:(u.n:Int)<=y:=by omega
  have c2n:u.n<=y:=by omega
  have H:¬(x<row.length/\y<row.length):=by omega
  rw[if_neg H,if_neg H,decide_eq_false H] at O;simp[X,y0,I,J];exact O
 have J:¬(u.n:Int)<=y:=by omega
 have c2n:¬u.n<=y:=by omega
 have H:x<row.length/\y<row.length:=by omega
 rw[if_pos H,if_pos H,decide_eq_true H] at O;simp[X,y0,I,J,Zl U.ok,c1,c2,U.at c1,U.at c2];exact O
def RcI(p n:Nat)(u:Sl)(N:Zs)(row:Zb)(h0:Zk)(e:Zc)(h':Zk):Prop :=
 ∃(i:Nat)(s:Sl)(f g h j k l m a c d:Zj),e=[Zh p,f,g,h,j,u.v,s.v,k,l,m,a,Zg n,Zg i,c,d]/\i<=n/\Yh h' 1 s (Zu (Uw (Zav row) 0 (N.as.take i)))/\(s.nl=true\/h0.size<=s.b)/\Ext h0 h'
def Zno(F':Zwp Y){p:Nat}{N:Zs}{S:Zf}{L:Za}{s:Sl}(g:Xi h p N S)(r:Wm h s L)(c:Zfv N L){l:Int}(hl : -9223372036854775808<=l/\l<=9223372036854775807){R:Ze}
  (hr:∀h' t,Ext h h'->Yh h' 1 t (Zu (Qv N L l))->(t.nl=true\/h.size<=t.b)->R t.v h'):Zt Y 191 [Zh p,W7 s,Zg l] h R:=by
 refine .o F'.Cross ?_;have bA:=c.ok.ba;have lL:=r.len;simp[Y191,Yw.wp,W7];refine Zo ?_;intro B h1 g1 B1 e1;simp[Yf B1];refine Ztx F'.P (r.cC e1) (by have:=c.bL;omega) hl ?_;intro h2 u e2 ru;have x2:=e1.trans e2;simp;refine Q3 F'.G.Arcs (g.cC x2) ?_;unfold Qv at hr;generalize ac:lvl L l=row at *
 simp;refine Zp (RcI p N.as.length u N row h2) (fun e _=>N.as.length-Zx e 12) ⟨0,Sl.nil,_,_,_,_,_,_,_,_,_,_,rfl,by omega,by simpa[Uw,Zu] using Yh.nil,.inl rfl,Mod.refl _⟩ ?_;rintro e h3 ⟨i,t,a,f,k,m,n,w,z,ae,af,ag,rfl,hi,o3,H,e3⟩;have x3:=x2.trans e3;have z1:=x2.size;by_cases d:i<N.as.length;rotate_left
 ·have d':¬(i:Int)<N.as.length:=by omega
  rw[Xji (by omega)] at o3;simp[d'];exact hr _ t x3 o3 (H.imp id (fun q=>by omega))
 have d':(i:Int)<N.as.length:=by omega
 have w1:=wrapS (i:=i);obtain⟨x,y,hx,hy,_,_⟩:=c.arc d;have aa:=ru.cC (e2.trans e3);have I:=Zfz (p:=Zav row) (l:=N.as) (i:=i) d;have ad:(Uw (Zav row) 0 (N.as.take i)).length<=i:=by rw[Zde];refine Xjo (Xki ..) (by simp;omega)
 have tn:=o3.1;simp at tn;simp[d'];refine Zp7 F' (g.cC x3) aa d hx hy ?_;have O:Zav row (Zq N.as i)=decide (x<row.length/\y<row.length/\Zm row x≠Zm row y):=by unfold Zav;rw[hx,hy];rfl
 by_cases J:x<row.length/\y<row.length;rotate_left
 ·have hf:Zav row (Zq N.as i)=false:=by rw[O];exact decide_eq_false (fun hh=>J ⟨hh.1,hh.2.1⟩)
  rw[hf] at I;simp at I;rw[if_neg J,if_neg J,decide_eq_false J];simp[w1];refine nx ⟨i+1,t,_,_,_,_,_,_,_,_,_,_,rfl,by omega,by rw[I];exact o3,H,e3⟩
 rw[if_pos J,if_pos J,decide_eq_true J];by_cases q2:Zm row x=Zm row y
 ·have hf:Zav row (Zq N.as i)=false:=by rw[O];exact decide_eq_false (fun hh=>hh.2.2 q2)
  rw[hf] at I;simp at I;simp[q2,w1];refine nx ⟨i+1,t,_,_,_,_,_,_,_,_,_,_,rfl,by omega,by rw[I];exact o3,H,e3⟩
 have hf:Zav row (Zq N.as i)=true:=by rw[O];exact decide_eq_true ⟨J.1,J.2,q2⟩
 rw[hf] at I;simp at I;simp[q2];refine Xg ?_;intro b4 h4 g4 V4 e4;simp;refine Wa (bytes:=8) rfl (o3.cF e4) V4 ?_;intro t5 h5 o5 ah m5 ab;have z4:=e4.size;have z3:=e3.size;have U:t.nl=false->h2.size<=t.b:=fun hn=>H.resolve_left (by rw[hn];simp);have e5:Ext h2 h5:=Mod.cC (e3.trans e4) m5 (fun j hj=>by rw[hj.2];exact U hj.1);have X:t5.nl=true\/h2.size<=t5.b:=by
  rcases ab with⟨k1,k2⟩|⟨k1,k2⟩
  ·rw[k1,k2];exact H
  exact .inr (by omega)
 simp[w1];refine nx ⟨i+1,t5,_,_,_,_,_,_,_,_,_,_,rfl,by omega,by rw[I];simpa[Zu] using o5,X,e5⟩
def Qs{a:Int}:∀{l:Zb}{k:Nat},0<=Yk k l a↔a∈l:=by
 intro l
 induction l with
 |nil=>intro k;simp[Yk]
 |cons x r G =>
  intro k;simp only[Yk];by_cases h:x=a
  ·rw[if_pos h];simp[h]
  have h':¬a=x:=fun e=>h e.symm;rw[if_neg h,G];simp[h']
def Zt1{p:Yt->Bool}{a:Int}:∀{l:List Yt}{k:Nat},a∈Uw p k l↔∃i,i<l.length/\a=((k+i:Nat):Int)/\p (Zq l i)=true:=by
 intro l
 induction l with
 |nil=>intro k;simp[Uw]
 |cons x r I =>
  intro k;have e:Uw p k (x::r)=(if p x then [(k:Int)] else [])++Uw p (k+1) r:=by simp only[Uw];split<;>simp_all
  rw[e,Xms,I];constructor
  ·rintro (h|⟨i,h1,G,H⟩)
   ·split at h
    ·rename_i hp;simp at h;exact⟨0,by simp,by simpa using h,by simpa[Zq] using hp⟩
    simp at h
   exact⟨i+1,by simpa using h1,by rw[G];congr 1;omega,by simpa[Zq] using H⟩
  rintro⟨i,h1,G,H⟩
  cases i with
  |zero =>
   left;have hp:p x=true:=by simpa[Zq] using H
   rw[if_pos hp];simpa using G
  |succ i=>exact .inr ⟨i,by simpa using h1,by rw[G];congr 1;omega,by simpa[Zq] using H⟩
def Zg7{N:Zs}{L:Za}{l a:Int}:a∈Qv N L l↔Yi N.as.length a=true/\Zav (lvl L l) (Zq N.as a.toNat)=true:=by
 unfold Qv;rw[Zt1];simp only[Yi,decide_eq_true_eq];constructor
 ·rintro⟨i,h1,G,H⟩;simp at G;subst G;exact⟨by omega,by simpa using H⟩
 rintro⟨h1,G⟩;exact⟨a.toNat,by omega,by simp;omega,G⟩
def b2n(x:Bool):Nat:=if x then 1 else 0
def Zje(n:Nat)(Q:Bool->Nat->Sl):Array cR:=((List.range (n * 2)).map fun j=>(Q (decide (j % 2=1)) (j / 2)).v).toArray
@[simp] theorem Zi4 {n:Nat} {Q:Bool->Nat->Sl}:(Zje n Q).size=n * 2:=by simp[Zje]
def Zkw{n c:Nat}{Q:Bool->Nat->Sl}{x:Bool}(hc:c<n):(Zje n Q)[c * 2+b2n x]? = some (Q x c).v:=by
 have h1:(c * 2+b2n x) / 2=c:=by unfold b2n;split<;>omega
 have H:decide ((c * 2+b2n x) % 2=1)=x:=by unfold b2n;cases x<;>simp<;>omega
 have G:c * 2+b2n x<n * 2:=by unfold b2n;split<;>omega
 have h4:decide (b2n x % 2=1)=x:=by cases x<;>rfl
 simp[Zje,G,h1,h4]
def Zqy(Q:Bool->Nat->Sl)(x:Bool)(c:Nat)(s:Sl):Bool->Nat->Sl:=fun y v=>if y=x/\v=c then s else Q y v
def Zpy(D:Bool->Nat->Zb)(x:Bool)(c:Nat)(a:Int):Bool->Nat->Zb:=fun y v=>if y=x/\v=c then D x c++[a] else D y v
def Z8i {n c : Nat} {Q : Bool → Nat → Sl} {x : Bool} {s : Sl} (hc : c < n) : (Zje n Q).setIfInBounds (c * 2 + b2n x) s.v = Zje n (Zqy Q x c s) := by
  apply Xkp
  · simp
  intro j h1 G;simp only [Zi4] at G;rw [Array.getElem_setIfInBounds (by simpa using h1)];have hx : b2n x ≤ 1 := by unfold b2n; split <;> omega
  simp only [Zje, Zqy, List.getElem_toArray, Xkd, Xlt];by_cases e : c * 2 + b2n x = j
  · subst e;have h1 : (c * 2 + b2n x) / 2 = c := by omega
    have G : decide ((c * 2 + b2n x) % 2 = 1) = x := by unfold b2n; cases x <;> simp <;> omega
    rw [if_pos rfl, h1, G, if_pos ⟨rfl, rfl⟩]
  rw [if_neg e, if_neg];rintro ⟨H, I⟩;apply e;unfold b2n
  cases x with
  | false => have : ¬ j % 2 = 1 := by simpa using H
             simp; omega
  | true => have : j % 2 = 1 := by simpa using H
            simp; omega
structure Fam(lo:Nat)(h:Zk)(n:Nat)(Q:Bool->Nat->Sl)(D:Bool->Nat->Zb):Prop where
 own:∀x v,v<n->Yh h 1 (Q x v) (Zu (D x v))
 fr:∀x v,v<n->(Q x v).nl=false->lo<=(Q x v).b
 dj:∀x u y v,u<n->v<n->(x≠y\/u≠v)->(Q x u).nl=false->(Q y v).nl=false->(Q x u).b≠(Q y v).b
def Fam.none{lo n:Nat}:Fam lo h n (fun _ _=>Sl.nil) (fun _ _=>[]):=⟨fun _ _ _=>Yh.nil,fun _ _ _ G=>(by cases G),fun _ _ _ _ _ _ _ G=>(by cases G)⟩
def Fam.cD{S:Zf}{lo n:Nat}{Q:Bool->Nat->Sl}{D:Bool->Nat->Zb}(q:Fam lo h n Q D)(m:Mod S h h')(G:∀x v,v<n->(Q x v).nl=false->¬S (Q x v).b):Fam lo h' n Q D :=
 ⟨fun x v hv=>(q.own x v hv).cD m (G x v hv),q.fr,q.dj⟩
def Fam.cC{lo n:Nat}{Q:Bool->Nat->Sl}{D:Bool->Nat->Zb}(q:Fam lo h n Q D)(m:Ext h h'):Fam lo h' n Q D:=q.cD m fun _ _ _ _ h=>h
def Fam.step{lo n t:Nat}{Q:Bool->Nat->Sl}{D:Bool->Nat->Zb}{x:Bool}{O:Sl}{a:Int}(q:Fam lo h n Q D)(ht:t<n)(U:lo<=h.size)(o:Yh h' 1 O (Zu (D x t)++[.int .i64 a]))(m:Mod (fun j=>(Q x t).nl=false/\j=(Q x t).b) h h')
  (R:(O.b=(Q x t).b/\O.nl=(Q x t).nl)\/(h.size<=O.b/\O.nl=false)):Fam lo h' n (Zqy Q x t O) (Zpy D x t a):=by
 unfold Zqy Zpy;refine⟨fun y v hv=>?_,fun y v hv H=>?_,fun y u z v hu hv G h1 J=>?_⟩
 ·by_cases c:y=x/\v=t
  ·obtain⟨rfl,rfl⟩:=c;simp only[and_self,if_true];simpa[Zu] using o
  simp only[if_neg c];have hc:y≠x\/v≠t:=by
   rcases Decidable.em (y=x) with e|e
   ·exact .inr fun e2=>c ⟨e,e2⟩
   exact .inl e
  exact (q.own y v hv).cD m fun H hb=>q.dj y v x t hv ht hc H hb.1 hb.2
 ·by_cases c:y=x/\v=t
  ·simp only[if_pos c] at H ⊢;rcases R with⟨I,e2⟩|⟨I,_⟩
   ·rw[I];exact q.fr x t ht (by rw[<-e2];exact H)
   omega
  simp only[if_neg c] at H ⊢;exact q.fr y v hv H
 have lt:∀y v,v<n->(Q y v).nl=false->(Q y v).b<h.size:=fun y v hv H=>(q.own y v hv).lt H;by_cases c:y=x/\u=t
 ·by_cases d:z=x/\v=t
  ·obtain⟨rfl,rfl⟩:=c;obtain⟨rfl,rfl⟩:=d;rcases G with e|e<;>exact absurd rfl e
  simp only[if_pos c] at h1 ⊢;simp only[if_neg d] at J ⊢;obtain⟨rfl,rfl⟩:=c;rcases R with⟨I,e2⟩|⟨I,_⟩
  ·rw[I];exact q.dj y u z v hu hv G (by rw[<-e2];exact h1) J
  have:=lt z v hv J;omega
 by_cases d:z=x/\v=t
 ·simp only[if_neg c] at h1 ⊢;simp only[if_pos d] at J ⊢;obtain⟨rfl,rfl⟩:=d;rcases R with⟨I,e2⟩|⟨I,_⟩
  ·rw[I];exact q.dj y u z v hu hv G h1 (by rw[<-e2];exact J)
  have:=lt y u hu h1;omega
 simp only[if_neg c] at h1 ⊢;simp only[if_neg d] at J ⊢;exact q.dj y u z v hu hv G h1 J
structure Cel(lo U:Nat)(h:Zk)(n:Nat)(Q:Bool->Nat->Sl)(D:Bool->Nat->Zb):Prop where
 cM:Yo h U (Zje n Q)
 fam:Fam lo h n Q D
 ult:U<lo
def Cel.app{K:Ze}{lo U n c:Nat}{Q:Bool->Nat->Sl}{D:Bool->Nat->Zb}{x:Bool}{a:Int}(q:Cel lo U h n Q D)(hc:c<n)(J:lo<=h.size)(X:(D x c).length<=1000000){z:Zj}{b:Nat}(V:Yo h b #[.int .i64 a])
  (hk:∀(H:Sl)(h':Zk),Mod (fun j=>j=U\/lo<=j) h h'->Yo h' U (Zje n Q)->(∀G,Yo G U ((Zje n Q).setIfInBounds (c * 2+b2n x) H.v)->Mod (fun j=>j=U) h' G->Cel lo U G n (Zqy Q x c H) (Zpy D x c a))->K H.v h') :
  Ef.wp h K (.append 1 8 #[z]) [(Q x c).v,.slice (some ⟨b,0,none⟩) 1 1]:=by
 have o:=q.fam.own x c hc;have I:=o.1;simp at I;refine Wa (bytes:=8) rfl o V ?_;intro H h1 o1 aa O R;have fr:(Q x c).nl=false->lo<=(Q x c).b:=fun I=>q.fam.fr x c hc I;have B1:=O.cM q.cM (fun hq=>by have:=fr hq.1;have:=q.ult;omega);refine hk H h1 (O.mono (fun j hj hq=>by have:=fr hq.1;omega)) B1 ?_;intro h2 B2 m2;have f1:=q.fam.step hc J o1 O R;rw[Z8i hc] at B2;refine⟨B2,f1.cD m2 (fun y v hv I=>?_),q.ult⟩;have:=f1.fr y v hv I;have:=q.ult;omega
structure Zfl(h:Zk)(u:Sl)(n:Nat)(D:Bool->Nat->Zb):Prop where
 ok:u.ok
 len:u.n=n
 val:∀x c,c<n->∃s:Sl,hc h u.b (u.o+c * 2+b2n x)=some s.v/\Zw h s (D x c)
def Zfl.cC{u:Sl}{n:Nat}{D:Bool->Nat->Zb}(c:Zfl h u n D)(e:Ext h h'):Zfl h' u n D :=
 ⟨c.ok,c.len,fun x k G=>by
  obtain⟨s,a,b⟩:=c.val x k G;exact⟨s,e.hc a (fun h=>h),b.cC e⟩⟩
def Cel.cells{lo U n:Nat}{Q:Bool->Nat->Sl}{D:Bool->Nat->Zb}(q:Cel lo U h n Q D):Zfl h (Sl.at U n n) n D :=
 ⟨⟨fun h=>(by cases h),Xi4 _,.inl rfl⟩,rfl,fun x c hc=>⟨Q x c,by rw[Sl.at_b,Sl.at_o,Xjs,q.cM.hc];exact Zkw hc,(q.fam.own x c hc).cE⟩⟩
def Zcs(N:Zs)(row:Zb)(l:Zb)(b:Bool)(c:Nat):Zb:=l.filter fun a=>decide (Zm row (if b then (Zq N.as a.toNat).a.toNat else (Zq N.as a.toNat).b.toNat)=(c:Int))
def Zv(N:Zs)(L:Za)(i:Nat):Bool->Nat->Zb:=Zcs N (Yc L i) (Qv N L ((i:Int)+1))
def Yv(L:Za)(i:Nat):Nat:=(Wp (Yc L i)).toNat
structure Zi7(h:Zk)(s:Sl)(N:Zs)(L:Za):Prop where
 ok:s.ok
 len:L.length=s.n
 val:∀i,i<L.length->∃u:Sl,hc h s.b (s.o+i)=some u.v/\Zfl h u (Yv L i) (Zv N L i)
def Zi7.cC{s:Sl}{N:Zs}{L:Za}(g:Zi7 h s N L)(e:Ext h h'):Zi7 h' s N L :=
 ⟨g.ok,g.len,fun i G=>by
  obtain⟨u,a,b⟩:=g.val i G;exact⟨u,e.hc a (fun h=>h),b.cC e⟩⟩
def Zvl{N:Zs}{row l:Zb}{i x y:Nat}{a:Int}(G:i<l.length)(H:Zm l i=a)(hx:Zm row (Zq N.as a.toNat).a.toNat=x)(hy:Zm row (Zq N.as a.toNat).b.toNat=y):
  Zcs N row (l.take (i+1))=Zpy (Zpy (Zcs N row (l.take i)) false y a) true x a:=by
 funext b c
 have I:l.take (i+1)=l.take i++[a]:=by rw[Xjc G,<-H];simp[Zm,G]
 unfold Zcs Zpy;rw[I,Xmd]
 cases b with
 |false =>
  simp only[Xjh,false_and,if_false,true_and];by_cases e:c=y
  ·subst e;simp[hy]
  have:¬(y:Int)=(c:Int):=by omega
  simp[hy,e,this]
 |true =>
  simp only[if_true,true_and];by_cases e:c=x
  ·subst e;simp[hx]
  have:¬(x:Int)=(c:Int):=by omega
  simp[hx,e,this]
def Z6k{v:Zj}{m:Nat}:Xv #[v,v] m=Array.replicate m v:=by
 apply Xkp
 ·simp[Xv]
 intro i h1 G;have:i % 2=0\/i % 2=1:=by omega
 rcases this with e|e<;>simp[Xv,e]
def Z2u{n:Nat}:Array.replicate (n * 2) (Value.slice none 0 0)=Zje n (fun _ _=>Sl.nil):=by
 apply Xkp
 ·simp
 intro i h1 G;simp[Zje,Sl.nil_v]
def Z08{K:Ze}{n:Nat}{m:Int}(I:n<=1000000)(G:m=n)(H:∀(b:Nat)(h':Zk),h.size<=b->Yo h' b (Zje n (fun _ _=>Sl.nil))->Ext h h'->K (.slice (some ⟨b,0,none⟩) n n) h'):
  Ef.wp h K (.mkslice 2 48 #[.slice none 0 0,.slice none 0 0]) [.int .i64 m,.int .i64 m]:=by
 subst G;rw[Va];refine⟨by omega,by omega,by omega,by omega,fun t=>?_⟩;simp only[Xi8,Z6k,Z2u];exact H h.size _ (Xi4 _) Yo.new Mod.push
def Z24{K:Ze}{n:Nat}{m:Int}(I:n<=1000000)(G:m=n)(H:∀(b:Nat)(h':Zk),h.size<=b->Yh h' 1 (Sl.at b n n) (List.replicate n (.slice none 0 0))->Ext h h'->b<h'.size->K (.slice (some ⟨b,0,none⟩) n n) h'):
  Ef.wp h K (.mkslice 1 24 #[.slice none 0 0]) [.int .i64 m,.int .i64 m]:=by
 subst G;rw[Va];refine⟨by omega,by omega,by omega,by omega,fun t=>?_⟩;simp only[Xi8,Xjd,Vm];refine H h.size _ (Xi4 _) ⟨by simp,.inr ⟨rfl,rfl,rfl,Xi4 _,by simp;omega,_,Yo.new,by simp,by simp⟩⟩ Mod.push (by simp)
def Xhv{K:Ze}{b n m k:Nat}{cells:Zc}{v:Zj}(o:Yh h 1 (Sl.at b n m) cells)(H:k<cells.length)
  (I:∀h',Yh h' 1 (Sl.at b n m) (cells.set k v)->Mod (fun j=>j=b) h h'->K undef h'):Xo h b k v K:=by
 rw[Xo.open];obtain⟨J,hb,G,_⟩:=o.cM H;have o1:=o.set (v:=v) H;simp at o1 G hb;refine⟨by rw[hb.hc];simp[G],hb.hfz,I _ o1 (Mod.set rfl)⟩
def Zgf(lo ob:Nat)(h:Zk)(u:Sl)(n:Nat)(D:Bool->Nat->Zb):Prop:=∀h',Mod (fun j=>j=ob\/j<lo) h h'->Zfl h' u n D
def Zgf.step{lo ob n:Nat}{u:Sl}{D:Bool->Nat->Zb}(k:Zgf lo ob h u n D)(m:Mod (fun j=>j=ob) h h'):Zgf lo ob h' u n D:=fun G m'=>k G ((m.mono fun _ _ h=>.inl h).trans m')
def Zgf.cC{lo ob n:Nat}{u:Sl}{D:Bool->Nat->Zb}(k:Zgf lo ob h u n D)(m:Ext h h'):Zgf lo ob h' u n D:=k.step (m.mono (fun _ _ h=>h.elim))
def Cel.kept{G lo U n ob:Nat}{Q:Bool->Nat->Sl}{D:Bool->Nat->Zb}(q:Cel lo U h n Q D)(h1:ob≠U)(I:ob<lo)(J:G<=lo)(h4:G<=U):Zgf G ob h (Sl.at U n n) n D:=by
 intro h' m;refine Cel.cells (lo:=lo) (Q:=Q) ⟨m.cM q.cM (fun e=>by omega),q.fam.cD m (fun x v hv H e=>?_),q.ult⟩;have:=q.fam.fr x v hv H;omega
structure Z7j(Y:Sys):Prop where
 R:Zwp Y
 P:Zql Y
 Of:Y.cL 174 Y174
def Xq{N:Zs}{L:Za}(G:Yq N.vs.length L){i:Nat}(I:i<L.length:=by omega):(Yc L i).length=N.vs.length/\(Wp (Yc L i)=(Yv L i:Nat))/\Yv L i<=4096/\∀v,v<N.vs.length->∃c:Nat,Zm (Yc L i) v=c/\c<Yv L i:=by
 obtain⟨J,H,U,X⟩:=Qp (G.lv i I);have bn:=G.bn;obtain⟨m1,m2,O⟩:=Zc8 (l:=Yc L i) (n:=(N.vs.length:Int)) (by omega) (fun j hj=>by have:=(H j (by omega)).2;omega);have R:Wp (Yc L i)=(Yv L i:Nat):=by unfold Yv;omega
 refine⟨J,R,by omega,fun v hv=>?_⟩;have:=H v hv;have:=O v (by omega);exact⟨(Zm (Yc L i) v).toNat,by omega,by omega⟩
def Znx{N:Zs}{row l:Zb}{b:Bool}{c:Nat}:(Zcs N row l b c).length<=l.length:=Xki ..
def Zk5{N:Zs}{L:Za}{l:Int}:(Qv N L l).length<=N.as.length:=by unfold Qv;rw[Zde];exact Xki ..
def Z1b{N:Zs}{L:Za}{l:Int}{j:Nat}(G:j<(Qv N L l).length):∃a:Nat,Zm (Qv N L l) j=a/\a<N.as.length:=by
 have H:Zm (Qv N L l) j∈Qv N L l:=by rw[show Zm (Qv N L l) j=(Qv N L l)[j] by simp[Zm,G]];exact Xi7 G
 have hv:=(Zg7.1 H).1;simp[Yi] at hv;exact⟨(Zm (Qv N L l) j).toNat,by omega,by omega⟩
def Xdt{L:Za}{i:Nat}(G:i<L.length):lvl L ((i:Int)+1)=Yc L i:=by
 have:Zgz L ((i:Int)+1)=true:=by simp[Zgz];omega
 simp[lvl,this]
def GoI(p B ob:Nat)(s:Sl)(N:Zs)(L:Za)(h0:Zk)(e:Zc)(h':Zk):Prop :=
 ∃(i:Nat)(vals:Zc)(l m o q r t w a b c d f g h:Zj),e=[Zh p,l,Zh B,m,.slice (some ⟨ob,0,none⟩) s.n s.n,o,q,r,t,w,a,b,s.v,Zg s.n,Zg i,c,d,f,g,h]/\i<=s.n/\Yh h' 1 (Sl.at ob s.n s.n) vals/\vals.length=s.n/\(∀k,k<i->∃u:Sl,vals[k]? = some u.v/\Zgf h0.size ob h' u (Yv L k) (Zv N L k))/\Mod (fun j=>j=ob) h0 h'
def GoJ(p B ob U n k:Nat)(s w t:Sl)(N:Zs)(row x:Zb)(h0:Zk)(e:Zc)(h':Zk):Prop :=
 ∃(i:Nat)(Q:Bool->Nat->Sl)(f g h l a b c d:Zj),e=[Zh p,f,Zh B,g,.slice (some ⟨ob,0,none⟩) s.n s.n,Zg k,w.v,.slice (some ⟨U,0,none⟩) n n,h,l,a,b,s.v,Zg s.n,Zg k,c,t.v,Zg t.n,Zg i,d]/\i<=t.n/\Cel h0.size U h' n Q (Zcs N row (x.take i))/\Mod (fun j=>j=U) h0 h'
def Zqf(G:Z7j Y){p:Nat}{N:Zs}{S:Zf}{L:Za}{s:Sl}(g:Xi h p N S)(r:Wm h s L)(ok:Yl N)(pk:Yq N.vs.length L){R:Ze}
  (hr:∀h' t,Ext h h'->(∀g,Mod (fun j=>j<h.size) h' g->Zi7 g t N L)->R t.v h'):Zt Y 174 [Zh p,W7 s] h R:=by
 refine .o G.Of ?_;have lL:=r.len;have bL:=pk.bL;have cc:=Zfv.of ok pk;have bA:=ok.ba;simp[Y174,Yw.wp,W7];refine Zo ?_;intro B h1 g1 B1 e1;simp[Yf B1];refine Zjm G.R.G.Verts (g.cC e1) ?_;simp[Yf B1];refine Zjw G.P (r.cC e1) pk ?_;intro h2 e2;have B2:=B1.cC e2;simp[B2.hc];refine Z24 (n:=s.n) (by omega) rfl ?_;intro ob h3 g3 o3 e3 l3;have x3:=(e1.trans e2).trans e3;have z2:=e2.size;have B3:=B2.cC e3;have lB:=B1.lt;simp[B3.hc];refine Zp (GoI p B ob s N L h3) (fun e _=>s.n-Zx e 14) ⟨0,List.replicate s.n (Zi),_,_,_,_,_,_,_,_,_,_,_,_,_,_,rfl,by omega,o3,by simp,fun k hk=>by omega,Mod.refl _⟩ ?_;rintro e h4 ⟨i,ab,f,m,z,A,C,q,w,ay,az,aA,aU,aV,aW,aB,rfl,hi,o4,aC,ak,m4⟩;have x4:Ext h h4:=Mod.cC x3 m4 (fun j O=>by omega);have B4:=m4.cM B3 (by omega);have z4:=m4.size;by_cases c:i<s.n;rotate_left
 ·have c':¬(i:Int)<s.n:=by omega
  simp[c'];have:R (Sl.at ob s.n s.n).v h4:=by
   refine hr h4 (Sl.at ob s.n s.n) x4 (fun g mg=>⟨o4.ok,lL,fun k hk=>?_⟩);obtain⟨u,hu,hc⟩:=ak k (by omega);refine⟨u,?_,hc g (mg.mono fun j _ O=>.inr (by omega))⟩;have:=(o4.cD mg (fun _ hb=>by simp at hb;omega)).cell hu;simpa using this
  simpa using this
 have c':(i:Int)<s.n:=by omega
 have al:i<L.length:=by omega
 have w1:=wrapS (i:=i);obtain⟨u,hu,ru⟩:=r.at (i:=i) c;obtain⟨rl,rm,rb,rv⟩:=Xq pk al;have lu:=ru.len;simp[c',Zl r.ok,hu,x4,Yf B4,w1];refine Ztc G.R.P (r.cC x4) (by omega) (fun j O=>?_) (by omega) ?_
 ·obtain⟨y1,y2,_,_⟩:=Qp (pk.lv j O);have:=pk.bn;exact⟨by omega,fun v hv=>by have:=y2 v (by omega);omega⟩
 intro h5 e5;have B5:=B4.cC e5;rw[Xdt al,rm];generalize hn:Yv L i=n at *
 simp;refine Z08 (n:=n) (by omega) rfl ?_;intro U h6 g6 U6 e6;have x6:=(x4.trans e5).trans e6;have B6:=B5.cC e6;simp[Yf B6,w1];refine Zno G.R (g.cC x6) (r.cC x6) cc (by omega) ?_;intro h7 t e7 o7 aD;have x7:=x6.trans e7;have lU:=U6.lt;have z5:=e5.size;have z7:=e7.size;have tn:=o7.1;simp at tn;have aE:=Zk5 (N:=N) (L:=L) (l:=(i:Int)+1);obtain⟨x,hx⟩:∃x,x=Qv N L ((i:Int)+1):=⟨_,rfl⟩
 obtain⟨row,ac⟩:∃row,row=Yc L i:=⟨_,rfl⟩
 have aF:Zv N L i=Zcs N row x:=by unfold Zv;rw[<-hx,<-ac]
 have am:∀j,j<x.length->∃a:Nat,Zm x j=a/\a<N.as.length:=fun j O=>by rw[hx] at O ⊢;exact Z1b O
 rw[<-hx] at o7 tn aE;rw[<-ac] at ru rl rm rv lu;have tb:t.nl=false->h6.size<=t.b:=fun hn=>aD.resolve_left (by rw[hn];simp);simp;refine Zp (GoJ p B ob U n i s u t N row x h7) (fun e _=>t.n-Zx e 18) ⟨0,fun _ _=>Sl.nil,_,_,_,_,_,_,_,_,rfl,by omega,⟨U6.cC e7,Fam.none,by omega⟩,Mod.refl _⟩ ?_;rintro e h8 ⟨j,Q,f,m,q,w,ay,az,aA,aB,rfl,O,q8,m8⟩;have z8:=m8.size;have x8:Ext h h8:=Mod.cC x7 m8 (fun j O=>by omega);by_cases d:j<t.n;rotate_left
 ·have d':¬(j:Int)<t.n:=by omega
  rw[Xji (by omega)] at q8;have ad:Ext h4 h8:=Mod.cC ((e5.trans e6).trans e7) m8 (fun j O=>by omega);have o8:=o4.cF ad;have ix:=Zl (Y:=Y) (h:=h8) (s:=Sl.at ob s.n s.n) (sz:=1) (k:=.i64) (i:=(i:Int)) o4.ok (by omega) (by simp;omega);simp at ix;simp[d',ix];have kq:Zgf h3.size ob h8 (Sl.at U n n) n (Zcs N row x):=q8.kept (by omega) (by omega) (by omega) (by omega);refine Xhv o8 (k:=i) (v:=(Sl.at U n n).v) (by omega) ?_;intro h9 o9 m9;have aG:∀k,k<i+1->∃u:Sl,(ab.set i (Sl.at U n n).v)[k]? = some u.v/\Zgf h3.size ob h9 u (Yv L k) (Zv N L k):=by
   intro k hk;rcases Xi6 k i with g|g
   ·obtain⟨u,hu,hc⟩:=ak k g;exact⟨u,by rw[Xlb (by omega)];exact hu,(hc.cC ad).step m9⟩
   obtain rfl:k=i:=by omega
   refine⟨Sl.at U n n,by rw[List.getElem?_set_self (by omega)],?_⟩;rw[hn,aF];exact kq.step m9
  simp[w1];refine nx ⟨i+1,ab.set i (Sl.at U n n).v,_,_,_,_,_,_,_,_,_,_,_,_,_,_,rfl,by omega,o9,by simpa using aC,aG,m4.trans ((ad.mono (fun _ _ h=>h.elim)).trans m9)⟩
 have d':(j:Int)<t.n:=by omega
 have w2:=wrapS (i:=j);obtain⟨a,ha,aH⟩:=am j (by omega);obtain⟨xv,yv,an,ao,aI,aJ⟩:=cc.arc aH;obtain⟨cx,ap,H⟩:=rv xv aI;obtain⟨I,ae,J⟩:=rv yv aJ;have aq:Yi N.as.length (a:Int)=true:=by simp[Yi];omega
 have f1:Ze3 N (a:Int)=xv:=by simp[Ze3,aq,an]
 have f2:toV N (a:Int)=yv:=by simp[toV,aq,ao]
 have aK:=(o7.cD m8 (fun hn=>by have:=tb hn;omega)).cE;have af:=ru.cC x8;have xu:xv<u.n:=by omega
 have yu:yv<u.n:=by omega
 have ag:=fun g (k:Nat) (hk:k<n)=>Zl (Y:=Y) (h:=g) (s:=Sl.at U n n) (sz:=2) (k:=.i64) (i:=(k:Int)) ⟨fun h=>(by cases h),Xi4 _,.inl rfl⟩ (by omega) (by simp;omega);simp at ag;have l0:hc h8 U (I * 2)=some (Q false I).v:=by rw[q8.cM.hc];exact Zkw (x:=false) J
 simp[d',Zl o7.ok,aK.at d,ha];refine U0 G.R.G.To G.R.G.arc (g.cC x8) ?_;rw[f2];simp[Zl ru.ok,yu,af.at yu,ae,ag _ I J];refine Zcg G.R.G.From G.R.G.arc (g.cC x8) ?_;rw[f1];simp[Zl ru.ok,xu,af.at xu,af.at yu,ap,ae,ag _ cx H,l0];refine Xg ?_;intro b9 h9 g9 V9 e9;have q9:Cel h7.size U h9 n Q (Zcs N row (x.take j)):=⟨q8.cM.cC e9,q8.fam.cC e9,q8.ult⟩
 have z9:=e9.size;simp;refine q9.app (x:=false) J (by omega) (by have:=Znx (N:=N) (row:=row) (l:=x.take j) (b:=false) (c:=I);have:(x.take j).length<=j:=(by simp;omega);omega) V9 ?_;intro ah aX ar B10 aL;simp;refine stB (o:=I * 2) B10 (by rw[Zi4];omega) ?_;intro ai B11 aj;have X:=aL ai B11 aj;have aY:=ar.size;have aZ:=aj.size;have au:Mod (fun j=>j=U\/h7.size<=j) h8 ai:=((e9.mono (fun _ _ h=>h.elim)).trans ar).trans (aj.mono (fun _ _ h=>.inl h));have l1:hc ai U (cx * 2+1)=some (Zqy Q false I ah true cx).v:=by rw[X.cM.hc];exact Zkw (x:=true) H
 have aM:Zpy (Zcs N row (x.take j)) false I a true cx=Zcs N row (x.take j) true cx:=by simp[Zpy]
 simp[l1];refine Xg ?_;intro a0 aN a1 V12 aa;have aO:Cel h7.size U aN n (Zqy Q false I ah) (Zpy (Zcs N row (x.take j)) false I a):=⟨X.cM.cC aa,X.fam.cC aa,X.ult⟩
 have a2:=aa.size;simp;refine aO.app (x:=true) H (by omega) (by rw[aM];have:=Znx (N:=N) (row:=row) (l:=x.take j) (b:=true) (c:=cx);have:(x.take j).length<=j:=(by simp;omega);omega) V12 ?_;intro aP a3 aQ B13 aR;simp;refine stB (o:=cx * 2+1) B13 (by rw[Zi4];omega) ?_;intro av B14 aw;have aS:=aR av B14 aw;have ax:Mod (fun j=>j=U) h7 av:=Mod.then m8 (((au.trans (aa.mono (fun _ _ h=>h.elim))).trans aQ).trans (aw.mono (fun _ _ h=>.inl h))) (fun k hk hq=>by omega);have aT:=Zvl (N:=N) (row:=row) (l:=x) (i:=j) (x:=cx) (y:=I) (a:=(a:Int)) (by omega) ha (by simp[an,ap]) (by simp[ao,ae]);simp[w2];refine nx ⟨j+1,Zqy (Zqy Q false I ah) true cx aP,_,_,_,_,_,_,_,_,rfl,by omega,by rw[aT];exact aS,ax⟩
end
end Go.Rm

namespace Go.Rm
def Zot{a:Int}:∀{l:Zb}{k i:Nat},i<l.length->Zm l i=a->(∀j,j<i->Zm l j≠a)->Yk k l a=((k+i:Nat):Int):=by
 intro l
 induction l with
 |nil=>intro k i G;simp at G
 |cons x r J =>
  intro k i G H I;simp only[Yk]
  cases i with
  |zero =>
   have:x=a:=by simpa[Zm] using H
   rw[if_pos this];simp
  |succ i =>
   have h0:¬x=a:=by simpa[Zm] using I 0 (by omega)
   rw[if_neg h0,J (i:=i) (by simpa using G) (by simpa[Zm] using H) (fun j O=>by have:=I (j+1) (by omega);simpa[Zm] using this)]
   congr 1;omega
def Zcb(l:Zb):Prop:=∀i j,i<j->j<l.length->Zm l i<Zm l j
def Zzc{l:Zb}{a:Int}(h:a∈l):∃i,i<l.length/\Zm l i=a:=by
 obtain⟨i,G,rfl⟩:=Xju h;exact⟨i,G,by simp[Zm,G]⟩
def Zgm{a:Int}{l:Zb}{k:Nat}(h:∀i,i<l.length->Zm l i≠a):Yk k l a = -1 :=
 Zjo fun x hx e=>by
  obtain⟨i,G,q⟩:=Zzc hx;exact h i G (q.trans e)
section
variable{Y:Sys}{h h':Zk}
structure Zou(Y:Sys):Prop where
 S:Zlx Y
 Bin:Y.cL 197 Y197
 NaN2:Y.cL 214 Y214
 Place:Y.cL 181 Y181
def Zr4(S:Zou Y){a:Int}{R:Ze}(G:R (.bool false) h):Zt Y 214 [Zg a] h R:=by
 refine .o S.NaN2 ?_;simp[Y214,Yw.wp];exact G
def BsI(s:Sl)(a:Int)(l:Zb)(h0:Zk)(e:Zc)(h':Zk):Prop :=
 ∃(i:Nat)(j:Nat)(v2 v3 v7 v8 v9:Zj),e=[s.v,Zg a,v2,v3,Zg s.n,Zg i,Zg j,v7,v8,v9]/\i<=j/\j<=s.n/\(∀k,k<i->Zm l k<a)/\(∀k,j<=k->k<s.n->a<=Zm l k)/\h'=h0
def Zbr(S:Zou Y){s:Sl}{l:Zb}(r:Zw h s l)(ac:s.n<=1000000)(hs:Zcb l){a:Int}{R:Ze}(I:R (Zg (Yk 0 l a)) h):Zt Y 181 [s.v,Zg a] h R:=by
 refine .o S.Place ?_;have hl:=r.len;simp[Y181,Yw.wp];refine .o S.Bin ?_;simp[Y197,Yw.wp];refine Zp (BsI s a l h) (fun e _=>Zx e 6-Zx e 5) ⟨0,s.n,_,_,_,_,_,rfl,by omega,by omega,fun k J=>by omega,fun k h1 h2=>by omega,rfl⟩ ?_;rintro e h1 ⟨i,j,v2,v3,v7,v8,v9,rfl,ad,hj,G,O,hh⟩;subst hh;by_cases c:i<j
 ·have c':(i:Int)<j:=by omega
  obtain⟨m,hm⟩:∃m,m=(i+j) / 2:=⟨_,rfl⟩
  have w1:IntKind.i64.wrap ((i:Int)+j)=((i+j:Nat):Int):=by rw[Zn];omega
  have w2:IntKind.u64.wrap ((i+j:Nat):Int)=((i+j:Nat):Int):=Zhz;have ab:IntKind.u64.wrap ((i:Int)+j)=((i+j:Nat):Int):=by rw[Zhz];omega
  have sh:=Zp0 (u:=i+j) (j:=.i64);have H:=Zp0 (u:=i+j) (j:=.u64);rw[<-hm] at sh H;have w3:IntKind.i64.wrap (m:Int)=(m:Int):=Zn;have w4:=wrapS (i:=m);have U:m<s.n:=by omega
  obtain⟨t,ht⟩:∃t,t=i+j:=⟨_,rfl⟩
  rw[<-ht] at w1 w2 ab sh H;simp[c',w1,w2,H,w3,Zl r.ok,U,r.at U];refine Zof S.S ?_;by_cases d:Zm l m<a
  ·simp[d,w4];have X:∀k,k<m+1->Zm l k<a:=by
    intro k J;rcases Xi6 k m with g|g
    ·have:=hs k m g (by omega);omega
    obtain rfl:k=m:=by omega
    exact d
   exact nx ⟨m+1,j,_,_,_,_,_,rfl,by omega,hj,X,O,rfl⟩
  simp[d];have aa:∀k,m<=k->k<s.n->a<=Zm l k:=by
   intro k h1 h2;rcases Xi6 m k with g|g
   ·have:=hs m k g (by omega);omega
   obtain rfl:k=m:=by omega
   omega
  exact nx ⟨i,m,_,_,_,_,_,rfl,by omega,by omega,G,aa,rfl⟩
 have c':¬(i:Int)<j:=by omega
 by_cases d:i<s.n;rotate_left
 ·have d':¬(i:Int)<s.n:=by omega
  have hp:Yk 0 l a = -1:=Zgm (fun k J=>by have:=G k (by omega);omega);rw[hp] at I;simp[c',d'];exact I
 have d':(i:Int)<s.n:=by omega
 by_cases q:Zm l i=a
 ·have hp:Yk 0 l a=(i:Int):=by rw[Zot (i:=i) (by omega) q (fun k J=>by have:=G k J;omega)];simp
  rw[hp] at I;simp[c',d',Zl r.ok,r.at d,q];exact I
 have hp:Yk 0 l a = -1:=by
  refine Zgm (fun k J e=>?_);rcases Xi6 k i with g|g
  ·have:=G k g;omega
  have h1:=O i (by omega) d;rcases Xi6 i k with g2|g2
  ·have:=hs i k g2 J;omega
  obtain rfl:k=i:=by omega
  exact q e
 rw[hp] at I;simp[c',d',Zl r.ok,r.at d,q];refine Zr4 S ?_;simp;exact I
end
end Go.Rm
