import Derived.Test.YtmpamfkkaakbfaaGreatDoorT20
import Derived.Test.YtmpamfkkaakbfaaGreatDoorT21
/- Parts RGate5 RGate6 RGate7 RGate8 RGate9 RGate10 RGate11 -/
set_option linter.unusedSimpArgs false
set_option linter.unusedVariables false
namespace Go.Rm
theorem Zh7 {a:Int}:∀ {l:List Int} {k:Nat},(∀ x∈l,x≠a)->Yc k l a = -1:=by
 intro l
 induction l with
 | nil=>intro k _; rfl
 | cons x r D =>
  intro k h
  simp only [Yc]
  rw [if_neg (h x (by simp)),D (fun y hy=>h y (by simp [hy]))]
section
variable {Y:Sys} {h h':Za}
structure Zke (Y:Sys):Prop where
 Index:Y.Has 222 Y222
 Contains:Y.Has 218 Y218
 Sorted:Y.Has 219 Y219
 Less:Y.Has 213 Y213
 NaN:Y.Has 221 Y221
theorem Zsu (S:Zke Y) {a:Int} {R:Value->Za->Prop} (r:R (.bool false) h):Zm Y 221 [.int .i64 a] h R:=by
 refine .of_has S.NaN rfl ?_
 simp [Y221,Xa.wp]
 exact r
theorem Zml (S:Zke Y) {a b:Int} {R:Value->Za->Prop} (r:R (.bool (decide (a<b))) h):Zm Y 213 [.int .i64 a,.int .i64 b] h R:=by
 refine .of_has S.Less rfl ?_
 simp [Y213,Xa.wp]
 refine Zsu S ?_
 simp
 exact r
def IxI (s:Sl) (a:Int) (l:List Int) (h0:Za) (e:List Value) (h':Za):Prop :=
 ∃ (i:Nat) (v2 v3 v6 v7:Value),e=[s.v,.int .i64 a,v2,v3,.int .i64 s.n,.int .i64 i,v6,v7]/\i<=s.n/\Yc 0 l a=Yc i (l.drop i) a/\h'=h0
theorem Zu3 (S:Zke Y) {s:Sl} {l:List Int} (r:Zz h s l) (G:s.n<=1000000) {a:Int} {R:Value->Za->Prop} (D:R (.int .i64 (Yc 0 l a)) h):Zm Y 222 [s.v,.int .i64 a] h R:=by
 refine .of_has S.Index rfl ?_
 have M:=r.len
 simp [Y222,Xa.wp]
 refine Zj (IxI s a l h) (fun e _=>s.n-Zo e 5) ⟨0,_,_,_,_,rfl,by omega,by simp,rfl⟩ ?_
 rintro e h1 ⟨i,O,U,V,X,rfl,Z,hp,H⟩
 subst H
 by_cases c:i<s.n
 ·have c':(i:Int)<s.n:=by omega
  have I:IntKind.i64.wrap ((i:Int)+1)=(i:Int)+1:=Ze (by omega)
  rw [Zhy (by omega)] at hp
  by_cases d:Zc l i=a
  ·rw [if_pos d] at hp
   rw [hp] at D
   simp [c',Zb r.ok,c,r.at c,d]
   exact D
  ·rw [if_neg d] at hp
   have J:(a=Zc l i)=False:=by simp; omega
   simp [c',Zb r.ok,c,r.at c,J,I]
   refine ⟨⟨i+1,_,_,_,_,rfl,by omega,hp,rfl⟩,by simp [Zo]; omega⟩
 ·have c':¬ (i:Int)<s.n:=by omega
  rw [Xe0 (by omega)] at hp
  simp only [Yc] at hp
  rw [hp] at D
  simp [c']
  exact D
theorem Zla (S:Zke Y) {s:Sl} {l:List Int} (r:Zz h s l) (D:s.n<=1000000) {a:Int} {R:Value->Za->Prop} (G:R (.bool (decide (0<=Yc 0 l a))) h):Zm Y 218 [s.v,.int .i64 a] h R:=by
 refine .of_has S.Contains rfl ?_
 simp [Y218,Xa.wp]
 refine Zu3 S r D ?_
 simp
 exact G
def SoI (s:Sl) (h0:Za) (e:List Value) (h':Za):Prop :=
 ∃ (i:Nat) (j:Int) (v1 v3 v4:Value),e=[s.v,v1,.int .i64 j,v3,v4]/\i<=s.n/\j=(s.n:Int)-1-i/\h'=h0
theorem Zq9 (S:Zke Y) {s:Sl} {l:List Int} (r:Zz h s l) (D:s.n<=1000000) (hs:∀ i,i+1<l.length->Zc l i<=Zc l (i+1)) {R:Value->Za->Prop} (O:R (.bool true) h):Zm Y 219 [s.v] h R:=by
 refine .of_has S.Sorted rfl ?_
 have hl:=r.len
 have w0:IntKind.i64.wrap ((s.n:Int)-1)=(s.n:Int)-1:=Ze (by omega)
 simp [Y219,Xa.wp,w0]
 refine Zj (SoI s h) (fun e _=>s.n-(Xau e 2+1-s.n).natAbs) ⟨0,(s.n:Int)-1,_,_,_,rfl,by omega,by omega,rfl⟩ ?_
 rintro e h1 ⟨i,j,G,v3,v4,rfl,hi,hj,U⟩
 subst U
 by_cases c:0<j
 ·obtain ⟨k,V⟩:∃ k:Nat,j=(k:Int)+1:=⟨(j-1).toNat,by omega⟩
  have c1:k+1<s.n:=by omega
  have H:k<s.n:=by omega
  have I:IntKind.i64.wrap ((k:Int)+1-1)=(k:Int):=by rw [Ze (by omega)]; omega
  have J:IntKind.i64.wrap (k:Int)=(k:Int):=Ze (by omega)
  have M:=Zb (Y:=Y) (h:=h1) (k:=.i64) (sz:=1) (i:=(k:Int)+1) r.ok (by omega) (by omega)
  rw [Xej,show ((k:Int)+1).toNat=k+1 by omega] at M
  have G:=r.at c1
  have X:=hs k (by omega)
  have d:¬ Zc l (k+1)<Zc l k:=by omega
  have Z:(0:Int)<(k:Int)+1:=by omega
  subst V
  simp [Z,M,G,I,J,Zb r.ok,H,r.at H]
  refine Zml S ?_
  simp [d,I,J]
  exact ⟨⟨i+1,(k:Int),_,_,_,rfl,by omega,by omega,rfl⟩,by simp [Xau]; omega⟩
 ·simp [c]
  exact O
structure Zog (Y:Sys):Prop where
 S:Zke Y
 Check:Y.Has 188 Y188
 tally:Y.Has 203 Y203
 nested:Y.Has 204 Y204
theorem Zm0 {l:List Int} {i:Nat} (r:i<l.length):(if Xs (l.take i)-1<Zc l i then Zc l i else Xs (l.take i)-1)=Xs (l.take (i+1))-1:=by
 rw [U8 r]
 by_cases h:Xs (l.take i)<Zc l i+1
 ·rw [if_pos (by omega),if_pos h]; omega
 ·rw [if_neg (by omega),if_neg h]
def TyI (s k:Sl) (l:List Int) (h0:Za) (e:List Value) (h':Za):Prop :=
 ∃ (i:Nat) (v6 v10 v11:Value),e=[s.v,.slice none 0 0,.bool false,.int .i64 s.n,k.v,.int .i64 (Xs (l.take i)-1),v6,s.v,.int .i64 s.n,.int .i64 i,v10,v11]/\i<=s.n/\Yb h' 1 k (Zh (Zfc s.n (l.take i)))/\Mod (fun j=>j=k.b) h0 h'
theorem Zuu (P:Zog Y) {s:Sl} {l:List Int} (r:Zz h s l) (H:s.n<=1000000) (I:∀ v,v<l.length->0<=Zc l v/\Zc l v<l.length) (D:∀ c,c<(Xs l).toNat->Za0 l c≠0) {R:Value->Za->Prop}
  (hr:∀ h' t,Ext h h'->R (.tuple #[t,.bool true]) h'):Zm Y 203 [s.v] h R:=by
 refine .of_has P.tally rfl ?_
 have hl:=r.len
 simp [Y203,Xa.wp]
 refine Ze3 (n:=s.n) H rfl ?_
 intro U h1 g1 o1 e1 l1
 rw [<-Zpq] at o1
 have m0:Xs (l.take 0)-1 = -1:=by simp [Xs]
 simp
 refine Zj (TyI s (Sl.at U s.n s.n) l h1) (fun e _=>s.n-Zo e 9) ⟨0,_,_,_,rfl,by omega,by simpa using o1,Mod.refl _⟩ ?_
 rintro e V ⟨i,v6,ac,ad,rfl,hi,o2,m2⟩
 have x2:Ext h V:=Mod.ext e1 m2 (fun j G=>by rw [G]; exact g1)
 have r2:=r.ext x2
 have ko:=o2.ok
 by_cases c:i<s.n
 ·have c':(i:Int)<s.n:=by omega
  have w1:IntKind.i64.wrap ((i:Int)+1)=(i:Int)+1:=Ze (by omega)
  obtain ⟨d1,d2⟩:=I i (by omega)
  obtain ⟨t,ht⟩:∃ t:Nat,Zc l i=t:=⟨(Zc l i).toNat,by omega⟩
  have J:t<s.n:=by omega
  have X:¬ (t:Int)<0:=by omega
  have Z:¬ (s.n:Int)<=(t:Int):=by omega
  have kx:=fun g=>Zb (Y:=Y) (h:=g) (s:=Sl.at U s.n s.n) (sz:=1) (k:=.i64) (i:=(t:Int)) ko (by omega) (by simp; omega)
  simp at kx
  have kc:=o2.row64.val t (by simp; omega)
  simp [Zoi J] at kc
  have cl:=Zvn (l:=l.take i) (c:=t)
  have ae:(l.take i).length<=i:=by simp; omega
  have w2:IntKind.i64.wrap ((Za0 (l.take i) t:Int)+1)=(Za0 (l.take i) t:Int)+1:=Ze (by omega)
  have M:=Zm0 (l:=l) (i:=i) (by omega)
  rw [ht] at M
  have d3:¬ s.n<=t:=by omega
  simp [c',Zb r.ok,c,r2.at c,ht,X,Z,d3,kx,kc,w1,w2]
  refine Zqv o2 (k:=t) (by simp; omega) ?_
  intro h3 o3 m3
  rw [Zm2 (by omega) ht J] at o3
  simp [w1,M]
  refine ⟨⟨i+1,_,_,_,rfl,by omega,o3,m2.trans m3⟩,by simp [Zo]; omega⟩
 have c':¬ (i:Int)<s.n:=by omega
 rw [Xef (by omega)] at o2
 obtain ⟨af,ag,ah⟩:=Zcj (l:=l) (n:=(s.n:Int)) (by omega) (fun j G=>by have:=(I j G).2; omega)
 obtain ⟨m,hm⟩:∃ m:Nat,Xs l=m:=⟨(Xs l).toNat,by omega⟩
 have tl:l.take i=l:=Xef (by omega)
 have w2:IntKind.i64.wrap ((m:Int)-1+1)=(m:Int):=by rw [Ze (by omega)]; omega
 have sl:=Zbq (Y:=Y) (h:=V) (s:=Sl.at U s.n s.n) (sz:=1) (k:=.i64) (j:=(m:Int)) ko (by omega) (by simp; omega)
 simp at sl
 have rt:Zz V { Sl.at U s.n s.n with n:=m } ((Zfc s.n l).take m):=by
  have r0:=o2.row64
  refine ⟨⟨fun h=>(by cases h),by simp; omega,.inl rfl⟩,by simp; omega,fun j G=>?_⟩
  have O:j<m:=by simp at G; omega
  have:=r0.val j (by simp; omega)
  rw [show Zc ((Zfc s.n l).take m) j=Zc (Zfc s.n l) j by simp [Zc,Xen,O]]
  exact this
 have aa:IntKind.i64.wrap (m:Int)=(m:Int):=Ze (by omega)
 simp [c',tl,hm,w2,aa,sl]
 refine Zla P.S rt (by simp; omega) ?_
 have ab:Yc 0 ((Zfc s.n l).take m) 0 = -1:=by
  refine Zh7 (fun x hx=>?_)
  obtain ⟨j,G,rfl⟩:=Xfa hx
  have O:j<m:=by simp at G; omega
  have:=D j (by omega)
  simp [Zfc]
  omega
 simp [ab]
 exact hr V _ x2
def Xc7 (s t k:Sl) (h0:Za) (e:List Value) (h':Za):Prop :=
 ∃ (i:Nat) (cs:List Int) (v2 v4 v5 v6 v7 v10 v11 v12 v13 v14 v15:Value),e=[s.v,t.v,v2,k.v,v4,v5,v6,v7,.int .i64 s.n,.int .i64 i,v10,v11,v12,v13,v14,v15]/\i<=s.n/\Yb h' 1 k (Zh cs)/\cs.length=s.n/\(∀ c,c<i->Zc cs c = -1)/\Mod (fun j=>j=k.b) h0 h'
def Xcq (s t k:Sl) (l q:List Int) (h0:Za) (e:List Value) (h':Za):Prop :=
 ∃ (i:Nat) (cs:List Int) (v2 v4 v6 v7 v8 v9 v10 v14 v15:Value),e=[s.v,t.v,v2,k.v,v4,.int .i64 (Xs (l.take i)-1),v6,v7,v8,v9,v10,s.v,.int .i64 s.n,.int .i64 i,v14,v15]/\i<=s.n/\Yb h' 1 k (Zh cs)/\cs.length=s.n/\(∀ c,c<s.n->(Zc cs c = -1/\∀ v,v<i->Zc l v≠(c:Int))\/∃ v,v<i/\Zc l v=(c:Int)/\Zc cs c=Zc q v)/\Mod (fun j=>j=k.b) h0 h'
theorem Znc {l:List Int} {i j:Nat} {y:Int} (r:i<l.length):Zc (l.set i y) j=if j=i then y else Zc l j:=by
 simp only [Zc,Xee,Xfs]
 by_cases h:i=j
 ·subst h; simp [r]
 ·have:¬ j=i:=fun e=>h e.symm
  simp [h,this]
theorem Zqg (P:Zog Y) {s t:Sl} {l q:List Int} (r:Zz h s l) (rq:Zz h t q) (V:s.n<=1000000) (ak:l.length=q.length) (X:∀ v,v<l.length->0<=Zc l v/\Zc l v<l.length) (M:∀ c,c<(Xs l).toNat->Za0 l c≠0)
  (D:∀ a,a<l.length->∀ b,b<l.length->Zc l a<=Zc l b->Zc q a<=Zc q b) {R:Value->Za->Prop}
  (hr:∀ h',Ext h h'->R (.bool true) h'):Zm Y 204 [s.v,t.v] h R:=by
 refine .of_has P.nested rfl ?_
 have hl:=r.len
 have hlq:=rq.len
 simp [Y204,Xa.wp]
 refine Ze3 (n:=s.n) V rfl ?_
 intro J h1 g1 o1 e1 l1
 simp
 refine Zj (Xc7 s t (Sl.at J s.n s.n) h1) (fun e _=>s.n-Zo e 9) ⟨0,List.replicate s.n 0,_,_,_,_,_,_,_,_,_,_,_,rfl,by omega,o1,by simp,fun c hc=>by omega,Mod.refl _⟩ ?_
 rintro e h2 ⟨i,cs,v2,v4,v5,v6,v7,ae,al,am,an,af,ag,rfl,hi,o2,G,hc,m2⟩
 have ko:=o2.ok
 have x2:Ext h h2:=Mod.ext e1 m2 (fun j H=>by rw [H]; exact g1)
 by_cases c:i<s.n
 ·have c':(i:Int)<s.n:=by omega
  have Z:IntKind.i64.wrap ((i:Int)+1)=(i:Int)+1:=Ze (by omega)
  have U:=Zb (Y:=Y) (h:=h2) (s:=Sl.at J s.n s.n) (sz:=1) (k:=.i64) (i:=(i:Int)) ko (by omega) (by simp; omega)
  simp at U
  simp [c',U,Z]
  refine Zqv o2 (k:=i) (by omega) ?_
  intro h3 o3 m3
  have hc':∀ c,c<i+1->Zc (cs.set i (-1)) c = -1:=by
   intro c aa
   rw [Znc (by omega)]
   split
   ·rfl
   ·exact hc c (by omega)
  simp [Z]
  refine ⟨⟨i+1,cs.set i (-1),_,_,_,_,_,_,_,_,_,_,_,rfl,by omega,o3,by simpa using G,hc',m2.trans m3⟩,by simp [Zo]; omega⟩
 have c':¬ (i:Int)<s.n:=by omega
 obtain rfl:i=s.n:=by omega
 have m0:Xs (l.take 0)-1 = -1:=by simp [Xs]
 simp [c']
 refine Zj (Xcq s t (Sl.at J s.n s.n) l q h2) (fun e _=>s.n-Zo e 13) ⟨0,cs,_,_,_,_,_,_,_,_,_,rfl,by omega,o2,G,fun c aa=>.inl ⟨hc c aa,fun v hv=>by omega⟩,Mod.refl _⟩ ?_
 clear o2 G hc
 rintro e h3 ⟨v,cs,v2,v4,v6,v7,v8,v9,ae,af,ag,rfl,hv,o3,G,hc,m3⟩
 have x3:Ext h h3:=Mod.ext x2 m3 (fun j H=>by rw [H]; exact g1)
 have r3:=r.ext x3
 have q3:=rq.ext x3
 by_cases d:v<s.n
 ·have d':(v:Int)<s.n:=by omega
  have Z:IntKind.i64.wrap ((v:Int)+1)=(v:Int)+1:=Ze (by omega)
  obtain ⟨a1,a2⟩:=X v (by omega)
  obtain ⟨b,hb⟩:∃ b:Nat,Zc l v=b:=⟨(Zc l v).toNat,by omega⟩
  have ah:b<s.n:=by omega
  have U:=fun g=>Zb (Y:=Y) (h:=g) (s:=Sl.at J s.n s.n) (sz:=1) (k:=.i64) (i:=(b:Int)) ko (by omega) (by simp; omega)
  simp at U
  have kc:=o3.row64.val b (by omega)
  simp at kc
  have O:=Zm0 (l:=l) (i:=v) (by omega)
  rw [hb] at O
  have dq:v<t.n:=by omega
  have ab:(v:Int)<t.n:=by omega
  have step:∀ {h4:Za},Yb h4 1 (Sl.at J s.n s.n) (Zh (cs.set b (Zc q v)))->Mod (fun j=>j=J) h3 h4->(∀ c,c<s.n->(Zc (cs.set b (Zc q v)) c = -1/\∀ u,u<v+1->Zc l u≠(c:Int))\/∃ u,u<v+1/\Zc l u=(c:Int)/\Zc (cs.set b (Zc q v)) c=Zc q u):=by
   intro h4 _ _ c ai
   rw [Znc (by omega)]
   by_cases e:c=b
   ·subst e
    rw [if_pos rfl]
    exact .inr ⟨v,by omega,hb,rfl⟩
   ·rw [if_neg e]
    rcases hc c ai with ⟨f1,f2⟩ | ⟨u,f1,f2,f3⟩
    ·left
     refine ⟨f1,fun u hu=>?_⟩
     rcases Xd8 u v with g | g
     ·exact f2 u g
     ·obtain rfl:u=v:=by omega
      rw [hb]; omega
    ·exact .inr ⟨u,by omega,f2,f3⟩
  have ac:0<=Zc cs b->Zc cs b=Zc q v:=by
   intro h0
   rcases hc b ah with ⟨f1,_⟩ | ⟨u,f1,f2,f3⟩
   ·omega
   ·rw [f3]
    have h1:=D u (by omega) v (by omega) (by omega)
    have h2:=D v (by omega) u (by omega) (by omega)
    omega
  by_cases g:0<=Zc cs b
  ·have sm:=ac g
   have gq:0<=Zc q v:=by omega
   simp [d',Zb r.ok,Zb rq.ok,d,dq,ab,r3.at d,q3.at dq,hb,U,kc,g,sm,gq]
   refine Zqv o3 (k:=b) (by omega) ?_
   intro h4 o4 m4
   simp [Z,O]
   refine ⟨⟨v+1,cs.set b (Zc q v),_,_,_,_,_,_,_,_,_,rfl,by omega,o4,by simpa using G,step o4 m4,m3.trans m4⟩,by simp [Zo]; omega⟩
  ·simp [d',Zb r.ok,Zb rq.ok,d,dq,ab,r3.at d,q3.at dq,hb,U,kc,g]
   refine Zqv o3 (k:=b) (by omega) ?_
   intro h4 o4 m4
   simp [Z,O]
   refine ⟨⟨v+1,cs.set b (Zc q v),_,_,_,_,_,_,_,_,_,rfl,by omega,o4,by simpa using G,step o4 m4,m3.trans m4⟩,by simp [Zo]; omega⟩
 have d':¬ (v:Int)<s.n:=by omega
 obtain ⟨ao,ap,aq⟩:=Zcj (l:=l) (n:=(s.n:Int)) (by omega) (fun j H=>by have:=(X j H).2; omega)
 obtain ⟨m,hm⟩:∃ m:Nat,Xs l=m:=⟨(Xs l).toNat,by omega⟩
 have tl:l.take v=l:=Xef (by omega)
 have w2:IntKind.i64.wrap ((m:Int)-1+1)=(m:Int):=by rw [Ze (by omega)]; omega
 have aj:IntKind.i64.wrap (m:Int)=(m:Int):=Ze (by omega)
 have sl:=Zbq (Y:=Y) (h:=h3) (s:=Sl.at J s.n s.n) (sz:=1) (k:=.i64) (j:=(m:Int)) ko (by omega) (by simp; omega)
 simp at sl
 have rt:Zz h3 { Sl.at J s.n s.n with n:=m } (cs.take m):=by
  have r0:=o3.row64
  refine ⟨⟨fun h=>(by cases h),by simp; omega,.inl rfl⟩,by simp; omega,fun j H=>?_⟩
  have I:j<m:=by simp at H; omega
  have:=r0.val j (by omega)
  rw [show Zc (cs.take m) j=Zc cs j by simp [Zc,Xen,I]]
  exact this
 have ad:∀ j,j<m->∃ u,u<l.length/\Zc l u=(j:Int)/\Zc cs j=Zc q u:=by
  intro j H
  rcases hc j (by omega) with ⟨f1,f2⟩ | ⟨u,f1,f2,f3⟩
  ·obtain ⟨u,hu,e⟩:=Zkr.1 (M j (by omega))
   exact absurd e (f2 u (by omega))
  ·exact ⟨u,by omega,f2,f3⟩
 simp [d',tl,hm,w2,aj,sl]
 refine Zq9 P.S rt (by simp; omega) (fun j H=>?_) ?_
 ·have I:j+1<m:=by simp at H; omega
  rw [show Zc (cs.take m) j=Zc cs j by simp [Zc,Xen,show j<m by omega],show Zc (cs.take m) (j+1)=Zc cs (j+1) by simp [Zc,Xen,I]]
  obtain ⟨u,u1,u2,u3⟩:=ad j (by omega)
  obtain ⟨w,p1,p2,p3⟩:=ad (j+1) I
  rw [u3,p3]
  exact D u u1 w p1 (by omega)
 simp
 exact hr _ x3
def PkI (n B C:Nat) (v1 v2:Value) (s:Sl) (L:List (List Int)) (h0:Za) (e:List Value) (h':Za):Prop :=
 ∃ (i:Nat) (v5 v7 v8 v9 v10 v11 v12 v13 v17 v18 v19 v20:Value),e=[.int .i64 n,v1,v2,.pointer (some ⟨B,0,none⟩),.pointer (some ⟨C,0,none⟩),v5,.int .i64 s.n,v7,v8,v9,v10,v11,v12,v13,s.v,.int .i64 s.n,.int .i64 i,v17,v18,v19,v20]/\i<=s.n/\Ext h0 h'
theorem Zie (P:Zog Y) {s:Sl} {L:List (List Int)} {n:Nat} (r:Ql h s L) (I:Yx n L) {R:Value->Za->Prop}
  (hr:∀ h',Ext h h'->R .nilIface h'):Zm Y 188 [.int .i64 n,X0 s,.slice none 0 0] h R:=by
 refine .of_has P.Check rfl ?_
 have lL:=r.len
 have b1:=I.bn
 have b2:=I.bL
 have b3:=I.pos
 have n0:¬ (n:Int)<0:=by omega
 have n1:¬ (4096:Int)<n:=by omega
 have n2:¬ (6:Int)<s.n:=by omega
 have n3:((s.n:Int)=0)=False:=by simp; omega
 have O:(s.n=0)=False:=by simp; omega
 simp [Y188,Xa.wp,X0]
 refine Zd ?_
 intro B h1 g1 B1 e1
 simp
 refine Zd ?_
 intro C h2 g2 C2 e2
 have x2:=e1.trans e2
 have B2:=B1.ext e2
 simp [B2.hc,C2.hc,n0,n1,n2,n3,O]
 refine Zj (PkI n B C (.agg #[s.v]) (.slice none 0 0) s L h2) (fun e _=>s.n-Zo e 16) ⟨0,_,_,_,_,_,_,_,_,_,_,_,_,rfl,by omega,Mod.refl _⟩ ?_
 rintro e h3 ⟨i,v5,v7,v8,v9,ac,ad,ae,af,ag,ah,ai,aj,rfl,hi,e3⟩
 have U:=x2.trans e3
 by_cases c:i<s.n
 rotate_left
 ·have c':¬ (i:Int)<s.n:=by omega
  simp [c']
  exact hr _ U
 have c':(i:Int)<s.n:=by omega
 have w1:IntKind.i64.wrap ((i:Int)+1)=(i:Int)+1:=Ze (by omega)
 obtain ⟨u,hu,V⟩:=r.at (i:=i) c
 have lu:=V.len
 obtain ⟨z1,z2,z3,z4⟩:=Uh (I.lv i (by omega))
 have un:((u.n:Int)=(n:Int))=True:=by simp; omega
 have X:(u.n=n)=True:=by simp; omega
 simp [c',c,Zb r.ok,hu,U]
 refine Zd ?_
 intro D h4 g4 D4 e4
 simp
 refine stB (o:=0) D4 (by simp) ?_
 intro h5 D5 m5
 have G:=Mod.toExt e4 m5 g4
 have x5:=U.trans G
 simp [un,X]
 refine Zuu P (V.ext x5) (by omega) (fun v hv=>by rw [z1] at hv ⊢; exact z2 v hv) z3 ?_
 intro h6 t H
 have Z:=x5.trans H
 have D6:=D5.ext H
 have C6:=C2.ext ((e3.trans G).trans H)
 have B6:=B2.ext ((e3.trans G).trans H)
 simp at D6
 by_cases aa:i=0
 ·subst aa
  have ab:IntKind.i64.wrap 1=1:=rfl
  simp [D6.hc,C6.hc,w1,ab]
  refine ⟨⟨1,_,_,_,_,_,_,_,_,_,_,_,_,rfl,by omega,(e3.trans G).trans H⟩,by simp [Zo]; omega⟩
 ·have ip:(0:Int)<i:=by omega
  have J:0<i:=by omega
  have w2:IntKind.i64.wrap ((i:Int)-1)=((i-1:Nat):Int):=by rw [Ze (by omega)]; omega
  obtain ⟨m,hm⟩:∃ m,m=i-1:=⟨_,rfl⟩
  rw [<-hm] at w2 z4
  have M:m<s.n:=by omega
  obtain ⟨q,hq,rq⟩:=r.at (i:=m) M
  obtain ⟨y1,y2,y3,_⟩:=Uh (I.lv m (by omega))
  have lq:=rq.len
  simp [D6.hc,ip,J,B6.hc,w2,Zb r.ok,M,hq,Z]
  refine Zqg P (rq.ext Z) (V.ext Z) (by omega) (by omega) (fun v hv=>by rw [y1] at hv ⊢; exact y2 v hv) y3 (fun a ha b hb=>by rw [y1] at ha hb; exact z4 J a ha b hb) ?_
  intro h7 e7
  have C7:=C6.ext e7
  simp [C7.hc,w1]
  refine ⟨⟨i+1,_,_,_,_,_,_,_,_,_,_,_,_,rfl,by omega,((e3.trans G).trans H).trans e7⟩,by simp [Zo]; omega⟩
end
def Zar (row:List Int) (a:Yp):Bool:=decide (a.a.toNat<row.length/\a.b.toNat<row.length/\Zc row a.a.toNat≠Zc row a.b.toNat)
def Uf (N:Zg) (L:List (List Int)) (l:Int):List Int:=Vl (Zar (lvl L l)) 0 N.as
structure Zey (N:Zg) (L:List (List Int)):Prop where
 bL:L.length<=6
 ln:∀ i,i<L.length->(Zq L i).length=N.vs.length
 ok:Yd N
theorem Zey.of {N:Zg} {L:List (List Int)} (r:Yd N) (p:Yx N.vs.length L):Zey N L:=⟨p.bL,fun i D=>(Uh (p.lv i D)).1,r⟩
theorem Zey.arc {N:Zg} {L:List (List Int)} (c:Zey N L) {i:Nat} (D:i<N.as.length):∃ x y:Nat,(Zf N.as i).a=x/\(Zf N.as i).b=y/\x<N.vs.length/\y<N.vs.length:=by
 obtain ⟨h1,r⟩:=c.ok.arcs i D
 simp [Zt] at h1 r
 exact ⟨_,_,(Int.toNat_of_nonneg h1.1).symm,(Int.toNat_of_nonneg r.1).symm,by omega,by omega⟩
section
variable {Y:Sys} {h h':Za}
structure GrR (Y:Sys):Prop where
 From:Y.Has 193 Y193
 To:Y.Has 192 Y192
 arc:Y.Has 211 Y211
 Verts:Y.Has 189 Y189
 Arcs:Y.Has 209 Y209
structure Zt0 (Y:Sys):Prop where
 G:GrR Y
 P:Zgh Y
 ends:Y.Has 210 Y210
 Cross:Y.Has 191 Y191
theorem Zn4 (F':Zt0 Y) {p:Nat} {N:Zg} {S:Nat->Prop} (g:Yv h p N S) {u:Sl} {row:List Int} (J:Zz h u row) {i x y:Nat} (V:i<N.as.length) (hx:(Zf N.as i).a=x) (hy:(Zf N.as i).b=y) {R:Value->Za->Prop}
  (I:R (.tuple #[.int .i64 (if x<row.length/\y<row.length then Zc row x else 0),.int .i64 (if x<row.length/\y<row.length then Zc row y else 0),.bool (decide (x<row.length/\y<row.length))]) h) :
  Zm Y 210 [.pointer (some ⟨p,0,none⟩),u.v,.int .i64 i] h R:=by
 refine .of_has F'.ends rfl ?_
 have X:=J.len
 have hv:Zt N.as.length (i:Int)=true:=by simp [Zt]; omega
 have f1:Zcq N (i:Int)=x:=by simp [Zcq,hv,hx]
 have f2:toV N (i:Int)=y:=by simp [toV,hv,hy]
 simp [Y210,Xa.wp]
 refine Zbm F'.G.From F'.G.arc g ?_
 simp
 refine Zak F'.G.To F'.G.arc g ?_
 rw [f1,f2]
 have M:¬ (x:Int)<0:=by omega
 have O:¬ (y:Int)<0:=by omega
 by_cases c1:x<u.n
 rotate_left
 ·have D:(u.n:Int)<=x:=by omega
  have c1n:u.n<=x:=by omega
  have r:¬ (x<row.length/\y<row.length):=by omega
  rw [if_neg r,if_neg r,decide_eq_false r] at I
  simp [M,O,D,c1n]
  exact I
 have D:¬ (u.n:Int)<=x:=by omega
 have c1n:¬ u.n<=x:=by omega
 by_cases U:y<u.n
 rotate_left
 ·have H:(u.n:Int)<=y:=by omega
  have c2n:u.n<=y:=by omega
  have r:¬ (x<row.length/\y<row.length):=by omega
  rw [if_neg r,if_neg r,decide_eq_false r] at I
  simp [M,O,D,c1n,H,c2n]
  exact I
 have H:¬ (u.n:Int)<=y:=by omega
 have c2n:¬ u.n<=y:=by omega
 have r:x<row.length/\y<row.length:=by omega
 rw [if_pos r,if_pos r,decide_eq_true r] at I
 simp [M,O,D,c1n,H,c2n,Zb J.ok,c1,U,J.at c1,J.at U]
 exact I
def RcI (p n:Nat) (u:Sl) (N:Zg) (row:List Int) (h0:Za) (e:List Value) (h':Za):Prop :=
 ∃ (i:Nat) (s:Sl) (v1 v2 v3 v4 v7 v8 v9 v10 v13 v14:Value),e=[.pointer (some ⟨p,0,none⟩),v1,v2,v3,v4,u.v,s.v,v7,v8,v9,v10,.int .i64 n,.int .i64 i,v13,v14]/\i<=n/\Yb h' 1 s (Zh (Vl (Zar row) 0 (N.as.take i)))/\(s.nl=true\/h0.size<=s.b)/\Ext h0 h'
theorem Zls (F':Zt0 Y) {p:Nat} {N:Zg} {S:Nat->Prop} {L:List (List Int)} {s:Sl} (g:Yv h p N S) (r:Ql h s L) (c:Zey N L) {l:Int} (hl : -9223372036854775808<=l/\l<=9223372036854775807) {R:Value->Za->Prop}
  (hr:∀ h' t,Ext h h'->Yb h' 1 t (Zh (Uf N L l))->(t.nl=true\/h.size<=t.b)->R t.v h'):Zm Y 191 [.pointer (some ⟨p,0,none⟩),X0 s,.int .i64 l] h R:=by
 refine .of_has F'.Cross rfl ?_
 have bA:=c.ok.ba
 have lL:=r.len
 simp [Y191,Xa.wp,X0]
 refine Zd ?_
 intro B h1 g1 B1 e1
 simp [Zy B1]
 refine Zrq F'.P (r.ext e1) (by have:=c.bL; omega) hl ?_
 intro O u e2 ru
 have X:=e1.trans e2
 simp
 refine Zbp F'.G.Arcs (g.ext X) ?_
 unfold Uf at hr
 generalize ac:lvl L l=row at *
 simp
 refine Zj (RcI p N.as.length u N row O) (fun e _=>N.as.length-Zo e 12) ⟨0,Sl.nil,_,_,_,_,_,_,_,_,_,_,rfl,by omega,by simpa [Vl,Zh] using Yb.nil,.inl rfl,Mod.refl _⟩ ?_
 rintro e h3 ⟨i,t,v1,v2,v3,v4,v7,v8,v9,ae,af,ag,rfl,hi,o3,D,e3⟩
 have x3:=X.trans e3
 have z1:=X.size
 by_cases d:i<N.as.length
 rotate_left
 ·have Z:¬ (i:Int)<N.as.length:=by omega
  rw [Xef (by omega)] at o3
  simp [Z]
  exact hr _ t x3 o3 (D.imp id (fun q=>by omega))
 have Z:(i:Int)<N.as.length:=by omega
 have w1:IntKind.i64.wrap ((i:Int)+1)=(i:Int)+1:=Ze (by omega)
 obtain ⟨x,y,hx,hy,_,_⟩:=c.arc d
 have aa:=ru.ext (e2.trans e3)
 have hs:=Za9 (p:=Zar row) (l:=N.as) (i:=i) d
 have ad:(Vl (Zar row) 0 (N.as.take i)).length<=i:=by rw [W8]; refine Xew (Xe8 ..) (by simp; omega)
 have tn:=o3.1
 simp at tn
 simp [Z]
 refine Zn4 F' (g.ext x3) aa d hx hy ?_
 have I:Zar row (Zf N.as i)=decide (x<row.length/\y<row.length/\Zc row x≠Zc row y):=by unfold Zar; rw [hx,hy]; rfl
 by_cases H:x<row.length/\y<row.length
 rotate_left
 ·have hf:Zar row (Zf N.as i)=false:=by rw [I]; exact decide_eq_false (fun U=>H ⟨U.1,U.2.1⟩)
  rw [hf] at hs
  simp at hs
  rw [if_neg H,if_neg H,decide_eq_false H]
  simp [w1]
  refine ⟨⟨i+1,t,_,_,_,_,_,_,_,_,_,_,rfl,by omega,by rw [hs]; exact o3,D,e3⟩,by simp [Zo]; omega⟩
 rw [if_pos H,if_pos H,decide_eq_true H]
 by_cases V:Zc row x=Zc row y
 ·have hf:Zar row (Zf N.as i)=false:=by rw [I]; exact decide_eq_false (fun U=>U.2.2 V)
  rw [hf] at hs
  simp at hs
  simp [V,w1]
  refine ⟨⟨i+1,t,_,_,_,_,_,_,_,_,_,_,rfl,by omega,by rw [hs]; exact o3,D,e3⟩,by simp [Zo]; omega⟩
 ·have hf:Zar row (Zf N.as i)=true:=by rw [I]; exact decide_eq_true ⟨H.1,H.2,V⟩
  rw [hf] at hs
  simp at hs
  simp [V]
  refine Xe rfl ?_
  intro b4 h4 g4 V4 e4
  simp
  refine Wc (bytes:=8) rfl (o3.ext' e4) V4 (by omega) (by omega) ?_
  intro t5 h5 o5 ah m5 ab
  have z4:=e4.size
  have z3:=e3.size
  have J:t.nl=false->O.size<=t.b:=fun hn=>D.resolve_left (by rw [hn]; simp)
  have e5:Ext O h5:=Mod.ext (e3.trans e4) m5 (fun j hj=>by rw [hj.2]; exact J hj.1)
  have M:t5.nl=true\/O.size<=t5.b:=by
   rcases ab with ⟨k1,k2⟩ | ⟨k1,k2⟩
   ·rw [k1,k2]; exact D
   ·exact .inr (by omega)
  simp [w1]
  refine ⟨⟨i+1,t5,_,_,_,_,_,_,_,_,_,_,rfl,by omega,by rw [hs]; simpa [Zh] using o5,M,e5⟩,by simp [Zo]; omega⟩
end
theorem Qb {a:Int}:∀ {l:List Int} {k:Nat},0<=Yc k l a↔a∈l:=by
 intro l
 induction l with
 | nil=>intro k; simp [Yc]
 | cons x r D =>
  intro k
  simp only [Yc]
  by_cases h:x=a
  ·rw [if_pos h]; simp [h]
  ·have h':¬ a=x:=fun e=>h e.symm
   rw [if_neg h,D]; simp [h']
theorem Zrt {p:Yp->Bool} {a:Int}:∀ {l:List Yp} {k:Nat},a∈Vl p k l↔∃ i,i<l.length/\a=((k+i:Nat):Int)/\p (Zf l i)=true:=by
 intro l
 induction l with
 | nil=>intro k; simp [Vl]
 | cons x r H =>
  intro k
  have e:Vl p k (x::r)=(if p x then [(k:Int)] else [])++Vl p (k+1) r:=by simp only [Vl]; split <;> simp_all
  rw [e,List.mem_append,H]
  constructor
  ·rintro (h | ⟨i,h1,D,G⟩)
   ·split at h
    ·rename_i hp
     simp at h
     exact ⟨0,by simp,by simpa using h,by simpa [Zf] using hp⟩
    ·simp at h
   ·exact ⟨i+1,by simpa using h1,by rw [D]; congr 1; omega,by simpa [Zf] using G⟩
  ·rintro ⟨i,h1,D,G⟩
   cases i with
   | zero =>
    left
    have hp:p x=true:=by simpa [Zf] using G
    rw [if_pos hp]
    simpa using D
   | succ i=>exact .inr ⟨i,by simpa using h1,by rw [D]; congr 1; omega,by simpa [Zf] using G⟩
theorem Zf5 {N:Zg} {L:List (List Int)} {l a:Int}:a∈Uf N L l↔Zt N.as.length a=true/\Zar (lvl L l) (Zf N.as a.toNat)=true:=by
 unfold Uf
 rw [Zrt]
 simp only [Zt,decide_eq_true_eq]
 constructor
 ·rintro ⟨i,h1,r,D⟩
  simp at r
  subst r
  exact ⟨by omega,by simpa using D⟩
 ·rintro ⟨h1,r⟩
  exact ⟨a.toNat,by omega,by simp; omega,r⟩
def b2n (x:Bool):Nat:=if x then 1 else 0
def Zg9 (n:Nat) (Q:Bool->Nat->Sl):Array Value:=((List.range (n * 2)).map fun j=>(Q (decide (j % 2=1)) (j / 2)).v).toArray
@[simp] theorem Zhm {n:Nat} {Q:Bool->Nat->Sl}:(Zg9 n Q).size=n * 2:=by simp [Zg9]
theorem Zjd {n c:Nat} {Q:Bool->Nat->Sl} {x:Bool} (hc:c<n):(Zg9 n Q)[c * 2+b2n x]? = some (Q x c).v:=by
 have h1:(c * 2+b2n x) / 2=c:=by unfold b2n; split <;> omega
 have r:decide ((c * 2+b2n x) % 2=1)=x:=by unfold b2n; cases x <;> simp <;> omega
 have D:c * 2+b2n x<n * 2:=by unfold b2n; split <;> omega
 have h4:decide (b2n x % 2=1)=x:=by cases x <;> rfl
 simp [Zg9,D,h1,r,h4]
def Zos (Q:Bool->Nat->Sl) (x:Bool) (c:Nat) (s:Sl):Bool->Nat->Sl:=fun y v=>if y=x/\v=c then s else Q y v
def Znx (D:Bool->Nat->List Int) (x:Bool) (c:Nat) (a:Int):Bool->Nat->List Int:=fun y v=>if y=x/\v=c then D x c++[a] else D y v
theorem Z33 {n c : Nat} {Q : Bool → Nat → Sl} {x : Bool} {s : Sl} (hc : c < n) : (Zg9 n Q).setIfInBounds (c * 2 + b2n x) s.v = Zg9 n (Zos Q x c s) := by
  apply Xfp
  · simp
  · intro j h1 r
    simp only [Zhm] at r
    rw [Array.getElem_setIfInBounds (by simpa using h1)]
    have hx : b2n x ≤ 1 := by unfold b2n; split <;> omega
    simp only [Zg9, Zos, List.getElem_toArray, Xev, Xf0]
    by_cases e : c * 2 + b2n x = j
    · subst e
      have h1 : (c * 2 + b2n x) / 2 = c := by omega
      have r : decide ((c * 2 + b2n x) % 2 = 1) = x := by unfold b2n; cases x <;> simp <;> omega
      rw [if_pos rfl, h1, r, if_pos ⟨rfl, rfl⟩]
    · rw [if_neg e, if_neg]
      rintro ⟨D, G⟩
      apply e
      unfold b2n
      cases x with
      | false => have : ¬ j % 2 = 1 := by simpa using D
                 simp; omega
      | true => have : j % 2 = 1 := by simpa using D
                simp; omega
structure Fam (lo:Nat) (h:Za) (n:Nat) (Q:Bool->Nat->Sl) (D:Bool->Nat->List Int):Prop where
 own:∀ x v,v<n->Yb h 1 (Q x v) (Zh (D x v))
 fr:∀ x v,v<n->(Q x v).nl=false->lo<=(Q x v).b
 dj:∀ x u y v,u<n->v<n->(x≠y\/u≠v)->(Q x u).nl=false->(Q y v).nl=false->(Q x u).b≠(Q y v).b
section
variable {Y:Sys} {h h':Za}
theorem Fam.none {lo n:Nat}:Fam lo h n (fun _ _=>Sl.nil) (fun _ _=>[]):=⟨fun _ _ _=>Yb.nil,fun _ _ _ r=>(by cases r),fun _ _ _ _ _ _ _ r=>(by cases r)⟩
theorem Fam.mod {S:Nat->Prop} {lo n:Nat} {Q:Bool->Nat->Sl} {D:Bool->Nat->List Int} (q:Fam lo h n Q D) (m:Mod S h h') (hs:∀ x v,v<n->(Q x v).nl=false->¬ S (Q x v).b):Fam lo h' n Q D :=
 ⟨fun x v hv=>(q.own x v hv).mod m (hs x v hv),q.fr,q.dj⟩
theorem Fam.ext {lo n:Nat} {Q:Bool->Nat->Sl} {D:Bool->Nat->List Int} (q:Fam lo h n Q D) (m:Ext h h'):Fam lo h' n Q D:=q.mod m fun _ _ _ _ h=>h
theorem Fam.step {lo n t:Nat} {Q:Bool->Nat->Sl} {D:Bool->Nat->List Int} {x:Bool} {J:Sl} {a:Int} (q:Fam lo h n Q D) (ht:t<n) (M:lo<=h.size) (o:Yb h' 1 J (Zh (D x t)++[.int .i64 a])) (m:Mod (fun j=>(Q x t).nl=false/\j=(Q x t).b) h h')
  (hs:(J.b=(Q x t).b/\J.nl=(Q x t).nl)\/(h.size<=J.b/\J.nl=false)):Fam lo h' n (Zos Q x t J) (Znx D x t a):=by
 unfold Zos Znx
 refine ⟨fun y v hv=>?_,fun y v hv G=>?_,fun y u z v hu hv r h1 I=>?_⟩
 ·by_cases c:y=x/\v=t
  ·obtain ⟨rfl,rfl⟩:=c
   simp only [and_self,if_true]
   simpa [Zh] using o
  ·simp only [if_neg c]
   have hc:y≠x\/v≠t:=by
    rcases Decidable.em (y=x) with e | e
    ·exact .inr fun e2=>c ⟨e,e2⟩
    ·exact .inl e
   exact (q.own y v hv).mod m fun G hb=>q.dj y v x t hv ht hc G hb.1 hb.2
 ·by_cases c:y=x/\v=t
  ·simp only [if_pos c] at G ⊢
   rcases hs with ⟨H,e2⟩ | ⟨H,_⟩
   ·rw [H]; exact q.fr x t ht (by rw [<-e2]; exact G)
   ·omega
  ·simp only [if_neg c] at G ⊢
   exact q.fr y v hv G
 ·have lt:∀ y v,v<n->(Q y v).nl=false->(Q y v).b<h.size:=fun y v hv G=>(q.own y v hv).lt G
  by_cases c:y=x/\u=t
  ·by_cases d:z=x/\v=t
   ·obtain ⟨rfl,rfl⟩:=c
    obtain ⟨rfl,rfl⟩:=d
    rcases r with e | e <;> exact absurd rfl e
   ·simp only [if_pos c] at h1 ⊢
    simp only [if_neg d] at I ⊢
    obtain ⟨rfl,rfl⟩:=c
    rcases hs with ⟨H,e2⟩ | ⟨H,_⟩
    ·rw [H]; exact q.dj y u z v hu hv r (by rw [<-e2]; exact h1) I
    ·have:=lt z v hv I; omega
  ·by_cases d:z=x/\v=t
   ·simp only [if_neg c] at h1 ⊢
    simp only [if_pos d] at I ⊢
    obtain ⟨rfl,rfl⟩:=d
    rcases hs with ⟨H,e2⟩ | ⟨H,_⟩
    ·rw [H]; exact q.dj y u z v hu hv r h1 (by rw [<-e2]; exact I)
    ·have:=lt y u hu h1; omega
   ·simp only [if_neg c] at h1 ⊢
    simp only [if_neg d] at I ⊢
    exact q.dj y u z v hu hv r h1 I
structure Cel (lo U:Nat) (h:Za) (n:Nat) (Q:Bool->Nat->Sl) (D:Bool->Nat->List Int):Prop where
 blk:Ys h U (Zg9 n Q)
 fam:Fam lo h n Q D
 ult:U<lo
theorem Cel.app {K:Value->Za->Prop} {lo U n c:Nat} {Q:Bool->Nat->Sl} {D:Bool->Nat->List Int} {x:Bool} {a:Int} (q:Cel lo U h n Q D) (hc:c<n) (I:lo<=h.size) (O:(D x c).length<=1000000) {z:Value} {b:Nat} (V:Ys h b #[.int .i64 a])
  (R:∀ (G:Sl) (h':Za),Mod (fun j=>j=U\/lo<=j) h h'->Ys h' U (Zg9 n Q)->(∀ r,Ys r U ((Zg9 n Q).setIfInBounds (c * 2+b2n x) G.v)->Mod (fun j=>j=U) h' r->Cel lo U r n (Zos Q x c G) (Znx D x c a))->K G.v h') :
  Ef.wp h K (.append 1 8 #[z]) [(Q x c).v,.slice (some ⟨b,0,none⟩) 1 1]:=by
 have o:=q.fam.own x c hc
 have H:=o.1
 simp at H
 have lU:=q.blk.lt
 refine Wc (bytes:=8) rfl o V (by omega) (by omega) ?_
 intro G h1 o1 X J M
 have fr:(Q x c).nl=false->lo<=(Q x c).b:=fun H=>q.fam.fr x c hc H
 have B1:=J.blk q.blk (fun hq=>by have:=fr hq.1; have:=q.ult; omega)
 refine R G h1 (J.mono (fun j hj hq=>by have:=fr hq.1; omega)) B1 ?_
 intro h2 B2 Z
 have f1:=q.fam.step hc I o1 J M
 rw [Z33 hc] at B2
 refine ⟨B2,f1.mod Z (fun y v hv H=>?_),q.ult⟩
 have:=f1.fr y v hv H
 have:=q.ult
 omega
structure Zeh (h:Za) (u:Sl) (n:Nat) (D:Bool->Nat->List Int):Prop where
 ok:u.ok
 len:u.n=n
 val:∀ x c,c<n->∃ s:Sl,hc h u.b (u.o+c * 2+b2n x)=some s.v/\Zz h s (D x c)
theorem Zeh.ext {u:Sl} {n:Nat} {D:Bool->Nat->List Int} (c:Zeh h u n D) (e:Ext h h'):Zeh h' u n D :=
 ⟨c.ok,c.len,fun x k r=>by
  obtain ⟨s,a,b⟩:=c.val x k r
  exact ⟨s,e.hc a (fun h=>h),b.ext e⟩⟩
theorem Cel.cells {lo U n:Nat} {Q:Bool->Nat->Sl} {D:Bool->Nat->List Int} (q:Cel lo U h n Q D):Zeh h (Sl.at U n n) n D :=
 ⟨⟨fun h=>(by cases h),Xd6 _,.inl rfl⟩,rfl,fun x c hc=>⟨Q x c,by rw [Sl.at_b,Sl.at_o,Xes,q.blk.hc]; exact Zjd hc,(q.fam.own x c hc).row64⟩⟩
def Zbz (N:Zg) (row:List Int) (l:List Int) (b:Bool) (c:Nat):List Int:=l.filter fun a=>decide (Zc row (if b then (Zf N.as a.toNat).a.toNat else (Zf N.as a.toNat).b.toNat)=(c:Int))
def Zn (N:Zg) (L:List (List Int)) (i:Nat):Bool->Nat->List Int:=Zbz N (Zq L i) (Uf N L ((i:Int)+1))
def Zw (L:List (List Int)) (i:Nat):Nat:=(Xs (Zq L i)).toNat
structure Zho (h:Za) (s:Sl) (N:Zg) (L:List (List Int)):Prop where
 ok:s.ok
 len:L.length=s.n
 val:∀ i,i<L.length->∃ u:Sl,hc h s.b (s.o+i)=some u.v/\Zeh h u (Zw L i) (Zn N L i)
theorem Zho.ext {s:Sl} {N:Zg} {L:List (List Int)} (g:Zho h s N L) (e:Ext h h'):Zho h' s N L :=
 ⟨g.ok,g.len,fun i r=>by
  obtain ⟨u,a,b⟩:=g.val i r
  exact ⟨u,e.hc a (fun h=>h),b.ext e⟩⟩
theorem Zs3 {N:Zg} {row l:List Int} {i x y:Nat} {a:Int} (r:i<l.length) (D:Zc l i=a) (hx:Zc row (Zf N.as a.toNat).a.toNat=x) (hy:Zc row (Zf N.as a.toNat).b.toNat=y) :
  Zbz N row (l.take (i+1))=Znx (Znx (Zbz N row (l.take i)) false y a) true x a:=by
 funext b c
 have G:l.take (i+1)=l.take i++[a]:=by rw [Xel r,<-D]; simp [Zc,r]
 unfold Zbz Znx
 rw [G,Xf9]
 cases b with
 | false =>
  simp only [Xeh,false_and,if_false,true_and]
  by_cases e:c=y
  ·subst e
   simp [hy]
  ·have:¬ (y:Int)=(c:Int):=by omega
   simp [hy,e,this]
 | true =>
  simp only [if_true,true_and]
  by_cases e:c=x
  ·subst e
   simp [hx]
  ·have:¬ (x:Int)=(c:Int):=by omega
   simp [hx,e,this]
theorem Z2i {v:Value} {m:Nat}:Xj #[v,v] m=Array.replicate m v:=by
 apply Xfp
 ·simp [Xj]
 ·intro i h1 r
  have r:i<m:=by simpa [Xj] using h1
  have:i % 2=0\/i % 2=1:=by omega
  rcases this with e | e <;> simp [Xj,e]
theorem Zzf {n:Nat}:Array.replicate (n * 2) (Value.slice none 0 0)=Zg9 n (fun _ _=>Sl.nil):=by
 apply Xfp
 ·simp
 ·intro i h1 r
  simp [Zg9,Sl.nil_v]
theorem Zxu {K:Value->Za->Prop} {n:Nat} {m:Int} (G:n<=1000000) (r:m=n) (D:∀ (b:Nat) (h':Za),h.size<=b->Ys h' b (Zg9 n (fun _ _=>Sl.nil))->Ext h h'->K (.slice (some ⟨b,0,none⟩) n n) h') :
  Ef.wp h K (.mkslice 2 48 #[.slice none 0 0,.slice none 0 0]) [.int .i64 m,.int .i64 m]:=by
 subst r
 rw [Wx]
 refine ⟨by omega,by omega,by omega,by omega,fun t=>?_⟩
 simp only [Xd9,Z2i,Zzf]
 exact D h.size _ (Xd6 _) Ys.new Mod.push
theorem Znd {K:Value->Za->Prop} {n:Nat} {m:Int} (G:n<=1000000) (r:m=n) (D:∀ (b:Nat) (h':Za),h.size<=b->Yb h' 1 (Sl.at b n n) (List.replicate n (.slice none 0 0))->Ext h h'->b<h'.size->K (.slice (some ⟨b,0,none⟩) n n) h') :
  Ef.wp h K (.mkslice 1 24 #[.slice none 0 0]) [.int .i64 m,.int .i64 m]:=by
 subst r
 rw [Wx]
 refine ⟨by omega,by omega,by omega,by omega,fun t=>?_⟩
 simp only [Xd9,Xej,Vp]
 refine D h.size _ (Xd6 _) ⟨by simp,.inr ⟨rfl,rfl,rfl,Xd6 _,by simp; omega,_,Ys.new,by simp,by simp⟩⟩ Mod.push (by simp)
theorem Xcy {K:Value->Za->Prop} {b n m k:Nat} {cells:List Value} {v:Value} (o:Yb h 1 (Sl.at b n m) cells) (D:k<cells.length)
  (G:∀ h',Yb h' 1 (Sl.at b n m) (cells.set k v)->Mod (fun j=>j=b) h h'->K undef h'):Xg h b k v K:=by
 rw [Xg.open]
 obtain ⟨H,hb,r,_⟩:=o.blk D
 have o1:=o.set (v:=v) D
 simp at o1 r hb
 refine ⟨by rw [hb.hc]; simp [r],hb.hfz,G _ o1 (Mod.set rfl)⟩
end
section
variable {Y:Sys} {h h':Za}
def Zff (lo ob:Nat) (h:Za) (u:Sl) (n:Nat) (D:Bool->Nat->List Int):Prop:=∀ h',Mod (fun j=>j=ob\/j<lo) h h'->Zeh h' u n D
theorem Zff.step {lo ob n:Nat} {u:Sl} {D:Bool->Nat->List Int} (k:Zff lo ob h u n D) (m:Mod (fun j=>j=ob) h h'):Zff lo ob h' u n D:=fun r m'=>k r ((m.mono fun _ _ h=>.inl h).trans m')
theorem Zff.ext {lo ob n:Nat} {u:Sl} {D:Bool->Nat->List Int} (k:Zff lo ob h u n D) (m:Ext h h'):Zff lo ob h' u n D:=k.step (m.mono (fun _ _ h=>h.elim))
theorem Cel.kept {r lo U n ob:Nat} {Q:Bool->Nat->Sl} {D:Bool->Nat->List Int} (q:Cel lo U h n Q D) (h1:ob≠U) (H:ob<lo) (I:r<=lo) (h4:r<=U):Zff r ob h (Sl.at U n n) n D:=by
 intro h' m
 refine Cel.cells (lo:=lo) (Q:=Q) ⟨m.blk q.blk (fun e=>by omega),q.fam.mod m (fun x v hv G e=>?_),q.ult⟩
 have:=q.fam.fr x v hv G
 omega
structure Z3a (Y:Sys):Prop where
 R:Zt0 Y
 P:Zog Y
 Of:Y.Has 174 Y174
theorem Xi {N:Zg} {L:List (List Int)} (r:Yx N.vs.length L) {i:Nat} (G:i<L.length):(Zq L i).length=N.vs.length/\(Xs (Zq L i)=(Zw L i:Nat))/\Zw L i<=4096/\∀ v,v<N.vs.length->∃ c:Nat,Zc (Zq L i) v=c/\c<Zw L i:=by
 obtain ⟨H,D,M,O⟩:=Uh (r.lv i G)
 have R:=r.bn
 obtain ⟨U,V,I⟩:=Zcj (l:=Zq L i) (n:=(N.vs.length:Int)) (by omega) (fun j X=>by have:=(D j (by omega)).2; omega)
 have J:Xs (Zq L i)=(Zw L i:Nat):=by unfold Zw; omega
 refine ⟨H,J,by omega,fun v hv=>?_⟩
 have:=D v hv
 have:=I v (by omega)
 exact ⟨(Zc (Zq L i) v).toNat,by omega,by omega⟩
theorem Zl3 {N:Zg} {row l:List Int} {b:Bool} {c:Nat}:(Zbz N row l b c).length<=l.length:=Xe8 ..
theorem Zji {N:Zg} {L:List (List Int)} {l:Int}:(Uf N L l).length<=N.as.length:=by unfold Uf; rw [W8]; exact Xe8 ..
theorem Zxx {N:Zg} {L:List (List Int)} {l:Int} {j:Nat} (r:j<(Uf N L l).length):∃ a:Nat,Zc (Uf N L l) j=a/\a<N.as.length:=by
 have D:Zc (Uf N L l) j∈Uf N L l:=by rw [show Zc (Uf N L l) j=(Uf N L l)[j] by simp [Zc,r]]; exact Xeo r
 have hv:=(Zf5.1 D).1
 simp [Zt] at hv
 exact ⟨(Zc (Uf N L l) j).toNat,by omega,by omega⟩
theorem Z8u {L:List (List Int)} {i:Nat} (r:i<L.length):lvl L ((i:Int)+1)=Zq L i:=by
 have:Zfz L ((i:Int)+1)=true:=by simp [Zfz]; omega
 simp [lvl,this]
def GoI (p B ob:Nat) (s:Sl) (N:Zg) (L:List (List Int)) (h0:Za) (e:List Value) (h':Za):Prop :=
 ∃ (i:Nat) (vals:List Value) (v1 v3 v5 v6 v7 v8 v9 v10 v11 v15 v16 v17 v18 v19:Value),e=[.pointer (some ⟨p,0,none⟩),v1,.pointer (some ⟨B,0,none⟩),v3,.slice (some ⟨ob,0,none⟩) s.n s.n,v5,v6,v7,v8,v9,v10,v11,s.v,.int .i64 s.n,.int .i64 i,v15,v16,v17,v18,v19]/\i<=s.n/\Yb h' 1 (Sl.at ob s.n s.n) vals/\vals.length=s.n/\(∀ k,k<i->∃ u:Sl,vals[k]? = some u.v/\Zff h0.size ob h' u (Zw L k) (Zn N L k))/\Mod (fun j=>j=ob) h0 h'
def GoJ (p B ob U n k:Nat) (s w t:Sl) (N:Zg) (row x:List Int) (h0:Za) (e:List Value) (h':Za):Prop :=
 ∃ (i:Nat) (Q:Bool->Nat->Sl) (v1 v3 v8 v9 v10 v11 v15 v19:Value),e=[.pointer (some ⟨p,0,none⟩),v1,.pointer (some ⟨B,0,none⟩),v3,.slice (some ⟨ob,0,none⟩) s.n s.n,.int .i64 k,w.v,.slice (some ⟨U,0,none⟩) n n,v8,v9,v10,v11,s.v,.int .i64 s.n,.int .i64 k,v15,t.v,.int .i64 t.n,.int .i64 i,v19]/\i<=t.n/\Cel h0.size U h' n Q (Zbz N row (x.take i))/\Mod (fun j=>j=U) h0 h'
theorem Zob (G:Z3a Y) {p:Nat} {N:Zg} {S:Nat->Prop} {L:List (List Int)} {s:Sl} (g:Yv h p N S) (r:Ql h s L) (ok:Yd N) (pk:Yx N.vs.length L) {R:Value->Za->Prop}
  (hr:∀ h' t,Ext h h'->(∀ g,Mod (fun j=>j<h.size) h' g->Zho g t N L)->R t.v h'):Zm Y 174 [.pointer (some ⟨p,0,none⟩),X0 s] h R:=by
 refine .of_has G.Of rfl ?_
 have lL:=r.len
 have bL:=pk.bL
 have cc:=Zey.of ok pk
 have bA:=ok.ba
 simp [Y174,Xa.wp,X0]
 refine Zd ?_
 intro B h1 g1 B1 e1
 simp [Zy B1]
 refine Zh4 G.R.G.Verts (g.ext e1) ?_
 simp [Zy B1]
 refine Zie G.P (r.ext e1) pk ?_
 intro h2 e2
 have B2:=B1.ext e2
 simp [B2.hc]
 refine Znd (n:=s.n) (by omega) rfl ?_
 intro ob h3 g3 o3 e3 l3
 have x3:=(e1.trans e2).trans e3
 have z1:=e1.size
 have z2:=e2.size
 have z3:=e3.size
 have B3:=B2.ext e3
 have lB:=B1.lt
 simp [B3.hc]
 refine Zj (GoI p B ob s N L h3) (fun e _=>s.n-Zo e 14) ⟨0,List.replicate s.n (.slice none 0 0),_,_,_,_,_,_,_,_,_,_,_,_,_,_,rfl,by omega,o3,by simp,fun k hk=>by omega,Mod.refl _⟩ ?_
 rintro e h4 ⟨i,V,v1,v3,v5,v6,v7,v8,v9,av,aw,ax,aR,aS,aT,ay,rfl,hi,o4,az,ah,m4⟩
 have x4:Ext h h4:=Mod.ext x3 m4 (fun j J=>by omega)
 have B4:=m4.blk B3 (by omega)
 have z4:=m4.size
 by_cases c:i<s.n
 rotate_left
 ·have c':¬ (i:Int)<s.n:=by omega
  simp [c']
  have:R (Sl.at ob s.n s.n).v h4:=by
   refine hr h4 (Sl.at ob s.n s.n) x4 (fun g mg=>⟨o4.ok,lL,fun k hk=>?_⟩)
   obtain ⟨u,hu,hc⟩:=ah k (by omega)
   refine ⟨u,?_,hc g (mg.mono fun j _ J=>.inr (by omega))⟩
   have:=(o4.mod mg (fun _ hb=>by simp at hb; omega)).cell hu
   simpa using this
  simpa using this
 have c':(i:Int)<s.n:=by omega
 have ai:i<L.length:=by omega
 have w1:IntKind.i64.wrap ((i:Int)+1)=(i:Int)+1:=Ze (by omega)
 obtain ⟨u,hu,ru⟩:=r.at (i:=i) c
 obtain ⟨rl,rm,rb,rv⟩:=Xi pk ai
 have lu:=ru.len
 simp [c',c,Zb r.ok,hu,x4,Zy B4,w1]
 refine Zq2 G.R.P (r.ext x4) (by omega) (fun j J=>?_) (by omega) ?_
 ·obtain ⟨y1,y2,_,_⟩:=Uh (pk.lv j J)
  have:=pk.bn
  exact ⟨by omega,fun v hv=>by have:=y2 v (by omega); omega⟩
 intro h5 e5
 have B5:=B4.ext e5
 rw [Z8u ai,rm]
 generalize hn:Zw L i=n at *
 simp
 refine Zxu (n:=n) (by omega) rfl ?_
 intro U h6 g6 U6 e6
 have x6:=(x4.trans e5).trans e6
 have B6:=B5.ext e6
 simp [Zy B6,w1]
 refine Zls G.R (g.ext x6) (r.ext x6) cc (by omega) ?_
 intro h7 t e7 o7 aA
 have x7:=x6.trans e7
 have lU:=U6.lt
 have z5:=e5.size
 have z6:=e6.size
 have z7:=e7.size
 have tn:=o7.1
 simp at tn
 have aB:=Zji (N:=N) (L:=L) (l:=(i:Int)+1)
 obtain ⟨x,hx⟩:∃ x,x=Uf N L ((i:Int)+1):=⟨_,rfl⟩
 obtain ⟨row,X⟩:∃ row,row=Zq L i:=⟨_,rfl⟩
 have aC:Zn N L i=Zbz N row x:=by unfold Zn; rw [<-hx,<-X]
 have aj:∀ j,j<x.length->∃ a:Nat,Zc x j=a/\a<N.as.length:=fun j J=>by rw [hx] at J ⊢; exact Zxx J
 rw [<-hx] at o7 tn aB
 rw [<-X] at ru rl rm rv lu
 have tb:t.nl=false->h6.size<=t.b:=fun hn=>aA.resolve_left (by rw [hn]; simp)
 simp
 refine Zj (GoJ p B ob U n i s u t N row x h7) (fun e _=>t.n-Zo e 18) ⟨0,fun _ _=>Sl.nil,_,_,_,_,_,_,_,_,rfl,by omega,⟨U6.ext e7,Fam.none,by omega⟩,Mod.refl _⟩ ?_
 rintro e Z ⟨j,Q,v1,v3,v8,v9,av,aw,ax,ay,rfl,J,q8,m8⟩
 have z8:=m8.size
 have x8:Ext h Z:=Mod.ext x7 m8 (fun j J=>by omega)
 by_cases d:j<t.n
 rotate_left
 ·have d':¬ (j:Int)<t.n:=by omega
  rw [Xef (by omega)] at q8
  have aa:Ext h4 Z:=Mod.ext ((e5.trans e6).trans e7) m8 (fun j J=>by omega)
  have o8:=o4.ext' aa
  have ix:=Zb (Y:=Y) (h:=Z) (s:=Sl.at ob s.n s.n) (sz:=1) (k:=.i64) (i:=(i:Int)) o4.ok (by omega) (by simp; omega)
  simp at ix
  simp [d',ix]
  have kq:Zff h3.size ob Z (Sl.at U n n) n (Zbz N row x):=q8.kept (by omega) (by omega) (by omega) (by omega)
  refine Xcy o8 (k:=i) (v:=(Sl.at U n n).v) (by omega) ?_
  intro h9 o9 m9
  have aD:∀ k,k<i+1->∃ u:Sl,(V.set i (Sl.at U n n).v)[k]? = some u.v/\Zff h3.size ob h9 u (Zw L k) (Zn N L k):=by
   intro k hk
   rcases Xd8 k i with g | g
   ·obtain ⟨u,hu,hc⟩:=ah k g
    exact ⟨u,by rw [Xgo (by omega)]; exact hu,(hc.ext aa).step m9⟩
   ·obtain rfl:k=i:=by omega
    refine ⟨Sl.at U n n,by rw [List.getElem?_set_self (by omega)],?_⟩
    rw [hn,aC]
    exact kq.step m9
  simp [w1]
  refine ⟨⟨i+1,V.set i (Sl.at U n n).v,_,_,_,_,_,_,_,_,_,_,_,_,_,_,rfl,by omega,o9,by simpa using az,aD,m4.trans ((aa.mono (fun _ _ h=>h.elim)).trans m9)⟩,by simp [Zo]; omega⟩
 have d':(j:Int)<t.n:=by omega
 have w2:IntKind.i64.wrap ((j:Int)+1)=(j:Int)+1:=Ze (by omega)
 obtain ⟨a,ha,aE⟩:=aj j (by omega)
 obtain ⟨xv,yv,ak,al,aF,aG⟩:=cc.arc aE
 obtain ⟨cx,am,H⟩:=rv xv aF
 obtain ⟨D,ab,I⟩:=rv yv aG
 have an:Zt N.as.length (a:Int)=true:=by simp [Zt]; omega
 have f1:Zcq N (a:Int)=xv:=by simp [Zcq,an,ak]
 have f2:toV N (a:Int)=yv:=by simp [toV,an,al]
 have aH:=(o7.mod m8 (fun hn=>by have:=tb hn; omega)).row64
 have ac:=ru.ext x8
 have xu:xv<u.n:=by omega
 have yu:yv<u.n:=by omega
 have ad:=fun g (k:Nat) (hk:k<n)=>Zb (Y:=Y) (h:=g) (s:=Sl.at U n n) (sz:=2) (k:=.i64) (i:=(k:Int)) ⟨fun h=>(by cases h),Xd6 _,.inl rfl⟩ (by omega) (by simp; omega)
 simp at ad
 have st:∀ z,hc Z U (D * 2)=z↔(Zg9 n Q)[D * 2+b2n false]? = z:=fun z=>by rw [q8.blk.hc]; rfl
 have l0:hc Z U (D * 2)=some (Q false D).v:=by rw [q8.blk.hc]; exact Zjd (x:=false) I
 simp [d',Zb o7.ok,d,aH.at d,ha]
 refine Zak G.R.G.To G.R.G.arc (g.ext x8) ?_
 rw [f2]
 simp [Zb ru.ok,yu,ac.at yu,ab,ad _ D I]
 refine Zbm G.R.G.From G.R.G.arc (g.ext x8) ?_
 rw [f1]
 simp [Zb ru.ok,xu,yu,ac.at xu,ac.at yu,am,ab,ad _ cx H,l0]
 refine Xe rfl ?_
 intro b9 h9 g9 V9 e9
 have q9:Cel h7.size U h9 n Q (Zbz N row (x.take j)):=⟨q8.blk.ext e9,q8.fam.ext e9,q8.ult⟩
 have z9:=e9.size
 simp
 refine q9.app (x:=false) I (by omega) (by have:=Zl3 (N:=N) (row:=row) (l:=x.take j) (b:=false) (c:=D); have:(x.take j).length<=j:=(by simp; omega); omega) V9 ?_
 intro ae aU ao B10 aI
 simp
 refine stB (o:=D * 2) B10 (by rw [Zhm]; omega) ?_
 intro af B11 ag
 have M:=aI af B11 ag
 have aV:=ao.size
 have aW:=ag.size
 have ap:Mod (fun j=>j=U\/h7.size<=j) Z af:=((e9.mono (fun _ _ h=>h.elim)).trans ao).trans (ag.mono (fun _ _ h=>.inl h))
 have l1:hc af U (cx * 2+1)=some (Zos Q false D ae true cx).v:=by rw [M.blk.hc]; exact Zjd (x:=true) H
 have aJ:Znx (Zbz N row (x.take j)) false D a true cx=Zbz N row (x.take j) true cx:=by simp [Znx]
 simp [l1]
 refine Xe rfl ?_
 intro aX aK aY V12 O
 have aL:Cel h7.size U aK n (Zos Q false D ae) (Znx (Zbz N row (x.take j)) false D a):=⟨M.blk.ext O,M.fam.ext O,M.ult⟩
 have aZ:=O.size
 simp
 refine aL.app (x:=true) H (by omega) (by rw [aJ]; have:=Zl3 (N:=N) (row:=row) (l:=x.take j) (b:=true) (c:=cx); have:(x.take j).length<=j:=(by simp; omega); omega) V12 ?_
 intro aM a0 aN B13 aO
 simp
 refine stB (o:=cx * 2+1) B13 (by rw [Zhm]; omega) ?_
 intro aq B14 ar
 have aP:=aO aq B14 ar
 have au:Mod (fun j=>j=U) h7 aq:=Mod.then m8 (((ap.trans (O.mono (fun _ _ h=>h.elim))).trans aN).trans (ar.mono (fun _ _ h=>.inl h))) (fun k hk hq=>by omega)
 have aQ:=Zs3 (N:=N) (row:=row) (l:=x) (i:=j) (x:=cx) (y:=D) (a:=(a:Int)) (by omega) ha (by simp [ak,am]) (by simp [al,ab])
 simp [w2]
 refine ⟨⟨j+1,Zos (Zos Q false D ae) true cx aM,_,_,_,_,_,_,_,_,rfl,by omega,by rw [aQ]; exact aP,au⟩,by simp [Zo]; omega⟩
end
end Go.Rm

namespace Go.Rm
theorem Zmy {a:Int}:∀ {l:List Int} {k i:Nat},i<l.length->Zc l i=a->(∀ j,j<i->Zc l j≠a)->Yc k l a=((k+i:Nat):Int):=by
 intro l
 induction l with
 | nil=>intro k i D; simp at D
 | cons x r I =>
  intro k i D G H
  simp only [Yc]
  cases i with
  | zero =>
   have:x=a:=by simpa [Zc] using G
   rw [if_pos this]; simp
  | succ i =>
   have h0:¬ x=a:=by simpa [Zc] using H 0 (by omega)
   rw [if_neg h0,I (i:=i) (by simpa using D) (by simpa [Zc] using G) (fun j J=>by have:=H (j+1) (by omega); simpa [Zc] using this)]
   congr 1; omega
def Zbf (l:List Int):Prop:=∀ i j,i<j->j<l.length->Zc l i<Zc l j
theorem Zwf {l:List Int} {a:Int} (h:a∈l):∃ i,i<l.length/\Zc l i=a:=by
 obtain ⟨i,r,rfl⟩:=Xfa h
 exact ⟨i,r,by simp [Zc,r]⟩
theorem Zfp {a:Int} {l:List Int} {k:Nat} (h:∀ i,i<l.length->Zc l i≠a):Yc k l a = -1 :=
 Zh7 fun x hx e=>by
  obtain ⟨i,r,q⟩:=Zwf hx
  exact h i r (q.trans e)
section
variable {Y:Sys} {h h':Za}
structure Zrk (Y:Sys):Prop where
 S:Zke Y
 Bin:Y.Has 197 Y197
 NaN2:Y.Has 214 Y214
 Place:Y.Has 181 Y181
theorem Zpy (S:Zrk Y) {a:Int} {R:Value->Za->Prop} (r:R (.bool false) h):Zm Y 214 [.int .i64 a] h R:=by
 refine .of_has S.NaN2 rfl ?_
 simp [Y214,Xa.wp]
 exact r
def BsI (s:Sl) (a:Int) (l:List Int) (h0:Za) (e:List Value) (h':Za):Prop :=
 ∃ (i:Nat) (j:Nat) (v2 v3 v7 v8 v9:Value),e=[s.v,.int .i64 a,v2,v3,.int .i64 s.n,.int .i64 i,.int .i64 j,v7,v8,v9]/\i<=j/\j<=s.n/\(∀ k,k<i->Zc l k<a)/\(∀ k,j<=k->k<s.n->a<=Zc l k)/\h'=h0
theorem Zax (S:Zrk Y) {s:Sl} {l:List Int} (r:Zz h s l) (aa:s.n<=1000000) (hs:Zbf l) {a:Int} {R:Value->Za->Prop} (H:R (.int .i64 (Yc 0 l a)) h):Zm Y 181 [s.v,.int .i64 a] h R:=by
 refine .of_has S.Place rfl ?_
 have hl:=r.len
 simp [Y181,Xa.wp]
 refine .of_has S.Bin rfl ?_
 simp [Y197,Xa.wp]
 refine Zj (BsI s a l h) (fun e _=>Zo e 6-Zo e 5) ⟨0,s.n,_,_,_,_,_,rfl,by omega,by omega,fun k I=>by omega,fun k h1 h2=>by omega,rfl⟩ ?_
 rintro e h1 ⟨i,j,v2,v3,v7,v8,v9,rfl,ab,hj,D,J,hh⟩
 subst hh
 by_cases c:i<j
 ·have c':(i:Int)<j:=by omega
  obtain ⟨m,hm⟩:∃ m,m=(i+j) / 2:=⟨_,rfl⟩
  have w1:IntKind.i64.wrap ((i:Int)+j)=((i+j:Nat):Int):=by rw [Ze (by omega)]; omega
  have w2:IntKind.u64.wrap ((i+j:Nat):Int)=((i+j:Nat):Int):=Zra (by omega)
  have M:IntKind.u64.wrap ((i:Int)+j)=((i+j:Nat):Int):=by rw [Zra (by omega)]; omega
  have Z:=Zvw (u:=i+j) (j:=.i64)
  have G:=Zvw (u:=i+j) (j:=.u64)
  rw [<-hm] at Z G
  have w3:IntKind.i64.wrap (m:Int)=(m:Int):=Ze (by omega)
  have w4:IntKind.i64.wrap ((m:Int)+1)=(m:Int)+1:=Ze (by omega)
  have O:m<s.n:=by omega
  obtain ⟨t,ht⟩:∃ t,t=i+j:=⟨_,rfl⟩
  rw [<-ht] at w1 w2 M Z G
  simp [c',w1,w2,M,Z,G,w3,Zb r.ok,O,r.at O]
  refine Zml S.S ?_
  by_cases d:Zc l m<a
  ·simp [d,w4]
   have U:∀ k,k<m+1->Zc l k<a:=by
    intro k I
    rcases Xd8 k m with g | g
    ·have:=hs k m g (by omega); omega
    ·obtain rfl:k=m:=by omega
     exact d
   exact ⟨⟨m+1,j,_,_,_,_,_,rfl,by omega,hj,U,J,rfl⟩,by simp [Zo]; omega⟩
  ·simp [d]
   have V:∀ k,m<=k->k<s.n->a<=Zc l k:=by
    intro k h1 h2
    rcases Xd8 m k with g | g
    ·have:=hs m k g (by omega); omega
    ·obtain rfl:k=m:=by omega
     omega
   exact ⟨⟨i,m,_,_,_,_,_,rfl,by omega,by omega,D,V,rfl⟩,by simp [Zo]; omega⟩
 have c':¬ (i:Int)<j:=by omega
 by_cases d:i<s.n
 rotate_left
 ·have X:¬ (i:Int)<s.n:=by omega
  have hp:Yc 0 l a = -1:=Zfp (fun k I=>by have:=D k (by omega); omega)
  rw [hp] at H
  simp [c',X]
  exact H
 have X:(i:Int)<s.n:=by omega
 by_cases q:Zc l i=a
 ·have hp:Yc 0 l a=(i:Int):=by rw [Zmy (i:=i) (by omega) q (fun k I=>by have:=D k I; omega)]; simp
  rw [hp] at H
  simp [c',X,d,Zb r.ok,r.at d,q]
  exact H
 ·have hp:Yc 0 l a = -1:=by
   refine Zfp (fun k I e=>?_)
   rcases Xd8 k i with g | g
   ·have:=D k g; omega
   ·have h1:=J i (by omega) d
    rcases Xd8 i k with g2 | g2
    ·have:=hs i k g2 I; omega
    ·obtain rfl:k=i:=by omega
     exact q e
  rw [hp] at H
  simp [c',X,d,Zb r.ok,r.at d,q]
  refine Zpy S ?_
  simp
  exact H
end
end Go.Rm
