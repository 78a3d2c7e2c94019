import Derived.Test.YteifbkappfjnlaaGreatDoorT23
/- Parts. -/
set_option linter.all false
namespace Go.Rm
section
variable{α:Type}{f:α->α}{l:List α}{i:Nat}
def Zcd(f:α->α)(l:List α)(i:Nat):List α:=(l.take i).map f++l.drop i
def Zfp:(Zcd f l i).length=l.length:=by simp[Zcd];omega
def Z4r:Zcd f l 0=l:=by simp[Zcd]
def Zpq:Zcd f l l.length=l.map f:=by simp[Zcd]
def Zo9{j:Nat}(G:i<=j):(Zcd f l i)[j]? = l[j]? := by
 unfold Zcd;by_cases c:i<=l.length
 ·rw[Xjj (by simp;omega),Xjv]
  congr 1
  simp;omega
 rw[Xja (by simp;omega),Xja]
def Zql(G:i<l.length):(Zcd f l i).set i (f l[i])=Zcd f l (i+1):=by
 unfold Zcd;have e:((l.take i).map f).length=i:=by simp;omega
 rw[Xjp G,Xl4 _ _ (by omega),e,Nat.sub_self,List.set_cons_zero,Xi1 G,Xi8,Xi3]
 rfl
end
section
variable{N:Zs}{fa:Yq->Yq}{g:Int->Int}{i t x:Nat}
def sgA(fa:Yq->Yq)(N:Zs)(i:Nat):Zs:=⟨N.vs,Zcd fa N.as i,N.ts⟩
def gB(g:Int->Int)(t:Tab):Tab:=⟨t.i,t.o,t.cs.map g⟩
def sgB(fa:Yq->Yq)(g:Int->Int)(N:Zs)(t:Nat):Zs:=⟨N.vs,N.as.map fa,Zcd (gB g) N.ts t⟩
def sgC(fa:Yq->Yq)(g:Int->Int)(N:Zs)(t x:Nat):Zs:=⟨N.vs,N.as.map fa,(Zcd (gB g) N.ts t).set t ⟨(Yg N.ts t).i,(Yg N.ts t).o,Zcd g (Yg N.ts t).cs x⟩⟩
def Xet:sgA fa N 0=N:=by simp[sgA,Z4r]
def Z68:Zq (sgA fa N i).as i=Zq N.as i:=by
 have:=Zo9 (f:=fa) (l:=N.as) (Xit i);simp only[Zq,sgA,Xiy,this]
def Z8j(G:i<N.as.length){w:Int}(H:fa (Zq N.as i)=⟨(Zq N.as i).a,(Zq N.as i).b,w⟩):
  {sgA fa N i with as:=(sgA fa N i).as.set i ⟨(Zq (sgA fa N i).as i).a,(Zq (sgA fa N i).as i).b,w⟩ }=sgA fa N (i+1):=by
 rw[Z68,<-H,Vj G];simp only[sgA,Zql G]
def Xak:sgA fa N N.as.length=sgB fa g N 0:=by simp[sgA,sgB,Zpq,Z4r]
def Xac:sgB fa g N N.ts.length=⟨N.vs,N.as.map fa,N.ts.map (gB g)⟩:=by simp[sgB,Zpq]
def Xfc(ht:t<N.ts.length):sgC fa g N t 0=sgB fa g N t:=by
 have q:=Zo9 (f:=gB g) (l:=N.ts) (Xit t);have G:t<(Zcd (gB g) N.ts t).length:=by rw[Zfp];exact ht
 rw[Xju G,Xju ht] at q;have e:(⟨(Yg N.ts t).i,(Yg N.ts t).o,Zcd g (Yg N.ts t).cs 0⟩:Tab)=(Zcd (gB g) N.ts t)[t]:=by rw[Xj2 q,Z4r,V6 ht]
 simp only[sgC,sgB,e,List.set_getElem_self]
def Zvv(ht:t<N.ts.length):Yg (sgC fa g N t x).ts t=⟨(Yg N.ts t).i,(Yg N.ts t).o,Zcd g (Yg N.ts t).cs x⟩:=by
 have G:t<((Zcd (gB g) N.ts t).set t ⟨(Yg N.ts t).i,(Yg N.ts t).o,Zcd g (Yg N.ts t).cs x⟩).length:=by rw[List.length_set,Zfp];exact ht
 show Yg ((Zcd (gB g) N.ts t).set t _) t=_;rw[V6 G,List.getElem_set_self]
def Z9i(ht:t<N.ts.length)(hx:x<(Yg N.ts t).cs.length){w:Int}(G:w=g (Zm (Yg N.ts t).cs x)):
  {sgC fa g N t x with ts:=(sgC fa g N t x).ts.set t ⟨(Yg (sgC fa g N t x).ts t).i,(Yg (sgC fa g N t x).ts t).o,(Yg (sgC fa g N t x).ts t).cs.set x w⟩ }=sgC fa g N t (x+1):=by
 rw[Zvv ht];have e:w=g ((Yg N.ts t).cs[x]):=by rw[G];simp[Zm,hx]
 subst e;simp only[sgC,List.set_set,Zql hx]
def Xa1(ht:t<N.ts.length):sgC fa g N t (Yg N.ts t).cs.length=sgB fa g N (t+1):=by
 simp only[sgC,sgB,Zpq];rw[<-Zql ht,V6 ht]
 rfl
def Zwn:(sgA fa N i).as.length=N.as.length/\(sgA fa N i).ts=N.ts/\(sgB fa g N t).ts.length=N.ts.length/\(sgC fa g N t x).ts.length=N.ts.length:=by
 simp[sgA,sgB,sgC,Zfp]
def scA(k:Int)(t:Yq):Yq:=⟨t.a,t.b,Xf k t.c⟩
def Z3x{k:Int}:(⟨N.vs,N.as.map (scA k),N.ts.map (gB (Xf k))⟩:Zs)=Ub k N:=rfl
end
end Go.Rm





namespace Go.Rm
def OvR(h:Zk)(S:Zf)(op:Nat)(N:Zs)(L:Za):Prop:=∀k,Mod S h k->Uq k op N L
def OvR.then{h h':Zk}{S S':Zf}{op:Nat}{N:Zs}{L:Za}(v:OvR h S op N L)(m:Mod S h h')(G:∀b,S' b->S b\/h.size<=b):OvR h' S' op N L :=
 fun k mk=>v k (m.then mk fun i H h=>by rcases G i h with q|q;exact q;omega)
structure Zy6(Y:Sys):Prop where
 M16:Zpe Y
 may:Y.cL 327 Y327
 ready:Y.cL 330 Y330
 Ready:Y.cL 340 Y340
 O17:Z3t Y
 A:Z6m Y
section
variable{Y:Sys}{h h':Zk}
def Zr8(X:Zy6 Y){G H I s:Sl}{N:Zs}{L:Za}(r:W7 h G H I N)(q:Wm h s L)(J:s.n<=9223372036854775807){R:Ze}(U:∀h',Ext h h'->R (.bool (Zp1 N && Zef N.vs.length L)) h'):Zu Y 327 [Xq G H I,X7 s] h R:=by
 refine .o X.may ?_;have lv:=r.rv.len;simp[Y327,Yw.wp,Xq,X7];refine Zo ?_;intro A h1 g1 A1 e1;replace A1:Yo h1 A #[G.v,H.v,I.v]:=A1;simp;refine Zo ?_;intro B h2 g2 B2 e2;replace B2:Yo h2 B #[s.v]:=B2;have x2:=e1.trans e2;simp[Ye (A1.cC e2)];rw[show (Value.agg #[G.v,H.v,I.v])=Xq G H I from rfl];refine Z0h X.M16 (r.cC x2) ?_;intro h3 e3;have O:=x2.trans e3
 cases hm:Zp1 N with
 |false =>
  simp;have:=U h3 O;simpa[hm] using this
 |true =>
  simp[((A1.cC e2).cC e3).hc,Ye (B2.cC e3)];rw[show (Value.agg #[s.v])=X7 s from rfl,<-lv];refine Zxw X.M16 (q.cC O) J ?_;intro h4 e4;simp;have:=U h4 (O.trans e4);simpa[hm] using this
structure Z23(h0 h:Zk)(p op:Nat)(sc:Sl)(N:Zs)(L:Za)(S:Zf)(cN:Zb):Prop where
 ex:Ext h0 h
 g:Xi h p N S
 v:OvR h S op N L
 rc:Zv h sc cN
 hE:Qu N L cN
 fc:cN≠[]->¬S sc.b
 lo:∀b,S b->h0.size<=b
def Mod.weak{S:Zf}{h h':Zk}(e:Ext h h'):Mod S h h':=e.mono fun _ _ h=>h.elim
def Z5g(Y:Sys):Prop:=∀(h:Zk)(R:Ze),(∀h',Ext h h'->R (.bool true) h')->Zu Y 326 [] h R
def Zz9{N:Zs}{L:Za}(h:(Zp1 N && Zef N.vs.length L)=true):Zbo N=true/\Yn N/\Yr N.vs.length L:=by
 simp[Zp1,Zef] at h;exact⟨h.1.1,Zi8.1 h.1.2,Zwb.1 h.2.2⟩
def Zrh(X:Zy6 Y){G H I s:Sl}{N:Zs}{L:Za}(r:W7 h G H I N)(q:Wm h s L)(hf:Zbo N=true)(ok:Yn N)(pk:Yr N.vs.length L){R:Ze}
  (hr:∀h' p op sc S cN,Z23 h h' p op sc N L S cN->R (.tuple #[Zh p,Zh op,sc.v,.bool true]) h'):Zu Y 340 [Xq G H I,X7 s] h R:=by
 refine .o X.Ready ?_;simp[Y340,Yw.wp,Xq,X7];refine Zo ?_;intro A h1 gA A1 e1;replace A1:Yo h1 A #[G.v,H.v,I.v]:=A1;simp;refine Zo ?_;intro B h2 gB B2 e2;replace B2:Yo h2 B #[s.v]:=B2;have x2:=e1.trans e2;have A2:=A1.cC e2;have z1:=e1.size;have z2:=e2.size;simp[Ye A2,Ye B2];rw[show (Value.agg #[G.v,H.v,I.v])=Xq G H I from rfl];refine Znr X.O17.MF (r.cC x2) hf ok ?_;intro h3 p S e3 g hS;have J:=x2.trans e3;simp[Ye (A2.cC e3),Ye (B2.cC e3)];rw[show (Value.agg #[G.v,H.v,I.v])=Xq G H I from rfl,show (Value.agg #[s.v])=X7 s from rfl];refine⟨rfl,?_⟩;refine Zte X.O17 (r.cC J) (q.cC J) hf ok pk ?_;intro h4 op e4 ab fo;have x4:=J.trans e4;have gl:=g.lt;have v4:OvR h4 S op N L:=fun k mk=>fo k (mk.mono fun j _ hj=>gl j hj);have O:=g.cC e4;simp;refine Z38 X.A O (v4 h4 (Mod.refl _)) ok pk ?_;intro h5 cb C U ac o5 hE;have aa:=O.lt;simp;refine hr h5 p op (Sl.at cb _ _) S C ⟨x4.trans U,O.cC U,v4.then (S':=S) (Mod.weak U) (fun b hb=>.inl hb),o5.cE,hE,fun _ hb=>by have:=aa _ hb;simp only[Sl.at_b] at this;omega,fun b hb=>?_⟩;have:=hS b hb;omega
def Zez(X:Zy6 Y){G H I q:Sl}{N:Zs}{L:Za}(r:W7 h G H I N)(U:Wm h q L)(hf:Zbo N=true)(ok:Yn N)(pk:Yr N.vs.length L){R:Ze}
  (hr:∀h' p op J S cN,Z23 h h' p op J N L S cN->R (.tuple #[Zh p,Zh op,J.v,.bool true]) h'):Zu Y 330 [Xq G H I,X7 q,Zi] h R:=by
 refine .o X.ready ?_;simp[Y330,Yw.wp,Xq,X7];refine Zo ?_;intro A h1 gA A1 e1;replace A1:Yo h1 A #[G.v,H.v,I.v]:=A1;simp;refine Zo ?_;intro B h2 gB B2 e2;replace B2:Yo h2 B #[q.v]:=B2;have O:=e1.trans e2;have A2:=A1.cC e2;have z2:=O.size;simp[Ye A2,Ye B2];rw[show (Value.agg #[G.v,H.v,I.v])=Xq G H I from rfl,show (Value.agg #[q.v])=X7 q from rfl];refine Zrh X (r.cC O) (U.cC O) hf ok pk ?_;intro h3 p op J S cN R3;simp;refine Zp (fun e h'=>e=_/\h'=h3) (fun _ _=>0) ⟨rfl,rfl⟩ ?_;rintro e h4 ⟨rfl,rfl⟩;simp;exact hr h4 p op J S cN ⟨O.trans R3.ex,R3.g,R3.v,R3.rc,R3.hE,R3.fc,fun b hb=>by have:=R3.lo b hb;omega⟩
def prC(l:List (Int × Int)):Zc:=l.flatMap fun e=>[Zg e.1,Zg e.2]
def Z9l{l:List (Int × Int)}:(prC l).length=l.length * 2:=by
 induction l with
 |nil=>rfl
 |cons a r G=>simp only[prC,Xkh,List.length_append,Xjc];simp only[prC] at G;rw[G];simp;omega
def Xas{l m:List (Int × Int)}:prC (l++m)=prC l++prC m:=by simp[prC]
def Z7l{l:List (Int × Int)}:∀{i:Nat},i<l.length->(prC l)[i * 2]? = some (Zg (Xp l i).1)/\(prC l)[i * 2+1]? = some (Zg (Xp l i).2):=by
 induction l with
 |nil=>intro i h;simp at h
 |cons a r G =>
  intro i h;have e:prC (a::r) = Zg a.1 :: Zg a.2::prC r:=by simp[prC]
  rw[e]
  cases i with
  |zero=>simp[Xp]
  |succ i =>
   have:=G (i:=i) (by simpa using h);rw[show (i+1) * 2=i * 2+1+1 by omega];simpa[Xp] using this
def Yi.rowE2{s:Sl}{l:List (Int × Int)}(o:Yi h 2 s (prC l)):Za3 h s l:=by
 have H:=o.1;rw[Z9l] at H;refine⟨o.ok,by omega,fun i G=>o.cell (Z7l G).1,fun i G=>?_⟩;rw[Xjw];exact o.cell (Z7l G).2
def Xe4(A C:Nat)(j:Ws)(s:Sl)(v0 v2:Zj)(h0:Zk)(e:Zc)(h':Zk):Prop :=
 ∃(i:Nat)(u:Sl)(v5:Zj),e=[v0,Zh A,v2,Zh C,Zg i,v5]/\i<=j.st.length/\Yi h' 2 u (prC (j.st.take i))/\(u.nl=false->h0.size<=u.b)/\Yo h' C #[Zg j.dep,Zg j.cap,Zg j.lim,u.v]/\(u.nl=false->u.b≠C)/\Ext h0 h'
def Zz0(H:Y.cL 334 Y334){j:Ws}{s:Sl}(r:Za3 h s j.st)(hb:j.st.length<=1000){R:Ze}
  (hr:∀h' u,Ext h h'->Za3 h' u j.st->R (X0 j u) h'):Zu Y 334 [X0 j s] h R:=by
 have ls:=r.len;refine .o H ?_;simp[Y334,Yw.wp,X0];refine Zo ?_;intro A h1 gA A1 e1;replace A1:Yo h1 A #[Zg j.dep,Zg j.cap,Zg j.lim,s.v]:=A1;simp;refine Zo ?_;intro B X gB B2 e2;replace B2:Yo X B #[Zg 0,Zg 0,Zg 0,Zi]:=B2;have A2:=A1.cC e2;have aa:∀g (x y z:Int),Ym.cK Y g (.build #[Zg 0,Zg 0,Zg 0,Zi] [(0,1),(1,1),(2,1),(3,1)] [0,1,2]) [Zg x,Zg y,Zg z]=some (.agg #[Zg x,Zg y,Zg z,Zi]):=fun g x y z=>rfl;simp[A2.hc,aa];refine Zo ?_;intro C h3 gC C3 e3;replace C3:Yo h3 C #[Zg 0,Zg 0,Zg 0,Zi]:=C3;simp;refine Zz (vs:=#[Zg j.dep,Zg j.cap,Zg j.lim,Zi]) C3 ?_;intro h4 C4 m4;have z1:=e1.size;have x2:=e1.trans e2;have x4:Ext X h4:=Mod.cG e3 m4 gC;simp;refine Zp (Xe4 A C j s (.agg #[Zg j.dep,Zg j.cap,Zg j.lim,s.v]) (Zh B) X) (fun e _=>j.st.length-Zw e 4) ⟨0,Sl.nil,_,rfl,by omega,Yi.nil,fun h=>(by cases h),C4,fun h=>(by cases h),x4⟩ ?_;rintro e h5 ⟨i,u,v5,rfl,hi,ou,fu,C5,nu,I⟩;have A5:=A2.cC I;have r5:=r.cC (x2.trans I);have lu:=ou.rowE2.len;simp at lu;by_cases c:i<j.st.length;rotate_left
 ·have c':¬(i:Int)<s.n:=by omega
  have:i=j.st.length:=by omega
  subst this;rw[Xj0] at ou;simp[A5.hc,c',Ye C5];have B5:=B2.cC I;refine Zz (vs:=#[Zg j.dep,Zg j.cap,Zg j.lim,u.v]) B5 ?_;intro h6 B6 m6;simp;refine Vc rfl B6 rfl ?_;have lB:=B2.lt;refine hr h6 u (Mod.cC (x2.trans I) m6 (fun j hj=>by omega)) ?_;refine Yi.rowE2 (ou.cD m6 (fun q hb=>by have:=fu q;omega))
 have c':(i:Int)<s.n:=by omega
 have ci:i<s.n:=by omega
 have w1:=wrapS (i:=i);have ab:∀g (x y:Int),Ym.cK Y g (.build #[Zg 0,Zg 0] [(0,1),(1,1)] [0,1]) [Zg x,Zg y]=some (.agg #[Zg x,Zg y]):=fun g x y=>rfl;simp[A5.hc,c',C5.hc,Zl r5.ok,ci,r5.v0 i c,r5.v1 i c,ab];refine Wk rfl rfl rfl ?_;intro G h6 gG G6 J o6;replace G6:Yo h6 G #[Zg (Xp j.st i).1,Zg (Xp j.st i).2]:=G6;simp[(C5.cC J).hc];refine Zgk rfl (ou.cF J) G6 rfl rfl ?_;intro u' h7 o7 n7 m7 O;have z6:=J.size;have lC:=C5.lt;have C7:=m7.cM (C5.cC J) (fun q=>nu q.1 q.2.symm);simp;refine stB C7 (by simp) ?_;intro h8 C8 m8;simp[w1];have x7:Ext X h7:=Mod.cC (I.trans J) m7 (fun j hj=>by have:=fu hj.1;omega);have U:u'.nl=false->u'.b≠C:=fun q=>by
  rcases O with⟨a,b⟩|⟨a,b⟩
  ·rw[a];exact nu (by rw[<-b];exact q)
  omega
 refine nx ⟨i+1,u',_,rfl,by omega,?_,fun q=>?_,by simpa using C8,U,Mod.cC x7 m8 (fun j hj=>by omega)⟩
 ·have e:prC (j.st.take (i+1))=prC (j.st.take i)++[Zg (Xp j.st i).1,Zg (Xp j.st i).2]:=by
   rw[Xi1 c,Xas];simp[prC,Xp,c]
  rw[e];exact o7.cD m8 (fun q hb=>U q hb)
 rcases O with⟨a,b⟩|⟨a,b⟩
 ·rw[a];exact fu (by rw[<-b];exact q)
 omega
def SrI(s t:Sl)(m:Nat)(as bs:List Zd)(h0:Zk)(e:Zc)(h':Zk):Prop :=
 ∃(i:Nat)(v2 v4 v5 v6:Zj),e=[s.v,t.v,v2,Zg i,v4,v5,v6]/\i<=m/\(∀k (h1:k<as.length) (h2:k<bs.length),k<i->as[k]=bs[k])/\h'=h0
def Zjz(H:Y.cL 338 Y338)(HE:Y.cL 105 Y105){s t:Sl}{as G:List Zd}{sl O:Nat->Sl}{W:Zf}(U:Um W h s as sl)(X:Um W h t G O)(hb:as.length<=1000/\∀r,r∈as->r.length<=1000){R:Ze}
  (J:R (.bool (decide (as=G))) h):Zu Y 338 [s.v,t.v] h R:=by
 have la:=U.len;have lb:=X.len;refine .o H ?_;by_cases q:as.length=G.length;rotate_left
 ·have q1:¬((s.n:Int)=(t.n:Int)):=by omega
  have q2:¬(s.n=t.n):=by omega
  have e:decide (as=G)=false:=decide_eq_false (fun e=>q (by rw[e]));rw[e] at J;simp[Y338,Yw.wp,q1,q2];exact J
 have q2:s.n=t.n:=by omega
 simp[Y338,Yw.wp,q2];refine Zp (SrI s t as.length as G h) (fun e _=>as.length-Zw e 3) ⟨0,_,_,_,_,rfl,by omega,fun k _ _ h=>by omega,rfl⟩ ?_;rintro e h1 ⟨i,v2,v4,v5,v6,rfl,hi,I,rfl⟩;by_cases c:i<as.length;rotate_left
 ·have c':¬(i:Int)<s.n:=by omega
  have e:decide (as=G)=true:=decide_eq_true (Xjd q fun k h1 h2=>I k h1 h2 (by omega));rw[e] at J;simp[c'];exact J
 have c':(i:Int)<s.n:=by omega
 have ci:i<s.n:=by omega
 have cj:i<t.n:=by omega
 have w1:=wrapS (i:=i);obtain⟨ha,xa,_⟩:=U.val i c;obtain⟨aa,xb,_⟩:=X.val i (by omega);have ab:=xa.len;simp at ab;have ll:=hb.2 as[i] (Xiv c);simp[c',Zl U.ok,Zl X.ok,ci,cj,ha,aa];refine Zmd HE xa xb (by omega) ?_;have ac:decide (Xb as[i]=Xb (G[i]'(by omega)))=decide (as[i]=G[i]'(by omega)):=by
  congr 1
  apply propext;constructor
  ·intro e;have:=congrArg (List.map Int.toNat) e;simpa[Xb,Xkc,Function.comp_def] using this
  intro e;rw[e]
 rw[ac];by_cases z:as[i]=G[i]'(by omega)
 ·simp[z,w1];refine nx ⟨i+1,_,_,_,_,rfl,by omega,fun k h1 h2 h3=>?_,rfl⟩;by_cases y:k=i
  ·subst y;exact z
  exact I k h1 h2 (by omega)
 have e:decide (as=G)=false:=decide_eq_false (fun e=>z (by simp[e]));rw[e] at J;simp[z];exact J
end
def region{N:Zs}{L:Za}:∀{K:Nat},∀{j:Nat},j<Yf N L K->∃k c r,k<K/\c<Yz L k/\r<Zbd N L k c/\j=Yf N L k+Xe N L k c+r:=by
 intro K
 induction K with
 |zero=>intro j h;simp[Yf] at h
 |succ K I =>
  intro j h;rcases Xiw j (Yf N L K) with q|q
  ·obtain⟨k,c,r,h1,G⟩:=I q;exact⟨k,c,r,by omega,G⟩
  have:∀c,j<Yf N L K+Xe N L K c->∃c' r,c'<c/\r<Zbd N L K c'/\j=Yf N L K+Xe N L K c'+r:=by
   intro c
   induction c with
   |zero=>intro h;simp[Xe] at h;omega
   |succ c H =>
    intro h;rcases Xiw j (Yf N L K+Xe N L K c) with w|w
    ·obtain⟨c',r,a,b⟩:=H w;exact⟨c',r,by omega,b⟩
    simp only[Xe] at h;exact⟨c,j-(Yf N L K+Xe N L K c),by omega,by omega,by omega⟩
  obtain⟨c',r,h1,G,J⟩:=this (Yz L K) h;exact⟨K,c',r,by omega,h1,G,J⟩
def Zr1{N:Zs}(ok:Yn N){ce:Nat->Int}{c:Int}{a b:Nat}(R:a<N.as.length){d:Int}(h:U3 (Zf2 N ce c a b) d):d=1152921504606846976\/(0<=d/\d<=70370892000000):=by
 rcases h.is with e|⟨x,y,w,t,e⟩
 ·exact .inl e
 right;have G:∀a b w,EdC N ce c a b w->b<N.as.length/\w<=4294967296:=fun a b w e=>by
  obtain⟨⟨U,e2,e3⟩,_⟩:=e;obtain⟨i,X,li⟩:=Uc e2;have h1:=Xu ok (a:=a) (b:=b);have I:=Xy ok (a:=b);exact⟨by omega,by omega⟩
 have pos:∀a b w,EdC N ce c a b w->0<=w:=fun a b w e=>Zd2 ok e.1;obtain⟨l,c',h1,I⟩:=Zy9 pos w;obtain⟨J,O,b3,b4⟩:=h1.bound (n:=N.as.length) (M:=4294967296) (by omega) (fun b c H=>⟨by have:=H.1;omega,H.2⟩) G;have hl:=Zat J O;have ba:=ok.ba;have ht:=(Xu ok (a:=(x:Int)) (b:=(b:Int))).resolve_left t;have hy:=Za5 ok w;have:=h.all (c'+Yp N x b) ⟨x,c',h1.walk,t,rfl⟩;have hx:(l.length:Int)<=16384:=by omega
 omega
def Z8g{k:Int}{φ ψ:Nat->Int}{N N':Zs}(R:Z2i k φ N N')(hψ:∀a b:Nat,Yp N a b≠1152921504606846976->φ a=ψ b){ce:Nat->Int}{c:Int}{a b:Nat}(ha:a<N.as.length){d H:Int}(hb:0<=ψ b/\ψ b<=255)(h:U3 (Zf2 N ce c a b) d)(h':U3 (Zf2 N' ce c a b) H):PC k 1 d H (φ a-ψ b):=by
 have hB:((1:Nat):Int) * BIG=1125899906842624:=by decide
 have k1:=R.k1;have f1:=R.φ0 a;have ab:Xo=1152921504606846976:=rfl;have b1:=Zr1 R.ok ha h;have b2:=Zr1 R.ok' (by rw[R.len];exact ha) h';have hI:∀b c,AtI a b c->AtI a b c/\c=0/\b=a:=fun b c I=>⟨I,I.2,I.1⟩
 have to:∀x y w,EdC N ce c x y w->EdC N' ce c x y (k * w+φ x-φ y):=fun x y w e=>⟨R.to _ _ _ e.1,by rw[R.fr];exact e.2.1,by rw[R.tc];exact e.2.2⟩
 have of:∀x y w',EdC N' ce c x y w'->∃w,EdC N ce c x y w/\w'=k * w+φ x-φ y:=fun x y w' e=>by
  obtain⟨w,e1,e2⟩:=R.of _ _ _ e.1;exact⟨w,⟨e1,by rw[<-R.fr];exact e.2.1,by rw[<-R.tc];exact e.2.2⟩,e2⟩
 have J:∀x,Zf2 N ce c a b x->Zf2 N' ce c a b (k * x+φ a-ψ b):=fun x hx=>by
  obtain⟨y,z,w,t,e⟩:=hx;refine⟨y,_,Zsq hI to w,fun q=>t ((R.ti y b).1 q),?_⟩;rw[R.tn y b t,<-hψ y b t,e,Xk0];omega
 have G:∀O,Zf2 N' ce c a b O->∃x,Zf2 N ce c a b x/\O=k * x+φ a-ψ b:=fun O hx=>by
  obtain⟨y,z,w,t,e⟩:=hx;have U:Yp N y b≠1152921504606846976:=fun q=>t ((R.ti y b).2 q);obtain⟨z0,w0,e0⟩:=Znv hI of w;refine⟨_,⟨y,z0,w0,U,rfl⟩,?_⟩;rw[e,e0,R.tn y b U,<-hψ y b U,Xk0];omega
 rcases b1 with e|⟨X,p2⟩
 ·left;refine⟨e,?_⟩;rcases b2 with e'|⟨q1,q2⟩
  ·exact e'
  exfalso;obtain⟨x,x1,x2⟩:=G _ (h'.is.resolve_left (by omega));have:=h.all x x1;have:1 * x<=k * x:=Xkd k1.1 (by omega);omega
 right;have f:=h'.all _ (J _ (h.is.resolve_left (by omega)));have km:k * d<=100 * 70370892000000:=Xj4 k1.2 p2 X (by omega);have kp:0<=k * d:=Xjl (by omega) X;have aa:H≠1152921504606846976:=by omega
 obtain⟨x,x1,x2⟩:=G _ (h'.is.resolve_left aa);have:=h.all x x1;have:k * d<=k * x:=Xmk this (by omega);refine⟨X,by omega,?_,by omega,by omega⟩;rcases b2 with e'|⟨q1,q2⟩<;>omega
section
variable{f:Yq->Int}{g:Int->Int}{N:Zs}{L:Za}
def Xdk{p:Yq->Bool}(hp:∀t,p ⟨t.a,t.b,f t⟩=p t){l:List Yq}:∀{k:Nat},Us p k (l.map fun t=>(⟨t.a,t.b,f t⟩:Yq))=Us p k l:=by
 induction l with
 |nil=>intro k;rfl
 |cons t l G =>
  intro k;rw[Xjm,Us,Us,hp,G]
def Zcj{k:Nat}{x:Bool}{c:Nat}:Zx (reN f g N) L k x c=Zx N L k x c:=by
 unfold Zx Zcn Qr;have h1:Us (Zan (lvl L ((k:Int)+1))) 0 (reN f g N).as=Us (Zan (lvl L ((k:Int)+1))) 0 N.as:=Xdk (f:=f) (fun t=>rfl);rw[h1]
 congr 1
 funext a
 rw[(Zd1 (f:=f) (g:=g) (N:=N) (i:=a.toNat)).1,(Zd1 (f:=f) (g:=g) (N:=N) (i:=a.toNat)).2]
def Zh3{k c:Nat}:Xe (reN f g N) L k c=Xe N L k c:=by
 induction c with
 |zero=>rfl
 |succ c G =>
  unfold Xe Zbd;rw[G,Zcj,Zcj]
def Zfv{k:Nat}:Yf (reN f g N) L k=Yf N L k:=by
 induction k with
 |zero=>rfl
 |succ k G =>
  unfold Yf;rw[G,Zh3]
end
def Z9f{k:Int}{φ ψ:Nat->Int}{f U:Yq->Int}{g X:Int->Int}{N:Zs}(R:Z2i k φ (reN f g N) (reN U X N))(hψ:∀a b:Nat,Yp (reN f g N) a b≠1152921504606846976->φ a=ψ b)(h0:∀b,0<=ψ b/\ψ b<=255){L:Za}(pk:Yr N.vs.length L){C C':Zb}(hC:Qu (reN f g N) L C)(aa:Qu (reN U X N) L C'){j:Nat}(hj:j<C.length):
  ∃q c i o a b:Nat,q<L.length/\c<Yz L q/\i<(Zx N L q false c).length/\o<(Zx N L q true c).length/\Zm (Zx N L q false c) i=a/\Zm (Zx N L q true c) o=b/\j=Yf N L q+Xe N L q c+(i * (Zx N L q true c).length+o)/\PC k 1 (Zm C j) (Zm C' j) (φ a-ψ b):=by
 have H:=R.ok;have I:Yr (reN f g N).vs.length L:=pk;have hl:=hC.len;obtain⟨q,c,r,J,hc,O,e⟩:=region (N:=reN f g N) (L:=L) (K:=L.length) (by rw[<-hl];exact hj);unfold Zbd at O;rw[Zcj,Zcj] at O;rw[Zfv,Zh3] at e;have ho:0<(Zx N L q true c).length:=by
  rcases Xk3 (Zx N L q true c).length with z|z
  ·rw[z] at O;simp at O
  exact z
 have hi:r / (Zx N L q true c).length<(Zx N L q false c).length:=Nat.div_lt_of_lt_mul (by rw[Nat.mul_comm];exact O);have G:=Xkv r ho;have g1:Zx (reN f g N) L q false c=Zx N L q false c:=Zcj;have g2:Zx (reN f g N) L q true c=Zx N L q true c:=Zcj;have g3:Zx (reN U X N) L q false c=Zx N L q false c:=Zcj;have g4:Zx (reN U X N) L q true c=Zx N L q true c:=Zcj;obtain⟨a,ea,la⟩:=Vh I H J (Zy.2 ⟨_,by rw[g1];exact hi,rfl⟩);obtain⟨b,eb,_⟩:=Vh I H J (Zy.2 ⟨_,by rw[g2];exact G,rfl⟩);rw[g1] at ea;rw[g2] at eb;have c1:=hC.inn q c J hc _ _ a b (by rw[g1];exact hi) (by rw[g2];exact G) (by rw[g1];exact ea) (by rw[g2];exact eb);have c2:=aa.inn q c J hc _ _ a b (by rw[g3];exact hi) (by rw[g4];exact G) (by rw[g3];exact ea) (by rw[g4];exact eb);rw[Zfv,Zh3,g2,Xml,<-e] at c1;rw[Zfv,Zh3,g4,Xml,<-e] at c2;exact⟨q,c,_,_,a,b,J,hc,hi,G,ea,eb,by rw[Xml];exact e,Z8g R hψ la (h0 b) c1 c2⟩
def Zn7{m:Nat}{rs as:List Zd}(o:Wg m rs)(h:as∈Zie rs):Wg m as:=by
 unfold Zie tnR tnA tnB at h;simp only[Xme,Xll,Xmg] at h;obtain⟨r,G,a,H,q,hq,e⟩:=h;subst e;refine o.set G ?_;rw[Qy G];exact Ziy
def Znk{m:Nat}{rs as:List Zd}(o:Wg m rs)(h:as∈Zmn rs):Wg m as:=by
 unfold Zmn mvF mvA mvT mvB at h;simp only[Xme,Xmg] at h;obtain⟨r,G,a,H,t,ht,b,hb,e⟩:=h
 split at e
 ·simp at e
 simp at e;subst e;rw[Qy G] at H;exact Z6g o G H ht
section
variable{k:Int}{u:Nat->Int}{D D':Za}{j j':Ws}
def Wg.small{m:Nat}{rs:List Zd}(o:Wg m rs)(I:m<=32):(∀r,r∈rs->∀x,x∈r->x<m+1)/\rs.flatten.length+rs.length<=64/\∀r,r∈rs->r.length<=32:=by
 have h1:=o.len;have J:=o.rows;refine⟨fun r G x hx=>by have:=o.mem (List.mem_flatten.2 ⟨r,G,hx⟩);omega,by omega,fun r G=>?_⟩;obtain⟨i,H,e⟩:=Xjh G;have:=o.row H;rw[e] at this;omega
def Zme(R:Zdn k u (j.st.length+1) D D')(G:j.st.length<=32){rs:List Zd}(o:Wg j.st.length rs):PC k 64 (Xc D rs) (Xc D' rs) 0:=by
 obtain⟨h1,H,_⟩:=o.small G;exact (Zzx R (by omega) h1 (by omega)).grow H
def Z9g(R:Zdn k u (j.st.length+1) D D')(J:Zjw k j j')(H:j.st.length<=32){rs:List Zd}(o:Wg j.st.length rs):rs.all (Xj j' D')=rs.all (Xj j D):=by
 obtain⟨h1,_,I⟩:=o.small H;have:∀l:List Zd,(∀r,r∈l->r∈rs)->l.all (Xj j' D')=l.all (Xj j D):=by
  intro l
  induction l with
  |nil=>intro _;rfl
  |cons r l O =>
   intro h;have G:=h r (by simp);rw[Xlf,Xlf,O (fun s U=>h s (by simp[U])),Ztx R J (by omega) (h1 r G) (by have:=I r G;omega)]
 exact this rs (fun r h=>h)
def Ztt(R:Zdn k u (j.st.length+1) D D')(J:Zjw k j j')(I:j.st.length<=32):∀{l:List (List Zd)}{y y':Int × Option (List Zd)},(∀as,as∈l->Wg j.st.length as)->PC k 64 y.1 y'.1 0->y'.2=y.2->PC k 64 (l.foldl (Zci j D) y).1 (l.foldl (Zci j' D') y').1 0/\(l.foldl (Zci j' D') y').2=(l.foldl (Zci j D) y).2:=by
 intro l
 induction l with
 |nil=>intro y y' _ h1 G;exact⟨h1,G⟩
 |cons as l U =>
  intro y y' h h1 G;have o:=h as (by simp);have t:=Zme R I o;have O:=t.lt R.k1.1 (by omega) h1;have H:=Z9g R J I o;have key:PC k 64 (Zci j D y as).1 (Zci j' D' y' as).1 0/\(Zci j' D' y' as).2=(Zci j D y as).2:=by
   unfold Zci;rw[H];by_cases c:Xc D as<y.1/\as.all (Xj j D)=true
   ·rw[if_pos c,if_pos ⟨O.1 c.1,c.2⟩];exact⟨t,rfl⟩
   rw[if_neg c,if_neg (fun q=>c ⟨O.2 q.1,q.2⟩)];exact⟨h1,G⟩
  exact U (fun a H=>h a (by simp[H])) key.1 key.2
def Z2a(R:Zdn k u (j.st.length+1) D D')(J:Zjw k j j')(G:j.st.length<=32){rs:List Zd}(o:Wg j.st.length rs):PC k 64 (Ul j D rs).1 (Ul j' D' rs).1 0/\(Ul j' D' rs).2=(Ul j D rs).2:=by
 unfold Ul;have h1:=Ztt R J G (l:=Zie rs) (y:=(Xc D rs,none)) (y':=(Xc D' rs,none)) (fun as h=>Zn7 o h) (Zme R G o) rfl;exact Ztt R J G (fun as h=>Znk o h) h1.1 h1.2
def Zqt{rs:List Zd}(o:Wg j.st.length rs)(g:rs.all (Xj j D)=true):Wg j.st.length (Zak j D rs).1/\(Zak j D rs).1.all (Xj j D)=true/\(Ul j D rs).1<=Xc D rs/\Xc D (Zak j D rs).1=(Ul j D rs).1:=by
 have key:∀{l:List (List Zd)}{y:Int × Option (List Zd)},(∀as,as∈l->Wg j.st.length as)->Zzj j D rs y->Zzj j D rs (l.foldl (Zci j D) y):=by
  intro l
  induction l with
  |nil=>intro y _ h;exact h
  |cons as l H =>
   intro y h p;refine H (fun a I=>h a (by simp[I])) ?_;unfold Zci
   split
   ·rename_i c;have G:=X2 (D:=D) (rs:=as);exact⟨G.1,by have:=p.2.1;show Xc D as<=_;omega,fun q=>by simp at q,fun b hb=>by simp at hb;subst hb;exact⟨h as (by simp),c.2,rfl⟩⟩
   exact p
 have G:=X2 (D:=D) (rs:=rs);have p:Zzj j D rs (Ul j D rs):=key (fun as h=>Znk o h) (key (fun as h=>Zn7 o h) ⟨G.1,Xka _,fun _=>rfl,fun b hb=>by simp at hb⟩);have n1:(Zak j D rs).1=(Ul j D rs).2.getD rs:=rfl;rw[n1]
 cases hy:(Ul j D rs).2 with
 |none=>exact⟨o,g,p.2.1,(p.2.2.1 hy).symm⟩
 |some b =>
  obtain⟨J,O,R⟩:=p.2.2.2 b hy;exact⟨J,O,p.2.1,R.symm⟩
def Zin{rs:List Zd}(R:Zdn k u (j.st.length+1) D D')(hm:j.st.length<=32)(o:Wg j.st.length rs)(g:rs.all (Xj j D)=true):0<=Xc D rs/\Xc D rs<=64 * BIG/\Xc D' rs=k * Xc D rs:=by
 obtain⟨h1,h2,h3⟩:=o.small hm;have key:∀(l:List Zd)(c c':Int)(q:Nat),(∀r,r∈l->r∈rs)->q+(l.flatten.length+l.length)<=64->0<=c->c<=q * BIG->0<=c'->c'<=q * BIG->c'=k * c->l.foldl (fun c r=>Qb c (Wl D r)) c≠1152921504606846976:=by
  intro l
  induction l with
  |nil =>
   intro c c' q _ hq H a2 _ _ _;have hb:(q:Int) * BIG<=64 * BIG:=Xkd (by simp at hq;omega) (by decide);have h5:(64:Int) * BIG=72057594037927936:=by decide
   simp only[List.foldl_nil];omega
  |cons r l ih =>
   intro c c' q hs hq H a2 a3 a4 a5;rw[Xkz,List.length_append,Xjc] at hq;have I:=hs r (by simp);have hx:=Zgx R (by omega) (h1 r I) (by have:=h3 r I;omega);have hg:=List.all_eq_true.1 g r I;have J:=of_decide_eq_true hg;rcases hx with⟨G,_⟩|hx
   ·have:=J.2.1;omega
   have hc:PC k q c c' 0:=.inr ⟨H,a2,a3,a4,by omega⟩;have h4:=hc.add (by omega) (.inr hx);rw[show (0:Int)+0=0 by rfl] at h4;have b1:(q:Int) * BIG<=64 * BIG:=Xkd (by omega) (by decide);have b2:((r.length+1:Nat):Int) * BIG<=64 * BIG:=Xkd (by omega) (by decide);have h5:(64:Int) * BIG=72057594037927936:=by decide
   have O:Qb c (Wl D r)=c+Wl D r:=by
    unfold Qb;rw[Qw H,Qw hx.1];exact Qw
   rcases h4 with⟨U,_⟩|⟨U,y2,y3,y4,y5⟩
   ·rw[O] at U;omega
   exact ih _ _ (q+(r.length+1)) (fun s X=>hs s (by simp[X])) (by omega) U y2 y3 y4 (by rw[Int.add_zero] at y5;exact y5)
 have aa:=key rs 0 0 0 (fun r h=>h) (by omega) (by omega) (by simp) (by omega) (by simp) (by omega);rcases Zme R hm o with⟨G,_⟩|⟨G,x2,_,_,x5⟩
 ·exact absurd G aa
 exact⟨G,x2,by omega⟩
def Zyz(R:Zdn k u (j.st.length+1) D D')(J:Zjw k j j')(G:j.st.length<=32){rs:List Zd}(o:Wg j.st.length rs)(g:rs.all (Xj j D)=true):(Zak j' D' rs).1=(Zak j D rs).1/\(Zak j' D' rs).2=k * (Zak j D rs).2:=by
 obtain⟨H,I⟩:=Z2a R J G o;obtain⟨O,U,b3,X⟩:=Zqt o g;have f1:=Zin R G o g;have f2:=Zin R G O U;constructor
 ·show (Ul j' D' rs).2.getD rs=(Ul j D rs).2.getD rs;rw[I]
 show Xc D' rs-(Ul j' D' rs).1=k * (Xc D rs-(Ul j D rs).1)
 have h5:(64:Int) * BIG=72057594037927936:=by decide
 rw[X] at f2;rcases H with⟨x1,_⟩|⟨x1,x2,x3,x4,x5⟩
 ·omega
 rw[f1.2.2,x5,Int.mul_sub];omega
def Z5i(R:Zdn k u (j.st.length+1) D D')(J:Zjw k j j')(hm:j.st.length<=32){rs G H:List Zd}(o:Wg j.st.length rs)(g:rs.all (Xj j D)=true)(h:Zri j D rs G)(h':Zri j' D' rs H):H=G/\Wg j.st.length G/\G.all (Xj j D)=true:=by
 have hk:=R.k1.1
 induction h generalizing H with
 |@stop rs c =>
  obtain⟨O,e2⟩:=Zyz R J hm o g;obtain⟨U,X,_⟩:=Zqt o g
  cases h' with
  |stop c'=>exact⟨O,U,X⟩
  |more c' _ =>
   rw[e2] at c';have:=Xm3 (show 0<=k by omega) c;omega
 |@more rs G c hr ih =>
  obtain⟨O,e2⟩:=Zyz R J hm o g;obtain⟨U,X,_⟩:=Zqt o g
  cases h' with
  |stop c' =>
   rw[e2] at c';have:=Int.mul_pos (show 0<k by omega) c;omega
  |more c' I =>
   rw[O] at I;exact ih U X I
end
def scT(k:Int)(x:Yq):Yq:=⟨x.a,x.b,k * x.c⟩
section
variable{k:Int}{u:Nat->Int}{n:Nat}{D D':Za}{j j':Ws}
def PC.inf{q:Nat}{a a' w:Int}(hq:q<=500)(x:PC k q a a' w:=by omega):1152921504606846976<=a↔1152921504606846976<=a':=by
 have hb:(q:Int) * BIG<=500 * BIG:=Xkd (by omega) (by decide);have I:(500:Int) * BIG=562949953421312000:=by decide
 rcases x with⟨G,H⟩|⟨G,H,J,O,R⟩<;>omega
def Z1z(R:Zdn k u n D D'){i l:Nat}(I:i<n)(J:l<n):Vq D' i l=(Vq D i l).map (scT k):=by
 have hk:=R.k1.1;have O:=R.val i 0 I (by omega);have U:=R.val 0 l (by omega) J;have X:=R.val i l I J;have i1:=O.inf;have i2:=U.inf;have i3:=X.inf;by_cases c:i=l\/1152921504606846976<=Wt D i 0\/1152921504606846976<=Wt D 0 l\/1152921504606846976<=Wt D i l
 ·have G:Vq D i l=[]:=by unfold Vq;rw[ifP]
  have e2:Vq D' i l=[]:=by unfold Vq;rw[ifP]
  rw[G,e2]
  rfl
 have f1:Wt D' i 0=k * Wt D i 0+(u i-u 0):=by
  rcases O with⟨x,_⟩|⟨_,_,_,_,x⟩
  ·omega
  exact x
 have f2:Wt D' 0 l=k * Wt D 0 l+(u 0-u l):=by
  rcases U with⟨x,_⟩|⟨_,_,_,_,x⟩
  ·omega
  exact x
 have f3:Wt D' i l=k * Wt D i l+(u i-u l):=by
  rcases X with⟨x,_⟩|⟨_,_,_,_,x⟩
  ·omega
  exact x
 have H:Wt D' i 0+Wt D' 0 l-Wt D' i l=k * (Wt D i 0+Wt D 0 l-Wt D i l):=by
  rw[f1,f2,f3,Int.mul_sub,Xk0];omega
 by_cases z:Wt D i 0+Wt D 0 l-Wt D i l<=0
 ·have z':Wt D' i 0+Wt D' 0 l-Wt D' i l<=0:=by rw[H];exact Xm3 (by omega) z
  have G:Vq D i l=[]:=by unfold Vq;rw[ifP]
  have e2:Vq D' i l=[]:=by unfold Vq;rw[ifP]
  rw[G,e2]
  rfl
 have z':¬Wt D' i 0+Wt D' 0 l-Wt D' i l<=0:=by
  rw[H];have:=Int.mul_pos (show 0<k by omega) (show 0<Wt D i 0+Wt D 0 l-Wt D i l by omega);omega
 have G:Vq D i l=[⟨i,l,Wt D i 0+Wt D 0 l-Wt D i l⟩]:=by unfold Vq;rw[ifN]
 have e2:Vq D' i l=[⟨i,l,Wt D' i 0+Wt D' 0 l-Wt D' i l⟩]:=by unfold Vq;rw[ifN]
 rw[G,e2,H]
 rfl
def Zz5(R:Zdn k u n D D'):Zce D' n (n-1)=(Zce D n (n-1)).map (scT k):=by
 unfold Zce Zab;rw[List.map_flatMap];have G:∀{α β:Type}(l:List α)(f g:α->List β),(∀x,x∈l->f x=g x)->l.flatMap f=l.flatMap g:=by
  intro α β l f g
  induction l with
  |nil=>intro _;rfl
  |cons x l H=>intro h;rw[Xkh,Xkh,h x (by simp),H (fun y hy=>h y (by simp[hy]))]
 refine G _ _ _ fun i I=>?_;rw[List.map_flatMap];refine G _ _ _ fun l J=>?_;have h1:=List.mem_range.1 I;have O:=List.mem_range.1 J;exact Z1z R (by omega) (by omega)
def Xcy(H:1<=k)(x y:Yq):Zec (scT k x) (scT k y)=Zec x y:=by
 unfold Zec scT
 congr 1
 apply propext;have h1:k * y.c<k * x.c↔y.c<x.c:=⟨fun h=>Int.lt_of_mul_lt_mul_left h (by omega),fun h=>Int.mul_lt_mul_of_pos_left h (by omega)⟩
 have G:k * x.c=k * y.c↔x.c=y.c:=⟨fun h=>Int.eq_of_mul_eq_mul_left (by omega) h,fun h=>by rw[h]⟩
 simp only[h1,G]
def Xau(R:Zdn k u n D D'){l l':List Yq}(h:Z25 D n l)(h':Z25 D' n l'):l'=l.map (scT k):=by
 have I:=R.k1.1;refine List.Perm.eq_of_pairwise (le:=fun x y=>Zec y x=false) (fun a b _ _ h1 G=>?_) h'.2 ?_ ?_
 ·unfold Zec at h1 G;have h1:=of_decide_eq_false h1;have G:=of_decide_eq_false G;obtain⟨J,O,U⟩:=a;obtain⟨X,b2,b3⟩:=b;simp only[Yq.mk.injEq] at h1 G ⊢;omega
 ·rw[List.pairwise_map];exact h.2.imp fun{a b} H=>by rw[Xcy I];exact H
 refine h'.1.trans ?_;rw[Zz5 R];exact (h.1.map _).symm
def Z0d(R:Zdn k u (j.st.length+1) D D')(J:Zjw k j j')(X:j.st.length<=32){rs:List Zd}(o:Wg j.st.length rs)(x:Yq):Ua j' D' rs (scT k x)=Ua j D rs x:=by
 obtain⟨h1,_,G⟩:=o.small X;have e:Ua j' D' rs (scT k x)=Ua j' D' rs x:=rfl;rw[e];unfold Ua
 cases ha:rs.findIdx? (fun r=>decide ((Zhb r:Int)=x.a)) with
 |none=>rfl
 |some a =>
  cases hb:rs.findIdx? (fun r=>decide ((Vo r:Int)=x.b)) with
  |none=>rfl
  |some b =>
   have H:=Z7 ha;have I:=Z7 hb;have ea:rs[a]?.getD []=rs[a]:=by simp[H]
   have eb:rs[b]?.getD []=rs[b]:=by simp[I]
   have O:=Xiv H;have U:=Xiv I;simp only[ea,eb];rw[Ztx R J (by omega) (fun x hx=>by
    rcases List.mem_append.1 hx with q|q
    ·exact h1 _ O x q
    exact h1 _ U x q) (by have:=G _ O;have:=G _ U;simp;omega)]
def Xed{rs:List Zd}(o:Wg j.st.length rs)(x:Yq):Wg j.st.length (Ua j D rs x):=by
 unfold Ua
 split
 ·rename_i a b J hb;have H:=Z7 J;have I:=Z7 hb
  split
  ·exact o
  rename_i G
  split
  ·have O:rs[a]?.getD []=rs[a]:=by simp[H]
   have R:rs[b]?.getD []=rs[b]:=by simp[I]
   rw[O,R];exact Zzc (j:=j) (D:=D) o H I G
  exact o
 exact o
def Z0b(R:Zdn k u (j.st.length+1) D D')(J:Zjw k j j')(G:j.st.length<=32):∀{l:List Yq}{rs:List Zd},Wg j.st.length rs->(l.map (scT k)).foldl (Ua j' D') rs=l.foldl (Ua j D) rs/\Wg j.st.length (l.foldl (Ua j D) rs):=by
 intro l
 induction l with
 |nil=>intro rs o;exact⟨rfl,o⟩
 |cons x l H =>
  intro rs o;simp only[Xjm,Xkp];rw[Z0d R J G o x];exact H (Xed o x)
def Z1n{m:Nat}{rs:List Zd}(o:Wg m rs){x y:Zd}(hx:x∈rs)(hy:y∈rs)(h:Vo x=Vo y):x=y:=by
 obtain⟨a,I,G⟩:=Xjh hx;obtain⟨b,hb,H⟩:=Xjh hy;by_cases q:a=b
 ·subst q;rw[<-G,<-H]
 exfalso;have hd:∀{z:Zd},z∈rs->Vo z∈z:=fun{z} hz=>by
  have:=List.length_pos_iff.2 (o.ne z hz);unfold Vo;simp[this]
 have p:=(Z4 hb).nodup_iff.1 o.nd;rw[Xl0,H] at p;have h1:x∈rs.eraseIdx b:=List.mem_eraseIdx_iff_getElem.2 ⟨a,I,q,G⟩;exact p.2.2 _ (hd hy) _ (List.mem_flatten.2 ⟨x,h1,hd hx⟩) h.symm
def Z5r(R:Zdn k u (j.st.length+1) D D')(J:Zjw k j j')(O:j.st.length<=32){l:List Yq}{rs G:List Zd}(h:Zx9 j D l rs)(h':Zx9 j' D' (l.map (scT k)) G):G=rs/\Wg j.st.length rs:=by
 obtain⟨e,ok⟩:=Z0b R J O (l:=l) (Zir (m:=j.st.length));have I:=h'.1;rw[J.st,e] at I;have H:Wg j.st.length rs:=⟨h.1.flatten.trans ok.pm,fun r U=>ok.ne r (h.1.mem_iff.1 U)⟩
 refine⟨List.Perm.eq_of_pairwise (le:=fun x y=>Vo x<=Vo y) (fun a b X hb h1 h2=>?_) h'.2 h.2 (I.trans h.1.symm),H⟩;exact Z1n H ((I.trans h.1.symm).mem_iff.1 X) hb (by omega)
def Zsj(R:Zdn k u (j.st.length+1) D D')(J:Zjw k j j'):Zdo j' D'=Zdo j D:=by
 unfold Zdo;rw[J.st];have:∀l:Zd,(∀i,i∈l->i<j.st.length)->l.all (Ziq j' D')=l.all (Ziq j D):=by
  intro l
  induction l with
  |nil=>intro _;rfl
  |cons i l X =>
   intro h;have H:=h i (by simp);rw[Xlf,Xlf,X (fun x hx=>h x (by simp[hx]))]
   congr 1
   have I:=R.val 0 (i+1) (by omega) (by omega);have O:=R.val (i+1) 0 (by omega) (by omega);have p:=I.add (by omega) O;rw[show u 0-u (i+1)+(u (i+1)-u 0)=0 by omega] at p;have i1:=I.inf;have i2:=O.inf;have i3:=p.inf;unfold Ziq;rw[J.st,J.cap]
   congr 1
   apply propext;have G:Qb (Wt D 0 (i+1)) (Wt D (i+1) 0)<1152921504606846976->(Qb (Wt D 0 (i+1)) (Wt D (i+1) 0)<=j.lim↔Qb (Wt D' 0 (i+1)) (Wt D' (i+1) 0)<=j'.lim):=fun hf=>by
    rcases p with⟨x,_⟩|⟨x1,x2,x3,x4,U⟩
    ·omega
    rw[Int.add_zero] at U;have h3:(300:Int) * BIG=337769972052787200:=by decide
    have h2:((1+1:Nat):Int) * BIG=2251799813685248:=by decide
    rw[U] at x4 ⊢;exact J.lim _ x1 (by omega) (by omega)
   constructor
   ·rintro⟨a,b,c,d,e⟩;exact⟨a,by omega,by omega,by omega,(G (by omega)).2 e⟩
   rintro⟨a,b,c,d,e⟩;exact⟨a,by omega,by omega,by omega,(G d).1 e⟩
 exact this _ (fun i H=>List.mem_range.1 H)
def Z62{N N':Zs}{o X:Option (List Zd × Int)}(hb:Zcz N'.as.length j'=Zcz N.as.length j)(J:Zjw k j j')(hT:Zcz N.as.length j=true->∀D D',Zpl N (Zmv j) D->Zpl N' (Zmv j') D'->Zdn k u (j.st.length+1) D D')(h:Zh4 N j o)(h':Zh4 N' j' X):
  (o=none/\X=none)\/∃H c,o=some (H,c)/\X=some (H,k * c)/\0<=c/\c<=64 * BIG/\Wg j.st.length H:=by
 cases h with
 |job a =>
  cases h' with
  |job _=>exact .inl ⟨rfl,rfl⟩
  |fit _ _ _=>exact .inl ⟨rfl,rfl⟩
  |ok b _ _ _ _ _ _=>rw[hb,a] at b;cases b
 |@fit D a O f =>
  cases h' with
  |job _=>exact .inl ⟨rfl,rfl⟩
  |fit _ _ _=>exact .inl ⟨rfl,rfl⟩
  |ok b G U _ _ _ _ =>
   have:=Zsj (hT a _ _ O G) J;rw[f,U] at this
   cases this
 |@ok D l rs H a O f sp jr ar oo =>
  have lm:=(Zqh a).2.2.1
  cases h' with
  |job b=>rw[hb,a] at b;cases b
  |fit _ G U =>
   have:=Zsj (hT a _ _ O G) J;rw[f,U] at this
   cases this
  |@ok D' l' aa ad _ G U I ab ac ae =>
   have R:=hT a _ _ O G;rw[J.st] at I;have e1:=Xau R sp I;subst e1;obtain⟨e2,ok⟩:=Z5r R J lm jr ab;subst e2;have t:∀i,i<j.st.length+1->0<=Wt D 0 i/\Wt D 0 i<=1152921504606846976:=fun i hi=>by
    have h1:((1:Nat):Int) * BIG=1125899906842624:=by decide
    rcases R.val 0 i (by omega) hi with⟨x,_⟩|⟨x1,x2,_⟩<;>omega
   have go:aa.all (Xj j D)=true:=by
    have:=(Z26 (j:=j) (D:=D) (l:=l) Zir (Znh t f)).2;rw[Xj3] at this ⊢;exact fun r hr=>this r (jr.1.mem_iff.1 hr)
   obtain⟨e3,o3,g3⟩:=Z5i R J lm ok go ar ac;subst e3;obtain⟨t1,t2,t3⟩:=Zin R lm o3 g3;exact .inr ⟨_,_,rfl,by rw[t3],t1,t2,o3⟩
end
end Go.Rm
