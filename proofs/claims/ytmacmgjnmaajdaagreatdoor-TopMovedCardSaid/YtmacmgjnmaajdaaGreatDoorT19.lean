import Derived.Test.YtmacmgjnmaajdaaGreatDoorT18
/- Parts. -/
set_option linter.all false
namespace Go.Rm
structure Wu where
 dep:Int
 cap:Int
 lim:Int
 st:List (Int × Int)
def X4(j:Wu)(s:Sl):cR:=.agg #[.int .i64 j.dep,.int .i64 j.cap,.int .i64 j.lim,s.v]
def Zo5(n:Nat)(p:Int × Int):Bool:=decide (0<=p.1/\p.1<n/\0<=p.2/\p.2<=2147483648)
def Zev(n:Nat)(j:Wu):Bool:=decide (0<=j.dep/\j.dep<n/\0<=j.cap/\j.cap<=2147483648/\0<=j.lim/\j.lim<=1152921504606846976/\j.st.length<=32) && j.st.all (Zo5 n)
def ErB(b:Bool)(v:Zj):Prop:=if b=true then v = .nilIface else ∃t u,v = .iface t u
def Zef(j:Wu):Zb:=j.dep::j.st.map (·.1)
structure Zcz(Y:Sys):Prop where
 fault:Y.cL 366 Y366
 Check:Y.cL 348 Y348
 Points:Y.cL 349 Y349
 Square:Y.cL 371 Y371
 Fits:Y.cL 351 Y351
 Load:Y.cL 415 Y415
 Length:Y.cL 385 Y385
 step:Y.cL 423 Y423
section
variable{Y:Sys}{h h':Zk}
def Xs(X:Zcz Y){s:ByteArray}{a c:Int}{R:Ze}(G:∀h' t u,Ext h h'->R (.iface t u) h'):Zt Y 366 [.string s,.int .i64 a,.int .i64 c] h R:=by
 refine .o X.fault ?_;simp[Y366,Yw.wp];refine Zo ?_;intro b h1 I B H;simp;exact G _ _ _ H
def CkJ(A:Nat)(j:Wu)(s:Sl)(n:Nat)(d:Zj)(h0:Zk)(e:Zc)(h':Zk):Prop :=
 ∃(i:Nat)(f g h l m o a b c:Zj),e=[.int .i64 n,d,.pointer (some ⟨A,0,none⟩),.nilIface,f,g,h,l,m,o,s.v,.int .i64 s.n,.int .i64 i,a,b,c]/\i<=j.st.length/\(∀k,k<i->Zo5 n (Xn j.st k)=true)/\Ext h0 h'
def Zuo(X:Zcz Y){j:Wu}{s:Sl}(r:Zar h s j.st){n:Nat}{R:Ze}(hr:∀h' v,Ext h h'->ErB (Zev n j) v->R v h'):Zt Y 348 [.int .i64 n,X4 j s] h R:=by
 have ls:=r.len;refine .o X.Check ?_;simp[Y348,Yw.wp,X4];refine Zo ?_;intro A h1 gA A1 I;replace A1:Yo h1 A #[.int .i64 j.dep,.int .i64 j.cap,.int .i64 j.lim,s.v]:=A1;have G:Zev n j=false->∀h' t u,Ext h h'->R (.iface t u) h':=fun hb h' t u e=>hr h' _ e (by unfold ErB;rw[hb];exact⟨t,u,rfl⟩);have O:¬(0<=j.dep/\j.dep<n/\0<=j.cap/\j.cap<=2147483648/\0<=j.lim/\j.lim<=1152921504606846976/\j.st.length<=32)->Zev n j=false:=fun q=>by unfold Zev;rw[decide_eq_false q];rfl
 by_cases c1:j.dep<0
 ·simp[A1.hc,c1];exact Xs X fun h' t u e=>by simpa using G (O (by omega)) h' t u (I.trans e)
 by_cases U:(n:Int)<=j.dep
 ·simp[A1.hc,c1,U];exact Xs X fun h' t u e=>by simpa using G (O (by omega)) h' t u (I.trans e)
 by_cases c3:j.cap<0
 ·simp[A1.hc,c1,U,c3];exact Xs X fun h' t u e=>by simpa using G (O (by omega)) h' t u (I.trans e)
 by_cases c4:2147483648<j.cap
 ·simp[A1.hc,c1,U,c3,c4];exact Xs X fun h' t u e=>by simpa using G (O (by omega)) h' t u (I.trans e)
 by_cases c5:j.lim<0
 ·simp[A1.hc,c1,U,c3,c4,c5];exact Xs X fun h' t u e=>by simpa using G (O (by omega)) h' t u (I.trans e)
 by_cases c6:1152921504606846976<j.lim
 ·simp[A1.hc,c1,U,c3,c4,c5,c6];exact Xs X fun h' t u e=>by simpa using G (O (by omega)) h' t u (I.trans e)
 by_cases c7:32<s.n
 ·have aa:(32:Int)<s.n:=by omega
  simp[A1.hc,c1,U,c3,c4,c5,c6,aa];exact Xs X fun h' t u e=>by simpa using G (O (by omega)) h' t u (I.trans e)
 have aa:¬(32:Int)<s.n:=by omega
 simp[A1.hc,c1,U,c3,c4,c5,c6,aa];refine Zp (CkJ A j s n (.agg #[.int .i64 j.dep,.int .i64 j.cap,.int .i64 j.lim,s.v]) h1) (fun e _=>j.st.length-Zx e 12) ⟨0,_,_,_,_,_,_,_,_,_,rfl,by omega,fun k hk=>by omega,Mod.refl _⟩ ?_;rintro e h2 ⟨i,a,d,f,g,l,m,ab,ac,ad,rfl,hi,J,x2⟩;have y2:=I.trans x2;by_cases c:i<j.st.length;rotate_left
 ·have c':¬(i:Int)<s.n:=by omega
  have hb:Zev n j=true:=by
   unfold Zev;rw[decide_eq_true (by omega),Bool.true_and,Xkc];intro x hx;obtain⟨k,hk,e⟩:=Xju hx;have:=J k (by omega);simpa[Xn,hk,e] using this
  simp[c'];exact hr h2 _ y2 (by unfold ErB;rw[if_pos hb])
 have c':(i:Int)<s.n:=by omega
 have ci:i<s.n:=by omega
 have w1:=wrapS (i:=i);have H:Zo5 n (Xn j.st i)=false->Zev n j=false:=fun q=>by
  unfold Zev;rw[Bool.and_eq_false_iff];refine .inr (List.all_eq_false.2 ⟨Xn j.st i,by simp[Xn,c],by simp[q]⟩)
 have ns:¬(0<=(Xn j.st i).1/\(Xn j.st i).1<n/\0<=(Xn j.st i).2/\(Xn j.st i).2<=2147483648)->Zo5 n (Xn j.st i)=false:=fun q=>by unfold Zo5;rw[decide_eq_false q]
 simp[c',Zl r.ok,(r.cC y2).rd c];refine Zo ?_;intro b h3 gb B3 e3;replace B3:Yo h3 b #[.int .i64 0,.int .i64 0]:=B3;simp;refine Zy (vs:=#[.int .i64 (Xn j.st i).1,.int .i64 (Xn j.st i).2]) B3 ?_;intro h4 B4 m4;have e4:Ext h2 h4:=Mod.cG e3 m4 gb;have y4:=y2.trans e4;by_cases d1:(Xn j.st i).1<0
 ·simp[B4.hc,d1,w1];exact Xs X fun h' t u e=>by simpa using G (H (ns (by omega))) h' t u (y4.trans e)
 by_cases d2:(n:Int)<=(Xn j.st i).1
 ·simp[B4.hc,d1,d2,w1];exact Xs X fun h' t u e=>by simpa using G (H (ns (by omega))) h' t u (y4.trans e)
 by_cases d3:(Xn j.st i).2<0
 ·simp[B4.hc,d1,d2,d3,w1];exact Xs X fun h' t u e=>by simpa using G (H (ns (by omega))) h' t u (y4.trans e)
 by_cases d4:2147483648<(Xn j.st i).2
 ·simp[B4.hc,d1,d2,d3,d4,w1];exact Xs X fun h' t u e=>by simpa using G (H (ns (by omega))) h' t u (y4.trans e)
 simp[B4.hc,d1,d2,d3,d4,w1];refine nx ⟨i+1,_,_,_,_,_,_,_,_,_,rfl,by omega,fun k hk=>?_,x2.trans e4⟩;by_cases q:k=i
 ·subst q;unfold Zo5;rw[decide_eq_true (by omega)]
 exact J k (by omega)
def Z61{K:Ze}{n:Nat}{m:Int}(I:n<=1000000)(G:m=n)(H:∀(b:Nat)(h':Zk),h.size<=b->Yh h' 1 (Sl.at b 0 n) []->Ext h h'->K (.slice (some ⟨b,0,none⟩) 0 n) h'):
  Ef.wp h K (.mkslice 1 8 #[.int .i64 0]) [.int .i64 0,.int .i64 m]:=by
 subst G;rw[Va];refine⟨by omega,by omega,by omega,by omega,fun t=>?_⟩;simp only[Xi8,Xjd,Vm];exact H h.size _ (Xi4 _) ⟨by simp,.inr ⟨rfl,rfl,rfl,by simp,by simp;omega,_,Yo.new,by simp,by simp⟩⟩ Mod.push
def PtJ(A:Nat)(j:Wu)(s:Sl)(v0:Zj)(h0:Zk)(e:Zc)(h':Zk):Prop :=
 ∃(i:Nat)(u:Sl)(v4 v8:Zj),e=[v0,.pointer (some ⟨A,0,none⟩),.slice none 0 0,u.v,v4,s.v,.int .i64 s.n,.int .i64 i,v8]/\i<=j.st.length/\Yh h' 1 u (Zu (j.dep::(j.st.take i).map (·.1)))/\u.nl=false/\h0.size<=u.b/\Ext h0 h'
def Zq3(X:Zcz Y){j:Wu}{s:Sl}(r:Zar h s j.st)(ab:j.st.length<=100000){R:Ze}(hr:∀h' u,Ext h h'->Yh h' 1 u (Zu (Zef j))->h.size<=u.b->R u.v h'):Zt Y 349 [X4 j s] h R:=by
 have ls:=r.len;refine .o X.Points ?_;simp[Y349,Yw.wp,X4];refine Zo ?_;intro A h1 gA A1 e1;replace A1:Yo h1 A #[.int .i64 j.dep,.int .i64 j.cap,.int .i64 j.lim,s.v]:=A1;have w0:IntKind.i64.wrap ((s.n:Int)+1)=((s.n+1:Nat):Int):=by rw[Zn];omega
 simp[A1.hc,w0,-Int.natCast_add];refine Z61 (n:=s.n+1) (by omega) rfl ?_;intro b h2 g2 o2 e2;have x2:=e1.trans e2;have z1:=e1.size;have z2:=e2.size;simp[(A1.cC e2).hc];refine Xg ?_;intro c h3 g3 B3 e3;simp;refine Wa (s:=Sl.at b 0 (s.n+1)) rfl (o2.cF e3) B3 ?_ (by simp) (by simp);intro u h4 o4 n4 m4 aa;have z3:=e3.size;have x4:Ext h h4:=Mod.cC (x2.trans e3) m4 (fun j I=>by have:=I.2;simp at this;omega);have A4:Yo h4 A #[.int .i64 j.dep,.int .i64 j.cap,.int .i64 j.lim,s.v]:=m4.cM ((A1.cC e2).cC e3) (fun I=>by have q:=I.2;have:=A1.lt;simp only[Sl.at_b] at q;omega);have u4:u.nl=false/\h.size<=u.b:=by
  rcases aa with⟨H,G⟩|⟨H,G⟩
  ·simp at H G;exact⟨G,by omega⟩
  exact⟨G,by omega⟩
 simp[A4.hc];refine Zp (PtJ A j s (.agg #[.int .i64 j.dep,.int .i64 j.cap,.int .i64 j.lim,s.v]) h) (fun e _=>j.st.length-Zx e 7) ⟨0,u,_,_,rfl,by omega,by simpa[Zu] using o4,u4.1,u4.2,x4⟩ ?_;rintro e h5 ⟨i,w,v4,v8,rfl,hi,O,wn,wb,U⟩;have lw:=O.cE.len;by_cases c:i<j.st.length;rotate_left
 ·have c':¬(i:Int)<s.n:=by omega
  have:i=j.st.length:=by omega
  subst this;rw[Xj9] at O;simp[c'];exact hr h5 w U O wb
 have c':(i:Int)<s.n:=by omega
 have ci:i<s.n:=by omega
 have w1:=wrapS (i:=i);simp at lw;simp[c',Zl r.ok,(r.cC U).rd c];refine Zo ?_;intro d h6 gd D6 e6;replace D6:Yo h6 d #[.int .i64 0,.int .i64 0]:=D6;simp;refine Zy (vs:=#[.int .i64 (Xn j.st i).1,.int .i64 (Xn j.st i).2]) D6 ?_;intro h7 D7 m7;have e7:Ext h5 h7:=Mod.cG e6 m7 gd;simp[D7.hc];refine Xg ?_;intro f h8 gf B8 e8;simp;refine Wa rfl ((O.cF e7).cF e8) B8 ?_;intro w2 h9 o9 n9 m9 J;have z5:=U.size;have z7:=e7.size;have z8:=e8.size;simp[w1];refine nx ⟨i+1,w2,_,_,rfl,by omega,?_,?_,?_,Mod.cC ((U.trans e7).trans e8) m9 (fun j I=>by have:=I.2;omega)⟩
 ·have e:(j.dep::(j.st.take (i+1)).map (·.1))=(j.dep::(j.st.take i).map (·.1))++[(Xn j.st i).1]:=by
   have:(j.st.take (i+1))=j.st.take i++[j.st[i]]:=Xjc c;rw[this,Xjj];simp[Xn,c,-List.map_take]
  rw[e];simpa[Zu] using o9
 ·rcases J with⟨H,G⟩|⟨H,G⟩
  ·rw[G];exact wn
  exact G
 rcases J with⟨H,G⟩|⟨H,G⟩
 ·rw[H];exact wb
 omega
structure Zgx(n:Nat)(D:Za):Prop where
 len:D.length=n
 row:∀i,i<n->(Yc D i).length=n
 c0:∀i k,i<n->k<n->0<=Zm (Yc D i) k/\Zm (Yc D i) k<=1152921504606846976
def Wt(D:Za)(i k:Nat):Int:=Zm (Yc D i) k
def SqI(s:Sl)(n:Nat)(j:Zj)(h0:Zk)(e:Zc)(h':Zk):Prop :=
 ∃(i:Nat)(k l m o a b c d f g h:Zj),e=[j,s.v,.nilIface,k,l,m,o,s.v,Zg s.n,Zg i,a,b,c,d,f,g,h]/\i<=n/\h'=h0
def SqJ(s u:Sl)(n i:Nat)(f:Zj)(h0:Zk)(e:Zc)(h':Zk):Prop :=
 ∃(k:Nat)(g h a b c d:Zj),e=[f,s.v,.nilIface,Zg i,u.v,g,h,s.v,Zg s.n,Zg i,a,b,u.v,Zg u.n,Zg k,c,d]/\k<=n/\h'=h0
def Zh3(X:Zcz Y){s:Sl}{D:Za}{n:Nat}(r:Wm h s D)(t:Zgx n D){R:Ze}(hr:R .nilIface h)(hn:n<=100000:=by omega):Zt Y 371 [Zg n,s.v] h R:=by
 have ls:=r.len;have ld:=t.len;refine .o X.Square ?_;have q:((s.n:Int)=(n:Int))=True:=by simp;omega
 simp[Y371,Yw.wp,q];refine Zp (SqI s n (Zg n) h) (fun e _=>n-Zx e 9) ⟨0,_,_,_,_,_,_,_,_,_,_,_,rfl,by omega,rfl⟩ ?_;rintro e h1 ⟨i,v3,v4,v5,v6,G,H,aa,ab,ac,I,J,rfl,hi,rfl⟩;by_cases c:i<n;rotate_left
 ·have c':¬(i:Int)<s.n:=by omega
  simp[c'];exact hr
 have c':(i:Int)<s.n:=by omega
 have ci:i<s.n:=by omega
 have w1:=wrapS (i:=i);obtain⟨u,hu,O⟩:=r.val i (by omega);have lu:=O.len;have lr:=t.row i c;have q2:((u.n:Int)=(n:Int))=True:=by simp;omega
 simp[c',Zl r.ok,hu,q2];refine Zp (SqJ s u n i (Zg n) h1) (fun e _=>n-Zx e 14) ⟨0,_,_,_,_,_,_,rfl,by omega,rfl⟩ ?_;rintro e h2 ⟨k,v5,v6,G,H,I,J,rfl,hk,rfl⟩;by_cases d:k<n;rotate_left
 ·have U:¬(k:Int)<u.n:=by omega
  simp[U,w1];exact nx ⟨i+1,_,_,_,_,_,_,_,_,_,_,_,rfl,by omega,rfl⟩
 have U:(k:Int)<u.n:=by omega
 have dk:k<u.n:=by omega
 have w2:=wrapS (i:=k);obtain⟨b0,b1⟩:=t.c0 i k c d;have n0:¬Zm (Yc D i) k<0:=by omega
 have n1:¬1152921504606846976<Zm (Yc D i) k:=by omega
 simp[U,Zl O.ok,O.val k (by omega),n0,n1,w2];exact nx ⟨k+1,_,_,_,_,_,_,rfl,by omega,rfl⟩
def Zl1(X:Zcz Y){s:Sl}{D:Za}{n:Nat}(r:Wm h s D)(t:Zgx n D){i k:Nat}(H:i<n)(hk:k<n){R:Ze}(I:R (Zg (Wt D i k)) h):Zt Y 423 [s.v,Zg i,Zg k] h R:=by
 have ls:=r.len;have ld:=t.len;obtain⟨u,hu,G⟩:=r.val i (by omega);have lu:=G.len;have lr:=t.row i H;refine .o X.step ?_;have J:(i:Int)<s.n:=by omega
 have q2:i<s.n:=by omega
 have O:(k:Int)<u.n:=by omega
 have q4:k<u.n:=by omega
 have U:¬(u.n:Int)<=k:=by omega
 have q6:¬u.n<=k:=by omega
 simp[Y423,Yw.wp,Zl r.ok,J,hu,U,Zl G.ok,O,G.val k (by omega)];exact I
def Zjz(D:Za):Nat->Int->Zd->Int
 |at',c,[]=>Qf c (Wt D at' 0)
 |at',c,k::r=>Zjz D k (Qf c (Wt D at' k)) r
def Wl(D:Za)(r:Zd):Int:=if r=[] then 0 else Zjz D 0 0 r
abbrev Xc(l:Zd):Zb:=l.map fun(k:Nat)=>(k:Int)
def X6{l:Zd}{i:Nat}(h:i<l.length):Zm (Xc l) i=((l[i]:Nat):Int):=by simp[Zm,h]
def Zix(j:Wu)(D:Za)(i:Nat):Bool:=decide ((Xn j.st i).2<=j.cap/\Wt D 0 (i+1)<1152921504606846976/\Wt D (i+1) 0<1152921504606846976/\Qf (Wt D 0 (i+1)) (Wt D (i+1) 0)<1152921504606846976/\Qf (Wt D 0 (i+1)) (Wt D (i+1) 0)<=j.lim)
def Zdt(j:Wu)(D:Za):Bool:=(List.range j.st.length).all (Zix j D)
def Zah(j:Wu)(r:Zd):Int:=(r.map fun k=>(Xn j.st (k-1)).2).foldl (· + ·) 0
def LnI(s w:Sl)(D:Za)(l:Zd)(h0:Zk)(n:Nat)(e:Zc)(h':Zk):Prop :=
 ∃(i a:Nat)(c:Int)(v2 v5 v6 v10 v11:Zj),e=[s.v,w.v,v2,Zg c,Zg a,v5,v6,w.v,Zg w.n,Zg i,v10,v11]/\i<=l.length/\a<n/\Zjz D 0 0 l=Zjz D a c (l.drop i)/\h'=h0
def Zdu(X:Zcz Y)(C:Zcu Y){s w:Sl}{D:Za}{n:Nat}{l:Zd}(r:Wm h s D)(t:Zgx n D)(hn:0<n/\n<=100000)(G:Zw h w (Xc l))(hl:∀k,k∈l->1<=k/\k<n){R:Ze}(H:R (Zg (Wl D l)) h)(hb:l.length<=100000:=by omega):Zt Y 385 [s.v,w.v] h R:=by
 have ls:=r.len;have ld:=t.len;have O:=G.len;simp at O;refine .o X.Length ?_;by_cases z:l=[]
 ·have q:w.n=0:=by rw[<-O,z];rfl
  have e:Wl D l=0:=by unfold Wl;rw[if_pos z]
  rw[e] at H;simp[Y385,Yw.wp,q];exact H
 have zl:0<l.length:=List.length_pos_iff.2 z;have q:¬(w.n=0):=by omega
 simp[Y385,Yw.wp,q];refine Zp (LnI s w D l h n) (fun e _=>l.length-Zx e 9) ⟨0,0,0,_,_,_,_,_,rfl,by omega,by omega,rfl,rfl⟩ ?_;rintro e h1 ⟨i,a,c,v2,v5,v6,aa,ab,rfl,hi,U,hc,rfl⟩;by_cases I:i<l.length;rotate_left
 ·have c':¬(i:Int)<w.n:=by omega
  have:i=l.length:=by omega
  subst this;rw[List.drop_length] at hc;have e:Wl D l=Qf c (Wt D a 0):=by unfold Wl;rw[if_neg z,hc];rfl
  rw[e] at H;simp[c'];refine Zl1 X r t U (k:=0) (by omega) ?_;simp;refine Zfg C ?_;simp;exact H
 have c':(i:Int)<w.n:=by omega
 have J:i<w.n:=by omega
 have w1:=wrapS (i:=i);obtain⟨k1,k2⟩:=hl l[i] (Xi7 I);have vi:=G.val i (by simp;omega);rw[X6 I] at vi;have n1:¬((l[i]:Nat):Int)<1:=by omega
 have n2:¬(s.n:Int)<=((l[i]:Nat):Int):=by omega
 have n3:¬l[i]=0:=by omega
 have n4:¬s.n<=l[i]:=by omega
 have n5:¬l[i]<1:=by omega
 simp[c',J,Zl G.ok,vi,n1,n2,n3,n4,n5];refine Zl1 X r t U k2 ?_;simp;refine Zfg C ?_;simp[w1];refine nx ⟨i+1,l[i],_,_,_,_,_,_,rfl,by omega,k2,?_,rfl⟩;rw[hc,Xjz I]
 rfl
def LdI(A:Nat)(j:Wu)(s w:Sl)(l:Zd)(v0:Zj)(h0:Zk)(e:Zc)(h':Zk):Prop :=
 ∃(i:Nat)(c:Int)(v3 v5 v9 v10:Zj),e=[v0,w.v,Zh A,v3,Zg c,v5,w.v,Zg w.n,Zg i,v9,v10]/\i<=l.length/\c=Zah j (l.take i)/\h'=h0
def Zxj{j:Wu}(H:∀i,i<j.st.length->0<=(Xn j.st i).2/\(Xn j.st i).2<=2147483648){l:Zd}(I:∀k,k∈l->1<=k/\k<=j.st.length):0<=Zah j l/\Zah j l<=2147483648 * l.length:=by
 have key:∀(l:Zd)(c:Int),(∀k,k∈l->1<=k/\k<=j.st.length)->0<=c->0<=(l.map fun k=>(Xn j.st (k-1)).2).foldl (· + ·) c/\(l.map fun k=>(Xn j.st (k-1)).2).foldl (· + ·) c<=c+2147483648 * l.length:=by
  intro l
  induction l with
  |nil=>intro c _ h;simp;omega
  |cons k l J =>
   intro c G h;obtain⟨O,R⟩:=G k (by simp);have a:=H (k-1) (by omega);have:=J (c+(Xn j.st (k-1)).2) (fun k' h'=>G k' (by simp[h'])) (by omega);simp only[Xjx,Xk1,Xjn];omega
 have:=key l 0 I (Xkh _);unfold Zah;omega
def Z2x{j:Wu}{l:Zd}{i:Nat}(h:i<l.length):Zah j (l.take (i+1))=Zah j (l.take i)+(Xn j.st (l[i]-1)).2:=by
 unfold Zah;rw[Xjc h,Xjj,Xlk]
 rfl
def Zlo(X:Zcz Y){j:Wu}{s w:Sl}{l:Zd}(r:Zar h s j.st)(hj:∀i,i<j.st.length->0<=(Xn j.st i).2/\(Xn j.st i).2<=2147483648)(G:Zw h w (Xc l))(hl:∀k,k∈l->1<=k/\k<=j.st.length){R:Ze}(hr:∀h',Ext h h'->R (Zg (Zah j l)) h')(hb:l.length<=100000:=by omega)(H:j.st.length<=100000:=by omega):Zt Y 415 [X4 j s,w.v] h R:=by
 have ls:=r.len;have lw:=G.len;simp at lw;refine .o X.Load ?_;simp[Y415,Yw.wp,X4];refine Zo ?_;intro A h1 gA A1 I;replace A1:Yo h1 A #[Zg j.dep,Zg j.cap,Zg j.lim,s.v]:=A1;have r1:=r.cC I;have w1:=G.cC I;simp;refine Zp (LdI A j s w l (.agg #[Zg j.dep,Zg j.cap,Zg j.lim,s.v]) h1) (fun e _=>l.length-Zx e 8) ⟨0,0,_,_,_,_,rfl,by omega,by simp[Zah],rfl⟩ ?_;rintro e h2 ⟨i,c,v3,v5,v9,aa,rfl,hi,rfl,rfl⟩;by_cases J:i<l.length;rotate_left
 ·have c':¬(i:Int)<w.n:=by omega
  have:i=l.length:=by omega
  subst this;rw[Xj9];simp[c'];exact hr h2 I
 have c':(i:Int)<w.n:=by omega
 have O:i<w.n:=by omega
 have x1:=wrapS (i:=i);obtain⟨k1,k2⟩:=hl l[i] (Xi7 J);have U:=w1.val i (by simp;omega);rw[X6 J] at U;obtain⟨m,hm⟩:∃m,l[i]=m+1:=⟨l[i]-1,by omega⟩
 have H:=Z2x (j:=j) J;rw[hm,Xlh] at H;rw[hm] at U;have bd:=Zxj hj (l:=l.take (i+1)) (fun k hk=>hl k (List.mem_of_mem_take hk));have bt:(l.take (i+1)).length<=100000:=by simp;omega
 have x2:IntKind.i64.wrap (((m+1:Nat):Int)-1)=(m:Int):=by rw[Zn];omega
 have x3:IntKind.i64.wrap (Zah j (l.take i)+(Xn j.st m).2)=Zah j (l.take (i+1)):=by rw[<-H];exact Zn
 have n1:(1:Int)<=((m+1:Nat):Int):=by omega
 have n2:((m+1:Nat):Int)<=(s.n:Int):=by omega
 have n3:m+1<=s.n:=by omega
 have n4:m<s.n:=by omega
 have n5:m<j.st.length:=by omega
 simp[c',O,Zl w1.ok,U,n1,n2,n3,A1.hc,x2,Zl r1.ok,n4,r1.v1 m n5,x3,x1,-Int.natCast_add];exact nx ⟨i+1,_,_,_,_,_,rfl,by omega,rfl,rfl⟩
def FtI(A:Nat)(j:Wu)(s d:Sl)(D:Za)(h:Zj)(h0:Zk)(e:Zc)(h':Zk):Prop :=
 ∃(i:Nat)(l m o p q a b c f g:Zj),e=[h,d.v,Zh A,.nilIface,.nilIface,l,m,o,p,q,a,s.v,Zg s.n,Zg i,b,c,f,g]/\i<=j.st.length/\(∀k,k<i->Zix j D k=true)/\Ext h0 h'
def Zmw(X:Zcz Y)(C:Zcu Y){j:Wu}{s d:Sl}{D:Za}(r:Zar h s j.st)(rd:Wm h d D)(t:Zgx (j.st.length+1) D){R:Ze}(hr:∀h' v,Ext h h'->ErB (Zdt j D) v->R v h')(hb:j.st.length<=1000:=by omega):
  Zt Y 351 [X4 j s,d.v] h R:=by
 have ls:=r.len;have ld:=rd.len;have lt:=t.len;refine .o X.Fits ?_;simp[Y351,Yw.wp,X4];refine Zo ?_;intro A h1 gA A1 e1;replace A1:Yo h1 A #[Zg j.dep,Zg j.cap,Zg j.lim,s.v]:=A1;have w0:IntKind.i64.wrap ((s.n:Int)+1)=((j.st.length+1:Nat):Int):=by rw[Zn];omega
 simp[A1.hc,w0,-Int.natCast_add];refine Zh3 X (rd.cC e1) t ?_;simp[A1.hc];refine Zp (FtI A j s d D (.agg #[Zg j.dep,Zg j.cap,Zg j.lim,s.v]) h1) (fun e _=>j.st.length-Zx e 13) ⟨0,_,_,_,_,_,_,_,_,_,_,rfl,by omega,fun k hk=>by omega,Mod.refl _⟩ ?_;rintro e h2 ⟨i,l,m,p,w,x,ac,ad,ae,af,ag,rfl,hi,O,x2⟩;have y2:=e1.trans x2;by_cases c:i<j.st.length;rotate_left
 ·have c':¬(i:Int)<s.n:=by omega
  have hb:Zdt j D=true:=by
   unfold Zdt;rw[Xkc];intro k hk;exact O k (by have:=List.mem_range.1 hk;omega)
  simp[c'];exact hr h2 _ y2 (by unfold ErB;rw[if_pos hb])
 have c':(i:Int)<s.n:=by omega
 have ci:i<s.n:=by omega
 have U:IntKind.i64.wrap ((i:Int)+1)=((i+1:Nat):Int):=by rw[Zn];omega
 have G:Zix j D i=false->∀h' t u,Ext h h'->R (.iface t u) h':=fun q h' t u e=>hr h' _ e (by
  have:Zdt j D=false:=by
   unfold Zdt;exact List.all_eq_false.2 ⟨i,List.mem_range.2 c,by simp[q]⟩
  unfold ErB;rw[this];exact⟨t,u,rfl⟩)
 obtain⟨u0,J,H⟩:=rd.val 0 (by omega);obtain⟨u1,ab,I⟩:=rd.val (i+1) (by omega);have l0:=H.len;have l1:=I.len;have m0:=t.row 0 (by omega);have m1:=t.row (i+1) (by omega);simp[c',ci,Zl r.ok,(r.cC y2).rd c];refine Zo ?_;intro b h3 gb B3 e3;replace B3:Yo h3 b #[Zg 0,Zg 0]:=B3;simp;refine Zy (vs:=#[Zg (Xn j.st i).1,Zg (Xn j.st i).2]) B3 ?_;intro h4 B4 m4;have e4:Ext h2 h4:=Mod.cG e3 m4 gb;have x4:Ext h1 h4:=x2.trans e4;have y4:=y2.trans e4;have A4:=A1.cC x4;have aa:=rd.cC y4;obtain⟨u0,J,H⟩:=aa.val 0 (by omega);obtain⟨u1,ab,I⟩:=aa.val (i+1) (by omega);have l0:=H.len;have l1:=I.len;have va:Zm (Yc D 0) (i+1)=Wt D 0 (i+1):=rfl;have vb:Zm (Yc D (i+1)) 0=Wt D (i+1) 0:=rfl;have g:=H.val (i+1) (by omega);have f:=I.val 0 (by omega);rw[va] at g;rw[vb] at f;have p0:0<d.n:=by omega
 have p1:i+1<d.n:=by omega
 have p2:i+1<u0.n:=by omega
 have p3:0<u1.n:=by omega
 have J:hc h4 d.b d.o=some u0.v:=by simpa using J
 have f:hc h4 u1.b u1.o=some (Zg (Wt D (i+1) 0)):=by simpa using f
 simp[U,Zl aa.ok,p0,p1,J,ab,Zl H.ok,Zl I.ok,p2,p3,g,f,-Int.natCast_add];refine Zfg C ?_;have fb:∀q:Prop,(Zix j D i=true->q)->¬q->Zix j D i=false:=fun q a b=>by
  cases z:Zix j D i with
  |false=>rfl
  |true=>exact absurd (a z) b
 have fq:Zix j D i=true->(Xn j.st i).2<=j.cap/\Wt D 0 (i+1)<1152921504606846976/\Wt D (i+1) 0<1152921504606846976/\Qf (Wt D 0 (i+1)) (Wt D (i+1) 0)<1152921504606846976/\Qf (Wt D 0 (i+1)) (Wt D (i+1) 0)<=j.lim:=fun z=>by simpa[Zix] using z
 by_cases k1:j.cap<(Xn j.st i).2
 ·simp[B4.hc,A4.hc,k1,U];exact Xs X fun h' t u e=>by simpa using G (fb _ fq (by omega)) h' t u (y4.trans e)
 by_cases k2:1152921504606846976<=Wt D 0 (i+1)
 ·simp[B4.hc,A4.hc,k1,k2,U];exact Xs X fun h' t u e=>by simpa using G (fb _ fq (by omega)) h' t u (y4.trans e)
 by_cases k3:1152921504606846976<=Wt D (i+1) 0
 ·simp[B4.hc,A4.hc,k1,k2,k3,U];exact Xs X fun h' t u e=>by simpa using G (fb _ fq (by omega)) h' t u (y4.trans e)
 by_cases k4:1152921504606846976<=Qf (Wt D 0 (i+1)) (Wt D (i+1) 0)
 ·simp[B4.hc,A4.hc,k1,k2,k3,k4,U];exact Xs X fun h' t u e=>by simpa using G (fb _ fq (by omega)) h' t u (y4.trans e)
 by_cases k5:j.lim<Qf (Wt D 0 (i+1)) (Wt D (i+1) 0)
 ·simp[B4.hc,A4.hc,k1,k2,k3,k4,k5,U];exact Xs X fun h' t u e=>by simpa using G (fb _ fq (by omega)) h' t u (y4.trans e)
 simp[B4.hc,A4.hc,k1,k2,k3,k4,k5,U];refine nx ⟨i+1,_,_,_,_,_,_,_,_,_,_,rfl,by omega,fun k hk=>?_,x4⟩;by_cases z:k=i
 ·subst z;unfold Zix;rw[decide_eq_true ⟨by omega,by omega,by omega,by omega,by omega⟩]
 exact O k (by omega)
end
end Go.Rm
