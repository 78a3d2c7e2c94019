import Derived.Test.YtmacmgjnmaajdaaGreatDoorT14
/- Parts. -/
set_option linter.all false
namespace Go.Rm
structure Z3x(Y:Sys):Prop where
 H:Z7c Y
 C:Zcu Y
 Clear:Y.cL 12 Y12
 tell:Y.cL 439 Y439
 least:Y.cL 397 Y397
def Z9s(x:Yt):cR:=.agg #[Zg x.a,Zg x.b,Zg x.c]
structure LeJ where
 Br:Nat
 Bd:Nat
 Bh:Nat
 Bf:Nat
 db:Nat
 cb:Nat
 hp:Nat
 o:Nat
 cP:Nat
 n:Nat
 P:Nat
 lo:Nat
structure LeK(J:LeJ):Prop where
 l1:J.lo<=J.Br
 l3:J.lo<=J.Bd
 l4:J.lo<=J.Bh
 l5:J.lo<=J.db
 l6:J.lo<=J.cb
 l7:J.lo<=J.Bf
 c1:J.Br≠J.cb
 c3:J.Bd≠J.cb
 c4:J.Bh≠J.cb
 c5:J.db≠J.cb
 c7:J.Bf≠J.cb
 d1:J.Br≠J.db
 d3:J.Bd≠J.db
 d4:J.Bh≠J.db
 d7:J.Bf≠J.db
 on:J.o+J.cP<=J.n
 bn:J.n<=268435456
 bP:J.P<=16384
structure LeQ(h:Zk)(J:LeJ)(vf:Array cR)(dn:List Bool)(L:Zb)(A:Vn)(S:Zf):Prop where
 br:Yo h J.Br #[.slice (some ⟨J.cb,J.o,none⟩) J.cP (J.n-J.o)]
 bd:Yo h J.Bd #[.slice (some ⟨J.db,0,none⟩) J.P J.P]
 bh:Yo h J.Bh #[Zh J.hp]
 bf:Yo h J.Bf vf
 dn:Yh h 1 (Sl.at J.db J.P J.P) (Vo dn)
 cs:Yh h 1 (Sl.at J.cb J.n J.n) (Zu L)
 hp:Q8 h J.hp J.P A S
 dj:∀b,S b->J.lo<=b/\b≠J.Br/\b≠J.Bd/\b≠J.Bh/\b≠J.Bf/\b≠J.db/\b≠J.cb
structure LeH(h:Zk)(J:LeJ)(vf:Array cR)(Bs:Nat)(sum:Int)(dn:List Bool)(L:Zb)(A:Vn)(S:Zf):Prop where
 q:LeQ h J vf dn L A S
 bs:Yo h Bs #[Zg sum]
 sb:J.lo<=Bs/\Bs≠J.cb
 ds:∀b,S b->b≠Bs
section
variable{Y:Sys}{h h':Zk}{J:LeJ}{vf:Array cR}{Bs:Nat}{sum:Int}{dn:List Bool}{L:Zb}{A:Vn}{S:Zf}
def LeQ.cC(k:LeQ h J vf dn L A S)(e:Ext h h'):LeQ h' J vf dn L A S :=
 ⟨k.br.cC e,k.bd.cC e,k.bh.cC e,k.bf.cC e,k.dn.cF e,k.cs.cF e,k.hp.cD e (fun _ _ h=>h),k.dj⟩
def LeH.cC(k:LeH h J vf Bs sum dn L A S)(e:Ext h h'):LeH h' J vf Bs sum dn L A S:=⟨k.q.cC e,k.bs.cC e,k.sb,k.ds⟩
def LeH.setC{L':Zb}(k:LeH h J vf Bs sum dn L A S)(j:LeK J)(m:Mod (fun i=>i=J.cb) h h')(o:Yh h' 1 (Sl.at J.cb J.n J.n) (Zu L')):LeH h' J vf Bs sum dn L' A S :=
 ⟨⟨m.cM k.q.br j.c1,m.cM k.q.bd j.c3,m.cM k.q.bh j.c4,m.cM k.q.bf j.c7,k.q.dn.cD m (fun _=>j.c5),o,k.q.hp.cD m (fun b hb e=>(k.q.dj b hb).2.2.2.2.2.2 e),k.q.dj⟩,m.cM k.bs k.sb.2,k.sb,k.ds⟩
def LeQ.mark{d:List Bool}(k:LeQ h J vf dn L A S)(j:LeK J)(m:Mod (fun i=>i=J.db) h h')(o:Yh h' 1 (Sl.at J.db J.P J.P) (Vo d)):LeQ h' J vf d L A S :=
 ⟨m.cM k.br j.d1,m.cM k.bd j.d3,m.cM k.bh j.d4,m.cM k.bf j.d7,o,k.cs.cD m (fun _ e=>j.c5 e.symm),k.hp.cD m (fun b hb e=>(k.dj b hb).2.2.2.2.2.1 e),k.dj⟩
def LeQ.heap{A':Vn}{S':Zf}(k:LeQ h J vf dn L A S)(j:LeK J)(m:Mod S h h')(H:Q8 h' J.hp J.P A' S')(f:∀b,S' b->S b\/h.size<=b):LeQ h' J vf dn L A' S':=by
 have O:=k.br.lt;have R:=k.bd.lt;have U:=k.bh.lt;have X:=k.bf.lt;have G:=k.dn.lt rfl;have I:=k.cs.lt rfl;have g1:=j.l1;simp at G I;refine⟨m.cM k.br (fun q=>(k.dj _ q).2.1 rfl),m.cM k.bd (fun q=>(k.dj _ q).2.2.1 rfl),m.cM k.bh (fun q=>(k.dj _ q).2.2.2.1 rfl),m.cM k.bf (fun q=>(k.dj _ q).2.2.2.2.1 rfl),k.dn.cD m (fun _ q=>(k.dj _ q).2.2.2.2.2.1 rfl),k.cs.cD m (fun _ q=>(k.dj _ q).2.2.2.2.2.2 rfl),H,fun b hb=>?_⟩;rcases f b hb with q|q
 ·exact k.dj b q
 exact⟨by omega,by omega,by omega,by omega,by omega,by omega,by omega⟩
def LeH.heap{A':Vn}{S':Zf}(k:LeH h J vf Bs sum dn L A S)(j:LeK J)(m:Mod S h h')(H:Q8 h' J.hp J.P A' S')(f:∀b,S' b->S b\/h.size<=b):LeH h' J vf Bs sum dn L A' S' :=
 ⟨k.q.heap j m H f,m.cM k.bs (fun q=>k.ds _ q rfl),k.sb,fun b hb=>by
  have:=k.bs.lt;rcases f b hb with q|q
  ·exact k.ds b q
  omega⟩
def Z5a(Y:Sys)(J:LeJ)(Bs:Nat):cR:=.func (.func (Y.fid 439)) #[] #[Zh J.Br,Zh Bs,Zh J.Bd,Zh J.Bh]
def Z19(X:Z3x Y)(j:LeK J)(k:LeH h J vf Bs sum dn L A S){x:Yt}(lL:L.length=J.n)(aa:dn.length=J.P)(s0:0<=sum/\sum<=Xm)(c0:0<=x.c/\x.c<=2305843009213693952)(xo:x.b<J.cP)(xt:x.b<0->0<=x.a/\x.a<J.P)
  {R:Ze}
  (hO:∀(o:Nat) h',x.b=(o:Int)->Mod (fun i=>J.lo<=i) h h'->LeH h' J vf Bs sum dn (L.set (J.o+o) (if sum+x.c<Zm L (J.o+o) then sum+x.c else Zm L (J.o+o))) A S->R (.tuple #[]) h')
  (hD:∀(b:Nat) h',x.b<0->x.a=(b:Int)->b<J.P->Zbt dn b=true->Ext h h'->R (.tuple #[]) h')
  (hP:∀(b:Nat) h' S',x.b<0->x.a=(b:Int)->b<J.P->Zbt dn b=false->Mod (fun i=>J.lo<=i) h h'->LeH h' J vf Bs sum dn L (Zad J.P A b (Vz (sum+x.c))) S'->R (.tuple #[]) h') :
  Zea Y (Z5a Y J Bs) [Z9s x] h R:=by
 have hI:Xm=1152921504606846976:=rfl;have on:=j.on;have bP:=j.bP;refine⟨X.tell.1,?_⟩;have:Zt Y 439 [Z9s x,Zh J.Br,Zh Bs,Zh J.Bd,Zh J.Bh] h R:=by
  refine .o X.tell ?_;simp[Y439,Yw.wp,Z9s];refine Zo ?_;intro B h1 gB B1 O;replace B1:Yo h1 B #[Zg x.a,Zg x.b,Zg x.c]:=B1;have G:=k.cC O;have w1:IntKind.i64.wrap (sum+x.c)=sum+x.c:=Zn;simp[B1.hc];by_cases c:0<=x.b
  ·obtain⟨o,ho⟩:∃o:Nat,x.b=o:=⟨x.b.toNat,by omega⟩
   have lo:o<J.cP:=by omega
   have cv:=G.q.cs.cE.val (J.o+o) (by omega);simp at cv;have hi:∀g,Ym.cK Y g (.idxa 1) [.slice (some ⟨J.cb,J.o,none⟩) J.cP (J.n-J.o),Zg o]=some (.pointer (some ⟨J.cb,J.o+o,none⟩)):=fun g=>by
    have:=Zl (Y:=Y) (h:=g) (s:=⟨J.cb,J.o,J.cP,J.n-J.o,false,none⟩) (sz:=1) (k:=.i64) (i:=(o:Int)) ⟨fun h=>(by cases h),by simp;omega,.inl rfl⟩ (by omega) (by simp;omega);simpa[Sl.v] using this
   simp[ho,G.q.br.hc,G.bs.hc,B1.hc,cv,w1,hi];refine Zfc G.q.cs (k:=J.o+o) ?_;intro h2 o2 I;rw[Um] at o2;have k2:=G.setC j I o2;simp;exact hO o h2 ho ((O.mono fun _ _ h=>h.elim).trans (I.mono fun i _ q=>by have:=j.l6;omega)) k2
  have c':x.b<0:=by omega
  obtain⟨q1,q2⟩:=xt c';obtain⟨b,hb⟩:∃b:Nat,x.a=b:=⟨x.a.toNat,by omega⟩
  have U:b<J.P:=by omega
  have ab:∀g z (x:Nat),x<J.P->Ym.cK Y g (.idxa 1) [.slice (some ⟨z,0,none⟩) J.P J.P,Zg x]=some (.pointer (some ⟨z,x,none⟩)):=fun g z x lx=>by
   have:=Wz (Y:=Y) (h:=g) (b:=z) (sz:=1) (show J.P<=9223372036854775807 by omega) lx (Xi4 J.P);simpa using this
  have dv:hc h1 J.db b=some (.bool (Zbt dn b)):=by
   have:=G.q.dn.cell (i:=b) (v:=.bool (Zbt dn b)) (by simp[Vo,Zbt,aa,U]);simpa using this
  simp[c,G.q.bd.hc,B1.hc,hb,ab _ _ _ U,dv]
  cases hd:Zbt dn b with
  |true =>
   simp;exact hD b h1 c' hb U hd O
  |false =>
   simp[G.q.bh.hc,G.bs.hc,B1.hc,w1,hb];refine Zdb X.H.Put X.H.key X.C.Held X.H.up X.H.ahead X.H.swap G.q.hp ?_;intro h2 S2 H2 f2 I;simp;exact hP b h2 S2 c' hb U hd ((O.mono fun _ _ h=>h.elim).trans (I.mono fun i _ q=>(G.q.dj i q).1)) (G.heap j I H2 f2)
 exact this
end
def Zao{h:Zk}{K:Ze}{n:Nat}{m:Int}(H:∀(b:Nat)(h':Zk),h.size<=b->Yh h' 1 (Sl.at b n n) (Zu (List.replicate n 0))->Ext h h'->b<h'.size->K (.slice (some ⟨b,0,none⟩) n n) h')(I:n<=17592186044416:=by omega)(G:m=n:=by rfl):
  Ef.wp h K (.mkslice 1 8 #[.int .i64 0]) [.int .i64 m,.int .i64 m]:=by
 subst G;rw[Va];refine⟨by omega,by omega,by omega,by omega,fun t=>?_⟩;simp only[Xi8,Xjd,Vm];exact H h.size _ (Xi4 _) (Zdg) Mod.push (by simp)
def Zma(Y:Sys)(h0:Zk)(fv:Zj)(P:Nat)(st:Nat->List Yt):Prop :=
 ∀(a:Nat)(tv:Zj)(I:Nat->Zk->Prop)(h:Zk)(R:Ze),a<P ->
  (∀j h',I j h'->Ext h0 h')->(∀j h' h'',I j h'->Ext h' h''->I j h'') ->
  (∀j h',j<(st a).length->I j h'->∀R':Ze,(∀h'',I (j+1) h''->R' (.tuple #[]) h'')->Zea Y tv [Z9s (Zq (st a) j)] h' R') ->
  I 0 h->(∀h',I (st a).length h'->R (.tuple #[]) h')->Zea Y fv [.int .i64 a,tv] h R
section
variable{Y:Sys}{h h':Zk}
def Xg9(q r s t p u v w x a b c d g h k m o:Zj)(n cb:Nat)(h0:Zk)(e:Zc)(h':Zk):Prop :=
 ∃(i:Nat)(p f:Zj),e=[q,r,s,t,.slice (some ⟨cb,0,none⟩) n n,p,u,v,w,x,a,b,c,d,.int .i64 n,.int .i64 i,f,g,h,k,m,o]/\i<=n/\Mod (fun j=>j=cb) h0 h'/\∃l:Zb,l.length=n/\Yh h' 1 (Sl.at cb n n) (Zu l)/\∀j,j<i->Zm l j=Xm
structure LeB(h0 h:Zk)(cb n hp Bh Bf P:Nat)(vf:Array cR)(L:Zb)(S:Zf):Prop where
 bh:Yo h Bh #[.pointer (some ⟨hp,0,none⟩)]
 bf:Yo h Bf vf
 cs:Yh h 1 (Sl.at cb n n) (Zu L)
 hp:∃A,Q8 h hp P A S
 dj:∀b,S b->h0.size<=b/\b≠Bh/\b≠Bf/\b≠cb
 ex:Ext h0 h
 lL:L.length=n
def Xes(st:Nat->List Yt)(starts:Zb)(cP i:Nat)(L:Zb):Prop :=
 (∀i',i'<i->∀o,o<cP->Q0 (GoF st (Zm starts i').toNat o) (Zm L (i' * cP+o)))/\∀j,i * cP<=j->j<L.length->Zm L j=Xm
def LsI(m o l:Zj)(cb n hp Bh Bf P cP:Nat)(vf:Array cR)(ss:Sl)(st:Nat->List Yt)(starts:Zb)(h0:Zk)(e:Zc)(h':Zk):Prop :=
 ∃(i:Nat)(L:Zb)(S:Zf)(l p q r a b c d f g h j k:Zj),e=[m,o,.pointer (some ⟨Bf,0,none⟩),.slice none 0 0,.slice (some ⟨cb,0,none⟩) n n,l,.pointer (some ⟨Bh,0,none⟩),p,q,r,a,b,c,d,f,g,h,ss.v,.int .i64 ss.n,.int .i64 i,j,k]/\i<=starts.length /\
  LeB h0 h' cb n hp Bh Bf P vf L S/\Xes st starts cP i L
def Zm6(J:LeJ)(L:Zb)(o:Nat):Int:=if o<J.cP then Zm L (J.o+o) else Xm
def LsP(m p:Zj)(J:LeJ)(vf:Array cR)(ss:Sl)(st:Nat->List Yt)(i s:Nat)(L0:Zb)(h0:Zk)(mm:Nat)(e:Zc)(h':Zk):Prop :=
 ∃(ord:Zd)(cost:Nat->Int)(A:Vn)(dn:List Bool)(L:Zb)(S:Zf)(q r t a c d f g h k l:Zj),
  e=[m,p,.pointer (some ⟨J.Bf,0,none⟩),.slice none 0 0,.slice (some ⟨J.cb,0,none⟩) J.n J.n,q,.pointer (some ⟨J.Bh,0,none⟩),r,t,.pointer (some ⟨J.Br,0,none⟩),.pointer (some ⟨J.Bd,0,none⟩),a,c,d,f,g,h,ss.v,.int .i64 ss.n,.int .i64 i,k,l] /\
  Ext h0 h'/\LeQ h' J vf dn L A S/\dn.length=J.P/\L.length=J.n/\(∀b,b<J.P->(Zbt dn b=true↔b∈ord))/\LeO J.P st s ord cost A (Zm6 J L)/\(∀j,j<J.o\/J.o+J.cP<=j->Zm L j=Zm L0 j)/\mm=J.P-ord.length
set_option maxHeartbeats 1000000 in
def Zl2(X:Z3x Y){P cP:Nat}{O:Sl}{G:Zb}{fv:Zj}{st:Nat->List Yt}(ok:Zrn P cP st)(bP:P<=16384)(r:Zw h O G)(hs:∀i,i<G.length->∃s:Nat,Zm G i=s/\s<P)(h1o:0<cP)
  (bo:G.length * cP<=268435456) (nx:Zma Y h fv P st) (bQ:fv.oneCell'=true)
  {R:Ze} (hr:∀h' U L,Ext h h'->h.size<=U->Yh h' 1 (Sl.at U (G.length * cP) (G.length * cP)) (Zu L)->L.length=G.length * cP ->
   (∀i,i<G.length->∀o,o<cP->Q0 (GoF st (Zm G i).toNat o) (Zm L (i * cP+o)))->R (.slice (some ⟨U,0,none⟩) (G.length * cP) (G.length * cP)) h') :
  Zt Y 397 [.agg #[.int .i64 P,O.v,fv],.int .i64 cP] h R:=by
 have a4:=r.len;have bs:G.length<=268435456:=Xjo (by have:=Nat.mul_le_mul_left G.length h1o;simpa using this) bo;have bu:G.length=0\/cP<=268435456:=by
  rcases Xkr G.length with q|q
  ·exact .inl q
  right;have:=Xkm cP q;omega
 refine .o X.least ?_;simp[Y397,Yw.wp];refine Zo ?_;intro Bf h1 a5 Bf1 e1;replace Bf1:Yo h1 Bf #[.int .i64 P,O.v,fv]:=Bf1;have z1:=e1.size;have a6:=Bf1.lt;have wm:IntKind.i64.wrap ((O.n:Int) * (cP:Int))=((G.length * cP:Nat):Int):=by
  have q1:((G.length * cP:Nat):Int)<=268435456:=by omega
  have q2:(0:Int)<=((G.length * cP:Nat):Int):=by omega
  rw[Int.natCast_mul] at q1 q2;rw[<-a4,Zn];simp
 generalize hn:G.length * cP=n at *
 simp[Bf1.hc,wm];refine Zao (n:=n) ?_;intro U h2 a7 o2 e2 a8;have x2:=e1.trans e2;have z2:=e2.size;have Bf2:=Bf1.cC e2;simp;refine Zp (Xg9 (.agg #[.int .i64 P,O.v,fv]) (.int .i64 cP) (.pointer (some ⟨Bf,0,none⟩)) (.slice none 0 0) undef undef undef undef undef undef undef undef undef undef undef undef undef undef n U h2) (fun e _=>n-Zx e 15) ⟨0,_,_,rfl,by omega,Mod.refl _,_,by simp,o2,fun j I=>by omega⟩ ?_;rintro e h3 ⟨i,v5,aF,rfl,hi,m3,l,ll,o3,hl⟩;by_cases c:i<n
 ·have c':(i:Int)<n:=by omega
  have w1:=wrapS (i:=i);have ap:∀g,Ym.cK Y g (.idxa 1) [.slice (some ⟨U,0,none⟩) n n,.int .i64 i]=some (.pointer (some ⟨U,i,none⟩)):=fun g=>by
   have:=Wz (Y:=Y) (h:=g) (b:=U) (sz:=1) (show n<=9223372036854775807 by omega) c (Xi4 n);simpa using this
  simp[c',ap];refine Zfc o3 (k:=i) ?_ (by simp[ll];omega);intro h4 o4 m4;rw[Um] at o4;simp[w1];refine Go.Rm.nx ⟨i+1,_,_,rfl,by omega,m3.trans m4,l.set i Xm,by simp[ll],o4,fun j I=>?_⟩;rw[Vj];by_cases q:j=i
  ·simp[q]
  simp[q];exact hl j (by omega)
 have c':¬(i:Int)<n:=by omega
 have aG:∀j,j<n->Zm l j=Xm:=fun j I=>hl j (by omega);have x3:Ext h h3:=Mod.cC x2 m3 (fun j I=>by omega);have Bf3:=m3.cM Bf2 (by omega);have z3:=m3.size;clear hl hi m3 o2 Bf2;simp[c',Bf3.hc];refine Zm4 X.H.New ?_;intro h4 hp S4 H4 f4 e4;rw[Zlj bP] at H4;have x4:=x3.trans e4;have z4:=e4.size;have Bf4:=Bf3.cC e4;simp;refine Zo ?_;intro Bh h5 g5 Bh5 e5;replace Bh5:Yo h5 Bh #[.pointer none]:=Bh5;have l5:=Bh5.lt;have z5:=e5.size;simp;refine stB Bh5 (by simp) ?_;intro h6 Bh6 m6;simp at Bh6;have z6:=m6.size;have e6:Ext h4 h6:=Mod.cG e5 m6 g5;have x6:=x4.trans e6;have Bf6:=Bf4.cC e6;simp[Bf6.hc];have B6:LeB h h6 U n hp Bh Bf P #[.int .i64 P,O.v,fv] l S4:=by
  refine⟨Bh6,Bf6,(o3.cF e4).cF e6,⟨_,H4.cD e6 (fun _ _ h=>h)⟩,fun b hb=>?_,x6,ll⟩;have:=f4 b hb;have:=H4.lt hb;exact⟨by omega,by omega,by omega,by omega⟩
 refine Zp (LsI (.agg #[.int .i64 P,O.v,fv]) (.int .i64 cP) v5 U n hp Bh Bf P cP #[.int .i64 P,O.v,fv] O st G h) (fun e _=>G.length-Zx e 19) ⟨0,l,S4,_,_,_,_,_,_,_,_,_,_,_,_,_,rfl,by omega,B6,fun i' h=>by omega,fun j _ I=>aG j (by omega)⟩ ?_;have aq:Bh≠U/\Bf≠U/\Bf≠Bh/\h.size<=U/\h.size<=Bh/\h.size<=Bf:=by omega
 clear B6 Bf6 x6 e6 m6 Bh6 Bh5 e5 Bf4 x4 f4 H4 e4 Bf3 x3 x2 aG o3 z1 z2 z3 z4 z5 z6 l5 a8 g5 a7 e1 e2 Bf1 a5 a6 ll c c' i l;obtain⟨n1,n2,n3,n4,n5,n6⟩:=aq;rintro e h7 ⟨i,L,S,v5,v7,v8,v9,bR,a9,ba,bb,bc,be,aF,bg,bi,rfl,hi,B7,af⟩;have r7:=r.cC B7.ex;by_cases c:i<G.length;rotate_left
 ·have c':¬(i:Int)<O.n:=by omega
  have:i=G.length:=by omega
  subst this;simp[c'];exact hr h7 U L B7.ex n4 B7.cs B7.lL af.1
 have c1:(i:Int)<O.n:=by omega
 have c2:i<O.n:=by omega
 have w1:=wrapS (i:=i);have io:i * cP+cP<=n:=by
  have:=Xkm cP (show i+1<=G.length from c);rw[Xj0,Xmf,hn] at this;exact this
 have w2:IntKind.i64.wrap ((i:Int) * (cP:Int))=((i * cP:Nat):Int):=by
  rw[Zn (by rw[<-Int.natCast_mul];omega),Int.natCast_mul]
 have w3:IntKind.i64.wrap (((i:Int)+1) * (cP:Int))=((i * cP+cP:Nat):Int):=by
  have:((i:Int)+1) * (cP:Int)=((i * cP+cP:Nat):Int):=by
   rw[Int.natCast_add,Int.natCast_mul,Int.add_mul,Xmb]
  rw[this,Zn]
 obtain⟨s,es,ls⟩:=hs i c;have rv:=r7.val i c;rw[es] at rv;have an:Ym.cK Y h7 (.slc 1 true true) [.slice (some ⟨U,0,none⟩) n n,.int .i64 ((i * cP:Nat):Int),.int .i64 ((i * cP+cP:Nat):Int)]=some (.slice (some ⟨U,i * cP,none⟩) cP (n-i * cP)):=by
  have:=Zbw (Y:=Y) (h:=h7) (s:=Sl.at U n n) (sz:=1) (k:=.i64) (k':=.i64) (i:=((i * cP:Nat):Int)) (j:=((i * cP+cP:Nat):Int)) B7.cs.ok (by omega) (by omega) (by simp only[Sl.at_c];omega);have aq:¬n=i * cP:=by omega
  simpa[Sl.v,Sl.at,aq,-Int.natCast_mul,-Int.natCast_add] using this
 simp[c1,Zl r7.ok,rv,w1,w2,w3,an,-Int.natCast_mul,-Int.natCast_add];refine Zo ?_;intro Br h8 g8 Br8 e8;replace Br8:Yo h8 Br #[.slice none 0 0]:=Br8;have l8:=Br8.lt;simp;refine stB Br8 (by simp) ?_;intro h9 Br9 m9;simp at Br9;have z9:=m9.size;have e9:Ext h7 h9:=Mod.cG e8 m9 g8;have Bf9:=B7.bf.cC e9;simp[Bf9.hc];refine Zh2 (n:=P) ?_;intro db bj bS aH ar bT;simp;refine Zo ?_;intro Bd bk bm Bd11 aI;replace Bd11:Yo bk Bd #[.slice none 0 0]:=Bd11;simp;refine stB Bd11 (by simp) ?_;intro au Bd12 aJ;simp at Bd12;have ag:Ext bj au:=Mod.cG aI aJ bm;have ab:Ext h7 au:=(e9.trans ar).trans ag;have Bh12:=B7.bh.cC ab;obtain⟨A,HA⟩:=B7.hp;simp[Bh12.hc];have k1:=B7.bh.lt;have k2:=B7.bf.lt;have k3:=B7.cs.lt rfl;simp at k3;refine Zxc X.Clear (HA.cD ab (fun _ _ h=>h)) ?_;intro aK H13 av;obtain⟨J,hJ⟩:∃J:LeJ,J=⟨Br,Bd,Bh,Bf,db,U,hp,i * cP,cP,n,P,h.size⟩:=⟨_,rfl⟩
 have jk:LeK J:=by
  subst hJ;refine⟨?_,?_,?_,?_,?_,?_,?_,?_,?_,?_,?_,?_,?_,?_,?_,?_,?_,?_⟩<;>simp only[]<;>omega
 have aL:LeQ au J #[.int .i64 P,O.v,fv] (List.replicate P false) L A S:=by
  subst hJ;refine⟨(Br9.cC ar).cC ag,Bd12,Bh12,B7.bf.cC ab,by simpa[Vo] using aH.cF ag,B7.cs.cF ab,HA.cD ab (fun _ _ h=>h),fun b hb=>?_⟩;have:=B7.dj b hb;have:=HA.lt hb;simp only[];exact⟨by omega,by omega,by omega,by omega,by omega,by omega,by omega⟩
 have ah:LeQ aK J #[.int .i64 P,O.v,fv] (List.replicate P false) L (fun _=>none) S:=aL.heap jk av (by rw[hJ];exact H13) (fun b hb=>.inl hb);have aM:Ext h aK:=Mod.cC (B7.ex.trans ab) av (fun j I=>(B7.dj j I).1);have Bh13:=ah.bh;rw[hJ] at Bh13;simp at Bh13;simp[Bh13.hc];have H13:=ah.hp;rw[show J.hp=hp by rw[hJ]] at H13;refine Zdb X.H.Put X.H.key X.C.Held X.H.up X.H.ahead X.H.swap H13 ?_;intro aN S14 H14 aO aw;rw[Qz] at H14;have aP:LeQ aN J #[.int .i64 P,O.v,fv] (List.replicate P false) L (Zad P (fun _=>none) s 0) S14:=ah.heap jk aw (by rw[hJ] at H14 ⊢;exact H14) aO;have aQ:Ext h aN:=Mod.cC aM aw (fun j I=>(B7.dj j I).1);have jP:J.P=P:=by rw[hJ]
 have jo:J.o=i * cP:=by rw[hJ]
 have bU:J.cP=cP:=by rw[hJ]
 have jn:J.n=n:=by rw[hJ]
 have bn:J.lo=h.size:=by rw[hJ]
 have bp:J.hp=hp:=by rw[hJ]
 have d0:LeO J.P st s [] (fun _=>0) (Zad P (fun _=>none) s 0) (Zm6 J L):=by
  rw[jP];refine LeO.start ls (fun o=>?_);unfold Zm6
  split
  ·exact af.2 _ (by omega) (by have:=B7.lL;omega)
  rfl
 have bq:Br=J.Br:=by rw[hJ]
 have br:Bd=J.Bd:=by rw[hJ]
 have bv:Bh=J.Bh:=by rw[hJ]
 have bw:Bf=J.Bf:=by rw[hJ]
 have bx:U=J.cb:=by rw[hJ]
 have lL:=B7.lL;have bz:i * cP=J.o:=by rw[jo]
 clear hJ H14 aw aO H13 av aL ah aM Bh13 Bh12 HA ab ag aI Bd12 Bd11 aJ ar aH e9 Bf9 Br9 Br8 m9 e8 an;simp;rw[bq,br,bv,bw,bx,<-jn];refine Ze5 (LsP (.agg #[.int .i64 P,O.v,fv]) (.int .i64 cP) J #[.int .i64 P,O.v,fv] O st i s L h) _ ⟨[],_,_,_,L,S14,_,_,_,_,_,_,_,_,_,_,_,rfl,aQ,aP,by simp[jP],by omega,fun b hb=>by simp[Zbt,show b<P from jP ▸ hb],d0,fun j _=>rfl,rfl⟩ ?_;clear aP d0 aQ;rintro mm e bA ⟨ac,aR,A,dn,L1,S1,v5,v7,v8,a9,ba,bb,bc,be,aF,bg,bi,rfl,aS,ad,aT,aU,aV,aW,ax,rfl⟩;simp[ad.bh.hc];refine Zk9 X.H.Pop X.H.down X.H.ahead X.H.swap ad.hp ?_ ?_
 ·intro h0;simp;refine Zo ?_;intro Bs ai bB Bs16 bC;replace Bs16:Yo ai Bs #[.int .i64 0]:=Bs16;simp;refine stB Bs16 (by simp) ?_;intro ay Bs17 bD;have aj:Ext bA ay:=Mod.cG bC bD bB;have ae:=ad.cC aj;simp[w1];refine Go.Rm.nx ⟨i+1,L1,S1,_,_,_,_,_,_,_,_,_,_,_,_,_,rfl,by omega,?_,?_⟩
  ·rw[<-bp,<-jP];exact⟨ae.bh,by rw[jP];exact ae.bf,ae.cs,⟨_,ae.hp⟩,fun b hb=>by have:=ae.dj b hb;rw[bn] at this;exact⟨this.1,this.2.2.2.1,this.2.2.2.2.1,this.2.2.2.2.2.2⟩,aS.trans aj,aU⟩
  refine⟨fun i' bV o ho=>?_,fun j I bW=>?_⟩
  ·by_cases q:i'=i
   ·subst q;have:=aW.least (by rw[jP];exact ok) (by rw[jP];exact ls) h0 o;unfold Zm6 at this;rw[ifP,<-bz] at this;rw[es];exact this
   have bX:i' * cP+cP<=i * cP:=by
    have:=Xkm cP (show i'+1<=i by omega);rw[Xj0,Xmf] at this;exact this
   rw[ax _ (.inl (by omega))];exact af.1 i' (by omega) o ho
  have bY:i * cP+cP<=j:=by
   rw[Xj0,Xmf] at I;exact I
  rw[ax _ (.inr (by omega))];exact af.2 j (by omega) (by omega)
 intro ai k c ao H16 aX;have ak:=ad.heap jk aX H16 (fun b hb=>.inl hb);have bE:Ext h ai:=Mod.cC aS aX (fun j I=>by have:=(ad.dj j I).1;omega);obtain⟨bZ,az,aY,aZ,b0⟩:=aW.pop ao;have lk:=ao.1;simp;refine Zo ?_;intro Bs ay bF Bs17 aj;replace Bs17:Yo ay Bs #[.int .i64 0]:=Bs17;simp;refine stB Bs17 (by simp) ?_;intro bG Bs18 bH;simp at Bs18;have a0:Ext ai bG:=Mod.cG aj bH bF;have al:=ak.cC a0;have bJ:=bE.trans a0;have ap:∀g z (x:Nat),x<J.P->Ym.cK Y g (.idxa 1) [.slice (some ⟨z,0,none⟩) J.P J.P,.int .i64 x]=some (.pointer (some ⟨z,x,none⟩)):=fun g z x lx=>by
  have:=Wz (Y:=Y) (h:=g) (b:=z) (sz:=1) (show J.P<=9223372036854775807 by omega) lx (Xi4 J.P);simpa using this
 simp[al.bd.hc,ap _ _ _ lk];refine Zfc al.dn (k:=k) ?_ (by rw[Zgw];omega);intro am a1 aA;rw[Zec] at a1;have a2:=al.mark jk aA a1;have bK:Ext h am:=Mod.cC bJ aA (fun j I=>by have:=jk.l5;omega);have kk:=al.dn.lt rfl;have bL:=ak.dn.lt rfl;simp at kk bL;have Bs19:Yo am Bs #[.int .i64 c]:=aA.cM Bs18 (by omega);have bM:=ak.cs.lt rfl;simp at bM;have H19:LeH am J #[.int .i64 P,O.v,fv] Bs c (dn.set k true) L1 (Zej A k) S1:=⟨a2,Bs19,⟨by omega,by omega⟩,fun b hb=>by have:=ak.hp.lt hb;omega⟩
 have aa:∀y,y<J.P->(Zbt (dn.set k true) y=true↔y∈ac++[k]):=by
  intro y hy;rw[Zmt (by omega)];by_cases e:y=k
  ·subst e;simp
  rw[if_neg e];simp[e];exact aV y hy
 have bN:∀g,Ym.cK Y g (.mkf 439 0) [.pointer (some ⟨J.Br,0,none⟩),.pointer (some ⟨Bs,0,none⟩),.pointer (some ⟨J.Bd,0,none⟩),.pointer (some ⟨J.Bh,0,none⟩)]=some (Z5a Y J Bs):=fun g=>rfl;simp[a2.bf.hc,bN];refine nx k (Z5a Y J Bs) (fun j g=>∃L2 A2 S2,Ext h g/\LeH g J #[.int .i64 P,O.v,fv] Bs c (dn.set k true) L2 A2 S2/\L2.length=J.n/\LeI J.P st s (ac++[k]) (Uj aR k c) A2 (Zm6 J L2) k j/\(∀j,j<J.o\/J.o+J.cP<=j->Zm L2 j=Zm L j)) am _ (by omega) ?_ ?_ ?_ ?_ ?_
 ·rintro j g ⟨_,_,_,x,_⟩;exact x
 ·rintro j g g' ⟨L2,A2,S2,x,k2,r2⟩ e;exact⟨L2,A2,S2,x.trans e,k2.cC e,r2⟩
 ·rintro j g I ⟨L2,A2,S2,x,k2,l2,d2,o2⟩ R' aB;have hm:=Zey I;have hc:=ok.c0 k _ hm;have b1:=ok.to k _ hm;have bO:=ok.out k _ hm;have aC:k∈ac++[k]:=by simp
  have aD:Zrn J.P cP st:=by rw[jP];exact ok
  refine Z19 X jk k2 l2 (by simp[aT]) (by omega) hc (by omega) (by omega) ?_ ?_ ?_
  ·intro o g' ho m' k';refine aB g' ⟨_,A2,S2,Mod.cC x m' (fun j I=>by omega),k',by simp[l2],?_,fun j I=>?_⟩
   ·have:=d2.out aD I aC ho;rw[aZ] at this;have e:Uj (Zm6 J L2) o (if c+(Zq (st k) j).c<Zm6 J L2 o then c+(Zq (st k) j).c else Zm6 J L2 o)=Zm6 J (L2.set (J.o+o) (if c+(Zq (st k) j).c<Zm L2 (J.o+o) then c+(Zq (st k) j).c else Zm L2 (J.o+o))):=by
     funext y
     have lo:o<J.cP:=by omega
     unfold Uj Zm6;rw[if_pos lo,Vj];by_cases q:y=o
     ·subst q;simp[lo]
     have:¬J.o+y=J.o+o:=by omega
     simp[q]
    rw[e] at this;exact this
   have b2:=jk.on;rw[Vj,ifN];exact o2 j I
  ·intro b g' hb aE lb hd e;exact aB g' ⟨L2,A2,S2,x.trans e,k2.cC e,l2,d2.old aD I aC aY hb aE ((aa b lb).1 hd),o2⟩
  intro b g' S' hb aE lb hd m' k';refine aB g' ⟨L2,_,S',Mod.cC x m' (fun j I=>by omega),k',l2,?_,o2⟩;have:=d2.put aD I aC aY hb aE (fun h=>by rw[(aa b lb).2 h] at hd;cases hd);rw[aZ] at this;exact this
 ·exact⟨L1,_,S1,bK,H19,aU,az,ax⟩
 rintro g ⟨L2,A2,S2,x,k2,l2,d2,o2⟩;simp;refine Zi1 (m':=J.P-(ac++[k]).length) ⟨ac++[k],_,A2,_,L2,S2,_,_,_,_,_,_,_,_,_,_,_,rfl,x,k2.q,by simp[aT],l2,aa,d2.fin,o2,rfl⟩ ?_;have a3:=Za1 az.d.nd az.d.lt;simp at a3 ⊢;omega
structure Xcf(h:Zk)(B P:Nat)(st:Nat->List Yt):Prop where
 ex:∃sv:Sl,Yo h B #[sv.v]/\sv.ok/\sv.n=P/\∀k,k<P->∃u:Sl,hc h sv.b (sv.o+k)=some u.v/\Zbd h u (st k)
 bl:∀k,k<P->(st k).length<=16384
def stK(cN:Zb):Nat->List Yt->List Yt
 |_,[]=>[]
 |p,x::r=>if Zm cN p<Xm/\x.c<Xm then ⟨x.a,x.b,x.c+Zm cN p⟩::stK cN (p+1) r else stK cN (p+1) r
structure Xbq(h:Zk)(Bs Bl Bc P:Nat)(cN:Zb)(fi:Nat->Int)(lk:Nat->Nat)(ls:Nat->List Yt)(n:Nat):Prop where
 ex:∃sp sl sc:Sl,Yo h Bs #[sp.v]/\Yo h Bl #[sl.v]/\Yo h Bc #[sc.v]/\Zw h sc cN/\sp.ok/\sp.n=P/\sl.ok/\sl.n=n/\(∀k,k<P->hc h sp.b (sp.o+k * 2)=some (Zg (fi k))/\hc h sp.b (sp.o+k * 2+1)=some (Zg (lk k))) /\
  ∀i,i<n->∃u:Sl,hc h sl.b (sl.o+i)=some u.v/\Zbd h u (ls i)
 ll:∀k,k<P->lk k<n
 bl:∀i,i<n->(ls i).length<=16384
 ff:∀k,k<P->ls (lk k)≠[]->0<=fi k/\fi k+(ls (lk k)).length<=cN.length
 bc:cN.length<=17592186044416
 c0:∀i,i<cN.length->0<=Zm cN i/\Zm cN i<=Xm
 x0:∀i x,i<n->x∈ls i->0<=x.c/\x.c<=Xm
def NaI(Y:Sys)(a:Nat)(tv v2:Zj)(u:Sl)(m:Nat)(I:Nat->Zk->Prop)(h0:Zk)(e:Zc)(h':Zk):Prop :=
 ∃(j:Nat)(v3 v7:Zj),e=[Zg a,tv,v2,v3,u.v,Zg u.n,Zg j,v7]/\j<=m/\I j h'/\Ext h0 h'
def Z15(H:Y.cL 438 Y438){h0:Zk}{B P:Nat}{G:Nat->List Yt}(s:Xcf h0 B P G):Zma Y h0 (.func (.func (Y.fid 438)) #[] #[Zh B]) P G:=by
 intro a tv I h R ha J X aa O hR;refine⟨H.1,?_⟩;obtain⟨sv,Bb,ab,ns,U⟩:=s.ex;have bl:=s.bl a ha;obtain⟨u,hu,ru⟩:=U a ha;have x0:=J _ _ O;have B0:=Bb.cC x0;have ac:=x0.hc hu (fun h=>h);have:Zt Y 438 [Zg a,tv,Zh B] h R:=by
  refine .o H ?_;have c1:(a:Int)<sv.n:=by omega
  have lu:=ru.len;simp[Y438,Yw.wp,B0.hc,Zl ab,c1,ac];refine Zp (NaI Y a tv (Zh B) u (G a).length I h0) (fun e _=>(G a).length-Zx e 6) ⟨0,_,_,rfl,by omega,O,x0⟩ ?_;rintro e h1 ⟨j,v3,v7,rfl,hj,I1,x1⟩;have r1:=ru.cC x1;by_cases c:j<(G a).length
  ·have c':(j:Int)<u.n:=by omega
   have w1:=wrapS (i:=j);simp[c',Zl ru.ok,r1.rd c];refine Zo ?_;intro D h2 gD D2 e2;simp;refine Zy (vs:=#[Zg (Zq (G a) j).a,Zg (Zq (G a) j).b,Zg (Zq (G a) j).c]) D2 ?_;intro h3 D3 m3;have e3:Ext h1 h3:=Mod.cG e2 m3 gD;simp[Yf D3];refine aa j h3 c (X _ _ _ I1 e3) _ ?_;intro h4 I4;simp[w1];exact nx ⟨j+1,_,_,rfl,by omega,I4,J _ _ I4⟩
  have c':¬(j:Int)<u.n:=by omega
  have:j=(G a).length:=by omega
  subst this;simp[c'];exact hR h1 I1
 exact this
def NkI(Y:Sys)(a Bs Bl Bc:Nat)(tv:Zj)(u:Sl)(cN:Zb)(f:Int)(l t:List Yt)(I:Nat->Zk->Prop)(h0:Zk)(e:Zc)(h':Zk):Prop :=
 ∃(j q:Nat)(g h i b c d:Zj),e=[Zg a,tv,Zh Bs,Zh Bl,Zh Bc,Zg f,g,h,i,u.v,Zg u.n,Zg j,b,c,d]/\j<=l.length/\q<=t.length/\t.drop q=stK cN (f.toNat+j) (l.drop j)/\I q h'/\Ext h0 h'
def Zy7{l:List Yt}{j:Nat}(h:j<l.length):l.drop j=Zq l j::l.drop (j+1):=by rw[Vi h];exact Xjz h
def Z0z(H:Y.cL 441 Y441){h0:Zk}{Bs Bl Bc P n:Nat}{cN:Zb}{fi:Nat->Int}{lk:Nat->Nat}{ls st:Nat->List Yt}(s:Xbq h0 Bs Bl Bc P cN fi lk ls n)(hst:∀k,k<P->st k=stK cN (fi k).toNat (ls (lk k))):
  Zma Y h0 (.func (.func (Y.fid 441)) #[] #[Zh Bs,Zh Bl,Zh Bc]) P st:=by
 intro a tv I h R ha U O ag X hR;refine⟨H.1,?_⟩;have hI:Xm=1152921504606846976:=rfl;obtain⟨sp,sl,sc,Bs0,Bl0,Bc0,rc,aa,an,ab,ao,ah,ai⟩:=s.ex;have ln:=s.ll a ha;have bl:=s.bl _ ln;have ff:=s.ff a ha;have bc:=s.bc;obtain⟨u,hu,ru⟩:=ai _ ln;obtain⟨hf,hk⟩:=ah a ha;have J:=U _ _ X;have Bs1:=Bs0.cC J;have Bl1:=Bl0.cC J;have Bc1:=Bc0.cC J;have ac:=J.hc hu (fun h=>h);have ad:=J.hc hf (fun h=>h);have ae:=J.hc hk (fun h=>h);have hs:=hst a ha;have x0c:=fun x=>s.x0 (lk a) x ln;have aj:=s.c0;generalize ap:fi a=f at *
 generalize aq:lk a=g at *
 generalize ar:ls g=l at *
 generalize au:st a=t at *
 have:Zt Y 441 [Zg a,tv,Zh Bs,Zh Bl,Zh Bc] h R:=by
  refine .o H ?_;have c1:(a:Int)<sp.n:=by omega
  have c2:(g:Int)<sl.n:=by omega
  have lu:=ru.len;have lc:=rc.len;simp[Y441,Yw.wp,Bs1.hc,Zl aa,c1,ad,Bl1.hc,ae,Zl ab,c2,ac];refine Zp (NkI Y a Bs Bl Bc tv u cN f l t I h0) (fun e _=>l.length-Zx e 11) ⟨0,0,_,_,_,_,_,_,rfl,by omega,by omega,by simpa using hs,X,J⟩ ?_;clear hs J Bs1 Bl1 Bc1 ac ad ae;rintro e h1 ⟨j,q,v6,v7,v8,av,aw,ax,rfl,hj,hq,hd,I1,x1⟩;have r1:=ru.cC x1;have af:=rc.cC x1;have Bc1:=Bc0.cC x1;by_cases c:j<l.length;rotate_left
  ·have c':¬(j:Int)<u.n:=by omega
   have e1:l.drop j=[]:=Xj2;have e2:q=t.length:=by
    have:=congrArg List.length hd;rw[e1] at this;simp[stK] at this;omega
   subst e2;simp[c'];exact hR h1 I1
  have c':(j:Int)<u.n:=by omega
  have c2:j<u.n:=by omega
  have w1:=wrapS (i:=j);have hm:=Zey c;obtain⟨q0,q1⟩:=ff (fun e=>by rw[e] at c;simp at c);obtain⟨ay,az⟩:=x0c _ hm;obtain⟨k0,k1⟩:=aj (f.toNat+j) (by omega);obtain⟨p,rfl⟩:∃p:Nat,f=p:=⟨f.toNat,by omega⟩
  have w2:IntKind.i64.wrap ((p:Int)+(j:Int))=(((p+j):Nat):Int):=by rw[Zn];omega
  have vc:=af.val (p+j) (by omega);have cl:¬sc.n<=p+j:=by omega
  have ak:p+j<sc.n:=by omega
  rw[Zy7 c] at hd;simp only[Xi8] at hd k0 k1;simp[c',Zl ru.ok,r1.rd c];refine Zo ?_;intro D h2 gD D2 e2;simp;refine Zy (vs:=#[Zg (Zq l j).a,Zg (Zq l j).b,Zg (Zq l j).c]) D2 ?_;intro h3 D3 m3;have e3:Ext h1 h3:=Mod.cG e2 m3 gD;have al:=af.cC e3;have vc:=al.val (p+j) (by omega);simp[(Bc1.cC e3).hc,w2,cl,ak,Zl rc.ok,vc,-Int.natCast_add];by_cases d1:Zm cN (p+j)<1152921504606846976
  ·by_cases d2:(Zq l j).c<1152921504606846976
   ·have w3:IntKind.i64.wrap ((Zq l j).c+Zm cN (p+j))=(Zq l j).c+Zm cN (p+j):=Zn;have G:t.drop q=⟨(Zq l j).a,(Zq l j).b,(Zq l j).c+Zm cN (p+j)⟩::stK cN (p+j+1) (l.drop (j+1)):=by
     rw[hd];show (if _ then _ else _)=_;rw[if_pos ⟨by omega,by omega⟩]
    have lq:q<t.length:=by
     have:=congrArg List.length G;simp at this;omega
    have e4:Zq t q=⟨(Zq l j).a,(Zq l j).b,(Zq l j).c+Zm cN (p+j)⟩/\t.drop (q+1)=stK cN (p+j+1) (l.drop (j+1)):=by
     rw[Zy7 lq] at G;injection G with a b
     exact⟨a,b⟩
    simp[d1,d2,D3.hc,w3];refine stB D3 (by simp) ?_;intro h4 D4 m4;have am:Ext h1 h4:=Mod.cG e3 m4 gD;simp at D4;simp[Yf D4];have:=ag q h4 lq (O _ _ _ I1 am);rw[e4.1] at this;refine this _ ?_;intro h5 I5;simp[w1];exact nx ⟨j+1,q+1,_,_,_,_,_,_,rfl,by omega,by omega,by rw[e4.2];simp[Xj5],I5,U _ _ I5⟩
   have G:t.drop q=stK cN (p+j+1) (l.drop (j+1)):=by
    rw[hd];show (if _ then _ else _)=_;rw[if_neg (fun h=>d2 (by have:=h.2;omega))]
   simp[d1,d2,D3.hc,w1];exact nx ⟨j+1,q,_,_,_,_,_,_,rfl,by omega,hq,by rw[G];simp[Xj5],O _ _ _ I1 e3,x1.trans e3⟩
  have G:t.drop q=stK cN (p+j+1) (l.drop (j+1)):=by
   rw[hd];show (if _ then _ else _)=_;rw[if_neg (fun h=>d1 (by have:=h.1;omega))]
  simp[d1,w1];exact nx ⟨j+1,q,_,_,_,_,_,_,rfl,by omega,hq,by rw[G];simp[Xj5],O _ _ _ I1 e3,x1.trans e3⟩
 exact this
end
def Zf8(l:Zb):Prop:=∀i j,i<l.length->j<l.length->Zm l i=Zm l j->i=j
def Zcb.once{l:Zb}(h:Zcb l):Zf8 l:=fun i j G H e=>by
 rcases Xlx i j with q|q|q
 ·have:=h i j q H;omega
 ·exact q
 have:=h j i q G;omega
def Ux{l r:Zb}{i:Nat}(h:i<l.length):Zm (l++r) i=Zm l i:=by simp[Zm,Xjm h]
def Zf2{l:Zb}{x:Int}:Zm (l++[x]) l.length=x:=by simp[Zm]
def Ya{l:Zb}{a:Int}:a∈l↔∃i,i<l.length/\Zm l i=a :=
 ⟨Zzc,fun ⟨i,h,e⟩=>by rw[<-e,show Zm l i=l[i] by simp[Zm,h]];exact Xi7 h⟩
def Zf8.snoc{l:Zb}{x:Int}(h:Zf8 l)(hx:x ∉ l):Zf8 (l++[x]):=fun i j G H e=>by
 simp at G H;rcases Xi6 i l.length with q|q<;>rcases Xi6 j l.length with q'|q'
 ·rw[Ux q,Ux q'] at e;exact h i j q q' e
 ·have:j=l.length:=by omega
  subst this;rw[Ux q,Zf2] at e;exact absurd (Ya.2 ⟨i,q,e⟩) hx
 ·have:i=l.length:=by omega
  subst this;rw[Ux q',Zf2] at e;exact absurd (Ya.2 ⟨j,q',e.symm⟩) hx
 omega
def Xr{l:Zb}{i:Nat}(h:Zf8 l)(G:i<l.length):Yk 0 l (Zm l i)=(i:Int):=by
 have:=Zot (k:=0) G rfl (fun j H e=>by have:=h j i (by omega) G e;omega);simpa using this
def Zd3{l:Zb}{a:Int}(h:a ∉ l):Yk 0 l a = -1:=Zgm fun i G e=>h (Ya.2 ⟨i,G,e⟩)
section
variable{N:Zs}{cP As:Zb}{a:Nat}{l:Zb}{T:List Yt}
structure AOk(N:Zs)(cP As:Zb)(a:Nat)(l:Zb)(T:List Yt):Prop where
 s1:∀x,x∈T->(∃b o:Nat,(b:Int)∈l/\o<cP.length/\Zm cP o=b/\Yp N a b≠Xm/\x=⟨0,o,Yp N a b⟩) \/
  (∃b k:Nat,(b:Int)∈l/\(b:Int) ∉ cP/\k<As.length/\Zm As k=b/\Yp N a b≠Xm/\Zr N b≠Xm/\x=⟨k,-1,Yp N a b+Zr N b⟩)
 s2:∀b:Nat,(b:Int)∈l->Yp N a b≠Xm->(b:Int)∈cP->∃o:Nat,o<cP.length/\Zm cP o=b/\(⟨0,o,Yp N a b⟩:Yt)∈T
 s3:∀b:Nat,(b:Int)∈l->Yp N a b≠Xm->(b:Int) ∉ cP->Zr N b≠Xm->∃k:Nat,k<As.length/\Zm As k=b/\(⟨k,-1,Yp N a b+Zr N b⟩:Yt)∈T
 len:T.length<=l.length
def AOk.nil:AOk N cP As a [] []:=⟨fun x h=>by simp at h,fun b h=>by simp at h,fun b h=>by simp at h,by simp⟩
def AOk.mono(h:AOk N cP As a l T){x:Int}:AOk N cP (As++[x]) a l T :=
 ⟨fun y hy=>(h.s1 y hy).imp id fun ⟨b,k,h1,G,H,h4,I⟩=>⟨b,k,h1,G,by simp;omega,by rw[Ux H];exact h4,I⟩,h.s2,fun b h1 G H h4=>by
  obtain⟨k,J,O,R⟩:=h.s3 b h1 G H h4;exact⟨k,by simp;omega,by rw[Ux J];exact O,R⟩,h.len⟩
def AOk.skip(h:AOk N cP As a l T){b:Nat}(hb:Yp N a b=Xm\/((b:Int) ∉ cP/\Zr N b=Xm)):AOk N cP As a (l++[(b:Int)]) T:=by
 refine⟨fun y hy=>(h.s1 y hy).imp (fun ⟨b,k,h1,G⟩=>⟨b,k,by simp[h1],G⟩) (fun ⟨b,k,h1,G⟩=>⟨b,k,by simp[h1],G⟩),fun c h1 G H=>?_,fun c h1 G H h4=>?_,by have:=h.len;simp;omega⟩
 ·rcases List.mem_append.1 h1 with q|q
  ·exact h.s2 c q G H
  have:c=b:=by simp at q;omega
  subst this;rcases hb with q|q
  ·exact absurd q G
  exact absurd H q.1
 rcases List.mem_append.1 h1 with q|q
 ·exact h.s3 c q G H h4
 have:c=b:=by simp at q;omega
 subst this;rcases hb with q|q
 ·exact absurd q G
 exact absurd q.2 h4
def AOk.out(h:AOk N cP As a l T){b o:Nat}(I:o<cP.length)(hb:Zm cP o=b)(ht:Yp N a b≠Xm):AOk N cP As a (l++[(b:Int)]) (T++[⟨0,o,Yp N a b⟩]):=by
 refine⟨fun y hy=>?_,fun c h1 G H=>?_,fun c h1 G H h4=>?_,by have:=h.len;simp;omega⟩
 ·rcases List.mem_append.1 hy with q|q
  ·exact (h.s1 y q).imp (fun ⟨b,k,h1,G⟩=>⟨b,k,by simp[h1],G⟩) (fun ⟨b,k,h1,G⟩=>⟨b,k,by simp[h1],G⟩)
  exact .inl ⟨b,o,by simp,I,hb,ht,by simpa using q⟩
 ·rcases List.mem_append.1 h1 with q|q
  ·obtain⟨J,O,R,U⟩:=h.s2 c q G H;exact⟨J,O,R,by simp[U]⟩
  have:c=b:=by simp at q;omega
  subst this;exact⟨o,I,hb,by simp⟩
 rcases List.mem_append.1 h1 with q|q
 ·obtain⟨J,O,R,U⟩:=h.s3 c q G H h4;exact⟨J,O,R,by simp[U]⟩
 have:c=b:=by simp at q;omega
 subst this;exact absurd (Ya.2 ⟨o,I,hb⟩) H
def AOk.go(h:AOk N cP As a l T){b k:Nat}(U:k<As.length)(hb:Zm As k=b)(X:(b:Int) ∉ cP)(ht:Yp N a b≠Xm)(hw:Zr N b≠Xm):AOk N cP As a (l++[(b:Int)]) (T++[⟨k,-1,Yp N a b+Zr N b⟩]):=by
 refine⟨fun y hy=>?_,fun c h1 G H=>?_,fun c h1 G H h4=>?_,by have:=h.len;simp;omega⟩
 ·rcases List.mem_append.1 hy with q|q
  ·exact (h.s1 y q).imp (fun ⟨b,k,h1,G⟩=>⟨b,k,by simp[h1],G⟩) (fun ⟨b,k,h1,G⟩=>⟨b,k,by simp[h1],G⟩)
  exact .inr ⟨b,k,by simp,X,U,hb,ht,hw,by simpa using q⟩
 ·rcases List.mem_append.1 h1 with q|q
  ·obtain⟨I,J,O,R⟩:=h.s2 c q G H;exact⟨I,J,O,by simp[R]⟩
  have:c=b:=by simp at q;omega
  subst this;exact absurd H X
 rcases List.mem_append.1 h1 with q|q
 ·obtain⟨I,J,O,R⟩:=h.s3 c q G H h4;exact⟨I,J,O,by simp[R]⟩
 have:c=b:=by simp at q;omega
 subst this;exact⟨k,U,hb,by simp⟩
end
structure Z7h(N:Zs)(cP As:Zb)(st:Nat->List Yt):Prop where
 once:Zf8 As
 nat:∀k,k<As.length->∃a:Nat,Zm As k=a/\a<N.as.length
 row:∀k,k<As.length->∃l,(∀b:Nat,Yp N (Zm As k).toNat b≠Xm->(b:Int)∈l)/\AOk N cP As (Zm As k).toNat l (st k)
 out:∀k,As.length<=k->st k=[]
section
variable{N:Zs}{cP As:Zb}{st:Nat->List Yt}
def Z7h.ok(B:Z7h N cP As st)(ok:Yl N):Zrn As.length cP.length st:=by
 have key:∀a x,x∈st a->a<As.length:=fun a x h=>Xka fun q=>by rw[B.out a (by omega)] at h;simp at h
 have row:∀a x,x∈st a->(∃b o:Nat,o<cP.length/\Yp N (Zm As a).toNat b≠Xm/\x=⟨0,o,Yp N (Zm As a).toNat b⟩)\/(∃b k:Nat,k<As.length/\Yp N (Zm As a).toNat b≠Xm/\Zr N b≠Xm/\x=⟨k,-1,Yp N (Zm As a).toNat b+Zr N b⟩):=fun a x h=>by
  obtain⟨l,_,r⟩:=B.row a (key a x h);exact (r.s1 x h).imp (fun ⟨b,o,_,H,_,h4,G⟩=>⟨b,o,H,h4,G⟩) (fun ⟨b,k,_,_,I,_,G,J,O⟩=>⟨b,k,I,G,J,O⟩)
 refine⟨fun a x h R=>?_,fun a x h=>?_,fun a x h=>?_⟩
 ·rcases row a x h with⟨b,o,_,_,rfl⟩|⟨b,k,q,_,_,rfl⟩
  ·simp at R;omega
  simp;omega
 ·rcases row a x h with⟨b,o,q,_,rfl⟩|⟨b,k,q,_,_,rfl⟩
  ·simp;omega
  simp;omega
 rcases row a x h with⟨b,o,q,ht,rfl⟩|⟨b,k,q,ht,U,rfl⟩
 ·have:=(Wn ok (a:=((Zm As a).toNat:Int)) (b:=(b:Int))).resolve_left ht;dsimp only;omega
 have:=(Wn ok (a:=((Zm As a).toNat:Int)) (b:=(b:Int))).resolve_left ht;have:=(Wd ok (a:=(b:Int))).resolve_left U;dsimp only;omega
def Z7h.thru(B:Z7h N cP As st){ce:Nat->Int}{k:Int}(G:∀b:Nat,(b:Int)∈cP↔b<N.as.length/\ce (Vs N b)=k/\ce (Ys N b)≠k)(I:Zf8 cP){i o a b:Nat}(hi:i<As.length)(ha:Zm As i=a)(hc:ce (Ys N a)=k)
  (ho:o<cP.length) (hb:Zm cP o=b) {x:Int}:GoF st i o x↔Zga N ce k a b x:=by
 have at':∀j y,Yx (AtI i) (EdF st) j y->j<As.length/\Yx (AtI a) (EdC N ce k) (Zm As j).toNat y:=by
  intro j y w
  induction w with
  |init h=>obtain⟨rfl,rfl⟩:=h;exact⟨hi,by rw[ha];exact .init ⟨rfl,rfl⟩⟩
  |step w h R =>
   rename_i u v c e;obtain⟨lu,R⟩:=R;have X:=Zho R hc;obtain⟨z,h1,H,h3,rfl⟩:=h;obtain⟨l,_,r⟩:=B.row u lu;rcases r.s1 z h1 with⟨b,o,_,_,_,_,rfl⟩|⟨b,k',_,U,q3,J,q5,q6,rfl⟩
   ·simp at H;omega
   have:k'=v:=by simp at h3;omega
   subst this;refine⟨q3,.step R ⟨⟨?_,?_,?_⟩,?_,?_⟩⟩
   ·rw[J];simpa using q5
   ·rw[J];simpa using q6
   ·rw[J];simp
   ·rw[J];simp only[Xi8];rw[<-Qg q5];exact X
   rw[J];simp only[Xi8];refine Xka fun q=>U ((G b).2 ⟨?_,?_,q⟩)
   ·obtain⟨k,e,lk⟩:=Ue q6;omega
   rw[<-Qg q5];exact X
 have aa:∀c y,Yx (AtI a) (EdC N ce k) c y->∃j,j<As.length/\Zm As j=(c:Int)/\Yx (AtI i) (EdF st) j y:=by
  intro c y w
  induction w with
  |init h=>obtain⟨rfl,rfl⟩:=h;exact⟨i,hi,ha,.init ⟨rfl,rfl⟩⟩
  |step w h R =>
   rename_i u v c e;obtain⟨j,h1,H,h3⟩:=R;obtain⟨⟨q1,U,rfl⟩,q3,J⟩:=h;obtain⟨l,O,r⟩:=B.row j h1;rw[H] at O r;simp only[Xi8] at O r;obtain⟨k',r1,r2,r3⟩:=r.s3 v (O v q1) q1 (fun h=>((G v).1 h).2.2 J) U;exact⟨k',r1,r2,.step h3 ⟨_,r3,by simp,by simp,rfl⟩⟩
 constructor
 ·rintro⟨j,y,w,h1,H,rfl⟩;obtain⟨lj,wj⟩:=at' j y h1;obtain⟨z,q1,U,rfl⟩:=H;obtain⟨l,_,r⟩:=B.row j lj;rcases r.s1 z q1 with⟨b',o',_,p2,p3,p4,rfl⟩|⟨b',k',_,_,_,_,_,_,rfl⟩
  ·have:o'=o:=by simp at U;omega
   subst this;have:b'=b:=by omega
   subst this;exact⟨_,y,wj,p4,rfl⟩
  simp at U
 rintro⟨c,y,h1,H,rfl⟩;obtain⟨j,lj,ej,wj⟩:=aa c y h1;obtain⟨l,O,r⟩:=B.row j lj;rw[ej] at O r;simp only[Xi8] at O r;obtain⟨o',r1,r2,r3⟩:=r.s2 b (O b H) H (Ya.2 ⟨o,ho,hb⟩);have:o'=o:=I o' o r1 ho (by rw[r2,hb]);subst this;exact⟨j,y,_,wj,⟨_,r3,rfl,rfl⟩,rfl⟩
end
def Zqq{l:Zb}{p:Int->Bool}(h:Zcb l):Zcb (l.filter p):=by
 have hp:l.Pairwise (· < ·):=by
  rw[Xlv];intro i j I H G;have:=h i j G H;simpa[Zm,I,H] using this
 have:=hp.filter p;intro i j G H;rw[Xlv] at this;have:=this i j (by omega) H G;simpa[Zm,H,show i<(l.filter p).length by omega] using this
def Zvf{p:Yt->Bool}:∀{l:List Yt}{k:Nat},(Uw p k l).Pairwise (· < ·):=by
 intro l
 induction l with
 |nil=>intro k;simp[Uw]
 |cons x r H =>
  intro k;have e:Uw p k (x::r)=(if p x then [(k:Int)] else [])++Uw p (k+1) r:=by simp only[Uw];split<;>simp_all
  rw[e,List.pairwise_append];refine⟨by split<;>simp,H,fun a G b hb=>?_⟩;obtain⟨i,h1,I,J⟩:=Zt1.1 hb
  split at G
  ·simp at G;omega
  simp at G
def Z4d{l:Zb}(h:l.Pairwise (· < ·)):Zcb l:=by
 intro i j G H;rw[Xlv] at h;have:=h i j (by omega) H G;simpa[Zm,H,show i<l.length by omega] using this
def Zqp{N:Zs}{L:Za}{l:Int}:Zcb (Qv N L l):=Z4d Zvf
def Xt{N:Zs}{L:Za}{k c:Nat}{x:Bool}:Zcb (Zv N L k x c):=Zqq Zqp
def Zn9{N:Zs}{L:Za}(H:Yq N.vs.length L)(ok:Yl N){k c:Nat}(I:k<L.length){x:Bool}{a:Nat}:(a:Int)∈Zv N L k x c ↔
  a<N.as.length/\Zm (Yc L k) (Zq N.as a).a.toNat≠Zm (Yc L k) (Zq N.as a).b.toNat/\Zm (Yc L k) (if x then (Zq N.as a).a.toNat else (Zq N.as a).b.toNat)=(c:Int):=by
 unfold Zv Zcs;rw[Xkq,Zg7];have J:lvl L ((k:Int)+1)=Yc L k:=by
  unfold lvl Zgz;rw[if_pos (by simp;omega)]
  congr 1
  omega
 rw[J];have hl:=(Xq H I).1;by_cases G:a<N.as.length
 ·have hv:Yi N.as.length (a:Int)=true:=by simp[Yi];omega
  obtain⟨O,R⟩:=ok.arcs a G;simp[Yi] at O R;have U:(Zq N.as a).a.toNat<(Yc L k).length:=by omega
  have X:(Zq N.as a).b.toNat<(Yc L k).length:=by omega
  rw[hv];simp[Zav,G,U,X]
 have hv:Yi N.as.length (a:Int)=false:=by simp[Yi];omega
 rw[hv];simp[G]
def Zbv(h:Zk)(M:Nat)(l:List (Int × cR)):Prop:=∃es clock,h[M]? = some (.map es clock)/\es.toList.map (fun e=>(e.key,e.val))=l.map fun p=>(Value.int .i64 p.1,p.2)
def Z4(l:List (Int × cR))(x:Int):Option cR:=(l.find? fun p=>p.1 == x).map (·.2)
def Zft{x:Int}:∀{G:List MapEntry}{l:List (Int × cR)}{n:Nat},G.map (fun e=>(e.key,e.val))=l.map (fun p=>(Value.int .i64 p.1,p.2)) ->
  (∃j v,Uf none (.int .i64 x) G n=some (some (j,v))/\Z4 l x=some v)\/(Uf none (.int .i64 x) G n=some none/\Z4 l x=none):=by
 intro G
 induction G with
 |nil =>
  intro l n h;have:l=[]:=by simpa using h.symm
  subst this;exact .inr ⟨rfl,rfl⟩
 |cons e G H =>
  intro l n h
  cases l with
  |nil=>simp at h
  |cons d l =>
   simp only[Xjx,Xl2,Prod.mk.injEq] at h;obtain⟨⟨h0,h1⟩,I⟩:=h;unfold Uf;rw[h0];by_cases q:x=d.1
   ·subst q;refine .inl ⟨n,e.val,by simp[Zce],by simp[Z4,h1]⟩
   have q':(x == d.1)=false:=by simpa using q
   have J:(d.1 == x)=false:=by simpa using fun e=>q e.symm
   have O:Z4 (d::l) x=Z4 l x:=by simp[Z4,J]
   rw[O];rcases H (n:=n+1) I with⟨j,v,f,hv⟩|⟨f,hv⟩
   ·exact .inl ⟨j,v,by simp[Zce,q',f],hv⟩
   exact .inr ⟨by simp[Zce,q',f],hv⟩
section
variable{Y:Sys}{h h':Zk}
def Zbv.lt{l:List (Int × cR)}{M:Nat}(m:Zbv h M l):M<h.size:=by
 obtain⟨H,G,hb,_⟩:=m;exact (Array.getElem?_eq_some_iff.1 hb).1
def Zbv.cD{S:Zf}{l:List (Int × cR)}{M:Nat}(a:Zbv h M l)(m:Mod S h h')(H:¬S M):Zbv h' M l:=by
 have:=a.lt;obtain⟨I,G,hb,J⟩:=a;exact⟨I,G,by rw[m.get M this H];exact hb,J⟩
def Zbv.cC{l:List (Int × cR)}{M:Nat}(a:Zbv h M l)(e:Ext h h'):Zbv h' M l:=a.cD e fun h=>h
def Zf6{x:Int}:Zb3 none (.int .i64 x)=true:=rfl
def Zil{l:List (Int × cR)}{M:Nat}(a:Zbv h M l){x:Int}{z:Zj}:Ym.cK Y h (.lookup none true z) [.map (some M),.int .i64 x]=some (.tuple #[(Z4 l x).getD z,.bool (Z4 l x).isSome]):=by
 obtain⟨H,G,hb,I⟩:=a;have J:We h (some M)=some H.toList:=by simp[We,hb]
 show Zgc h none true z (some M) (.int .i64 x)=_;unfold Zgc;rw[if_pos Zf6,J];rcases Zft (x:=x) (n:=0) I with⟨j,v,f,hv⟩|⟨f,hv⟩
 ·simp[f,hv]
 simp[f,hv]
def Zk6{l:List (Int × cR)}{M:Nat}(a:Zbv h M l){x:Int}{z:Zj}:Ym.cK Y h (.lookup none false z) [.map (some M),.int .i64 x]=some ((Z4 l x).getD z):=by
 obtain⟨H,G,hb,I⟩:=a;have J:We h (some M)=some H.toList:=by simp[We,hb]
 show Zgc h none false z (some M) (.int .i64 x)=_;unfold Zgc;rw[if_pos Zf6,J];rcases Zft (x:=x) (n:=0) I with⟨j,v,f,hv⟩|⟨f,hv⟩
 ·simp[f,hv]
 simp[f,hv]
def Zig{K:Ze}{l:List (Int × cR)}{M:Nat}{x:Int}{v:Zj}(a:Zbv h M l)(J:Z4 l x=none)(O:∀h',Zbv h' M (l++[(x,v)])->Mod (fun j=>j=M) h h'->K undef h'):
  Ef.wp h K (.mupd none) [.map (some M),.int .i64 x,v]:=by
 have R:=a.lt;obtain⟨I,G,hb,H⟩:=a;have hf:Uf none (.int .i64 x) I.toList 0=some none:=by
  rcases Zft (x:=x) (n:=0) H with⟨j,v,f,hv⟩|⟨f,_⟩
  ·rw[J] at hv;cases hv
  exact f
 simp only[Ef.wp,hb,Zf6,hf,true_and];refine O _ ⟨I.push ⟨.int .i64 x,v,G⟩,G+1,by simp[R],?_⟩ ⟨by simp,fun b U X=>?_⟩
 ·simp[H]
 simp[Ne.symm X]
def Zfu{K:Ze}(G:∀M h',h.size<=M->Zbv h' M []->Ext h h'->K (.map (some M)) h'):Ef.wp h K .mkmap []:=by
 show K _ _;exact G _ _ (Xi4 _) ⟨#[],0,by simp,rfl⟩ Mod.push
end
end Go.Rm
