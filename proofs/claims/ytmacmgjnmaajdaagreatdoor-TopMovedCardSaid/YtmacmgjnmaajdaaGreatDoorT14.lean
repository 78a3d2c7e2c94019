import Derived.Test.YtmacmgjnmaajdaaGreatDoorT13
/- Parts. -/
set_option linter.all false

namespace Go.Rm
structure Zrc(Y:Sys):Prop where
 fresh:Y.cL 324 Y324
 twin:Y.cL 323 Y323
section
variable{Y:Sys}{h h':Zk}
def Zg2(T:Zrc Y){s:Sl}{l:Zb}(r:Zw h s l){R:Ze}(H:∀h' u,Ext h h'->Yh h' 1 u (Zu l)->(u.nl=true\/h.size<=u.b)->R u.v h')(G:l.length<=1000000:=by omega):Zt Y 324 [s.v] h R:=by
 refine .o T.fresh ?_;simp[Y324,Yw.wp];rw[show (Value.slice none 0 0)=Sl.nil.v from rfl];refine Zdy (s0:=Sl.nil) r (by rw[<-r.len];omega) Yh.nil (.inl rfl) (Mod.refl _) ?_;intro u h1 o1 hu I;simp;exact H h1 u I o1 hu
def Xiq(B rb M:Nat)(v0:Zj)(s:Sl)(L:Za)(h0:Zk)(e:Zc)(h':Zk):Prop :=
 ∃(i:Nat)(s1:Sl)(P:List (Zb × Sl))(v4 v8:Zj),e=[v0,Zh B,Zh rb,Zh M,v4,s.v,Zg s.n,Zg i,v8]/\i<=L.length/\Yo h' M #[s1.v]/\Yh h' 1 s1 (P.map fun p=>p.2.v)/\P.map Prod.fst=L.take i/\Zq7 h0.size h' s1 P/\(s1.nl=true\/h0.size<=s1.b)/\Mod (fun j=>j=M) h0 h'
def Zos(T:Zrc Y){s:Sl}{L:Za}(r:Wm h s L)(al:s.n<=1000)(ad:∀i,i<L.length->(Yc L i).length<=1000000){R:Ze}
  (hr:∀h' s',Ext h h'->(∀g,Mod (fun j=>j<h.size) h' g->Wm g s' L)->R (W7 s') h'):Zt Y 323 [W7 s] h R:=by
 refine .o T.twin ?_;have lL:=r.len;simp[Y323,Yw.wp,W7];refine Zo ?_;intro B h1 g1 B1 e1;simp;refine Zo ?_;intro rb h2 g2 R2 e2;have R2:Yo h2 rb #[Zi]:=R2;simp;refine Zo ?_;intro M X g3 M3 e3;have M3:Yo X M #[Zi]:=M3;have x3:=(e1.trans e2).trans e3;have lM:=M3.lt;have lR:=R2.lt;have lB:=B1.lt;have B3:=(B1.cC e2).cC e3;have R3:=R2.cC e3;simp[B3.hc];refine Zp (Xiq B rb M (.agg #[s.v]) s L X) (fun e _=>L.length-Zx e 7) ⟨0,Sl.nil,[],_,_,rfl,by omega,M3,by simpa using Yh.nil,by simp,by intro q hq;simp at hq,.inl rfl,Mod.refl _⟩ ?_;rintro e h4 ⟨i,U,P,v4,v8,rfl,hi,M4,o4,hP,hT,ah,m4⟩;have B4:=m4.cM B3 (by omega);have R4:=m4.cM R3 (by omega);have x4:Ext h h4:=Mod.cC x3 m4 (fun j hj=>by omega);have n4:=o4.1;simp at n4;have am:P.length=i:=by
  have:=congrArg List.length hP;simp at this;omega
 have H:U.nl=false->X.size<=U.b:=fun G=>ah.resolve_left (by rw[G];simp);have l1:U.nl=false->U.b<h4.size:=fun G=>o4.lt G;have z4:=m4.size;by_cases c:i<s.n;rotate_left
 ·have c':¬(i:Int)<s.n:=by omega
  simp[c',Yf M4];refine Zy R4 ?_;intro h5 R5 m5;simp;refine Vf rfl R5 rfl ?_;rw[Xji (by omega)] at hP;refine hr h5 U (Mod.cC x4 m5 (fun j hj=>by omega)) (fun g mg=>?_);refine Yh.rowL ((o4.cD m5 (fun G=>by have:=H G;omega)).cD mg (fun G hb=>by have:=H G;omega)) hP ?_;intro q hq;obtain⟨a,b⟩:=hT q hq;exact (a.cD m5 (fun G=>by have:=(b G).1;omega)).cD mg (fun G hb=>by have:=(b G).1;omega)
 have c':(i:Int)<s.n:=by omega
 have w1:=wrapS (i:=i);obtain⟨u,hu,ru⟩:=r.at (i:=i) c;have an:=ad i (by omega);simp[M4.hc,c',Zl r.ok,hu,x4];refine Zg2 T (ru.cC x4) ?_;intro h6 J I o6 ai;have M6:=M4.cC I;simp[M6.hc];refine Xg ?_;intro b7 h7 g7 V7 e7;have M7:=M6.cC e7;have o7:=(o4.cF I).cF e7;have z7:=e7.size;simp[M7.hc];refine Wa (bytes:=24) rfl o7 V7 ?_;intro O h8 o8 ao m8 ae;have M8:=m8.cM M7 (fun hq=>by have:=H hq.1;omega);have z6:=I.size;have z8:=m8.size;have aa:O.nl=false->X.size<=O.b:=by
  intro hq;rcases ae with⟨q1,q2⟩|⟨q1,q2⟩
  ·rw[q1];exact H (by rw[<-q2];exact hq)
  omega
 simp;refine stB M8 (by simp) ?_;intro h9 M9 m9;have z9:=m9.size;simp[w1];have ab:Yc L i≠[]->J.nl=false/\J.b<h6.size:=fun ac=>by
  obtain⟨_,hb,_,af⟩:=o6.cM (i:=0) (by have:=List.length_pos_iff.2 ac;simpa[Zu] using this);exact⟨af,o6.lt af⟩
 have ub:Yc L i≠[]->h4.size<=J.b:=fun ac=>ai.resolve_left (by rw[(ab ac).1];simp);have ag:∀k,k<h6.size->(U.nl=false->k≠U.b)->O.nl=false->k≠O.b:=by
  intro k hk h1 hq;rcases ae with⟨q1,q2⟩|⟨q1,q2⟩
  ·rw[q1];exact h1 (by rw[<-q2];exact hq)
  omega
 have o9:Yh h9 1 O ((P++[(Yc L i,J)]).map fun p=>p.2.v):=by
  have:=o8.cD m9 (fun hq=>by have:=aa hq;omega);simpa using this
 have aj:Zq7 X.size h9 O (P++[(Yc L i,J)]):=by
  intro q hq;rcases List.mem_append.1 hq with g|g
  ·obtain⟨g1,g3⟩:=hT q g;refine⟨(((g1.cC I).cC e7).cD m8 (fun G hq=>(g3 G).2.1 hq.1 hq.2)).cD m9 (fun G=>by have:=(g3 G).1;omega),fun G=>⟨(g3 G).1,?_,by have:=(g3 G).2.2;omega⟩⟩;exact ag _ (by have:=(g3 G).2.2;omega) (g3 G).2.1
  simp only[Xlj] at g;subst g;refine⟨((o6.cE.cC e7).cD m8 (fun G hq=>by have:=ub G;have:=l1 hq.1;have:=hq.2;omega)).cD m9 (fun G=>by have:=ub G;omega),fun G=>⟨?_,?_,?_⟩⟩
  ·have:=ub G;show X.size<=J.b;omega
  ·exact ag J.b (ab G).2 (fun hq=>by have:=ub G;have:=l1 hq;omega)
  have:=(ab G).2;show J.b<h9.size;omega
 have ak:(P++[(Yc L i,J)]).map Prod.fst=L.take (i+1):=by
  rw[Xjc (by omega),Xjj,hP,Zpm];simp
 have hN:O.nl=true\/X.size<=O.b:=by
  cases hq:O.nl with
  |true=>exact .inl rfl
  |false=>exact .inr (aa hq)
 have mm:Mod (fun j=>j=M) X h9:=by
  have q1:Mod (fun j=>j=M\/(U.nl=false/\j=U.b)) h4 h9 :=
   (((I.trans e7).mono (fun _ _ h=>h.elim)).trans (m8.mono (fun _ _ h=>.inr h))).trans (m9.mono (fun _ _ h=>.inl h))
  refine Mod.then m4 q1 ?_;intro k hk hq;rcases hq with hq|hq
  ·exact hq
  have:=H hq.1;omega
 refine nx ⟨i+1,O,P++[(Yc L i,J)],_,_,rfl,by omega,by simpa using M9,o9,ak,aj,hN,mm⟩
def Zbj(N:Zs)(L:Za)(k c:Nat):Nat:=(Zv N L k false c).length * (Zv N L k true c).length
def Yn(N:Zs)(L:Za)(k:Nat):Nat->Nat
 |0=>0
 |c+1=>Yn N L k c+Zbj N L k c
def Zz(N:Zs)(L:Za):Nat->Nat
 |0=>0
 |k+1=>Zz N L k+Yn N L k (Yv L k)
def X5(N:Zs)(L:Za)(k:Nat):Zb:=(List.range (Yv L k)).map fun c=>((Zz N L k+Yn N L k c:Nat):Int)
def Wg{N:Zs}{L:Za}{k c:Nat}{x:Bool}:(Zv N L k x c).length<=N.as.length:=Xjo (Xki ..) Zk5
def Zq1{N:Zs}{L:Za}{k c:Nat}(ok:Yl N):Zbj N L k c<=268435456:=by
 have h1:=ok.ba;have G:=Wg (N:=N) (L:=L) (k:=k) (c:=c) (x:=false);have H:=Wg (N:=N) (L:=L) (k:=k) (c:=c) (x:=true);exact Xjo (Xk7 (Xjo G h1) (Xjo H h1)) (by decide)
def Zlg{N:Zs}{L:Za}{k:Nat}(ok:Yl N):∀{c:Nat},Yn N L k c<=c * 268435456:=by
 intro c
 induction c with
 |zero=>exact Xi4 _
 |succ c G =>
  have:=Zq1 (L:=L) (k:=k) (c:=c) ok;simp only[Yn];omega
def Q9{N:Zs}{L:Za}(ok:Yl N)(G:Yq N.vs.length L):∀{k:Nat},k<=L.length->Zz N L k<=k * 1099511627776:=by
 intro k
 induction k with
 |zero=>intro _;exact Xi4 _
 |succ k H =>
  intro I;have h1:=H (by omega);have J:=Zlg (L:=L) (k:=k) (c:=Yv L k) ok;have O:=(Xq G (i:=k)).2.2.1;simp only[Zz];omega
structure Zkj(h:Zk)(s:Sl)(N:Zs)(L:Za):Prop where
 ok:s.ok
 len:L.length=s.n
 val:∀i,i<L.length->∃u:Sl,hc h s.b (s.o+i)=some u.v/\Zw h u (X5 N L i)
def Zkj.cC{h h':Zk}{s:Sl}{N:Zs}{L:Za}(g:Zkj h s N L)(e:Ext h h'):Zkj h' s N L :=
 ⟨g.ok,g.len,fun i G=>by
  obtain⟨u,a,b⟩:=g.val i G;exact⟨u,e.hc a (fun h=>h),b.cC e⟩⟩
def Uq(h:Zk)(op:Nat)(N:Zs)(L:Za):Prop :=
 ∃(q f t g st:Sl)(z:Int),Yo h op #[q.v,f.v,t.v,g.v,st.v,Zg z]/\Wm h q L/\Zi7 h g N L/\Zw h f (N.as.map fun t=>t.a)/\Zw h t (N.as.map fun t=>t.b)/\Zkj h st N L/\z=(Zz N L L.length:Nat)
def Uq.cC{h h':Zk}{op:Nat}{N:Zs}{L:Za}(v:Uq h op N L)(e:Ext h h'):Uq h' op N L:=by
 obtain⟨q,f,t,g,G,z,B,H,I,J,rt,rs,O⟩:=v;exact⟨q,f,t,g,G,z,B.cC e,H.cC e,I.cC e,J.cC e,rt.cC e,rs.cC e,O⟩
structure Zf3(Y:Sys):Prop where
 New:Y.cL 315 Y315
 Part:Y.cL 318 Y318
 Levels:Y.cL 316 Y316
 Cells:Y.cL 317 Y317
 T:Zrc Y
 GO:Z7j Y
 From:Y.cL 193 Y193
 Arcs:Y.cL 209 Y209
def Xhe(p B op:Nat)(x:Zj)(q g:Sl)(N:Zs)(h0:Zk)(e:Zc)(h':Zk):Prop :=
 ∃(i:Nat)(f t:Sl)(y z A c d h k l m n o r s u w:Zj),e=[Zh p,x,Zh B,.pointer none,.nilIface,.nilIface,Zh op,y,z,A,c,d,h,Zg N.as.length,Zg i,k,l,m,n,o,r,s,u,w]/\i<=N.as.length /\
  Yo h' op #[q.v,f.v,t.v,g.v,Zi,Zg 0]/\Yh h' 1 f (Zu ((N.as.take i).map fun t=>t.a))/\Yh h' 1 t (Zu ((N.as.take i).map fun t=>t.b))/\(f.nl=false->h0.size<=f.b)/\(t.nl=false->h0.size<=t.b)/\(f.nl=false->t.nl=false->f.b≠t.b)/\Mod (fun j=>j=op) h0 h'
def Xir(p B op:Nat)(x:Zj)(q f t g:Sl)(N:Zs)(L:Za)(h0:Zk)(e:Zc)(h':Zk):Prop :=
 ∃(i:Nat)(st:Sl)(cs:Zc)(z:Int)(y A C a c d h l m o r s u w:Zj),e=[Zh p,x,Zh B,.pointer none,.nilIface,.nilIface,Zh op,y,A,C,a,c,d,h,l,m,g.v,Zg g.n,Zg i,o,r,s,u,w]/\i<=g.n /\
  Yo h' op #[q.v,f.v,t.v,g.v,st.v,Zg z]/\Yh h' 1 st cs/\cs.length=i/\(st.nl=false->h0.size<=st.b)/\Mod (fun j=>j=op) h0 h'/\z=(Zz N L i:Nat)/\∀k,k<i->∃b,cs[k]? = some (Sl.at b (Yv L k) (Yv L k)).v/\h0.size<=b/\(st.nl=false->b≠st.b)/\Yh h' 1 (Sl.at b (Yv L k) (Yv L k)) (Zu (X5 N L k))
def Xim(p B op W n i:Nat)(s:Zj)(q f t g st u:Sl)(N:Zs)(L:Za)(h0:Zk)(e:Zc)(h':Zk):Prop :=
 ∃(j:Nat)(vs:Zc)(z:Int)(w a b d h l m o r:Zj),e=[Zh p,s,Zh B,.pointer none,.nilIface,.nilIface,Zh op,w,u.v,.slice (some ⟨W,0,none⟩) n n,a,b,d,h,l,m,g.v,Zg g.n,Zg i,o,u.v,Zg n,Zg j,r]/\j<=n /\
  Yo h' op #[q.v,f.v,t.v,g.v,st.v,Zg z]/\Yh h' 1 (Sl.at W n n) vs/\Mod (fun k=>k=op\/k=W) h0 h'/\z=(Zz N L i+Yn N L i j:Nat)/\∀c,c<j->vs[c]? = some (Zg ((Zz N L i+Yn N L i c:Nat):Int))
set_option maxHeartbeats 2000000 in
def Zpr(O:Zf3 Y){p:Nat}{N:Zs}{S:Zf}{L:Za}{s:Sl}(g:Xi h p N S)(r:Wm h s L)(ok:Yl N)(pk:Yq N.vs.length L){R:Ze}
  (hr:∀h' op,Ext h h'->h.size<=op->(∀k,Mod (fun j=>j<h.size) h' k->Uq k op N L)->R (.tuple #[Zh op,.nilIface]) h'):Zt Y 315 [Zh p,W7 s] h R:=by
 refine .o O.New ?_;have lL:=r.len;have bL:=pk.bL;have bN:=pk.bn;have bA:=ok.ba;have ao:∀i,i<L.length->(Yc L i).length<=1000000:=fun i hi=>by
  have:=(Xq pk hi).1;omega
 simp[Y315,Yw.wp,W7];refine Zo ?_;intro B h1 g1 B1 e1;have z1:=e1.size;simp[Yf B1];refine Zjm O.GO.R.G.Verts (g.cC e1) ?_;simp[Yf B1];refine Zjw O.GO.P (r.cC e1) pk ?_;intro h2 e2;have x2:=e1.trans e2;have B2:=B1.cC e2;have z2:=e2.size;simp[Yf B2];refine Zos O.T (r.cC x2) (by omega) ao ?_;intro h3 q e3 fq;have x3:=x2.trans e3;have B3:=B2.cC e3;have z3:=e3.size;simp[Yf B3];rw[show (Value.agg #[s.v])=W7 s from rfl];refine Zqf O.GO (g.cC x3) (r.cC x3) ok pk ?_;intro h4 gt e4 fg;have x4:=x3.trans e4;have z4:=e4.size;have a7:=(fg h4 (Mod.refl _)).len;have hb:Ym.cK Y h4 (.build #[Zi,Zi,Zi,Zi,Zi,Zg 0] [(0,1),(1,1),(2,1),(3,1),(4,1),(5,1)] [0,3]) [W7 q,gt.v]=some (.agg #[q.v,Zi,Zi,gt.v,Zi,Zg 0]):=by
  simp[Ym.cK,Instr.fill,W7,Value.cells,Sl.v]
 simp[hb];refine Zo ?_;intro op h5 g5 O5 e5;have O5:Yo h5 op #[q.v,Zi,Zi,gt.v,Zi,Zg 0]:=O5;have x5:=x4.trans e5;have lO:=O5.lt;simp;refine Q3 O.Arcs (g.cC x5) ?_;simp;refine Zp (Xhe p B op (.agg #[s.v]) q gt N h5) (fun e _=>N.as.length-Zx e 14) ⟨0,Sl.nil,Sl.nil,_,_,_,_,_,_,_,_,_,_,_,_,_,_,_,rfl,by omega,O5,Yh.nil,Yh.nil,fun h=>(by cases h),fun h=>(by cases h),fun h=>(by cases h),Mod.refl _⟩ ?_;rintro e h6 ⟨i,f,t,v7,v8,v9,a8,a9,bb,bc,bd,be,bg,bh,bi,bk,bm,bo,rfl,hi,O6,of,ot,ff,ft,ap,m6⟩;have x6:Ext h h6:=Mod.cC x5 m6 (fun j J=>by omega);have z6:=m6.size;have lf:=of.1;have lt:=ot.1;simp at lf lt;by_cases c:i<N.as.length
 ·have c':(i:Int)<N.as.length:=by omega
  have w1:=wrapS (i:=i);have hv:Yi N.as.length (i:Int)=true:=by simp[Yi];omega
  have aJ:Ze3 N (i:Int)=(Zq N.as i).a:=by simp[Ze3,hv]
  have aK:toV N (i:Int)=(Zq N.as i).b:=by simp[toV,hv]
  have aq:N.as.take (i+1)=N.as.take i++[Zq N.as i]:=by rw[Xjc c,Vi c]
  simp[c',O6.hc];refine Zcg O.From O.GO.R.G.arc (g.cC x6) ?_;rw[aJ];simp[O6.hc];refine Xg ?_;intro b7 h7 g7 V7 e7;have O7:=O6.cC e7;have z7:=e7.size;simp[O7.hc];refine Wa rfl (of.cF e7) V7 ?_;intro f' h8 aL bp m8 ar;have z8:=m8.size;have O8:=m8.cM O7 (fun J=>by have:=ff J.1;have:=J.2;omega);have ai:f'.nl=false->h5.size<=f'.b:=fun H=>by
   rcases ar with⟨X,k2⟩|⟨X,_⟩
   ·rw[X];exact ff (by rw[<-k2];exact H)
   omega
  have aM:=(ot.cF e7).cD m8 (fun H J=>ap J.1 H J.2.symm);have d8:f'.nl=false->t.nl=false->f'.b≠t.b:=fun H ht=>by
   rcases ar with⟨X,k2⟩|⟨X,_⟩
   ·rw[X];exact ap (by rw[<-k2];exact H) ht
   have:=ot.lt ht;omega
  simp;refine stB O8 (o:=1) (by simp) ?_;intro h9 O9 m9;have O9:Yo h9 op #[q.v,f'.v,t.v,gt.v,Zi,Zg 0]:=O9;have z9:=m9.size;have au:=aL.cD m9 (fun H J=>by have:=ai H;omega);have aN:=aM.cD m9 (fun H J=>by have:=ft H;omega);have av:Mod (fun j=>j=op) h5 h9:=((m6.trans (e7.mono fun _ _ h=>h.elim)).then m8 (fun j J hb=>by have:=ff hb.1;have:=hb.2;omega)).trans m9;have x9:Ext h h9:=Mod.cC x5 av (fun j J=>by omega);simp[O9.hc];refine U0 O.GO.R.G.To O.GO.R.G.arc (g.cC x9) ?_;rw[aK];simp[O9.hc];refine Xg ?_;intro bq aj br V10 I;have O10:=O9.cC I;have aO:=I.size;simp[O10.hc];refine Wa rfl (aN.cF I) V10 ?_;intro t' aw ax a5 U ab;have O11:=U.cM O10 (fun J=>by have:=ft J.1;have:=J.2;omega);have ae:t'.nl=false->h5.size<=t'.b:=fun H=>by
   rcases ab with⟨X,k2⟩|⟨X,_⟩
   ·rw[X];exact ft (by rw[<-k2];exact H)
   omega
  have ay:=(au.cF I).cD U (fun H J=>d8 H J.1 J.2);have aP:f'.nl=false->t'.nl=false->f'.b≠t'.b:=fun H ht=>by
   rcases ab with⟨X,k2⟩|⟨X,_⟩
   ·rw[X];exact d8 H (by rw[<-k2];exact ht)
   have:=au.lt H;omega
  simp;refine stB O11 (o:=2) (by simp) ?_;intro ac O12 aa;have O12:Yo ac op #[q.v,f'.v,t'.v,gt.v,Zi,Zg 0]:=O12;simp[w1];have az:Mod (fun j=>j=op) h5 ac:=((av.trans (I.mono fun _ _ h=>h.elim)).then U (fun j J hb=>by have:=ft hb.1;have:=hb.2;omega)).trans aa;refine nx ⟨i+1,f',t',_,_,_,_,_,_,_,_,_,_,_,_,_,_,_,rfl,by omega,O12,?_,?_,ai,ae,aP,az⟩
  ·have:=ay.cD aa (fun H J=>by have:=ai H;omega);rw[aq];simpa[Zu] using this
  have:=ax.cD aa (fun H J=>by have:=ae H;omega);rw[aq];simpa[Zu] using this
 have c':¬(i:Int)<N.as.length:=by omega
 obtain rfl:i=N.as.length:=by omega
 rw[Xj9] at of ot;simp[c',O6.hc];refine Zp (Xir p B op (.agg #[s.v]) q f t gt N L h6) (fun e _=>gt.n-Zx e 18) ⟨0,Sl.nil,[],0,_,_,_,_,_,_,_,_,_,_,_,_,_,_,rfl,by omega,O6,Yh.nil,rfl,fun h=>(by cases h),Mod.refl _,rfl,fun k hk=>(by omega)⟩ ?_;rintro e h7 ⟨k,st,cs,z,w7,w8,w9,bs,bv,bw,bx,bz,bB,bC,bD,bF,bG,bH,rfl,hk,O7,os,aA,fs,m7,aB,aC⟩;have z7:=m7.size;have aQ:=os.1;simp at aQ;have aR:Mod (fun j=>j=op) h5 h7:=m6.trans m7;have ad:Ext h4 h7:=Mod.cC e5 aR (fun j J=>by omega);have x7:Ext h h7:=x4.trans ad;by_cases d:k<gt.n;rotate_left
 ·have d':¬(k:Int)<gt.n:=by omega
  simp[d'];refine hr h7 op x7 (by omega) (fun y my=>⟨q,f,t,gt,st,z,my.cM O7 (by omega),?_,?_,?_,?_,⟨os.ok,by omega,fun i hi=>?_⟩,by rw[aB,show k=L.length by omega]⟩)
  ·exact fq y (((e4.trans ad).mono fun _ _ h=>h.elim).trans (my.mono fun j _ J=>by omega))
  ·exact fg y ((ad.mono fun _ _ h=>h.elim).trans (my.mono fun j _ J=>by omega))
  ·exact ((of.cD m7 (fun H J=>by have:=ff H;omega)).cD my (fun H J=>by have:=ff H;omega)).cE
  ·exact ((ot.cD m7 (fun H J=>by have:=ft H;omega)).cD my (fun H J=>by have:=ft H;omega)).cE
  obtain⟨b,b1,b2,b3,b4⟩:=aC i (by omega);exact⟨Sl.at b (Yv L i) (Yv L i),Yh.cell (os.cD my (fun H J=>by have:=fs H;omega)) b1,(b4.cD my (fun H J=>by simp at J;omega)).cE⟩
 have d':(k:Int)<gt.n:=by omega
 have w1:=wrapS (i:=k);obtain⟨u,hu,cu⟩:=Ze8 (fg h4 (Mod.refl _)) d;have aS:=hu h7 ad;have aT:=(fg h4 (Mod.refl _)).ok;obtain⟨_,_,gb,_⟩:=Xq pk (i:=k);have ak:=cu.len;obtain⟨n,H⟩:∃n,Yv L k=n:=⟨_,rfl⟩
 rw[H] at cu ak gb;simp[d',Zl aT,aS,ak];refine Zf4 (n:=n) (by omega) rfl ?_;intro W h8 g8 oW e8 lW;have O8:=O7.cC e8;have bJ:=O7.lt;simp[ak];refine Zp (Xim p B op W n k (.agg #[s.v]) q f t gt st u N L h8) (fun e _=>n-Zx e 22) ⟨0,_,z,_,_,_,_,_,_,_,_,_,rfl,by omega,O8,oW,Mod.refl _,by rw[aB];rfl,fun c hc=>(by omega)⟩ ?_;clear O8 oW;rintro e h9 ⟨j,vs,z,y7,bK,bM,bO,bP,bQ,bR,bT,bU,rfl,J,O9,oW,m9,al,aD⟩;have z9:=m9.size;have aU:=oW.1;simp at aU;have aV:Ext h4 h9:=Mod.cC (ad.trans e8) m9 (fun j J=>by omega);by_cases b:j<n
 ·have b':(j:Int)<n:=by omega
  have w2:=wrapS (i:=j);obtain⟨a1,a2,ha,aW,aX⟩:=Zhq cu b;have aY:=aW.len;have aZ:=aX.len;obtain⟨_,_,ra⟩:=ha h9 aV;have bu:(j:Int)<u.n:=by omega
  simp[b',Zl cu.ok,bu,ra];refine Xh (vs:=#[a1.v,a2.v]) ?_;intro D bW gD a0 a3 aE;simp;refine aE _ ?_;intro aj D10 I;clear aE a0 a3;have O10:=O9.cC I;have af:=oW.cF I;have aF:=Zl (Y:=Y) (h:=aj) (s:=Sl.at W n n) (sz:=1) (k:=.i64) (i:=(j:Int)) af.ok (by omega) (by simp;omega);simp at aF;simp[O10.hc,aF];have ag:=fun K v=>stN (v:=v) (K:=K) af (k:=j) (by omega);simp only[Sl.at_b,Sl.at_o,Xjs] at ag;refine ag _ _ ?_;intro aw aG U;have O11:=U.cM O10 (by omega);have D11:=U.cM D10 (by omega);simp[O11.hc,D11.hc];refine stB O11 (o:=5) (by simp) ?_;intro ac O12 aa;simp at O12;simp[w2];refine nx ⟨j+1,_,_,_,_,_,_,_,_,_,_,_,rfl,by omega,O12,aG.cD aa (fun _ hb=>by simp at hb;omega),?_,?_,?_⟩;rotate_left
  ·have hE:Zbj N L k j=a1.n * a2.n:=by unfold Zbj;rw[aY,aZ]
   have bE:=Zq1 (L:=L) (k:=k) (c:=j) ok;have bS:=Zlg (L:=L) (k:=k) (c:=j) ok;have bV:=Q9 ok pk (k:=k) (by omega);have bj:j * 268435456<=4096 * 268435456:=Xkm _ (by omega);rw[show ((a1.n:Int) * a2.n)=((Zbj N L k j:Nat):Int) by rw[hE];exact (Int.natCast_mul ..).symm];have w3:IntKind.i64.wrap ((Zbj N L k j:Nat):Int)=((Zbj N L k j:Nat):Int):=Zn;rw[w3,al,Zn];simp only[Yn];omega
  ·intro c hc;rw[Xk5];by_cases q:j=c
   ·subst q;rw[if_pos rfl,ifP,al]
   rw[if_neg q];exact aD c (by omega)
  exact ((m9.trans (I.mono fun _ _ h=>h.elim)).trans (U.mono fun _ _ h=>.inr h)).trans (aa.mono fun _ _ h=>.inl h)
 have b':¬(j:Int)<n:=by omega
 simp[b',O9.hc];refine Xg ?_;intro V aj gV V10 I;have aO:=I.size;have O10:=O9.cC I;have am:Mod (fun k=>k=op\/k=W) h7 h9:=(e8.mono fun _ _ h=>h.elim).trans m9;have a4:=os.cD am (fun H hb=>by have:=fs H;have:=os.lt H;omega);simp;refine Wa rfl (a4.cF I) V10 ?_;intro an aw aH a6 U ab;have O11:=U.cM O10 (fun hb=>by have:=fs hb.1;have:=hb.2;omega);have ah:an.nl=false->h6.size<=an.b:=fun H=>by
  rcases ab with⟨X,k2⟩|⟨X,_⟩
  ·rw[X];exact fs (by rw[<-k2];exact H)
  omega
 simp;refine stB O11 (o:=4) (by simp) ?_;intro ac O12 aa;simp at O12;simp[w1];refine nx ⟨k+1,an,_,z,_,_,_,_,_,_,_,_,_,_,_,_,_,_,rfl,by omega,O12,aH.cD aa (fun H hb=>by have:=ah H;omega),by simp[aA],ah,?_,?_,?_⟩;rotate_left
 ·rw[al,show j=n by omega,<-H]
  rfl
 ·intro X bX;by_cases q:X=k
  ·subst q;rw[H];refine⟨W,by rw[Xjv (by omega),aA];simp,by omega,fun hs=>?_,?_⟩
   ·rcases ab with⟨X,k2⟩|⟨X,_⟩
    ·rw[X];have:=os.lt (by rw[<-k2];exact hs);omega
    omega
   have hv:vs=Zu (X5 N L X):=by
    refine Xkz fun c=>?_;by_cases d:c<n
    ·rw[aD c (by omega)];simp[Zu,X5,H,d]
    rw[Xjl,Xjl (by simp[X5,H];omega)]
   rw[<-hv];exact ((oW.cF I).cD U (fun _ hb=>by have:=os.lt hb.1;have:=hb.2;simp at this;omega)).cD aa (fun _ hb=>by simp at hb;omega)
  obtain⟨b,b1,b2,b3,b4⟩:=aC X (by omega);have lb:=b4.lt rfl;simp at lb;refine⟨b,by rw[Xjm (by omega)];exact b1,b2,fun hs=>?_,?_⟩
  ·rcases ab with⟨X,k2⟩|⟨X,_⟩
   ·rw[X];exact b3 (by rw[<-k2];exact hs)
   omega
  exact (((b4.cD am (fun _ hb=>by simp at hb;omega)).cF I).cD U (fun _ hb=>b3 hb.1 (by have:=hb.2;simpa using this))).cD aa (fun _ hb=>by simp at hb;omega)
 have aI:Mod (fun k=>(k=op\/k=W)\/(st.nl=false/\k=st.b)) h7 ac :=
  (((am.mono fun _ _ h=>.inl h).trans (I.mono fun _ _ h=>h.elim)).trans (U.mono fun _ _ h=>.inr h)).trans (aa.mono fun _ _ h=>.inl (.inl h))
 refine m7.then aI (fun j J hb=>?_);rcases hb with (hb|hb)|hb
 ·exact hb
 ·omega
 have:=fs hb.1;have:=hb.2;omega
end
structure Ed where
 u:Nat
 v:Nat
 x:Int
deriving DecidableEq
def bI(b:Bool):Int:=if b then 1 else 0
def Z1u:List Ed->Nat->Int
 | [],_=>0
 |e::r,w=>(if e.u=w then e.x else 0)-(if e.v=w then e.x else 0)+Z1u r w
def Xhq(L:List Ed)(a b:Nat):Prop:=a≠b/\∃e∈L,(e.u=a/\e.v=b/\e.x≠1)\/(e.v=a/\e.u=b/\e.x≠-1)
inductive Reach(L:List Ed)(A:Zf):Zf
 |start {v:Nat}:A v->Reach L A v
 |step {v w:Nat}:Reach L A v->Xhq L v w->Reach L A w
end Go.Rm

namespace Go.Rm
def Xn(l:List (Int × Int))(i:Nat):Int × Int:=l.getD i (0,0)
def Zbt(l:List Bool)(i:Nat):Bool:=l.getD i false
structure Zar(h:Zk)(s:Sl)(l:List (Int × Int)):Prop where
 ok:s.ok
 len:l.length=s.n
 v0:∀i,i<l.length->hc h s.b (s.o+i * 2)=some (.int .i64 (Xn l i).1)
 v1:∀i,i<l.length->hc h s.b (s.o+i * 2+1)=some (.int .i64 (Xn l i).2)
def Zar.cC{h h':Zk}{s:Sl}{l:List (Int × Int)}(r:Zar h s l)(e:Ext h h'):Zar h' s l :=
 ⟨r.ok,r.len,fun i G=>e.hc (r.v0 i G) (fun h=>h),fun i G=>e.hc (r.v1 i G) (fun h=>h)⟩
def Zar.rd{h:Zk}{s:Sl}{l:List (Int × Int)}(r:Zar h s l){i:Nat}(H:i<l.length):rd h s.b (s.o+i * 2) 2=some [.int .i64 (Xn l i).1,.int .i64 (Xn l i).2]:=by
 refine Zbg (l:=[.int .i64 (Xn l i).1,.int .i64 (Xn l i).2]) fun j v G=>?_
 match j with
 |0=>simp at G;subst G;exact r.v0 i H
 |1=>simp at G;subst G;exact r.v1 i H
 |j+2=>simp at G
section
variable{Y:Sys}{h h':Zk}
def Zh2{K:Ze}{n:Nat}{m:Int}(H:∀(b:Nat)(h':Zk),h.size<=b->Yh h' 1 (Sl.at b n n) (List.replicate n (.bool false))->Ext h h'->b<h'.size->K (.slice (some ⟨b,0,none⟩) n n) h')(I:n<=1000000:=by omega)(G:m=n:=by rfl):
  Ef.wp h K (.mkslice 1 1 #[.bool false]) [.int .i64 m,.int .i64 m]:=by
 subst G;rw[Va];refine⟨by omega,by omega,by omega,by omega,fun t=>?_⟩;simp only[Xi8,Xjd,Vm];refine H h.size _ (Xi4 _) ⟨by simp,.inr ⟨rfl,rfl,rfl,Xi4 _,by simp;omega,_,Yo.new,by simp,by simp⟩⟩ Mod.push (by simp)
def Zfc{K:Ze}{b n m k:Nat}{cells:Zc}{v:Zj}(o:Yh h 1 (Sl.at b n m) cells)(H:∀h',Yh h' 1 (Sl.at b n m) (cells.set k v)->Mod (fun j=>j=b) h h'->K undef h')(G:k<cells.length:=by simp;omega):Xo h b k v K:=by
 have:=stN (v:=v) (K:=K) o G H;simpa using this
def Zzu{l:Zb}{i:Nat}(G:i<l.length):Zm l i=l[i]:=by simp[Zm,G]
def Wz{b n m v sz:Nat}(G:m<=9223372036854775807)(hv:v<n)(H:n<=m):Ym.cK Y h (.idxa sz) [.slice (some ⟨b,0,none⟩) n m,.int .i64 v]=some (.pointer (some ⟨b,v * sz,none⟩)):=by
 have:=Zl (Y:=Y) (h:=h) (s:=Sl.at b n m) (sz:=sz) (k:=.i64) (i:=v) ⟨fun h=>(by cases h),(by simp;omega),.inl rfl⟩ (by omega) (by simp;omega);simpa using this
def Mod.cG{p:Nat}{h0 h h':Zk}(x:Ext h0 h)(m:Mod (fun j=>j=p) h h')(hp:h0.size<=p):Ext h0 h':=Mod.cC x m (fun j G=>by omega)
def Vo(l:List Bool):Zc:=l.map fun x=>Value.bool x
def Zgw{l:List Bool}:(Vo l).length=l.length:=by simp[Vo]
def Zj5(O:Zf3 Y){op:Nat}{N:Zs}{L:Za}(v:Uq h op N L){R:Ze}(G:R (Zg L.length) h):Zt Y 316 [Zh op] h R:=by
 obtain⟨q,f,t,g,J,z,B,H,U,_,_⟩:=v;refine .o O.Levels ?_;have I:=H.len;rw[I] at G;simp[Y316,Yw.wp,B.hc];exact G
def Zci(O:Zf3 Y){op:Nat}{N:Zs}{L:Za}(v:Uq h op N L){i:Nat}(hi:i<L.length){R:Ze}(I:R (Zg (Yv L i)) h)(hb:L.length<=1000:=by omega):Zt Y 317 [Zh op,Zg ((i:Int)+1)] h R:=by
 obtain⟨q,f,t,g,st,z,B,rq,G,_,_⟩:=v;refine .o O.Cells ?_;have lg:=G.len;obtain⟨u,hu,J⟩:=Ze8 G (i:=i);have hu:=hu h (Mod.refl _);have w1:IntKind.i64.wrap ((i:Int)+1-1)=(i:Int):=by rw[Zn];omega
 have w0:IntKind.i64.wrap (i:Int)=(i:Int):=Zn;have c1:¬(i:Int)+1<1:=by omega
 have U:¬(g.n:Int)<(i:Int)+1:=by omega
 have X:(i:Int)<g.n:=by omega
 have H:=J.len;simp[Y317,Yw.wp,B.hc,c1,U,w0,Zl G.ok,X,hu,H];exact I
def Zgg(O:Zf3 Y){op:Nat}{N:Zs}{L:Za}(v:Uq h op N L)(G:L.length<=1000)(H:∀i,i<L.length->(Yc L i).length<=1000000){R:Ze}
  (hr:∀h' J,Ext h h'->(∀k,Mod (fun j=>j<h.size) h' k->Wm k J L)->R (W7 J) h'):Zt Y 318 [Zh op] h R:=by
 obtain⟨q,f,t,g,st,z,B,rq,rg,_,_⟩:=v;refine .o O.Part ?_;simp[Y318,Yw.wp];refine Zo ?_;intro C h1 g1 C1 U;have C1:Yo h1 C #[Zi]:=C1;have B1:=B.cC U;have X:rd h1 op 0 1=some [q.v]:=Zbg (l:=[q.v]) fun i v I=>by
  rw[B1.hc]
  match i,I with
  |0,I=>simpa using I
  |i+1,I=>simp at I
 simp[X];rw[show (Value.agg #[q.v])=W7 q from rfl];refine Zos O.T (rq.cC U) (by rw[<-rq.len];exact G) H ?_;intro h2 J e2 fs;have lC:=C1.lt;simp[W7];refine Zy (C1.cC e2) ?_;intro h3 C3 m3;simp;refine Vf rfl C3 rfl ?_;exact hr h3 J (Mod.cC (U.trans e2) m3 (fun j hj=>by omega)) (fun k mk=>fs k ((m3.mono fun j _ hj=>by omega).trans (mk.mono fun j _ hj=>by omega)))
structure Z35(Y:Sys):Prop where
 O:Zf3 Y
 Made:Y.cL 307 Y307
 MF:Zzk Y
 CT:Z4u Y
def Zto(X:Z35 Y){H I J s:Sl}{N:Zs}{L:Za}(r:Z2 h H I J N)(q:Wm h s L)(hf:Zay N=true)(ok:Yl N)(U:Yq N.vs.length L){R:Ze}
  (hr:∀h' op,Ext h h'->h.size<=op->(∀k,Mod (fun j=>j<h.size) h' k->Uq k op N L)->R (Zh op) h'):Zt Y 307 [Xp H I J,W7 s] h R:=by
 refine .o X.Made ?_;have lL:=q.len;have bL:=U.bL;have bN:=U.bn;have G:∀i,i<L.length->(Yc L i).length<=1000000:=fun i hi=>by
  have:=(Xq U hi).1;omega
 simp[Y307,Yw.wp,Xp,W7];refine Zo ?_;intro A h1 g1 A1 e1;simp;refine Zo ?_;intro B h2 g2 B2 e2;have x2:=e1.trans e2;have z1:=e1.size;have z2:=e2.size;simp[Yf (A1.cC e2)];rw[show (Value.agg #[H.v,I.v,J.v])=Xp H I J from rfl];refine Zn3 X.MF (r.cC x2) hf ok ?_;intro h3 p S e3 g hS;have x3:=x2.trans e3;have B3:=B2.cC e3;simp[Yf B3];rw[show (Value.agg #[s.v])=W7 s from rfl];refine Zsg X.CT (q.cC x3) (by omega) G ?_;intro h4 s' e4 q4 _;have x4:=x3.trans e4;have z3:=e3.size;have z4:=e4.size;simp;refine Zpr X.O (g.cC e4) q4 ok U ?_;intro h5 op e5 aa fo;simp;exact hr h5 op (x4.trans e5) (by omega) (fun k mk=>fo k (mk.mono fun j _ hj=>by omega))
structure Zdv(Y:Sys):Prop where
 O:Zf3 Y
 Size:Y.cL 359 Y359
 has:Y.cL 399 Y399
 At:Y.cL 361 Y361
 Gate:Y.cL 395 Y395
def enV(N:Zs)(L:Za)(k c:Nat)(i o:Int):Int :=
 if 0<=i/\i<((Zv N L k false c).length:Int)/\0<=o/\o<((Zv N L k true c).length:Int) then (Zz N L k+Yn N L k c:Nat)+i * (Zv N L k true c).length+o else -1
def Zcy(X:Zdv Y){op:Nat}{N:Zs}{L:Za}(v:Uq h op N L){R:Ze}(G:R (Zg (Zz N L L.length:Nat)) h):Zt Y 359 [Zh op] h R:=by
 obtain⟨q,f,t,g,H,z,B,I,J,_,_,_,hz⟩:=v;refine .o X.Size ?_;simp[Y359,Yw.wp,B.hc];rw[hz];exact G
def Zh0(X:Zdv Y){op:Nat}{N:Zs}{L:Za}(v:Uq h op N L){i:Nat}(H:i<L.length){c:Int}{R:Ze}(G:R (.bool (decide (0<=c/\c<Yv L i))) h)(hb:L.length<=1000:=by omega):
  Zt Y 399 [Zh op,Zg ((i:Int)+1),Zg c] h R:=by
 refine .o X.has ?_;simp[Y399,Yw.wp];by_cases a:0<=c
 ·have a':¬c<0:=by omega
  simp[a];refine Zci X.O v H ?_ hb;simp;simpa[a] using G
 simp[a];simpa[a] using G
def Zfj(X:Zdv Y){op:Nat}{N:Zs}{L:Za}(v:Uq h op N L)(ok:Yl N)(pk:Yq N.vs.length L){k c:Nat}(hk:k<L.length)(hc':c<Yv L k){i o:Int}{R:Ze}
  (I:∀h',Ext h h'->R (Zg (enV N L k c i o)) h'):Zt Y 361 [Zh op,Zg ((k:Int)+1),Zg (c:Int),Zg i,Zg o] h R:=by
 have bL:=pk.bL;have bA:=ok.ba;have bS:=Zlg (L:=L) (k:=k) (c:=c) ok;have bV:=Q9 ok pk (k:=k) (by omega);have bG:=(Xq pk hk).2.2.1;refine .o X.At ?_;simp[Y361,Yw.wp];refine Zh0 X v hk ?_;have hh:decide ((0:Int)<=(c:Int)/\(c:Int)<Yv L k)=true:=by simp;omega
 rw[hh];obtain⟨q,f,t,g,st,z,B,rq,rg,_,_,rs,hz⟩:=v;have lg:=rg.len;obtain⟨u,hu,cu⟩:=Ze8 rg (i:=k);have hu:=hu h (Mod.refl _);have ai:=cu.len;obtain⟨a1,G,ha,r1,r2⟩:=Zhq cu hc';obtain⟨_,_,ra⟩:=ha h (Mod.refl _);have w1:IntKind.i64.wrap ((k:Int)+1-1)=(k:Int):=by rw[Zn];omega
 have w0:IntKind.i64.wrap (k:Int)=(k:Int):=Zn;have c3:(k:Int)<g.n:=by omega
 have c4:(c:Int)<u.n:=by omega
 simp[B.hc,w0,Zl rg.ok,c3,hu,Zl cu.ok,c4,ra];refine Xh (vs:=#[a1.v,G.v]) ?_;intro D aj gD ad ae ab;simp;refine ab _ ?_;intro h1 D1 e1;clear ab ad ae;have B1:=B.cC e1;have l1:=r1.len;have l2:=r2.len;have af:enV N L k c i o=if 0<=i/\i<(a1.n:Int)/\0<=o/\o<(G.n:Int) then ((Zz N L k+Yn N L k c:Nat):Int)+i * G.n+o else -1:=by unfold enV;rw[l1,l2]
 have I:=I h1 e1;rw[af] at I;have b1:a1.n<=16384:=by have:=Wg (N:=N) (L:=L) (k:=k) (c:=c) (x:=false);omega
 have b2:G.n<=16384:=by have:=Wg (N:=N) (L:=L) (k:=k) (c:=c) (x:=true);omega
 by_cases q1:i<0
 ·have H:¬0<=i:=by omega
  simp[q1];simpa[H] using I
 have H:0<=i:=by omega
 by_cases q2:(a1.n:Int)<=i
 ·have J:¬i<(a1.n:Int):=by omega
  simp[q1,q2,D1.hc];simpa[J] using I
 have J:i<(a1.n:Int):=by omega
 by_cases q3:o<0
 ·have O:¬0<=o:=by omega
  simp[q1,q2,q3,D1.hc];simpa[O] using I
 have O:0<=o:=by omega
 by_cases q4:(G.n:Int)<=o
 ·have U:¬o<(G.n:Int):=by omega
  simp[q1,q2,q3,q4,D1.hc];simpa[U] using I
 have U:o<(G.n:Int):=by omega
 obtain⟨su,ag,aa⟩:=(rs.cC e1).val k hk;have ak:=aa.len;have al:=rs.len;have am:(X5 N L k).length=Yv L k:=by simp[X5]
 have c5:(k:Int)<st.n:=by omega
 have c6:(c:Int)<su.n:=by omega
 have ac:=aa.at (i:=c) (by omega)
 have ah:Zm (X5 N L k) c=((Zz N L k+Yn N L k c:Nat):Int):=by simp[Zm,X5,hc']
 rw[ah] at ac;have m0:0<=i * (G.n:Int):=Xkk H (by omega);have m1:i * (G.n:Int)<=16384 * 16384:=Int.le_trans (Xkl (show i<=16384 by omega) (by omega)) (Xm8 (by omega) (by omega));have w2:IntKind.i64.wrap (i * (G.n:Int))=i * G.n:=Zn;have w3:IntKind.i64.wrap (((Zz N L k+Yn N L k c:Nat):Int)+i * G.n)=((Zz N L k+Yn N L k c:Nat):Int)+i * G.n:=Zn;have w4:IntKind.i64.wrap (((Zz N L k+Yn N L k c:Nat):Int)+i * G.n+o)=((Zz N L k+Yn N L k c:Nat):Int)+i * G.n+o:=Zn;simp[q1,q2,q3,q4,D1.hc,B1.hc,w0,Zl rs.ok,c5,ag,Zl aa.ok,c6,ac,w2,-Int.natCast_add,w3,w4];simpa[H,J,O,U] using I
def W9(X:Zdv Y){op:Nat}{N:Zs}{L:Za}(v:Uq h op N L)(ok:Yl N)(pk:Yq N.vs.length L){k c:Nat}(hk:k<L.length)(hc':c<Yv L k){R:Ze}
  (hr:∀(h':Zk)(G H:Sl),Ext h h'->Yh h' 1 G (Zu (Zv N L k false c))->Yh h' 1 H (Zu (Zv N L k true c))->(G.nl=true\/h.size<=G.b)->(H.nl=true\/h.size<=H.b)->R (.agg #[G.v,H.v]) h') :
  Zt Y 395 [Zh op,Zg ((k:Int)+1),Zg (c:Int)] h R:=by
 have bL:=pk.bL;have bA:=ok.ba;refine .o X.Gate ?_;simp[Y395,Yw.wp];refine Zo ?_;intro A h1 gA A1 e1;simp;have v1:=v.cC e1;refine Zh0 X v1 hk ?_;have hh:decide ((0:Int)<=(c:Int)/\(c:Int)<Yv L k)=true:=by simp;omega
 rw[hh];obtain⟨q,f,t,g,st,z,B,rq,J,_,_,rs,hz⟩:=v1;have lg:=J.len;obtain⟨u,hu,U⟩:=Ze8 J (i:=k);have hu:=hu h1 (Mod.refl _);have ad:=U.len;obtain⟨a1,a2,ha,r1,r2⟩:=Zhq U hc';obtain⟨_,_,ra⟩:=ha h1 (Mod.refl _);have w1:IntKind.i64.wrap ((k:Int)+1-1)=(k:Int):=by rw[Zn];omega
 have w0:IntKind.i64.wrap (k:Int)=(k:Int):=Zn;have c3:(k:Int)<g.n:=by omega
 have c4:(c:Int)<u.n:=by omega
 simp[B.hc,w0,Zl J.ok,c3,hu,Zl U.ok,c4,ra];refine Xh (vs:=#[a1.v,a2.v]) ?_;intro D ae gD aa ab I;simp;refine I _ ?_;intro h2 D2 e2;clear I aa ab;have z2:=e2.size;have A2:=A1.cC e2;have b1:(Zv N L k false c).length<=16384:=by have:=Wg (N:=N) (L:=L) (k:=k) (c:=c) (x:=false);omega
 have b2:(Zv N L k true c).length<=16384:=by have:=Wg (N:=N) (L:=L) (k:=k) (c:=c) (x:=true);omega
 simp[D2.hc];refine Zg2 X.O.T (r1.cC e2) ?_;intro h3 G e3 o1 n1;have z3:=e3.size;have D3:=D2.cC e3;simp[D3.hc];refine Zg2 X.O.T ((r2.cC e2).cC e3) ?_;intro h4 H e4 o2 n2;have A4:=(A2.cC e3).cC e4;have hb:Ym.cK Y h4 (.build #[Zi,Zi] [(0,1),(1,1)] [0,1]) [G.v,H.v]=some (.agg #[G.v,H.v]):=by
  simp[Ym.cK,Instr.fill,Value.cells,Sl.v]
 simp[hb];refine Zy (vs:=#[G.v,H.v]) A4 ?_;intro h5 A5 m5;have lA:=A1.lt;simp[Yf A5,Up,Zbo,Res.ev];have ac:=((e2.trans e3).trans e4)
 refine hr h5 G H (Mod.cC e1 ((ac.mono fun _ _ h=>h.elim).trans m5) (fun j hj=>by omega)) ((o1.cF e4).cD m5 (fun hn hj=>?_)) (o2.cD m5 (fun hn hj=>?_)) (n1.imp id fun h=>by omega) (n2.imp id fun h=>by omega)
 ·rcases n1 with n1|n1
  ·rw[hn] at n1;cases n1
  omega
 rcases n2 with n2|n2
 ·rw[hn] at n2;cases n2
 omega
def Xl(L:Za)(k v:Nat):Int:=Zm (Yc L (k-1)) v
def LvI(s:Sl)(L:Za)(v a b:Nat)(h0:Zk)(e:Zc)(h':Zk):Prop :=
 ∃(k:Nat)(h i j l c d f g:Zj),e=[s.v,Zg v,Zg a,Zg b,Zg 0,Zg k,h,i,j,l,c,d,f,g]/\k<=L.length/\Ug (Xl L) v a b L.length=Ug (Xl L) v a b k/\h'=h0
def LvJ(s u:Sl)(v a b k:Nat)(h0:Zk)(e:Zc)(h':Zk):Prop :=
 ∃(j:Nat)(v7 v8 v11 v12 v13:Zj),e=[s.v,Zg v,Zg a,Zg b,Zg 0,Zg ((k:Int)+1),u.v,v7,v8,.agg #[Zg v,Zg a,Zg b],Zg j,v11,v12,v13]/\j<=3/\h'=h0
def Zra(H:Y.cL 401 Y401){s:Sl}{L:Za}(r:Wm h s L)(ac:L.length<=1000){v a b n:Nat}(O:∀i,i<L.length->(Yc L i).length=n)(hv:v<n)(ha:a<n)(hb:b<n)(hn:n<=1000000)
  {R:Ze} (X:R (Zg (Ug (Xl L) v a b L.length:Nat)) h):Zt Y 401 [s.v,Zg v,Zg a,Zg b] h R:=by
 refine .o H ?_;have ls:=r.len;simp[Y401,Yw.wp];rw[<-ls];refine Zp (LvI s L v a b h) (fun e _=>Zx e 5) ⟨L.length,_,_,_,_,_,_,_,_,rfl,Xi4 _,rfl,rfl⟩ ?_;rintro e h1 ⟨k,v6,v7,v8,v9,ad,ae,af,ag,rfl,hk,hl,rfl⟩
 cases k with
 |zero =>
  simp;rw[hl] at X;exact X
 |succ k =>
  obtain⟨u,hu,I⟩:=r.at (i:=k) (by omega)
  have aa:k<s.n:=by omega
  have c1:(1:Int)<=(k:Int)+1:=by omega
  have w1:IntKind.i64.wrap ((k:Int)+1-1)=(k:Int):=by rw[Zn];omega
  have w0:IntKind.i64.wrap (k:Int)=(k:Int):=Zn;have ab:Ym.cK Y h1 (.buildA 1 #[Zg 0,Zg 0,Zg 0] [0,1,2]) [Zg (v:Int),Zg (a:Int),Zg (b:Int)]=some (.agg #[Zg v,Zg a,Zg b]):=by
   simp[Ym.cK,Instr.fill,Value.cells]
  simp[c1,w0,Zl r.ok,aa,hu,ab];have lu:=I.len;rw[O k (by omega)] at lu;refine Zp (LvJ s u v a b k h1) (fun e _=>3-Zx e 10) ⟨0,_,_,_,_,_,rfl,by omega,rfl⟩ ?_;rintro e h2 ⟨j,y7,y8,ah,ai,aj,rfl,hj,rfl⟩;by_cases c:j<3
  ·have c':(j:Int)<3:=by omega
   have w2:=wrapS (i:=j);obtain⟨x,hx,ak⟩:∃x:Nat,(#[Value.int .i64 v,Zg a,Zg b])[j]? = some (Zg x)/\x<n:=by
    match j,c with
    |0,_=>exact⟨v,rfl,hv⟩
    |1,_=>exact⟨a,rfl,ha⟩
    |2,_=>exact⟨b,rfl,hb⟩
   have hp:Ym.cK Y h2 (.idxV 3 1 false) [.agg #[Zg v,Zg a,Zg b],Zg (j:Int)]=some (Zg x):=by
    simp only[Ym.cK];rw[if_pos ⟨by omega,by omega⟩];simp only[Zam,Xjh,if_false];rw[show (j:Int).toNat * 1=j by omega];exact hx
   have d1:¬(x:Int)<0:=by omega
   have d2:¬(u.n:Int)<=(x:Int):=by omega
   simp[c',hp,d1,d2,w2];exact nx ⟨j+1,_,_,_,_,_,rfl,by omega,rfl⟩
  have c':¬(j:Int)<3:=by omega
  have vv:=I.at (i:=v) (by omega)
  have va:=I.at (i:=a) (by omega)
  have vb:=I.at (i:=b) (by omega)
  have lv:v<u.n:=by omega
  have la:a<u.n:=by omega
  have lb:b<u.n:=by omega
  have cv:∀x,Xl L (k+1) x=Zm (Yc L k) x:=fun x=>rfl;have G:Ug (Xl L) v a b (k+1)=if Xl L (k+1) v≠Xl L (k+1) a/\Xl L (k+1) v≠Xl L (k+1) b then k+1 else Ug (Xl L) v a b k:=rfl
  by_cases J:Zm (Yc L k) v=Zm (Yc L k) a
  ·rw[if_neg (by simp[cv,J])] at G;simp[c',Zl I.ok,lv,la,vv,va,J,w0];exact⟨⟨k,_,_,_,_,_,_,_,_,rfl,by omega,by rw[hl,G],rfl⟩,by simp[Zx]⟩
  by_cases U:Zm (Yc L k) v=Zm (Yc L k) b
  ·rw[if_neg (by simp[cv,U])] at G;rw[U] at J;simp[c',Zl I.ok,lv,la,lb,vv,va,vb,J,U,w0];exact⟨⟨k,_,_,_,_,_,_,_,_,rfl,by omega,by rw[hl,G],rfl⟩,by simp[Zx]⟩
  rw[if_pos (by simp[cv,J,U])] at G;rw[hl,G] at X;simp[c',Zl I.ok,lv,la,lb,vv,va,vb,J,U];simpa using X
structure Xb5(Y:Sys):Prop where
 X:Zdv Y
 Arcs:Y.cL 209 Y209
 check:Y.cL 342 Y342
def Znj(C:Xb5 Y){p op:Nat}{N:Zs}{S:Zf}{L:Za}{c:Sl}(g:Xi h p N S)(v:Uq h op N L)(hc:(c.n:Int)=(Zz N L L.length:Nat)){s t:Nat}(U:s<N.as.length)(ht:t<N.as.length)
  {R:Ze} (G:R .nilIface h):Zt Y 342 [Zh p,Zh op,c.v,Zg (s:Int),Zg (t:Int)] h R:=by
 refine .o C.check ?_;simp[Y342,Yw.wp];refine Q3 C.Arcs g ?_;have H:¬(s:Int)<0:=by omega
 have I:¬(N.as.length:Int)<=(s:Int):=by omega
 have J:¬(t:Int)<0:=by omega
 have O:¬(N.as.length:Int)<=(t:Int):=by omega
 simp[H,I,J,O];refine Zcy C.X v ?_;simp[hc];exact G
end
def EdF(st:Nat->List Yt)(a b:Nat)(w:Int):Prop:=∃x,x∈st a/\x.b<0/\x.a=(b:Int)/\w=x.c
def OuF(st:Nat->List Yt)(a o:Nat)(w:Int):Prop:=∃x,x∈st a/\x.b=(o:Int)/\w=x.c
def GoF(st:Nat->List Yt)(s o:Nat)(x:Int):Prop:=∃a y w,Yx (AtI s) (EdF st) a y/\OuF st a o w/\x=y+w
structure Zrn(P cP:Nat)(st:Nat->List Yt):Prop where
 to:∀a x,x∈st a->x.b<0->0<=x.a/\x.a<P
 out:∀a x,x∈st a->x.b<cP
 c0:∀a x,x∈st a->0<=x.c/\x.c<=2305843009213693952
section
variable{P cP s:Nat}{st:Nat->List Yt}
def Z92(ok:Zrn P cP st)(G:s<P):Zgq P (AtI s) (EdF st) :=
 ⟨fun b c h=>by obtain⟨rfl,rfl⟩:=h;exact⟨G,by omega⟩,fun a b w h=>by
  obtain⟨x,h1,H,I,h4⟩:=h;have:=ok.to a x h1 H;have:=ok.c0 a x h1;exact⟨by omega,by omega⟩⟩
def Xh1(st:Nat->List Yt)(k j a b:Nat)(w:Int):Prop:=a=k/\∃i,j<=i/\i<(st k).length/\(Zq (st k) i).b<0/\(Zq (st k) i).a=(b:Int)/\w=(Zq (st k) i).c
structure LeI(P:Nat)(st:Nat->List Yt)(s:Nat)(ord:Zd)(cost:Nat->Int)(A:Vn)(R:Nat->Int)(k j:Nat):Prop where
 d:Zau P (AtI s) (EdF st) ord cost A (fun _=>False) (Xh1 st k j)
 r1:∀o,R o<=Xm/\(R o=Xm\/GoF st s o (R o))
 r2:∀a,a∈ord->∀o w,OuF st a o w->(a=k/\∃i,j<=i/\i<(st k).length/\(Zq (st k) i).b=(o:Int)/\w=(Zq (st k) i).c)\/R o<=cost a+w
def Zey{l:List Yt}{i:Nat}(h:i<l.length):Zq l i∈l:=by rw[Vi h];exact Xi7 h
def Zsf{l:List Yt}{x:Yt}(h:x∈l):∃i,i<l.length/\Zq l i=x:=by
 obtain⟨i,h1,G⟩:=Xju h;exact⟨i,h1,by rw[Vi h1];exact G⟩
def Zrk{x:Int}(h:0<=x:=by omega):Vz x<=x/\0<=Vz x/\Vz x<=Xm/\(Vz x=Xm\/Vz x=x):=by
 unfold Vz Xm
 split
 ·omega
 split<;>omega
def Z9x{x y:Int}(h:y<=x)(hy:y<=Xm)(h0:0<=x):y<=Vz x:=by
 unfold Vz Xm at *
 split
 ·omega
 split<;>omega
def LeI.out{I:Zd}{G:Nat->Int}{A:Vn}{R:Nat->Int}{k j o:Nat}(ok:Zrn P cP st)(d:LeI P st s I G A R k j)(hj:j<(st k).length)(hk:k∈I)(ho:(Zq (st k) j).b=(o:Int)):
  LeI P st s I G A (Uj R o (if G k+(Zq (st k) j).c<R o then G k+(Zq (st k) j).c else R o)) k (j+1):=by
 have X:=Zey hj;have hc:=ok.c0 k _ X;refine⟨d.d.less (fun _ _ _ h=>h.elim) (fun a ha b w he hp=>?_),fun H=>?_,fun a ha H w hw=>?_⟩
 ·obtain⟨rfl,i,q1,O,U,J,q5⟩:=hp;by_cases e:i=j
  ·subst e;omega
  exact .inl ⟨rfl,i,by omega,O,U,J,q5⟩
 ·unfold Uj;by_cases e:H=o
  ·subst e;rw[if_pos rfl];have:=d.r1 H
   split
   ·rename_i h;refine⟨by omega,.inr ?_⟩;rcases d.d.wS k hk with q|q
    ·exfalso;unfold Xm at this;omega
    exact⟨k,G k,_,q,⟨_,X,ho,rfl⟩,rfl⟩
   exact this
  rw[if_neg e];exact d.r1 H
 have mono:∀z,R H<=z->Uj R o (if G k+(Zq (st k) j).c<R o then G k+(Zq (st k) j).c else R o) H<=z:=fun z hz=>by
  unfold Uj
  split
  ·rename_i e;subst e;split<;>omega
  exact hz
 rcases d.r2 a ha H w hw with⟨rfl,i,q1,O,U,J⟩|q
 ·by_cases e:i=j
  ·subst e;right;have:H=o:=by omega
   subst this;subst J;unfold Uj;rw[if_pos rfl]
   split<;>omega
  exact .inl ⟨rfl,i,by omega,O,U,J⟩
 exact .inr (mono _ q)
def LeI.old{H:Zd}{G:Nat->Int}{A:Vn}{R:Nat->Int}{k j b:Nat}(ok:Zrn P cP st)(d:LeI P st s H G A R k j)(hj:j<(st k).length)(hk:k∈H)(I:∀a,a∈H->G a<=G k)
  (ho:(Zq (st k) j).b<0) (hb:(Zq (st k) j).a=(b:Int)) (hd:b∈H):LeI P st s H G A R k (j+1):=by
 have hm:=Zey hj;have hc:=ok.c0 k _ hm;refine⟨d.d.less (fun _ _ _ h=>h.elim) (fun a X y w he hp=>?_),d.r1,fun a X o' w hw=>?_⟩
 ·obtain⟨rfl,i,q1,J,O,U,q5⟩:=hp;by_cases e:i=j
  ·subst e;have:y=b:=by omega
   subst this;have:=I y hd;exact .inr (.inr (.inl ⟨hd,by omega⟩))
  exact .inl ⟨rfl,i,by omega,J,O,U,q5⟩
 rcases d.r2 a X o' w hw with⟨rfl,i,q1,J,O,U⟩|q
 ·by_cases e:i=j
  ·subst e;omega
  exact .inl ⟨rfl,i,by omega,J,O,U⟩
 exact .inr q
def LeI.put{H:Zd}{G:Nat->Int}{A:Vn}{R:Nat->Int}{k j b:Nat}(ok:Zrn P cP st)(d:LeI P st s H G A R k j)(hj:j<(st k).length)(hk:k∈H)(J:∀a,a∈H->G a<=G k)
  (ho:(Zq (st k) j).b<0) (hb:(Zq (st k) j).a=(b:Int)) (hd:b ∉ H):LeI P st s H G (Zad P A b (Vz (G k+(Zq (st k) j).c))) R k (j+1):=by
 have O:=Zey hj;have hc:=ok.c0 k _ O;have bk:=d.d.bS k hk;have lb:=ok.to k _ O ho;obtain⟨h1,h2,h3,h4⟩:=Zrk (x:=G k+(Zq (st k) j).c);have hI:Xm=1152921504606846976:=rfl;obtain⟨p1,p2⟩:=d.d.put (b:=b) (x:=Vz (G k+(Zq (st k) j).c)) (by omega) hd (by
  rcases h4 with q|q
  ·exact .inl q
  rcases d.d.wS k hk with w|w
  ·left;omega
  right;rw[q];exact .step w ⟨_,O,ho,hb,rfl⟩) ⟨h2,h3⟩ (fun a I=>Z9x (by have:=J a I;omega) (by have:=d.d.bS a I;omega) (by omega))
 refine⟨p1.less (fun _ _ _ h=>h.elim) (fun a I y w he hp=>?_),d.r1,fun a I o' w hw=>?_⟩
 ·obtain⟨rfl,i,q1,U,X,q4,q5⟩:=hp;by_cases e:i=j
  ·subst e;have:y=b:=by omega
   subst this;subst q5;right;rcases h4 with q|q
   ·left;omega
   rw[q] at p2 ⊢;exact .inr p2
  exact .inl ⟨rfl,i,by omega,U,X,q4,q5⟩
 rcases d.r2 a I o' w hw with⟨rfl,i,q1,U,X,q4⟩|q
 ·by_cases e:i=j
  ·subst e;omega
  exact .inl ⟨rfl,i,by omega,U,X,q4⟩
 exact .inr q
structure LeO(P:Nat)(st:Nat->List Yt)(s:Nat)(ord:Zd)(cost:Nat->Int)(A:Vn)(R:Nat->Int):Prop where
 d:Zau P (AtI s) (EdF st) ord cost A (fun _=>False) (fun _ _ _=>False)
 r1:∀o,R o<=Xm/\(R o=Xm\/GoF st s o (R o))
 r2:∀a,a∈ord->∀o w,OuF st a o w->R o<=cost a+w
def LeI.fin{H:Zd}{G:Nat->Int}{A:Vn}{R:Nat->Int}{k:Nat}(d:LeI P st s H G A R k (st k).length):LeO P st s H G A R :=
 ⟨d.d.less (fun _ _ _ h=>h.elim) (fun a I b w X hp=>by obtain⟨_,i,J,O,_⟩:=hp;omega),d.r1,fun a I o w U=>by
  rcases d.r2 a I o w U with⟨_,i,J,O,_⟩|q
  ·omega
  exact q⟩
def LeO.pop{H:Zd}{G:Nat->Int}{A:Vn}{R:Nat->Int}(d:LeO P st s H G A R){k:Nat}{c:Int}(m:Zo1 P A k c):
  k ∉ H/\LeI P st s (H++[k]) (Uj G k c) (Zej A k) R k 0/\(∀a,a∈H++[k]->Uj G k c a<=Uj G k c k)/\Uj G k c k=c/\(0<=c/\c<=Xm):=by
 obtain⟨h1,h2,h3,h4,_⟩:=d.d.pop m;have hk:Uj G k c k=c:=by simp[Uj]
 refine⟨h1,⟨h2.less (fun _ _ _ h=>h.elim) (fun a ha b w he hp=>?_),d.r1,fun a ha o w hw=>?_⟩,by rw[hk];exact h3,hk,h4⟩
 ·subst hp;obtain⟨x,J,O,U,q4⟩:=he;obtain⟨i,X,I⟩:=Zsf J;exact .inl ⟨rfl,i,by omega,X,by rw[I];exact O,by rw[I];exact U,by rw[I];exact q4⟩
 rcases List.mem_append.1 ha with q|q
 ·right;have:a≠k:=fun e=>h1 (e ▸ q);unfold Uj;rw[if_neg this];exact d.r2 a q o w hw
 simp at q;subst q;obtain⟨x,J,O,U⟩:=hw;obtain⟨i,X,I⟩:=Zsf J;exact .inl ⟨rfl,i,by omega,X,by rw[I];exact O,by rw[I];exact U⟩
def LeO.start(I:s<P){G:Nat->Int}{R:Nat->Int}(H:∀o,R o=Xm):LeO P st s [] G (Zad P (fun _=>none) s 0) R:=by
 have J:Zau P (AtI s) (EdF st) [] G (fun _=>none) (fun _=>True) (fun _ _ _=>False):=Zau.start (fun _ _ _=>trivial);obtain⟨O,U⟩:=J.put (b:=s) (x:=0) I (by simp) (.inr (.init ⟨rfl,rfl⟩)) (by omega) (fun a h=>by simp at h);exact⟨O.less (fun b c h _=>by obtain⟨rfl,rfl⟩:=h;exact .inr (.inr U)) (fun a h=>by simp at h),fun o=>⟨by rw[H];exact Xkh _,.inl (H o)⟩,fun a h=>by simp at h⟩
def LeO.least(ok:Zrn P cP st)(J:s<P){H:Zd}{G:Nat->Int}{A:Vn}{R:Nat->Int}(d:LeO P st s H G A R)(h0:∀k,k<P->A k=none)(o:Nat):Q0 (GoF st s o) (R o):=by
 refine⟨(d.r1 o).1,fun x hx=>?_,(d.r1 o).2⟩;obtain⟨a,y,w,h1,I,rfl⟩:=hx;obtain⟨x,O,U,rfl⟩:=id I;have X:=ok.c0 a x O;have:=(d.r1 o).1;have hI:Xm=1152921504606846976:=rfl;rcases d.d.walk (Z92 ok J) h1 with q|⟨q,q'⟩|⟨k,z,q,q',_⟩
 ·omega
 ·have:=d.r2 a q o _ I;omega
 rw[h0 k q] at q';cases q'
end
end Go.Rm


namespace Go.Rm
section
variable{Y:Sys}{h h':Zk}
def Zlp{P:Zf}(h:∃n,P n):∃n,P n/\∀m,P m->n<=m:=by
 obtain⟨n,G⟩:=h
 induction n using Nat.strongRecOn with
 |_ n H =>
  by_cases c:∃m,m<n/\P m
  ·obtain⟨m,I,hp⟩:=c;exact H m I hp
  exact⟨n,G,fun m hp=>Nat.le_of_not_lt fun J=>c ⟨m,J,hp⟩⟩
def Zy3(I:Nat->Zc->Zk->Prop)(e:Zc)(h:Zk):Prop:=∃m,I m e h
open Classical in
noncomputable def muI (I:Nat->Zc->Zk->Prop) (e:Zc) (h:Zk):Nat:=if c:∃m,I m e h then Classical.choose (Zlp c) else 0
def Xc0{I:Nat->Zc->Zk->Prop}{e:Zc}{h:Zk}(c:Zy3 I e h):I (muI I e h) e h:=by
 have c':∃m,I m e h:=c;unfold muI;rw[dif_pos c'];exact (Classical.choose_spec (Zlp c')).1
def Xdi{I:Nat->Zc->Zk->Prop}{m:Nat}{e:Zc}{h:Zk}(c:I m e h):muI I e h<=m:=by
 have c':∃m,I m e h:=⟨m,c⟩
 unfold muI;rw[dif_pos c'];exact (Classical.choose_spec (Zlp c')).2 m c
def Ze5{s:Stmt}{e:Zc}{O:Zc->Zk->Prop}{G:Nat->Zc->Zk->Prop}{H:Zc->Zk->Prop}(I:Nat->Zc->Zk->Prop)(J:Nat)(h0:I J e h)
  (R:∀m e h,I m e h->s.wp Y (Zy9 (Zy3 I) (muI I) m) G H e h):Stmt.wp Y (.loop s) O G H e h :=
 Zp (Zy3 I) (muI I) ⟨J,h0⟩ fun e h c=>R _ e h (Xc0 c)
def Zi1{I:Nat->Zc->Zk->Prop}{m m':Nat}{e:Zc}{h:Zk}(c:I m' e h)(G:m'<m):Zy9 (Zy3 I) (muI I) m e h :=
 ⟨⟨m',c⟩,Nat.lt_of_le_of_lt (Xdi c) G⟩
end
end Go.Rm

namespace Go.Rm
section
variable{Y:Sys}{h h':Zk}
def Zec{l:List Bool}{i:Nat}{x:Bool}:(Vo l).set i (.bool x)=Vo (l.set i x):=by simp[Vo,Xko]
def Zmt{l:List Bool}{i j:Nat}{x:Bool}(G:i<l.length):Zbt (l.set i x) j=if j=i then x else Zbt l j:=by
 simp only[Zbt,Xja,Xk5];by_cases e:i=j
 ·subst e;simp[G]
 simp[e,Ne.symm e]
end
def Qz{c:Int}(h0:0<=c:=by omega)(h1:c<=1152921504606846976:=by omega):Vz c=c:=by unfold Vz;rw[ifN,ifN]
structure Z7c(Y:Sys):Prop where
 New:Y.cL 6 Y6
 Put:Y.cL 8 Y8
 Pop:Y.cL 10 Y10
 key:Y.cL 18 Y18
 up:Y.cL 20 Y20
 down:Y.cL 22 Y22
 ahead:Y.cL 25 Y25
 swap:Y.cL 21 Y21
structure WkG(Y:Sys):Prop where
 arc:Y.cL 211 Y211
 vert:Y.cL 244 Y244
 Arcs:Y.cL 209 Y209
 From:Y.cL 193 Y193
 To:Y.cL 192 Y192
 Weight:Y.cL 233 Y233
 Outs:Y.cL 239 Y239
 Turn:Y.cL 231 Y231
 CI:Y.cL 245 Y245
 T:Zhg Y
def Zlj{n:Nat}(h:n<=16384):Zjn (n:Int)=n:=by unfold Zjn;rw[ifN,ifN];simp
end Go.Rm



namespace Go.Rm
structure InJ where
 Bg:Nat
 Bt:Nat
 Bb:Nat
 Bd:Nat
 Bm:Nat
 Bh:Nat
 Bi:Nat
 db:Nat
 hp:Nat
 p:Nat
 n:Nat
 lo:Nat
 t:Int
end Go.Rm

namespace Go.Rm
def Zs6{h:Zk}{K:Ze}{b o:Nat}{f:Fn}{x y:Array cR}:Ef.wp h K (.store 1) [.pointer (some ⟨b,o,none⟩),.func f x y]=Xo h b o (.func f x y) K:=Uh rfl
end Go.Rm
