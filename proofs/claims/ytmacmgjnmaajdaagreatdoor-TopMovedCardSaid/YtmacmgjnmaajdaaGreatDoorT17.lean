import Derived.Test.YtmacmgjnmaajdaaGreatDoorT16
/- Parts. -/
set_option linter.all false
namespace Go.Rm
def Zoa(Y:Sys)(B10 B17 B7:Nat):cR:=.func (.func (Y.fid 441)) #[] #[Zh B10,Zh B17,Zh B7]
section
variable{Y:Sys}{h h':Zk}
def Zrh{h:Zk}{K:Ze}{b o:Nat}{B10 B17 B7:Nat}:Ef.wp h K (.store 1) [.pointer (some ⟨b,o,none⟩),Zoa Y B10 B17 B7]=Xo h b o (Zoa Y B10 B17 B7) K:=Uh rfl
def Ka8(Bc B7 Br B10 M D B17:Nat)(O P Q R S T a:Zj)(s1:Sl)(Ar ins:Zb)(n:Nat)(h0:Zk)(e:Zc)(h':Zk):Prop :=
 ∃(i:Nat)(ss:Sl)(c d f g h k l m o p q r s t u w x y z A B C E F G H I J K L N:Zj),
  e=[O,P,Q,R,S,T,Zh Bc,Zh B7,Zh Br,.map (some M),Zh B10,a,c,d,f,g,h,Zh B17,k,l,m,o,p,q,Zh D,r,s,t,u,w,x,y,z,A,B,C,E,F,G,H,I,J,K,L,s1.v,Zg s1.n,Zg i,N]/\i<=ins.length /\
  Yo h' D #[Zg n,ss.v,.nilFunc]/\Yh h' 1 ss (Zu ((ins.take i).map (Yk 0 Ar)))/\(ss.nl=false->h0.size<=ss.b)/\Mod (fun j=>j=D) h0 h'
def Z1h{Bc B7 Br B10 M B17:Nat}{I s2 sp:Sl}{ins Ar:Zb}{a c d f k l aa ab ac ad ae af ag ah ai aj ak al am an ao ap aq ar au av aw ax ay az aA aB aC aD aE aF aG aH aI aJ aK aL:Zj}
  (bc:Yo h Bc #[I.v,s2.v]) (r1:Zw h I ins) (aM:Yo h B10 #[sp.v]) (mp:Zbv h M (Vq Ar 0)) (br:Yo h Br #[Zg 0,Zi,.nilFunc]) (aN:∀e,e∈ins->e∈Ar) (bi:ins.length<=100000) {R:Ze}
  (hr:∀h' ss,Mod (fun j=>j=Br) h h'->Zw h' ss (ins.map (Yk 0 Ar))->R (.agg #[Zg sp.n,ss.v,Zoa Y B10 B17 B7]) h') :
  Stmt.wp Y Y398.body.rest.rest.rest.rest.rest.rest.rest (Up [.box 8 3 true] R) (fun _ _ _=>False) (Up [.box 8 3 true] R)
   [a,c,d,f,k,l,Zh Bc,Zh B7,Zh Br,.map (some M),Zh B10,aa,ab,ac,ad,ae,af,Zh B17,ag,ah,ai,aj,ak,al,am,an,ao,ap,aq,ar,au,av,aw,ax,ay,az,aA,aB,aC,aD,aE,aF,aG,aH,aI,aJ,aK,aL] h:=by
 have l1:=r1.len;have aO:∀g,Ym.cK Y g (.build #[Zg 0,Zi,.nilFunc] [(0,1),(1,1),(2,1)] [0]) [Zg sp.n]=some (.agg #[Zg sp.n,Zi,.nilFunc]):=fun g=>rfl;simp[Y398,Stmt.rest,aM.hc,aO];refine Zo ?_;intro D hh gD Dh eh;replace Dh:Yo hh D #[Zg 0,Zi,.nilFunc]:=Dh;have lD:=Dh.lt;simp;refine Zy (vs:=#[Zg sp.n,Zi,.nilFunc]) Dh ?_ rfl rfl (by intro v hv;simp at hv;rcases hv with rfl|rfl|rfl<;>rfl);intro hj Dj mj;have zj:=mj.size;have ej:Ext h hj:=Mod.cG eh mj gD;simp[(bc.cC ej).hc];refine Zp (Ka8 Bc B7 Br B10 M D B17 a c d f k l aa I Ar ins sp.n hj) (fun e _=>ins.length-Zx e 46) ⟨0,Sl.nil,_,_,_,_,_,_,_,_,_,_,_,_,_,_,_,_,_,_,_,_,_,_,_,_,_,_,_,_,_,_,_,rfl,by omega,Dj,Yh.nil,fun h=>(by cases h),Mod.refl _⟩ ?_;rintro e hk ⟨q,ss,aT,aU,aV,aW,aX,aY,aZ,a0,a1,a2,a3,a4,a5,a6,a7,a8,a9,ba,bb,bd,be,bg,bh,bj,bk,bm,bn,bo,bp,bq,bs,rfl,hq,Dk,os,ns,mk⟩;have aP:=os.1;simp at aP;have zk:=mk.size;by_cases cq:q<ins.length
 ·have J:(q:Int)<I.n:=by omega
  have bu:q<I.n:=by omega
  have w1:=wrapS (i:=q);have bv:I.nl=false:=by
   cases aQ:I.nl with
   |false=>rfl
   |true=>have:=(r1.ok.nil aQ).1;omega
  have bw:=Vk r1 (fun e=>by rw[e] at cq;simp at cq);have vv:=((r1.cC ej).cD mk (fun _=>by omega)).val q cq;have hm:=Ya.2 ⟨q,cq,rfl⟩;have lM:=mp.lt;have O:=Zk6 (Y:=Y) ((mp.cC ej).cD mk (by omega)) (x:=Zm ins q) (z:=Zg 0);rw[Q7,if_pos (aN _ hm)] at O;simp at O;simp[J,Zl r1.ok,vv,Dk.hc,O];refine Xg ?_;intro b hl gl Bl el;simp;refine Wa rfl (os.cF el) Bl ?_;intro G hm om nm U hs;have Dm:=U.cM (Dk.cC el) (fun e=>by have:=ns e.1;omega);simp;refine stB Dm (by simp) ?_;intro hn Dn mn;simp at Dn;have zl:=el.size;have zm:=U.size;have on:Yh hn 1 G (Zu ((ins.take (q+1)).map (Yk 0 Ar))):=by
   have:=om.cD mn (fun X e=>by
    rcases hs with⟨x,y⟩|⟨x,y⟩
    ·have:=ns (by rw[<-y];exact X);omega
    omega)
   have ht:Zu ((ins.take (q+1)).map (Yk 0 Ar))=Zu ((ins.take q).map (Yk 0 Ar))++[Zg (Yk 0 Ar (Zm ins q))]:=by
    rw[Xjc cq,Xjj];simp only[Zu,Xjj,Xjx,Xkv];rw[show Zm ins q=ins[q] by simp[Zm,cq]]
   rw[ht];exact this
  have aR:G.nl=false->hj.size<=G.b:=fun X=>by
   rcases hs with⟨x,y⟩|⟨x,y⟩
   ·have:=ns (by rw[<-y];exact X);omega
   omega
  have e1:Mod (fun j=>j=D) hj hn:=by
   refine⟨by have:=mn.size;omega,fun i hi H=>?_⟩;rw[mn.get i (by omega) H,U.get i (by omega) (fun e=>by have:=ns e.1;omega),el.get i (by omega) (fun h=>h),mk.get i hi H]
  simp[w1];exact nx ⟨q+1,G,_,_,_,_,_,_,_,_,_,_,_,_,_,_,_,_,_,_,_,_,_,_,_,_,_,_,_,_,_,_,_,rfl,by omega,Dn,on,aR,e1⟩
 have J:¬(q:Int)<I.n:=by omega
 have:q=ins.length:=by omega
 subst this;have aS:∀g,Ym.cK Y g (.mkf 441 0) [Zh B10,Zh B17,Zh B7]=some (Zoa Y B10 B17 B7):=fun g=>rfl;have bx:=br.lt;simp[J,aS];rw[Zrh];refine stB Dk (by simp) ?_;intro hl Dl ml;simp at Dl;have zl:=ml.size;have Brl:=ml.cM (mk.cM (br.cC ej) (by omega)) (by omega);simp[Yf Dl];refine Zy (vs:=#[Zg sp.n,ss.v,Zoa Y B10 B17 B7]) Brl ?_ rfl rfl (by intro v hv;simp at hv;rcases hv with rfl|rfl|rfl<;>rfl);intro hm Bm U;simp;refine Vf rfl Bm rfl ?_;have e2:Mod (fun j=>j=Br) h hm:=by
  refine⟨by have:=U.size;omega,fun i hi H=>?_⟩;rw[U.get i (by omega) H,ml.get i (by omega) (by omega),mk.get i (by omega) (by omega),ej.get i (by omega) (fun h=>h)]
 rw[Xji (Xi4 _)] at os;exact hr hm ss e2 ((os.cD ml (fun hn=>by have:=ns hn;omega)).cD U (fun hn=>by have:=ns hn;omega)).cE
def Xfy(x:Yt):cR × cR × cR:=Xf x
structure KaP(h0 h:Zk)(B17 bl n i:Nat)(P:List (Sl × List Yt))(f:Nat->Zb)(stp:Int->Yt):Prop where
 lp:P.length=i
 ex:Ext h0 h
 b17:Yo h B17 #[(Sl.at bl n n).v]
 rw:∀p,p∈P->Zbd h p.1 p.2
 dP:∀p,p∈P->p.2≠[]->h0.size<=p.1.b/\p.1.b≠bl/\p.1.b≠B17
 row:∀k,k<i->Zmb P k=(f k).map stp
 lB:h0.size<=B17/\h0.size<=bl/\B17≠bl
def KaP.cC{h0:Zk}{B17 bl n i:Nat}{P:List (Sl × List Yt)}{f:Nat->Zb}{G:Int->Yt}(k:KaP h0 h B17 bl n i P f G)(e:Ext h h'):KaP h0 h' B17 bl n i P f G :=
 ⟨k.lp,k.ex.trans e,k.b17.cC e,fun p hp=>(k.rw p hp).cC e,k.dP,k.row,k.lB⟩
def Ka4(Bc B7 Br B10 M B17 bl n:Nat)(N O Q R S T:Zj)(sG:Sl)(f:Nat->Zb)(stp:Int->Yt)(h0:Zk)(e:Zc)(h':Zk):Prop :=
 ∃(i:Nat)(P:List (Sl × List Yt))(a b c d g h j k l m o q r s t u w x y z A B C D E F G H I J K L:Zj),
  e=[N,O,Q,R,S,T,.pointer (some ⟨Bc,0,none⟩),.pointer (some ⟨B7,0,none⟩),.pointer (some ⟨Br,0,none⟩),.map (some M),.pointer (some ⟨B10,0,none⟩),sG.v,a,b,c,d,g,.pointer (some ⟨B17,0,none⟩),h,j,k,l,m,o,q,r,s,t,u,w,x,y,z,A,sG.v,.int .i64 sG.n,.int .i64 i,B,C,D,E,F,G,H,I,J,K,L]/\i<=n /\
  KaP h0 h' B17 bl n i P f stp/\Yh h' 1 (Sl.at bl n n) ((P.map fun p=>p.1.v)++List.replicate (n-i) (.slice none 0 0))
def Ka6(Bc B7 Br B10 M B17 bl n i:Nat)(K L N O Q R:Zj)(sG b:Sl)(f:Nat->Zb)(stp:Int->Yt)(h0:Zk)(e:Zc)(h':Zk):Prop :=
 ∃(j:Nat)(P:List (Sl × List Yt))(sT:Sl)(a c d g h k l m o q r s t u w x y z A B C D E F G H I J:Zj),
  e=[K,L,N,O,Q,R,.pointer (some ⟨Bc,0,none⟩),.pointer (some ⟨B7,0,none⟩),.pointer (some ⟨Br,0,none⟩),.map (some M),.pointer (some ⟨B10,0,none⟩),sG.v,a,c,d,g,h,.pointer (some ⟨B17,0,none⟩),.int .i64 i,k,l,m,o,q,r,s,t,u,w,x,y,z,A,B,sG.v,.int .i64 sG.n,.int .i64 i,C,b.v,.int .i64 b.n,.int .i64 j,D,E,F,G,H,I,J]/\j<=(f i).length /\
  KaP h0 h' B17 bl n i P f stp/\Yh h' 1 (Sl.at bl n n) ((P.map fun p=>p.1.v)++sT.v::List.replicate (n-i-1) (.slice none 0 0))/\Yh h' 3 sT (Yb ((((f i).take j).map stp).map Xf))/\(sT.nl=false->h0.size<=sT.b/\sT.b≠bl/\sT.b≠B17/\∀p,p∈P->p.2≠[]->p.1.b≠sT.b)
def Z02{K:Ze}{n:Nat}{m:Int}(I:n<=1000000)(G:m=n)(H:∀(b:Nat)(h':Zk),h.size<=b->Yh h' 1 (Sl.at b n n) (List.replicate n (.slice none 0 0))->Ext h h'->b<h'.size->K (.slice (some ⟨b,0,none⟩) n n) h'):
  Ef.wp h K (.mkslice 1 24 #[.slice none 0 0]) [.int .i64 m,.int .i64 m]:=by
 subst G;rw[Va];refine⟨by omega,by omega,by omega,by omega,fun t=>?_⟩;simp only[Xi8,Xjd,Vm];exact H h.size _ (Xi4 _) ⟨by simp,.inr ⟨rfl,rfl,rfl,by simp,by simp;omega,_,Yo.new,by simp,by simp⟩⟩ Mod.push (by simp)
structure Z65(Y:Sys):Prop where
 G:WkG Y
 S:Zou Y
 K:Zv6 Y
 A:Zdv Y
 byKids:Y.cL 398 Y398
 next:Y.cL 441 Y441
set_option maxHeartbeats 2000000 in
def Z21(X:Z65 Y){p:Nat}{N:Zs}{S:Zf}(g:Xi h p N S)(ok:Yl N){Bc B7 Br B10 M n:Nat}{s1 s2 sp U:Sl}{ins cP Ar:Zb}{f:Nat->Zb}{a b:Nat->Sl}{v1 v2 v3 v4 v5 ap aq ar au av aw ax ay az aA aB aC aD aE aF aG aH aI aJ aK aL aM aN aO aP aQ aR aS aT aU aV aW aX aY aZ a0:Zj}
  (bc:Yo h Bc #[s1.v,s2.v]) (r1:Zw h s1 ins) (r2:Zw h s2 cP) (a1:Yo h B10 #[sp.v]) (mp:Zbv h M (Vq Ar 0)) (br:Yo h Br #[.int .i64 0,.slice none 0 0,.nilFunc]) (a2:∀e,e∈ins->e∈Ar) (bi:ins.length<=100000) (bo:cP.length<=100000) (ro:Zcb cP)
  (a3:U.ok) (nG:U.n=n) (bn:n<=4096) (a4:∀i,i<n->rd h U.b (U.o+i * 2) 2=some [(a i).v,(b i).v]) (a5:∀i,i<n->Zw h (b i) (f i)) (lf:∀i,i<n->(f i).length<=16384) (hf:∀i m,i<n->m∈f i->Yk 0 cP m<0->m∈Ar) {R:Ze}
  (hr:∀(h':Zk)(ss:Sl)(B17:Nat)(sl:Sl),Mod (fun j=>j=Br) h h'->Zw h' ss (ins.map (Yk 0 Ar))->Yo h' B17 #[sl.v]->sl.ok->sl.n=n->(∀i,i<n->∃u:Sl,hc h' sl.b (sl.o+i)=some u.v/\Zbd h' u ((f i).map (Wb N cP Ar)))->R (.agg #[.int .i64 sp.n,ss.v,Zoa Y B10 B17 B7]) h') :
  Stmt.wp Y Y398.body.rest.rest.rest.rest.rest (Up [.box 8 3 true] R) (fun _ _ _=>False) (Up [.box 8 3 true] R)
   [.pointer (some ⟨p,0,none⟩),v1,v2,v3,v4,v5,.pointer (some ⟨Bc,0,none⟩),.pointer (some ⟨B7,0,none⟩),.pointer (some ⟨Br,0,none⟩),.map (some M),.pointer (some ⟨B10,0,none⟩),U.v,ap,aq,ar,au,av,aw,ax,ay,az,aA,aB,aC,aD,aE,aF,aG,aH,aI,aJ,aK,aL,aM,aN,aO,aP,aQ,aR,aS,aT,aU,aV,aW,aX,aY,aZ,a0] h:=by
 have l2:=r2.len;simp[Y398,Stmt.rest,-Ye];refine Z02 (n:=n) (by omega) (by omega) ?_;intro bl ha bp ol ea bq;simp[-Ye];refine Zo ?_;intro B17 hb gB Bb eb;replace Bb:Yo hb B17 #[.slice none 0 0]:=Bb;simp[-Ye];refine stB Bb (by simp) ?_;intro hd Bd md;simp at Bd;have xd:Ext h hd:=ea.trans (Mod.cG eb md gB);have bs:=br.lt;have a6:=ol.cF eb |>.cD md (fun _=>by simp only[Sl.at_b];omega);simp[-Ye];rw[Ye];simp[-Ye];rw[Ye];simp[-Ye];refine Zp (Ka4 Bc B7 Br B10 M B17 bl n (.pointer (some ⟨p,0,none⟩)) v1 v2 v3 v4 v5 U f (Wb N cP Ar) h) (fun e _=>n-Zx e 36) ⟨0,[],_,_,_,_,_,_,_,_,_,_,_,_,_,_,_,_,_,_,_,_,_,_,_,_,_,_,_,_,_,_,_,_,rfl,by omega,⟨rfl,xd,Bd,fun p hp=>by simp at hp,fun p hp=>by simp at hp,fun k hk=>by omega,by omega⟩,by simpa using a6⟩ ?_;rintro e he ⟨i,P,bu,bv,bw,bx,bz,bA,bB,bC,bD,bE,bF,bG,bH,bJ,bK,bL,bM,bN,bO,bP,bQ,bR,bS,bT,bU,bV,bW,bX,bY,bZ,b0,b1,rfl,hi,I,oL⟩;have lP:=I.lp;have zx:=I.ex.size;by_cases c:i<n;rotate_left
 ·have c':¬(i:Int)<U.n:=by omega
  have:i=n:=by omega
  subst this;simp[c',-Ye];rw[Ye];refine Z1h (bc.cC I.ex) (r1.cC I.ex) (a1.cC I.ex) (mp.cC I.ex) (br.cC I.ex) a2 bi ?_;intro h' ss m' rs;have lb:=I.lB;refine hr h' ss B17 (Sl.at bl i i) ((I.ex.mono fun _ _ h=>h.elim).trans m') rs (m'.cM I.b17 (by omega)) ⟨fun h=>(by cases h),Xi4 _,.inl rfl⟩ rfl (fun k hk=>?_);obtain⟨pp,hp,a7,a8⟩:=Zsl (P:=P) (k:=k);have a9:=oL.cD m' (fun _=>by simp only[Sl.at_b];omega);refine⟨pp.1,a9.cell (by rw[Xjm (by simp;omega),Xl5,a7];rfl),?_⟩;rw[<-I.row k hk,<-a8];exact (I.rw pp hp).cD m' (fun J=>by have:=I.dP pp hp J;omega)
 have c':(i:Int)<U.n:=by omega
 have w1:=wrapS (i:=i);have af:=a4 i c;have b2:U.b<h.size:=by
  refine Xka fun q=>?_;have:rd h U.b (U.o+i * 2) 2=none:=by
   simp[Rm.rd,hc,Xk0 (Nat.not_lt.1 q)]
  rw[this] at af
  cases af
 have ad:=Mod.rd I.ex af (fun h=>h);have rb:=a5 i c;have b3:=rb.len;have b4:=lf i c;simp[c',Zl a3,ad];refine Zo ?_;intro D ba gD Df ef;replace Df:Yo ba D #[.slice none 0 0,.slice none 0 0]:=Df;simp;refine Zy (vs:=#[(a i).v,(b i).v]) Df ?_;intro hg Dg mg;have eg:Ext he hg:=Mod.cG ef mg gD;simp[Dg.hc];have kg:=I.cC eg;have og:=oL.cF eg;have ae:List.replicate (n-i) (Value.slice none 0 0)=Sl.nil.v::List.replicate (n-i-1) (Value.slice none 0 0):=by
  rw[show n-i=(n-i-1)+1 by omega,Xlu];rfl
 rw[ae] at og;refine Zp (Ka6 Bc B7 Br B10 M B17 bl n i (.pointer (some ⟨p,0,none⟩)) v1 v2 v3 v4 v5 U (b i) f (Wb N cP Ar) h) (fun e _=>(f i).length-Zx e 40) ⟨0,P,Sl.nil,_,_,_,_,_,_,_,_,_,_,_,_,_,_,_,_,_,_,_,_,_,_,_,_,_,_,_,_,rfl,by omega,kg,og,Yh.nil,fun h=>(by cases h)⟩ ?_;clear og kg mg Dg ef Df gD ad lP zx ae eg oL I hi;clear P;rintro e hh ⟨j,P,sT,b5,b6,b7,b8,b9,ca,cb,cc,cd,cf,cg,ch,ci,ck,cl,cm,cn,co,cp,cq,cr,ct,cu,cv,cw,cy,cz,cA,rfl,hj,I,oL,oT,dT⟩;have lP:=I.lp;have zx:=I.ex.size;have lB:=I.lB;have bb:=rb.cC I.ex;by_cases cj:j<(f i).length;rotate_left
 ·have ag:¬(j:Int)<(b i).n:=by omega
  rw[Xji (by omega)] at oT;have rT:=oT.row3;have bd:(f i).map (Wb N cP Ar)≠[]->sT.nl=false:=fun J=>by
   cases be:sT.nl with
   |false=>rfl
   |true =>
    have:=(oT.ok.nil be).1;have:=rT.len;exact absurd (List.length_eq_zero_iff.1 (by omega)) J
  simp[ag,w1];refine nx ⟨i+1,P++[(sT,(f i).map (Wb N cP Ar))],_,_,_,_,_,_,_,_,_,_,_,_,_,_,_,_,_,_,_,_,_,_,_,_,_,_,_,_,_,_,_,_,rfl,by omega,⟨by simp[lP],I.ex,I.b17,fun q hq=>?_,fun q hq J=>?_,fun k hk=>?_,lB⟩,?_⟩
  ·rcases List.mem_append.1 hq with w|w
   ·exact I.rw q w
   simp at w;subst w;exact rT
  ·rcases List.mem_append.1 hq with w|w
   ·exact I.dP q w J
   simp at w;subst w;have:=dT (bd J);exact⟨this.1,this.2.1,this.2.2.1⟩
  ·rcases Xi6 k i with w|w
   ·rw[Zol (by omega)];exact I.row k w
   have:k=P.length:=by omega
   rw[this,Zn6,lP]
  have:n-(i+1)=n-i-1:=by omega
  rw[this];simpa using oL
 have ag:(j:Int)<(b i).n:=by omega
 have wj:=wrapS (i:=j);have vm:=bb.val j cj;have ao:=Ya.2 ⟨j,cj,rfl⟩;generalize hm:Zm (f i) j=m at vm ao;have ht:((f i).take (j+1)).map (Wb N cP Ar)=((f i).take j).map (Wb N cP Ar)++[Wb N cP Ar m]:=by
  rw[Xjc cj,Xjj,<-hm];simp[Zm,cj]
 have nT:=oT.n3;simp at nT;simp[ag,Zl rb.ok,vm,(bc.cC I.ex).hc];refine Zbr X.S (r2.cC I.ex) (by omega) ro ?_;have bg:∀g (x:Int),Ym.cK Y g (.build #[.int .i64 0,.int .i64 0,.int .i64 0] [(0,1),(1,1),(2,1)] [1]) [.int .i64 x]=some (.agg #[.int .i64 0,.int .i64 x,.int .i64 0]):=fun g x=>rfl;simp[bg];refine Zo ?_;intro E hk gE Ek ek;replace Ek:Yo hk E #[.int .i64 0,.int .i64 0,.int .i64 0]:=Ek;simp;refine Zy (vs:=#[.int .i64 0,.int .i64 (Yk 0 cP m),.int .i64 0]) Ek ?_;intro hl El ml;have el:Ext hh hl:=Mod.cG ek ml gE;simp[El.hc];by_cases d:Yk 0 cP m<0
 ·have bh:=hf i m c ao d;have bj:Yk 0 cP m = -1:=Zd3 (fun h=>by have:=Qs (a:=m) (l:=cP) (k:=0);have:=this.2 h;omega);have ah:=Zil (Y:=Y) ((mp.cC I.ex).cC el) (x:=m) (z:=.int .i64 0);rw[Q7,if_pos bh] at ah;simp at ah;have xl:=I.ex.trans el;simp[d,ah];refine X8 X.G.Weight X.G.arc (g.cC xl) ?_;simp;refine stB El (by simp) ?_;intro cB E2 m2;simp at E2;simp;refine stB E2 (by simp) ?_;intro bk E3 m3;simp at E3;have x1:Ext hh bk:=Mod.cG ek (ml.trans (m2.trans m3)) gE;have hst:Xfy (Wb N cP Ar m)=(.int .i64 (Yk 0 Ar m),.int .i64 (Yk 0 cP m),.int .i64 (Zr N m)):=by unfold Wb;rw[if_pos d,bj];rfl
  have kx:=I.cC x1;have ox:=oL.cF x1;have ai:=oT.cF x1;have aa:∀g,Ym.cK Y g (.idxa 1) [.slice (some ⟨bl,0,none⟩) n n,.int .i64 i]=some (.pointer (some ⟨bl,i,none⟩)):=fun g=>by
   have:=Wz (Y:=Y) (h:=g) (b:=bl) (sz:=1) (show n<=9223372036854775807 by omega) c (Xi4 n);simpa using this
  have ab:∀g,Yh g 1 (Sl.at bl n n) ((P.map fun p=>p.1.v)++sT.v::List.replicate (n-i-1) (.slice none 0 0))->hc g bl i=some sT.v:=fun g o=>by
   have:=o.cell (i:=i) (v:=sT.v) (by rw[Xjv (by simp;omega)];simp[lP]);simpa using this
  have aj:=ab _ ox;simp[kx.b17.hc,aa,aj,Yf E3];refine Qm ?_;intro q hq gq Bq eq;have O:=kx.cC eq;have oq:=ox.cF eq;have ak:=ab _ oq;simp[O.b17.hc,ak];refine Ub rfl (ai.cF eq) Bq ?_;intro H al or mr hs;have b17r:=mr.cM O.b17 (fun e=>by have:=dT e.1;omega);have am:=oq.cD mr (fun _ e=>by have:=dT e.1;simp only[Sl.at_b] at e;omega);simp[b17r.hc,aa];refine Zfc am (k:=i) ?_;intro bm ot mt;have zq:=O.ex.size;have zr:=mr.size;have e3:Yb (List.map Xf (List.map (Wb N cP Ar) (List.take j (f i)))++[((.int .i64 (Yk 0 Ar m),.int .i64 (Yk 0 cP m),.int .i64 (Zr N m)))])=Yb (((((f i).take (j+1)).map (Wb N cP Ar))).map Xf):=by rw[ht,Xjj,<-hst];rfl
  simp only[Xkj] at e3;have an:Yh al 3 H (Yb ((((f i).take (j+1)).map (Wb N cP Ar)).map Xf)):=by
   rw[<-hst] at or;rw[ht,Xjj];exact or
  have ac:H.nl=false->H.b≠bl/\h.size<=H.b/\H.b≠B17/\∀p,p∈P->p.2≠[]->p.1.b≠H.b:=fun J=>by
   rcases hs with⟨x,y⟩|⟨x,y⟩
   ·have:=dT (by rw[<-y];exact J);rw[x];exact⟨this.2.1,this.1,this.2.2.1,this.2.2.2⟩
   have:=O.b17.lt;have:=oq.lt rfl;simp only[Sl.at_b] at this;exact⟨by omega,by omega,by omega,fun p hp J=>by have:=Zf0 (O.rw p hp) J;omega⟩
  have Vw:((P.map fun p=>p.1.v)++sT.v::List.replicate (n-i-1) (Value.slice none 0 0)).set i H.v=(P.map fun p=>p.1.v)++H.v::List.replicate (n-i-1) (Value.slice none 0 0):=by
   rw[Xmg _ _ (by simp;omega)];simp[lP]
  rw[Vw] at ot;simp[wj];refine nx ⟨j+1,P,H,_,_,_,_,_,_,_,_,_,_,_,_,_,_,_,_,_,_,_,_,_,_,_,_,_,_,_,_,rfl,by omega,⟨lP,Mod.cC (Mod.cC O.ex mr (fun x hx=>by have:=dT hx.1;omega)) mt (fun x hx=>by omega),mt.cM b17r (by omega),fun p hp=>((O.rw p hp).cD mr (fun J e=>by have:=(dT e.1).2.2.2 p hp J;omega)).cD mt (fun J e=>by have:=I.dP p hp J;omega),I.dP,I.row,lB⟩,ot,an.cD mt (fun J e=>by have:=ac J;omega),fun J=>by have:=ac J;exact⟨this.2.1,this.1,this.2.2.1,this.2.2.2⟩⟩
 simp only[if_neg d];have hst:Xfy (Wb N cP Ar m)=(.int .i64 0,.int .i64 (Yk 0 cP m),.int .i64 0):=by unfold Wb;rw[if_neg d];rfl
 have kx:=I.cC el;have ox:=oL.cF el;have ai:=oT.cF el;have aa:∀g,Ym.cK Y g (.idxa 1) [.slice (some ⟨bl,0,none⟩) n n,.int .i64 i]=some (.pointer (some ⟨bl,i,none⟩)):=fun g=>by
  have:=Wz (Y:=Y) (h:=g) (b:=bl) (sz:=1) (show n<=9223372036854775807 by omega) c (Xi4 n);simpa using this
 have ab:∀g,Yh g 1 (Sl.at bl n n) ((P.map fun p=>p.1.v)++sT.v::List.replicate (n-i-1) (.slice none 0 0))->hc g bl i=some sT.v:=fun g o=>by
  have:=o.cell (i:=i) (v:=sT.v) (by rw[Xjv (by simp;omega)];simp[lP]);simpa using this
 have aj:=ab _ ox;simp[kx.b17.hc,aa,aj,Yf El];refine Qm ?_;intro q hq gq Bq eq;have O:=kx.cC eq;have oq:=ox.cF eq;have ak:=ab _ oq;simp[O.b17.hc,ak];refine Ub rfl (ai.cF eq) Bq ?_;intro H al or mr hs;have b17r:=mr.cM O.b17 (fun e=>by have:=dT e.1;omega);have am:=oq.cD mr (fun _ e=>by have:=dT e.1;simp only[Sl.at_b] at e;omega);simp[b17r.hc,aa];refine Zfc am (k:=i) ?_;intro bm ot mt;have zq:=O.ex.size;have zr:=mr.size;have e3:Yb (List.map Xf (List.map (Wb N cP Ar) (List.take j (f i)))++[((.int .i64 0,.int .i64 (Yk 0 cP m),.int .i64 0))])=Yb (((((f i).take (j+1)).map (Wb N cP Ar))).map Xf):=by rw[ht,Xjj,<-hst];rfl
 simp only[Xkj] at e3;have an:Yh al 3 H (Yb ((((f i).take (j+1)).map (Wb N cP Ar)).map Xf)):=by
  rw[<-hst] at or;rw[ht,Xjj];exact or
 have ac:H.nl=false->H.b≠bl/\h.size<=H.b/\H.b≠B17/\∀p,p∈P->p.2≠[]->p.1.b≠H.b:=fun J=>by
  rcases hs with⟨x,y⟩|⟨x,y⟩
  ·have:=dT (by rw[<-y];exact J);rw[x];exact⟨this.2.1,this.1,this.2.2.1,this.2.2.2⟩
  have:=O.b17.lt;have:=oq.lt rfl;simp only[Sl.at_b] at this;exact⟨by omega,by omega,by omega,fun p hp J=>by have:=Zf0 (O.rw p hp) J;omega⟩
 have Vw:((P.map fun p=>p.1.v)++sT.v::List.replicate (n-i-1) (Value.slice none 0 0)).set i H.v=(P.map fun p=>p.1.v)++H.v::List.replicate (n-i-1) (Value.slice none 0 0):=by
  rw[Xmg _ _ (by simp;omega)];simp[lP]
 rw[Vw] at ot;simp[wj];refine nx ⟨j+1,P,H,_,_,_,_,_,_,_,_,_,_,_,_,_,_,_,_,_,_,_,_,_,_,_,_,_,_,_,_,rfl,by omega,⟨lP,Mod.cC (Mod.cC O.ex mr (fun x hx=>by have:=dT hx.1;omega)) mt (fun x hx=>by omega),mt.cM b17r (by omega),fun p hp=>((O.rw p hp).cD mr (fun J e=>by have:=(dT e.1).2.2.2 p hp J;omega)).cD mt (fun J e=>by have:=I.dP p hp J;omega),I.dP,I.row,lB⟩,ot,an.cD mt (fun J e=>by have:=ac J;omega),fun J=>by have:=ac J;exact⟨this.2.1,this.1,this.2.2.1,this.2.2.2⟩⟩
end
section
variable{N:Zs}{L:Za}{k:Nat}{ks:Zb}
def gI(N:Zs)(L:Za)(k:Nat)(ks:Zb)(x:Bool)(u:Nat):Zb:=Zv N L k x (Zm ks u).toNat
def spF(N:Zs)(L:Za)(k:Nat)(ks:Zb)(u:Nat):List (Int × Nat):=(List.range (gI N L k ks false u).length).map fun j=>(enV N L k (Zm ks u).toNat (j:Nat) 0,u)
def ArF(N:Zs)(L:Za)(k:Nat)(ks:Zb)(u:Nat):Zb:=(List.range u).flatMap (gI N L k ks false)
def SpF(N:Zs)(L:Za)(k:Nat)(ks:Zb)(u:Nat):List (Int × Nat):=(List.range u).flatMap (spF N L k ks)
def Zm3{u:Nat}:ArF N L k ks (u+1)=ArF N L k ks u++gI N L k ks false u:=by simp[ArF,Xj1]
def Zme{u:Nat}:SpF N L k ks (u+1)=SpF N L k ks u++spF N L k ks u:=by simp[SpF,Xj1]
def ArP(N:Zs)(L:Za)(k:Nat)(ks:Zb)(u j:Nat):Zb:=ArF N L k ks u++(gI N L k ks false u).take j
def SpP(N:Zs)(L:Za)(k:Nat)(ks:Zb)(u j:Nat):List (Int × Nat):=SpF N L k ks u++(spF N L k ks u).take j
def Zu4{u:Nat}:ArP N L k ks u 0=ArF N L k ks u:=by simp[ArP]
def Z7g{u:Nat}:SpP N L k ks u 0=SpF N L k ks u:=by simp[SpP]
def Zp1{u:Nat}:ArP N L k ks u (gI N L k ks false u).length=ArF N L k ks (u+1):=by rw[Zm3];simp[ArP]
def Zkg{u:Nat}:(spF N L k ks u).length=(gI N L k ks false u).length:=by simp[spF]
def Z9i{u:Nat}:SpP N L k ks u (gI N L k ks false u).length=SpF N L k ks (u+1):=by
 rw[Zme];unfold SpP;rw[Xji (by rw[Zkg];exact Xi4 _)]
def Zhn{u j:Nat}(G:j<(gI N L k ks false u).length):ArP N L k ks u (j+1)=ArP N L k ks u j++[Zm (gI N L k ks false u) j]:=by
 unfold ArP;rw[Xjc G,Xje,show Zm (gI N L k ks false u) j=(gI N L k ks false u)[j] by simp[Zm,G]]
def Z3e{u j:Nat}(G:j<(gI N L k ks false u).length):SpP N L k ks u (j+1)=SpP N L k ks u j++[(enV N L k (Zm ks u).toNat (j:Nat) 0,u)]:=by
 unfold SpP;rw[Xjc (by rw[Zkg];exact G),Xje];simp[spF]
def Za2:∀{u:Nat},(SpF N L k ks u).length=(ArF N L k ks u).length:=by
 intro u
 induction u with
 |zero=>rfl
 |succ u G=>rw[Zme,Zm3,List.length_append,List.length_append,G,Zkg]
def Zy4{u j:Nat}:(SpP N L k ks u j).length=(ArP N L k ks u j).length:=by
 unfold SpP ArP;rw[List.length_append,List.length_append,Za2,Xjw,Xjw,Zkg]
def Zpx{u:Nat}{x:Int}:x∈ArF N L k ks u↔∃i,i<u/\x∈gI N L k ks false i:=by simp[ArF]
def Xf4:∀{u p:Nat},p<(ArF N L k ks u).length->∃i j,i<u/\j<(gI N L k ks false i).length/\Zm (ArF N L k ks u) p=Zm (gI N L k ks false i) j/\(SpF N L k ks u)[p]? = some (enV N L k (Zm ks i).toNat (j:Nat) 0,i):=by
 intro u
 induction u with
 |zero=>intro p h;simp[ArF] at h
 |succ u G =>
  intro p h;rw[Zm3] at h ⊢;rw[Zme];rcases Xi6 p (ArF N L k ks u).length with q|q
  ·obtain⟨i,j,h1,h2,h3,h4⟩:=G q;exact⟨i,j,by omega,h2,by rw[Ux q];exact h3,by rw[Xjm (by rw[Za2];exact q)];exact h4⟩
  have H:=h;rw[List.length_append] at H;refine⟨u,p-(ArF N L k ks u).length,by omega,by omega,?_,?_⟩
  ·simp[Zm,Xjv q]
  rw[Xjv (by rw[Za2];exact q),Za2];simp[spF,show p-(ArF N L k ks u).length<(gI N L k ks false u).length by omega]
def Z7t(G:Yq N.vs.length L)(ok:Yl N)(H:k<L.length)(rk:Zf8 ks)(R:∀i,i<ks.length->∃q:Nat,Zm ks i=q){u j:Nat}(hu:u<ks.length)(I:j<(gI N L k ks false u).length):Zm (gI N L k ks false u) j ∉ ArP N L k ks u j:=by
 intro h;have h0:=Ya.2 ⟨j,I,rfl⟩;rcases List.mem_append.1 h with q|q
 ·obtain⟨i,J,O⟩:=Zpx.1 q;obtain⟨a,e,la⟩:=Vl G ok H h0;unfold gI at h0 O;rw[show Zm (Zv N L k false (Zm ks u).toNat) j=(a:Int) from e] at O;rw[show Zm (Zv N L k false (Zm ks u).toNat) j=(a:Int) from e] at h0;have U:=((Zbm G ok H).1 h0).2.2;have e2:=((Zbm G ok H).1 O).2.2;obtain⟨q1,X⟩:=R u hu;obtain⟨q2,r2⟩:=R i (by omega);rw[X] at U;rw[r2] at e2;simp at U e2;have:=rk i u (by omega) hu (by rw[X,r2];omega);omega
 obtain⟨i,J,e⟩:=Ya.1 q;simp at J;rw[show Zm ((gI N L k ks false u).take j) i=Zm (gI N L k ks false u) i by simp[Zm,show i<j by omega]] at e;have:=Xt.once i j (by unfold gI at J I;omega) I e;omega
def Xd8(H:Yq N.vs.length L)(ok:Yl N)(I:k<L.length)(J:Zf8 ks)(O:∀i,i<ks.length->∃q:Nat,Zm ks i=q):∀{u:Nat},u<=ks.length->Zf8 (ArF N L k ks u):=by
 intro u
 induction u with
 |zero=>intro _ i j R;simp[ArF] at R
 |succ u U =>
  intro hu;have:∀j,j<=(gI N L k ks false u).length->Zf8 (ArP N L k ks u j):=by
   intro j
   induction j with
   |zero=>intro _;rw[Zu4];exact U (by omega)
   |succ j G =>
    intro X;rw[Zhn (by omega)];exact (G (by omega)).snoc (Z7t H ok I J O (by omega) (by omega))
  rw[<-Zp1];exact this _ (Xi4 _)
end
def spV(x:Int × Nat):cR × cR:=(Zg x.1,Zg x.2)
structure KyS(h:Zk)(z0 B10 M:Nat)(sp sG:Sl)(Ar:Zb)(Sp:List (Int × Nat))(ga gb:Nat->Sl)(m:Nat)(ia io:Nat->Zb):Prop where
 b10:Yo h B10 #[sp.v]
 mp:Zbv h M (Vq Ar 0)
 oS:Yh h 2 sp (Vy (Sp.map spV))
 oG:Yh h 2 sG (Vy ((List.range m).map fun u=>((ga u).v,(gb u).v)))
 oa:∀u,u<m->Yh h 1 (ga u) (Zu (ia u))
 ob:∀u,u<m->Yh h 1 (gb u) (Zu (io u))
 lz:B10<z0/\M<z0/\B10≠M/\z0<=h.size
 dS:sp.nl=false->z0<=sp.b
 dG:sG.nl=false->z0<=sG.b/\(sp.nl=false->sG.b≠sp.b)
 dA:∀u,u<m->(ga u).nl=false->z0<=(ga u).b/\(sp.nl=false->(ga u).b≠sp.b)/\(sG.nl=false->(ga u).b≠sG.b)
 dB:∀u,u<m->(gb u).nl=false->z0<=(gb u).b/\(sp.nl=false->(gb u).b≠sp.b)/\(sG.nl=false->(gb u).b≠sG.b)
section
variable{h h' h1 h2 h3 h4:Zk}{z0 B10 M m:Nat}{sp sG:Sl}{Ar:Zb}{Sp:List (Int × Nat)}{ga gb:Nat->Sl}{ia io:Nat->Zb}
def KyS.cC(k:KyS h z0 B10 M sp sG Ar Sp ga gb m ia io)(e:Ext h h'):KyS h' z0 B10 M sp sG Ar Sp ga gb m ia io :=
 ⟨k.b10.cC e,k.mp.cC e,k.oS.cF e,k.oG.cF e,fun u hu=>(k.oa u hu).cF e,fun u hu=>(k.ob u hu).cF e,by have:=k.lz;have:=e.size;omega,k.dS,k.dG,k.dA,k.dB⟩
def KyS.addG(k:KyS h z0 B10 M sp sG Ar Sp ga gb m ia io)(e:Ext h h1){a b H:Sl}(oa:Yh h1 1 a (Zu (ia m)))(ob:Yh h1 1 b (Zu (io m)))(fa:a.nl=true\/h.size<=a.b)(fb:b.nl=true\/h.size<=b.b)
  (I:Mod (fun j=>sG.nl=false/\j=sG.b) h1 h2) (o:Yh h2 2 H (Vy ((List.range m).map fun u=>((ga u).v,(gb u).v))++[a.v,b.v])) (J:(H.b=sG.b/\H.nl=sG.nl)\/(h1.size<=H.b/\H.nl=false)) :
  KyS h2 z0 B10 M sp H Ar Sp (fun u=>if u=m then a else ga u) (fun u=>if u=m then b else gb u) (m+1) ia io:=by
 have lz:=k.lz;have ze:=e.size;have zm:=I.size;have dG:=k.dG;have R:=k.cC e;have U:a.nl=false->h.size<=a.b:=fun G=>fa.resolve_left (by rw[G];simp);have X:b.nl=false->h.size<=b.b:=fun G=>fb.resolve_left (by rw[G];simp);have lG:sG.nl=false->sG.b<h.size:=k.oG.lt;have lS:sp.nl=false->sp.b<h.size:=k.oS.lt;have hG:H.nl=false->(H.b=sG.b/\sG.nl=false)\/h1.size<=H.b:=fun G=>by
  rcases J with⟨x,y⟩|⟨x,y⟩
  ·exact .inl ⟨x,by rw[<-y];exact G⟩
  exact .inr x
 refine⟨I.cM R.b10 (fun q=>by have:=dG q.1;omega),R.mp.cD I (fun q=>by have:=dG q.1;omega),R.oS.cD I (fun G q=>by have:=(dG q.1).2 G;omega),?_,fun u hu=>?_,fun u hu=>?_,by omega,k.dS,fun G=>?_,fun u hu G=>?_,fun u hu G=>?_⟩
 ·have e1:(List.range (m+1)).map (fun u=>(Sl.v (if u=m then a else ga u),Sl.v (if u=m then b else gb u)))=(List.range m).map (fun u=>((ga u).v,(gb u).v))++[(a.v,b.v)]:=by
   rw[Xj1,Xjj]
   congr 1
   ·apply Xlp;intro u hu;have:u≠m:=by simp at hu;omega
    simp[this]
   simp
  rw[e1];simpa[Vy] using o
 ·by_cases q:u=m
  ·subst q;simp only[if_true];exact oa.cD I (fun G e=>by have:=U G;have:=lG e.1;omega)
  simp only[if_neg q];exact (R.oa u (by omega)).cD I (fun G e=>by have:=(k.dA u (by omega) G).2.2 e.1;omega)
 ·by_cases q:u=m
  ·subst q;simp only[if_true];exact ob.cD I (fun G e=>by have:=X G;have:=lG e.1;omega)
  simp only[if_neg q];exact (R.ob u (by omega)).cD I (fun G e=>by have:=(k.dB u (by omega) G).2.2 e.1;omega)
 ·rcases hG G with⟨x,y⟩|x
  ·rw[x];exact dG y
  exact⟨by omega,fun J=>by have:=lS J;omega⟩
 ·by_cases q:u=m
  ·subst q;simp only[if_true] at G ⊢;have:=U G;have la:=oa.lt G;refine⟨by omega,fun J=>by have:=lS J;omega,fun O=>?_⟩;rcases hG O with⟨x,y⟩|x
   ·have:=lG y;omega
   omega
  simp only[if_neg q] at G ⊢;have d:=k.dA u (by omega) G;have lu:=(k.oa u (by omega)).lt G;refine⟨d.1,d.2.1,fun O=>?_⟩;rcases hG O with⟨x,y⟩|x
  ·rw[x];exact d.2.2 y
  omega
 by_cases q:u=m
 ·subst q;simp only[if_true] at G ⊢;have:=X G;have la:=ob.lt G;refine⟨by omega,fun J=>by have:=lS J;omega,fun O=>?_⟩;rcases hG O with⟨x,y⟩|x
  ·have:=lG y;omega
  omega
 simp only[if_neg q] at G ⊢;have d:=k.dB u (by omega) G;have lu:=(k.ob u (by omega)).lt G;refine⟨d.1,d.2.1,fun O=>?_⟩;rcases hG O with⟨x,y⟩|x
 ·rw[x];exact d.2.2 y
 omega
def KyS.addS(k:KyS h z0 B10 M sp sG Ar Sp ga gb m ia io){x:Int}{s:Int × Nat}{H:Sl}(R:Mod (fun j=>j=M) h h1)(X:Zbv h1 M (Vq (Ar++[x]) 0))(e:Ext h1 h2)
  (J:Mod (fun j=>sp.nl=false/\j=sp.b) h2 h3) (o:Yh h3 2 H (Vy (Sp.map spV)++[(spV s).1,(spV s).2])) (hs:(H.b=sp.b/\H.nl=sp.nl)\/(h2.size<=H.b/\H.nl=false)) (I:Mod (fun j=>j=B10) h3 h4) (b4:Yo h4 B10 #[H.v]) :
  KyS h4 z0 B10 M H sG (Ar++[x]) (Sp++[s]) ga gb m ia io:=by
 have lz:=k.lz;have z1:=R.size;have ze:=e.size;have zm:=J.size;have z4:=I.size;have U:=k.dS;have lG:sG.nl=false->sG.b<h.size:=k.oG.lt;have O:H.nl=false->(H.b=sp.b/\sp.nl=false)\/h2.size<=H.b:=fun G=>by
  rcases hs with⟨x,y⟩|⟨x,y⟩
  ·exact .inl ⟨x,by rw[<-y];exact G⟩
  exact .inr x
 refine⟨b4,((X.cC e).cD J (fun q=>by have:=U q.1;omega)).cD I (by omega),?_,?_,fun u hu=>?_,fun u hu=>?_,by omega,fun G=>?_,fun G=>?_,fun u hu G=>?_,fun u hu G=>?_⟩
 ·have:=o.cD I (fun G q=>by
   rcases O G with⟨x,y⟩|x
   ·have:=U y;omega
   omega)
  simpa[Vy] using this
 ·exact (((k.oG.cD R (fun G q=>by have:=k.dG G;omega)).cF e).cD J (fun G q=>by have:=(k.dG G).2 q.1;omega)).cD I (fun G q=>by have:=k.dG G;omega)
 ·exact ((((k.oa u hu).cD R (fun G q=>by have:=k.dA u hu G;omega)).cF e).cD J (fun G q=>by have:=(k.dA u hu G).2.1 q.1;omega)).cD I (fun G q=>by have:=k.dA u hu G;omega)
 ·exact ((((k.ob u hu).cD R (fun G q=>by have:=k.dB u hu G;omega)).cF e).cD J (fun G q=>by have:=(k.dB u hu G).2.1 q.1;omega)).cD I (fun G q=>by have:=k.dB u hu G;omega)
 ·rcases O G with⟨x,y⟩|x
  ·rw[x];exact U y
  omega
 ·have d:=k.dG G;have:=lG G;refine⟨d.1,fun h=>?_⟩;rcases O h with⟨x,y⟩|x
  ·rw[x];exact d.2 y
  omega
 ·have d:=k.dA u hu G;have:=(k.oa u hu).lt G;refine⟨d.1,fun h=>?_,d.2.2⟩;rcases O h with⟨x,y⟩|x
  ·rw[x];exact d.2.1 y
  omega
 have d:=k.dB u hu G;have:=(k.ob u hu).lt G;refine⟨d.1,fun h=>?_,d.2.2⟩;rcases O h with⟨x,y⟩|x
 ·rw[x];exact d.2.1 y
 omega
end
def Zjp {N : Zs} {L : Za} {i j : Nat} (h : i ≤ j) : Zz N L i ≤ Zz N L j := by
  induction j with
  | zero => have : i = 0 := by omega
            subst this; exact Xi4 _
  | succ j G =>
    by_cases q : i = j + 1
    · subst q; exact Xi4 _
    have := G (by omega); simp only [Zz]; omega
def Zei {N : Zs} {L : Za} {k i j : Nat} (h : i ≤ j) : Yn N L k i ≤ Yn N L k j := by
  induction j with
  | zero => have : i = 0 := by omega
            subst this; exact Xi4 _
  | succ j G =>
    by_cases q : i = j + 1
    · subst q; exact Xi4 _
    have := G (by omega); simp only [Yn]; omega
def Zuq{N:Zs}{L:Za}{k q:Nat}(G:k<L.length)(hq:q<Yv L k):Zz N L k+Yn N L k q+Zbj N L k q<=Zz N L L.length:=by
 have h1:=Zei (N:=N) (L:=L) (k:=k) (i:=q+1) (j:=Yv L k) hq;have H:=Zjp (N:=N) (L:=L) (i:=k+1) (j:=L.length) G;simp only[Zz,Yn] at h1 H;omega
def Zz5{N:Zs}{L:Za}{k q j:Nat}(G:k<L.length)(hq:q<Yv L k)(H:j<(Zv N L k false q).length)(J:0<(Zv N L k true q).length):0<=enV N L k q j 0/\enV N L k q j 0+(Zv N L k true q).length<=Zz N L L.length:=by
 have h1:=Zuq (N:=N) G hq;have I:=Xkm (Zv N L k true q).length (show j+1<=(Zv N L k false q).length from H);rw[Xj0,Xmf] at I;unfold enV Zbj at *
 rw[if_pos ⟨by omega,by omega,by omega,by omega⟩];have e:((j:Int) * ((Zv N L k true q).length:Int))=((j * (Zv N L k true q).length:Nat):Int):=by simp
 rw[e];omega
def Zke{n:Nat}{L:Za}(H:Yq n L){k:Nat}(I:k+1<L.length){a b:Nat}(G:a<n)(hb:b<n)(e:Zm (Yc L k) a=Zm (Yc L k) b):Zm (Yc L (k+1)) a=Zm (Yc L (k+1)) b:=by
 have h:=(Qp (H.lv (k+1) I)).2.2.2 (by omega);rw[show k+1-1=k from rfl] at h;have h1:=h a G b hb (by omega);have J:=h b hb a G (by omega);omega
section
variable{Y:Sys}{h h':Zk}
def Zh9{K:Ze}{H I x y:Zj}(hx:x.oneCell'=true)(hy:y.oneCell'=true)(J:∀(b:Nat)(h':Zk),h.size<=b->Yo h' b #[x,y]->Ext h h'->K (.slice (some ⟨b,0,none⟩) 1 1) h'):
  Ef.wp h K (.bslice 1 2 #[H,I] [0]) [.agg #[x,y]]:=by
 have e:Instr.fill (fun i=>some (i * 2,2)) (Xv #[H,I] (1 * 2)) ([0].zip [.agg #[x,y]])=some #[x,y]:=by
  simp[Instr.fill,Xv];apply Xkp
  ·simp
  intro i h1 G
  match i,G with
  |0,_=>simp
  |1,_=>simp
  |i+2,G=>exact absurd G (by simp)
 simp only[Ef.wp,e];exact fun t=>J _ _ (Xi4 _) Yo.new Mod.push
def Zgt{K:Ze}{bytes b:Nat}{zero:Array cR}{s:Sl}{cs:Zc}{x y:Zj}(hz:zero.size=2)(o:Yh h 2 s cs)(hb:Yo h b #[x,y])(hx:x.oneCell'=true)(hy:y.oneCell'=true)(J:∀(G:Sl)(h':Zk),Yh h' 2 G (cs++[x,y])->G.n=s.n+1->Mod (fun j=>s.nl=false/\j=s.b) h h'->((G.b=s.b/\G.nl=s.nl)\/(h.size<=G.b/\G.nl=false))->K G.v h')(H:(s.n+1) * bytes<=140737488355328:=by omega)(I:s.n+1<=9223372036854775807:=by omega) :
  Ef.wp h K (.append 2 bytes zero) [s.v,.slice (some ⟨b,0,none⟩) 1 1]:=by
 have O:Wi h 2 1 (.slice (some ⟨b,0,none⟩) 1 1)=some [x,y]:=by
  rw[Zik];exact Yf hb rfl
 refine Ul o (m:=1) (nw:=[x,y]) rfl O rfl (fun v hv=>?_) hz H I (fun G h' R U X hs'=>J G h' R U X hs');simp only[Xli,Xmc,or_false] at hv;rcases hv with rfl|rfl<;>assumption
def Kb0(Bc B7 Br B10 M:Nat)(R S T U V W:Zj)(t:Sl)(N:Zs)(L:Za)(k:Nat)(ks:Zb)(hz:Zk)(e:Zc)(h':Zk):Prop :=
 ∃(i:Nat)(sp sG:Sl)(ga gb:Nat->Sl)(a b c d f g h l m o p q r s u w x y z A B C D E F G H I J K O P Q:Zj),
  e=[R,S,T,U,V,W,.pointer (some ⟨Bc,0,none⟩),.pointer (some ⟨B7,0,none⟩),.pointer (some ⟨Br,0,none⟩),.map (some M),.pointer (some ⟨B10,0,none⟩),sG.v,a,b,c,d,f,g,h,l,m,o,p,q,r,s,t.v,.int .i64 t.n,.int .i64 i,u,w,x,y,z,A,B,C,D,E,F,G,H,I,J,K,O,P,Q]/\i<=ks.length /\
  KyS h' hz.size B10 M sp sG (ArF N L k ks i) (SpF N L k ks i) ga gb i (gI N L k ks false) (gI N L k ks true)/\Mod (fun j=>j=M\/j=B10) hz h'
def Kb2(Bc B7 Br B10 M i q:Nat)(O P Q R S T:Zj)(t sG a:Sl)(ga gb:Nat->Sl)(N:Zs)(L:Za)(k:Nat)(ks:Zb)(hz:Zk)(e:Zc)(h':Zk):Prop :=
 ∃(j:Nat)(sp:Sl)(b c d f g h l m o p r s u w x y z A B C D E F G H I J K:Zj),
  e=[O,P,Q,R,S,T,.pointer (some ⟨Bc,0,none⟩),.pointer (some ⟨B7,0,none⟩),.pointer (some ⟨Br,0,none⟩),.map (some M),.pointer (some ⟨B10,0,none⟩),sG.v,.int .i64 i,.int .i64 q,b,c,d,f,g,h,l,m,o,p,r,s,t.v,.int .i64 t.n,.int .i64 i,u,a.v,.int .i64 a.n,.int .i64 j,w,x,y,z,A,B,C,D,E,F,G,H,I,J,K]/\j<=(gI N L k ks false i).length /\
  KyS h' hz.size B10 M sp sG (ArP N L k ks i j) (SpP N L k ks i j) ga gb (i+1) (gI N L k ks false) (gI N L k ks true)/\Mod (fun j=>j=M\/j=B10) hz h'
set_option maxHeartbeats 2000000 in
def Zup(X:Z65 Y){p op:Nat}{N:Zs}{S:Zf}{L:Za}(g:Xi h p N S)(v:Uq h op N L)(ok:Yl N)(H:Yq N.vs.length L){k c:Nat}(hk:k+1<L.length)(hc:c<Yv L (k+1)){s1 s2 sc:Sl}{cN:Zb}
  (r1:Zw h s1 (Zv N L (k+1) false c)) (r2:Zw h s2 (Zv N L (k+1) true c)) (rc:Zw h sc cN) (lc:cN.length=Zz N L L.length) (c0:∀i,i<cN.length->0<=Zm cN i/\Zm cN i<=Xm) {R:Ze}
  (hr:∀h' Ar fi ls st ss fv,Ext h h'->Ztp N L cN (Zv N L (k+1) true c) Ar k c fi ls st->Zw h' ss ((Zv N L (k+1) false c).map (Yk 0 Ar))->Zma Y h' fv Ar.length st->fv.oneCell'=true->(∀e,e∈Zv N L (k+1) false c->e∈Ar)->Ar.length<=16384->R (.agg #[.int .i64 Ar.length,ss.v,fv]) h') :
  Zt Y 398 [.pointer (some ⟨p,0,none⟩),.pointer (some ⟨op,0,none⟩),.int .i64 (((k+1:Nat):Int)+1),.int .i64 c,.agg #[s1.v,s2.v],sc.v] h R:=by
 have ba:=ok.ba;have bL:=H.bL;have l1:=r1.len;have l2:=r2.len;refine .o X.byKids ?_;simp[Y398,Yw.wp,-Ye,-Int.natCast_add];refine Zo ?_;intro Bc ha aT Bca ea;replace Bca:Yo ha Bc #[s1.v,s2.v]:=Bca;simp[-Ye,-Int.natCast_add];refine Zo ?_;intro B7 hb aU B7b eb;replace B7b:Yo hb B7 #[sc.v]:=B7b;simp[-Ye,-Int.natCast_add];refine Zo ?_;intro Br hd aV Brd ed;replace Brd:Yo hd Br #[.int .i64 0,.slice none 0 0,.nilFunc]:=Brd;simp[-Ye,-Int.natCast_add];rw[Ye];simp[-Ye,-Int.natCast_add];refine Zfu ?_;intro M he gM mM ee;have lM:=mM.lt;simp[-Ye,-Int.natCast_add];rw[Ye];simp[-Ye,-Int.natCast_add];refine Zo ?_;intro B10 hf aS B10f ef;replace B10f:Yo hf B10 #[.slice none 0 0]:=B10f;have aW:=B10f.lt;have xf:Ext h hf:=(((ea.trans eb).trans ed).trans ee).trans ef;simp[-Ye,-Int.natCast_add];rw[Ye];simp[-Ye,-Int.natCast_add];rw[Ye];simp[-Ye,-Int.natCast_add];refine Znh X.K (v.cC xf) H hk (by omega) hc ?_;intro hz t ks ez ot aC aX ah aa;rw[show k+1-1=k from rfl] at aa;have xz:=xf.trans ez;have zz:=ez.size;have aY:=ot.lt aC;have O:=Bca.lt;have lb:=B7b.lt;have ld:=Brd.lt;have kn:∀i,i<ks.length->∃q:Nat,Zm ks i=q/\q<Yv L k:=fun i hi=>by
  obtain⟨w,h1,I,h3⟩:=(aa _).1 (Ya.2 ⟨i,hi,rfl⟩);obtain⟨q,e,lq⟩:=(Xq H (show k<L.length by omega)).2.2.2 w h1;exact⟨q,by rw[<-h3];exact e,lq⟩
 have aD:ks.length<=4096:=by
  have:=Zdp ah.once kn;have:=(Xq H (show k<L.length by omega)).2.2.1;omega
 have an:∀{u:Nat},u<=ks.length->Zf8 (ArF N L k ks u):=Xd8 H ok (by omega) ah.once (fun i hi=>by obtain⟨q,e,_⟩:=kn i hi;exact⟨q,e⟩);have ao:∀{u:Nat},∀x,x∈ArF N L k ks u->∃a:Nat,x=a/\a<N.as.length:=fun{u} x hx=>by
  obtain⟨i,_,hm⟩:=Zpx.1 hx;exact Vl H ok (by omega) hm
 have ag:∀{u:Nat},u<=ks.length->(ArF N L k ks u).length<=N.as.length:=fun{u} hu=>Zdp (an hu) (fun i hi=>by
  obtain⟨a,e,O⟩:=ao _ (Ya.2 ⟨i,hi,rfl⟩);exact⟨a,e,O⟩)
 have aZ:=ot.cE.len;have k0:KyS hz hz.size B10 M Sl.nil Sl.nil (ArF N L k ks 0) (SpF N L k ks 0) (fun _=>Sl.nil) (fun _=>Sl.nil) 0 (gI N L k ks false) (gI N L k ks true) :=
  ⟨B10f.cC ez,(mM.cC ef).cC ez,Yh.nil,Yh.nil,fun u hu=>by omega,fun u hu=>by omega,by omega,fun h=>(by cases h),fun h=>(by cases h),fun u hu=>by omega,fun u hu=>by omega⟩
 simp[-Ye,-Int.natCast_add];rw[Ye];simp[-Ye,-Int.natCast_add];refine Zp (Kb0 Bc B7 Br B10 M (.pointer (some ⟨p,0,none⟩)) (.pointer (some ⟨op,0,none⟩)) (.int .i64 (((k+1:Nat):Int)+1)) (.int .i64 c) (.agg #[s1.v,s2.v]) sc.v t N L k ks hz) (fun e _=>ks.length-Zx e 28) ⟨0,Sl.nil,Sl.nil,_,_,_,_,_,_,_,_,_,_,_,_,_,_,_,_,_,_,_,_,_,_,_,_,_,_,_,_,_,_,_,_,_,_,_,rfl,by omega,k0,Mod.refl _⟩ ?_;rintro e hg ⟨i,sp,sG,ga,gb,a0,a1,a2,a3,a4,a5,a6,a7,a8,a9,bb,bc,bd,be,bg,bh,bi,bj,bk,bm,bn,bo,bp,bq,br,bs,bu,bv,bw,bx,bz,bA,bC,rfl,hi,G,mg⟩;have xg:Ext h hg:=Mod.cC xz mg (fun j hj=>by omega);have zg:=mg.size;have nG:=G.oG.1;simp[U9] at nG;by_cases ci:i<ks.length;rotate_left
 ·have ai:¬(i:Int)<t.n:=by omega
  have:i=ks.length:=by omega
  subst this;simp[ai,-Ye,-Int.natCast_add];rw[Ye];have oF:=an (u:=ks.length) (Xi4 _);have ab:∀x:Int,x∈ArF N L k ks ks.length↔∃a:Nat,x=a/\a<N.as.length/\Zm (Yc L k) (Vs N a)≠Zm (Yc L k) (Ys N a)/\Zm (Yc L (k+1)) (Ys N a)=c:=by
   intro x;rw[Zpx];constructor
   ·rintro⟨u,hu,hm⟩;obtain⟨a,e,O⟩:=Vl H ok (by omega) hm;subst e;obtain⟨_,h1,I⟩:=(Zbm H ok).1 hm;obtain⟨q,U,lq⟩:=kn u hu;obtain⟨w,w1,w2,w3⟩:=(aa _).1 (Ya.2 ⟨u,hu,rfl⟩);have hv:=(ok.arcs a O).2;simp[Yi] at hv;refine⟨a,rfl,O,h1,?_⟩;rw[<-w2];exact Zke H (by omega) (by unfold Ys;omega) w1 (by rw[I,w3,U];rfl)
   rintro⟨a,rfl,O,h1,I⟩;have hv:=(ok.arcs a O).2;simp[Yi] at hv;obtain⟨u,lu,eu⟩:=Ya.1 ((aa (Zm (Yc L k) (Ys N a))).2 ⟨Ys N a,by unfold Ys;omega,I,rfl⟩);obtain⟨q,U,lq⟩:=kn u lu;exact⟨u,lu,(Zbm H ok).2 ⟨O,h1,by rw[<-eu,U];rfl⟩⟩
  have ap:∀e,e∈Zv N L (k+1) false c->e∈ArF N L k ks ks.length:=fun e he=>by
   obtain⟨a,ea,O⟩:=Vl H ok hk he;subst ea;obtain⟨_,h1,I⟩:=(Zbm H ok hk).1 he;have hv:=ok.arcs a O;simp[Yi] at hv;exact (ab _).2 ⟨a,rfl,O,fun e=>h1 (Zke H (by omega) (by unfold Vs;omega) (by unfold Ys;omega) e),I⟩
  have li:=Wg (N:=N) (L:=L) (k:=k+1) (c:=c) (x:=false);have lo:=Wg (N:=N) (L:=L) (k:=k+1) (c:=c) (x:=true);have lA:=ag (u:=ks.length) (Xi4 _);have nS:=G.oS.1;simp[U9] at nS;rw[Za2] at nS;have ac:∀{b:Nat}{cs:Array cR},Yo hz b cs->b≠M->b≠B10->Yo hg b cs:=fun hb h1 I=>mg.cM hb (fun e=>by rcases e with e|e;exact h1 e;exact I e);refine Z21 X (g.cC xg) ok (n:=ks.length) (a:=ga) (b:=gb) (f:=gI N L k ks true) (ac ((((((Bca.cC eb).cC ed).cC ee).cC ef)).cC ez) (by omega) (by omega)) (r1.cC xg) (r2.cC xg) G.b10 G.mp (ac (((Brd.cC ee).cC ef).cC ez) (by omega) (by omega)) ap (by omega) (by omega) Xt G.oG.ok (by omega) aD (fun u hu=>?_) (fun u hu=>(G.ob u hu).cE) (fun u hu=>by
   have:=Wg (N:=N) (L:=L) (k:=k) (c:=(Zm ks u).toNat) (x:=true);unfold gI;omega) (fun u m hu hm hp=>?_) ?_
  ·obtain⟨g1,g2⟩:=Zgy (l:=(List.range ks.length).map fun u=>((ga u).v,(gb u).v)) (i:=u) (by simpa using hu);simp at g1 g2;have:=Zbg (h:=hg) (b:=sG.b) (l:=[(ga u).v,(gb u).v]) (o:=sG.o+u * 2) (fun i v hv=>by
    match i,hv with
    |0,hv=>simp at hv;subst hv;exact G.oG.cell g1
    |1,hv=>simp at hv;subst hv;exact G.oG.cell g2
    |i+2,hv=>simp at hv)
   exact this
  ·obtain⟨a,e,O⟩:=Vl H ok (by omega) hm;subst e;obtain⟨_,h1,I⟩:=(U2 H ok (by omega)).1 hm;obtain⟨w,w1,w2,w3⟩:=(aa _).1 (Ya.2 ⟨u,hu,rfl⟩);obtain⟨q,U,lq⟩:=kn u hu;have hv:=ok.arcs a O;simp[Yi] at hv;have aq:Zm (Yc L (k+1)) (Vs N a)=c:=by
    rw[<-w2];exact Zke H (by omega) (by unfold Vs;omega) w1 (by rw[I,w3,U];rfl)
   refine (ab _).2 ⟨a,rfl,O,h1,Xka fun q=>?_⟩;have aE:(a:Int)∈Zv N L (k+1) true c:=(U2 H ok hk).2 ⟨O,fun e=>q (by rw[<-e,aq]),aq⟩;have:=Qs (a:=(a:Int)) (l:=Zv N L (k+1) true c) (k:=0);have:=this.2 aE;omega
  intro hw ss B17 sl mw aF bB aG nl ar;have xw:Ext h hw:=Mod.cC xg mw (fun j hj=>by omega)
  let fi:Nat->Int:=fun u=>((SpF N L k ks ks.length).getD u (0,0)).1
  let J:Nat->Nat:=fun u=>((SpF N L k ks ks.length).getD u (0,0)).2
  have aj:∀u,u<(ArF N L k ks ks.length).length->∃i j,i<ks.length/\j<(gI N L k ks false i).length/\Zm (ArF N L k ks ks.length) u=Zm (gI N L k ks false i) j/\fi u=enV N L k (Zm ks i).toNat (j:Nat) 0/\J u=i:=fun u hu=>by
   obtain⟨i,j,h1,I,h3,h4⟩:=Xf4 hu;exact⟨i,j,h1,I,h3,by simp[fi,h4],by simp[J,h4]⟩
  let ad:Nat->List Yt:=fun i=>(gI N L k ks true i).map (Wb N (Zv N L (k+1) true c) (ArF N L k ks ks.length))
  let st:Nat->List Yt:=fun u=>if u<(ArF N L k ks ks.length).length then stK cN (fi u).toNat (ad (J u)) else []
  have ae:∀u (a:Nat),u<(ArF N L k ks ks.length).length->Zm (ArF N L k ks ks.length) u=a->∃j,j<(gI N L k ks false (J u)).length/\Zm (gI N L k ks false (J u)) j=(a:Int)/\fi u=enV N L k (Zm ks (J u)).toNat (j:Nat) 0/\Zm (Yc L k) (Ys N a)=Zm ks (J u)/\J u<ks.length:=fun u a hu ha=>by
   obtain⟨i,j,h1,I,h3,h4,h5⟩:=aj u hu;obtain⟨q,U,lq⟩:=kn i h1;have hm:(a:Int)∈gI N L k ks false i:=Ya.2 ⟨j,I,by rw[<-h3,ha]⟩;have:=((Zbm H ok).1 hm).2.2;subst h5;exact⟨j,I,by rw[<-h3,ha],h4,by rw[this,U];rfl,h1⟩
  have KD:Ztp N L cN (Zv N L (k+1) true c) (ArF N L k ks ks.length) k c fi (fun u=>ad (J u)) st:=by
   refine⟨oF,ab,fun u a hu ha=>?_,fun u a hu ha=>?_,fun u=>rfl⟩
   ·obtain⟨j,j1,j2,j3,j4,_⟩:=ae u a hu ha;rw[j3,j4]
    congr 1
    have:=Xr (l:=Zv N L k false (Zm ks (J u)).toNat) Xt.once j1;rw[show Zm (Zv N L k false (Zm ks (J u)).toNat) j=(a:Int) from j2] at this;exact this.symm
   obtain⟨j,j1,j2,j3,j4,_⟩:=ae u a hu ha;show (gI N L k ks true (J u)).map _=_;rw[j4];rfl
  have ak:=G.oS.cD mw (fun hn e=>by have:=G.dS hn;omega);have KH:Xbq hw B10 B17 B7 (ArF N L k ks ks.length).length cN fi J ad ks.length:=by
   refine⟨⟨sp,sl,sc,mw.cM G.b10 (by omega),bB,mw.cM (ac ((((B7b.cC ed).cC ee).cC ef).cC ez) (by omega) (by omega)) (by omega),rc.cC xw,ak.ok,by omega,aG,nl,fun u hu=>?_,ar⟩,fun u hu=>?_,fun i hi=>?_,fun u hu aH=>?_,?_,c0,fun i x hi hx=>?_⟩
   ·obtain⟨i,j,h1,I,h3,h4⟩:=Xf4 hu;have au:u<((SpF N L k ks ks.length).map spV).length:=by rw[Xj6,Za2];exact hu
    obtain⟨g1,g2⟩:=Zgy (l:=(SpF N L k ks ks.length).map spV) (i:=u) au;rw[Xkd] at g1 g2;have he:(SpF N L k ks ks.length)[u]'(by rw[Za2];exact hu)=(enV N L k (Zm ks i).toNat (j:Nat) 0,i):=by
     have:=h4;rw[Xj3 (by rw[Za2];exact hu)] at this;simpa using this
    rw[he] at g1 g2;have f1:fi u=enV N L k (Zm ks i).toNat (j:Nat) 0:=by simp[fi,h4]
    have f2:J u=i:=by simp[J,h4]
    rw[f1,f2];exact⟨ak.cell g1,ak.cell g2⟩
   ·obtain⟨i,j,h1,I,h3,h4,h5⟩:=aj u hu;omega
   ·have:=Wg (N:=N) (L:=L) (k:=k) (c:=(Zm ks i).toNat) (x:=true);show ((gI N L k ks true i).map _).length<=_;rw[Xj6];unfold gI;omega
   ·obtain⟨i,j,h1,I,h3,h4,h5⟩:=aj u hu;obtain⟨q,U,lq⟩:=kn i h1;have hl:(ad (J u)).length=(Zv N L k true q).length:=by
     show ((gI N L k ks true (J u)).map _).length=_;rw[Xj6,h5];unfold gI;rw[U];rfl
    have av:0<(Zv N L k true q).length:=by rw[<-hl];exact List.length_pos_iff.2 aH
    rw[hl,h4,U,lc];have hj:j<(Zv N L k false q).length:=by unfold gI at I;rw[U] at I;exact I
    exact Zz5 (show k<L.length by omega) lq hj av
   ·have:=Q9 ok H (k:=L.length) (Xi4 _);rw[lc];omega
   obtain⟨m,hm,rfl⟩:=List.mem_map.1 hx;obtain⟨a,e,O⟩:=Vl H ok (by omega) hm;subst e;exact Zzd ok
  have:=hr hw (ArF N L k ks ks.length) fi (fun u=>ad (J u)) st ss _ xw KD aF (Z0z X.next KH (fun u hu=>by show (if _ then _ else _)=_;rw[if_pos hu])) rfl ap (by omega);rw[show (ArF N L k ks ks.length).length=sp.n by omega] at this;exact this
 have ai:(i:Int)<t.n:=by omega
 have wi:=wrapS (i:=i);have wk:IntKind.i64.wrap (((k+1:Nat):Int)+1-1)=(k:Int)+1:=by rw[Zn];omega
 have aw:IntKind.i64.wrap ((k+1:Nat):Int)=(k:Int)+1:=by rw[Zn];omega
 obtain⟨q,U,lq⟩:=kn i ci;have vi:=((ot.cD mg (fun _=>by omega)).cE).val i ci;rw[U] at vi;have ax:∀x,gI N L k ks x i=Zv N L k x q:=fun x=>by unfold gI;rw[U];rfl
 simp[ai,Zl ot.ok,vi,aw,-Int.natCast_add];refine W9 X.A (v.cC xg) ok H (by omega) lq ?_;intro hh a b eh oa ob fa fb;rw[<-ax] at oa ob;have zh:=eh.size;simp[-Int.natCast_add];refine Zo ?_;intro D hj gD Dj ej;replace Dj:Yo hj D #[.slice none 0 0,.slice none 0 0]:=Dj;have lD:=Dj.lt;simp[-Int.natCast_add];refine Zy (vs:=#[a.v,b.v]) Dj ?_;intro aI Dk mk;have ek:Ext hh aI:=Mod.cG ej mk gD;simp[Yf Dk,-Int.natCast_add];refine Zh9 (by simp) (by simp) ?_;intro E hl gE El el;have xl:Ext hg hl:=(eh.trans ek).trans el;simp[-Int.natCast_add];refine Zgt rfl (G.oG.cF xl) El (by simp) (by simp) ?_;intro ay hm om nm mm hs;have zl:=xl.size;have kz:=G.lz;have kj:=ej.size;have kk:=mk.size;have kl:=el.size;have km:=G.addG xl ((oa.cF ek).cF el) ((ob.cF ek).cF el) fa fb mm om hs;have Dm:=mm.cM (Dk.cC el) (fun e=>by have:=G.oG.lt e.1;omega);have az:Mod (fun j=>j=M\/j=B10) hz hm:=by
  refine⟨by have:=mm.size;omega,fun x hx hn=>?_⟩;rw[mm.get x (by omega) (fun e=>by have:=G.dG e.1;omega),xl.get x (by omega) (fun h=>h),mg.get x hx hn]
 have af:Yh hm 1 a (Zu (gI N L k ks false i)):=by
  have:=km.oa i (by omega);simpa using this
 have bD:=af.cE.len;simp[Dm.hc,-Int.natCast_add];refine Zp (Kb2 Bc B7 Br B10 M i q (.pointer (some ⟨p,0,none⟩)) (.pointer (some ⟨op,0,none⟩)) (.int .i64 (((k+1:Nat):Int)+1)) (.int .i64 c) (.agg #[s1.v,s2.v]) sc.v t ay a (fun u=>if u=i then a else ga u) (fun u=>if u=i then b else gb u) N L k ks hz) (fun e _=>(gI N L k ks false i).length-Zx e 32) ⟨0,sp,_,_,_,_,_,_,_,_,_,_,_,_,_,_,_,_,_,_,_,_,_,_,_,_,_,_,_,_,rfl,by omega,by rw[Zu4,Z7g];exact km,az⟩ ?_;clear af az Dm km nm om hs mm kl kk kj kz zl xl El gE el ek mk Dk lD Dj gD ej fa fb oa ob eh zh vi nG zg xg mg G;rintro e hn ⟨j,sp,bE,bF,bG,bH,bJ,bK,bM,bN,bO,bP,bQ,bR,bS,bT,bU,bV,bW,bX,bY,bZ,b0,b6,b7,b8,b9,ca,cb,cc,rfl,hj,G,mg⟩;have xg:Ext h hn:=Mod.cC xz mg (fun j hj=>by omega);have zg:=mg.size;have af:Yh hn 1 a (Zu (gI N L k ks false i)):=by
  have:=G.oa i (by omega);simpa using this
 by_cases cj:j<(gI N L k ks false i).length;rotate_left
 ·have al:¬(j:Int)<a.n:=by omega
  have:j=(gI N L k ks false i).length:=by omega
  subst this;rw[Zp1,Z9i] at G;simp[al,wi,-Int.natCast_add];exact nx ⟨i+1,sp,ay,_,_,_,_,_,_,_,_,_,_,_,_,_,_,_,_,_,_,_,_,_,_,_,_,_,_,_,_,_,_,_,_,_,_,_,rfl,by omega,G,mg⟩
 have al:(j:Int)<a.n:=by omega
 have wj:IntKind.i64.wrap ((j:Int)+1)=(j:Int)+1:=Zn (by have:=Wg (N:=N) (L:=L) (k:=k) (c:=q) (x:=false);rw[<-ax] at this;omega);have vj:=af.cE.val j cj;have nS:=G.oS.1;have lS:sp.n<=N.as.length:=by
  have e1:(SpP N L k ks i j).length<=(SpF N L k ks (i+1)).length:=by
   rw[Zy4,Za2,<-Zp1];unfold ArP;simp;omega
  rw[Za2] at e1;have:=ag (u:=i+1) (by omega);simp[U9] at nS;omega
 have aJ:(ArP N L k ks i j).length=sp.n:=by rw[<-Zy4];simp[U9] at nS;omega
 have aA:=Z7t H ok (by omega) ah.once (fun i hi=>by obtain⟨q,e,_⟩:=kn i hi;exact⟨q,e⟩) ci cj;simp[al,Zl af.ok,vj,G.b10.hc,-Int.natCast_add];refine Zig G.mp (by rw[Q7,if_neg aA]) ?_;intro aK M1 m1;have aL:Vq (ArP N L k ks i j) 0++[(Zm (gI N L k ks false i) j,Value.int .i64 sp.n)]=Vq (ArP N L k ks i (j+1)) 0:=by rw[Zhn cj,Zfh,<-aJ];simp
 rw[aL] at M1;have lz:=G.lz;have b1:=m1.cM G.b10 (by omega);simp[b1.hc,aw,-Int.natCast_add];have x1:Ext h aK:=Mod.cC xg m1 (fun j hj=>by omega);refine Zfj X.A (v.cC x1) ok H (by omega) lq ?_;intro cd e2;have b2:=b1.cC e2;have aM:∀g (x:Int),Ym.cK Y g (.build #[.int .i64 0,.int .i64 0] [(0,1),(1,1)] [0,1]) [.int .i64 x,.int .i64 i]=some (.agg #[.int .i64 x,.int .i64 i]):=fun g x=>rfl;simp[b2.hc,aM,-Int.natCast_add];refine Zh9 rfl rfl ?_;intro E cf gE E3 e3;have b3:=b2.cC e3;simp[b3.hc,-Int.natCast_add];have aN:=((G.oS.cD m1 (fun hn e=>by have:=G.dS hn;omega)).cF e2).cF e3;refine Zgt rfl aN E3 rfl rfl ?_;intro aO cg o4 n4 m4 aP;have z1:=m1.size;have z2:=e2.size;have z3:=e3.size;have z4:=m4.size;have b4:=m4.cM b3 (fun e=>by have:=G.dS e.1;omega);simp[-Int.natCast_add];refine stB b4 (by simp) ?_;intro aQ b5 m5;simp at b5;have aR:enV N L k (Zm ks i).toNat (j:Nat) 0=enV N L k q (j:Nat) 0:=by rw[U];rfl
 have k5:=G.addS (s:=(enV N L k q (j:Nat) 0,i)) m1 (by rw[<-Zhn cj];exact M1) (e2.trans e3) m4 o4 aP m5 b5;rw[<-Zhn cj] at k5;have aB:=Z3e (N:=N) (L:=L) (k:=k) (ks:=ks) cj;rw[aR] at aB;rw[<-aB] at k5;have m5z:Mod (fun j=>j=M\/j=B10) hz aQ:=by
  refine⟨by have:=m5.size;omega,fun x hx am=>?_⟩;rw[m5.get x (by omega) (fun e=>am (.inr e)),m4.get x (by omega) (fun e=>by have:=G.dS e.1;omega),e3.get x (by omega) (fun h=>h),e2.get x (by omega) (fun h=>h),m1.get x (by omega) (fun e=>am (.inl e)),mg.get x hx am]
 simp[wj,-Int.natCast_add];exact nx ⟨j+1,aO,_,_,_,_,_,_,_,_,_,_,_,_,_,_,_,_,_,_,_,_,_,_,_,_,_,_,_,_,rfl,by omega,k5,m5z⟩
def Zp8(N:Zs)(L:Za)(k c:Nat)(E:Zb):Prop :=
 ∀i o a b:Nat,i<(Zv N L k false c).length->o<(Zv N L k true c).length->Zm (Zv N L k false c) i=a->Zm (Zv N L k true c) o=b->Q0 (Zga N (Zm (Yc L k)) c a b) (Zm E (i * (Zv N L k true c).length+o))
def Zkl(N:Zs)(L:Za)(cN:Zb)(k:Nat):Prop :=
 ∀c,c<Yv L k->∀i o a b:Nat,i<(Zv N L k false c).length->o<(Zv N L k true c).length->Zm (Zv N L k false c) i=a->Zm (Zv N L k true c) o=b->Q0 (Zga N (Zm (Yc L k)) c a b) (Zm cN (Zz N L k+Yn N L k c+(i * (Zv N L k true c).length+o)))
def Z0k{n:Nat}{L:Za}(H:Yq n L){k:Nat}(I:k<L.length)(J:0<n):∃v,v<n/\Zm (Yc L k) v=0:=by
 obtain⟨X,G,O,_⟩:=Qp (H.lv k I);have R:0<(Wp (Yc L k)).toNat:=by
  obtain⟨m1,m2,U⟩:=Zc8 (l:=Yc L k) (n:=(n:Int)) (by omega) (fun j hj=>by have:=(G j (by omega)).2;omega);have:=U 0 (by omega);have:=(G 0 J).1;omega
 have h0:=O 0 R;refine Xka fun q=>h0 ?_;unfold Zbu;rw[Xmt,Xmu];intro x hx;obtain⟨v,a,b⟩:=Ya.1 hx;simp;intro e;exact q ⟨v,by omega,by rw[b];exact e⟩
def Zo3{n:Nat}{L:Za}(H:Yq n L){k:Nat}(I:k+1<L.length):Zju (Zm (Yc L k)) (Zm (Yc L (k+1))):=by
 obtain⟨O,R,z3,_⟩:=Qp (H.lv k (by omega));obtain⟨U,X,y3,y4⟩:=Qp (H.lv (k+1) I);have G:∀v,n<=v->Zm (Yc L k) v=0/\Zm (Yc L (k+1)) v=0:=fun v hv=>by
  constructor<;>simp[Zm,O,U,hv]
 have zero:∀u,u<n->Zm (Yc L k) u=0->Zm (Yc L (k+1)) u=0:=fun u hu e=>by
  obtain⟨w,J,w2⟩:=Z0k H I (by omega);have:=y4 (by omega) u hu w J (by rw[show k+1-1=k from rfl,e];exact (R w J).1);have:=(X u hu).1;omega
 intro u v e;by_cases hu:u<n
 ·by_cases hv:v<n
  ·exact Zke H I hu hv e
  obtain⟨a,b⟩:=G v (by omega);rw[b];exact zero u hu (by rw[e,a])
 obtain⟨a,b⟩:=G u (by omega);by_cases hv:v<n
 ·rw[b];exact (zero v hv (by rw[<-e,a])).symm
 rw[b,(G v (by omega)).2]
def Zkl.ent{N:Zs}{L:Za}{cN:Zb}{k:Nat}(h:Zkl N L cN k)(G:Yq N.vs.length L)(ok:Yl N)(H:k<L.length:=by omega):Zge N (Zm (Yc L k)) (Zbl N L cN k):=by
 intro a b J h1 O;have R:a<N.as.length:=Xka fun q=>J (by simp[Vs,Ys,Zq,Xjl (Nat.not_lt.1 q)]);have lb:b<N.as.length:=Xka fun q=>O (by rw[<-h1];simp[Vs,Ys,Zq,Xjl (Nat.not_lt.1 q)]);obtain⟨q,I,lq⟩:=Zia G ok H R;obtain⟨i,U,X⟩:=Ya.1 ((Zbm G ok H (q:=q)).2 ⟨R,J,I⟩);obtain⟨o,lo,eo⟩:=Ya.1 ((U2 G ok H (q:=q)).2 ⟨lb,fun e=>O (by rw[<-e,h1]),by rw[h1,I]⟩);have pi:=Xr (Xt (N:=N) (L:=L) (k:=k) (c:=q) (x:=false)).once U;have po:=Xr (Xt (N:=N) (L:=L) (k:=k) (c:=q) (x:=true)).once lo;rw[X] at pi;rw[eo] at po;have:=h q lq i o a b U lo X eo;unfold Zbl;rw[I];simp only[Xi8];rw[pi,po];have e:(enV N L k q i o).toNat=Zz N L k+Yn N L k q+(i * (Zv N L k true q).length+o):=by
  unfold enV;rw[if_pos ⟨by omega,by omega,by omega,by omega⟩];have e:((i:Int) * ((Zv N L k true q).length:Int))=((i * (Zv N L k true q).length:Nat):Int):=by simp
  rw[e];omega
 rw[e];exact this
structure Z67(Y:Sys):Prop where
 Lt:Z3x Y
 By:Xb7 Y
 Ky:Z65 Y
 One:Y.cL 360 Y360
def Zjj{P Q:Int->Prop}(e:∀x,P x↔Q x){d:Int}(h:Q0 P d):Q0 Q d:=⟨h.le,fun x hx=>h.all x ((e x).2 hx),h.is.imp id (e d).1⟩
def Z1i(X:Z67 Y){p op:Nat}{N:Zs}{S:Zf}{L:Za}(g:Xi h p N S)(v:Uq h op N L)(ok:Yl N)(I:Yq N.vs.length L){k c:Nat}(J:k<L.length)(hc:c<Yv L k){sc:Sl}{cN:Zb}
  (rc:Zw h sc cN) (lc:cN.length=Zz N L L.length) (c0:∀i,i<cN.length->0<=Zm cN i/\Zm cN i<=Xm) (al:∀j,j+1=k->Zkl N L cN j) {R:Ze}
  (hr:∀h' t E,Ext h h'->Yh h' 1 t (Zu E)->E.length=Zbj N L k c->(t.nl=true\/h.size<=t.b)->Zp8 N L k c E->R t.v h') :
  Zt Y 360 [Zh p,Zh op,Zg ((k:Int)+1),Zg c,sc.v] h R:=by
 have hI:Xm=1152921504606846976:=rfl;have bL:=I.bL;have bG:=(Xq I J).2.2.1;have ba:=ok.ba;have bE:=Zq1 (L:=L) (k:=k) (c:=c) ok;have li:=Wg (N:=N) (L:=L) (k:=k) (c:=c) (x:=false);have lo:=Wg (N:=N) (L:=L) (k:=k) (c:=c) (x:=true);refine .o X.One ?_;have c1:¬(c:Int)<0:=by omega
 have c2:¬(Yv L k:Int)<=c:=by omega
 have c3:¬Yv L k<=c:=by omega
 simp[Y360,Yw.wp,c1];refine Zci X.Ky.A.O v J ?_;simp[c2];refine W9 X.Ky.A v ok I J hc ?_;intro h1 a b e1 oa ob fa fb;have la:=oa.cE.len;have lb:=ob.cE.len;simp;refine Zo ?_;intro D h2 gD D2 e2;replace D2:Yo h2 D #[Zi,Zi]:=D2;simp;refine Zy (vs:=#[a.v,b.v]) D2 ?_;intro h3 D3 m3;have e3:Ext h1 h3:=Mod.cG e2 m3 gD;have x3:Ext h h3:=e1.trans e3;have af:=oa.cF e3;have ag:=ob.cF e3;simp[D3.hc];have aa:∀h',Ext h h'->((Zv N L k false c).length=0\/(Zv N L k true c).length=0)->R (Zi) h':=fun h' e q=>by
  refine hr h' Sl.nil [] e Yh.nil ?_ (.inl rfl) (fun i o _ _ h1 h2=>by omega);unfold Zbj;rcases q with q|q<;>rw[q]<;>simp
 by_cases z1:a.n=0
 ·simp[z1];exact aa h3 x3 (.inl (by omega))
 by_cases z2:b.n=0
 ·simp[z1,z2];exact aa h3 x3 (.inr (by omega))
 simp[z1,z2];by_cases z3:k=0
 ·subst z3;simp[Yf D3,D3.hc];refine Zt6 X.By (g.cC x3) ok af.cE ag.cE Xt Xt (fun j U=>Vl I ok J (Ya.2 ⟨j,U,rfl⟩)) (by omega) ?_;intro h4 As st ss fv e4 B av ah rs nx ac;have x4:=x3.trans e4;have aw:As.length<=N.as.length:=Zdp B.once B.nat
  have G:((List.range (Zv N L 0 false c).length).map fun(k:Nat)=>(k:Int)).length=(Zv N L 0 false c).length:=by simp
  have ai:∀j,j<(Zv N L 0 false c).length->Zm ((List.range (Zv N L 0 false c).length).map fun(k:Nat)=>(k:Int)) j=(j:Int):=fun j U=>by simp[Zm,U]
  simp[(D3.cC e4).hc];have ad:(Zv N L 0 false c).length * (Zv N L 0 true c).length<=268435456:=bE;rw[<-lb];refine Zl2 X.Lt (B.ok ok) (by omega) rs (fun j U=>⟨j,by rw[G] at U;exact⟨ai j U,by omega⟩⟩) (by omega) (by rw[G];exact ad) nx ac ?_;intro h5 cb E e5 g5 o5 l5 hE;rw[G] at o5 l5 hE;simp only[G];simp;refine hr h5 (Sl.at cb _ _) E (x4.trans e5) o5 (by rw[l5];rfl) (.inr (by have:=x4.size;simp only[Sl.at_b];omega)) (fun i o a' b' h1 h2 h3 ab=>?_);have:=hE i h1 o h2;rw[ai i h1] at this;simp only[Xi8] at this;have ae:(a':Int)∈Zv N L 0 false c:=Ya.2 ⟨i,h1,h3⟩;have am:=((Zbm I ok J).1 ae).2.2;refine Zjj (fun x=>?_) this;exact B.thru (k:=(c:Int)) (ce:=Zm (Yc L 0)) (fun y=>by
   rw[U2 I ok J];exact⟨fun ⟨q1,q2,q3⟩=>⟨q1,q3,fun e=>q2 (by rw[q3,e])⟩,fun ⟨q1,q2,q3⟩=>⟨q1,fun e=>q3 (by rw[<-e,q2]),q2⟩⟩) Xt.once (by omega) (by rw[ah i h1];exact h3) am h2 ab
 obtain⟨k,rfl⟩:∃k',k=k'+1:=⟨k-1,by omega⟩
 have z4:¬((k:Int)+1+1=1):=by omega
 have z5:¬((k:Int)+1=0):=by omega
 simp[z4,Yf D3,D3.hc];rw[show ((k:Int)+1+1)=(((k+1:Nat):Int)+1) by omega];refine Zup X.Ky (g.cC x3) (v.cC x3) ok I J hc af.cE ag.cE (rc.cC x3) lc c0 ?_;intro h4 Ar fi ls st ss fv e4 B rs nx ac an bA;have x4:=x3.trans e4;have H:=Zo3 I J;have ao:=al k rfl;have aj:∀i,0<=Zm cN i/\Zm cN i<=Xm:=fun i=>by
  rcases Xi6 i cN.length with q|q
  ·exact c0 i q
  have:Zm cN i=0:=by simp[Zm,Xjl q]
  omega
 have ad:(Zv N L (k+1) false c).length * (Zv N L (k+1) true c).length<=268435456:=bE;have G:((Zv N L (k+1) false c).map (Yk 0 Ar)).length=(Zv N L (k+1) false c).length:=by simp
 have hst:∀j,j<(Zv N L (k+1) false c).length->∃u:Nat,Zm ((Zv N L (k+1) false c).map (Yk 0 Ar)) j=u/\u<Ar.length/\Zm Ar u=Zm (Zv N L (k+1) false c) j:=fun j U=>by
  obtain⟨u,lu,eu⟩:=Ya.1 (an _ (Ya.2 ⟨j,U,rfl⟩));have:=Xr B.once lu;refine⟨u,?_,lu,eu⟩;rw[<-this,eu];simp[Zm,U]
 simp[(D3.cC e4).hc];rw[<-lb];refine Zl2 X.Lt (B.ok I ok J rfl (fun i=>(aj i).1) H) bA rs (fun j U=>by
  rw[G] at U;obtain⟨u,q1,q2,_⟩:=hst j U;exact⟨u,q1,q2⟩) (by omega) (by rw[G];exact ad) nx ac ?_
 intro h5 cb E e5 g5 o5 l5 hE;rw[G] at o5 l5 hE;simp only[G];simp;refine hr h5 (Sl.at cb _ _) E (x4.trans e5) o5 (by rw[l5];rfl) (.inr (by have:=x4.size;simp only[Sl.at_b];omega)) (fun i o a' b' h1 h2 h3 ab=>?_);have:=hE i h1 o h2;obtain⟨u,q1,q2,q3⟩:=hst i h1;rw[q1] at this;simp only[Xi8] at this;have ae:(a':Int)∈Zv N L (k+1) false c:=Ya.2 ⟨i,h1,h3⟩;have ap:(b':Int)∈Zv N L (k+1) true c:=Ya.2 ⟨o,h2,ab⟩;obtain⟨_,aq,ar⟩:=(Zbm I ok J).1 ae;obtain⟨_,au,ak⟩:=(U2 I ok J).1 ap;have hT:Q0 (Ztm N (Zm (Yc L (k+1))) (Zm (Yc L k)) c (Zbl N L cN k) a' b') (Zm E (i * (Zv N L (k+1) true c).length+o)):=Zjj (fun x=>B.thru I ok J rfl (fun i=>(aj i).2) H q2 (by rw[q3];exact h3) h2 ab) this;exact (Zuu H (ao.ent I ok) ok (fun e=>aq (H _ _ e)) ar ak (fun e=>au (by rw[ak,e]))).1 hT
def Zin(C:Zb)(o:Nat)(E:Zb):Zb:=C.take o++E++C.drop (o+E.length)
def Zmf{C E:Zb}{o:Nat}(h:o+E.length<=C.length):(Zin C o E).length=C.length:=by simp[Zin];omega
def Zri{C E:Zb}{o j:Nat}(h:o+E.length<=C.length:=by omega):Zm (Zin C o E) j=if o<=j/\j<o+E.length then Zm E (j-o) else Zm C j:=by
 unfold Zin Zm;simp only[Xja];rcases Xi6 j o with q|q
 ·rw[ifN,Xje,Xjm (by simp;omega),Xj8,if_pos q]
 rcases Xi6 j (o+E.length) with q'|q'
 ·rw[if_pos ⟨q,q'⟩,Xje,Xjv (by simp;omega),Xjm (by simp;omega)];simp[Xke (show o<=C.length by omega)]
 rw[ifN,Xjv (by simp;omega),Xj4];simp[Xke (show o<=C.length by omega)]
 congr 2
 omega
def Z07{h:Zk}{K:Ze}{H n o:Nat}{C E:Zb}{t R:Sl}(I:Yh h 1 (Sl.at H n n) (Zu C))(r:Zw h t E)(aa:o+E.length<=n)(he:R = { Sl.at H n n with o:=if n=o then 0 else o,n:=n-o,c:=n-o })
  (U:∀h',Yh h' 1 (Sl.at H n n) (Zu (Zin C o E))->Mod (fun j=>j=H) h h'->K (Zg E.length) h'):Ef.wp h K (.copy 1) [R.v,t.v]:=by
 subst he;have lr:=r.len;have lC:=I.cE.len;simp only[Sl.at_n] at lC;have hm:min t.n (n-o)=E.length:=by omega
 have hv:(Sl.v { Sl.at H n n with o:=if n=o then 0 else o,n:=n-o,c:=n-o }) = .slice (some ⟨H,if n=o then 0 else o,none⟩) (n-o) (n-o):=by simp[Sl.v,Sl.at]
 rw[hv];have G:=Za8 r;rw[<-lr] at G;simp only[Ef.wp,Qn,hm,G];rcases I.2 with⟨h1,_⟩|⟨_,_,_,h1,X,J,hb,ha,ht⟩
 ·cases h1
 simp only[Sl.at_c,Sl.at_b,Sl.at_n,Xjd] at hb ha ht h1 X;have O:J.toList.length=n:=by simp[ha]
 rw[<-O,Xj9] at ht;by_cases q:n=o
 ·have:E.length=0:=by omega
  have:E=[]:=List.length_eq_zero_iff.1 this;subst this;simp only[if_pos q,Zu,Xkv,hst];refine U h ?_ (Mod.refl _);have:Zin C o []=C:=by simp[Zin]
  rw[this];exact I
 simp only[if_neg q];obtain⟨h',g1,g2,g3,_⟩:=Zcp (vs:=Zu E) (o:=o) hb (by simp;omega) Zb5;rw[g1];refine U h' ⟨by simp[Zmf (C:=C) (E:=E) (o:=o) (by omega)];omega,.inr ⟨rfl,rfl,rfl,Xi4 _,X,_,g2,by simp;omega,?_⟩⟩ g3;simp only[Sl.at_n,Xjd];rw[Xji (by simp;omega),ht];simp[Zin,Zu,List.map_take,List.map_drop]
def Zng(N:Zs)(L:Za)(C:Zb)(k c:Nat):Prop :=
 ∀i o a b:Nat,i<(Zv N L k false c).length->o<(Zv N L k true c).length->Zm (Zv N L k false c) i=a->Zm (Zv N L k true c) o=b->Q0 (Zga N (Zm (Yc L k)) c a b) (Zm C (Zz N L k+Yn N L k c+(i * (Zv N L k true c).length+o)))
def Z6f{N:Zs}{L:Za}{k c i o:Nat}(G:i<(Zv N L k false c).length)(H:o<(Zv N L k true c).length):i * (Zv N L k true c).length+o<Zbj N L k c:=by
 have:=Xkm (Zv N L k true c).length (show i+1<=(Zv N L k false c).length from G);rw[Xj0,Xmf] at this;unfold Zbj;omega
def Zcf{N:Zs}{L:Za}{k c k' c':Nat}(hc:c<Yv L k)(hc':c'<Yv L k')(H:¬(k=k'/\c=c')):Zz N L k+Yn N L k c+Zbj N L k c<=Zz N L k'+Yn N L k' c'\/Zz N L k'+Yn N L k' c'+Zbj N L k' c'<=Zz N L k+Yn N L k c:=by
 have G:∀{k c k' c':Nat},c<Yv L k->(k<k'\/(k=k'/\c<c'))->Zz N L k+Yn N L k c+Zbj N L k c<=Zz N L k'+Yn N L k' c':=by
  intro k c k' c' hc h;rcases h with h|⟨rfl,h⟩
  ·have h1:=Zei (N:=N) (L:=L) (k:=k) (i:=c+1) (j:=Yv L k) hc;have I:=Zjp (N:=N) (L:=L) (i:=k+1) (j:=k') h;simp only[Zz,Yn] at h1 I;omega
  have h1:=Zei (N:=N) (L:=L) (k:=k) (i:=c+1) (j:=c') h;simp only[Yn] at h1;omega
 rcases Xlx k k' with h|h|h
 ·exact .inl (G hc (.inl h))
 ·subst h;rcases Xlx c c' with h|h|h
  ·exact .inl (G hc (.inr ⟨rfl,h⟩))
  ·exact absurd ⟨rfl,h⟩ H
  exact .inr (G hc' (.inr ⟨rfl,h⟩))
 exact .inr (G hc' (.inl h))
def Zng.put{N:Zs}{L:Za}{C E:Zb}{k c:Nat}(h:Zp8 N L k c E)(J:E.length=Zbj N L k c)(O:Zz N L k+Yn N L k c+Zbj N L k c<=C.length):Zng N L (Zin C (Zz N L k+Yn N L k c) E) k c:=by
 intro i o a b G H I hb;have:=Z6f G H;rw[Zri,if_pos ⟨by omega,by omega⟩,Xm9];exact h i o a b G H I hb
def Zng.other{N:Zs}{L:Za}{C E:Zb}{k c k' c':Nat}(h:Zng N L C k' c')(R:E.length=Zbj N L k c)(U:Zz N L k+Yn N L k c+Zbj N L k c<=C.length)(hc:c<Yv L k)(hc':c'<Yv L k':=by omega)(G:¬(k=k'/\c=c'):=by omega):Zng N L (Zin C (Zz N L k+Yn N L k c) E) k' c':=by
 intro i o a b H I J hb;have:=Z6f H I;have O:=Zcf (N:=N) hc hc' G;rw[Zri,ifN];exact h i o a b H I J hb
def Z4j{N:Zs}(ok:Yl N){ce:Nat->Int}{k:Int}{i o:Nat}{x:Int}(h:Zga N ce k i o x):0<=x:=by
 obtain⟨a,y,h1,G,rfl⟩:=h;have:=Zbb ok h1;have:=(Wn ok (a:=(a:Int)) (b:=(o:Int))).resolve_left G;omega
def Zp8.pos{N:Zs}{L:Za}{E:Zb}{k c:Nat}(ok:Yl N)(I:Yq N.vs.length L)(J:k<L.length)(h:Zp8 N L k c E)(R:E.length=Zbj N L k c):∀j,j<E.length->0<=Zm E j/\Zm E j<=Xm:=by
 intro j G;rw[R] at G;unfold Zbj at G;have U:0<(Zv N L k true c).length:=by
  rcases Xkr (Zv N L k true c).length with q|q
  ·rw[q] at G;simp at G
  exact q
 have O:j / (Zv N L k true c).length<(Zv N L k false c).length:=Nat.div_lt_of_lt_mul (by rw[Nat.mul_comm];exact G);have H:=Xkn j U;obtain⟨a,X,_⟩:=Vl I ok J (Ya.2 ⟨_,O,rfl⟩);obtain⟨b,eb,_⟩:=Vl I ok J (Ya.2 ⟨_,H,rfl⟩);have:=h _ _ a b O H X eb;rw[Nat.div_add_mod'] at this;refine⟨?_,this.le⟩;rcases this.is with q|q
 ·rw[q];decide
 exact Z4j ok q
structure W3(N:Zs)(L:Za)(C:Zb):Prop where
 len:C.length=Zz N L L.length
 c0:∀i,i<C.length->0<=Zm C i/\Zm C i<=Xm
 inn:∀k c,k<L.length->c<Yv L k->Zng N L C k c
def W3.level{N:Zs}{L:Za}{C:Zb}(h:W3 N L C){k:Nat}(G:k<L.length):Zkl N L C k:=fun c hc=>h.inn k c G hc
def Z6b{C E:Zb}{o:Nat}(h:o+E.length<=C.length)(H:∀i,i<C.length->0<=Zm C i/\Zm C i<=Xm)(I:∀j,j<E.length->0<=Zm E j/\Zm E j<=Xm):∀i,i<(Zin C o E).length->0<=Zm (Zin C o E) i/\Zm (Zin C o E) i<=Xm:=by
 intro i G;rw[Zmf h] at G;rw[Zri h]
 split
 ·exact I _ (by omega)
 exact H i G
structure Z6z(Y:Sys):Prop where
 O:Z67 Y
 All:Y.cL 358 Y358
def Xh7(b d:Zj)(cb n:Nat)(N:Zs)(L:Za)(h0:Zk)(e:Zc)(h':Zk):Prop :=
 ∃(j:Nat)(C:Zb)(f g h l a:Zj),e=[b,d,Zi,.slice (some ⟨cb,0,none⟩) n n,Zg ((Zz N L j:Nat):Int),Zg ((j:Int)+1),f,g,h,l,a]/\j<=L.length/\Yh h' 1 (Sl.at cb n n) (Zu C)/\C.length=n/\(∀i,i<C.length->0<=Zm C i/\Zm C i<=Xm) /\
  (∀k c,k<j->c<Yv L k->Zng N L C k c)/\Ext h0 h'
def Xib(v0 v1:Zj)(cb n j:Nat)(N:Zs)(L:Za)(h0:Zk)(e:Zc)(h':Zk):Prop :=
 ∃(c:Nat)(C:Zb)(v6 v7 v10:Zj),e=[v0,v1,Zi,.slice (some ⟨cb,0,none⟩) n n,Zg ((Zz N L j+Yn N L j c:Nat):Int),Zg ((j:Int)+1),v6,v7,Zg (Yv L j),Zg c,v10]/\c<=Yv L j/\Yh h' 1 (Sl.at cb n n) (Zu C)/\C.length=n/\(∀i,i<C.length->0<=Zm C i/\Zm C i<=Xm) /\
  (∀k c',k<j->c'<Yv L k->Zng N L C k c')/\(∀c',c'<c->Zng N L C j c')/\Ext h0 h'
def Z4l(X:Z6z Y){p op:Nat}{N:Zs}{S:Zf}{L:Za}(g:Xi h p N S)(v:Uq h op N L)(ok:Yl N)(pk:Yq N.vs.length L){R:Ze}
  (hr:∀h' I C,Ext h h'->h.size<=I->Yh h' 1 (Sl.at I (Zz N L L.length) (Zz N L L.length)) (Zu C)->W3 N L C->R (.slice (some ⟨I,0,none⟩) (Zz N L L.length) (Zz N L L.length)) h') :
  Zt Y 358 [Zh p,Zh op] h R:=by
 have bL:=pk.bL;have bS:=Q9 ok pk (k:=L.length) (Xi4 _);refine .o X.All ?_;simp[Y358,Yw.wp];refine Zcy X.O.Ky.A v ?_;simp;refine Zao (n:=Zz N L L.length) ?_;intro I h1 ad o1 e1 ah;simp;refine Zp (Xh7 (Zh p) (Zh op) I (Zz N L L.length) N L h) (fun e _=>L.length+1-Zx e 5) ⟨0,_,_,_,_,_,_,rfl,by omega,o1,by simp,fun i hi=>by simp[Zm] at hi ⊢;simp[hi],fun k c hk=>by omega,e1⟩ ?_;rintro e h2 ⟨j,C,v6,v7,v8,v9,ai,rfl,hj,J,U,pC,dn,H⟩;simp;refine Zj5 X.O.Ky.A.O (v.cC H) ?_;by_cases cj:j<L.length;rotate_left
 ·have aa:¬(j:Int)+1<=L.length:=by omega
  have:j=L.length:=by omega
  subst this;simp[aa];exact hr h2 I C H ad J ⟨U,pC,fun k c hk hc=>dn k c hk hc⟩
 have aa:(j:Int)+1<=L.length:=by omega
 have wj:IntKind.i64.wrap ((j:Int)+1+1)=(j:Int)+1+1:=Zn;have bG:=(Xq pk cj).2.2.1;simp[aa];refine Zci X.O.Ky.A.O (v.cC H) cj ?_;simp;refine Zp (Xib (Zh p) (Zh op) I (Zz N L L.length) j N L h) (fun e _=>Yv L j-Zx e 9) ⟨0,C,_,_,_,rfl,by omega,J,U,pC,dn,fun c' h=>by omega,H⟩ ?_;clear dn pC U J H;clear C h2;rintro e h2 ⟨c,C,w6,w7,aj,rfl,hc,J,U,pC,dn,dc,H⟩;by_cases cc:c<Yv L j;rotate_left
 ·have ae:¬(c:Int)<Yv L j:=by omega
  have:c=Yv L j:=by omega
  subst this;have ab:Zz N L (j+1)=Zz N L j+Yn N L j (Yv L j):=rfl;simp[wj,-Int.natCast_add];refine nx ⟨j+1,C,_,_,_,_,_,by rw[ab];rfl,by omega,J,U,pC,fun k c' hk hc'=>?_,H⟩;by_cases q:k=j
  ·subst q;exact dc c' hc'
  exact dn k c' (by omega) hc'
 have ae:(c:Int)<Yv L j:=by omega
 have wc:=wrapS (i:=c);have ce:=Zuq (N:=N) cj cc;have ak:((Zz N L j+Yn N L j c:Nat):Int)<=((Zz N L L.length:Nat):Int):=by omega
 have G:=Zb8 (Y:=Y) (h:=h2) (s:=Sl.at I (Zz N L L.length) (Zz N L L.length)) (sz:=1) (k:=.i64) (j:=((Zz N L j+Yn N L j c:Nat):Int)) J.ok (by omega) (by simp only[Sl.at_n];omega);simp only[Xi8,Xjd,Sl.at_o,Sl.at_n,Sl.at_c,Xjs,Sl.at_v] at G;generalize af:({ Sl.at I (Zz N L L.length) (Zz N L L.length) with o:=if Zz N L L.length=Zz N L j+Yn N L j c then 0 else Zz N L j+Yn N L j c,n:=Zz N L L.length-(Zz N L j+Yn N L j c),c:=Zz N L L.length-(Zz N L j+Yn N L j c) }:Sl)=s2 at G;simp[cc,G,-Int.natCast_add];rw[<-Sl.at_v];refine Z1i X.O (g.cC H) (v.cC H) ok pk cj cc J.cE U pC (fun i hi c' hc'=>dn i c' (by omega) hc') ?_;intro h3 t E e3 ot lE ft hE;have ag:=J.cF e3;have hp:=hE.pos ok pk cj lE;simp[-Int.natCast_add];refine Z07 ag ot.cE (o:=Zz N L j+Yn N L j c) (by omega) af.symm ?_;intro h4 o4 m4;have w5:IntKind.i64.wrap (((Zz N L j+Yn N L j c:Nat):Int)+(E.length:Int))=((Zz N L j+Yn N L j (c+1):Nat):Int):=by
  rw[Zn];simp only[Yn];omega
 have al:=wc;simp[w5,wc,-Int.natCast_add];have ac:Zz N L j+Yn N L j c+E.length<=C.length:=by omega
 refine nx ⟨c+1,_,_,_,_,rfl,by omega,o4,by rw[Zmf ac];exact U,Z6b ac pC hp,fun k c' hk hc'=>(dn k c' hk hc').other lE (by omega) cc hc',fun c' hc'=>?_,Mod.cC (H.trans e3) m4 (fun i hi=>by omega)⟩;by_cases q:c'=c
 ·subst q;exact Zng.put hE lE (by omega)
 exact (dc c' (by omega)).other lE (by omega) cc
end
end Go.Rm
