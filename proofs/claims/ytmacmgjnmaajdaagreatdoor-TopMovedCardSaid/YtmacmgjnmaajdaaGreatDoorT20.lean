import Derived.Test.YtmacmgjnmaajdaaGreatDoorT19
/- Parts. -/
set_option linter.all false
namespace Go.Rm
def Kp(h:Zk)(W:Zf)(P:Zk->Prop):Prop:=∀k,Mod W h k->P k
def Kp.now{h:Zk}{W:Zf}{P:Zk->Prop}(q:Kp h W P):P h:=q h (Mod.refl _)
def Kp.then{h h':Zk}{W W' S':Zf}{P:Zk->Prop}(q:Kp h W P)(m:Mod S' h h')(G:∀b,S' b->W b\/h.size<=b)(H:∀b,W' b->W b\/h.size<=b):Kp h' W' P :=
 fun k mk=>q k ((m.mono fun i I h=>by rcases G i h with q|q;exact q;omega).then mk fun i I h=>by rcases H i h with q|q;exact q;omega)
def Kp.mono{h:Zk}{W:Zf}{P P':Zk->Prop}(q:Kp h W P)(f:∀g,P g->P' g):Kp h W P':=fun k mk=>f k (q k mk)
structure Mj where
 qp:Nat
 p:Nat
 op:Nat
 M:Nat
 sc:Sl
 st:Sl
 sL:Sl
structure MS(J:Mj)(N:Zs)(S:Zf)(L:Za)(cN:Zb)(ts:Zd)(h:Zk):Prop where
 cM:Yo h J.qp #[Zh J.p,Zh J.op,J.sc.v,J.st.v,J.sL.v,.map (some J.M)]
 g:Xi h J.p N S
 v:Uq h J.op N L
 rc:Zw h J.sc cN
 rt:Zw h J.st (Xc ts)
 rl:Wm h J.sL L
structure Xde(Y:Sys):Prop where
 G:WkG Y
 A:Zdv Y
 S:Zou Y
 next:Y.cL 407 Y407
section
variable{Y:Sys}{h h':Zk}{J:Mj}{N:Zs}{S:Zf}{L:Za}{cN:Zb}{ts:Zd}
set_option maxHeartbeats 1000000 in
def Zxl(X:Xde Y){W:Zf}(q:Kp h W (MS J N S L cN ts))(gt:GtH h J.M W N L)(ok:Yl N)(pk:Yq N.vs.length L)(lc:cN.length=Zz N L L.length)(c0:∀i,0<=Zm cN i/\Zm cN i<=Xm)(wc:cN≠[]->¬W J.sc.b){a lv:Nat}(ha:a<N.as.length)(aQ:lv<=L.length){R:Ze}
  (hr:∀h' u w bs ps,Mod (fun j=>j=J.M) h h'->GtH h' J.M (fun j=>W j/\j<h.size) N L->Zw h' u bs->Zw h' w ps->(bs≠[]->¬W u.b\/h.size<=u.b)->(ps≠[]->¬W w.b\/h.size<=w.b)->Zdh N L cN lv a bs ps->R (.tuple #[u.v,w.v]) h') :
  Zt Y 407 [Zh J.qp,Zg lv,Zg a] h R:=by
 have hI:Xm=1152921504606846976:=rfl;have bL:=pk.bL;have ba:=ok.ba;have qs:=q.now;obtain⟨e1,l1⟩:=Zfw ok ha;refine .o X.next ?_;simp[Y407,Yw.wp,qs.cM.hc];refine U0 X.G.To X.G.arc qs.g ?_;rw[e1];by_cases z:lv=0
 ·subst z;simp[qs.cM.hc];refine Zgj X.G.Outs X.G.vert X.G.CI qs.g ?_;intro h1 u x1 ou fu;have aB:(if Yi N.vs.length (Ys N a:Int) then Za7 N.as (Ys N a:Int) else [])=Yy N a:=by rw[<-e1];rfl
  rw[aB] at ou;have lu:=ou.cE.len;have lo:=Zcj (N:=N) (a:=a);simp;refine Zao (n:=(Yy N a).length) ?_ (by omega) (by omega);intro pb h2 aR o2 x2 aS;simp;refine Zp (NxI (Zh J.qp) (Zg 0) (Zi) (Zi) (Zg (Ys N a)) u pb a N (Yy N a) h1) (fun e _=>(Yy N a).length-Zx e 18) ⟨0,_,_,_,_,_,_,_,_,_,_,_,_,by rw[<-lu];rfl,by omega,o2,by simp,fun j O=>by omega,x2⟩ ?_;rintro e h3 ⟨i,P,v8,v9,aT,aU,ab,ac,ad,ae,af,ag,ah,rfl,hi,oP,lP,hP,x3⟩;have ai:=x1.trans x3;have q3:=(q h3 (ai.mono fun _ _ h=>h.elim))
  by_cases c:i<(Yy N a).length
  ·have c':(i:Int)<u.n:=by omega
   have c2:i<u.n:=by omega
   have w1:=wrapS (i:=i);obtain⟨b,eb,lb⟩:=Q5 c;have vb:=((ou.cF x3).cE).val i c;rw[eb] at vb;have aC:∀g,Ym.cK Y g (.idxa 1) [.slice (some ⟨pb,0,none⟩) (Yy N a).length (Yy N a).length,Zg i]=some (.pointer (some ⟨pb,i,none⟩)):=fun g=>by
    have:=Wz (Y:=Y) (h:=g) (b:=pb) (sz:=1) (show (Yy N a).length<=9223372036854775807 by omega) c (Xi4 _);simpa using this
   simp[c',Zl ou.ok,vb,q3.cM.hc];refine Zgu X.G.Turn X.G.arc X.G.T q3.g ok ?_;intro h4 e4;simp[aC];refine Zfc (oP.cF e4) (k:=i) ?_;intro h5 o5 m5;rw[Um] at o5;simp[w1];refine Go.Rm.nx ⟨i+1,_,_,_,_,_,_,_,_,_,_,_,_,rfl,by omega,o5,by simp[lP],fun j O=>?_,Mod.cC (x3.trans e4) m5 (fun j O=>by omega)⟩;rw[Vj];by_cases qj:j=i
   ·subst qj;simp[eb]
   simp[qj];exact hP j (by omega)
  have c':¬(i:Int)<u.n:=by omega
  have:i=(Yy N a).length:=by omega
  subst this;simp[c'];have aD:∀j,j<(Yy N a).length->0<=Zm P j/\Zm P j<=Xm:=fun j O=>by
   rw[hP j O];have:=Wn ok (a:=(a:Int)) (b:=Zm (Yy N a) j);omega
  have nq:Zdh N L cN 0 a (Yy N a) P:=by
   refine⟨lP.symm,fun j O=>Q5 O,aD,fun b x=>?_,by omega⟩;unfold Z77;simp only[if_true];constructor
   ·rintro⟨h0,h1,rfl⟩;obtain⟨j,O,ej⟩:=Ya.1 (Zgv h1);have:=hP j O;rw[ej] at this;exact⟨j,O,ej,by rw[this];exact h1,this.symm⟩
   rintro⟨j,O,ej,h1,h2⟩;have:=hP j O;rw[ej] at this;obtain⟨b',eb,lb⟩:=Q5 O;exact⟨by omega,by rw[h2];exact h1,by rw[h2,this]⟩
  exact hr h3 u (Sl.at pb _ _) (Yy N a) P (ai.mono fun _ _ h=>h.elim) ((gt.cD ai fun _ h=>h.elim).grow (fun b hb=>.inl hb.1) ⟨gt.wM,by obtain⟨l,hM,_⟩:=gt.ex;exact hM.lt⟩) (ou.cF x3).cE oP.cE (fun I=>.inr (fu (by
   cases aE:u.nl with
   |false=>rfl
   |true=>have:=(ou.ok.nil aE).1;exact absurd (List.length_eq_zero_iff.1 (by omega)) I))) (fun _=>.inr (by simp only[Sl.at_b];have:=x1.size;omega)) nq
 obtain⟨k,rfl⟩:∃k,lv=k+1:=⟨lv-1,by omega⟩
 have hk:k<L.length:=by omega
 obtain⟨c,ec,aj⟩:=Zia pk ok hk ha;obtain⟨ru,aF,ak⟩:=qs.rl.val k hk;have aV:=qs.rl.len;have aW:=ak.len;have z2:¬((k:Int)+1=0):=by omega
 have wk:IntKind.i64.wrap ((k:Int)+1-1)=(k:Int):=by rw[Zn];omega
 have aG:IntKind.i64.wrap (k:Int)=(k:Int):=Zn;have aX:=(Xq pk hk).1;have vc:=ak.val (Ys N a) (by omega);rw[ec] at vc;simp[z2,qs.cM.hc,aG,Zl qs.rl.ok,show k<J.sL.n by omega,aF,Zl ak.ok,show Ys N a<ru.n by omega,vc];have am:∀g,Ym.cK Y g (.buildA 1 #[Zg 0,Zg 0] [0,1]) [Zg ((k:Int)+1),Zg c]=some (Zeu (k+1,c)):=fun g=>by
  simp[Ym.cK,Instr.fill,Value.cells,Zeu]
 obtain⟨l,hM,hl⟩:=gt.ex;have aH:=Zpa (Y:=Y) hM (x:=(k+1,c)) (z:=.agg #[Zi,Zi]);simp[am,aH];refine Zo ?_;intro D h1 gD D1 x1;replace D1:Yo h1 D #[Zi,Zi]:=D1;simp;have al:=Zle (cN:=cN) ok pk hk aj ec ha lc c0;have aY:=Wg (N:=N) (L:=L) (k:=k) (c:=c) (x:=false);have bS:=Q9 ok pk (k:=L.length) (Xi4 _);have U:∀(H:Zk)(a' b:Sl)(v6 v7 v8 v9 ab ac ad ae an ao ap af ag ah:Zj),Yo H D #[a'.v,b.v]->Mod (fun j=>j=J.M) h H->GtH H J.M (fun j=>W j/\j<h.size) N L->Zw H a' (Zv N L k false c)->Zw H b (Zv N L k true c)->(Zv N L k true c≠[]->¬W b.b\/h.size<=b.b) ->
   Stmt.wp Y Y407.body.rest.rest.rest.rest.rest.rest (Up Y407.res R) (fun _ _ _=>False) (Up Y407.res R) [Zh J.qp,Zg ((k:Int)+1),Zg a,Zi,Zi,Zg (Ys N a),v6,v7,v8,v9,Zg c,Zh D,ab,ac,ad,ae,an,ao,ap,af,ag,ah] H:=by
  intro H a' b v6 v7 v8 v9 ab ac ad ae an ao ap af ag ah DH mH gH ra rb nb;have aZ:=ra.len;have aq:=rb.len;have qH:=q H (mH.mono fun _ _ h=>by rw[h];exact gt.wM);simp[Y407,Stmt.rest,DH.hc];refine Zbr X.S ra (by omega) Xt ?_;simp[qH.cM.hc];refine Zfj X.A qH.v ok pk hk aj ?_;intro hy ey;have my:Mod (fun j=>j=J.M) h hy:=mH.then ey fun _ _ h=>h.elim;have qy:=q hy (my.mono fun _ _ h=>by rw[h];exact gt.wM);have gy:=gH.cD ey (fun _ h=>h.elim);have Dy:=DH.cC ey;have aI:=rb.cC ey;have a0:=qy.rc.len;have nil:Zw hy Sl.nil []:=⟨Sl.nil_ok,rfl,fun i hi=>by simp at hi⟩
  rcases al with⟨e,nx⟩|⟨f,p0,ef,p1,p2,nx⟩
  ·have ar:R (.tuple #[Zi,Zi]) hy:=hr hy Sl.nil Sl.nil [] [] my gy nil nil (fun h=>absurd rfl h) (fun h=>absurd rfl h) nx;rcases e with e|⟨e0,e⟩
   ·simp[e];exact ar
   have aJ:¬Yk 0 (Zv N L k false c) (a:Int)<0:=by omega
   simp[aJ,e];exact ar
  have aK:¬Yk 0 (Zv N L k false c) (a:Int)<0:=by omega
  have d1:¬(f:Int)<0:=by omega
  have wf:IntKind.i64.wrap ((f:Int)+(b.n:Int))=((f+b.n:Nat):Int):=by rw[Zn];omega
  have d3:¬((J.sc.n:Int)<((f+b.n:Nat):Int)):=by omega
  have d2:¬J.sc.n<f+b.n:=by omega
  rw[aq] at p1 p2;obtain⟨w,hw,au,wb⟩:=Zw.cut (Y:=Y) qy.rc (f:=f) (n:=b.n) (by omega) (by omega) (by omega);rw[ef];simp[aK,d1,d2,d3,Dy.hc,qy.cM.hc,wf,hw,-Int.natCast_add];rw[<-aq] at au;exact hr hy b w _ _ my gy aI au nb (fun _=>.inl (by rw[wb];exact wc (fun e=>by rw[e] at p1;simp at p1;omega))) nx
 simp only[Y407,Stmt.rest] at U
 cases hv:Zdj l (k+1,c) with
 |some vv =>
  obtain⟨a',b,e,av,aw,na,ax⟩:=(hl _ (Zok hv)).ex;simp only[Xlh] at av aw na ax;subst e;simp;refine Zy (vs:=#[a'.v,b.v]) D1 ?_;intro h2 D2 m2;have x2:Ext h h2:=Mod.cG x1 m2 gD;simp[-Ye];rw[Ye];exact U h2 a' b _ _ _ _ _ _ _ _ _ _ _ _ _ _ D2 (x2.mono fun _ _ h=>h.elim) ((gt.cD x2 (fun _ h=>h.elim)).grow (W':=fun j=>W j/\j<h.size) (fun b hb=>.inl hb.1) ⟨gt.wM,hM.lt⟩) (av.cC x2) (aw.cC x2) (fun I=>.inl (ax I))
 |none =>
  simp;refine Zy (vs:=#[Zi,Zi]) D1 ?_;intro h2 D2 m2;have x2:Ext h h2:=Mod.cG x1 m2 gD;have q2:=q h2 (x2.mono fun _ _ h=>h.elim);simp[q2.cM.hc];refine W9 X.A q2.v ok pk hk aj ?_;intro h3 a' b x3 oa ob fa fb;simp;refine Zy (vs:=#[a'.v,b.v]) (D2.cC x3) ?_;intro h4 D4 m4;have x4:Ext h h4:=Mod.cC (x2.trans x3) m4 (fun j O=>by omega);have q4:=q h4 (x4.mono fun _ _ h=>h.elim);have lM:=hM.lt;have aL:=hM.cD x4 (fun h=>h);have lD:=D2.lt;have aM:=oa.cD m4 (fun I=>by have:=oa.lt I;rcases fa with e|e;rw[I] at e;cases e;omega);have aN:=ob.cD m4 (fun I=>by have:=ob.lt I;rcases fb with e|e;rw[I] at e;cases e;omega);simp[q4.cM.hc,am,Yf D4];refine Zty aL hv ?_;intro h5 aO m5;have aa:∀{s:Sl}{y:Bool},Yh h3 1 s (Zu (Zv N L k y c))->(s.nl=true\/h2.size<=s.b)->Zv N L k y c≠[]->h.size<=s.b:=fun{s y} o f I=>by
   rcases f with e|e
   ·have:=(o.ok.nil e).1;have:=o.cE.len;exact absurd (List.length_eq_zero_iff.1 (by omega)) I
   omega
  have ay:Zw h5 a' (Zv N L k false c):=aM.cE.cD m5 (fun I=>by have:=aa oa fa I;omega);have az:Zw h5 b (Zv N L k true c):=aN.cE.cD m5 (fun I=>by have:=aa ob fb I;omega);have D5:=m5.cM D4 (by omega);have aA:Mod (fun j=>j=J.M) h h5:=(x4.mono fun _ _ h=>h.elim).trans m5;have aP:GtH h5 J.M (fun j=>W j/\j<h.size) N L:=by
   refine⟨⟨_,aO,fun p hp=>?_⟩,gt.wM,lM⟩;rcases List.mem_append.1 hp with w|w
   ·exact ((hl p w).cD (W:=W) aA (fun j O=>by rw[O];exact .inl gt.wM)).grow (fun j O=>.inl O.1)
   simp at w;subst w;exact⟨a',b,rfl,ay,az,fun I hw=>by have:=aa oa fa I;omega,fun I hw=>by have:=aa ob fb I;omega⟩
  simp[-Ye];rw[Ye];exact U h5 a' b _ _ _ _ _ _ _ _ _ _ _ _ _ _ D5 aA aP ay az (fun I=>.inr (aa ob fb I))
end
def Zih(h:Zk)(M:Nat)(ks:Zb)(x:Int):Prop:=Zbv h M (ks.map fun k=>(k,.int .i64 x))
def Zz7{ks:Zb}{x c:Int}:Z4 (ks.map fun k=>(k,Value.int .i64 x)) c=if c∈ks then some (.int .i64 x) else none:=by
 induction ks with
 |nil=>simp[Z4]
 |cons k ks G =>
  by_cases q:k=c
  ·simp[Z4,q]
  have q':¬c=k:=fun e=>q e.symm;have H:Z4 ((k::ks).map fun k=>(k,Value.int .i64 x)) c=Z4 (ks.map fun k=>(k,Value.int .i64 x)) c:=by
   unfold Z4;rw[Xjx,List.find?_cons_of_neg (by simpa using q)]
  rw[H,G];simp[q']
def Z57{x:Int}:∀{G:List MapEntry}{l:List (Int × cR)}{n j:Nat}{v:Zj},G.map (fun e=>(e.key,e.val))=l.map (fun p=>(Value.int .i64 p.1,p.2))->Uf none (.int .i64 x) G n=some (some (j,v))->∃i,j=n+i/\∃e,G[i]? = some e/\e.key = .int .i64 x:=by
 intro G
 induction G with
 |nil=>intro l n j v _ h;simp[Uf] at h
 |cons e G H =>
  intro l n j v h hf
  cases l with
  |nil=>simp at h
  |cons d l =>
   simp only[Xjx,Xl2,Prod.mk.injEq] at h;obtain⟨⟨h0,h1⟩,I⟩:=h;unfold Uf at hf;rw[h0] at hf;by_cases q:x=d.1
   ·subst q;simp[Zce] at hf;exact⟨0,by omega,e,rfl,h0⟩
   have q':(x == d.1)=false:=by simpa using q
   simp[Zce,q'] at hf;obtain⟨i,X,O,R,U⟩:=H I hf;exact⟨i+1,by omega,O,by simpa using R,U⟩
section
variable{Y:Sys}{h h':Zk}
def Zih.lt{M:Nat}{ks:Zb}{x:Int}(a:Zih h M ks x):M<h.size:=Zbv.lt a
def Zih.cD{S:Zf}{M:Nat}{ks:Zb}{x:Int}(a:Zih h M ks x)(m:Mod S h h')(G:¬S M):Zih h' M ks x:=Zbv.cD a m G
def Zl5{K:Ze}{ks:Zb}{x c:Int}{M:Nat}(a:Zih h M ks x)(I:∀h',Zih h' M (if c∈ks then ks else ks++[c]) x->Mod (fun j=>j=M) h h'->K undef h'):
  Ef.wp h K (.mupd none) [.map (some M),.int .i64 c,.int .i64 x]:=by
 by_cases q:c∈ks;rotate_left
 ·refine Zig a (by rw[Zz7,if_neg q]) ?_;intro h1 m1 x1;refine I h1 ?_ x1;rw[if_neg q];unfold Zih;rw[Xjj];exact m1
 have lM:=a.lt;have a':=a;obtain⟨R,H,hb,G⟩:=a;rcases Zft (x:=c) (n:=0) G with⟨j,v,f,hv⟩|⟨_,hv⟩
 rotate_left
 ·rw[Zz7,if_pos q] at hv;cases hv
 rw[if_pos q] at I;obtain⟨i,hi,e,U,O⟩:=Z57 G f;have hx:e.val = .int .i64 x:=by
  have X:(e.key,e.val)∈R.toList.map (fun e=>(e.key,e.val)):=List.mem_map.2 ⟨e,Xmp U,rfl⟩;rw[G] at X;obtain⟨p,hp,e2⟩:=List.mem_map.1 X;obtain⟨k,_,rfl⟩:=List.mem_map.1 hp;simp at e2;exact e2.2.symm
 have hj:j=i:=by omega
 subst hj;simp only[Ef.wp,hb,Zf6,f,true_and];refine I _ ⟨R.modify j fun e=>{ e with key:=.int .i64 c,val:=.int .i64 x },H,by simp[lM],?_⟩ ⟨by simp,fun b aa hs=>?_⟩
 ·rw[<-G];apply Xkz;intro m;simp only[Array.toList_modify,Xl5,List.getElem?_modify];by_cases w:j=m
  ·subst w;simp[U,O,hx]
  simp[w]
 simp[Ne.symm hs]
def Z6p{M:Nat}{ks:Zb}{x:Int}(a:Zih h M ks x):Ym.cK Y h .lenM [.map (some M)]=some (.int .i64 (ks.length:Nat)):=by
 obtain⟨G,H,hb,O⟩:=a;have R:We h (some M)=some G.toList:=by simp[We,hb]
 have I:=congrArg List.length O;simp at I;show ((We h (some M)).map fun G=>Value.int .i64 G.length)=_;rw[R];simp[I]
def Zhs{z:Zj}{K:Ze}{n bytes:Nat}{m:Int}(I:∀(b:Nat)(h':Zk),h.size<=b->Yh h' 1 (Sl.at b n n) (List.replicate n z)->Ext h h'->b<h'.size->K (.slice (some ⟨b,0,none⟩) n n) h')(hz:z.oneCell'=true:=by rfl)(hb:bytes<=64:=by omega)(G:n<=1000000:=by omega)(H:m=n:=by rfl):
  Ef.wp h K (.mkslice 1 bytes #[z]) [.int .i64 m,.int .i64 m]:=by
 subst H;rw[Va];refine⟨by omega,by omega,by omega,by have:=Xk7 hb G;omega,fun t=>?_⟩;simp only[Xi8,Xjd,Vm];refine I h.size _ (Xi4 _) ⟨by simp,.inr ⟨rfl,rfl,rfl,Xi4 _,by simp;omega,_,Yo.new,by simp,by simp⟩⟩ Mod.push (by simp)
def Zqh{K:Ze}{b o:Nat}{m:Option Nat}:Ef.wp h K (.store 1) [.pointer (some ⟨b,o,none⟩),.map m]=Xo h b o (.map m) K:=Uh rfl
def plP(N:Zs)(L:Za)(s:Nat)(ts:Zd)(k v:Nat):Bool:=!(decide (Xl L k v=Xl L k (Ys N s)) ||ts.any fun t=>decide (Xl L k v=Xl L k (Vs N t)))
def Z5g{N:Zs}{L:Za}{s:Nat}{ts:Zd}:Z5x N L.length (Xl L) (plP N L s ts) s :=
 ⟨fun k u v _ _ e=>by unfold plP;rw[e],fun k=>by simp[plP]⟩
def Xau{N:Zs}{L:Za}{s t:Nat}{ts:Zd}(ht:t∈ts)(k:Nat):plP N L s ts k (Vs N t)=false:=by
 unfold plP;have:(ts.any fun u=>decide (Xl L k (Vs N t)=Xl L k (Vs N u)))=true:=List.any_eq_true.2 ⟨t,ht,by simp⟩;rw[this];simp
structure PlH(u:Sl)(L:Za)(N:Zs)(s:Nat)(ts:Zd)(h:Zk):Prop where
 ok:u.ok
 len:u.n=L.length
 val:∀i,i<L.length->∃M ks,hc h u.b (u.o+i)=some (.map (some M))/\Zih h M ks 1/\∀v,Xl L (i+1) v∈ks↔plP N L s ts (i+1) v=false
def MlI(J:Mj)(u:Sl)(v:Nat)(P:Nat->Nat->Bool)(L:Za)(h0:Zk)(e:Zc)(h':Zk):Prop :=
 ∃(k:Nat)(v5 v6 v7 v8:Zj),e=[.pointer (some ⟨J.qp,0,none⟩),u.v,.int .i64 v,.int .i64 0,.int .i64 k,v5,v6,v7,v8]/\k<=L.length/\V6 P v L.length=V6 P v k/\h'=h0
variable{J:Mj}{N:Zs}{S:Zf}{L:Za}{cN:Zb}{ts:Zd}
def Zt3(H:Y.cL 408 Y408)(q:MS J N S L cN ts h){u:Sl}{s:Nat}{I:Zd}(pl:PlH u L N s I h)(pk:Yq N.vs.length L){v:Nat}(hv:v<N.vs.length){R:Ze}
  (hr:R (.int .i64 (V6 (plP N L s I) v L.length:Nat)) h):Zt Y 408 [.pointer (some ⟨J.qp,0,none⟩),u.v,.int .i64 v] h R:=by
 have bL:=pk.bL;have lL:=q.rl.len;have lu:=pl.len;refine .o H ?_;simp[Y408,Yw.wp,q.cM.hc];rw[<-lL];refine Zp (MlI J u v (plP N L s I) L h) (fun e _=>Zx e 4) ⟨L.length,_,_,_,_,rfl,Xi4 _,rfl,rfl⟩ ?_;rintro e h1 ⟨k,v5,v6,v7,v8,rfl,hk,hl,rfl⟩
 cases k with
 |zero =>
  simp;rw[hl] at hr;exact hr
 |succ k =>
  obtain⟨w,hw,O⟩:=q.rl.val k (by omega);obtain⟨M,ks,hM,mM,ab⟩:=pl.val k (by omega);have lw:=O.len;have lr:=(Xq pk (i:=k)).1;have X:k<J.sL.n:=by omega
  have aa:k<u.n:=by omega
  have c1:(1:Int)<=(k:Int)+1:=by omega
  have w0:IntKind.i64.wrap (k:Int)=(k:Int):=Zn;have w1:IntKind.i64.wrap ((k:Int)+1-1)=(k:Int):=by rw[Zn];omega
  have d1:¬(v:Int)<0:=by omega
  have d2:¬(w.n:Int)<=(v:Int):=by omega
  have d3:¬w.n<=v:=by omega
  have d4:v<w.n:=by omega
  have vv:=O.val v (by omega);have G:=Zk6 (Y:=Y) mM (x:=Zm (Yc L k) v) (z:=.int .i64 0);rw[Zz7] at G;have U:=ab v;rw[show Xl L (k+1) v=Zm (Yc L k) v from rfl] at U;by_cases z:Zm (Yc L k) v∈ks
  ·rw[if_pos z] at G;have hp:=U.1 z;have nx:V6 (plP N L s I) v (k+1)=V6 (plP N L s I) v k:=by
    show (if plP N L s I (k+1) v=true then k+1 else _)=_;rw[hp];rfl
   simp[c1,w0,Zl q.rl.ok,q.cM.hc,X,hw,d2,d3,Zl pl.ok,aa,hM,Zl O.ok,d4,vv,G];exact⟨⟨k,_,_,_,_,rfl,by omega,by rw[hl,nx],rfl⟩,by simp[Zx]⟩
  rw[if_neg z] at G;have hp:plP N L s I (k+1) v=true:=by
   cases hq:plP N L s I (k+1) v with
   |true=>rfl
   |false=>exact absurd (U.2 hq) z
  have nx:V6 (plP N L s I) v (k+1)=k+1:=by
   show (if plP N L s I (k+1) v=true then k+1 else _)=_;rw[hp];rfl
  rw[hl,nx] at hr;simp[c1,w0,Zl q.rl.ok,q.cM.hc,X,hw,d1,d2,d3,Zl pl.ok,aa,hM,Zl O.ok,d4,vv,G];simpa using hr
def Z9r(L:Za)(N:Zs)(s:Nat)(ts:Zd)(i:Nat)(ks:Zb):Prop:=∀c,c∈ks↔c=Xl L (i+1) (Ys N s)\/∃t,t∈ts/\c=Xl L (i+1) (Vs N t)
def PoI(J:Mj)(tb s:Nat)(L:Za)(N:Zs)(ts:Zd)(h0:Zk)(e:Zc)(h':Zk):Prop :=
 ∃(i:Nat)(cells:Zc)(k l m o p a b c d f g h:Zj),e=[.pointer (some ⟨J.qp,0,none⟩),.int .i64 s,.slice none 0 0,.slice (some ⟨tb,0,none⟩) L.length L.length,k,l,m,o,p,J.sL.v,.int .i64 J.sL.n,.int .i64 i,a,b,c,d,f,g,h]/\i<=L.length /\
  Yh h' 1 (Sl.at tb L.length L.length) cells/\cells.length=L.length/\Ext h0 h'/\∀j,j<i->∃M ks,cells[j]? = some (.map (some M))/\h0.size<=M/\M≠tb/\Zih h' M ks 1/\Z9r L N s ts j ks
def PoJ(J:Mj)(tb s i M:Nat)(w:Sl)(L:Za)(N:Zs)(ts:Zd)(h0:Zk)(e:Zc)(h':Zk):Prop :=
 ∃(j:Nat)(ks:Zb)(g h k a c d f:Zj),e=[.pointer (some ⟨J.qp,0,none⟩),.int .i64 s,.slice none 0 0,.slice (some ⟨tb,0,none⟩) L.length L.length,.int .i64 i,w.v,g,h,k,J.sL.v,.int .i64 J.sL.n,.int .i64 i,a,c,J.st.v,.int .i64 J.st.n,.int .i64 j,d,f]/\j<=ts.length /\
  Zih h' M ks 1/\Z9r L N s (ts.take j) i ks/\Mod (fun b=>b=M) h0 h'
def Xdd{L:Za}{N:Zs}{s i:Nat}{ts:Zd}{ks:Zb}{j:Nat}(k:Z9r L N s (ts.take j) i ks)(H:j<ts.length){c:Int}(hc:c=Xl L (i+1) (Vs N ts[j])):Z9r L N s (ts.take (j+1)) i (if c∈ks then ks else ks++[c]):=by
 intro x;have I:(∃t,t∈ts.take (j+1)/\x=Xl L (i+1) (Vs N t))↔(∃t,t∈ts.take j/\x=Xl L (i+1) (Vs N t))\/x=c:=by
  rw[Xjc H];constructor
  ·rintro⟨t,ht,e⟩;rcases List.mem_append.1 ht with w|w
   ·exact .inl ⟨t,w,e⟩
   simp at w;subst w;exact .inr (by rw[e,hc])
  rintro (⟨t,ht,e⟩|e)
  ·exact⟨t,List.mem_append.2 (.inl ht),e⟩
  exact⟨ts[j],List.mem_append.2 (.inr (by simp)),by rw[e,hc]⟩
 rw[I];have hx:=k x;by_cases q:c∈ks
 ·rw[if_pos q];constructor
  ·intro G;rcases hx.1 G with e|e;exact .inl e;exact .inr (.inl e)
  rintro (e|e|e)
  ·exact hx.2 (.inl e)
  ·exact hx.2 (.inr e)
  rw[e];exact q
 rw[if_neg q];simp only[Xms,Xlj];rw[hx];constructor
 ·rintro ((e|e)|e)
  ·exact .inl e
  ·exact .inr (.inl e)
  exact .inr (.inr e)
 rintro (e|e|e)
 ·exact .inl (.inl e)
 ·exact .inl (.inr e)
 exact .inr e
set_option maxHeartbeats 1000000 in
def Zu5(X:Xde Y)(H:Y.cL 406 Y406)(q:Kp h (fun _=>False) (MS J N S L cN ts))(ok:Yl N)(pk:Yq N.vs.length L){s:Nat}(hs:s<N.as.length)(ht:∀t,t∈ts->t<N.as.length)(hb:ts.length<=1000){R:Ze}
  (hr:∀h' u,Ext h h'->Kp h' (fun b=>b<h.size) (PlH u L N s ts)->R u.v h'):Zt Y 406 [.pointer (some ⟨J.qp,0,none⟩),.int .i64 s] h R:=by
 have bL:=pk.bL;have qs:=q.now;have lL:=qs.rl.len;have lt:=qs.rt.len;simp at lt;obtain⟨aj,aw⟩:=Zfw ok hs;refine .o H ?_;simp[Y406,Yw.wp,qs.cM.hc];rw[<-lL];refine Zhs (n:=L.length) ?_;intro O h1 ax o1 e1 ay;have q1:=q h1 (e1.mono fun _ _ h=>h.elim);simp[q1.cM.hc];refine Zp (PoI J O s L N ts h) (fun e _=>L.length-Zx e 11) ⟨0,_,_,_,_,_,_,_,_,_,_,_,_,_,rfl,by omega,o1,by simp,e1,fun j hj=>by omega⟩ ?_;rintro e h2 ⟨i,cells,v4,v5,v6,v7,v8,ak,al,az,aA,aB,am,an,rfl,hi,o2,lc,x2,U⟩;have q2:=q h2 (x2.mono fun _ _ h=>h.elim);by_cases c:i<L.length;rotate_left
 ·have c':¬(i:Int)<J.sL.n:=by omega
  have:i=L.length:=by omega
  subst this;simp[c'];refine hr h2 (Sl.at O L.length L.length) x2 fun k mk=>⟨o2.ok,rfl,fun j hj=>?_⟩
  obtain⟨M,ks,hc,hM,aC,mM,I⟩:=U j hj;have ab:=(o2.cell (i:=j) (v:=.map (some M)) hc)
  refine⟨M,ks,mk.hc ab (by simp only[Sl.at_b];omega),mM.cD mk (by omega),fun v=>?_⟩;rw[I];simp[plP];exact⟨fun h c=>h.resolve_left c,fun h=>by
   by_cases c:Xl L (j+1) v=Xl L (j+1) (Ys N s)
   ·exact .inl c
   exact .inr (h c)⟩
 have c':(i:Int)<J.sL.n:=by omega
 have ci:i<J.sL.n:=by omega
 have w1:=wrapS (i:=i);obtain⟨w,hw,ac⟩:=qs.rl.at ci;have lw:=ac.len;have lr:=(Xq pk (i:=i)).1;have ad:∀g,Ym.cK Y g (.idxa 1) [.slice (some ⟨O,0,none⟩) L.length L.length,.int .i64 i]=some (.pointer (some ⟨O,i,none⟩)):=fun g=>by
  have:=Wz (Y:=Y) (h:=g) (b:=O) (sz:=1) (show L.length<=9223372036854775807 by omega) c (Xi4 _);simpa using this
 simp[c',ci,Zl q2.rl.ok,hw _ x2];refine Zfu ?_;intro M h3 gM mM e3;simp[ad,Zqh];refine Zfc (o2.cF e3) (k:=i) ?_ (by omega);intro h4 o4 m4;have l2:=o2.lt rfl;simp only[Sl.at_b] at l2;have ao:=mM.cD m4 (by omega);have x4:Ext h h4:=Mod.cC (x2.trans e3) m4 (fun j hj=>by omega);have q4:=q h4 (x4.mono fun _ _ h=>h.elim);have ae:hc h4 O i=some (.map (some M)):=by
  have:=o4.cell (i:=i) (v:=.map (some M)) (by simp[lc,c]);simpa using this
 simp[q4.cM.hc];refine U0 X.G.To X.G.arc q4.g ?_;rw[aj];have d1:(Ys N s:Int)<w.n:=by omega
 have d2:Ys N s<w.n:=by omega
 have w4:=ac.cC x4;have va:=w4.val (Ys N s) (by omega);simp[d1,d2,ad,ae,Zl w4.ok,va];refine Zl5 (ks:=[]) (x:=1) ao ?_;intro h5 ap m5;have x5:Ext h h5:=Mod.cC x4 m5 (fun j hj=>by omega);have q5:=q h5 (x5.mono fun _ _ h=>h.elim);simp[q5.cM.hc];refine Zp (PoJ J O s i M w L N ts h5) (fun e _=>ts.length-Zx e 16) ⟨0,_,_,_,_,_,_,_,_,rfl,by omega,ap,fun c=>by simp;rfl,Mod.refl _⟩ ?_;rintro e h6 ⟨j,ks,v6,v7,v8,ak,al,am,an,rfl,hj,ag,I,m6⟩;have x6:Ext h h6:=Mod.cC x5 m6 (fun j hj=>by omega);have q6:=q h6 (x6.mono fun _ _ h=>h.elim);have o5:=o4.cD m5 (fun _ h=>by simp only[Sl.at_b] at h;omega);have o6:=o5.cD m6 (fun _ h=>by simp only[Sl.at_b] at h;omega);by_cases cj:j<ts.length;rotate_left
 ·have c2:¬(j:Int)<J.st.n:=by omega
  have:j=ts.length:=by omega
  subst this;rw[Xj9] at I;simp[c2,w1];refine nx ⟨i+1,cells.set i (.map (some M)),_,_,_,_,_,_,_,_,_,_,_,_,rfl,by omega,o6,by simp[lc],x6,fun j' aD=>?_⟩;by_cases e:j'=i
  ·subst e;exact⟨M,ks,by simp[lc,c],by omega,by omega,ag,I⟩
  obtain⟨M',aq,hc',ar,aa,ah,ai⟩:=U j' (by omega);have:=ah.lt;exact⟨M',aq,by rw[Xlb (fun h=>e h.symm)];exact hc',ar,aa,(((ah.cD e3 (fun h=>h)).cD m4 aa).cD m5 (by omega)).cD m6 (by omega),ai⟩
 have c2:(j:Int)<J.st.n:=by omega
 have c3:j<J.st.n:=by omega
 have w2:=wrapS (i:=j);have vt:=q6.rt.val j (by simp;omega);rw[X6 cj] at vt;simp[c2,c3,Zl q6.rt.ok,vt,q6.cM.hc];obtain⟨au,aE⟩:=Zpd ok (ht ts[j] (Xi7 cj));refine Zcg X.G.From X.G.arc q6.g ?_;rw[au];have d3:(Vs N ts[j]:Int)<w.n:=by omega
 have d4:Vs N ts[j]<w.n:=by omega
 have w6:=ac.cC x6;have vb:=w6.val (Vs N ts[j]) (by omega);have af:hc h6 O i=some (.map (some M)):=by
  have:=o6.cell (i:=i) (v:=.map (some M)) (by simp[lc,c]);simpa using this
 simp[d3,d4,ad,af,Zl w6.ok,vb];refine Zl5 (x:=1) ag ?_;intro h7 av m7;simp[w2];exact nx ⟨j+1,_,_,_,_,_,_,_,_,rfl,by omega,av,Xdd I cj rfl,m6.trans m7⟩
end
structure SeM(n s:Nat)(E:Nat->Nat->Int->Prop)(ord:Zd)(cost:Nat->Int)(A:Vn)(dn:List Bool)(pE:Nat->Nat->Int->Prop):Prop where
 d:Zau n (AtI s) E ord cost A (fun _=>False) pE
 ba:∀b x,b<n->A b=some x->x<Xm
 ls:∀a,a∈ord->Un (AtI s) E a (cost a)
 ld:dn.length=n
 sett:∀b,b<n->(Zbt dn b=true↔b∈ord)
section
variable{n s:Nat}{E:Nat->Nat->Int->Prop}{ord:Zd}{cost:Nat->Int}{A:Vn}{dn:List Bool}{pE pE':Nat->Nat->Int->Prop}
def SeM.start(G:s<n):SeM n s E [] cost (Zad n (fun _=>none) s 0) (List.replicate n false) (fun _ _ _=>False):=by
 have H:Zau n (AtI s) E [] cost (fun _=>none) (fun _=>True) (fun _ _ _=>False):=Zau.start (fun _ _ _=>trivial);obtain⟨I,J⟩:=H.put (b:=s) (x:=0) G (by simp) (.inr (.init ⟨rfl,rfl⟩)) (by omega) (fun a h=>by simp at h);refine⟨I.less (fun b c h _=>by obtain⟨rfl,rfl⟩:=h;exact .inr (.inr J)) (fun a h=>by simp at h),fun b x hb h=>?_,fun a h=>by simp at h,by simp,fun b hb=>by simp[Zbt,hb]⟩;unfold Zad at h
 split at h
 ·by_cases q:b=s
  ·simp[q] at h;rw[<-h];decide
  simp[q] at h
 cases h
def SeM.less(p:SeM n s E ord cost A dn pE)(G:∀a,a∈ord->∀b w,E a b w->pE a b w->pE' a b w\/1152921504606846976<=cost a+w\/RxW ord cost A b (cost a+w)):SeM n s E ord cost A dn pE' :=
 ⟨p.d.less (fun _ _ _ h=>h.elim) G,p.ba,p.ls,p.ld,p.sett⟩
def SeM.pop(C:Zgq n (AtI s) E)(p:SeM n s E ord cost A dn (fun _ _ _=>False)){k:Nat}{c:Int}(m:Zo1 n A k c):
  k ∉ ord/\SeM n s E (ord++[k]) (Uj cost k c) (Zej A k) (dn.set k true) (fun a _ _=>a=k)/\(∀a,a∈ord++[k]->Uj cost k c a<=c)/\0<=c/\c<Xm:=by
 obtain⟨h1,J,O,h4,_⟩:=p.d.pop m;have hp:=p.d.popped C m;obtain⟨I,R,_⟩:=m;have U:=p.ba k c I R;have X:∀a,a∈ord->a≠k:=fun a H e=>h1 (e ▸ H);refine⟨h1,⟨J,fun b x G h=>?_,fun a H=>?_,by simp[p.ld],fun b G=>?_⟩,O,h4.1,U⟩
 ·unfold Zej at h;by_cases q:b=k
  ·rw[if_pos q] at h;cases h
  rw[if_neg q] at h;exact p.ba b x G h
 ·unfold Uj;by_cases q:a=k
  ·subst q;rw[if_pos rfl];exact hp
  rw[if_neg q];exact p.ls a ((List.mem_append.1 H).resolve_right (by simpa using q))
 rw[Zmt (by rw[p.ld];exact I)];by_cases q:b=k
 ·simp[q]
 rw[if_neg q];simp[q];exact p.sett b G
def SeM.put(p:SeM n s E ord cost A dn pE){k b:Nat}{w:Int}(H:k∈ord)(hb:b<n)(I:b ∉ ord)(J:E k b w)(h0:0<=w)(hx:cost k+w<Xm)(G:∀a,a∈ord->cost a<=cost k):
  SeM n s E ord cost (Zad n A b (cost k+w)) dn pE/\RxW ord cost (Zad n A b (cost k+w)) b (cost k+w):=by
 have X:Xm=1152921504606846976:=rfl;have bk:=p.d.bS k H;obtain⟨O,R⟩:=p.d.put (b:=b) (x:=cost k+w) hb I (by
  rcases p.d.wS k H with q|q
  ·exfalso;omega
  exact .inr (.step q J)) (by omega) (fun a U=>by have:=G a U;omega)
 refine⟨⟨O,fun y x hy h=>?_,p.ls,p.ld,p.sett⟩,R⟩;by_cases q:y=b
 ·subst q;unfold Zad at h;by_cases c:Zes n A y (cost k+w)=true
  ·rw[if_pos c] at h;simp at h;omega
  rw[if_neg c] at h;exact p.ba y x hy h
 have h':A y=some x:=by
  unfold Zad at h
  split at h
  ·simpa[q] using h
  exact h
 exact p.ba y x hy h'
end
def Znu(ts:Zd)(ord:Zd)(cost:Nat->Int)(RW:Zb):Prop:=RW.length=ts.length/\∀i (hi:i<ts.length),Zm RW i=if ts[i]∈ord then cost ts[i] else 1152921504606846976
def Zal(ks:Zb)(ord:Zd):Nat:=(ks.filter fun k=>decide (¬∃a,a∈ord/\(a:Int)=k)).length
def Z2t{ks:Zb}{ord:Zd}(h:Zal ks ord=0){t:Nat}(ht:(t:Int)∈ks):t∈ord:=by
 unfold Zal at h;rw[Xmt,Xmu] at h;have:=h t ht;simp at this;obtain⟨a,G,e⟩:=this;rw[show t=a by omega];exact G
def Zwq{α:Type}[DecidableEq α]{p q:α->Bool}{x:α}:∀{l:List α},l.Nodup->(∀y,y∈l->q y=(p y && !decide (y=x)))->p x=true->(l.filter q).length+(if x∈l then 1 else 0)=(l.filter p).length:=by
 intro l
 induction l with
 |nil=>intro _ _ _;rfl
 |cons y l H =>
  intro G hq hx;rw[List.nodup_cons] at G;have h1:=H G.2 (fun z hz=>hq z (by simp[hz])) hx;have hy:=hq y (by simp);by_cases e:y=x
  ·subst e;simp at hy;rw[if_neg G.1] at h1;simp[hy,hx];omega
  have I:¬x=y:=fun h=>e h.symm;simp[e] at hy;simp only[List.filter_cons,hy,Xli,I,false_or]
  split
  ·simp only[Xjn];omega
  exact h1
def Z8j{ks:Zb}{ord:Zd}{k:Nat}(I:ks.Nodup)(J:k ∉ ord):Zal ks (ord++[k])+(if (k:Int)∈ks then 1 else 0)=Zal ks ord:=by
 refine Zwq I (fun y _=>?_) ?_
 ·by_cases c:∃a,a∈ord/\(a:Int)=y
  ·obtain⟨a,G,e⟩:=c;have h1:∃b,b∈ord++[k]/\(b:Int)=y:=⟨a,by simp[G],e⟩
   have H:∃b,b∈ord/\(b:Int)=y:=⟨a,G,e⟩
   simp only[h1,H,not_true,decide_false,Bool.false_and]
  by_cases e:y=(k:Int)
  ·have h1:∃b,b∈ord++[k]/\(b:Int)=y:=⟨k,by simp,e.symm⟩
   simp only[e,decide_true,Bool.not_true,Bool.and_false];have H:∃b,b∈ord++[k]/\(b:Int)=(k:Int):=⟨k,by simp,rfl⟩
   simp only[H,not_true,decide_false]
  have h1:¬∃b,b∈ord++[k]/\(b:Int)=y:=by
   rintro⟨b,hb,e2⟩;rcases List.mem_append.1 hb with w|w
   ·exact c ⟨b,w,e2⟩
   simp at w;subst w;exact e e2.symm
  simp only[h1,c,e,not_false_iff,decide_true,decide_false,Bool.not_false,Bool.and_true]
 have:¬∃a,a∈ord/\(a:Int)=(k:Int):=by
  rintro⟨a,G,e⟩;exact J (by rw[show k=a by omega];exact G)
 simp only[this,not_false_iff,decide_true]
def WrM(Z:Zf)(M db rb:Nat)(Sh:Zf)(b:Nat):Prop:=b=M\/b=db\/b=rb\/Sh b\/Z b
structure Zcn(h:Zk)(Q:Zk->Prop)(Z:Zf)(M hp db rb:Nat)(n m:Nat)(N:Zs)(L:Za)(A:Vn)(RW:Zb)(dn:List Bool)(Sh:Zf)(cs:Zb)(sb:Nat):Prop where
 qf:Kp h (WrM Z M db rb Sh) Q
 gt:GtH h M (WrM Z M db rb Sh) N L
 od:Yh h 1 (Sl.at db n n) (Vo dn)
 ob:Yh h 1 (Sl.at rb m m) (Zu RW)
 hr:Q8 h hp n A Sh
 dj:∀b,Sh b->b≠M/\b≠db/\b≠rb
 dd:M≠db/\M≠rb/\db≠rb
 lM:M<h.size
 lZ:∀b,Z b->b<h.size
 wc:cs≠[]->¬WrM Z M db rb Sh sb/\sb<h.size
section
variable{h h':Zk}{Q:Zk->Prop}{Z:Zf}{M hp db rb n m:Nat}{N:Zs}{L:Za}{A A':Vn}{RW:Zb}{dn:List Bool}{Sh Sh':Zf}{cs:Zb}{sb:Nat}
def Zcn.cC(k:Zcn h Q Z M hp db rb n m N L A RW dn Sh cs sb)(e:Ext h h'):Zcn h' Q Z M hp db rb n m N L A RW dn Sh cs sb :=
 ⟨k.qf.then e (fun _ h=>h.elim) (fun _ h=>.inl h),k.gt.cD e (fun _ h=>h.elim),k.od.cF e,k.ob.cF e,k.hr.cD e (fun _ _ h=>h),k.dj,k.dd,by have:=e.size;have:=k.lM;omega,fun b hb=>by have:=e.size;have:=k.lZ b hb;omega,fun G=>by have:=e.size;have:=k.wc G;exact⟨this.1,by omega⟩⟩
def Zcn.heap(k:Zcn h Q Z M hp db rb n m N L A RW dn Sh cs sb)(G:Mod Sh h h')(H:Q8 h' hp n A' Sh')(f:∀b,Sh' b->Sh b\/h.size<=b):Zcn h' Q Z M hp db rb n m N L A' RW dn Sh' cs sb:=by
 have X:=k.lM;have J:=k.od.lt rfl;have O:=k.ob.lt rfl;simp at J O;have I:∀b,WrM Z M db rb Sh' b->WrM Z M db rb Sh b\/h.size<=b:=fun b hb=>by
  rcases hb with e|e|e|e|e
  ·exact .inl (.inl e)
  ·exact .inl (.inr (.inl e))
  ·exact .inl (.inr (.inr (.inl e)))
  ·rcases f b e with q|q
   ·exact .inl (.inr (.inr (.inr (.inl q))))
   exact .inr q
  exact .inl (.inr (.inr (.inr (.inr e))))
 have z:=G.size;refine⟨k.qf.then G (fun b hb=>.inl (.inr (.inr (.inr (.inl hb))))) I,k.gt.both G (fun b hb=>⟨.inl (.inr (.inr (.inr (.inl hb)))),(k.dj b hb).1⟩) I (.inl rfl),k.od.cD G (fun _ hb=>(k.dj _ hb).2.1 rfl),k.ob.cD G (fun _ hb=>(k.dj _ hb).2.2 rfl),H,fun b hb=>?_,k.dd,by omega,fun b hb=>by have:=k.lZ b hb;omega,fun R=>?_⟩
 ·rcases f b hb with q|q
  ·exact k.dj b q
  omega
 have U:=k.wc R;refine⟨fun hb=>?_,by omega⟩;rcases I _ hb with q|q
 ·exact U.1 q
 omega
def Zcn.mark{d:List Bool}(k:Zcn h Q Z M hp db rb n m N L A RW dn Sh cs sb)(G:Mod (fun j=>j=db) h h')(o:Yh h' 1 (Sl.at db n n) (Vo d)):Zcn h' Q Z M hp db rb n m N L A RW d Sh cs sb:=by
 have H:=k.dd;have z:=G.size;exact⟨k.qf.then G (fun b hb=>.inl (.inr (.inl hb))) (fun _ h=>.inl h),k.gt.cD G (fun b hb=>⟨.inl (.inr (.inl hb)),fun e=>H.1 (by rw[<-e];exact hb)⟩),o,k.ob.cD G (fun _ hb=>H.2.2 (Eq.symm hb)),k.hr.cD G (fun b hb e=>(k.dj b hb).2.1 e),k.dj,H,by have:=k.lM;omega,fun b hb=>by have:=k.lZ b hb;omega,fun I=>by have:=k.wc I;exact⟨this.1,by omega⟩⟩
def Zcn.setB{B':Zb}(k:Zcn h Q Z M hp db rb n m N L A RW dn Sh cs sb)(G:Mod (fun j=>j=rb) h h')(o:Yh h' 1 (Sl.at rb m m) (Zu B')):Zcn h' Q Z M hp db rb n m N L A B' dn Sh cs sb:=by
 have H:=k.dd;have z:=G.size;exact⟨k.qf.then G (fun b hb=>.inl (.inr (.inr (.inl hb)))) (fun _ h=>.inl h),k.gt.cD G (fun b hb=>⟨.inl (.inr (.inr (.inl hb))),fun e=>H.2.1 (by rw[<-e];exact hb)⟩),k.od.cD G (fun _ hb=>H.2.2 hb),o,k.hr.cD G (fun b hb e=>(k.dj b hb).2.2 e),k.dj,H,by have:=k.lM;omega,fun b hb=>by have:=k.lZ b hb;omega,fun I=>by have:=k.wc I;exact⟨this.1,by omega⟩⟩
def Zcn.gates(k:Zcn h Q Z M hp db rb n m N L A RW dn Sh cs sb)(G:Mod (fun j=>j=M) h h')(g:GtH h' M (fun j=>WrM Z M db rb Sh j/\j<h.size) N L):Zcn h' Q Z M hp db rb n m N L A RW dn Sh cs sb:=by
 have H:=k.dd;have z:=G.size;have I:=k.od.lt rfl;have J:=k.ob.lt rfl;simp at I J;have O:∀b,WrM Z M db rb Sh b->b<h.size:=fun b hb=>by
  rcases hb with e|e|e|e|e
  ·rw[e];exact k.lM
  ·rw[e];exact I
  ·rw[e];exact J
  ·exact k.hr.lt e
  exact k.lZ b e
 exact⟨k.qf.then G (fun b hb=>.inl (.inl hb)) (fun _ h=>.inl h),g.grow (fun b hb=>.inl ⟨hb,O b hb⟩) (.inl rfl),k.od.cD G (fun _ hb=>H.1 (Eq.symm hb)),k.ob.cD G (fun _ hb=>H.2.1 (Eq.symm hb)),k.hr.cD G (fun b hb e=>(k.dj b hb).1 e),k.dj,H,by have:=k.lM;omega,fun b hb=>by have:=k.lZ b hb;omega,fun R=>by have:=k.wc R;exact⟨this.1,by omega⟩⟩
end
structure Zrq(Y:Sys):Prop where
 X:Xde Y
 H:Z7c Y
 C:Zcu Y
 level:Y.cL 408 Y408
 plain:Y.cL 406 Y406
 row:Y.cL 370 Y370
abbrev HP(N:Zs)(L:Za)(cN:Zb)(s:Nat)(ts:Zd):=Zj3 N L.length (Xl L) (fun k=>Zbl N L cN (k-1)) (plP N L s ts)
def Z3v{N:Zs}{L:Za}{cN:Zb}{s:Nat}{ts:Zd}(ok:Yl N)(H:s<N.as.length)(I:∀i,0<=Zm cN i/\Zm cN i<=Xm):Zgq N.as.length (AtI s) (HP N L cN s ts):=by
 refine⟨fun b c h=>by obtain⟨rfl,rfl⟩:=h;exact⟨H,by omega⟩,fun a b w h=>?_⟩;unfold HP Zj3 at h;simp only[] at h
 split at h
 ·have:=Zd8 ok h;obtain⟨k,e,O⟩:=Ue h.2.1;exact⟨by omega,this⟩
 obtain⟨_,_,_,_,G,R⟩:=h;obtain⟨k,e,O⟩:=Ue G;have:=(Wd ok (a:=(b:Int))).resolve_left G;have h0:0<=Zbl N L cN (V6 (plP N L s ts) (Ys N a) L.length-1) a b:=by unfold Zbl;exact (I _).1
 exact⟨by omega,by omega⟩
def Zdh.m{N:Zs}{L:Za}{cN:Zb}{s:Nat}{ts:Zd}{a:Nat}{X ps:Zb}(n:Zdh N L cN (V6 (plP N L s ts) (Ys N a) L.length) a X ps)(b:Nat)(w:Int):
  HP N L cN s ts a b w↔∃j,j<X.length/\Zm X j=(b:Int)/\Zm ps j≠Xm/\Zr N b≠Xm/\w=Zm ps j+Zr N b:=by
 have h:=n.hop b;unfold HP Zj3;simp only[];constructor
 ·intro e
  split at e
  ·rename_i z;obtain⟨h1,G,H⟩:=e;obtain⟨i,ei,li⟩:=Ue G;obtain⟨j,I,O,h4,U⟩:=(h _).1 ⟨by omega,h1,by rw[if_pos z]⟩;exact⟨j,I,O,h4,G,by rw[<-U];exact H⟩
  rename_i z;obtain⟨h1,G,H,h4,U,h6⟩:=e;obtain⟨i,ei,li⟩:=Ue U;obtain⟨j,I,O,h7,h8⟩:=(h _).1 ⟨by omega,h4,by rw[if_neg z];exact⟨h1,G,H,rfl⟩⟩;exact⟨j,I,O,h7,U,by rw[<-h8];exact h6⟩
 rintro⟨j,I,O,h1,G,H⟩;obtain⟨lb,hx,R⟩:=(h (Zm ps j)).2 ⟨j,I,O,h1,rfl⟩
 split
 ·rename_i z;rw[if_pos z] at R;exact⟨by rw[<-R];exact hx,G,by rw[<-R];exact H⟩
 rename_i z;rw[if_neg z] at R;obtain⟨a1,a2,a3,a4⟩:=R;exact⟨a1,a2,a3,by rw[<-a4];exact hx,G,by rw[<-a4];exact H⟩
def MQ(J:Mj)(N:Zs)(S:Zf)(L:Za)(cN:Zb)(ts:Zd)(s wM:Nat)(u:Sl)(ks:Zb)(h:Zk):Prop:=MS J N S L cN ts h/\PlH u L N s ts h/\Zih h wM ks 0
def Zte:Stmt:=match Y370.body.rest.rest.rest.rest.rest.rest.rest.rest.rest with
 |.seq (.seq _ (.block _ (.loop (.seq _ (.block _ b))))) _=>b
 |s=>s
def Zsa:Stmt:=Zte.rest.rest.rest.rest
section
variable{Y:Sys}{h h':Zk}{J:Mj}{N:Zs}{S:Zf}{L:Za}{cN:Zb}{ts:Zd}
def RmE(Z:Zf)(J:Mj)(hp db rb wM s k:Nat)(c:Int)(lf:Nat)(u0 u w:Sl)(bs ps:Zb)(ks:Zb)(N:Zs)(S:Zf)(L:Za)(cN:Zb)(ts:Zd)(RW:Zb)(ord:Zd)(cost:Nat->Int)(dn:List Bool)(h0:Zk)(e:Zc)(h':Zk):Prop :=
 ∃(i:Nat)(A:Vn)(Sh:Zf)(O P Q d f g h l m o p q r t x y z B C D E F G H I K:Zj),
  e=[Zh J.qp,Zg s,O,.slice (some ⟨rb,0,none⟩) ts.length ts.length,.map (some wM),P,Q,u0.v,.slice (some ⟨db,0,none⟩) N.as.length N.as.length,Zh hp,Zg lf,Zg k,Zg c,d,f,g,h,l,u.v,w.v,m,o,p,q,r,t,x,y,z,B,C,D,E,F,G,H,u.v,Zg u.n,Zg i,I,K]/\i<=bs.length /\
  Zcn h' (MQ J N S L cN ts s wM u0 ks) Z J.M hp db rb N.as.length ts.length N L A RW dn Sh cN J.sc.b/\SeM N.as.length s (HP N L cN s ts) ord cost A dn (fun a b w'=>a=k/\∃j,i<=j/\j<bs.length/\Zm bs j=(b:Int)/\Zm ps j≠Xm/\Zr N b≠Xm/\w'=Zm ps j+Zr N b) /\
  Zw h' u bs/\Zw h' w ps/\(bs≠[]->¬WrM Z J.M db rb Sh u.b)/\(ps≠[]->¬WrM Z J.M db rb Sh w.b)/\Mod (fun b=>b=J.M) h0 h'/\(∀b,Sh b->h0.size<=b)
def RmO(Z:Zf)(J:Mj)(hp db rb wM s lf:Nat)(u0:Sl)(ks:Zb)(N:Zs)(S:Zf)(L:Za)(cN:Zb)(ts:Zd)(RW:Zb)(ord:Zd)(cost:Nat->Int)(dn:List Bool)(h0:Zk)(e:Zc)(h':Zk):Prop :=
 ∃(A:Vn)(Sh:Zf)(K O P a c d f g h i j k l m n o p q r t u w x y z B C D E F G H I:Zj),
  e=[Zh J.qp,Zg s,K,.slice (some ⟨rb,0,none⟩) ts.length ts.length,.map (some wM),O,P,u0.v,.slice (some ⟨db,0,none⟩) N.as.length N.as.length,Zh hp,Zg lf,a,c,d,f,g,h,i,j,k,l,m,n,o,p,q,r,t,u,w,x,y,z,B,C,D,E,F,G,H,I] /\
  Zcn h' (MQ J N S L cN ts s wM u0 ks) Z J.M hp db rb N.as.length ts.length N L A RW dn Sh cN J.sc.b/\SeM N.as.length s (HP N L cN s ts) ord cost A dn (fun _ _ _=>False)/\Mod (fun b=>b=J.M) h0 h'/\(∀b,Sh b->h0.size<=b)
set_option maxHeartbeats 1000000 in
def Zn4(X:Zrq Y){Z:Zf}{hp db rb wM s k lf:Nat}{c:Int}{u0:Sl}{ks:Zb}{RW:Zb}{O:Zd}{I:Nat->Int}{A:Vn}{dn:List Bool}{Sh:Zf}{h0:Zk}{K R:Zc->Zk->Prop}{E:Nat->Zc->Zk->Prop}
  (ok:Yl N) (pk:Yq N.vs.length L) (hE:W3 N L cN) (hs:s<N.as.length)
  (k6:Zcn h (MQ J N S L cN ts s wM u0 ks) Z J.M hp db rb N.as.length ts.length N L A RW dn Sh cN J.sc.b) (p5:SeM N.as.length s (HP N L cN s ts) O I A dn (fun a _ _=>a=k)) (lk:k<N.as.length) (hk:k∈O) (aS:I k=c) (ai:∀a,a∈O->I a<=c) (aT:0<=c) (cI:c<Xm)
  (aj:Mod (fun b=>b=J.M) h0 h) (U:∀b,Sh b->h0.size<=b) (be:h0.size<=db) (bg:h0.size<=rb)
  {v2 v5 v6 ak al am an ao aU aV ap aq ar au av aw ax ay az aA aB aC aD aE aF aG aW aX aY aH aI:Zj}
  (hK:∀e' H',RmO Z J hp db rb wM s lf u0 ks N S L cN ts RW O I dn h0 e' H'->K e' H') :
  Stmt.wp Y Zsa K E R [Zh J.qp,Zg s,v2,.slice (some ⟨rb,0,none⟩) ts.length ts.length,.map (some wM),v5,v6,u0.v,.slice (some ⟨db,0,none⟩) N.as.length N.as.length,Zh hp,Zg lf,Zg k,Zg c,ak,al,am,an,ao,aU,aV,ap,aq,ar,au,av,aw,ax,ay,az,aA,aB,aC,aD,aE,aF,aG,aW,aX,aY,aH,aI] h:=by
 have hI:Xm=1152921504606846976:=rfl;have ba:=ok.ba;have c0:∀i,0<=Zm cN i/\Zm cN i<=Xm:=fun i=>by
  rcases Xi6 i cN.length with w|w
  ·exact hE.c0 i w
  have:Zm cN i=0:=by simp[Zm,Xjl w]
  omega
 have aZ:∀g (x:Nat),x<N.as.length->Ym.cK Y g (.idxa 1) [.slice (some ⟨db,0,none⟩) N.as.length N.as.length,Zg x]=some (.pointer (some ⟨db,x,none⟩)):=fun g x lx=>by
  have:=Wz (Y:=Y) (h:=g) (b:=db) (sz:=1) (show N.as.length<=9223372036854775807 by omega) lx (Xi4 _);simpa using this
 obtain⟨e1,l1⟩:=Zfw ok lk;have q6:=k6.qf.now;simp[Zsa,Zte,Y370,Stmt.rest,q6.1.cM.hc];refine U0 X.X.G.To X.X.G.arc q6.1.g ?_;rw[e1];simp;refine Zt3 X.level q6.1 q6.2.1 pk l1 ?_;simp;refine Zxl X.X (k6.qf.mono fun g hg=>hg.1) k6.gt ok pk hE.len c0 (fun hn=>(k6.wc hn).1) lk Zh7 ?_;intro h7 u w bs ps m7 aJ ru ag fu fw nx;have z7:=m7.size;have k7:=k6.gates m7 aJ;have aK:Mod (fun b=>b=J.M) h0 h7:=aj.trans m7;have wl:∀b,WrM Z J.M db rb Sh b->b<h.size:=fun b hb=>by
  have a1:=k6.lM;have a2:=k6.od.lt rfl;have a3:=k6.ob.lt rfl;simp at a2 a3;rcases hb with e|e|e|e|e
  ·omega
  ·omega
  ·omega
  ·exact k6.hr.lt e
  exact k6.lZ b e
 have lu:=ru.len;have lw:=ag.len;have lb:=nx.len;have bh:=nx.bl;simp;refine Zp (RmE Z J hp db rb wM s k c lf u0 u w bs ps ks N S L cN ts RW O I dn h0) (fun e _=>bs.length-Zx e 38) ⟨0,A,Sh,_,_,_,_,_,_,_,_,_,_,_,_,_,_,_,_,_,_,_,_,_,_,_,_,_,_,rfl,by omega,k7,p5.less (fun a ha b w' he hp=>by
  subst hp;obtain⟨j,h1,h2,h3,h4,h5⟩:=(nx.m b w').1 he;exact .inl ⟨rfl,j,by omega,h1,h2,h3,h4,h5⟩),ru,ag,fun hn hb=>by
   rcases fu hn with e|e
   ·exact e hb
   ·have:=wl _ hb;omega,fun hn hb=>by
   rcases fw hn with e|e
   ·exact e hb
   have:=wl _ hb;omega,aK,U⟩ ?_
 clear wl fu fw aJ k7 aK z7 m7 ru ag aj k6 p5 U q6;rintro e h8 ⟨i,A,Sh,v2,v5,v6,ak,al,am,an,ao,ap,aq,ar,au,av,aw,ax,ay,az,aA,aB,aC,aD,aE,aF,aG,aH,aI,rfl,hi,k8,p8,ru,ac,nu,nw,m8,U⟩;by_cases ci:i<bs.length;rotate_left
 ·have a0:¬(i:Int)<u.n:=by omega
  simp[a0];exact hK _ _ ⟨A,Sh,_,_,_,_,_,_,_,_,_,_,_,_,_,_,_,_,_,_,_,_,_,_,_,_,_,_,_,_,_,_,_,_,_,rfl,k8,p8.less (fun a ha b w' he hp=>by obtain⟨_,j,h1,h2,_⟩:=hp;omega),m8,U⟩
 have a4:(i:Int)<u.n:=by omega
 have bi:i<u.n:=by omega
 have a5:(i:Int)<w.n:=by omega
 have bj:i<w.n:=by omega
 have wi:=wrapS (i:=i);obtain⟨b,eb,ad⟩:=nx.nat i ci;have vb:=ru.val i ci;rw[eb] at vb;have vp:=ac.val i (by omega);obtain⟨a6,bk⟩:=nx.pos i ci;have q8:=k8.qf.now;simp[a4,a5,Zl ru.ok,Zl ac.ok,vb,vp,q8.1.cM.hc];refine X8 X.X.G.Weight X.X.G.arc q8.1.g ?_;simp[vp];refine Wk rfl rfl rfl ?_;intro b9 h9 g9 _ e9 o9;have r9:Zw h9 (Sl.at b9 3 3) [c,Zm ps i,Zr N b]:=Yh.cE (cs:=[c,Zm ps i,Zr N b]) o9;simp;refine Zr6 X.C r9 ?_;have bm:=Wd ok (a:=(b:Int));rw[Zu1 aT a6];have k9:=k8.cC e9;have z9:=e9.size;have ah:Mod (fun b=>b=J.M) h0 h9:=m8.then e9 fun _ _ h=>h.elim;have a7:hc h9 db b=some (.bool (Zbt dn b)):=by
  have:=k9.od.cell (i:=b) (v:=.bool (Zbt dn b)) (by simp[Vo,Zbt,p8.ld,ad]);simpa using this
 obtain⟨q1,q2,q3,q4⟩:=Zrk (x:=c+Zm ps i+Zr N b);have aa:bs≠[]:=fun e=>by rw[e] at ci;simp at ci
 have ab:ps≠[]:=fun e=>aa (List.length_eq_zero_iff.1 (by rw[lb,e];rfl));have seen:∀{A':Vn},SeM N.as.length s (HP N L cN s ts) O I A' dn (fun a b w'=>a=k/\∃j,i<=j/\j<bs.length/\Zm bs j=(b:Int)/\Zm ps j≠Xm/\Zr N b≠Xm/\w'=Zm ps j+Zr N b) ->
   (Zm ps i≠Xm->Zr N b≠Xm->1152921504606846976<=I k+(Zm ps i+Zr N b)\/RxW O I A' b (I k+(Zm ps i+Zr N b))) ->
   SeM N.as.length s (HP N L cN s ts) O I A' dn (fun a b w'=>a=k/\∃j,i+1<=j/\j<bs.length/\Zm bs j=(b:Int)/\Zm ps j≠Xm/\Zr N b≠Xm/\w'=Zm ps j+Zr N b):=fun{A'} pp hx=>pp.less (fun a ha y w' he hp=>by
  obtain⟨rfl,j,h1,h2,h3,h4,h5,h6⟩:=hp;by_cases e:j=i
  ·subst e;have:y=b:=by omega
   subst this;subst h6;exact .inr (hx h4 h5)
  exact .inl ⟨rfl,j,by omega,h2,h3,h4,h5,h6⟩)
 by_cases aL:Vz (c+Zm ps i+Zr N b)<1152921504606846976;rotate_left
 ·simp[aL,wi];refine Go.Rm.nx ⟨i+1,A,Sh,_,_,_,_,_,_,_,_,_,_,_,_,_,_,_,_,_,_,_,_,_,_,_,_,_,_,rfl,by omega,k9,seen p8 (fun _ _=>.inl (by omega)),ru.cC e9,ac.cC e9,nu,nw,ah,U⟩
 simp[aL,aZ _ _ ad,a7]
 cases hd:Zbt dn b with
 |true =>
  have hb:=(p8.sett b ad).1 hd;simp[wi];refine Go.Rm.nx ⟨i+1,A,Sh,_,_,_,_,_,_,_,_,_,_,_,_,_,_,_,_,_,_,_,_,_,_,_,_,_,_,rfl,by omega,k9,seen p8 (fun h1 h2=>.inr (.inl ⟨hb,by have:=ai b hb;omega⟩)),ru.cC e9,ac.cC e9,nu,nw,ah,U⟩
 |false =>
  have hb:b ∉ O:=fun h=>by rw[(p8.sett b ad).2 h] at hd;cases hd
  have a8:Zm ps i≠Xm:=by omega
  have a9:Zr N b≠Xm:=by omega
  have hx:Vz (c+Zm ps i+Zr N b)=I k+(Zm ps i+Zr N b):=by omega
  have he:=(nx.m b (Zm ps i+Zr N b)).2 ⟨i,ci,eb,a8,a9,rfl⟩;obtain⟨pp,bb⟩:=p8.put hk ad hb he (by omega) (by omega) (fun a ha=>by rw[aS];exact ai a ha);simp;refine Zdb X.H.Put X.H.key X.C.Held X.H.up X.H.ahead X.H.swap k9.hr ?_;intro bc S10 H10 ae af;rw[show Vz (Vz (c+Zm ps i+Zr N b))=I k+(Zm ps i+Zr N b) by rw[Qz q2,hx]] at H10 ⊢;have bd:=k9.heap af H10 ae;have z8:=m8.size;have aM:Mod (fun b=>b=J.M) h0 bc:=ah.then af (fun i hi h=>by have:=U i h;omega);have aN:∀b,S10 b->h0.size<=b:=fun b hb=>by
   rcases ae b hb with e|e
   ·exact U b e
   omega
  have aO:=(ru.cC e9).cD af (fun _ e=>nu aa (.inr (.inr (.inr (.inl e)))));have aP:=(ac.cC e9).cD af (fun _ e=>nw ab (.inr (.inr (.inr (.inl e)))));have aQ:bs≠[]->¬WrM Z J.M db rb S10 u.b:=fun _ hb=>by
   rcases hb with e|e|e|e|e
   ·exact nu aa (.inl e)
   ·exact nu aa (.inr (.inl e))
   ·exact nu aa (.inr (.inr (.inl e)))
   ·rcases ae _ e with e|e
    ·exact nu aa (.inr (.inr (.inr (.inl e))))
    have:=Vk ru aa;omega
   exact nu aa (.inr (.inr (.inr (.inr e))))
  have aR:ps≠[]->¬WrM Z J.M db rb S10 w.b:=fun _ hb=>by
   rcases hb with e|e|e|e|e
   ·exact nw ab (.inl e)
   ·exact nw ab (.inr (.inl e))
   ·exact nw ab (.inr (.inr (.inl e)))
   ·rcases ae _ e with e|e
    ·exact nw ab (.inr (.inr (.inr (.inl e))))
    have:=Vk ac ab;omega
   exact nw ab (.inr (.inr (.inr (.inr e))))
  simp[wi];refine Go.Rm.nx ⟨i+1,_,S10,_,_,_,_,_,_,_,_,_,_,_,_,_,_,_,_,_,_,_,_,_,_,_,_,_,_,rfl,by omega,bd,seen pp (fun _ _=>.inr bb),aO,aP,aQ,aR,aM,aN⟩
def Zzf(N:Zs)(s:Nat)(ts:Zd)(RW:Zb):Prop:=RW.length=ts.length/\∀i (hi:i<ts.length),Un (Q6 N (s:Int)) (EdW N) ts[i] (Zm RW i)
def RmU(Z:Zf)(J:Mj)(hp db rb wM s:Nat)(u0:Sl)(ks:Zb)(N:Zs)(S:Zf)(L:Za)(cN:Zb)(ts:Zd)(h0:Zk)(m:Nat)(e:Zc)(h':Zk):Prop :=
 ∃(ord:Zd)(cost:Nat->Int)(dn:List Bool)(RW:Zb),Znu ts ord cost RW/\RmO Z J hp db rb wM s (Zal ks ord) u0 ks N S L cN ts RW ord cost dn h0 e h'/\m=N.as.length-ord.length
def RmT(Z:Zf)(J:Mj)(hp db rb wM s k:Nat)(c:Int)(lf:Nat)(u0:Sl)(ks:Zb)(N:Zs)(S:Zf)(L:Za)(cN:Zb)(ts:Zd)(RW:Zb)(A:Vn)(dn:List Bool)(Sh:Zf)(h0:Zk)(e:Zc)(h':Zk):Prop :=
 ∃(j:Nat)(RW':Zb)(K O P a d f g h l m o p q r t u w x y z B C D E F G H I:Zj),
  e=[Zh J.qp,Zg s,K,.slice (some ⟨rb,0,none⟩) ts.length ts.length,.map (some wM),O,P,u0.v,.slice (some ⟨db,0,none⟩) N.as.length N.as.length,Zh hp,Zg lf,Zg k,Zg c,a,d,f,g,h,l,m,o,p,q,r,t,u,w,x,y,z,B,J.st.v,Zg J.st.n,Zg j,C,D,E,F,G,H,I]/\j<=ts.length /\
  Zcn h' (MQ J N S L cN ts s wM u0 ks) Z J.M hp db rb N.as.length ts.length N L A RW' dn Sh cN J.sc.b/\RW'.length=ts.length/\(∀i (hi:i<ts.length),Zm RW' i=if i<j/\ts[i]=k then c else Zm RW i)/\Mod (fun b=>b=J.M) h0 h'
def Xbe(ok:Yl N)(H:Yq N.vs.length L)(O:W3 N L cN){s t:Nat}(G:Zr N s≠Xm)(ht:t∈ts){d:Int}(hd:Un (AtI s) (HP N L cN s ts) t d):Un (Q6 N (s:Int)) (EdW N) t d:=by
 have e:Q6 N (s:Int)=AtI s:=by
  funext b c
  apply propext;constructor
  ·rintro⟨h1,I,_⟩;exact⟨by omega,I⟩
  rintro⟨rfl,rfl⟩;exact⟨rfl,rfl,G⟩
 rw[e];refine (Zvs ok Z5g (Xau ht) (Zn0 H) (fun k h1 I=>?_) (fun b c h=>h)).1 hd;obtain⟨k',rfl⟩:∃k',k=k'+1:=⟨k-1,by omega⟩
 exact (O.level (k:=k') (by omega)).ent H ok
set_option maxHeartbeats 1000000 in
def Z0a(X:Zrq Y){Z:Zf}{hp db rb wM s:Nat}{u0:Sl}{ks:Zb}{RW0:Zb}{U:Nat->Int}{A0:Vn}{ae:List Bool}{Sh0:Zf}{h0:Zk}{R:Ze}
  (ok:Yl N) (pk:Yq N.vs.length L) (hE:W3 N L cN) (hs:s<N.as.length) (ht:∀t,t∈ts->t<N.as.length) (hb:ts.length<=1000) (aX:Zr N s≠Xm) (hn:ks.Nodup) (a4:ks.length<=1000) (aI:∀x,x∈ks↔x∈Xc ts)
  (k0:Zcn h (MQ J N S L cN ts s wM u0 ks) Z J.M hp db rb N.as.length ts.length N L A0 RW0 ae Sh0 cN J.sc.b) (p0:SeM N.as.length s (HP N L cN s ts) [] U A0 ae (fun _ _ _=>False)) (r0:Znu ts [] U RW0)
  (m0:Mod (fun b=>b=J.M) h0 h) (ab:∀b,Sh0 b->h0.size<=b) (aJ:h0.size<=db) (aK:h0.size<=rb)
  (hr:∀h' RW,Mod (fun b=>b=J.M) h0 h'->Zzf N s ts RW->Yh h' 1 (Sl.at rb ts.length ts.length) (Zu RW)->Kp h' (fun b=>Z b\/b=J.M) (MS J N S L cN ts)->GtH h' J.M (fun b=>Z b\/b=J.M) N L->R (.slice (some ⟨rb,0,none⟩) ts.length ts.length) h')
  {v2 v5 v6 aY aL aM af ag ah ai aj ak al am an ao ap aq ar au av aw ax ay aN aO aP az aA aB aC aD aE aF:Zj} :
  Stmt.wp Y Y370.body.rest.rest.rest.rest.rest.rest.rest.rest.rest (Up Y370.res R) (fun _ _ _=>False) (Up Y370.res R) [Zh J.qp,Zg s,v2,.slice (some ⟨rb,0,none⟩) ts.length ts.length,.map (some wM),v5,v6,u0.v,.slice (some ⟨db,0,none⟩) N.as.length N.as.length,Zh hp,aY,aL,aM,af,ag,ah,ai,aj,ak,al,am,an,ao,ap,aq,ar,au,av,aw,ax,ay,aN,aO,aP,az,aA,aB,aC,aD,aE,aF] h:=by
 have hI:Xm=1152921504606846976:=rfl;have ba:=ok.ba;have c0:∀i,0<=Zm cN i/\Zm cN i<=Xm:=fun i=>by
  rcases Xi6 i cN.length with w|w
  ·exact hE.c0 i w
  have:Zm cN i=0:=by simp[Zm,Xjl w]
  omega
 have C:=Z3v (ts:=ts) ok hs c0 (L:=L);have lt:=k0.qf.now.1.rt.len;simp at lt;have aQ:∀(H:Zk)(A:Vn)(RW:Zb)(dn:List Bool)(Sh:Zf),Zcn H (MQ J N S L cN ts s wM u0 ks) Z J.M hp db rb N.as.length ts.length N L A RW dn Sh cN J.sc.b->Mod (fun b=>b=J.M) h0 H->RW.length=ts.length->(∀i (I:i<ts.length),Un (AtI s) (HP N L cN s ts) ts[i] (Zm RW i))->R (.slice (some ⟨rb,0,none⟩) ts.length ts.length) H:=fun H A RW dn Sh k m lR hR =>
  hr H RW m ⟨lR,fun i I=>Xbe ok pk hE aX (Xi7 I) (hR i I)⟩ k.ob ((k.qf.mono fun g hg=>hg.1).then (S':=fun _=>False) (Mod.refl _) (fun _ h=>h.elim) (fun b hb=>.inl (hb.elim (fun z=>.inr (.inr (.inr (.inr z)))) .inl))) (k.gt.grow (fun b hb=>.inl (hb.elim (fun z=>.inr (.inr (.inr (.inr z)))) .inl)) (.inr rfl))
 have ac:=Z6p (Y:=Y) k0.qf.now.2.2;have l0:Zal ks []=ks.length:=by
  unfold Zal;rw[List.filter_eq_self.2 (fun a _=>by simp)]
 simp[Y370,Stmt.rest,ac];rw[<-l0];refine Ze5 (RmU Z J hp db rb wM s u0 ks N S L cN ts h0) _ ⟨[],U,ae,RW0,r0,⟨A0,Sh0,_,_,_,_,_,_,_,_,_,_,_,_,_,_,_,_,_,_,_,_,_,_,_,_,_,_,_,_,_,_,_,_,_,rfl,k0,p0,m0,ab⟩,rfl⟩ ?_;clear k0 p0 r0 m0 ab ac;rintro m e h4 ⟨G,O,dn,RW,r4,⟨A,Sh,v2,v5,v6,aL,aM,af,ag,ah,ai,aj,ak,al,am,an,ao,ap,aq,ar,au,av,aw,ax,ay,aN,aO,aP,az,aA,aB,aC,aD,aE,aF,rfl,k4,p4,m4,aG⟩,rfl⟩;by_cases z:Zal ks G=0
 ·simp[z];refine aQ h4 A RW dn Sh k4 m4 r4.1 fun i I=>?_;have ho:=Z2t z ((aI _).2 (List.mem_map.2 ⟨ts[i],Xi7 I,rfl⟩));rw[r4.2 i I,if_pos ho];exact p4.ls _ ho
 have z':(0:Int)<(Zal ks G:Nat):=by omega
 have z2:0<Zal ks G:=by omega
 simp[z2];refine Zk9 X.H.Pop X.H.down X.H.ahead X.H.swap k4.hr ?_ ?_
 ·intro hA;simp;refine aQ h4 A RW dn Sh k4 m4 r4.1 fun i I=>?_;rw[r4.2 i I];exact p4.d.least C hA (ht _ (Xi7 I))
 intro h5 k c ad H5 m5;have k5:=k4.heap m5 H5 (fun b hb=>.inl hb);have aR:Mod (fun b=>b=J.M) h0 h5:=m4.then m5 (fun i I h=>by have:=aG i h;omega);obtain⟨hk,p5,aS,aT,cI⟩:=p4.pop C ad;have lk:=ad.1;have aU:Uj O k c k=c:=by simp[Uj]
 have hM:N.as.length-(G++[k]).length<N.as.length-G.length:=by
  have:=Za1 p5.d.nd p5.d.lt;simp at this ⊢;omega
 have aZ:∀g (x:Nat),x<N.as.length->Ym.cK Y g (.idxa 1) [.slice (some ⟨db,0,none⟩) N.as.length N.as.length,Zg x]=some (.pointer (some ⟨db,x,none⟩)):=fun g x lx=>by
  have:=Wz (Y:=Y) (h:=g) (b:=db) (sz:=1) (show N.as.length<=9223372036854775807 by omega) lx (Xi4 _);simpa using this
 have a0:∀g (x:Nat),x<ts.length->Ym.cK Y g (.idxa 1) [.slice (some ⟨rb,0,none⟩) ts.length ts.length,Zg x]=some (.pointer (some ⟨rb,x,none⟩)):=fun g x lx=>by
  have:=Wz (Y:=Y) (h:=g) (b:=rb) (sz:=1) (show ts.length<=9223372036854775807 by omega) lx (Xi4 _);simpa using this
 simp[aZ _ _ lk];refine Zfc k5.od (k:=k) ?_ (by rw[Zgw,p4.ld];exact lk);intro h6 o6 m6;rw[Zec] at o6;have k6:=k5.mark m6 o6;have aH:Mod (fun b=>b=J.M) h0 h6:=aR.then m6 (fun i I h=>by omega);have q6:=k6.qf.now;have aa:=Zil (Y:=Y) q6.2.2 (x:=(k:Int)) (z:=Zg 0);rw[Zz7] at aa;have aV:=Z8j (ks:=ks) hn hk;have next:∀(RW':Zb),Znu ts (G++[k]) (Uj O k c) RW'->∀e' H',RmO Z J hp db rb wM s (Zal ks (G++[k])) u0 ks N S L cN ts RW' (G++[k]) (Uj O k c) (dn.set k true) h0 e' H'->RmU Z J hp db rb wM s u0 ks N S L cN ts h0 (N.as.length-(G++[k]).length) e' H':=fun RW' hR e' H' ho=>⟨_,_,_,RW',hR,ho,rfl⟩
 by_cases wk:(k:Int)∈ks;rotate_left
 ·rw[if_neg wk] at aa aV;have e0:Zal ks G=Zal ks (G++[k]):=by omega
  have hR:Znu ts (G++[k]) (Uj O k c) RW:=⟨r4.1,fun i I=>by
   have a1:ts[i]≠k:=fun e=>wk ((aI _).2 (List.mem_map.2 ⟨ts[i],Xi7 I,by rw[e]⟩));rw[r4.2 i I];simp[a1,Uj]⟩
  simp[-Ye];rw[Ye];simp[aa,-Ye];rw[Ye];simp[-Ye];rw[Ye];simp[-Ye];rw[Ye];rw[e0];refine Zn4 X ok pk hE hs k6 p5 lk (by simp) aU aS aT cI aH aG aJ aK ?_;intro e' H' ho;exact Zi1 (m':=N.as.length-(G++[k]).length) (next RW hR e' H' ho) hM
 rw[if_pos wk] at aa aV;have e1:IntKind.i64.wrap ((Zal ks G:Nat)-1:Int)=(Zal ks (G++[k]):Nat):=by
  have hl:Zal ks G<=ks.length:=by unfold Zal;exact Xki _ _
  rw[Zn];omega
 simp[aa,e1,q6.1.cM.hc];refine Zp (RmT Z J hp db rb wM s k c (Zal ks (G++[k])) u0 ks N S L cN ts RW _ (dn.set k true) Sh h0) (fun e _=>ts.length-Zx e 33) ⟨0,RW,_,_,_,_,_,_,_,_,_,_,_,_,_,_,_,_,_,_,_,_,_,_,_,_,_,_,_,_,rfl,by omega,k6,r4.1,fun i I=>by simp,aH⟩ ?_;clear k6 q6 aa aH m6 o6 k5 aR m5 k4 m4;rintro e h7 ⟨j,RW',v2,v5,v6,af,ag,ah,ai,aj,ak,al,am,an,ao,ap,aq,ar,au,av,aw,ax,ay,az,aA,aB,aC,aD,aE,aF,rfl,hj,k7,lR,hR,m7⟩;have q7:=k7.qf.now;by_cases cj:j<ts.length;rotate_left
 ·have a2:¬(j:Int)<J.st.n:=by omega
  have:j=ts.length:=by omega
  subst this;have a3:Znu ts (G++[k]) (Uj O k c) RW':=⟨lR,fun i I=>by
   rw[hR i I,r4.2 i I];by_cases e:ts[i]=k
   ·simp[e,I,Uj]
   simp[e,Uj]⟩
  simp[a2,-Ye];rw[Ye];refine Zn4 X ok pk hE hs k7 p5 lk (by simp) aU aS aT cI m7 aG aJ aK ?_;intro e' H' ho;exact Zi1 (m':=N.as.length-(G++[k]).length) (next RW' a3 e' H' ho) hM
 have aW:(j:Int)<J.st.n:=by omega
 have a5:j<J.st.n:=by omega
 have wj:=wrapS (i:=j);have vt:=q7.1.rt.val j (by simp;omega);rw[X6 cj] at vt;by_cases e:ts[j]=k
 ·rw[e] at vt;simp[aW,Zl q7.1.rt.ok,vt,a0 _ _ cj];refine Zfc k7.ob (k:=j) ?_;intro h8 o8 m8;rw[Um] at o8;have k8:=k7.setB m8 o8;simp[wj];refine nx ⟨j+1,_,_,_,_,_,_,_,_,_,_,_,_,_,_,_,_,_,_,_,_,_,_,_,_,_,_,_,_,_,rfl,by omega,k8,by simp[lR],fun i I=>?_,m7.then m8 (fun i I h=>by omega)⟩;rw[Vj];by_cases w:i=j
  ·subst w;simp[e]
  rw[if_neg w,hR i I];have:(i<j+1/\ts[i]=k)↔(i<j/\ts[i]=k):=by omega
  simp only[this]
 have e':¬((ts[j]:Nat):Int)=(k:Int):=by omega
 simp[aW,Zl q7.1.rt.ok,vt,e',wj];refine nx ⟨j+1,_,_,_,_,_,_,_,_,_,_,_,_,_,_,_,_,_,_,_,_,_,_,_,_,_,_,_,_,_,rfl,by omega,k7,lR,fun i I=>?_,m7⟩;rw[hR i I];by_cases w:i=j
 ·subst w;simp[e]
 have:(i<j+1/\ts[i]=k)↔(i<j/\ts[i]=k):=by omega
 simp only[this]
def RmI(J:Mj)(rb wM s:Nat)(ts:Zd)(h0:Zk)(e:Zc)(h':Zk):Prop :=
 ∃(j:Nat)(RW ks:Zb)(K L M N O P a b c d f g h k l m o p q r t u w y z A B C D E F G H I:Zj),
  e=[Zh J.qp,Zg s,K,.slice (some ⟨rb,0,none⟩) ts.length ts.length,.map (some wM),L,M,N,O,P,a,b,c,d,f,g,h,k,l,m,o,p,q,J.st.v,Zg J.st.n,Zg j,r,t,u,w,y,z,A,B,C,D,E,F,G,H,I]/\j<=ts.length /\
  Yh h' 1 (Sl.at rb ts.length ts.length) (Zu RW)/\RW.length=ts.length/\(∀i,i<j->Zm RW i=1152921504606846976)/\Zih h' wM ks 0/\ks.Nodup/\ks.length<=j/\(∀x,x∈ks↔x∈Xc (ts.take j))/\Ext h0 h'
set_option maxHeartbeats 1000000 in
def Z2w(X:Zrq Y){Z:Zf}(q:Kp h (fun b=>Z b\/b=J.M) (MS J N S L cN ts))(gt:GtH h J.M (fun b=>Z b\/b=J.M) N L)(lM:J.M<h.size)(lZ:∀b,Z b->b<h.size)(wc:cN≠[]->¬Z J.sc.b/\J.sc.b≠J.M)
  (ok:Yl N) (pk:Yq N.vs.length L) (hE:W3 N L cN) {s:Nat} (hs:s<N.as.length) (ht:∀t,t∈ts->t<N.as.length) (hb:ts.length<=1000) {R:Ze}
  (hr:∀h' I RW,Mod (fun b=>b=J.M) h h'->h.size<=I->Zzf N s ts RW->Yh h' 1 (Sl.at I ts.length ts.length) (Zu RW)->Kp h' (fun b=>Z b\/b=J.M) (MS J N S L cN ts)->GtH h' J.M (fun b=>Z b\/b=J.M) N L->R (.slice (some ⟨I,0,none⟩) ts.length ts.length) h') :
  Zt Y 370 [Zh J.qp,Zg s] h R:=by
 have ba:=ok.ba;have qs:=q.now;have lt:=qs.rt.len;simp at lt;refine .o X.row ?_;simp[Y370,Yw.wp,qs.cM.hc];rw[<-lt];refine Zao (n:=ts.length) ?_;intro I h1 O o1 e1 al;simp;refine Zfu ?_;intro wM h2 gM mM e2;have x2:=e1.trans e2;have q2:=q h2 (x2.mono fun _ _ h=>h.elim);have ab:∀g (x:Nat),x<ts.length->Ym.cK Y g (.idxa 1) [.slice (some ⟨I,0,none⟩) ts.length ts.length,Zg x]=some (.pointer (some ⟨I,x,none⟩)):=fun g x lx=>by
  have:=Wz (Y:=Y) (h:=g) (b:=I) (sz:=1) (show ts.length<=9223372036854775807 by omega) lx (Xi4 _);simpa using this
 simp[q2.cM.hc];refine Zp (RmI J I wM s ts h) (fun e _=>ts.length-Zx e 25) ⟨0,_,[],_,_,_,_,_,_,_,_,_,_,_,_,_,_,_,_,_,_,_,_,_,_,_,_,_,_,_,_,_,_,_,_,_,_,rfl,by omega,o1.cF e2,by simp,fun i U=>by omega,mM,Xmi,by simp,by simp,x2⟩ ?_;rintro e h3 ⟨j,RW,ks,d,f,l,m,p,r,am,an,ao,ap,aq,ar,au,av,aw,ax,ay,az,aA,aB,aC,aD,aE,aF,aG,aH,aI,aJ,aK,aL,aM,aN,aO,aP,rfl,hj,o3,lR,hR,m3,nd,lk,hk,x3⟩;have q3:=q h3 (x3.mono fun _ _ h=>h.elim);by_cases cj:j<ts.length
 ·have ac:(j:Int)<J.st.n:=by omega
  have ad:j<J.st.n:=by omega
  have wj:=wrapS (i:=j);have vt:=q3.rt.val j (by simp;omega);rw[X6 cj] at vt;simp[ac,ad,Zl q3.rt.ok,vt,ab _ _ cj];refine Zfc o3 (k:=j) ?_;intro h4 o4 m4;rw[Um] at o4;have l3:=o3.lt rfl;simp only[Sl.at_b] at l3;have ae:=m3.cD m4 (by omega);simp;refine Zl5 (x:=0) ae ?_;intro h5 af m5;simp[wj];refine nx ⟨j+1,_,_,_,_,_,_,_,_,_,_,_,_,_,_,_,_,_,_,_,_,_,_,_,_,_,_,_,_,_,_,_,_,_,_,_,_,rfl,by omega,o4.cD m5 (fun _ h=>by simp only[Sl.at_b] at h;omega),by simp[lR],fun i U=>?_,af,?_,?_,fun x=>?_,Mod.cC (Mod.cC x3 m4 (fun j hj=>by omega)) m5 (fun j hj=>by omega)⟩
  ·rw[Vj];by_cases w:i=j
   ·simp[w]
   rw[if_neg w];exact hR i (by omega)
  ·split
   ·exact nd
   rename_i c;rw[Xl9];exact⟨nd,by simp,fun a ha b hb=>by simp at hb;subst hb;exact fun e=>c (e ▸ ha)⟩
  ·split
   ·omega
   simp;omega
  have hx:=hk x;have ag:x∈Xc (ts.take (j+1))↔x∈Xc (ts.take j)\/x=((ts[j]:Nat):Int):=by
   rw[Xjc cj];simp only[Xc,Xjj,Xms,Xjx,Xkv,Xlj]
  rw[ag,<-hx]
  split
  ·rename_i c;constructor
   ·exact .inl
   rintro (w|w)
   ·exact w
   rw[w];exact c
  simp
 have ah:¬(j:Int)<J.st.n:=by omega
 have:j=ts.length:=by omega
 subst this;rw[Xj9] at hk;have aa:Znu ts [] (fun _=>0) RW:=⟨lR,fun i U=>by rw[hR i U];simp⟩
 simp[ah,q3.cM.hc];refine X8 X.X.G.Weight X.X.G.arc q3.g ?_;have ai:=Wd ok (a:=(s:Int));by_cases ws:Zr N s=1152921504606846976
 ·simp[ws];refine hr h3 I RW (x3.mono fun _ _ h=>h.elim) O ⟨lR,fun i U=>?_⟩ o3 (q.then x3 (fun _ h=>h.elim) fun b h=>.inl h) (gt.cD x3 fun _ h=>h.elim);rw[hR i U];refine⟨Xkh _,fun c w=>?_,.inl rfl⟩;exfalso;have:∀b c,Yx (Q6 N (s:Int)) (EdW N) b c->False:=fun b c w=>by
   induction w with
   |init h=>exact h.2.2 ws
   |step _ _ ih=>exact ih
  exact this _ _ w
 have aj:¬1152921504606846976<=Zr N s:=by have:=ai.resolve_left ws;omega
 simp[aj];refine Zu5 X.X X.plain (q.then x3 (fun _ h=>h.elim) (fun b h=>h.elim)) ok pk hs ht hb ?_;intro h4 u x4 pl;have y4:=x3.trans x4;have q4:=q h4 (y4.mono fun _ _ h=>h.elim);simp[q4.cM.hc];refine Q3 X.X.G.Arcs q4.g ?_;simp;refine Zh2 (n:=N.as.length) ?_;intro db h5 aQ o5 e5 aR;simp;refine Zm4 X.H.New ?_;intro h6 hp S6 H6 f6 e6;rw[Zlj ba] at H6;have z4:=x4.size;have z6:=e6.size;have y6:=(y4.trans e5).trans e6;have l3:=o3.lt rfl;simp only[Sl.at_b] at l3;have aS:=m3.lt;have W6:∀b,WrM Z J.M db I S6 b->(Z b\/b=J.M)\/h.size<=b:=fun b hb=>by
  rcases hb with e|e|e|e|e
  ·exact .inl (.inr e)
  ·exact .inr (by omega)
  ·exact .inr (by omega)
  ·exact .inr (by have:=f6 b e;omega)
  exact .inl (.inl e)
 have W6':∀b,WrM Z J.M db I S6 b->(b≠wM/\b<h.size)\/b=I\/h4.size<=b:=fun b hb=>by
  rcases hb with e|e|e|e|e
  ·exact .inl ⟨by omega,by omega⟩
  ·exact .inr (.inr (by omega))
  ·exact .inr (.inl e)
  ·exact .inr (.inr (by have:=f6 b e;omega))
  have:=lZ b e;exact .inl ⟨by omega,by omega⟩
 have k6:Zcn h6 (MQ J N S L cN ts s wM u ks) Z J.M hp db I N.as.length ts.length N L (fun _=>none) RW (List.replicate N.as.length false) S6 cN J.sc.b:=by
  refine⟨fun k mk=>⟨q k ((y6.mono fun _ _ h=>h.elim).then mk fun i U hw=>by rcases W6 i hw with e|e;exact e;omega),?_,?_⟩,gt.both y6 (fun _ h=>h.elim) W6 (.inl rfl),by simpa[Vo] using o5.cF e6,((o3.cF x4).cF e5).cF e6,H6,fun b hb=>?_,⟨by omega,by omega,by omega⟩,by omega,fun b hb=>by have:=lZ b hb;omega,fun hn=>?_⟩
  ·refine pl k (((e5.trans e6).mono fun _ _ h=>h.elim).then mk fun b hb hw=>?_);rcases W6' b hw with e|e|e<;>omega
  ·exact ((((m3.cD x4 (fun h=>h)).cD e5 (fun h=>h)).cD e6 (fun h=>h))).cD mk (fun hb=>by
    rcases W6' _ hb with e|e|e
    ·exact e.1 rfl
    ·omega
    omega)
  ·have:=f6 b hb;omega
  have w1:=wc hn;have w2:=Vk qs.rc hn;refine⟨fun hb=>?_,by omega⟩;rcases W6 _ hb with e|e
  ·rcases e with e|e
   ·exact w1.1 e
   exact w1.2 e
  omega
 simp;refine Zdb X.H.Put X.H.key X.C.Held X.H.up X.H.ahead X.H.swap H6 ?_;intro h7 S7 H7 f7 m7;rw[Qz] at H7;have k7:=k6.heap m7 H7 f7;have ak:Mod (fun b=>b=J.M) h h7:=(y6.mono fun _ _ h=>h.elim).then m7 (fun i U h=>by have:=f6 i h;omega);simp[-Ye];rw[Ye];refine Z0a X ok pk hE hs ht hb ws nd (by omega) hk k7 (SeM.start hs) aa ak (fun b hb=>by rcases f7 b hb with w|w;(have:=f6 b w;omega);omega) (by omega) O ?_;intro h8 RW8 m8 rt o8 q8 g8;exact hr h8 I RW8 m8 O rt o8 q8 g8
end
structure Zwj(Y:Sys):Prop where
 R:Zrq Y
 known:Y.cL 368 Y368
 newQ:Y.cL 369 Y369
 Table:Y.cL 350 Y350
def Z64{N:Zs}(ok:Yl N){s:Int}{b:Nat}{c:Int}(w:Yx (Q6 N s) (EdW N) b c):0<=c:=by
 induction w with
 |init h=>exact Int.le_of_eq h.2.1.symm
 |step _ e G=>have:=Zd8 ok e;omega
def Zla{N:Zs}(ok:Yl N){s:Int}{b:Nat}{d:Int}(h:Un (Q6 N s) (EdW N) b d):0<=d:=by
 rcases h.is with e|w
 ·omega
 exact Z64 ok w
def Zpv(N:Zs)(ps:Zd)(D:Za):Prop:=D.length=ps.length/\∀i (hi:i<ps.length),Zzf N ps[i] ps (Yc D i)
def Zpv.tab{N:Zs}(ok:Yl N){ps:Zd}{D:Za}(t:Zpv N ps D):Zgx ps.length D:=by
 refine⟨t.1,fun i G=>(t.2 i G).1,fun i k G H=>?_⟩;have h:=(t.2 i G).2 k H;exact⟨Zla ok h,h.le⟩
section
variable{Y:Sys}{h h':Zk}{N:Zs}{S:Zf}{L:Za}{cN:Zb}{ts:Zd}
def KnI(p:Nat)(b:Zj)(s:Sl)(m:Nat)(h0:Zk)(e:Zc)(h':Zk):Prop :=
 ∃(i:Nat)(c d f g a:Zj),e=[Zh p,b,s.v,c,d,f,s.v,Zg s.n,Zg i,g,a]/\i<=m/\h'=h0
def Zji(H:Y.cL 368 Y368)(HA:Y.cL 209 Y209){p:Nat}{G:Zj}{s:Sl}(g:Xi h p N S)(r:Zw h s (Xc ts))(ht:∀t,t∈ts->t<N.as.length){R:Ze}(J:R .nilIface h)(hb:ts.length<=1000:=by omega):
  Zt Y 368 [Zh p,G,s.v] h R:=by
 have O:=r.len;simp at O;refine .o H ?_;simp[Y368,Yw.wp];refine Zp (KnI p G s ts.length h) (fun e _=>ts.length-Zx e 8) ⟨0,_,_,_,_,_,rfl,by omega,rfl⟩ ?_;rintro e h1 ⟨i,v3,v4,v5,v9,U,rfl,hi,rfl⟩;by_cases c:i<ts.length;rotate_left
 ·have c':¬(i:Int)<s.n:=by omega
  simp[c'];exact J
 have c':(i:Int)<s.n:=by omega
 have X:i<s.n:=by omega
 have w1:=wrapS (i:=i);have I:=r.val i (by simp;omega);rw[X6 c] at I;have lt:=ht ts[i] (Xi7 c);have n1:¬((ts[i]:Nat):Int)<0:=by omega
 have n2:¬(N.as.length:Int)<=((ts[i]:Nat):Int):=by omega
 have n3:¬N.as.length<=ts[i]:=by omega
 simp[c',X,Zl r.ok,I,n1];refine Q3 HA g ?_;simp[n2,n3,w1];exact nx ⟨i+1,_,_,_,_,_,rfl,by omega,rfl⟩
def Zwr(X:Zwj Y){p op:Nat}{G H:Sl}(g:Xi h p N S)(v:Uq h op N L)(rc:Zw h G cN)(rt:Zw h H (Xc ts))(pk:Yq N.vs.length L){R:Ze}
  (hr:∀h' (J:Mj),J.sc=G->J.st=H->h.size<=J.M->J.M<h'.size->Ext h h'->Kp h' (fun b=>b=J.M) (MS J N S L cN ts)->GtH h' J.M (fun b=>b=J.M) N L->R (Zh J.qp) h') :
  Zt Y 369 [Zh p,Zh op,G.v,H.v] h R:=by
 have bL:=pk.bL;have bn:=pk.bn;refine .o X.newQ ?_;simp[Y369,Yw.wp];refine Zgg X.R.X.A.O v (by omega) (fun i hi=>by have:=(Xq pk hi).1;omega) ?_;intro h1 I e1 fL;have hf:∀g,Ym.cK Y g (.fld 0 1 false) [W7 I]=some I.v:=fun g=>rfl;simp[hf];refine Zo7 ?_;intro M h2 gM mM e2;have lM:=mM.lt;have x2:=e1.trans e2;have hb:Ym.cK Y h2 (.build #[.pointer none,.pointer none,Zi,Zi,Zi,.map none] [(0,1),(1,1),(2,1),(3,1),(4,1),(5,1)] [0,1,2,3,4,5]) [Zh p,Zh op,G.v,H.v,I.v,.map (some M)]=some (.agg #[Zh p,Zh op,G.v,H.v,I.v,.map (some M)]):=by
  simp[Ym.cK,Instr.fill,Value.cells,Sl.v]
 simp[hb];refine Zo ?_;intro qp h4 gq Q4 U;replace Q4:Yo h4 qp #[Zh p,Zh op,G.v,H.v,I.v,.map (some M)]:=Q4;have x4:=x2.trans U;have z1:=e1.size;have z4:=U.size;have aa:Ext h1 h4:=e2.trans U;simp;refine hr h4 ⟨qp,p,op,M,G,H,I⟩ rfl rfl (by simp only[];omega) (by simp only[];omega) x4 (fun k mk=>?_) ⟨⟨[],mM.cD U (fun h=>h),fun p hp=>by simp at hp⟩,rfl⟩;simp only[] at mk;have xk:Ext h k:=Mod.cC x4 mk (fun j hj=>by omega);have yk:Ext h1 k:=Mod.cC aa mk (fun j hj=>by omega);have Qk:Yo k qp _:=mk.cM Q4 (fun e=>by omega);exact⟨Qk,g.cC xk,v.cC xk,rc.cC xk,rt.cC xk,fL k (yk.mono fun _ _ h=>h.elim)⟩
def TbI(J:Mj)(tb p op:Nat)(N:Zs)(S:Zf)(L:Za)(cN:Zb)(ps:Zd)(h0:Zk)(e:Zc)(h':Zk):Prop :=
 ∃(i:Nat)(D:Za)(cells:Zc)(m o q r a c d f g h k l:Zj),e=[Zh p,Zh op,J.sc.v,J.st.v,J.st.v,m,o,q,r,Zh J.qp,.slice (some ⟨tb,0,none⟩) ps.length ps.length,a,c,d,f,g,h,k,J.st.v,Zg J.st.n,Zg i,l]/\i<=ps.length /\
  Yh h' 1 (Sl.at tb ps.length ps.length) cells/\cells.length=ps.length/\D.length=i/\Ext h0 h'/\Kp h' (fun b=>b=tb\/b=J.M) (MS J N S L cN ps)/\GtH h' J.M (fun b=>b=tb\/b=J.M) N L/\J.M<h'.size /\
  ∀j (hj:j<i) (hj':j<ps.length),∃rb,cells[j]? = some (.slice (some ⟨rb,0,none⟩) ps.length ps.length)/\rb≠tb/\rb≠J.M/\Yh h' 1 (Sl.at rb ps.length ps.length) (Zu (Yc D j))/\Zzf N ps[j] ps (Yc D j)
set_option maxHeartbeats 1000000 in
def Zru(X:Zwj Y){p op:Nat}{sc st:Sl}(g:Xi h p N S)(v:Uq h op N L)(rc:Zw h sc cN){ps:Zd}(rt:Zw h st (Xc ps))(ok:Yl N)(pk:Yq N.vs.length L)(hE:W3 N L cN)(ht:∀t,t∈ps->t<N.as.length)(hb:ps.length<=64){R:Ze}
  (hr:∀h' u D,Ext h h'->Wm h' u D->Zpv N ps D->R (.tuple #[u.v,.nilIface]) h') :
  Zt Y 350 [Zh p,Zh op,sc.v,st.v,st.v] h R:=by
 have lc:=rc.len;have le:=hE.len;have lt:=rt.len;simp at lt;have n1:¬(64:Int)<st.n:=by omega
 have n2:¬64<st.n:=by omega
 refine .o X.Table ?_;simp[Y350,Yw.wp,n1,n2];refine Zcy X.R.X.A v ?_;have q:(sc.n:Int)=(Zz N L L.length:Nat):=by omega
 have q':sc.n=Zz N L L.length:=by omega
 simp[q,q'];refine Zji X.known X.R.X.G.Arcs g rt ht ?_;simp;refine Zji X.known X.R.X.G.Arcs g rt ht ?_;simp;refine Zwr X g v rc rt pk ?_;rintro h1 ⟨qp,p',ae,M,aa,ab,sL⟩ e1 e2 gM lM x1 q1 ac;simp only[] at e1 e2;subst e1 e2;simp only[] at gM lM q1 ac;simp;rw[<-lt];refine Zhs (n:=ps.length) ?_;intro O h2 an o2 e2 ao;have x2:=x1.trans e2;have af:∀g (i:Nat),i<ps.length->Ym.cK Y g (.idxa 1) [.slice (some ⟨O,0,none⟩) ps.length ps.length,Zg i]=some (.pointer (some ⟨O,i,none⟩)):=fun g i c=>by
  have:=Wz (Y:=Y) (h:=g) (b:=O) (sz:=1) (show ps.length<=9223372036854775807 by omega) c (Xi4 _);simpa using this
 simp;generalize hJ:(⟨qp,p',ae,M,aa,ab,sL⟩:Mj)=J at q1;have hM:J.M=M:=by rw[<-hJ]
 have ag:J.qp=qp:=by rw[<-hJ]
 have hst:J.st=ab:=by rw[<-hJ]
 have ah:J.sc=aa:=by rw[<-hJ]
 clear hJ;subst hM ag hst ah;refine Zp (TbI J O p op N S L cN ps h) (fun e _=>ps.length-Zx e 20) ⟨0,[],_,_,_,_,_,_,_,_,_,_,_,_,_,rfl,by omega,o2,by simp,rfl,x2,q1.then e2 (fun _ h=>h.elim) (fun b hb=>by rcases hb with e|e;exact .inr (by omega);exact .inl e),ac.both e2 (fun _ h=>h.elim) (fun b hb=>by rcases hb with e|e;exact .inr (by omega);exact .inl e) (.inr rfl),by omega,fun j I=>by omega⟩ ?_;rintro e h3 ⟨i,D,cells,v5,v6,v7,v8,ap,aq,ar,au,av,aw,ax,ay,rfl,hi,o3,ad,lD,x3,q3,ai,aj,H⟩;have l3:=o3.lt rfl;simp only[Sl.at_b] at l3;by_cases c:i<ps.length;rotate_left
 ·have c':¬(i:Int)<J.st.n:=by omega
  have:i=ps.length:=by omega
  subst this;simp[c'];refine hr h3 (Sl.at O ps.length ps.length) D x3 ⟨o3.ok,by simpa using lD,fun j I=>?_⟩ ⟨lD,fun j I=>?_⟩
  ·obtain⟨rb,hc,_,_,oo,_⟩:=H j (by omega) (by omega);exact⟨Sl.at rb ps.length ps.length,by have:=o3.cell hc;simpa using this,oo.cE⟩
  obtain⟨rb,hc,_,_,oo,rr⟩:=H j I I;exact rr
 have c':(i:Int)<J.st.n:=by omega
 have ci:i<J.st.n:=by omega
 have w1:=wrapS (i:=i);have vt:=(rt.cC x3).val i (by simp;omega);rw[X6 c] at vt;simp[c',ci,Zl rt.ok,vt];refine Z2w X.R (Z:=fun b=>b=O) q3 ai aj (fun b hb=>by omega) (fun hn=>by have:=Vk rc hn;exact⟨by omega,by omega⟩) ok pk hE (ht _ (Xi7 c)) ht (by omega) ?_;intro h4 rb RW m4 az rT o4 q4 ak;have z4:=m4.size;simp[af _ _ c];refine Zfc (o3.cD m4 (fun _ h=>by simp only[Sl.at_b] at h;omega)) (k:=i) ?_ (by omega);intro h5 o5 U;have z5:=U.size;have x4:Ext h h4:=Mod.cC x3 m4 (fun j I=>by omega);have x5:Ext h h5:=Mod.cC x4 U (fun j I=>by omega);have nD:∀j,j<i->Yc (D++[RW]) j=Yc D j:=fun j I=>by simp[Yc,Xjm (show j<D.length by omega)]
 simp[w1];refine nx ⟨i+1,D++[RW],_,_,_,_,_,_,_,_,_,_,_,_,_,rfl,by omega,o5,by simp[ad],by simp[lD],x5,q4.then U (fun b hb=>.inl (.inl hb)) (fun b hb=>.inl hb),ak.cD U (fun b hb=>⟨.inl (.inl hb),by omega⟩),by omega,fun j I al=>?_⟩;by_cases e:j=i
 ·subst e;have:Yc (D++[RW]) j=RW:=by simp[Yc,lD]
  rw[this];exact⟨rb,by simp[ad,c],by omega,by omega,o4.cD U (fun _ h=>by simp only[Sl.at_b] at h;omega),rT⟩
 obtain⟨am,hc,n3,n4,oo,rr⟩:=H j (by omega) al;rw[nD j (by omega)];exact⟨am,by rw[Xlb (fun h=>e h.symm)];exact hc,n3,n4,(oo.cD m4 (fun _ h=>by simp only[Sl.at_b] at h;omega)).cD U (fun _ h=>by simp only[Sl.at_b] at h;omega),rr⟩
end
end Go.Rm
