import Derived.Test.YtmacmgjnmaajdaaGreatDoorT17
/- Parts. -/
set_option linter.all false
namespace Go.Rm
def Zeu(x:Nat × Nat):cR:=.agg #[.int .i64 x.1,.int .i64 x.2]
def Zm7(h:Zk)(M:Nat)(l:List ((Nat × Nat) × cR)):Prop:=∃es clock,h[M]? = some (.map es clock)/\es.toList.map (fun e=>(e.key,e.val))=l.map fun p=>(Zeu p.1,p.2)
def Zdj(l:List ((Nat × Nat) × cR))(x:Nat × Nat):Option cR:=(l.find? fun p=>p.1 == x).map (·.2)
def Z8y{c d:Nat × Nat}:Zce (some 2) (Zeu c) (Zeu d)=some (d == c):=by
 obtain⟨G,H⟩:=c;obtain⟨I,J⟩:=d;simp[Zeu,Zce,Z9];rw[Xmn];simp;omega
def Zyk{c:Nat × Nat}:Zb3 (some 2) (Zeu c)=true:=by simp[Zeu,Zb3,Zvo]
def Zyd{x:Nat × Nat}:∀{G:List MapEntry}{l:List ((Nat × Nat) × cR)}{n:Nat},G.map (fun e=>(e.key,e.val))=l.map (fun p=>(Zeu p.1,p.2)) ->
  (∃j v,Uf (some 2) (Zeu x) G n=some (some (j,v))/\Zdj l x=some v)\/(Uf (some 2) (Zeu x) G n=some none/\Zdj l x=none):=by
 intro G
 induction G with
 |nil =>
  intro l n h;have:l=[]:=by simpa using h.symm
  subst this;exact .inr ⟨rfl,rfl⟩
 |cons e G H =>
  intro l n h
  cases l with
  |nil=>simp at h
  |cons d l =>
   simp only[Xjx,Xl2,Prod.mk.injEq] at h;obtain⟨⟨h0,h1⟩,I⟩:=h;unfold Uf;rw[h0,Z8y]
   cases q:d.1 == x with
   |true=>exact .inl ⟨n,e.val,rfl,by simp[Zdj,q,h1]⟩
   |false =>
    have J:Zdj (d::l) x=Zdj l x:=by simp[Zdj,q]
    rw[J];rcases H (n:=n+1) I with⟨j,v,f,hv⟩|⟨f,hv⟩
    ·exact .inl ⟨j,v,f,hv⟩
    exact .inr ⟨f,hv⟩
def Zok{l:List ((Nat × Nat) × cR)}{x:Nat × Nat}{v:Zj}(h:Zdj l x=some v):(x,v)∈l:=by
 unfold Zdj at h;rw[Xi5] at h;obtain⟨p,h1,H⟩:=h;have G:=Xml h1;have h4:=Xmk h1;simp at G;obtain⟨a,b⟩:=p;simp at H G;subst H G;exact h4
section
variable{Y:Sys}{h h':Zk}
def Zm7.lt{l:List ((Nat × Nat) × cR)}{M:Nat}(m:Zm7 h M l):M<h.size:=by
 obtain⟨H,G,hb,_⟩:=m;exact (Array.getElem?_eq_some_iff.1 hb).1
def Zm7.cD{S:Zf}{l:List ((Nat × Nat) × cR)}{M:Nat}(a:Zm7 h M l)(m:Mod S h h')(H:¬S M):Zm7 h' M l:=by
 have:=a.lt;obtain⟨I,G,hb,J⟩:=a;exact⟨I,G,by rw[m.get M this H];exact hb,J⟩
def Zpa{l:List ((Nat × Nat) × cR)}{M:Nat}(a:Zm7 h M l){x:Nat × Nat}{z:Zj}:Ym.cK Y h (.lookup (some 2) true z) [.map (some M),Zeu x]=some (.tuple #[(Zdj l x).getD z,.bool (Zdj l x).isSome]):=by
 obtain⟨H,G,hb,I⟩:=a;have J:We h (some M)=some H.toList:=by simp[We,hb]
 show Zgc h (some 2) true z (some M) (Zeu x)=_;unfold Zgc;rw[if_pos Zyk,J];rcases Zyd (x:=x) (n:=0) I with⟨j,v,f,hv⟩|⟨f,hv⟩
 ·simp[f,hv]
 simp[f,hv]
def Zty{K:Ze}{l:List ((Nat × Nat) × cR)}{M:Nat}{x:Nat × Nat}{v:Zj}(a:Zm7 h M l)(J:Zdj l x=none)(O:∀h',Zm7 h' M (l++[(x,v)])->Mod (fun j=>j=M) h h'->K undef h'):
  Ef.wp h K (.mupd (some 2)) [.map (some M),Zeu x,v]:=by
 have R:=a.lt;obtain⟨I,G,hb,H⟩:=a;have hf:Uf (some 2) (Zeu x) I.toList 0=some none:=by
  rcases Zyd (x:=x) (n:=0) H with⟨j,v,f,hv⟩|⟨f,_⟩
  ·rw[J] at hv;cases hv
  exact f
 simp only[Ef.wp,hb,Zyk,hf,true_and];refine O _ ⟨I.push ⟨Zeu x,v,G⟩,G+1,by simp[R],?_⟩ ⟨by simp,fun b U X=>?_⟩
 ·simp[H]
 simp[Ne.symm X]
def Zo7{K:Ze}(G:∀M h',h.size<=M->Zm7 h' M []->Ext h h'->K (.map (some M)) h'):Ef.wp h K .mkmap []:=by
 show K _ _;exact G _ _ (Xi4 _) ⟨#[],0,by simp,rfl⟩ Mod.push
structure GtE(h:Zk)(W:Zf)(N:Zs)(L:Za)(x:Nat × Nat)(v:Zj):Prop where
 ex:∃a b:Sl,v = .agg #[a.v,b.v]/\Zw h a (Zv N L (x.1-1) false x.2)/\Zw h b (Zv N L (x.1-1) true x.2)/\(Zv N L (x.1-1) false x.2≠[]->¬W a.b)/\(Zv N L (x.1-1) true x.2≠[]->¬W b.b)
structure GtH(h:Zk)(M:Nat)(W:Zf)(N:Zs)(L:Za):Prop where
 ex:∃l,Zm7 h M l/\∀p,p∈l->GtE h W N L p.1 p.2
 wM:W M
def GtE.cD{W S:Zf}{N:Zs}{L:Za}{x:Nat × Nat}{v:Zj}(g:GtE h W N L x v)(m:Mod S h h')(H:∀b,S b->W b\/h.size<=b):GtE h' W N L x v:=by
 obtain⟨a,b,e,I,J,O,R⟩:=g.ex;refine⟨a,b,e,I.cD m (fun G hb=>?_),J.cD m (fun G hb=>?_),O,R⟩
 ·rcases H _ hb with q|q
  ·exact O G q
  have:=Vk I G;omega
 rcases H _ hb with q|q
 ·exact R G q
 have:=Vk J G;omega
def GtE.grow{W W':Zf}{N:Zs}{L:Za}{x:Nat × Nat}{v:Zj}(g:GtE h W N L x v)(H:∀b,W' b->W b\/h.size<=b):GtE h W' N L x v:=by
 obtain⟨a,b,e,I,J,O,R⟩:=g.ex;refine⟨a,b,e,I,J,fun G hb=>?_,fun G hb=>?_⟩
 ·rcases H _ hb with q|q
  ·exact O G q
  have:=Vk I G;omega
 rcases H _ hb with q|q
 ·exact R G q
 have:=Vk J G;omega
def GtH.cD{W S:Zf}{N:Zs}{L:Za}{M:Nat}(g:GtH h M W N L)(m:Mod S h h')(G:∀b,S b->(W b\/h.size<=b)/\b≠M):GtH h' M W N L:=by
 obtain⟨l,H,I⟩:=g.ex;exact⟨⟨l,H.cD m (fun h=>(G _ h).2 rfl),fun p hp=>(I p hp).cD m (fun b hb=>(G b hb).1)⟩,g.wM⟩
def GtH.grow{W W':Zf}{N:Zs}{L:Za}{M:Nat}(g:GtH h M W N L)(G:∀b,W' b->W b\/h.size<=b)(H:W' M):GtH h M W' N L:=by
 obtain⟨l,I,J⟩:=g.ex;exact⟨⟨l,I,fun p hp=>(J p hp).grow G⟩,H⟩
def GtH.both{W W' S:Zf}{N:Zs}{L:Za}{M:Nat}(g:GtH h M W N L)(m:Mod S h h')(H:∀b,S b->(W b\/h.size<=b)/\b≠M)(O:∀b,W' b->W b\/h.size<=b)(X:W' M):GtH h' M W' N L:=by
 obtain⟨l,hm,hl⟩:=g.ex;refine⟨⟨l,hm.cD m (fun h=>(H _ h).2 rfl),fun p hp=>?_⟩,X⟩;obtain⟨a,b,e,I,J,R,U⟩:=(hl p hp).ex;refine⟨a,b,e,I.cD m (fun G hb=>?_),J.cD m (fun G hb=>?_),fun G hb=>?_,fun G hb=>?_⟩
 ·rcases (H _ hb).1 with q|q
  ·exact R G q
  have:=Vk I G;omega
 ·rcases (H _ hb).1 with q|q
  ·exact U G q
  have:=Vk J G;omega
 ·rcases O _ hb with q|q
  ·exact R G q
  have:=Vk I G;omega
 rcases O _ hb with q|q
 ·exact U G q
 have:=Vk J G;omega
end
def Z77(N:Zs)(L:Za)(cN:Zb)(k a b:Nat)(x:Int):Prop :=
 b<N.as.length/\x≠Xm/\if k=0 then x=Yp N a b else InK N (Xl L k) a/\Xl L k (Vs N b)=Xl L k (Ys N a)/\Xl L k (Ys N b)≠Xl L k (Ys N a)/\x=Zbl N L cN (k-1) a b
structure Zdh(N:Zs)(L:Za)(cN:Zb)(k a:Nat)(bs ps:Zb):Prop where
 len:bs.length=ps.length
 nat:∀j,j<bs.length->∃b:Nat,Zm bs j=b/\b<N.as.length
 pos:∀j,j<bs.length->0<=Zm ps j/\Zm ps j<=Xm
 hop:∀(b:Nat) x,Z77 N L cN k a b x↔∃j,j<bs.length/\Zm bs j=(b:Int)/\Zm ps j≠Xm/\x=Zm ps j
 bl:bs.length<=16384
section
variable{Y:Sys}{h h':Zk}{N:Zs}{L:Za}{cN:Zb}
def Zw.cut{s:Sl}{l:Zb}(r:Zw h s l){f n:Nat}(hf:f+n<=l.length)(U:0<n)(J:l.length<=9223372036854775807):∃w:Sl,Ym.cK Y h (.slc 1 true true) [s.v,Zg (f:Int),Zg ((f+n:Nat):Int)]=some w.v/\Zw h w ((l.drop f).take n)/\w.b=s.b:=by
 have X:=r.len;have O:=r.ok.le;have G:=Zbw (Y:=Y) (h:=h) (s:=s) (sz:=1) (k:=.i64) (k':=.i64) (i:=(f:Int)) (j:=((f+n:Nat):Int)) r.ok (by omega) (by omega) (by omega);rw[ifN] at G;simp only[Xi8,Xjd,Xm9] at G;have H:s.nl=false:=by
  cases I:s.nl with
  |false=>rfl
  |true=>have:=(r.ok.nil I).1;omega
 refine⟨_,G,⟨⟨fun h=>(by rw[show _=s.nl from rfl,H] at h;cases h),by show n<=s.c-f;omega,.inl (by rcases r.ok.spot with q|q;exact q;omega)⟩,by simp;omega,fun j R=>?_⟩,rfl⟩;simp at R;have:=r.val (f+j) (by omega);show hc h s.b (s.o+f+j)=_;rw[Xj5,this];simp[Zm,Xj4,show j<n by omega]
def Zo6{k a:Nat}(H:∀b x,¬Z77 N L cN k a b x):Zdh N L cN k a [] [] :=
 ⟨rfl,fun j G=>by simp at G,fun j G=>by simp at G,fun b x=>⟨fun h=>absurd h (H b x),fun ⟨j,G,_⟩=>by simp at G⟩,by simp⟩
def Zle(ok:Yl N)(pk:Yq N.vs.length L){k c a:Nat}(X:k<L.length)(ab:c<Yv L k)(ec:Zm (Yc L k) (Ys N a)=(c:Int))(ha:a<N.as.length)(lc:cN.length=Zz N L L.length)(c0:∀i,0<=Zm cN i/\Zm cN i<=Xm):
  (Yk 0 (Zv N L k false c) (a:Int)<0\/(0<=Yk 0 (Zv N L k false c) (a:Int)/\enV N L k c (Yk 0 (Zv N L k false c) (a:Int)) 0<0))/\Zdh N L cN (k+1) a [] [] \/
  ∃f:Nat,0<=Yk 0 (Zv N L k false c) (a:Int)/\enV N L k c (Yk 0 (Zv N L k false c) (a:Int)) 0=f/\f+(Zv N L k true c).length<=cN.length/\0<(Zv N L k true c).length /\
   Zdh N L cN (k+1) a (Zv N L k true c) ((cN.drop f).take (Zv N L k true c).length):=by
 have lgo:=Wg (N:=N) (L:=L) (k:=k) (c:=c) (x:=true);have ba:=ok.ba;have O:∀b:Nat,b<N.as.length->Xl L (k+1) (Vs N b)=Xl L (k+1) (Ys N a)->Xl L (k+1) (Ys N b)≠Xl L (k+1) (Ys N a)->(b:Int)∈Zv N L k true c:=fun b hb R H =>
  (U2 pk ok X).2 ⟨by omega,fun e=>H (by rw[<-R];exact e.symm),by rw[<-ec];exact R⟩
 by_cases I:(a:Int)∈Zv N L k false c;rotate_left
 ·refine .inl ⟨.inl (by rw[Zd3 I];decide),Zo6 fun b x h=>?_⟩;obtain⟨_,_,H⟩:=h;rw[ifN] at H;exact I ((Zbm pk ok X).2 ⟨ha,H.1,ec⟩)
 obtain⟨i,li,ei⟩:=Ya.1 I;have hp:=Xr (l:=Zv N L k false c) Xt.once li;rw[ei] at hp;rw[hp];by_cases ad:(Zv N L k true c).length=0
 ·refine .inl ⟨.inr ⟨by omega,?_⟩,Zo6 fun b x h=>?_⟩
  ·unfold enV;rw[ifN]
   decide
  obtain⟨hb,_,H⟩:=h;rw[ifN] at H;have:=List.length_pos_of_mem (O b hb H.2.1 H.2.2.1);omega
 obtain⟨p0,p1⟩:=Zz5 X ab li (by omega);obtain⟨f,hf⟩:∃f:Nat,enV N L k c i 0=f:=⟨(enV N L k c i 0).toNat,by omega⟩
 rw[hf] at p1 ⊢;rw[<-lc] at p1;have J:∀j,j<(Zv N L k true c).length->Zm ((cN.drop f).take (Zv N L k true c).length) j=Zm cN (f+j):=fun j G=>by simp[Zm,Xj4,G]
 have U:∀j,j<(Zv N L k true c).length->∀b:Nat,Zm (Zv N L k true c) j=b->Zbl N L cN k a b=Zm cN (f+j):=fun j G b hb=>by
  unfold Zbl;rw[ec];simp only[Xi8];have pu:=Xr (l:=Zv N L k true c) Xt.once G;rw[hb] at pu;rw[hp,pu];have:=Xca (N:=N) (L:=L) (k:=k) (q:=c) (i:=(i:Int)) (j:=j) (by omega) (by omega) G
  congr 1
  omega
 refine .inr ⟨f,by omega,rfl,by omega,by omega,by simp;omega,fun j G=>Vl pk ok X (Ya.2 ⟨j,G,rfl⟩),fun j G=>by rw[J j G];exact c0 _,fun b x=>?_,by omega⟩;unfold Z77;simp only[Nat.succ_ne_zero,if_false,Xlh];constructor
 ·rintro⟨hb,hx,h1,R,H,h4⟩;obtain⟨j,G,ej⟩:=Ya.1 (O b hb R H);rw[U j G b ej] at h4;exact⟨j,G,ej,by rw[J j G,<-h4];exact hx,by rw[J j G];exact h4⟩
 rintro⟨j,G,ej,h1,R⟩;rw[J j G] at h1 R;obtain⟨lb,hx,aa⟩:=(U2 pk ok X).1 (Ya.2 ⟨j,G,ej⟩);have ac:=(Zbm pk ok X).1 I;refine⟨by omega,by rw[R];exact h1,ac.2.1,?_,fun e=>hx ?_,by rw[U j G b ej];exact R⟩
 ·show Zm (Yc L k) (Vs N b)=Zm (Yc L k) (Ys N a);rw[aa,ec]
 rw[aa];exact (ec.symm.trans e.symm)
end
structure Qj where
 qp:Nat
 p:Nat
 op:Nat
 M:Nat
 bb:Nat
 s:Nat
 t:Nat
 sc:Sl
 sL:Sl
structure QS(h:Zk)(J:Qj)(N:Zs)(S:Zf)(L:Za)(cN:Zb):Prop where
 cM:Yo h J.qp #[Zh J.p,Zh J.op,J.sc.v,Zg J.s,Zg J.t,J.sL.v,.map (some J.M),.slice (some ⟨J.bb,0,none⟩) N.as.length N.as.length]
 g:Xi h J.p N S
 v:Uq h J.op N L
 rc:Zw h J.sc cN
 rl:Wm h J.sL L
def QF(h:Zk)(W:Zf)(J:Qj)(N:Zs)(S:Zf)(L:Za)(cN:Zb):Prop:=∀k,Mod W h k->QS k J N S L cN
def QF.now{h:Zk}{W:Zf}{J:Qj}{N:Zs}{S:Zf}{L:Za}{cN:Zb}(q:QF h W J N S L cN):QS h J N S L cN:=q h (Mod.refl _)
def QF.then{h h':Zk}{W W' S':Zf}{J:Qj}{N:Zs}{S:Zf}{L:Za}{cN:Zb}(q:QF h W J N S L cN)(m:Mod S' h h')(G:∀b,S' b->W b\/h.size<=b)(H:∀b,W' b->W b\/h.size<=b):QF h' W' J N S L cN :=
 fun k mk=>q k ((m.mono fun i I h=>by rcases G i h with q|q;exact q;omega).then mk fun i I h=>by rcases H i h with q|q;exact q;omega)
structure Xd2(Y:Sys):Prop where
 G:WkG Y
 A:Zdv Y
 S:Zou Y
 level:Y.cL 364 Y364
 levelOf:Y.cL 401 Y401
 next:Y.cL 363 Y363
def Zfw{N:Zs}(ok:Yl N){a:Nat}(G:a<N.as.length):toV N (a:Int)=(Ys N a:Int)/\Ys N a<N.vs.length:=by
 have hv:Yi N.as.length (a:Int)=true:=by simp[Yi];omega
 have h:=(ok.arcs a G).2;simp[Yi] at h;unfold toV Ys;rw[if_pos hv];simp only[Xi8];omega
def Zpd{N:Zs}(ok:Yl N){a:Nat}(G:a<N.as.length):Ze3 N (a:Int)=(Vs N a:Int)/\Vs N a<N.vs.length:=by
 have hv:Yi N.as.length (a:Int)=true:=by simp[Yi];omega
 have h:=(ok.arcs a G).1;simp[Yi] at h;unfold Ze3 Vs;rw[if_pos hv];simp only[Xi8];omega
section
variable{Y:Sys}{h h':Zk}{J:Qj}{N:Zs}{S:Zf}{L:Za}{cN:Zb}
def Zjq(X:Xd2 Y)(q:QS h J N S L cN)(ok:Yl N)(H:Yq N.vs.length L){a:Nat}(I:a<N.as.length)(O:J.s<N.as.length)(ht:J.t<N.as.length){R:Ze}
  (U:R (Zg (Ug (Xl L) (Ys N a) (Ys N J.s) (Vs N J.t) L.length:Nat)) h):Zt Y 364 [Zh J.qp,Zg a] h R:=by
 have bL:=H.bL;have bn:=H.bn;refine .o X.level ?_;simp[Y364,Yw.wp,q.cM.hc];refine U0 X.G.To X.G.arc q.g ?_;simp[q.cM.hc];refine U0 X.G.To X.G.arc q.g ?_;simp[q.cM.hc];refine Zcg X.G.From X.G.arc q.g ?_;obtain⟨e1,l1⟩:=Zfw ok I;obtain⟨e2,l2⟩:=Zfw ok O;obtain⟨e3,l3⟩:=Zpd ok ht;rw[e1,e2,e3];simp[q.cM.hc];refine Zra X.levelOf q.rl (by omega) (n:=N.vs.length) (fun i hi=>(Xq H hi).1) l1 l2 l3 (by omega) ?_;simp;exact U
def NxI(p q r s t:Zj)(u:Sl)(pb a:Nat)(N:Zs)(l:Zb)(h0:Zk)(e:Zc)(h':Zk):Prop :=
 ∃(i:Nat)(P:Zb)(w x b c d f g h k m o:Zj),e=[p,q,Zg a,r,s,t,u.v,.slice (some ⟨pb,0,none⟩) l.length l.length,w,x,b,c,d,f,g,h,u.v,Zg u.n,Zg i,k,m,o]/\i<=l.length/\Yh h' 1 (Sl.at pb l.length l.length) (Zu P)/\P.length=l.length/\(∀j,j<i->Zm P j=Yp N a (Zm l j))/\Ext h0 h'
structure Xb8(N:Zs)(L:Za)(cN:Zb)(s t a:Nat)(bs ps:Zb):Prop where
 len:bs.length=ps.length
 nat:∀j,j<bs.length->∃b:Nat,Zm bs j=b/\b<N.as.length
 pos:∀j,j<bs.length->0<=Zm ps j/\Zm ps j<=Xm
 hop:∀(b:Nat) w,Zjb N L.length (Xl L) (fun k=>Zbl N L cN (k-1)) s t a b w↔∃j,j<bs.length/\Zm bs j=(b:Int)/\Zm ps j≠Xm/\Zr N b≠Xm/\w=Zm ps j+Zr N b
 bl:bs.length<=16384
def Zdh.q{s t a:Nat}{X ps:Zb}(n:Zdh N L cN (Ug (Xl L) (Ys N a) (Ys N s) (Vs N t) L.length) a X ps):Xb8 N L cN s t a X ps:=by
 refine⟨n.len,n.nat,n.pos,fun b w=>?_,n.bl⟩;have h:=n.hop b;unfold Zjb;simp only[];constructor
 ·intro e
  split at e
  ·rename_i z;obtain⟨h1,G,H⟩:=e;obtain⟨i,ei,li⟩:=Ue G;obtain⟨j,I,O,h4,U⟩:=(h _).1 ⟨by omega,h1,by rw[if_pos z]⟩;exact⟨j,I,O,h4,G,by rw[<-U];exact H⟩
  rename_i z;obtain⟨h1,G,H,h4,U,h6⟩:=e;obtain⟨i,ei,li⟩:=Ue U;obtain⟨j,I,O,h7,h8⟩:=(h _).1 ⟨by omega,h4,by rw[if_neg z];exact⟨h1,G,H,rfl⟩⟩;exact⟨j,I,O,h7,U,by rw[<-h8];exact h6⟩
 rintro⟨j,I,O,h1,G,H⟩;obtain⟨lb,hx,R⟩:=(h (Zm ps j)).2 ⟨j,I,O,h1,rfl⟩
 split
 ·rename_i z;rw[if_pos z] at R;exact⟨by rw[<-R];exact hx,G,by rw[<-R];exact H⟩
 rename_i z;rw[if_neg z] at R;obtain⟨a1,a2,a3,a4⟩:=R;exact⟨a1,a2,a3,by rw[<-a4];exact hx,G,by rw[<-a4];exact H⟩
set_option maxHeartbeats 1000000 in
def Zwy(X:Xd2 Y){W:Zf}(q:QF h W J N S L cN)(gt:GtH h J.M W N L)(ok:Yl N)(pk:Yq N.vs.length L)(lc:cN.length=Zz N L L.length)(c0:∀i,0<=Zm cN i/\Zm cN i<=Xm)(wc:cN≠[]->¬W J.sc.b){a:Nat}(ha:a<N.as.length){R:Ze}
  (hr:∀h' u w bs ps,Mod (fun j=>j=J.M) h h'->GtH h' J.M (fun j=>W j/\j<h.size) N L->Zw h' u bs->Zw h' w ps->(bs≠[]->¬W u.b\/h.size<=u.b)->(ps≠[]->¬W w.b\/h.size<=w.b)->Xb8 N L cN J.s J.t a bs ps->R (.tuple #[u.v,w.v]) h') :
  Zt Y 363 [Zh J.qp,Zg (Ug (Xl L) (Ys N a) (Ys N J.s) (Vs N J.t) L.length:Nat),Zg a] h R:=by
 have hI:Xm=1152921504606846976:=rfl;have bL:=pk.bL;have bn:=pk.bn;have ba:=ok.ba;have qs:=q.now;obtain⟨e1,l1⟩:=Zfw ok ha;refine .o X.next ?_;generalize ab:Ug (Xl L) (Ys N a) (Ys N J.s) (Vs N J.t) L.length=lv;have aR:lv<=L.length:=by rw[<-ab];exact Zkh
 simp[Y363,Yw.wp,qs.cM.hc];refine U0 X.G.To X.G.arc qs.g ?_;rw[e1];by_cases z:lv=0
 ·subst z;simp[qs.cM.hc];refine Zgj X.G.Outs X.G.vert X.G.CI qs.g ?_;intro h1 u x1 ou fu;have aC:(if Yi N.vs.length (Ys N a:Int) then Za7 N.as (Ys N a:Int) else [])=Yy N a:=by rw[<-e1];rfl
  rw[aC] at ou;have lu:=ou.cE.len;have lo:=Zcj (N:=N) (a:=a);simp;refine Zao (n:=(Yy N a).length) ?_ (by omega) (by omega);intro pb h2 aS o2 x2 aT;simp;refine Zp (NxI (Zh J.qp) (Zg 0) (Zi) (Zi) (Zg (Ys N a)) u pb a N (Yy N a) h1) (fun e _=>(Yy N a).length-Zx e 18) ⟨0,_,_,_,_,_,_,_,_,_,_,_,_,by rw[<-lu];rfl,by omega,o2,by simp,fun j O=>by omega,x2⟩ ?_;rintro e h3 ⟨i,P,v8,v9,aU,aV,ac,ad,ae,af,ag,ah,ai,rfl,hi,oP,lP,hP,x3⟩;have aj:=x1.trans x3;have q3:=(q h3 (aj.mono fun _ _ h=>h.elim))
  by_cases c:i<(Yy N a).length
  ·have c':(i:Int)<u.n:=by omega
   have c2:i<u.n:=by omega
   have w1:=wrapS (i:=i);obtain⟨b,eb,lb⟩:=Q5 c;have vb:=((ou.cF x3).cE).val i c;rw[eb] at vb;have aD:∀g,Ym.cK Y g (.idxa 1) [.slice (some ⟨pb,0,none⟩) (Yy N a).length (Yy N a).length,Zg i]=some (.pointer (some ⟨pb,i,none⟩)):=fun g=>by
    have:=Wz (Y:=Y) (h:=g) (b:=pb) (sz:=1) (show (Yy N a).length<=9223372036854775807 by omega) c (Xi4 _);simpa using this
   simp[c',Zl ou.ok,vb,q3.cM.hc];refine Zgu X.G.Turn X.G.arc X.G.T q3.g ok ?_;intro h4 e4;simp[aD];refine Zfc (oP.cF e4) (k:=i) ?_;intro h5 o5 m5;rw[Um] at o5;have z1:=ou.lt;simp[w1];refine Go.Rm.nx ⟨i+1,_,_,_,_,_,_,_,_,_,_,_,_,rfl,by omega,o5,by simp[lP],fun j O=>?_,Mod.cC (x3.trans e4) m5 (fun j O=>by omega)⟩;rw[Vj];by_cases qj:j=i
   ·subst qj;simp[eb]
   simp[qj];exact hP j (by omega)
  have c':¬(i:Int)<u.n:=by omega
  have:i=(Yy N a).length:=by omega
  subst this;simp[c'];have aE:∀j,j<(Yy N a).length->0<=Zm P j/\Zm P j<=Xm:=fun j O=>by
   rw[hP j O];have:=Wn ok (a:=(a:Int)) (b:=Zm (Yy N a) j);omega
  have nq:Zdh N L cN 0 a (Yy N a) P:=by
   refine⟨lP.symm,fun j O=>Q5 O,aE,fun b x=>?_,by omega⟩;unfold Z77;simp only[if_true];constructor
   ·rintro⟨h0,h1,rfl⟩;obtain⟨j,O,ej⟩:=Ya.1 (Zgv h1);have:=hP j O;rw[ej] at this;exact⟨j,O,ej,by rw[this];exact h1,this.symm⟩
   rintro⟨j,O,ej,h1,h2⟩;have:=hP j O;rw[ej] at this;obtain⟨b',eb,lb⟩:=Q5 O;exact⟨by omega,by rw[h2];exact h1,by rw[h2,this]⟩
  exact hr h3 u (Sl.at pb _ _) (Yy N a) P (aj.mono fun _ _ h=>h.elim) ((gt.cD aj fun _ h=>h.elim).grow (fun b hb=>.inl hb.1) ⟨gt.wM,by obtain⟨l,hM,_⟩:=gt.ex;exact hM.lt⟩) (ou.cF x3).cE oP.cE (fun I=>.inr (fu (by
   cases aF:u.nl with
   |false=>rfl
   |true=>have:=(ou.ok.nil aF).1;exact absurd (List.length_eq_zero_iff.1 (by omega)) I))) (fun _=>.inr (by simp only[Sl.at_b];have:=x1.size;omega)) (Zdh.q (by rw[ab];exact nq))
 obtain⟨k,rfl⟩:∃k,lv=k+1:=⟨lv-1,by omega⟩
 have hk:k<L.length:=by omega
 obtain⟨c,ec,ak⟩:=Zia pk ok hk ha;obtain⟨ru,aG,al⟩:=qs.rl.val k hk;have aW:=qs.rl.len;have aX:=al.len;have z2:¬((k:Int)+1=0):=by omega
 have wk:IntKind.i64.wrap ((k:Int)+1-1)=(k:Int):=by rw[Zn];omega
 have aH:IntKind.i64.wrap (k:Int)=(k:Int):=Zn;have aY:=(Xq pk hk).1;have vc:=al.val (Ys N a) (by omega);rw[ec] at vc;simp[z2,qs.cM.hc,aH,Zl qs.rl.ok,show k<J.sL.n by omega,aG,Zl al.ok,show Ys N a<ru.n by omega,vc];have an:∀g,Ym.cK Y g (.buildA 1 #[Zg 0,Zg 0] [0,1]) [Zg ((k:Int)+1),Zg c]=some (Zeu (k+1,c)):=fun g=>by
  simp[Ym.cK,Instr.fill,Value.cells,Zeu]
 obtain⟨l,hM,hl⟩:=gt.ex;have aI:=Zpa (Y:=Y) hM (x:=(k+1,c)) (z:=.agg #[Zi,Zi]);simp[an,aI];refine Zo ?_;intro D h1 gD D1 x1;replace D1:Yo h1 D #[Zi,Zi]:=D1;simp;have am:=Zle (cN:=cN) ok pk hk ak ec ha lc c0;have aZ:=Wg (N:=N) (L:=L) (k:=k) (c:=c) (x:=false);have lgo:=Wg (N:=N) (L:=L) (k:=k) (c:=c) (x:=true);have bS:=Q9 ok pk (k:=L.length) (Xi4 _);have U:∀(H:Zk)(a' b:Sl)(v6 v7 v8 v9 ac ad ae af ao ap aq ag ah ai:Zj),Yo H D #[a'.v,b.v]->Mod (fun j=>j=J.M) h H->GtH H J.M (fun j=>W j/\j<h.size) N L->Zw H a' (Zv N L k false c)->Zw H b (Zv N L k true c)->(Zv N L k true c≠[]->¬W b.b\/h.size<=b.b) ->
   Stmt.wp Y Y363.body.rest.rest.rest.rest.rest.rest (Up Y363.res R) (fun _ _ _=>False) (Up Y363.res R) [Zh J.qp,Zg ((k:Int)+1),Zg a,Zi,Zi,Zg (Ys N a),v6,v7,v8,v9,Zg c,Zh D,ac,ad,ae,af,ao,ap,aq,ag,ah,ai] H:=by
  intro H a' b v6 v7 v8 v9 ac ad ae af ao ap aq ag ah ai DH mH gH ra rb nb;have a0:=ra.len;have ar:=rb.len;have qH:=q H (mH.mono fun _ _ h=>by rw[h];exact gt.wM);simp[Y363,Stmt.rest,DH.hc];refine Zbr X.S ra (by omega) Xt ?_;simp[qH.cM.hc];refine Zfj X.A qH.v ok pk hk ak ?_;intro hy ey;have my:Mod (fun j=>j=J.M) h hy:=mH.then ey fun _ _ h=>h.elim;have qy:=q hy (my.mono fun _ _ h=>by rw[h];exact gt.wM);have gy:=gH.cD ey (fun _ h=>h.elim);have Dy:=DH.cC ey;have aJ:=rb.cC ey;have a1:=qy.rc.len;have nil:Zw hy Sl.nil []:=⟨Sl.nil_ok,rfl,fun i hi=>by simp at hi⟩
  rcases am with⟨e,nx⟩|⟨f,p0,ef,p1,p2,nx⟩
  ·have au:R (.tuple #[Zi,Zi]) hy:=hr hy Sl.nil Sl.nil [] [] my gy nil nil (fun h=>absurd rfl h) (fun h=>absurd rfl h) (Zdh.q (by rw[ab];exact nx));rcases e with e|⟨e0,e⟩
   ·simp[e];exact au
   have aK:¬Yk 0 (Zv N L k false c) (a:Int)<0:=by omega
   simp[aK,e];exact au
  have aL:¬Yk 0 (Zv N L k false c) (a:Int)<0:=by omega
  have d1:¬(f:Int)<0:=by omega
  have wf:IntKind.i64.wrap ((f:Int)+(b.n:Int))=((f+b.n:Nat):Int):=by rw[Zn];omega
  have d3:¬((J.sc.n:Int)<((f+b.n:Nat):Int)):=by omega
  have d2:¬J.sc.n<f+b.n:=by omega
  rw[ar] at p1 p2;obtain⟨w,hw,av,wb⟩:=Zw.cut (Y:=Y) qy.rc (f:=f) (n:=b.n) (by omega) (by omega) (by omega);rw[ef];simp[aL,d1,d2,d3,Dy.hc,qy.cM.hc,wf,hw,-Int.natCast_add];rw[<-ar] at av;exact hr hy b w _ _ my gy aJ av nb (fun _=>.inl (by rw[wb];exact wc (fun e=>by rw[e] at p1;simp at p1;omega))) (Zdh.q (by rw[ab];exact nx))
 simp only[Y363,Stmt.rest] at U
 cases hv:Zdj l (k+1,c) with
 |some vv =>
  obtain⟨a',b,e,aw,ax,na,ay⟩:=(hl _ (Zok hv)).ex;simp only[Xlh] at aw ax na ay;subst e;simp;refine Zy (vs:=#[a'.v,b.v]) D1 ?_;intro h2 D2 m2;have x2:Ext h h2:=Mod.cG x1 m2 gD;simp[-Ye];rw[Ye];exact U h2 a' b _ _ _ _ _ _ _ _ _ _ _ _ _ _ D2 (x2.mono fun _ _ h=>h.elim) ((gt.cD x2 (fun _ h=>h.elim)).grow (W':=fun j=>W j/\j<h.size) (fun b hb=>.inl hb.1) ⟨gt.wM,hM.lt⟩) (aw.cC x2) (ax.cC x2) (fun I=>.inl (ay I))
 |none =>
  simp;refine Zy (vs:=#[Zi,Zi]) D1 ?_;intro h2 D2 m2;have x2:Ext h h2:=Mod.cG x1 m2 gD;have q2:=q h2 (x2.mono fun _ _ h=>h.elim);simp[q2.cM.hc];refine W9 X.A q2.v ok pk hk ak ?_;intro h3 a' b x3 oa ob fa fb;simp;refine Zy (vs:=#[a'.v,b.v]) (D2.cC x3) ?_;intro h4 D4 m4;have z2:=x2.size;have z3:=x3.size;have x4:Ext h h4:=Mod.cC (x2.trans x3) m4 (fun j O=>by omega);have q4:=q h4 (x4.mono fun _ _ h=>h.elim);have lM:=hM.lt;have aM:=hM.cD x4 (fun h=>h);have lD:=D2.lt;have aN:=oa.cD m4 (fun I=>by have:=oa.lt I;rcases fa with e|e;rw[I] at e;cases e;omega);have aO:=ob.cD m4 (fun I=>by have:=ob.lt I;rcases fb with e|e;rw[I] at e;cases e;omega);simp[q4.cM.hc,an,Yf D4];refine Zty aM hv ?_;intro h5 aP m5;have z4:=x4.size;have aa:∀{s:Sl}{y:Bool},Yh h3 1 s (Zu (Zv N L k y c))->(s.nl=true\/h2.size<=s.b)->Zv N L k y c≠[]->h.size<=s.b:=fun{s y} o f I=>by
   rcases f with e|e
   ·have:=(o.ok.nil e).1;have:=o.cE.len;exact absurd (List.length_eq_zero_iff.1 (by omega)) I
   omega
  have az:Zw h5 a' (Zv N L k false c):=aN.cE.cD m5 (fun I=>by have:=aa oa fa I;omega);have aA:Zw h5 b (Zv N L k true c):=aO.cE.cD m5 (fun I=>by have:=aa ob fb I;omega);have D5:=m5.cM D4 (by omega);have aB:Mod (fun j=>j=J.M) h h5:=(x4.mono fun _ _ h=>h.elim).trans m5;have aQ:GtH h5 J.M (fun j=>W j/\j<h.size) N L:=by
   refine⟨⟨_,aP,fun p hp=>?_⟩,gt.wM,lM⟩;rcases List.mem_append.1 hp with w|w
   ·exact ((hl p w).cD (W:=W) aB (fun j O=>by rw[O];exact .inl gt.wM)).grow (fun j O=>.inl O.1)
   simp at w;subst w;exact⟨a',b,rfl,az,aA,fun I hw=>by have:=aa oa fa I;omega,fun I hw=>by have:=aa ob fb I;omega⟩
  simp[-Ye];rw[Ye];exact U h5 a' b _ _ _ _ _ _ _ _ _ _ _ _ _ _ D5 aB aQ az aA (fun I=>.inr (aa ob fb I))
end
section
variable{Y:Sys}{h h':Zk}
def Zq4{K:Ze}{b o n:Nat}{c vs c':Array cR}(hb:Yo h b c)(G:vs.size=n)(R:o+n<=c.size)(h1:∀v∈vs.toList,v.oneCell'=true)
  (hc':(c.toList.take o++vs.toList++c.toList.drop (o+n)).toArray=c')
  (H:∀h',Yo h' b c'->Mod (fun j=>j=b) h h'->K undef h'):Ef.wp h K (.store n) [.pointer (some ⟨b,o,none⟩),.agg vs]:=by
 obtain⟨h',I,J,O,U⟩:=Zcp (o:=o) (vs:=vs.toList) hb (by simp;omega) h1;refine⟨G,?_⟩;simp only[Zg6,I];refine H h' ?_ O;rw[<-hc'];have:vs.toList.length=n:=by simpa using G
 rw[<-this];exact J
def Zgd{K:Ze}{s:Sl}{l:List (cR × cR × cR)}{i:Nat}{x y z:Zj}(o:Yh h 3 s (Yb l))(R:∀h',Yh h' 3 s (Yb (l.set i (x,y,z)))->Mod (fun j=>j=s.b) h h'->K undef h')(O:i<l.length:=by simp;omega)(hx:x.oneCell'=true:=by rfl)(hy:y.oneCell'=true:=by rfl)(hz:z.oneCell'=true:=by rfl):Ef.wp h K (.store 3) [.pointer (some ⟨s.b,s.o+i * 3,none⟩),.agg #[x,y,z]]:=by
 have U:=o.n3;rcases o.2 with⟨rfl,_⟩|⟨h1,J,I,X,h4,G,hb,ha,ht⟩
 ·have:l.length=0:=U;omega
 refine Zq4 (vs:=#[x,y,z]) (c':=(G.toList.take (s.o+i * 3)++[x,y,z]++G.toList.drop (s.o+i * 3+3)).toArray) hb rfl (by omega) (by intro v hv;simp at hv;rcases hv with rfl|rfl|rfl<;>assumption) (by simp) ?_;intro h' b' m;refine R h' ⟨by rw[Xy,List.length_set];omega,.inr ⟨h1,J,I,X,h4,_,b',by simp;omega,?_⟩⟩ m;rw[Zgi O,J,Xjs,<-ht];have H:G.toList.length=s.c * 3:=by simpa using ha
 simp only[Xje];rw[List.take_append,Xlr,Xjw,H];have e1:min (s.n * 3) (i * 3)=i * 3:=by omega
 have e2:min (i * 3) (s.c * 3)=i * 3:=by omega
 have e3:min (i * 3) (s.n * 3)=i * 3:=by omega
 rw[e1,e2,Xlr,e3]
 congr 1
 rw[show s.n * 3-i * 3=3+(s.n * 3-(i * 3+3)) by omega];simp only[Xku,Xmr];rw[show 3+(s.n * 3-(i * 3+3))=(s.n * 3-(i * 3+3))+1+1+1 by omega];simp only[Xm6]
 congr 3
 rw[List.drop_take]
def R3I(s:Sl)(l:List Yt)(h0:Zk)(e:Zc)(h':Zk):Prop :=
 ∃(i:Nat)(v3:Zj),e=[s.v,Zg i,Zg ((l.length:Int)-1-i),v3]/\i<=l.length/\Mod (fun j=>l≠[]/\j=s.b) h0 h'/\∃c:List Yt,c.length=l.length/\Yh h' 3 s (Yb (c.map Xf))/\∀k,k<l.length->Zq c k=if k<i\/l.length-1-k<i then Zq l (l.length-1-k) else Zq l k
def Z1f(H:Y.cL 400 Y400){s:Sl}{l:List Yt}(o:Yh h 3 s (Yb (l.map Xf)))(ab:l.length<=1000000)
  {R:Ze} (hr:∀h',Mod (fun j=>l≠[]/\j=s.b) h h'->Yh h' 3 s (Yb (l.reverse.map Xf))->R (.tuple #[]) h'):Zt Y 400 [s.v] h R:=by
 have sl:l.length=s.n:=by have:=o.n3;simpa using this
 have ok:=o.ok;have w0:IntKind.i64.wrap ((s.n:Int)-1)=(l.length:Int)-1:=by rw[Zn];omega
 refine .o H ?_;simp[Y400,Yw.wp,w0];refine Zp (R3I s l h) (fun e _=>l.length-Zx e 1) ⟨0,_,by simp;rfl,by omega,Mod.refl _,l,rfl,o,fun k O=>by rw[ifN]⟩ ?_;rintro e h2 ⟨i,v3,rfl,hi,m2,c,hc,o2,G⟩;by_cases q:(i:Int)<(l.length:Int)-1-i
 ·obtain⟨j,X⟩:∃j:Nat,(l.length:Int)-1-i=j:=⟨l.length-1-i,by omega⟩
  have I:l≠[]:=fun e=>by rw[e] at X;simp at X;omega
  have ac:i<j:=by omega
  have J:j<l.length:=by omega
  have q':(i:Int)<(j:Int):=by omega
  have i1:∀g (z:Nat),z<l.length->Ym.cK Y g (.idxa 3) [s.v,Zg z]=some (.pointer (some ⟨s.b,s.o+z * 3,none⟩)):=fun g z lz=>by
   rw[Zl ok (by omega) (by omega)];simp
  have k1:=o2.row3.rd (i:=i) (by omega);have k2:=o2.row3.rd (i:=j) (by omega);have w1:=wrapS (i:=i);have w2:IntKind.i64.wrap ((j:Int)-1)=(j:Int)-1:=Zn;rw[X];simp[q',i1 _ _ J,i1 _ i (by omega),k1,k2];refine Zgd o2 (i:=i) ?_;intro h3 o3 m3;have e3:(c.map Xf).set i (Xf (Zq c j))=(c.set i (Zq c j)).map Xf:=by simp only[Xko]
  rw[show ((Zg (Zq c j).a,Zg (Zq c j).b,Zg (Zq c j).c):cR × cR × cR)=Xf (Zq c j) from rfl,e3] at o3;simp[i1 _ _ J];refine Zgd o3 (i:=j) ?_;intro h4 o4 m4;have e4:((c.set i (Zq c j)).map Xf).set j (Xf (Zq c i))=((c.set i (Zq c j)).set j (Zq c i)).map Xf:=by simp only[Xko]
  rw[show ((Zg (Zq c i).a,Zg (Zq c i).b,Zg (Zq c i).c):cR × cR × cR)=Xf (Zq c i) from rfl,e4] at o4;simp[w1,w2];refine⟨⟨i+1,.bool true,?_,by omega,(m2.trans (m3.mono fun _ _ e=>⟨I,e⟩)).trans (m4.mono fun _ _ e=>⟨I,e⟩),_,by simp[hc],o4,fun k O=>?_⟩,?_⟩
  ·have:(j:Int)-1=(l.length:Int)-1-((i+1:Nat):Int):=by omega
   rw[this];rfl
  ·rw[Zu6 (by simp;omega),Zu6 (by omega)];have aa:j=l.length-1-i:=by omega
   have U:=G i (by omega);have a2:=G j (by omega);rw[ifN] at U;rw[ifN] at a2;by_cases e1:k=j
   ·subst e1;rw[if_pos rfl,if_pos (.inr (by omega)),U]
    congr 1;omega
   by_cases e2:k=i
   ·subst e2;rw[if_neg e1,if_pos rfl,if_pos (.inl (by omega)),a2,aa]
   rw[if_neg e1,if_neg e2,G k O];by_cases e3:k<i\/l.length-1-k<i
   ·rw[if_pos e3,ifP]
   rw[if_neg e3,ifN]
  simp[Zx];omega
 simp[q];have:c=l.reverse:=by
  apply Xjp (by simp[hc]);intro k U a2;have O:k<l.length:=by omega
  have:=G k O;rw[Vi U] at this;rw[this,List.getElem_reverse,<-Vi (by omega)]
  split
  ·rfl
  congr 1;omega
 subst this;exact hr h2 m2 o2
inductive Zrd(B:Zb)(s:Nat):Nat->List (Nat × Nat)->Prop
 |nil:Zrd B s s []
 |snoc {a b:Nat} {l:List (Nat × Nat)}:Zrd B s a l->Zm B b=(a:Int)->b≠s->Zrd B s b (l++[(a,b)])
def lvQ(N:Zs)(L:Za)(s t a:Nat):Nat:=Ug (Xl L) (Ys N a) (Ys N s) (Vs N t) L.length
def Zvt(N:Zs)(L:Za)(s t:Nat)(p:Nat × Nat):Yt:=⟨(lvQ N L s t p.1:Nat),p.1,p.2⟩
def Z42(ord:Zd)(s n:Nat)(B:Zb):Prop:=∀i (hi:i<ord.length),ord[i]<n/\(ord[i]=s\/∃j,∃hj:j<i,Zm B ord[i]=((ord[j]'(by omega):Nat):Int))
structure Xez(Y:Sys):Prop where
 Q:Xd2 Y
 hops:Y.cL 362 Y362
 Rev:Y.cL 400 Y400
def HpI(qp s t:Nat)(N:Zs)(L:Za)(B:Zb)(ord:Zd)(h0:Zk)(m:Nat)(e:Zc)(h':Zk):Prop :=
 ∃(b:Nat)(u:Sl)(r:List (Nat × Nat))(v4 v5:Zj),e=[Zh qp,Zi,u.v,Zg b,v4,v5]/\b<N.as.length/\m<=ord.length/\(b=s\/∃i,∃hi:i<ord.length,i<m/\Zm B b=(ord[i]:Nat))/\r.length+m<=ord.length /\
  Yh h' 3 u (Yb ((r.map (Zvt N L s t)).map Xf))/\(u.nl=false->h0.size<=u.b)/\Ext h0 h'/\∀l,Zrd B s b l->Zrd B s t (l++r.reverse)
def Zvn(X:Xez Y){W:Zf}{J:Qj}{N:Zs}{S:Zf}{L:Za}{cN:Zb}(q:QF h W J N S L cN)(ok:Yl N)(pk:Yq N.vs.length L)(hs:J.s<N.as.length)(ht:J.t<N.as.length){B:Zb}{G:Zd}(oB:Yh h 1 (Sl.at J.bb N.as.length N.as.length) (Zu B))
  (bk:Z42 G J.s N.as.length B) (bt:J.t=J.s\/∃i,∃hi:i<G.length,Zm B J.t=(G[i]:Nat)) (lo:G.length<=N.as.length) {R:Ze}
  (hr:∀h' u r,Ext h h'->Zrd B J.s J.t r->Yh h' 3 u (Yb ((r.map (Zvt N L J.s J.t)).map Xf))->(u.nl=false->h.size<=u.b)->r.length<=G.length->R u.v h') :
  Zt Y 362 [Zh J.qp] h R:=by
 have ba:=ok.ba;have qs:=q.now;refine .o X.hops ?_;simp[Y362,Yw.wp,qs.cM.hc];refine Ze5 (HpI J.qp J.s J.t N L B G h) G.length ⟨J.t,Sl.nil,[],_,_,rfl,ht,Xi4 _,?_,by simp,Yh.nil,fun h=>(by cases h),Mod.refl _,fun l hl=>by simpa using hl⟩ ?_
 ·rcases bt with e|⟨i,hi,e⟩
  ·exact .inl e
  exact .inr ⟨i,hi,hi,e⟩
 rintro m e h1 ⟨b,u,r,v4,v5,rfl,lb,hm,hb,lr,ou,fu,U,hl⟩;have q1:=q h1 (U.mono fun _ _ h=>h.elim);have lu:=ou.n3;simp at lu;simp[q1.cM.hc];by_cases c:b=J.s
 ·subst c;simp;have hz:=hl [] .nil;simp at hz;refine Z1f X.Rev ou (by simp;omega) ?_;intro h2 m2 o2;simp;have e3:(List.map (Zvt N L J.s J.t) r).reverse=List.map (Zvt N L J.s J.t) r.reverse:=by rw[List.map_reverse]
  rw[e3] at o2
  cases I:u.nl with
  |true =>
   have:r=[]:=List.length_eq_zero_iff.1 (by have:=(ou.ok.nil I).1;omega);subst this;have oz:=ou;rcases oz.2 with⟨e,_⟩|⟨e,_⟩
   ·subst e;refine hr h2 Sl.nil [] ?_ hz Yh.nil (fun h=>(by cases h)) (by simp);exact Mod.cC U (m2.mono fun j H e=>(e.1 rfl:False)) (fun j H=>H.elim)
   rw[I] at e;cases e
  |false =>
   exact hr h2 u r.reverse (Mod.cC U m2 (fun j H=>by have:=fu I;have:=H.2;omega)) hz o2 fu (by simp;omega)
 have ab:¬(b:Int)=(J.s:Int):=by omega
 obtain⟨i,hi,ac,ea⟩:=hb.resolve_left c;have aa:∀g,Ym.cK Y g (.idxa 1) [.slice (some ⟨J.bb,0,none⟩) N.as.length N.as.length,Zg b]=some (.pointer (some ⟨J.bb,b,none⟩)):=fun g=>by
  have:=Wz (Y:=Y) (h:=g) (b:=J.bb) (sz:=1) (show N.as.length<=9223372036854775807 by omega) lb (Xi4 _);simpa using this
 have lB:=oB.cE.len;simp only[Sl.at_n] at lB;have vb:=((oB.cF U).cE).val b (by omega);rw[ea] at vb;simp at vb;obtain⟨la,ad⟩:=bk i hi;simp[ab,aa,vb];refine Zjq X.Q q1 ok pk la hs ht ?_;have ae:∀g (x y z:Int),Ym.cK Y g (.build #[Zg 0,Zg 0,Zg 0] [(0,1),(1,1),(2,1)] [0,1,2]) [Zg x,Zg y,Zg z]=some (.agg #[Zg x,Zg y,Zg z]):=fun g x y z=>rfl;simp[ae];refine Qm ?_;intro D h2 gD D2 e2;simp;refine Ub rfl (ou.cF e2) D2 ?_;intro u' h3 o3 m3 af;have x3:Ext h h3:=Mod.cC (U.trans e2) m3 (fun j H=>by have:=fu H.1;omega);have q3:=q h3 (x3.mono fun _ _ h=>h.elim);have O:=((oB.cF x3).cE).val b (by omega);rw[ea] at O;simp at O;simp[q3.cM.hc,aa,O];refine Zi1 (m':=i) ⟨G[i],u',r++[(G[i],b)],_,_,rfl,la,by omega,?_,by simp;omega,?_,fun hn=>?_,x3,fun l ag=>?_⟩ ac
 ·rcases ad with e|⟨j,H,e⟩
  ·exact .inl e
  exact .inr ⟨j,by omega,H,e⟩
 ·have e4:Yb (((r++[(G[i],b)]).map (Zvt N L J.s J.t)).map Xf)=Yb (((r.map (Zvt N L J.s J.t)).map Xf)++[(Zg (Ug (Xl L) (Ys N G[i]) (Ys N J.s) (Vs N J.t) L.length:Nat),Zg G[i],Zg b)]):=by
   rw[Xjj,Xjj];rfl
  rw[e4];simpa using o3
 ·rcases af with⟨x,y⟩|⟨x,y⟩
  ·rw[x];exact fu (by rw[<-y];exact hn)
  have:=U.size;have:=e2.size;omega
 have:=hl _ (.snoc ag ea c);rw[Xje] at this;rw[List.reverse_append];exact this
end
structure SeP(n s:Nat)(E:Nat->Nat->Int->Prop)(ord:Zd)(cost:Nat->Int)(A:Vn)(B:Zb)(dn:List Bool)(pE:Nat->Nat->Int->Prop):Prop where
 d:Zau n (AtI s) E ord cost A (fun _=>False) pE
 bo:∀i (hi:i<ord.length),ord[i]=s\/∃j,∃hj:j<i,Zm B ord[i]=((ord[j]'(by omega):Nat):Int)/\∃w,E (ord[j]'(by omega)) ord[i] w/\cost ord[i]=cost (ord[j]'(by omega))+w
 ba:∀b x,b<n->A b=some x->x<Xm/\((b=s/\x=0)\/∃i,∃hi:i<ord.length,Zm B b=(ord[i]:Nat)/\∃w,E ord[i] b w/\x=cost ord[i]+w)
 s0:s∈ord->cost s=0
 o0:ord=[]\/s∈ord
 lB:B.length=n
 ld:dn.length=n
 sett:∀b,b<n->(Zbt dn b=true↔b∈ord)
section
variable{n s:Nat}{E:Nat->Nat->Int->Prop}{ord:Zd}{cost:Nat->Int}{A:Vn}{B:Zb}{dn:List Bool}{pE pE':Nat->Nat->Int->Prop}
def SeP.start(G:s<n)(H:B.length=n):SeP n s E [] cost (Zad n (fun _=>none) s 0) B (List.replicate n false) (fun _ _ _=>False):=by
 have I:Zau n (AtI s) E [] cost (fun _=>none) (fun _=>True) (fun _ _ _=>False):=Zau.start (fun _ _ _=>trivial);obtain⟨J,O⟩:=I.put (b:=s) (x:=0) G (by simp) (.inr (.init ⟨rfl,rfl⟩)) (by omega) (fun a h=>by simp at h);refine⟨J.less (fun b c h _=>by obtain⟨rfl,rfl⟩:=h;exact .inr (.inr O)) (fun a h=>by simp at h),fun i R=>by simp at R,fun b x hb h=>?_,fun h=>by simp at h,.inl rfl,H,by simp,fun b hb=>by simp[Zbt,hb]⟩;unfold Zad at h
 split at h
 ·by_cases q:b=s
  ·simp[q] at h;exact⟨by rw[<-h];decide,.inl ⟨q,h.symm⟩⟩
  simp[q] at h
 cases h
def SeP.less(p:SeP n s E ord cost A B dn pE)(G:∀a,a∈ord->∀b w,E a b w->pE a b w->pE' a b w\/1152921504606846976<=cost a+w\/RxW ord cost A b (cost a+w)):SeP n s E ord cost A B dn pE' :=
 ⟨p.d.less (fun _ _ _ h=>h.elim) G,p.bo,p.ba,p.s0,p.o0,p.lB,p.ld,p.sett⟩
def SeP.pop(p:SeP n s E ord cost A B dn (fun _ _ _=>False)){k:Nat}{c:Int}(m:Zo1 n A k c):
  k ∉ ord/\SeP n s E (ord++[k]) (Uj cost k c) (Zej A k) B (dn.set k true) (fun a _ _=>a=k)/\(∀a,a∈ord++[k]->Uj cost k c a<=c)/\0<=c/\c<Xm:=by
 obtain⟨h1,h2,h3,h4,_⟩:=p.d.pop m;obtain⟨hk,hA,_⟩:=m;obtain⟨cI,hb⟩:=p.ba k c hk hA;have U:∀a,a∈ord->a≠k:=fun a X e=>h1 (e ▸ X);have hc:∀a,a∈ord->Uj cost k c a=cost a:=fun a X=>by unfold Uj;rw[if_neg (U a X)]
 have J:Uj cost k c k=c:=by simp[Uj]
 have G:∀i (O:i<ord.length) (aa:i<(ord++[k]).length),(ord++[k])[i]=ord[i]:=fun i O aa=>Xmv O;refine⟨h1,⟨h2,fun i O=>?_,fun b x I h=>?_,fun hs=>?_,.inr ?_,p.lB,by simp[p.ld],fun b I=>?_⟩,h3,h4.1,cI⟩
 ·have ab:=O;simp at ab;rcases Xi6 i ord.length with q|q
  ·rw[G i q O];rcases p.bo i q with e|⟨j,H,R,w,e2,e3⟩
   ·exact .inl e
   refine .inr ⟨j,H,?_,w,?_,?_⟩
   ·rw[G j (by omega) (by omega)];exact R
   ·rw[G j (by omega) (by omega)];exact e2
   rw[G j (by omega) (by omega),hc _ (Xi7 _),hc _ (Xi7 _)];exact e3
  have:i=ord.length:=by omega
  subst this;have e0:(ord++[k])[ord.length]=k:=by simp
  rw[e0];rcases hb with⟨e,_⟩|⟨j,H,R,w,e2,e3⟩
  ·exact .inl e
  refine .inr ⟨j,H,?_,w,?_,?_⟩
  ·rw[G j H (by simp;omega)];exact R
  ·rw[G j H (by simp;omega)];exact e2
  rw[G j H (by simp;omega),J,hc _ (Xi7 _)];exact e3
 ·unfold Zej at h;by_cases q:b=k
  ·rw[if_pos q] at h;cases h
  rw[if_neg q] at h;obtain⟨a1,a2⟩:=p.ba b x I h;refine⟨a1,a2.imp id ?_⟩;rintro⟨j,H,R,w,e2,e3⟩;exact⟨j,by simp;omega,by rw[G j H (by simp;omega)];exact R,w,by rw[G j H (by simp;omega)];exact e2,by rw[G j H (by simp;omega),hc _ (Xi7 _)];exact e3⟩
 ·rcases List.mem_append.1 hs with q|q
  ·rw[hc s q];exact p.s0 q
  have:s=k:=by simpa using q
  subst this;rw[J];rcases hb with⟨_,e⟩|⟨j,H,_⟩
  ·exact e
  rcases p.o0 with e|e
  ·subst e;simp at H
  exact absurd e h1
 ·rcases p.o0 with e|e
  ·rcases hb with⟨e2,_⟩|⟨j,H,_⟩
   ·simp[e2]
   subst e;simp at H
  simp[e]
 rw[Zmt (by rw[p.ld];exact hk)];by_cases q:b=k
 ·simp[q]
 rw[if_neg q];simp[q];exact p.sett b I
def SeP.put(p:SeP n s E ord cost A B dn pE){k b:Nat}{w:Int}(H:k∈ord)(hb:b<n)(R:b ∉ ord)(U:E k b w)(h0:0<=w)(hx:cost k+w<Xm)(I:∀a,a∈ord->cost a<=cost k):
  SeP n s E ord cost (Zad n A b (cost k+w)) (if Zes n A b (cost k+w)=true then B.set b k else B) dn pE/\RxW ord cost (Zad n A b (cost k+w)) b (cost k+w):=by
 have hI:Xm=1152921504606846976:=rfl;have bk:=p.d.bS k H;obtain⟨p1,p2⟩:=p.d.put (b:=b) (x:=cost k+w) hb R (by
  rcases p.d.wS k H with q|q
  ·exfalso;omega
  exact .inr (.step q U)) (by omega) (fun a J=>by have:=I a J;omega)
 obtain⟨i,G,O⟩:=Xju H;have X:∀a,a≠b->Zm (if Zes n A b (cost k+w)=true then B.set b k else B) a=Zm B a:=fun a J=>by
  split
  ·rw[Vj (by rw[p.lB];exact hb),if_neg J]
  rfl
 refine⟨⟨p1,fun i G=>?_,fun y x hy h=>?_,p.s0,p.o0,?_,p.ld,p.sett⟩,p2⟩
 ·rw[X _ (fun e=>R (e ▸ Xi7 G))];exact p.bo i G
 ·by_cases q:y=b
  ·subst q;unfold Zad at h;by_cases c:Zes n A y (cost k+w)=true
   ·rw[if_pos c] at h ⊢;simp at h;subst h;exact⟨hx,.inr ⟨i,G,by rw[Vj (by rw[p.lB];exact hb),if_pos rfl,O],w,by rw[O];exact U,by rw[O]⟩⟩
   rw[if_neg c] at h;rw[if_neg c];exact p.ba y x hy h
  have h':A y=some x:=by
   unfold Zad at h
   split at h
   ·simpa[q] using h
   exact h
  rw[X y q];exact p.ba y x hy h'
 split
 ·simp[p.lB]
 exact p.lB
inductive Z7w(E:Nat->Nat->Int->Prop)(s:Nat):Nat->Int->List (Nat × Nat)->Prop
 |nil:Z7w E s s 0 []
 |snoc {a b:Nat} {y w:Int} {l:List (Nat × Nat)}:Z7w E s a y l->E a b w->Z7w E s b (y+w) (l++[(a,b)])
def SeP.back(p:SeP n s E ord cost A B dn pE):Z42 ord s n B:=fun i G=>⟨p.d.lt _ (Xi7 G),(p.bo i G).imp id fun ⟨j,H,e,_⟩=>⟨j,H,e⟩⟩
def Zrd.w(p:SeP n s E ord cost A B dn pE):∀{b:Nat}{l:List (Nat × Nat)},Zrd B s b l->b∈ord->Z7w E s b (cost b) l:=by
 intro b l h
 induction h with
 |nil=>intro hb;rw[p.s0 hb];exact .nil
 |snoc h e G J =>
  rename_i a b l;intro hb;obtain⟨i,O,H⟩:=Xju hb;rcases p.bo i O with q|⟨j,U,R,w,e2,e3⟩
  ·exact absurd (by rw[<-H,q]) G
  rw[H] at R e2 e3;have I:ord[j]=a:=by omega
  rw[I] at e2 e3;rw[e3];exact .snoc (J (by rw[<-I];exact Xi7 _)) e2
end
def Zu1{a b c:Int}(G:0<=a)(hb:0<=b)(hc:0<=c:=by omega):Zx8 [a,b,c]=Vz (a+b+c):=by
 simp only[Zx8,Xk1,List.foldl_nil,Qf,Vz]
 repeat' split
 all_goals omega
structure Z7m(Y:Sys):Prop where
 Q:Xez Y
 H:Z7c Y
 C:Zcu Y
 run:Y.cL 344 Y344
def WrQ(M db bb:Nat)(Sh:Zf)(b:Nat):Prop:=b=M\/b=db\/b=bb\/Sh b
abbrev HQ(N:Zs)(L:Za)(cN:Zb)(s t:Nat):=Zjb N L.length (Xl L) (fun k=>Zbl N L cN (k-1)) s t
def Z8k{N:Zs}{L:Za}{cN:Zb}{s t:Nat}(ok:Yl N)(H:s<N.as.length)(I:∀i,0<=Zm cN i/\Zm cN i<=Xm):Zgq N.as.length (AtI s) (HQ N L cN s t):=by
 refine⟨fun b c h=>by obtain⟨rfl,rfl⟩:=h;exact⟨H,by omega⟩,fun a b w h=>?_⟩;unfold HQ Zjb at h;simp only[] at h
 split at h
 ·have:=Zd8 ok h;obtain⟨k,e,O⟩:=Ue h.2.1;exact⟨by omega,this⟩
 obtain⟨_,_,_,_,G,R⟩:=h;obtain⟨k,e,O⟩:=Ue G;have:=(Wd ok (a:=(b:Int))).resolve_left G;have:=(I (enV N L (Ug (Xl L) (Ys N a) (Ys N s) (Vs N t) L.length-1) (Zm (Yc L (Ug (Xl L) (Ys N a) (Ys N s) (Vs N t) L.length-1)) (Ys N a)).toNat (Yk 0 (Zv N L (Ug (Xl L) (Ys N a) (Ys N s) (Vs N t) L.length-1) false (Zm (Yc L (Ug (Xl L) (Ys N a) (Ys N s) (Vs N t) L.length-1)) (Ys N a)).toNat) a) (Yk 0 (Zv N L (Ug (Xl L) (Ys N a) (Ys N s) (Vs N t) L.length-1) true (Zm (Yc L (Ug (Xl L) (Ys N a) (Ys N s) (Vs N t) L.length-1)) (Ys N a)).toNat) b)).toNat).1;unfold Zbl at R;exact⟨by omega,by omega⟩
structure Zet(h:Zk)(J:Qj)(N:Zs)(S:Zf)(L:Za)(cN:Zb)(hp db:Nat)(A:Vn)(B:Zb)(dn:List Bool)(Sh:Zf):Prop where
 qf:QF h (WrQ J.M db J.bb Sh) J N S L cN
 gt:GtH h J.M (WrQ J.M db J.bb Sh) N L
 od:Yh h 1 (Sl.at db N.as.length N.as.length) (Vo dn)
 ob:Yh h 1 (Sl.at J.bb N.as.length N.as.length) (Zu B)
 hr:Q8 h hp N.as.length A Sh
 dj:∀b,Sh b->b≠J.M/\b≠db/\b≠J.bb
 dd:J.M≠db/\J.M≠J.bb/\db≠J.bb
 lM:J.M<h.size
 wc:cN≠[]->¬WrQ J.M db J.bb Sh J.sc.b
section
variable{Y:Sys}{h h':Zk}{J:Qj}{N:Zs}{S:Zf}{L:Za}{cN:Zb}{hp db:Nat}{A A':Vn}{B:Zb}{dn:List Bool}{Sh Sh':Zf}
def Zet.cC(k:Zet h J N S L cN hp db A B dn Sh)(e:Ext h h'):Zet h' J N S L cN hp db A B dn Sh :=
 ⟨k.qf.then e (fun _ h=>h.elim) (fun _ h=>.inl h),k.gt.cD e (fun _ h=>h.elim),k.od.cF e,k.ob.cF e,k.hr.cD e (fun _ _ h=>h),k.dj,k.dd,by have:=e.size;have:=k.lM;omega,k.wc⟩
def Zet.heap(k:Zet h J N S L cN hp db A B dn Sh)(m:Mod Sh h h')(H:Q8 h' hp N.as.length A' Sh')(f:∀b,Sh' b->Sh b\/h.size<=b):Zet h' J N S L cN hp db A' B dn Sh':=by
 have U:=k.lM;have O:=k.od.lt rfl;have R:=k.ob.lt rfl;simp at O R;have G:∀b,WrQ J.M db J.bb Sh' b->WrQ J.M db J.bb Sh b\/h.size<=b:=fun b hb=>by
  rcases hb with e|e|e|e
  ·exact .inl (.inl e)
  ·exact .inl (.inr (.inl e))
  ·exact .inl (.inr (.inr (.inl e)))
  rcases f b e with q|q
  ·exact .inl (.inr (.inr (.inr q)))
  exact .inr q
 have z:=m.size;refine⟨k.qf.then m (fun b hb=>.inl (.inr (.inr (.inr hb)))) G,k.gt.both m (fun b hb=>⟨.inl (.inr (.inr (.inr hb))),(k.dj b hb).1⟩) G (.inl rfl),k.od.cD m (fun _ hb=>(k.dj _ hb).2.1 rfl),k.ob.cD m (fun _ hb=>(k.dj _ hb).2.2 rfl),H,fun b hb=>?_,k.dd,by omega,fun I hb=>?_⟩
 ·rcases f b hb with q|q
  ·exact k.dj b q
  omega
 rcases G _ hb with q|q
 ·exact k.wc I q
 have:=Vk k.qf.now.rc I;omega
def Zet.mark{d:List Bool}(k:Zet h J N S L cN hp db A B dn Sh)(m:Mod (fun j=>j=db) h h')(o:Yh h' 1 (Sl.at db N.as.length N.as.length) (Vo d)):Zet h' J N S L cN hp db A B d Sh:=by
 have G:=k.dd;have z:=m.size;exact⟨k.qf.then m (fun b hb=>.inl (.inr (.inl hb))) (fun _ h=>.inl h),k.gt.cD m (fun b hb=>⟨.inl (.inr (.inl hb)),fun e=>G.1 (by rw[<-e];exact hb)⟩),o,k.ob.cD m (fun _ hb=>G.2.2 (Eq.symm hb)),k.hr.cD m (fun b hb e=>(k.dj b hb).2.1 e),k.dj,G,by have:=k.lM;omega,k.wc⟩
def Zet.setB{B':Zb}(k:Zet h J N S L cN hp db A B dn Sh)(m:Mod (fun j=>j=J.bb) h h')(o:Yh h' 1 (Sl.at J.bb N.as.length N.as.length) (Zu B')):Zet h' J N S L cN hp db A B' dn Sh:=by
 have G:=k.dd;have z:=m.size;exact⟨k.qf.then m (fun b hb=>.inl (.inr (.inr (.inl hb)))) (fun _ h=>.inl h),k.gt.cD m (fun b hb=>⟨.inl (.inr (.inr (.inl hb))),fun e=>G.2.1 (by rw[<-e];exact hb)⟩),k.od.cD m (fun _ hb=>G.2.2 hb),o,k.hr.cD m (fun b hb e=>(k.dj b hb).2.2 e),k.dj,G,by have:=k.lM;omega,k.wc⟩
def Zet.gates(k:Zet h J N S L cN hp db A B dn Sh)(m:Mod (fun j=>j=J.M) h h')(g:GtH h' J.M (fun j=>WrQ J.M db J.bb Sh j/\j<h.size) N L):Zet h' J N S L cN hp db A B dn Sh:=by
 have G:=k.dd;have z:=m.size;have H:=k.od.lt rfl;have I:=k.ob.lt rfl;simp at H I;have O:∀b,WrQ J.M db J.bb Sh b->b<h.size:=fun b hb=>by
  rcases hb with e|e|e|e
  ·rw[e];exact k.lM
  ·rw[e];exact H
  ·rw[e];exact I
  exact k.hr.lt e
 exact⟨k.qf.then m (fun b hb=>.inl (.inl hb)) (fun _ h=>.inl h),g.grow (fun b hb=>.inl ⟨hb,O b hb⟩) (.inl rfl),k.od.cD m (fun _ hb=>G.1 (Eq.symm hb)),k.ob.cD m (fun _ hb=>G.2.1 (Eq.symm hb)),k.hr.cD m (fun b hb e=>(k.dj b hb).1 e),k.dj,G,by have:=k.lM;omega,k.wc⟩
end
def Zn0{n:Nat}{L:Za}(G:Yq n L):Zks L.length (Xl L):=by
 have key:∀j k,0<j->j<=k->k<=L.length->Zju (Xl L j) (Xl L k):=by
  intro j k O H
  induction k with
  |zero=>intro _;omega
  |succ k I =>
   intro R;by_cases q:j=k+1
   ·subst q;exact fun u v e=>e
   have h1:=I (by omega) (by omega);obtain⟨k',rfl⟩:∃k',k=k'+1:=⟨k-1,by omega⟩
   have J:=Zo3 G (k:=k') (by omega);exact fun u v e=>J u v (h1 u v e)
 exact key
structure Xhj(h:Zk)(z:Nat)(N:Zs)(L:Za)(cN:Zb)(s t:Nat)(d:Int)(u:Sl):Prop where
 least:Un (Q6 N s) (EdW N) t d
 hops:d<Xm->∃r,Z7w (HQ N L cN s t) s t d r/\Yh h 3 u (Yb ((r.map (Zvt N L s t)).map Xf))/\r.length<=N.as.length/\(u.nl=false->z<=u.b)
def RuO(J:Qj)(hp db:Nat)(N:Zs)(S:Zf)(L:Za)(cN:Zb)(h0:Zk)(m:Nat)(e:Zc)(h':Zk):Prop :=
 ∃(ord:Zd)(cost:Nat->Int)(A:Vn)(B:Zb)(dn:List Bool)(Sh:Zf)(o p q r u a c d f g h i j k l n:Zj),
  e=[Zh J.qp,Zg 0,Zi,.slice (some ⟨db,0,none⟩) N.as.length N.as.length,Zh hp,o,p,q,r,u,a,c,d,f,g,h,i,j,k,l,n] /\
  Zet h' J N S L cN hp db A B dn Sh/\SeP N.as.length J.s (HQ N L cN J.s J.t) ord cost A B dn (fun _ _ _=>False)/\J.t ∉ ord/\Mod (fun b=>b=J.M\/b=J.bb) h0 h'/\(∀b,Sh b->h0.size<=b)/\h0.size<=db/\m=N.as.length-ord.length
def RuJ(J:Qj)(hp db k M:Nat)(c:Int)(u w:Sl)(bs ps:Zb)(N:Zs)(S:Zf)(L:Za)(cN:Zb)(h0:Zk)(e:Zc)(h':Zk):Prop :=
 ∃(i:Nat)(ord:Zd)(cost:Nat->Int)(A:Vn)(B:Zb)(dn:List Bool)(Sh:Zf)(q d f g h l m o p:Zj),
  e=[Zh J.qp,Zg 0,Zi,.slice (some ⟨db,0,none⟩) N.as.length N.as.length,Zh hp,Zg k,Zg c,q,u.v,w.v,d,f,g,h,l,m,u.v,Zg u.n,Zg i,o,p]/\i<=bs.length /\
  Zet h' J N S L cN hp db A B dn Sh/\SeP N.as.length J.s (HQ N L cN J.s J.t) ord cost A B dn (fun a b w'=>a=k/\∃j,i<=j/\j<bs.length/\Zm bs j=(b:Int)/\Zm ps j≠Xm/\Zr N b≠Xm/\w'=Zm ps j+Zr N b)/\J.t ∉ ord/\k∈ord/\cost k=c/\(∀a,a∈ord->cost a<=c)/\0<=c/\c<Xm /\
  Zw h' u bs/\Zw h' w ps/\(bs≠[]->¬WrQ J.M db J.bb Sh u.b)/\(ps≠[]->¬WrQ J.M db J.bb Sh w.b)/\Mod (fun b=>b=J.M\/b=J.bb) h0 h'/\(∀b,Sh b->h0.size<=b)/\h0.size<=db/\N.as.length-ord.length<M
section
variable{Y:Sys}{h h':Zk}
set_option maxHeartbeats 1000000 in
def Z58(X:Z7m Y){J:Qj}{N:Zs}{S:Zf}{L:Za}{cN B0:Zb}(q:QF h (fun b=>b=J.M\/b=J.bb) J N S L cN)(gt:GtH h J.M (fun b=>b=J.M\/b=J.bb) N L)(oB:Yh h 1 (Sl.at J.bb N.as.length N.as.length) (Zu B0))(nM:J.M≠J.bb)(lM:J.M<h.size)
  (wc:cN≠[]->J.sc.b≠J.M/\J.sc.b≠J.bb) (ok:Yl N) (pk:Yq N.vs.length L) (hE:W3 N L cN) (hs:J.s<N.as.length) (ht:J.t<N.as.length) {R:Ze}
  (hr:∀h' d u,Mod (fun b=>b=J.M\/b=J.bb) h h'->Xhj h' h.size N L cN J.s J.t d u->R (.tuple #[Zg d,u.v]) h') :
  Zt Y 344 [Zh J.qp] h R:=by
 have hI:Xm=1152921504606846976:=rfl;have ba:=ok.ba;have qs:=q.now;have c0:∀i,0<=Zm cN i/\Zm cN i<=Xm:=fun i=>by
  rcases Xi6 i cN.length with w|w
  ·exact hE.c0 i w
  have:Zm cN i=0:=by simp[Zm,Xjl w]
  omega
 have C:=Z8k (t:=J.t) ok hs c0 (L:=L);have aA:∀d,Un (AtI J.s) (HQ N L cN J.s J.t) J.t d->Zr N J.s≠Xm->Un (Q6 N J.s) (EdW N) J.t d:=fun d hd hw=>by
  have e:Q6 N (J.s:Int)=AtI J.s:=by
   funext b c
   apply propext;constructor
   ·rintro⟨h1,h2,_⟩;exact⟨by omega,h2⟩
   rintro⟨rfl,rfl⟩;exact⟨rfl,rfl,hw⟩
  rw[e];refine (Zw8 ok (Zn0 pk) (fun k h1 h2=>?_) (fun b c h=>h)).1 hd;obtain⟨k',rfl⟩:∃k',k=k'+1:=⟨k-1,by omega⟩
  exact (hE.level (k:=k') (by omega)).ent pk ok
 have aB:=oB.lt rfl;simp at aB;refine .o X.run ?_;simp[Y344,Yw.wp,qs.cM.hc];refine X8 X.Q.Q.G.Weight X.Q.Q.G.arc qs.g ?_;have aP:=Wd ok (a:=(J.s:Int));by_cases ws:Zr N J.s=1152921504606846976
 ·simp[ws];refine hr h Xm Sl.nil (Mod.refl _) ⟨?_,fun h=>by omega⟩;refine⟨Xkh _,fun c w=>?_,.inl rfl⟩;exfalso;have:∀b c,Yx (Q6 N J.s) (EdW N) b c->False:=fun b c w=>by
   induction w with
   |init h=>exact h.2.2 ws
   |step _ _ ih=>exact ih
  exact this _ _ w
 have aQ:¬1152921504606846976<=Zr N J.s:=by have:=aP.resolve_left ws;omega
 simp[aQ,qs.cM.hc];refine Zh2 (n:=N.as.length) ?_;intro db h1 aC o1 e1 U;have q1:=q h1 (e1.mono fun _ _ h=>h.elim);simp[q1.cM.hc];refine Zm4 X.H.New ?_;intro h2 hp S2 H2 f2 e2;rw[Zlj ba] at H2;have x2:=e1.trans e2;have q2:=q h2 (x2.mono fun _ _ h=>h.elim);have z1:=e1.size;have z2:=e2.size;have W2:∀b,WrQ J.M db J.bb S2 b->(b=J.M\/b=J.bb)\/h.size<=b:=fun b hb=>by
  rcases hb with e|e|e|e
  ·exact .inl (.inl e)
  ·exact .inr (by omega)
  ·exact .inl (.inr e)
  exact .inr (by have:=f2 b e;omega)
 have k2:Zet h2 J N S L cN hp db (fun _=>none) B0 (List.replicate N.as.length false) S2:=by
  refine⟨q.then x2 (fun _ h=>h.elim) W2,gt.both x2 (fun _ h=>h.elim) W2 (.inl rfl),by simpa[Vo] using o1.cF e2,oB.cF x2,H2,fun b hb=>?_,⟨by omega,nM,by omega⟩,by omega,fun hn hb=>?_⟩
  ·have:=f2 b hb;omega
  rcases W2 _ hb with w|w
  ·have:=wc hn;omega
  have:=Vk qs.rc hn;omega
 simp[q2.cM.hc];refine Zdb X.H.Put X.H.key X.C.Held X.H.up X.H.ahead X.H.swap H2 ?_;intro h3 S3 H3 f3 m3;rw[Qz] at H3;have k3:=k2.heap m3 H3 f3;have aD:Mod (fun b=>b=J.M\/b=J.bb) h h3:=(x2.mono fun _ _ h=>h.elim).then m3 (fun i hi h=>by have:=f2 i h;omega);simp;refine Ze5 (RuO J hp db N S L cN h) _ ⟨[],fun _=>0,_,B0,_,S3,_,_,_,_,_,_,_,_,_,_,_,_,_,_,_,_,rfl,k3,SeP.start hs (by have:=oB.cE.len;simpa using this),by simp,aD,fun b hb=>by rcases f3 b hb with w|w;(have:=f2 b w;omega);omega,aC,rfl⟩ ?_;clear k3 aD m3 H3 f3 k2 W2 z1 z2 q2 x2 e2 f2 H2 q1 U e1 o1 aC aB;rintro m e h4 ⟨O,I,A,B,dn,Sh,v5,v6,v7,v8,v9,aR,aS,aT,aU,aV,aW,bh,bi,bj,aX,aY,rfl,k4,p4,nt,m4,ab,U,rfl⟩;simp;refine Zk9 X.H.Pop X.H.down X.H.ahead X.H.swap k4.hr ?_ ?_
 ·intro h0;simp;have:=p4.d.least C h0 ht;rw[if_neg nt] at this;exact hr h4 Xm Sl.nil m4 ⟨aA _ this ws,fun h=>by omega⟩
 intro h5 k c ad H5 m5;have k5:=k4.heap m5 H5 (fun b hb=>.inl hb);have z5:=m5.size;have an:Mod (fun b=>b=J.M\/b=J.bb) h h5:=m4.then m5 (fun i hi h=>by have:=ab i h;omega);have ar:=p4.d.popped C ad;obtain⟨hk,p5,aa,ae,cI⟩:=p4.pop ad;have lk:=ad.1;have aE:=k5.qf.now;have ac:Uj I k c k=c:=by simp[Uj]
 simp[aE.cM.hc];by_cases et:k=J.t
 ·subst et;simp;have bt:=(p4.ba _ c lk ad.2.1).2;have len:=Za1 p4.d.nd p4.d.lt;refine Zvn X.Q k5.qf ok pk hs ht k5.ob p4.back ?_ len ?_
  ·rcases bt with⟨e,_⟩|⟨i,hi,e,_⟩
   ·exact .inl e
   exact .inr ⟨i,hi,e⟩
  intro h6 u r e6 hl ou fu lr;simp;refine hr h6 c u (an.then e6 fun _ _ h=>h.elim) ⟨aA _ ar ws,fun _=>⟨r,?_,ou,by omega,fun hn=>by have:=fu hn;have:=an.size;omega⟩⟩;have:=Zrd.w p5 hl (by simp);rw[ac] at this;exact this
 have aZ:¬(k:Int)=(J.t:Int):=by omega
 have aF:∀g (x:Nat),x<N.as.length->Ym.cK Y g (.idxa 1) [.slice (some ⟨db,0,none⟩) N.as.length N.as.length,Zg x]=some (.pointer (some ⟨db,x,none⟩)):=fun g x lx=>by
  have:=Wz (Y:=Y) (h:=g) (b:=db) (sz:=1) (show N.as.length<=9223372036854775807 by omega) lx (Xi4 _);simpa using this
 simp[aZ,aF _ _ lk];refine Zfc k5.od (k:=k) ?_ (by rw[Zgw,p4.ld];exact lk);intro h6 o6 m6;rw[Zec] at o6;have k6:=k5.mark m6 o6;have z6:=m6.size;have aG:Mod (fun b=>b=J.M\/b=J.bb) h h6:=an.then m6 (fun i hi h=>by omega);simp;refine Zjq X.Q.Q k6.qf.now ok pk lk hs ht ?_;simp;refine Zwy X.Q.Q k6.qf k6.gt ok pk hE.len c0 k6.wc lk ?_;intro h7 u w bs ps m7 aH ru ay fu fw nx;have z7:=m7.size;have k7:=k6.gates m7 aH;have aI:Mod (fun b=>b=J.M\/b=J.bb) h h7:=aG.trans (m7.mono fun i hi h=>.inl h);have wl:∀b,WrQ J.M db J.bb Sh b->b<h6.size:=fun b hb=>by
  have a1:=k6.lM;have a2:=k6.od.lt rfl;have a3:=k6.ob.lt rfl;simp at a2 a3;rcases hb with e|e|e|e
  ·omega
  ·omega
  ·omega
  exact k6.hr.lt e
 have lu:=ru.len;have lw:=ay.len;have lb:=nx.len;have bk:=nx.bl;have hM:N.as.length-(O++[k]).length<N.as.length-O.length:=by
  have:=Za1 p5.d.nd p5.d.lt;simp at this ⊢;omega
 simp;refine Zp (RuJ J hp db k (N.as.length-O.length) c u w bs ps N S L cN h) (fun e _=>bs.length-Zx e 18) ⟨0,O++[k],_,_,B,_,Sh,_,_,_,_,_,_,_,_,_,rfl,by omega,k7,p5.less (fun a ha b w' he hp=>by
  subst hp;obtain⟨j,h1,h2,h3,h4,h5⟩:=(nx.hop b w').1 he;exact .inl ⟨rfl,j,by omega,h1,h2,h3,h4,h5⟩),by simp;exact⟨nt,fun e=>et e.symm⟩,by simp,ac,fun a ha=>aa a ha,ae,cI,ru,ay,fun hn hb=>by
   rcases fu hn with e|e
   ·exact e hb
   ·have:=wl _ hb;omega,fun hn hb=>by
   rcases fw hn with e|e
   ·exact e hb
   have:=wl _ hb;omega,aI,ab,U,hM⟩ ?_
 clear hM wl fu fw aH k7 aI z7 m7 ru ay aG z6 k6 m6 o6 k5 m5 an z5 H5 ar p5 aa ac p4 k4 m4 nt hk ad ab U ae cI aE;generalize N.as.length-O.length=Mm;rintro e h8 ⟨i,O,I,A,B,dn,Sh,v7,aR,aS,aT,aU,aV,aW,aX,aY,rfl,hi,k8,p8,nt,hk,ac,aa,ae,cI,ru,ah,nu,nw,m8,ab,U,aj⟩;by_cases ci:i<bs.length;rotate_left
 ·have a0:¬(i:Int)<u.n:=by omega
  simp[a0];refine Zi1 (m':=N.as.length-O.length) ⟨O,I,A,B,dn,Sh,_,_,_,_,_,_,_,_,_,_,_,_,_,_,_,_,rfl,k8,p8.less (fun a ha b w' he hp=>by obtain⟨_,j,h1,h2,_⟩:=hp;omega),nt,m8,ab,U,rfl⟩ aj
 have a4:(i:Int)<u.n:=by omega
 have bm:i<u.n:=by omega
 have a5:(i:Int)<w.n:=by omega
 have bn:i<w.n:=by omega
 have wi:=wrapS (i:=i);obtain⟨b,eb,ai⟩:=nx.nat i ci;have vb:=ru.val i ci;rw[eb] at vb;have vp:=ah.val i (by omega);obtain⟨a6,bo⟩:=nx.pos i ci;have aJ:=k8.qf.now;simp[a4,a5,Zl ru.ok,Zl ah.ok,vb,vp,aJ.cM.hc];refine X8 X.Q.Q.G.Weight X.Q.Q.G.arc aJ.g ?_;simp[vp];refine Wk rfl rfl rfl ?_;intro b9 h9 g9 _ e9 o9;have r9:Zw h9 (Sl.at b9 3 3) [c,Zm ps i,Zr N b]:=Yh.cE (cs:=[c,Zm ps i,Zr N b]) o9;simp;refine Zr6 X.C r9 ?_;have bp:=Wd ok (a:=(b:Int));rw[Zu1 ae a6];have k9:=k8.cC e9;have z9:=e9.size;have az:Mod (fun b=>b=J.M\/b=J.bb) h h9:=m8.then e9 fun _ _ h=>h.elim;have a7:hc h9 db b=some (.bool (Zbt dn b)):=by
  have:=k9.od.cell (i:=b) (v:=.bool (Zbt dn b)) (by simp[Vo,Zbt,p8.ld,ai]);simpa using this
 obtain⟨q1,q2,q3,q4⟩:=Zrk (x:=c+Zm ps i+Zr N b);have af:bs≠[]:=fun e=>by rw[e] at ci;simp at ci
 have ag:ps≠[]:=fun e=>af (List.length_eq_zero_iff.1 (by rw[lb,e];rfl));have seen:∀{A':Vn}{B':Zb},SeP N.as.length J.s (HQ N L cN J.s J.t) O I A' B' dn (fun a b w'=>a=k/\∃j,i<=j/\j<bs.length/\Zm bs j=(b:Int)/\Zm ps j≠Xm/\Zr N b≠Xm/\w'=Zm ps j+Zr N b) ->
   (Zm ps i≠Xm->Zr N b≠Xm->1152921504606846976<=I k+(Zm ps i+Zr N b)\/RxW O I A' b (I k+(Zm ps i+Zr N b))) ->
   SeP N.as.length J.s (HQ N L cN J.s J.t) O I A' B' dn (fun a b w'=>a=k/\∃j,i+1<=j/\j<bs.length/\Zm bs j=(b:Int)/\Zm ps j≠Xm/\Zr N b≠Xm/\w'=Zm ps j+Zr N b):=fun{A' B'} pp hx=>pp.less (fun a ha y w' he hp=>by
  obtain⟨rfl,j,h1,h2,h3,h4,h5,h6⟩:=hp;by_cases e:j=i
  ·subst e;have:y=b:=by omega
   subst this;subst h6;exact .inr (hx h4 h5)
  exact .inl ⟨rfl,j,by omega,h2,h3,h4,h5,h6⟩)
 by_cases aK:Vz (c+Zm ps i+Zr N b)<1152921504606846976;rotate_left
 ·simp[aK,wi];refine Go.Rm.nx ⟨i+1,O,I,A,B,dn,Sh,_,_,_,_,_,_,_,_,_,rfl,by omega,k9,seen p8 (fun _ _=>.inl (by omega)),nt,hk,ac,aa,ae,cI,ru.cC e9,ah.cC e9,nu,nw,az,ab,U,aj⟩
 simp[aK,aF _ _ ai,a7]
 cases hd:Zbt dn b with
 |true =>
  have hb:=(p8.sett b ai).1 hd;simp[wi];refine Go.Rm.nx ⟨i+1,O,I,A,B,dn,Sh,_,_,_,_,_,_,_,_,_,rfl,by omega,k9,seen p8 (fun h1 h2=>.inr (.inl ⟨hb,by have:=aa b hb;omega⟩)),nt,hk,ac,aa,ae,cI,ru.cC e9,ah.cC e9,nu,nw,az,ab,U,aj⟩
 |false =>
  have hb:b ∉ O:=fun h=>by rw[(p8.sett b ai).2 h] at hd;cases hd
  have a8:Zm ps i≠Xm:=by omega
  have a9:Zr N b≠Xm:=by omega
  have hx:Vz (c+Zm ps i+Zr N b)=I k+(Zm ps i+Zr N b):=by omega
  have he:=(nx.hop b (Zm ps i+Zr N b)).2 ⟨i,ci,eb,a8,a9,rfl⟩;obtain⟨pp,aL⟩:=p8.put hk ai hb he (by omega) (by omega) (fun a ha=>by rw[ac];exact aa a ha);have bg:=aa;simp;refine Zdb X.H.Put X.H.key X.C.Held X.H.up X.H.ahead X.H.swap k9.hr ?_;intro bc S10 H10 ao ak;rw[show Vz (Vz (c+Zm ps i+Zr N b))=I k+(Zm ps i+Zr N b) by rw[Qz q2,hx]] at H10 ⊢;have ap:=k9.heap ak H10 ao;have bq:=ak.size;have au:Mod (fun b=>b=J.M\/b=J.bb) h bc:=az.then ak (fun i hi h=>by have:=ab i h;omega);have av:∀b,S10 b->h.size<=b:=fun b hb=>by
   have:=m8.size;rcases ao b hb with e|e
   ·exact ab b e
   omega
  have aw:=(ru.cC e9).cD ak (fun _ e=>nu af (.inr (.inr (.inr e))));have ax:=(ah.cC e9).cD ak (fun _ e=>nw ag (.inr (.inr (.inr e))));have al:bs≠[]->¬WrQ J.M db J.bb S10 u.b:=fun _ hb=>by
   rcases hb with e|e|e|e
   ·exact nu af (.inl e)
   ·exact nu af (.inr (.inl e))
   ·exact nu af (.inr (.inr (.inl e)))
   rcases ao _ e with e|e
   ·exact nu af (.inr (.inr (.inr e)))
   have:=Vk ru af;omega
  have am:ps≠[]->¬WrQ J.M db J.bb S10 w.b:=fun _ hb=>by
   rcases hb with e|e|e|e
   ·exact nw ag (.inl e)
   ·exact nw ag (.inr (.inl e))
   ·exact nw ag (.inr (.inr (.inl e)))
   rcases ao _ e with e|e
   ·exact nw ag (.inr (.inr (.inr e)))
   have:=Vk ah ag;omega
  cases aM:Zes N.as.length A b (I k+(Zm ps i+Zr N b)) with
  |false =>
   rw[aM] at pp;simp[wi];refine Go.Rm.nx ⟨i+1,O,I,_,B,dn,S10,_,_,_,_,_,_,_,_,_,rfl,by omega,ap,seen (by simpa using pp) (fun _ _=>.inr aL),nt,hk,ac,aa,ae,cI,aw,ax,al,am,au,av,U,aj⟩
  |true =>
   rw[aM] at pp;have aN:=ap.qf.now;have bd:∀g,Ym.cK Y g (.idxa 1) [.slice (some ⟨J.bb,0,none⟩) N.as.length N.as.length,Zg b]=some (.pointer (some ⟨J.bb,b,none⟩)):=fun g=>by
    have:=Wz (Y:=Y) (h:=g) (b:=J.bb) (sz:=1) (show N.as.length<=9223372036854775807 by omega) ai (Xi4 _);simpa using this
   simp[aN.cM.hc,bd];refine Zfc ap.ob (k:=b) ?_ (by have:=p8.lB;simp;omega);intro br aO aq;rw[Um] at aO;have be:=ap.setB aq aO;simp[wi];refine Go.Rm.nx ⟨i+1,O,I,_,_,dn,S10,_,_,_,_,_,_,_,_,_,rfl,by omega,be,seen (by simpa using pp) (fun _ _=>.inr aL),nt,hk,ac,aa,ae,cI,aw.cD aq (fun _ e=>al af (.inr (.inr (.inl e)))),ax.cD aq (fun _ e=>am ag (.inr (.inr (.inl e)))),al,am,au.trans (aq.mono fun i hi e=>.inr e),av,U,aj⟩
structure Zpt(Y:Sys):Prop where
 R:Z7m Y
 K:Xb5 Y
 New:Y.cL 343 Y343
 Dist:Y.cL 331 Y331
def Znm(X:Zpt Y){p op:Nat}{N:Zs}{S:Zf}{L:Za}{H:Sl}{cN:Zb}(g:Xi h p N S)(v:Uq h op N L)(rc:Zw h H cN)(ok:Yl N)(pk:Yq N.vs.length L){s t:Nat}{R:Ze}
  (hr:∀h' (J:Qj),J.s=s->J.t=t->J.sc=H->h.size<=J.M->h.size<=J.bb->J.M≠J.bb->J.M<h'.size->Ext h h'->QF h' (fun b=>b=J.M\/b=J.bb) J N S L cN->GtH h' J.M (fun b=>b=J.M\/b=J.bb) N L->Yh h' 1 (Sl.at J.bb N.as.length N.as.length) (Zu (List.replicate N.as.length 0))->R (Zh J.qp) h') :
  Zt Y 343 [Zh p,Zh op,H.v,Zg s,Zg t] h R:=by
 have bL:=pk.bL;have bn:=pk.bn;have ba:=ok.ba;refine .o X.New ?_;simp[Y343,Yw.wp];refine Zgg X.R.Q.Q.A.O v (by omega) (fun i hi=>by have:=(Xq pk hi).1;omega) ?_;intro h1 I e1 fL;have hf:∀g,Ym.cK Y g (.fld 0 1 false) [W7 I]=some I.v:=fun g=>rfl;simp[hf];refine Zo7 ?_;intro M h2 gM mM e2;have lM:=mM.lt;have x2:=e1.trans e2;simp;refine Q3 X.R.Q.Q.G.Arcs (g.cC x2) ?_;simp;refine Zao (n:=N.as.length) ?_;intro U h3 ab o3 e3 ac;have x3:=x2.trans e3;have hb:Ym.cK Y h3 (.build #[.pointer none,.pointer none,Zi,Zg 0,Zg 0,Zi,.map none,Zi] [(0,1),(1,1),(2,1),(3,1),(4,1),(5,1),(6,1),(7,1)] [0,1,2,3,4,5,6,7]) [Zh p,Zh op,H.v,Zg s,Zg t,I.v,.map (some M),.slice (some ⟨U,0,none⟩) N.as.length N.as.length]=some (.agg #[Zh p,Zh op,H.v,Zg s,Zg t,I.v,.map (some M),.slice (some ⟨U,0,none⟩) N.as.length N.as.length]):=by
  simp[Ym.cK,Instr.fill,Value.cells,Sl.v]
 simp[hb];refine Zo ?_;intro qp h4 gq Q4 e4;replace Q4:Yo h4 qp #[Zh p,Zh op,H.v,Zg s,Zg t,I.v,.map (some M),.slice (some ⟨U,0,none⟩) N.as.length N.as.length]:=Q4;have x4:=x3.trans e4;have z1:=e1.size;have z4:=e4.size;have aa:Ext h1 h4:=(e2.trans e3).trans e4;simp;have nM:M≠U:=by omega
 refine hr h4 ⟨qp,p,op,M,U,s,t,H,I⟩ rfl rfl rfl (by simp only[];omega) (by simp only[];omega) nM (by simp only[];omega) x4 (fun k mk=>?_) ⟨⟨[],(mM.cD e3 (fun h=>h)).cD e4 (fun h=>h),fun p hp=>by simp at hp⟩,.inl rfl⟩ (o3.cF e4);simp only[] at mk;have xk:Ext h k:=Mod.cC x4 mk (fun j hj=>by rcases hj with e|e<;>omega);have yk:Ext h1 k:=Mod.cC aa mk (fun j hj=>by rcases hj with e|e<;>omega);have Qk:Yo k qp _:=mk.cM Q4 (fun e=>by rcases e with e|e<;>omega);exact⟨Qk,g.cC xk,v.cC xk,rc.cC xk,fL k (yk.mono fun _ _ h=>h.elim)⟩
def Zo8(X:Zpt Y){p op:Nat}{N:Zs}{S:Zf}{L:Za}{H:Sl}{cN:Zb}(g:Xi h p N S)(v:Uq h op N L)(G:Zw h H cN)(ok:Yl N)(I:Yq N.vs.length L)(J:W3 N L cN){s t:Nat}{R:Ze}(hr:∀h' d,Ext h h'->Un (Q6 N s) (EdW N) t d->R (.tuple #[Zg d,.nilIface]) h')(O:s<N.as.length:=by omega)(ht:t<N.as.length:=by omega) :
  Zt Y 331 [Zh p,Zh op,H.v,Zg s,Zg t] h R:=by
 have lc:=G.len;have le:=J.len;refine .o X.Dist ?_;simp[Y331,Yw.wp];refine Znj X.K g v (by omega) O ht ?_;simp;refine Znm X g v G ok I ?_;rintro h1 ⟨qp,p',aa,M,bb,s',t',ab,sL⟩ U e2 e3 l1 l2 nM lM x1 qf gt oB;simp only[] at U e2 e3;subst U e2 e3;simp only[] at l1 l2 nM lM;simp;refine Z58 X.R qf gt oB nM lM (fun hn=>by have:=Vk G hn;simp only[];omega) ok I J O ht ?_;intro h2 d u m2 r2;simp;exact hr h2 d (Mod.cC x1 m2 (fun j hj=>by simp only[] at hj;rcases hj with e|e<;>omega)) r2.least
end
end Go.Rm
