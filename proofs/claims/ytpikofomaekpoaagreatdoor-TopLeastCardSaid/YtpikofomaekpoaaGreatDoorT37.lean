import Derived.Test.YtpikofomaekpoaaGreatDoorT36
/- Parts. -/
set_option linter.all false
namespace Go.Rm
def Zi3 (N:Zr) (L:Za) (costs:Zb) (k a b:Nat) (x:Int):Prop :=
 b<N.as.length/\x≠Xq/\if k=0 then x=Yr N a b else InK N (Ys L k) a/\Ys L k (Qe N b)=Ys L k (Xd N a)/\Ys L k (Xd N b)≠Ys L k (Xd N a)/\x=Q5 N L costs (k-1) a b
structure Zf9 (N:Zr) (L:Za) (costs:Zb) (k a:Nat) (bs ps:Zb):Prop where
 len:bs.length=ps.length
 nat:∀ j,j<bs.length->∃ b:Nat,Zl bs j=b/\b<N.as.length
 pos:∀ j,j<bs.length->0<=Zl ps j/\Zl ps j<=Xq
 hop:∀ (b:Nat) x,Zi3 N L costs k a b x↔∃ j,j<bs.length/\Zl bs j=(b:Int)/\Zl ps j≠Xq/\x=Zl ps j
 bl:bs.length<=16384
section
variable {Y:Sys} {h h':Zk} {N:Zr} {L:Za} {costs:Zb}
def Yd.cut {s:Sl} {l:Zb} (r:Yd h s l) {f n:Nat} (hf:f+n<=l.length) (O:0<n) (I:l.length<=9223372036854775807):∃ w:Sl,Yo.sem Y h (.slc 1 true true) [s.v,Zg (f:Int),Zg ((f+n:Nat):Int)]=some w.v/\Yd h w ((l.drop f).take n)/\w.b=s.b:=by
 have ls:=r.len;have J:=r.ok.le;have D:=Zia (Y:=Y) (h:=h) (s:=s) (sz:=1) (k:=.i64) (k':=.i64) (i:=(f:Int)) (j:=((f+n:Nat):Int)) r.ok (by omega) (by omega) (by omega);rw [if_neg (by omega)] at D;simp only [Xf1,Xgd,Nat.add_sub_cancel_left] at D;have G:s.nl=false:=by
  cases H:s.nl with
  | false=>rfl
  | true=>have:=(r.ok.nil H).1;omega
 refine ⟨_,D,⟨⟨fun h=>(by rw [show _=s.nl from rfl,G] at h;cases h),by show n<=s.c-f;omega,.inl (by rcases r.ok.spot with q | q;exact q;omega)⟩,by simp;omega,fun j M=>?_⟩,rfl⟩;simp at M;have:=r.val (f+j) (by omega);show hc h s.b (s.o+f+j)=_;rw [Xg1,this];simp [Zl,Xhd,show j<n by omega]
def Zon {k a:Nat} (D:∀ b x,¬ Zi3 N L costs k a b x):Zf9 N L costs k a [] [] :=
 ⟨rfl,fun j r=>by simp at r,fun j r=>by simp at r,fun b x=>⟨fun h=>absurd h (D b x),fun ⟨j,r,_⟩=>by simp at r⟩,by simp⟩
def Zk3 (O:Yl N) (U:Yv N.vs.length L) {k c a:Nat} (R:k<L.length) (aa:c<Yi L k) (V:Zl (Ya L k) (Xd N a)=(c:Int)) (ha:a<N.as.length) (lc:costs.length=levelS N L L.length) (c0:∀ i,0<=Zl costs i/\Zl costs i<=Xq) :
  (Yg 0 (Zx N L k false c) (a:Int)<0\/(0<=Yg 0 (Zx N L k false c) (a:Int)/\enV N L k c (Yg 0 (Zx N L k false c) (a:Int)) 0<0))/\Zf9 N L costs (k+1) a [] [] \/
  ∃ f:Nat,0<=Yg 0 (Zx N L k false c) (a:Int)/\enV N L k c (Yg 0 (Zx N L k false c) (a:Int)) 0=f/\f+(Zx N L k true c).length<=costs.length/\0<(Zx N L k true c).length /\
   Zf9 N L costs (k+1) a (Zx N L k true c) ((costs.drop f).take (Zx N L k true c).length):=by
 have lgo:=Wi (N:=N) (L:=L) (k:=k) (c:=c) (x:=true);have ba:=O.ba;have I:∀ b:Nat,b<N.as.length->Ys L (k+1) (Qe N b)=Ys L (k+1) (Xd N a)->Ys L (k+1) (Xd N b)≠Ys L (k+1) (Xd N a)->(b:Int)∈Zx N L k true c:=fun b hb J D =>
  (V0 U O R).2 ⟨by omega,fun e=>D (by rw [<-J];exact e.symm),by rw [<-V];exact J⟩
 by_cases G:(a:Int)∈Zx N L k false c;rotate_left
 ·refine .inl ⟨.inl (by rw [Zd0 G];decide),Zon fun b x h=>?_⟩;obtain ⟨_,_,D⟩:=h;rw [if_neg (by omega)] at D;exact G ((Zan U O R).2 ⟨ha,D.1,V⟩)
 obtain ⟨i,li,ei⟩:=Zw.1 G;have hp:=Xv (l:=Zx N L k false c) Xw.once li;rw [ei] at hp;rw [hp];by_cases ac:(Zx N L k true c).length=0
 ·refine .inl ⟨.inr ⟨by omega,?_⟩,Zon fun b x h=>?_⟩
  ·unfold enV;rw [if_neg (by omega)]
   decide
  obtain ⟨hb,_,D⟩:=h;rw [if_neg (by omega)] at D;have:=Xjj (I b hb D.2.1 D.2.2.1);omega
 obtain ⟨p0,p1⟩:=Zyq R aa li (by omega);obtain ⟨f,hf⟩:∃ f:Nat,enV N L k c i 0=f:=⟨(enV N L k c i 0).toNat,by omega⟩
 rw [hf] at p1 ⊢;rw [<-lc] at p1;have H:∀ j,j<(Zx N L k true c).length->Zl ((costs.drop f).take (Zx N L k true c).length) j=Zl costs (f+j):=fun j r=>by simp [Zl,Xhd,r]
 have M:∀ j,j<(Zx N L k true c).length->∀ b:Nat,Zl (Zx N L k true c) j=b->Q5 N L costs k a b=Zl costs (f+j):=fun j r b hb=>by
  unfold Q5;rw [V];simp only [Xf1];have pu:=Xv (l:=Zx N L k true c) Xw.once r;rw [hb] at pu;rw [hp,pu];have:=Z9a (N:=N) (L:=L) (k:=k) (q:=c) (i:=(i:Int)) (j:=j) (by omega) (by omega) r
  congr 1
  omega
 refine .inr ⟨f,by omega,rfl,by omega,by omega,by simp;omega,fun j r=>Uh U O R (Zw.2 ⟨j,r,rfl⟩),fun j r=>by rw [H j r];exact c0 _,fun b x=>?_,by omega⟩;unfold Zi3;simp only [Nat.succ_ne_zero,if_false,Xgy];constructor
 ·rintro ⟨hb,hx,h1,J,D,h4⟩;obtain ⟨j,r,X⟩:=Zw.1 (I b hb J D);rw [M j r b X] at h4;exact ⟨j,r,X,by rw [H j r,<-h4];exact hx,by rw [H j r];exact h4⟩
 rintro ⟨j,r,X,h1,J⟩;rw [H j r] at h1 J;obtain ⟨lb,hx,Z⟩:=(V0 U O R).1 (Zw.2 ⟨j,r,X⟩);have ab:=(Zan U O R).1 G;refine ⟨by omega,by rw [J];exact h1,ab.2.1,?_,fun e=>hx ?_,by rw [M j r b X];exact J⟩
 ·show Zl (Ya L k) (Qe N b)=Zl (Ya L k) (Xd N a);rw [Z,V]
 rw [Z];exact (V.symm.trans e.symm)
end
structure Qj where
 qp:Nat
 p:Nat
 op:Nat
 M:Nat
 bb:Nat
 s:Nat
 t:Nat
 sc:Sl
 sL:Sl
structure QS (h:Zk) (J:Qj) (N:Zr) (S:Zf) (L:Za) (costs:Zb):Prop where
 blk:Xb h J.qp #[Zh J.p,Zh J.op,J.sc.v,Zg J.s,Zg J.t,J.sL.v,.map (some J.M),.slice (some ⟨J.bb,0,none⟩) N.as.length N.as.length]
 g:Xc h J.p N S
 v:Vw h J.op N L
 rc:Yd h J.sc costs
 rl:Qn h J.sL L
def QF (h:Zk) (W:Zf) (J:Qj) (N:Zr) (S:Zf) (L:Za) (costs:Zb):Prop:=∀ k,Mod W h k->QS k J N S L costs
def QF.now {h:Zk} {W:Zf} {J:Qj} {N:Zr} {S:Zf} {L:Za} {costs:Zb} (q:QF h W J N S L costs):QS h J N S L costs:=q h (Mod.refl _)
def QF.then {h h':Zk} {W W' S':Zf} {J:Qj} {N:Zr} {S:Zf} {L:Za} {costs:Zb} (q:QF h W J N S L costs) (m:Mod S' h h') (hs:∀ b,S' b->W b\/h.size<=b) (r:∀ b,W' b->W b\/h.size<=b):QF h' W' J N S L costs :=
 fun k mk=>q k ((m.mono fun i D h=>by rcases hs i h with q | q;exact q;omega).then mk fun i D h=>by rcases r i h with q | q;exact q;omega)
structure Xa1 (Y:Sys):Prop where
 G:WkG Y
 A:Zgi Y
 S:Zs5 Y
 level:Y.Has 364 Y364
 levelOf:Y.Has 401 Y401
 next:Y.Has 363 Y363
def Zfr {N:Zr} (r:Yl N) {a:Nat} (D:a<N.as.length):toV N (a:Int)=(Xd N a:Int)/\Xd N a<N.vs.length:=by
 have hv:Yf N.as.length (a:Int)=true:=by simp [Yf];omega
 have h:=(r.arcs a D).2;simp [Yf] at h;unfold toV Xd;rw [if_pos hv];simp only [Xf1];omega
def Zov {N:Zr} (r:Yl N) {a:Nat} (D:a<N.as.length):Zdg N (a:Int)=(Qe N a:Int)/\Qe N a<N.vs.length:=by
 have hv:Yf N.as.length (a:Int)=true:=by simp [Yf];omega
 have h:=(r.arcs a D).1;simp [Yf] at h;unfold Zdg Qe;rw [if_pos hv];simp only [Xf1];omega
section
variable {Y:Sys} {h h':Zk} {J:Qj} {N:Zr} {S:Zf} {L:Za} {costs:Zb}
def Zjj (X:Xa1 Y) (q:QS h J N S L costs) (r:Yl N) (D:Yv N.vs.length L) {a:Nat} (H:a<N.as.length) (hs:J.s<N.as.length) (ht:J.t<N.as.length) {R:Ze}
  (I:R (Zg (Uk (Ys L) (Xd N a) (Xd N J.s) (Qe N J.t) L.length:Nat)) h):Zv Y 364 [Zh J.qp,Zg a] h R:=by
 have bL:=D.bL;have bn:=D.bn;refine .of_has X.level rfl ?_;simp [Y364,Xm.wp,q.blk.hc];refine Z2 X.G.To X.G.arc q.g ?_;simp [q.blk.hc];refine Z2 X.G.To X.G.arc q.g ?_;simp [q.blk.hc];refine Zap X.G.From X.G.arc q.g ?_;obtain ⟨M,O⟩:=Zfr r H;obtain ⟨e2,U⟩:=Zfr r hs;obtain ⟨e3,V⟩:=Zov r ht;rw [M,e2,e3];simp [q.blk.hc];refine Zqr X.levelOf q.rl (by omega) (n:=N.vs.length) (fun i Z=>(Xs D Z).1) O U V (by omega) ?_;simp;exact I
def NxI (v0 v1 v3 v4 v5:Value) (u:Sl) (pb a:Nat) (N:Zr) (l:Zb) (h0:Zk) (e:Zc) (h':Zk):Prop :=
 ∃ (i:Nat) (P:Zb) (v8 v9 v10 v11 v12 v13 v14 v15 v19 v20 v21:Value),e=[v0,v1,Zg a,v3,v4,v5,u.v,.slice (some ⟨pb,0,none⟩) l.length l.length,v8,v9,v10,v11,v12,v13,v14,v15,u.v,Zg u.n,Zg i,v19,v20,v21]/\i<=l.length/\Ym h' 1 (Sl.at pb l.length l.length) (Zq P)/\P.length=l.length/\(∀ j,j<i->Zl P j=Yr N a (Zl l j))/\Ext h0 h'
structure Z88 (N:Zr) (L:Za) (costs:Zb) (s t a:Nat) (bs ps:Zb):Prop where
 len:bs.length=ps.length
 nat:∀ j,j<bs.length->∃ b:Nat,Zl bs j=b/\b<N.as.length
 pos:∀ j,j<bs.length->0<=Zl ps j/\Zl ps j<=Xq
 hop:∀ (b:Nat) w,Zid N L.length (Ys L) (fun k=>Q5 N L costs (k-1)) s t a b w↔∃ j,j<bs.length/\Zl bs j=(b:Int)/\Zl ps j≠Xq/\Zu N b≠Xq/\w=Zl ps j+Zu N b
 bl:bs.length<=16384
def Zf9.q {s t a:Nat} {O ps:Zb} (n:Zf9 N L costs (Uk (Ys L) (Xd N a) (Xd N s) (Qe N t) L.length) a O ps):Z88 N L costs s t a O ps:=by
 refine ⟨n.len,n.nat,n.pos,fun b w=>?_,n.bl⟩;have h:=n.hop b;unfold Zid;simp only [];constructor
 ·intro e
  split at e
  ·rename_i z;obtain ⟨h1,r,D⟩:=e;obtain ⟨i,U,V⟩:=Uw r;obtain ⟨j,G,H,h4,M⟩:=(h _).1 ⟨by omega,h1,by rw [if_pos z]⟩;exact ⟨j,G,H,h4,r,by rw [<-M];exact D⟩
  rename_i z;obtain ⟨h1,r,D,h4,M,X⟩:=e;obtain ⟨i,U,V⟩:=Uw M;obtain ⟨j,G,H,Z,h8⟩:=(h _).1 ⟨by omega,h4,by rw [if_neg z];exact ⟨h1,r,D,rfl⟩⟩;exact ⟨j,G,H,Z,M,by rw [<-h8];exact X⟩
 rintro ⟨j,G,H,h1,r,D⟩;obtain ⟨lb,hx,I⟩:=(h (Zl ps j)).2 ⟨j,G,H,h1,rfl⟩
 split
 ·rename_i z;rw [if_pos z] at I;exact ⟨by rw [<-I];exact hx,r,by rw [<-I];exact D⟩
 rename_i z;rw [if_neg z] at I;obtain ⟨a1,a2,a3,R⟩:=I;exact ⟨a1,a2,a3,by rw [<-R];exact hx,r,by rw [<-R];exact D⟩
set_option maxHeartbeats 1000000 in
def Zvv (X:Xa1 Y) {W:Zf} (q:QF h W J N S L costs) (V:GtH h J.M W N L) (ok:Yl N) (pk:Yv N.vs.length L) (lc:costs.length=levelS N L L.length) (c0:∀ i,0<=Zl costs i/\Zl costs i<=Xq) (wc:costs≠[]->¬ W J.sc.b) {a:Nat} (ha:a<N.as.length) {R:Ze}
  (hr:∀ h' u w bs ps,Mod (fun j=>j=J.M) h h'->GtH h' J.M (fun j=>W j/\j<h.size) N L->Yd h' u bs->Yd h' w ps->(bs≠[]->¬ W u.b\/h.size<=u.b)->(ps≠[]->¬ W w.b\/h.size<=w.b)->Z88 N L costs J.s J.t a bs ps->R (.tuple #[u.v,w.v]) h') :
  Zv Y 363 [Zh J.qp,Zg (Uk (Ys L) (Xd N a) (Xd N J.s) (Qe N J.t) L.length:Nat),Zg a] h R:=by
 have hI:Xq=1152921504606846976:=rfl;have bL:=pk.bL;have bn:=pk.bn;have ba:=ok.ba;have qs:=q.now;obtain ⟨e1,l1⟩:=Zfr ok ha;refine .of_has X.next rfl ?_;generalize aa:Uk (Ys L) (Xd N a) (Xd N J.s) (Qe N J.t) L.length=lv;have aQ:lv<=L.length:=by rw [<-aa];exact Zh9
 simp [Y363,Xm.wp,qs.blk.hc];refine Z2 X.G.To X.G.arc qs.g ?_;rw [e1];by_cases z:lv=0
 ·subst z;simp [qs.blk.hc];refine Zgh X.G.Outs X.G.vert X.G.CI qs.g (by omega) ?_;intro h1 u x1 ou fu;have aB:(if Yf N.vs.length (Xd N a:Int) then Qd N.as (Xd N a:Int) else [])=Xi N a:=by rw [<-e1];rfl
  rw [aB] at ou;have lu:=ou.row64.len;have lo:=Zci (N:=N) (a:=a);simp;refine U1 (n:=(Xi N a).length) (by omega) (by omega) ?_;intro pb Z aR o2 x2 aS;simp;refine Zt (NxI (Zh J.qp) (Zg 0) (Zi) (Zi) (Zg (Xd N a)) u pb a N (Xi N a) h1) (fun e _=>(Xi N a).length-Zy e 18) ⟨0,_,_,_,_,_,_,_,_,_,_,_,_,by rw [<-lu];rfl,by omega,o2,by simp,fun j I=>by omega,x2⟩ ?_;rintro e h3 ⟨i,P,v8,v9,aT,aU,ab,ac,ad,ae,af,ag,ah,rfl,hi,oP,lP,hP,x3⟩;have ai:=x1.trans x3;have q3:=(q h3 (ai.mono fun _ _ h=>h.elim))
  by_cases c:i<(Xi N a).length
  ·have c':(i:Int)<u.n:=by omega
   have c2:i<u.n:=by omega
   have w1:=Zj (i:=i) (by omega);obtain ⟨b,eb,lb⟩:=U5 c;have vb:=((ou.ext' x3).row64).val i c;rw [eb] at vb;have aC:∀ g,Yo.sem Y g (.idxa 1) [.slice (some ⟨pb,0,none⟩) (Xi N a).length (Xi N a).length,Zg i]=some (.pointer (some ⟨pb,i,none⟩)):=fun g=>by
    have:=Vb (Y:=Y) (h:=g) (b:=pb) (sz:=1) (show (Xi N a).length<=9223372036854775807 by omega) c (Xfy _);simpa using this
   simp [c',Zm ou.ok,vb,q3.blk.hc];refine Zgu X.G.Turn X.G.arc X.G.T q3.g ok ?_;intro h4 e4;simp [aC];refine Zir (oP.ext' e4) (k:=i) (by simp;omega) ?_;intro h5 o5 m5;rw [Vn] at o5;have z1:=ou.lt;simp [w1];refine ⟨⟨i+1,_,_,_,_,_,_,_,_,_,_,_,_,rfl,by omega,o5,by simp [lP],fun j I=>?_,Mod.ext (x3.trans e4) m5 (fun j I=>by omega)⟩,by simp [Zy];omega⟩;rw [Va (by omega)];by_cases qj:j=i
   ·subst qj;simp [eb]
   simp [qj];exact hP j (by omega)
  have c':¬ (i:Int)<u.n:=by omega
  have:i=(Xi N a).length:=by omega
  subst this;simp [c'];have aD:∀ j,j<(Xi N a).length->0<=Zl P j/\Zl P j<=Xq:=fun j I=>by
   rw [hP j I];have:=Wq ok (a:=(a:Int)) (b:=Zl (Xi N a) j);omega
  have nq:Zf9 N L costs 0 a (Xi N a) P:=by
   refine ⟨lP.symm,fun j I=>U5 I,aD,fun b x=>?_,by omega⟩;unfold Zi3;simp only [if_true];constructor
   ·rintro ⟨h0,h1,rfl⟩;obtain ⟨j,I,ej⟩:=Zw.1 (Zgv h1);have:=hP j I;rw [ej] at this;exact ⟨j,I,ej,by rw [this];exact h1,this.symm⟩
   rintro ⟨j,I,ej,h1,Z⟩;have:=hP j I;rw [ej] at this;obtain ⟨b',eb,lb⟩:=U5 I;exact ⟨by omega,by rw [Z];exact h1,by rw [Z,this]⟩
  exact hr h3 u (Sl.at pb _ _) (Xi N a) P (ai.mono fun _ _ h=>h.elim) ((V.mod ai fun _ h=>h.elim).grow (fun b hb=>.inl hb.1) ⟨V.wM,by obtain ⟨l,hM,_⟩:=V.ex;exact hM.lt⟩) (ou.ext' x3).row64 oP.row64 (fun r=>.inr (fu (by
   cases aE:u.nl with
   | false=>rfl
   | true=>have:=(ou.ok.nil aE).1;exact absurd (List.length_eq_zero_iff.1 (by omega)) r))) (fun _=>.inr (by simp only [Sl.at_b];have:=x1.size;omega)) (Zf9.q (by rw [aa];exact nq))
 obtain ⟨k,rfl⟩:∃ k,lv=k+1:=⟨lv-1,by omega⟩
 have hk:k<L.length:=by omega
 obtain ⟨c,ec,aj⟩:=Zh3 pk ok hk ha;obtain ⟨ru,aF,ak⟩:=qs.rl.val k hk;have aV:=qs.rl.len;have aW:=ak.len;have z2:¬ ((k:Int)+1=0):=by omega
 have wk:IntKind.i64.wrap ((k:Int)+1-1)=(k:Int):=by rw [Zo (by omega)];omega
 have aG:IntKind.i64.wrap (k:Int)=(k:Int):=Zo (by omega);have aX:=(Xs pk hk).1;have vc:=ak.val (Xd N a) (by omega);rw [ec] at vc;simp [z2,qs.blk.hc,aG,Zm qs.rl.ok,show k<J.sL.n by omega,aF,Zm ak.ok,show Xd N a<ru.n by omega,vc];have am:∀ g,Yo.sem Y g (.buildA 1 #[Zg 0,Zg 0] [0,1]) [Zg ((k:Int)+1),Zg c]=some (Zeo (k+1,c)):=fun g=>by
  simp [Yo.sem,Instr.fill,Value.cells,Zeo]
 obtain ⟨l,hM,hl⟩:=V.ex;have aH:=Zoq (Y:=Y) hM (x:=(k+1,c)) (z:=.agg #[Zi,Zi]);simp [am,aH];refine Zn ?_;intro D h1 gD D1 x1;replace D1:Xb h1 D #[Zi,Zi]:=D1;simp;have al:=Zk3 (costs:=costs) ok pk hk aj ec ha lc c0;have aY:=Wi (N:=N) (L:=L) (k:=k) (c:=c) (x:=false);have lgo:=Wi (N:=N) (L:=L) (k:=k) (c:=c) (x:=true);have bS:=Zar ok pk (k:=L.length) (Xfy _);have O:∀ (H:Zk) (a' b:Sl) (v6 v7 v8 v9 ab ac ad ae an ao ap af ag ah:Value),Xb H D #[a'.v,b.v]->Mod (fun j=>j=J.M) h H->GtH H J.M (fun j=>W j/\j<h.size) N L->Yd H a' (Zx N L k false c)->Yd H b (Zx N L k true c)->(Zx N L k true c≠[]->¬ W b.b\/h.size<=b.b) ->
   Stmt.wp Y Y363.body.rest.rest.rest.rest.rest.rest (U4 Y363.res R) (fun _ _ _=>False) (U4 Y363.res R) [Zh J.qp,Zg ((k:Int)+1),Zg a,Zi,Zi,Zg (Xd N a),v6,v7,v8,v9,Zg c,Zh D,ab,ac,ad,ae,an,ao,ap,af,ag,ah] H:=by
  intro H a' b v6 v7 v8 v9 ab ac ad ae an ao ap af ag ah DH mH gH ra rb nb;have aZ:=ra.len;have aq:=rb.len;have qH:=q H (mH.mono fun _ _ h=>by rw [h];exact V.wM);simp [Y363,Stmt.rest,DH.hc];refine Zbl X.S ra (by omega) Xw ?_;simp [qH.blk.hc];refine Zcu X.A qH.v ok pk hk aj ?_;intro hy ey;have my:Mod (fun j=>j=J.M) h hy:=mH.then ey fun _ _ h=>h.elim;have qy:=q hy (my.mono fun _ _ h=>by rw [h];exact V.wM);have gy:=gH.mod ey (fun _ h=>h.elim);have Dy:=DH.ext ey;have aI:=rb.ext ey;have a0:=qy.rc.len;have nil:Yd hy Sl.nil []:=⟨Sl.nil_ok,rfl,fun i hi=>by simp at hi⟩
  rcases al with ⟨e,nx⟩ | ⟨f,p0,ef,p1,p2,nx⟩
  ·have ar:R (.tuple #[Zi,Zi]) hy:=hr hy Sl.nil Sl.nil [] [] my gy nil nil (fun h=>absurd rfl h) (fun h=>absurd rfl h) (Zf9.q (by rw [aa];exact nx));rcases e with e | ⟨e0,e⟩
   ·simp [e];exact ar
   have aJ:¬ Yg 0 (Zx N L k false c) (a:Int)<0:=by omega
   simp [aJ,e];exact ar
  have aK:¬ Yg 0 (Zx N L k false c) (a:Int)<0:=by omega
  have d1:¬ (f:Int)<0:=by omega
  have wf:IntKind.i64.wrap ((f:Int)+(b.n:Int))=((f+b.n:Nat):Int):=by rw [Zo (by omega)];omega
  have d3:¬ ((J.sc.n:Int)<((f+b.n:Nat):Int)):=by omega
  have d2:¬ J.sc.n<f+b.n:=by omega
  rw [aq] at p1 p2;obtain ⟨w,hw,au,wb⟩:=Yd.cut (Y:=Y) qy.rc (f:=f) (n:=b.n) (by omega) (by omega) (by omega);rw [ef];simp [aK,d1,d2,d3,Dy.hc,qy.blk.hc,wf,hw,-Int.natCast_add];rw [<-aq] at au;exact hr hy b w _ _ my gy aI au nb (fun _=>.inl (by rw [wb];exact wc (fun e=>by rw [e] at p1;simp at p1;omega))) (Zf9.q (by rw [aa];exact nx))
 simp only [Y363,Stmt.rest] at O
 cases hv:Zdi l (k+1,c) with
 | some vv =>
  obtain ⟨a',b,e,av,aw,na,ax⟩:=(hl _ (Zn2 hv)).ex;simp only [Xgy] at av aw na ax;subst e;simp;refine Zs (vs:=#[a'.v,b.v]) D1 rfl rfl (by simp) ?_;intro Z D2 m2;have x2:Ext h Z:=Mod.toExtF x1 m2 gD;simp [-Yc];rw [Yc];exact O Z a' b _ _ _ _ _ _ _ _ _ _ _ _ _ _ D2 (x2.mono fun _ _ h=>h.elim) ((V.mod x2 (fun _ h=>h.elim)).grow (W':=fun j=>W j/\j<h.size) (fun b hb=>.inl hb.1) ⟨V.wM,hM.lt⟩) (av.ext x2) (aw.ext x2) (fun r=>.inl (ax r))
 | none =>
  simp;refine Zs (vs:=#[Zi,Zi]) D1 rfl rfl (by simp) ?_;intro Z D2 m2;have x2:Ext h Z:=Mod.toExtF x1 m2 gD;have q2:=q Z (x2.mono fun _ _ h=>h.elim);simp [q2.blk.hc];refine Zax X.A q2.v ok pk hk aj ?_;intro h3 a' b x3 oa ob fa fb;simp;refine Zs (vs:=#[a'.v,b.v]) (D2.ext x3) rfl rfl (by simp) ?_;intro h4 D4 m4;have z2:=x2.size;have z3:=x3.size;have x4:Ext h h4:=Mod.ext (x2.trans x3) m4 (fun j I=>by omega);have q4:=q h4 (x4.mono fun _ _ h=>h.elim);have lM:=hM.lt;have aL:=hM.mod x4 (fun h=>h);have lD:=D2.lt;have aM:=oa.mod m4 (fun r=>by have:=oa.lt r;rcases fa with e | e;rw [r] at e;cases e;omega);have aN:=ob.mod m4 (fun r=>by have:=ob.lt r;rcases fb with e | e;rw [r] at e;cases e;omega);simp [q4.blk.hc,am,Yj D4];refine Ztc aL hv ?_;intro h5 aO m5;have z4:=x4.size;have U:∀ {s:Sl} {y:Bool},Ym h3 1 s (Zq (Zx N L k y c))->(s.nl=true\/Z.size<=s.b)->Zx N L k y c≠[]->h.size<=s.b:=fun {s y} o f r=>by
   rcases f with e | e
   ·have:=(o.ok.nil e).1;have:=o.row64.len;exact absurd (List.length_eq_zero_iff.1 (by omega)) r
   omega
  have ay:Yd h5 a' (Zx N L k false c):=aM.row64.mod m5 (fun r=>by have:=U oa fa r;omega);have az:Yd h5 b (Zx N L k true c):=aN.row64.mod m5 (fun r=>by have:=U ob fb r;omega);have D5:=m5.blk D4 (by omega);have aA:Mod (fun j=>j=J.M) h h5:=(x4.mono fun _ _ h=>h.elim).trans m5;have aP:GtH h5 J.M (fun j=>W j/\j<h.size) N L:=by
   refine ⟨⟨_,aO,fun p hp=>?_⟩,V.wM,lM⟩;rcases List.mem_append.1 hp with w | w
   ·exact ((hl p w).mod (W:=W) aA (fun j I=>by rw [I];exact .inl V.wM)).grow (fun j I=>.inl I.1)
   simp at w;subst w;exact ⟨a',b,rfl,ay,az,fun r hw=>by have:=U oa fa r;omega,fun r hw=>by have:=U ob fb r;omega⟩
  simp [-Yc];rw [Yc];exact O h5 a' b _ _ _ _ _ _ _ _ _ _ _ _ _ _ D5 aA aP ay az (fun r=>.inr (U ob fb r))
end
section
variable {Y:Sys} {h h':Zk}
def Zqj {K:Ze} {b o n:Nat} {c vs c':Array Value} (hb:Xb h b c) (r:vs.size=n) (J:o+n<=c.size) (h1:∀ v∈vs.toList,v.oneCell'=true)
  (hc':(c.toList.take o++vs.toList++c.toList.drop (o+n)).toArray=c')
  (D:∀ h',Xb h' b c'->Mod (fun j=>j=b) h h'->K undef h'):Ef.wp h K (.store n) [.pointer (some ⟨b,o,none⟩),.agg vs]:=by
 obtain ⟨h',G,H,I,M⟩:=Zfm (o:=o) (vs:=vs.toList) hb (by simp;omega) h1;refine ⟨r,?_⟩;simp only [Zg6,G];refine D h' ?_ I;rw [<-hc'];have:vs.toList.length=n:=by simpa using r
 rw [<-this];exact H
def Zf8 {K:Ze} {s:Sl} {l:List (Value × Value × Value)} {i:Nat} {x y z:Value} (o:Ym h 3 s (Ye l)) (I:i<l.length) (hx:x.oneCell'=true) (hy:y.oneCell'=true) (hz:z.oneCell'=true)
  (J:∀ h',Ym h' 3 s (Ye (l.set i (x,y,z)))->Mod (fun j=>j=s.b) h h'->K undef h'):Ef.wp h K (.store 3) [.pointer (some ⟨s.b,s.o+i * 3,none⟩),.agg #[x,y,z]]:=by
 have M:=o.n3;rcases o.2 with ⟨rfl,_⟩ | ⟨h1,H,G,O,h4,r,hb,R,ht⟩
 ·have:l.length=0:=M;omega
 refine Zqj (vs:=#[x,y,z]) (c':=(r.toList.take (s.o+i * 3)++[x,y,z]++r.toList.drop (s.o+i * 3+3)).toArray) hb rfl (by omega) (by intro v hv;simp at hv;rcases hv with rfl | rfl | rfl <;> assumption) (by simp) ?_;intro h' b' m;refine J h' ⟨by rw [Yk,List.length_set];omega,.inr ⟨h1,H,G,O,h4,_,b',by simp;omega,?_⟩⟩ m;rw [Zgc I,H,Xgl,<-ht];have D:r.toList.length=s.c * 3:=by simpa using R
 simp only [Xgu];rw [List.take_append,Xiq,Xgp,D];have U:min (s.n * 3) (i * 3)=i * 3:=by omega
 have e2:min (i * 3) (s.c * 3)=i * 3:=by omega
 have e3:min (i * 3) (s.n * 3)=i * 3:=by omega
 rw [U,e2,Xiq,e3]
 congr 1
 rw [show s.n * 3-i * 3=3+(s.n * 3-(i * 3+3)) by omega];simp only [Xh5,List.nil_append];rw [show 3+(s.n * 3-(i * 3+3))=(s.n * 3-(i * 3+3))+1+1+1 by omega];simp only [Xjo]
 congr 3
 rw [List.drop_take]
def R3I (s:Sl) (l:List Xe) (h0:Zk) (e:Zc) (h':Zk):Prop :=
 ∃ (i:Nat) (v3:Value),e=[s.v,Zg i,Zg ((l.length:Int)-1-i),v3]/\i<=l.length/\Mod (fun j=>l≠[]/\j=s.b) h0 h'/\∃ c:List Xe,c.length=l.length/\Ym h' 3 s (Ye (c.map Xz))/\∀ k,k<l.length->Zp c k=if k<i\/l.length-1-k<i then Zp l (l.length-1-k) else Zp l k
def Zzt (H:Y.Has 400 Y400) {s:Sl} {l:List Xe} (o:Ym h 3 s (Ye (l.map Xz))) (Z:l.length<=1000000)
  {R:Ze} (hr:∀ h',Mod (fun j=>l≠[]/\j=s.b) h h'->Ym h' 3 s (Ye (l.reverse.map Xz))->R (.tuple #[]) h'):Zv Y 400 [s.v] h R:=by
 have sl:l.length=s.n:=by have:=o.n3;simpa using this
 have ok:=o.ok;have w0:IntKind.i64.wrap ((s.n:Int)-1)=(l.length:Int)-1:=by rw [Zo (by omega)];omega
 refine .of_has H rfl ?_;simp [Y400,Xm.wp,w0];refine Zt (R3I s l h) (fun e _=>l.length-Zy e 1) ⟨0,_,by simp;rfl,by omega,Mod.refl _,l,rfl,o,fun k I=>by rw [if_neg (by omega)]⟩ ?_;rintro e h2 ⟨i,v3,rfl,hi,m2,c,hc,o2,r⟩;by_cases q:(i:Int)<(l.length:Int)-1-i
 ·obtain ⟨j,M⟩:∃ j:Nat,(l.length:Int)-1-i=j:=⟨l.length-1-i,by omega⟩
  have D:l≠[]:=fun e=>by rw [e] at M;simp at M;omega
  have aa:i<j:=by omega
  have G:j<l.length:=by omega
  have q':(i:Int)<(j:Int):=by omega
  have O:∀ g (z:Nat),z<l.length->Yo.sem Y g (.idxa 3) [s.v,Zg z]=some (.pointer (some ⟨s.b,s.o+z * 3,none⟩)):=fun g z lz=>by
   rw [Zm ok (by omega) (by omega)];simp
  have k1:=o2.row3.rd (i:=i) (by omega);have k2:=o2.row3.rd (i:=j) (by omega);have w1:=Zj (i:=i) (by omega);have w2:IntKind.i64.wrap ((j:Int)-1)=(j:Int)-1:=Zo (by omega);rw [M];simp [q',O _ _ G,O _ i (by omega),k1,k2];refine Zf8 o2 (i:=i) (by simp;omega) rfl rfl rfl ?_;intro h3 o3 m3;have e3:(c.map Xz).set i (Xz (Zp c j))=(c.set i (Zp c j)).map Xz:=by simp only [Xg2]
  rw [show ((Zg (Zp c j).a,Zg (Zp c j).b,Zg (Zp c j).c):Value × Value × Value)=Xz (Zp c j) from rfl,e3] at o3;simp [O _ _ G];refine Zf8 o3 (i:=j) (by simp;omega) rfl rfl rfl ?_;intro h4 o4 m4;have e4:((c.set i (Zp c j)).map Xz).set j (Xz (Zp c i))=((c.set i (Zp c j)).set j (Zp c i)).map Xz:=by simp only [Xg2]
  rw [show ((Zg (Zp c i).a,Zg (Zp c i).b,Zg (Zp c i).c):Value × Value × Value)=Xz (Zp c i) from rfl,e4] at o4;simp [w1,w2];refine ⟨⟨i+1,.bool true,?_,by omega,(m2.trans (m3.mono fun _ _ e=>⟨D,e⟩)).trans (m4.mono fun _ _ e=>⟨D,e⟩),_,by simp [hc],o4,fun k I=>?_⟩,?_⟩
  ·have:(j:Int)-1=(l.length:Int)-1-((i+1:Nat):Int):=by omega
   rw [this];rfl
  ·rw [Zfl (by simp;omega),Zfl (by omega)];have U:j=l.length-1-i:=by omega
   have J:=r i (by omega);have V:=r j (by omega);rw [if_neg (by omega)] at J;rw [if_neg (by omega)] at V;by_cases X:k=j
   ·subst X;rw [if_pos rfl,if_pos (.inr (by omega)),J]
    congr 1;omega
   by_cases e2:k=i
   ·subst e2;rw [if_neg X,if_pos rfl,if_pos (.inl (by omega)),V,U]
   rw [if_neg X,if_neg e2,r k I];by_cases e3:k<i\/l.length-1-k<i
   ·rw [if_pos e3,if_pos (by omega)]
   rw [if_neg e3,if_neg (by omega)]
  simp [Zy];omega
 simp [q];have:c=l.reverse:=by
  apply Xgb (by simp [hc]);intro k J V;have I:k<l.length:=by omega
  have:=r k I;rw [Wy J] at this;rw [this,List.getElem_reverse,<-Wy (by omega)]
  split
  ·rfl
  congr 1;omega
 subst this;exact hr h2 m2 o2
inductive Zf4 (B:Zb) (s:Nat):Nat->List (Nat × Nat)->Prop
 | nil:Zf4 B s s []
 | snoc {a b:Nat} {l:List (Nat × Nat)}:Zf4 B s a l->Zl B b=(a:Int)->b≠s->Zf4 B s b (l++[(a,b)])
def lvQ (N:Zr) (L:Za) (s t a:Nat):Nat:=Uk (Ys L) (Xd N a) (Xd N s) (Qe N t) L.length
def Zkv (N:Zr) (L:Za) (s t:Nat) (p:Nat × Nat):Xe:=⟨(lvQ N L s t p.1:Nat),p.1,p.2⟩
def Zk2 (ord:Zd) (s n:Nat) (B:Zb):Prop:=∀ i (hi:i<ord.length),ord[i]<n/\(ord[i]=s\/∃ j,∃ hj:j<i,Zl B ord[i]=((ord[j]'(by omega):Nat):Int))
structure Xbv (Y:Sys):Prop where
 Q:Xa1 Y
 hops:Y.Has 362 Y362
 Rev:Y.Has 400 Y400
def HpI (qp s t:Nat) (N:Zr) (L:Za) (B:Zb) (ord:Zd) (h0:Zk) (m:Nat) (e:Zc) (h':Zk):Prop :=
 ∃ (b:Nat) (u:Sl) (r:List (Nat × Nat)) (v4 v5:Value),e=[Zh qp,Zi,u.v,Zg b,v4,v5]/\b<N.as.length/\m<=ord.length/\(b=s\/∃ i,∃ hi:i<ord.length,i<m/\Zl B b=(ord[i]:Nat))/\r.length+m<=ord.length /\
  Ym h' 3 u (Ye ((r.map (Zkv N L s t)).map Xz))/\(u.nl=false->h0.size<=u.b)/\Ext h0 h'/\∀ l,Zf4 B s b l->Zf4 B s t (l++r.reverse)
def Zuu (X:Xbv Y) {W:Zf} {J:Qj} {N:Zr} {S:Zf} {L:Za} {costs:Zb} (q:QF h W J N S L costs) (ok:Yl N) (pk:Yv N.vs.length L) (hs:J.s<N.as.length) (ht:J.t<N.as.length) {B:Zb} {G:Zd} (oB:Ym h 1 (Sl.at J.bb N.as.length N.as.length) (Zq B))
  (bk:Zk2 G J.s N.as.length B) (bt:J.t=J.s\/∃ i,∃ U:i<G.length,Zl B J.t=(G[i]:Nat)) (lo:G.length<=N.as.length) {R:Ze}
  (hr:∀ h' u r,Ext h h'->Zf4 B J.s J.t r->Ym h' 3 u (Ye ((r.map (Zkv N L J.s J.t)).map Xz))->(u.nl=false->h.size<=u.b)->r.length<=G.length->R u.v h') :
  Zv Y 362 [Zh J.qp] h R:=by
 have ba:=ok.ba;have qs:=q.now;refine .of_has X.hops rfl ?_;simp [Y362,Xm.wp,qs.blk.hc];refine Zey (HpI J.qp J.s J.t N L B G h) G.length ⟨J.t,Sl.nil,[],_,_,rfl,ht,Xfy _,?_,by simp,Ym.nil,fun h=>(by cases h),Mod.refl _,fun l hl=>by simpa using hl⟩ ?_
 ·rcases bt with e | ⟨i,U,e⟩
  ·exact .inl e
  exact .inr ⟨i,U,U,e⟩
 rintro m e h1 ⟨b,u,r,v4,v5,rfl,lb,hm,hb,lr,V,fu,O,hl⟩;have q1:=q h1 (O.mono fun _ _ h=>h.elim);have lu:=V.n3;simp at lu;simp [q1.blk.hc];by_cases c:b=J.s
 ·subst c;simp;have hz:=hl [] .nil;simp at hz;refine Zzt X.Rev V (by simp;omega) ?_;intro h2 m2 o2;simp;have e3:(List.map (Zkv N L J.s J.t) r).reverse=List.map (Zkv N L J.s J.t) r.reverse:=by rw [List.map_reverse]
  rw [e3] at o2
  cases I:u.nl with
  | true =>
   have:r=[]:=List.length_eq_zero_iff.1 (by have:=(V.ok.nil I).1;omega);subst this;have oz:=V;rcases oz.2 with ⟨e,_⟩ | ⟨e,_⟩
   ·subst e;refine hr h2 Sl.nil [] ?_ hz Ym.nil (fun h=>(by cases h)) (by simp);exact Mod.ext O (m2.mono fun j H e=>(e.1 rfl:False)) (fun j H=>H.elim)
   rw [I] at e;cases e
  | false =>
   exact hr h2 u r.reverse (Mod.ext O m2 (fun j H=>by have:=fu I;have:=H.2;omega)) hz o2 fu (by simp;omega)
 have aa:¬ (b:Int)=(J.s:Int):=by omega
 obtain ⟨i,U,ab,ea⟩:=hb.resolve_left c;have Z:∀ g,Yo.sem Y g (.idxa 1) [.slice (some ⟨J.bb,0,none⟩) N.as.length N.as.length,Zg b]=some (.pointer (some ⟨J.bb,b,none⟩)):=fun g=>by
  have:=Vb (Y:=Y) (h:=g) (b:=J.bb) (sz:=1) (show N.as.length<=9223372036854775807 by omega) lb (Xfy _);simpa using this
 have lB:=oB.row64.len;simp only [Sl.at_n] at lB;have vb:=((oB.ext' O).row64).val b (by omega);rw [ea] at vb;simp at vb;obtain ⟨la,ac⟩:=bk i U;simp [aa,Z,vb];refine Zjj X.Q q1 ok pk la hs ht ?_;have ad:∀ g (x y z:Int),Yo.sem Y g (.build #[Zg 0,Zg 0,Zg 0] [(0,1),(1,1),(2,1)] [0,1,2]) [Zg x,Zg y,Zg z]=some (.agg #[Zg x,Zg y,Zg z]):=fun g x y z=>rfl;simp [ad];refine Z9 ?_;intro D h2 gD D2 e2;simp;refine Up rfl (V.ext' e2) D2 rfl rfl rfl (by omega) (by omega) ?_;intro u' h3 o3 m3 ae;have x3:Ext h h3:=Mod.ext (O.trans e2) m3 (fun j H=>by have:=fu H.1;omega);have q3:=q h3 (x3.mono fun _ _ h=>h.elim);have M:=((oB.ext' x3).row64).val b (by omega);rw [ea] at M;simp at M;simp [q3.blk.hc,Z,M];refine Zlj (m':=i) ⟨G[i],u',r++[(G[i],b)],_,_,rfl,la,by omega,?_,by simp;omega,?_,fun hn=>?_,x3,fun l af=>?_⟩ ab
 ·rcases ac with e | ⟨j,H,e⟩
  ·exact .inl e
  exact .inr ⟨j,by omega,H,e⟩
 ·have e4:Ye (((r++[(G[i],b)]).map (Zkv N L J.s J.t)).map Xz)=Ye (((r.map (Zkv N L J.s J.t)).map Xz)++[(Zg (Uk (Ys L) (Xd N G[i]) (Xd N J.s) (Qe N J.t) L.length:Nat),Zg G[i],Zg b)]):=by
   rw [Xgt,Xgt];rfl
  rw [e4];simpa using o3
 ·rcases ae with ⟨x,y⟩ | ⟨x,y⟩
  ·rw [x];exact fu (by rw [<-y];exact hn)
  have:=O.size;have:=e2.size;omega
 have:=hl _ (.snoc af ea c);rw [Xgu] at this;rw [List.reverse_append];exact this
end
structure SeP (n s:Nat) (E:Nat->Nat->Int->Prop) (ord:Zd) (cost:Nat->Int) (A:Vk) (B:Zb) (dn:List Bool) (pE:Nat->Nat->Int->Prop):Prop where
 d:Zbr n (AtI s) E ord cost A (fun _=>False) pE
 bo:∀ i (hi:i<ord.length),ord[i]=s\/∃ j,∃ hj:j<i,Zl B ord[i]=((ord[j]'(by omega):Nat):Int)/\∃ w,E (ord[j]'(by omega)) ord[i] w/\cost ord[i]=cost (ord[j]'(by omega))+w
 ba:∀ b x,b<n->A b=some x->x<Xq/\((b=s/\x=0)\/∃ i,∃ hi:i<ord.length,Zl B b=(ord[i]:Nat)/\∃ w,E ord[i] b w/\x=cost ord[i]+w)
 s0:s∈ord->cost s=0
 o0:ord=[]\/s∈ord
 lB:B.length=n
 ld:dn.length=n
 sett:∀ b,b<n->(Zdn dn b=true↔b∈ord)
section
variable {n s:Nat} {E:Nat->Nat->Int->Prop} {ord:Zd} {cost:Nat->Int} {A:Vk} {B:Zb} {dn:List Bool} {pE pE':Nat->Nat->Int->Prop}
def SeP.start (hs:s<n) (r:B.length=n):SeP n s E [] cost (Zbq n (fun _=>none) s 0) B (List.replicate n false) (fun _ _ _=>False):=by
 have D:Zbr n (AtI s) E [] cost (fun _=>none) (fun _=>True) (fun _ _ _=>False):=Zbr.start (fun _ _ _=>trivial);obtain ⟨G,H⟩:=D.put (b:=s) (x:=0) hs (by simp) (.inr (.init ⟨rfl,rfl⟩)) (by omega) (fun a h=>by simp at h);refine ⟨G.less (fun b c h _=>by obtain ⟨rfl,rfl⟩:=h;exact .inr (.inr H)) (fun a h=>by simp at h),fun i I=>by simp at I,fun b x hb h=>?_,fun h=>by simp at h,.inl rfl,r,by simp,fun b hb=>by simp [Zdn,hb]⟩;unfold Zbq at h
 split at h
 ·by_cases q:b=s
  ·simp [q] at h;exact ⟨by rw [<-h];decide,.inl ⟨q,h.symm⟩⟩
  simp [q] at h
 cases h
def SeP.less (p:SeP n s E ord cost A B dn pE) (r:∀ a,a∈ord->∀ b w,E a b w->pE a b w->pE' a b w\/1152921504606846976<=cost a+w\/RxW ord cost A b (cost a+w)):SeP n s E ord cost A B dn pE' :=
 ⟨p.d.less (fun _ _ _ h=>h.elim) r,p.bo,p.ba,p.s0,p.o0,p.lB,p.ld,p.sett⟩
def SeP.pop (p:SeP n s E ord cost A B dn (fun _ _ _=>False)) {k:Nat} {c:Int} (m:Zti n A k c) :
  k ∉ ord/\SeP n s E (ord++[k]) (X4 cost k c) (Zfi A k) B (dn.set k true) (fun a _ _=>a=k)/\(∀ a,a∈ord++[k]->X4 cost k c a<=c)/\0<=c/\c<Xq:=by
 obtain ⟨h1,X,Z,h4,_⟩:=p.d.pop m;obtain ⟨V,hA,_⟩:=m;obtain ⟨cI,hb⟩:=p.ba k c V hA;have M:∀ a,a∈ord->a≠k:=fun a O e=>h1 (e ▸ O);have hc:∀ a,a∈ord->X4 cost k c a=cost a:=fun a O=>by unfold X4;rw [if_neg (M a O)]
 have H:X4 cost k c k=c:=by simp [X4]
 have r:∀ i (I:i<ord.length) (R:i<(ord++[k]).length),(ord++[k])[i]=ord[i]:=fun i I R=>List.getElem_append_left I;refine ⟨h1,⟨X,fun i I=>?_,fun b x G h=>?_,fun hs=>?_,.inr ?_,p.lB,by simp [p.ld],fun b G=>?_⟩,Z,h4.1,cI⟩
 ·have U:=I;simp at U;rcases Xf0 i ord.length with q | q
  ·rw [r i q I];rcases p.bo i q with e | ⟨j,D,J,w,e2,e3⟩
   ·exact .inl e
   refine .inr ⟨j,D,?_,w,?_,?_⟩
   ·rw [r j (by omega) (by omega)];exact J
   ·rw [r j (by omega) (by omega)];exact e2
   rw [r j (by omega) (by omega),hc _ (Xgf _),hc _ (Xgf _)];exact e3
  have:i=ord.length:=by omega
  subst this;have e0:(ord++[k])[ord.length]=k:=by simp
  rw [e0];rcases hb with ⟨e,_⟩ | ⟨j,D,J,w,e2,e3⟩
  ·exact .inl e
  refine .inr ⟨j,D,?_,w,?_,?_⟩
  ·rw [r j D (by simp;omega)];exact J
  ·rw [r j D (by simp;omega)];exact e2
  rw [r j D (by simp;omega),H,hc _ (Xgf _)];exact e3
 ·unfold Zfi at h;by_cases q:b=k
  ·rw [if_pos q] at h;cases h
  rw [if_neg q] at h;obtain ⟨a1,a2⟩:=p.ba b x G h;refine ⟨a1,a2.imp id ?_⟩;rintro ⟨j,D,J,w,e2,e3⟩;exact ⟨j,by simp;omega,by rw [r j D (by simp;omega)];exact J,w,by rw [r j D (by simp;omega)];exact e2,by rw [r j D (by simp;omega),hc _ (Xgf _)];exact e3⟩
 ·rcases List.mem_append.1 hs with q | q
  ·rw [hc s q];exact p.s0 q
  have:s=k:=by simpa using q
  subst this;rw [H];rcases hb with ⟨_,e⟩ | ⟨j,D,_⟩
  ·exact e
  rcases p.o0 with e | e
  ·subst e;simp at D
  exact absurd e h1
 ·rcases p.o0 with e | e
  ·rcases hb with ⟨e2,_⟩ | ⟨j,D,_⟩
   ·simp [e2]
   subst e;simp at D
  simp [e]
 rw [Zt3 (by rw [p.ld];exact V)];by_cases q:b=k
 ·simp [q]
 rw [if_neg q];simp [q];exact p.sett b G
def SeP.put (p:SeP n s E ord cost A B dn pE) {k b:Nat} {w:Int} (D:k∈ord) (hb:b<n) (J:b ∉ ord) (M:E k b w) (h0:0<=w) (hx:cost k+w<Xq) (G:∀ a,a∈ord->cost a<=cost k) :
  SeP n s E ord cost (Zbq n A b (cost k+w)) (if Zem n A b (cost k+w)=true then B.set b k else B) dn pE/\RxW ord cost (Zbq n A b (cost k+w)) b (cost k+w):=by
 have V:Xq=1152921504606846976:=rfl;have X:=p.d.bS k D;obtain ⟨R,U⟩:=p.d.put (b:=b) (x:=cost k+w) hb J (by
  rcases p.d.wS k D with q | q
  ·exfalso;omega
  exact .inr (.step q M)) (by omega) (fun a H=>by have:=G a H;omega)
 obtain ⟨i,r,I⟩:=Xgx D;have O:∀ a,a≠b->Zl (if Zem n A b (cost k+w)=true then B.set b k else B) a=Zl B a:=fun a H=>by
  split
  ·rw [Va (by rw [p.lB];exact hb),if_neg H]
  rfl
 refine ⟨⟨R,fun i r=>?_,fun y x hy h=>?_,p.s0,p.o0,?_,p.ld,p.sett⟩,U⟩
 ·rw [O _ (fun e=>J (e ▸ Xgf r))];exact p.bo i r
 ·by_cases q:y=b
  ·subst q;unfold Zbq at h;by_cases c:Zem n A y (cost k+w)=true
   ·rw [if_pos c] at h ⊢;simp at h;subst h;exact ⟨hx,.inr ⟨i,r,by rw [Va (by rw [p.lB];exact hb),if_pos rfl,I],w,by rw [I];exact M,by rw [I]⟩⟩
   rw [if_neg c] at h;rw [if_neg c];exact p.ba y x hy h
  have h':A y=some x:=by
   unfold Zbq at h
   split at h
   ·simpa [q] using h
   exact h
  rw [O y q];exact p.ba y x hy h'
 split
 ·simp [p.lB]
 exact p.lB
inductive Zm4 (E:Nat->Nat->Int->Prop) (s:Nat):Nat->Int->List (Nat × Nat)->Prop
 | nil:Zm4 E s s 0 []
 | snoc {a b:Nat} {y w:Int} {l:List (Nat × Nat)}:Zm4 E s a y l->E a b w->Zm4 E s b (y+w) (l++[(a,b)])
def SeP.back (p:SeP n s E ord cost A B dn pE):Zk2 ord s n B:=fun i r=>⟨p.d.lt _ (Xgf r),(p.bo i r).imp id fun ⟨j,D,e,_⟩=>⟨j,D,e⟩⟩
def Zf4.w (p:SeP n s E ord cost A B dn pE):∀ {b:Nat} {l:List (Nat × Nat)},Zf4 B s b l->b∈ord->Zm4 E s b (cost b) l:=by
 intro b l h
 induction h with
 | nil=>intro hb;rw [p.s0 hb];exact .nil
 | snoc h e r ih =>
  rename_i a b l;intro hb;obtain ⟨i,H,D⟩:=Xgx hb;rcases p.bo i H with q | ⟨j,J,I,w,e2,e3⟩
  ·exact absurd (by rw [<-D,q]) r
  rw [D] at I e2 e3;have G:ord[j]=a:=by omega
  rw [G] at e2 e3;rw [e3];exact .snoc (ih (by rw [<-G];exact Xgf _)) e2
end
def Z5d {a b c:Int} (r:0<=a) (hb:0<=b) (hc:0<=c):Zw5 [a,b,c]=Ww (a+b+c):=by
 simp only [Zw5,Xh7,List.foldl_nil,Ziy,Ww]
 repeat' split
 all_goals omega
structure Z44 (Y:Sys):Prop where
 Q:Xbv Y
 H:Z84 Y
 C:Zj3 Y
 run:Y.Has 344 Y344
def WrQ (M db bb:Nat) (Sh:Zf) (b:Nat):Prop:=b=M\/b=db\/b=bb\/Sh b
abbrev HQ (N:Zr) (L:Za) (costs:Zb) (s t:Nat):=Zid N L.length (Ys L) (fun k=>Q5 N L costs (k-1)) s t
def Z5v {N:Zr} {L:Za} {costs:Zb} {s t:Nat} (r:Yl N) (hs:s<N.as.length) (G:∀ i,0<=Zl costs i/\Zl costs i<=Xq):Zik N.as.length (AtI s) (HQ N L costs s t):=by
 refine ⟨fun b c h=>by obtain ⟨rfl,rfl⟩:=h;exact ⟨hs,by omega⟩,fun a b w h=>?_⟩;unfold HQ Zid at h;simp only [] at h
 split at h
 ·have:=Zxt r h;obtain ⟨k,e,H⟩:=Uw h.2.1;exact ⟨by omega,this⟩
 obtain ⟨_,_,_,_,D,I⟩:=h;obtain ⟨k,e,H⟩:=Uw D;have:=(Ve r (a:=(b:Int))).resolve_left D;have:=(G (enV N L (Uk (Ys L) (Xd N a) (Xd N s) (Qe N t) L.length-1) (Zl (Ya L (Uk (Ys L) (Xd N a) (Xd N s) (Qe N t) L.length-1)) (Xd N a)).toNat (Yg 0 (Zx N L (Uk (Ys L) (Xd N a) (Xd N s) (Qe N t) L.length-1) false (Zl (Ya L (Uk (Ys L) (Xd N a) (Xd N s) (Qe N t) L.length-1)) (Xd N a)).toNat) a) (Yg 0 (Zx N L (Uk (Ys L) (Xd N a) (Xd N s) (Qe N t) L.length-1) true (Zl (Ya L (Uk (Ys L) (Xd N a) (Xd N s) (Qe N t) L.length-1)) (Xd N a)).toNat) b)).toNat).1;unfold Q5 at I;exact ⟨by omega,by omega⟩
structure Zen (h:Zk) (J:Qj) (N:Zr) (S:Zf) (L:Za) (costs:Zb) (hp db:Nat) (A:Vk) (B:Zb) (dn:List Bool) (Sh:Zf):Prop where
 qf:QF h (WrQ J.M db J.bb Sh) J N S L costs
 gt:GtH h J.M (WrQ J.M db J.bb Sh) N L
 od:Ym h 1 (Sl.at db N.as.length N.as.length) (Vt dn)
 ob:Ym h 1 (Sl.at J.bb N.as.length N.as.length) (Zq B)
 hr:X1 h hp N.as.length A Sh
 dj:∀ b,Sh b->b≠J.M/\b≠db/\b≠J.bb
 dd:J.M≠db/\J.M≠J.bb/\db≠J.bb
 lM:J.M<h.size
 wc:costs≠[]->¬ WrQ J.M db J.bb Sh J.sc.b
section
variable {Y:Sys} {h h':Zk} {J:Qj} {N:Zr} {S:Zf} {L:Za} {costs:Zb} {hp db:Nat} {A A':Vk} {B:Zb} {dn:List Bool} {Sh Sh':Zf}
def Zen.ext (k:Zen h J N S L costs hp db A B dn Sh) (e:Ext h h'):Zen h' J N S L costs hp db A B dn Sh :=
 ⟨k.qf.then e (fun _ h=>h.elim) (fun _ h=>.inl h),k.gt.mod e (fun _ h=>h.elim),k.od.ext' e,k.ob.ext' e,k.hr.mod e (fun _ _ h=>h),k.dj,k.dd,by have:=e.size;have:=k.lM;omega,k.wc⟩
def Zen.heap (k:Zen h J N S L costs hp db A B dn Sh) (m:Mod Sh h h') (H:X1 h' hp N.as.length A' Sh') (f:∀ b,Sh' b->Sh b\/h.size<=b):Zen h' J N S L costs hp db A' B dn Sh':=by
 have O:=k.lM;have G:=k.od.lt rfl;have I:=k.ob.lt rfl;simp at G I;have r:∀ b,WrQ J.M db J.bb Sh' b->WrQ J.M db J.bb Sh b\/h.size<=b:=fun b hb=>by
  rcases hb with e | e | e | e
  ·exact .inl (.inl e)
  ·exact .inl (.inr (.inl e))
  ·exact .inl (.inr (.inr (.inl e)))
  rcases f b e with q | q
  ·exact .inl (.inr (.inr (.inr q)))
  exact .inr q
 have z:=m.size;refine ⟨k.qf.then m (fun b hb=>.inl (.inr (.inr (.inr hb)))) r,k.gt.both m (fun b hb=>⟨.inl (.inr (.inr (.inr hb))),(k.dj b hb).1⟩) r (.inl rfl),k.od.mod m (fun _ hb=>(k.dj _ hb).2.1 rfl),k.ob.mod m (fun _ hb=>(k.dj _ hb).2.2 rfl),H,fun b hb=>?_,k.dd,by omega,fun D hb=>?_⟩
 ·rcases f b hb with q | q
  ·exact k.dj b q
  omega
 rcases r _ hb with q | q
 ·exact k.wc D q
 have:=Vj k.qf.now.rc D;omega
def Zen.mark {d:List Bool} (k:Zen h J N S L costs hp db A B dn Sh) (m:Mod (fun j=>j=db) h h') (o:Ym h' 1 (Sl.at db N.as.length N.as.length) (Vt d)):Zen h' J N S L costs hp db A B d Sh:=by
 have r:=k.dd;have z:=m.size;exact ⟨k.qf.then m (fun b hb=>.inl (.inr (.inl hb))) (fun _ h=>.inl h),k.gt.mod m (fun b hb=>⟨.inl (.inr (.inl hb)),fun e=>r.1 (by rw [<-e];exact hb)⟩),o,k.ob.mod m (fun _ hb=>r.2.2 (Eq.symm hb)),k.hr.mod m (fun b hb e=>(k.dj b hb).2.1 e),k.dj,r,by have:=k.lM;omega,k.wc⟩
def Zen.setB {B':Zb} (k:Zen h J N S L costs hp db A B dn Sh) (m:Mod (fun j=>j=J.bb) h h') (o:Ym h' 1 (Sl.at J.bb N.as.length N.as.length) (Zq B')):Zen h' J N S L costs hp db A B' dn Sh:=by
 have r:=k.dd;have z:=m.size;exact ⟨k.qf.then m (fun b hb=>.inl (.inr (.inr (.inl hb)))) (fun _ h=>.inl h),k.gt.mod m (fun b hb=>⟨.inl (.inr (.inr (.inl hb))),fun e=>r.2.1 (by rw [<-e];exact hb)⟩),k.od.mod m (fun _ hb=>r.2.2 hb),o,k.hr.mod m (fun b hb e=>(k.dj b hb).2.2 e),k.dj,r,by have:=k.lM;omega,k.wc⟩
def Zen.gates (k:Zen h J N S L costs hp db A B dn Sh) (m:Mod (fun j=>j=J.M) h h') (g:GtH h' J.M (fun j=>WrQ J.M db J.bb Sh j/\j<h.size) N L):Zen h' J N S L costs hp db A B dn Sh:=by
 have r:=k.dd;have z:=m.size;have D:=k.od.lt rfl;have G:=k.ob.lt rfl;simp at D G;have H:∀ b,WrQ J.M db J.bb Sh b->b<h.size:=fun b hb=>by
  rcases hb with e | e | e | e
  ·rw [e];exact k.lM
  ·rw [e];exact D
  ·rw [e];exact G
  exact k.hr.lt e
 exact ⟨k.qf.then m (fun b hb=>.inl (.inl hb)) (fun _ h=>.inl h),g.grow (fun b hb=>.inl ⟨hb,H b hb⟩) (.inl rfl),k.od.mod m (fun _ hb=>r.1 (Eq.symm hb)),k.ob.mod m (fun _ hb=>r.2.1 (Eq.symm hb)),k.hr.mod m (fun b hb e=>(k.dj b hb).1 e),k.dj,r,by have:=k.lM;omega,k.wc⟩
end
def Zij {n:Nat} {L:Za} (r:Yv n L):Zuk L.length (Ys L):=by
 have key:∀ j k,0<j->j<=k->k<=L.length->Zjl (Ys L j) (Ys L k):=by
  intro j k H D
  induction k with
  | zero=>intro _;omega
  | succ k ih =>
   intro I;by_cases q:j=k+1
   ·subst q;exact fun u v e=>e
   have h1:=ih (by omega) (by omega);obtain ⟨k',rfl⟩:∃ k',k=k'+1:=⟨k-1,by omega⟩
   have G:=Zok r (k:=k') (by omega);exact fun u v e=>G u v (h1 u v e)
 exact key
structure Xd9 (h:Zk) (z:Nat) (N:Zr) (L:Za) (costs:Zb) (s t:Nat) (d:Int) (u:Sl):Prop where
 least:X9 (Zf7 N s) (EdW N) t d
 hops:d<Xq->∃ r,Zm4 (HQ N L costs s t) s t d r/\Ym h 3 u (Ye ((r.map (Zkv N L s t)).map Xz))/\r.length<=N.as.length/\(u.nl=false->z<=u.b)
def RuO (J:Qj) (hp db:Nat) (N:Zr) (S:Zf) (L:Za) (costs:Zb) (h0:Zk) (m:Nat) (e:Zc) (h':Zk):Prop :=
 ∃ (ord:Zd) (cost:Nat->Int) (A:Vk) (B:Zb) (dn:List Bool) (Sh:Zf) (v5 v6 v7 v8 v9 v10 v11 v12 v13 v14 v15 v16 v17 v18 v19 v20:Value),
  e=[Zh J.qp,Zg 0,Zi,.slice (some ⟨db,0,none⟩) N.as.length N.as.length,Zh hp,v5,v6,v7,v8,v9,v10,v11,v12,v13,v14,v15,v16,v17,v18,v19,v20] /\
  Zen h' J N S L costs hp db A B dn Sh/\SeP N.as.length J.s (HQ N L costs J.s J.t) ord cost A B dn (fun _ _ _=>False)/\J.t ∉ ord/\Mod (fun b=>b=J.M\/b=J.bb) h0 h'/\(∀ b,Sh b->h0.size<=b)/\h0.size<=db/\m=N.as.length-ord.length
def RuJ (J:Qj) (hp db k M:Nat) (c:Int) (u w:Sl) (bs ps:Zb) (N:Zr) (S:Zf) (L:Za) (costs:Zb) (h0:Zk) (e:Zc) (h':Zk):Prop :=
 ∃ (i:Nat) (ord:Zd) (cost:Nat->Int) (A:Vk) (B:Zb) (dn:List Bool) (Sh:Zf) (v7 v10 v11 v12 v13 v14 v15 v19 v20:Value),
  e=[Zh J.qp,Zg 0,Zi,.slice (some ⟨db,0,none⟩) N.as.length N.as.length,Zh hp,Zg k,Zg c,v7,u.v,w.v,v10,v11,v12,v13,v14,v15,u.v,Zg u.n,Zg i,v19,v20]/\i<=bs.length /\
  Zen h' J N S L costs hp db A B dn Sh/\SeP N.as.length J.s (HQ N L costs J.s J.t) ord cost A B dn (fun a b w'=>a=k/\∃ j,i<=j/\j<bs.length/\Zl bs j=(b:Int)/\Zl ps j≠Xq/\Zu N b≠Xq/\w'=Zl ps j+Zu N b)/\J.t ∉ ord/\k∈ord/\cost k=c/\(∀ a,a∈ord->cost a<=c)/\0<=c/\c<Xq /\
  Yd h' u bs/\Yd h' w ps/\(bs≠[]->¬ WrQ J.M db J.bb Sh u.b)/\(ps≠[]->¬ WrQ J.M db J.bb Sh w.b)/\Mod (fun b=>b=J.M\/b=J.bb) h0 h'/\(∀ b,Sh b->h0.size<=b)/\h0.size<=db/\N.as.length-ord.length<M
section
variable {Y:Sys} {h h':Zk}
set_option maxHeartbeats 1000000 in
def Zsv (X:Z44 Y) {J:Qj} {N:Zr} {S:Zf} {L:Za} {costs B0:Zb} (q:QF h (fun b=>b=J.M\/b=J.bb) J N S L costs) (gt:GtH h J.M (fun b=>b=J.M\/b=J.bb) N L) (oB:Ym h 1 (Sl.at J.bb N.as.length N.as.length) (Zq B0)) (nM:J.M≠J.bb) (lM:J.M<h.size)
  (wc:costs≠[]->J.sc.b≠J.M/\J.sc.b≠J.bb) (ok:Yl N) (pk:Yv N.vs.length L) (hE:Zbf N L costs) (hs:J.s<N.as.length) (ht:J.t<N.as.length) {R:Ze}
  (hr:∀ h' d u,Mod (fun b=>b=J.M\/b=J.bb) h h'->Xd9 h' h.size N L costs J.s J.t d u->R (.tuple #[Zg d,u.v]) h') :
  Zv Y 344 [Zh J.qp] h R:=by
 have hI:Xq=1152921504606846976:=rfl;have ba:=ok.ba;have qs:=q.now;have c0:∀ i,0<=Zl costs i/\Zl costs i<=Xq:=fun i=>by
  rcases Xf0 i costs.length with w | w
  ·exact hE.c0 i w
  have:Zl costs i=0:=by simp [Zl,Xgn w]
  omega
 have C:=Z5v (t:=J.t) ok hs c0 (L:=L);have ax:∀ d,X9 (AtI J.s) (HQ N L costs J.s J.t) J.t d->Zu N J.s≠Xq->X9 (Zf7 N J.s) (EdW N) J.t d:=fun d hd hw=>by
  have e:Zf7 N (J.s:Int)=AtI J.s:=by
   funext b c
   apply propext;constructor
   ·rintro ⟨h1,h2,_⟩;exact ⟨by omega,h2⟩
   rintro ⟨rfl,rfl⟩;exact ⟨rfl,rfl,hw⟩
  rw [e];refine (Zv6 ok (Zij pk) (fun k h1 h2=>?_) (fun b c h=>h)).1 hd;obtain ⟨k',rfl⟩:∃ k',k=k'+1:=⟨k-1,by omega⟩
  exact (hE.level (k:=k') (by omega)).ent pk ok (by omega)
 have ay:=oB.lt rfl;simp at ay;refine .of_has X.run rfl ?_;simp [Y344,Xm.wp,qs.blk.hc];refine Z8 X.Q.Q.G.Weight X.Q.Q.G.arc qs.g ?_;have aM:=Ve ok (a:=(J.s:Int));by_cases ws:Zu N J.s=1152921504606846976
 ·simp [ws];refine hr h Xq Sl.nil (Mod.refl _) ⟨?_,fun h=>by omega⟩;refine ⟨Xht _,fun c w=>?_,.inl rfl⟩;exfalso;have:∀ b c,Xg (Zf7 N J.s) (EdW N) b c->False:=fun b c w=>by
   induction w with
   | init h=>exact h.2.2 ws
   | step _ _ ih=>exact ih
  exact this _ _ w
 have aN:¬ 1152921504606846976<=Zu N J.s:=by have:=aM.resolve_left ws;omega
 simp [aN,qs.blk.hc];refine Zls (n:=N.as.length) (by omega) rfl ?_;intro db h1 az o1 e1 O;have q1:=q h1 (e1.mono fun _ _ h=>h.elim);simp [q1.blk.hc];refine Zmq X.H.New ?_;intro h2 hp S2 H2 f2 e2;rw [Zk8 ba] at H2;have x2:=e1.trans e2;have q2:=q h2 (x2.mono fun _ _ h=>h.elim);have z1:=e1.size;have z2:=e2.size;have W2:∀ b,WrQ J.M db J.bb S2 b->(b=J.M\/b=J.bb)\/h.size<=b:=fun b hb=>by
  rcases hb with e | e | e | e
  ·exact .inl (.inl e)
  ·exact .inr (by omega)
  ·exact .inl (.inr e)
  exact .inr (by have:=f2 b e;omega)
 have k2:Zen h2 J N S L costs hp db (fun _=>none) B0 (List.replicate N.as.length false) S2:=by
  refine ⟨q.then x2 (fun _ h=>h.elim) W2,gt.both x2 (fun _ h=>h.elim) W2 (.inl rfl),by simpa [Vt] using o1.ext' e2,oB.ext' x2,H2,fun b hb=>?_,⟨by omega,nM,by omega⟩,by omega,fun hn hb=>?_⟩
  ·have:=f2 b hb;omega
  rcases W2 _ hb with w | w
  ·have:=wc hn;omega
  have:=Vj qs.rc hn;omega
 simp [q2.blk.hc];refine Zdc X.H.Put X.H.key X.C.Held X.H.up X.H.ahead X.H.swap H2 ?_;intro h3 S3 H3 f3 m3;rw [Zbv (by omega) (by omega)] at H3;have k3:=k2.heap m3 H3 f3;have aA:Mod (fun b=>b=J.M\/b=J.bb) h h3:=(x2.mono fun _ _ h=>h.elim).then m3 (fun i hi h=>by have:=f2 i h;omega);simp;refine Zey (RuO J hp db N S L costs h) _ ⟨[],fun _=>0,_,B0,_,S3,_,_,_,_,_,_,_,_,_,_,_,_,_,_,_,_,rfl,k3,SeP.start hs (by have:=oB.row64.len;simpa using this),by simp,aA,fun b hb=>by rcases f3 b hb with w | w;(have:=f2 b w;omega);omega,az,rfl⟩ ?_;clear k3 aA m3 H3 f3 k2 W2 z1 z2 q2 x2 e2 f2 H2 q1 O e1 o1 az ay;rintro m e h4 ⟨I,D,A,B,dn,Sh,v5,v6,v7,v8,v9,aO,aP,aQ,aR,aS,aT,bd,be,bg,aU,aV,rfl,k4,p4,nt,m4,V,O,rfl⟩;simp;refine Zky X.H.Pop X.H.down X.H.ahead X.H.swap k4.hr ?_ ?_
 ·intro h0;simp;have:=p4.d.least C h0 ht;rw [if_neg nt] at this;exact hr h4 Xq Sl.nil m4 ⟨ax _ this ws,fun h=>by omega⟩
 intro h5 k c aa H5 m5;have k5:=k4.heap m5 H5 (fun b hb=>.inl hb);have z5:=m5.size;have ak:Mod (fun b=>b=J.M\/b=J.bb) h h5:=m4.then m5 (fun i hi h=>by have:=V i h;omega);have ao:=p4.d.popped C aa;obtain ⟨hk,p5,U,ab,cI⟩:=p4.pop aa;have lk:=aa.1;have aB:=k5.qf.now;have Z:X4 D k c k=c:=by simp [X4]
 simp [aB.blk.hc];by_cases et:k=J.t
 ·subst et;simp;have bt:=(p4.ba _ c lk aa.2.1).2;have len:=Zb5 p4.d.nd p4.d.lt;refine Zuu X.Q k5.qf ok pk hs ht k5.ob p4.back ?_ len ?_
  ·rcases bt with ⟨e,_⟩ | ⟨i,hi,e,_⟩
   ·exact .inl e
   exact .inr ⟨i,hi,e⟩
  intro h6 u r e6 hl ou fu lr;simp;refine hr h6 c u (ak.then e6 fun _ _ h=>h.elim) ⟨ax _ ao ws,fun _=>⟨r,?_,ou,by omega,fun hn=>by have:=fu hn;have:=ak.size;omega⟩⟩;have:=Zf4.w p5 hl (by simp);rw [Z] at this;exact this
 have aW:¬ (k:Int)=(J.t:Int):=by omega
 have aC:∀ g (x:Nat),x<N.as.length->Yo.sem Y g (.idxa 1) [.slice (some ⟨db,0,none⟩) N.as.length N.as.length,Zg x]=some (.pointer (some ⟨db,x,none⟩)):=fun g x lx=>by
  have:=Vb (Y:=Y) (h:=g) (b:=db) (sz:=1) (show N.as.length<=9223372036854775807 by omega) lx (Xfy _);simpa using this
 simp [aW,aC _ _ lk];refine Zir k5.od (k:=k) (by rw [Zgx,p4.ld];exact lk) ?_;intro h6 o6 m6;rw [Zln] at o6;have k6:=k5.mark m6 o6;have z6:=m6.size;have aD:Mod (fun b=>b=J.M\/b=J.bb) h h6:=ak.then m6 (fun i hi h=>by omega);simp;refine Zjj X.Q.Q k6.qf.now ok pk lk hs ht ?_;simp;refine Zvv X.Q.Q k6.qf k6.gt ok pk hE.len c0 k6.wc lk ?_;intro h7 u w bs ps m7 aE ru av fu fw nx;have z7:=m7.size;have k7:=k6.gates m7 aE;have aF:Mod (fun b=>b=J.M\/b=J.bb) h h7:=aD.trans (m7.mono fun i hi h=>.inl h);have wl:∀ b,WrQ J.M db J.bb Sh b->b<h6.size:=fun b hb=>by
  have a1:=k6.lM;have a2:=k6.od.lt rfl;have a3:=k6.ob.lt rfl;simp at a2 a3;rcases hb with e | e | e | e
  ·omega
  ·omega
  ·omega
  exact k6.hr.lt e
 have lu:=ru.len;have lw:=av.len;have lb:=nx.len;have bh:=nx.bl;have hM:N.as.length-(I++[k]).length<N.as.length-I.length:=by
  have:=Zb5 p5.d.nd p5.d.lt;simp at this ⊢;omega
 simp;refine Zt (RuJ J hp db k (N.as.length-I.length) c u w bs ps N S L costs h) (fun e _=>bs.length-Zy e 18) ⟨0,I++[k],_,_,B,_,Sh,_,_,_,_,_,_,_,_,_,rfl,by omega,k7,p5.less (fun a ha b w' he hp=>by
  subst hp;obtain ⟨j,h1,h2,h3,h4,h5⟩:=(nx.hop b w').1 he;exact .inl ⟨rfl,j,by omega,h1,h2,h3,h4,h5⟩),by simp;exact ⟨nt,fun e=>et e.symm⟩,by simp,Z,fun a ha=>U a ha,ab,cI,ru,av,fun hn hb=>by
   rcases fu hn with e | e
   ·exact e hb
   ·have:=wl _ hb;omega,fun hn hb=>by
   rcases fw hn with e | e
   ·exact e hb
   have:=wl _ hb;omega,aF,V,O,hM⟩ ?_
 clear hM wl fu fw aE k7 aF z7 m7 ru av aD z6 k6 m6 o6 k5 m5 ak z5 H5 ao p5 U Z p4 k4 m4 nt hk aa V O ab cI aB;generalize N.as.length-I.length=Mm;rintro e h8 ⟨i,I,D,A,B,dn,Sh,v7,aO,aP,aQ,aR,aS,aT,aU,aV,rfl,hi,k8,p8,nt,hk,Z,U,ab,cI,ru,ae,nu,nw,m8,V,O,ag⟩;by_cases ci:i<bs.length;rotate_left
 ·have aX:¬ (i:Int)<u.n:=by omega
  simp [aX];refine Zlj (m':=N.as.length-I.length) ⟨I,D,A,B,dn,Sh,_,_,_,_,_,_,_,_,_,_,_,_,_,_,_,_,rfl,k8,p8.less (fun a ha b w' he hp=>by obtain ⟨_,j,h1,h2,_⟩:=hp;omega),nt,m8,V,O,rfl⟩ ag
 have aY:(i:Int)<u.n:=by omega
 have bi:i<u.n:=by omega
 have aZ:(i:Int)<w.n:=by omega
 have bj:i<w.n:=by omega
 have wi:=Zj (i:=i) (by omega);obtain ⟨b,eb,af⟩:=nx.nat i ci;have vb:=ru.val i ci;rw [eb] at vb;have vp:=ae.val i (by omega);obtain ⟨a0,bk⟩:=nx.pos i ci;have aG:=k8.qf.now;simp [aY,aZ,Zm ru.ok,Zm ae.ok,vb,vp,aG.blk.hc];refine Z8 X.Q.Q.G.Weight X.Q.Q.G.arc aG.g ?_;simp [vp];refine Za0 rfl rfl rfl ?_ (by omega);intro b9 h9 g9 _ e9 o9;have r9:Yd h9 (Sl.at b9 3 3) [c,Zl ps i,Zu N b]:=Ym.row64 (cs:=[c,Zl ps i,Zu N b]) o9;simp;refine Z1p X.C r9 (by simp) ?_;have bm:=Ve ok (a:=(b:Int));rw [Z5d ab a0 (by omega)];have k9:=k8.ext e9;have z9:=e9.size;have aw:Mod (fun b=>b=J.M\/b=J.bb) h h9:=m8.then e9 fun _ _ h=>h.elim;have a4:hc h9 db b=some (.bool (Zdn dn b)):=by
  have:=k9.od.cell (i:=b) (v:=.bool (Zdn dn b)) (by simp [Vt,Zdn,p8.ld,af]);simpa using this
 obtain ⟨q1,q2,q3,q4⟩:=Zj9 (x:=c+Zl ps i+Zu N b) (by omega);have ac:bs≠[]:=fun e=>by rw [e] at ci;simp at ci
 have ad:ps≠[]:=fun e=>ac (List.length_eq_zero_iff.1 (by rw [lb,e];rfl));have seen:∀ {A':Vk} {B':Zb},SeP N.as.length J.s (HQ N L costs J.s J.t) I D A' B' dn (fun a b w'=>a=k/\∃ j,i<=j/\j<bs.length/\Zl bs j=(b:Int)/\Zl ps j≠Xq/\Zu N b≠Xq/\w'=Zl ps j+Zu N b) ->
   (Zl ps i≠Xq->Zu N b≠Xq->1152921504606846976<=D k+(Zl ps i+Zu N b)\/RxW I D A' b (D k+(Zl ps i+Zu N b))) ->
   SeP N.as.length J.s (HQ N L costs J.s J.t) I D A' B' dn (fun a b w'=>a=k/\∃ j,i+1<=j/\j<bs.length/\Zl bs j=(b:Int)/\Zl ps j≠Xq/\Zu N b≠Xq/\w'=Zl ps j+Zu N b):=fun {A' B'} pp hx=>pp.less (fun a ha y w' he hp=>by
  obtain ⟨rfl,j,h1,h2,h3,h4,h5,h6⟩:=hp;by_cases e:j=i
  ·subst e;have:y=b:=by omega
   subst this;subst h6;exact .inr (hx h4 h5)
  exact .inl ⟨rfl,j,by omega,h2,h3,h4,h5,h6⟩)
 by_cases aH:Ww (c+Zl ps i+Zu N b)<1152921504606846976;rotate_left
 ·simp [aH,wi];refine ⟨⟨i+1,I,D,A,B,dn,Sh,_,_,_,_,_,_,_,_,_,rfl,by omega,k9,seen p8 (fun _ _=>.inl (by omega)),nt,hk,Z,U,ab,cI,ru.ext e9,ae.ext e9,nu,nw,aw,V,O,ag⟩,by simp [Zy];omega⟩
 simp [aH,aC _ _ af,a4]
 cases hd:Zdn dn b with
 | true =>
  have hb:=(p8.sett b af).1 hd;simp [wi];refine ⟨⟨i+1,I,D,A,B,dn,Sh,_,_,_,_,_,_,_,_,_,rfl,by omega,k9,seen p8 (fun h1 h2=>.inr (.inl ⟨hb,by have:=U b hb;omega⟩)),nt,hk,Z,U,ab,cI,ru.ext e9,ae.ext e9,nu,nw,aw,V,O,ag⟩,by simp [Zy];omega⟩
 | false =>
  have hb:b ∉ I:=fun h=>by rw [(p8.sett b af).2 h] at hd;cases hd
  have a5:Zl ps i≠Xq:=by omega
  have a6:Zu N b≠Xq:=by omega
  have hx:Ww (c+Zl ps i+Zu N b)=D k+(Zl ps i+Zu N b):=by omega
  have he:=(nx.hop b (Zl ps i+Zu N b)).2 ⟨i,ci,eb,a5,a6,rfl⟩;obtain ⟨pp,aI⟩:=p8.put hk af hb he (by omega) (by omega) (fun a ha=>by rw [Z];exact U a ha);have bc:=U;simp;refine Zdc X.H.Put X.H.key X.C.Held X.H.up X.H.ahead X.H.swap k9.hr ?_;intro a7 S10 H10 al ah;rw [show Ww (Ww (c+Zl ps i+Zu N b))=D k+(Zl ps i+Zu N b) by rw [Zbv q2 (by omega),hx]] at H10 ⊢;have am:=k9.heap ah H10 al;have bn:=ah.size;have ap:Mod (fun b=>b=J.M\/b=J.bb) h a7:=aw.then ah (fun i hi h=>by have:=V i h;omega);have aq:∀ b,S10 b->h.size<=b:=fun b hb=>by
   have:=m8.size;rcases al b hb with e | e
   ·exact V b e
   omega
  have ar:=(ru.ext e9).mod ah (fun _ e=>nu ac (.inr (.inr (.inr e))));have au:=(ae.ext e9).mod ah (fun _ e=>nw ad (.inr (.inr (.inr e))));have ai:bs≠[]->¬ WrQ J.M db J.bb S10 u.b:=fun _ hb=>by
   rcases hb with e | e | e | e
   ·exact nu ac (.inl e)
   ·exact nu ac (.inr (.inl e))
   ·exact nu ac (.inr (.inr (.inl e)))
   rcases al _ e with e | e
   ·exact nu ac (.inr (.inr (.inr e)))
   have:=Vj ru ac;omega
  have aj:ps≠[]->¬ WrQ J.M db J.bb S10 w.b:=fun _ hb=>by
   rcases hb with e | e | e | e
   ·exact nw ad (.inl e)
   ·exact nw ad (.inr (.inl e))
   ·exact nw ad (.inr (.inr (.inl e)))
   rcases al _ e with e | e
   ·exact nw ad (.inr (.inr (.inr e)))
   have:=Vj ae ad;omega
  cases aJ:Zem N.as.length A b (D k+(Zl ps i+Zu N b)) with
  | false =>
   rw [aJ] at pp;simp [wi];refine ⟨⟨i+1,I,D,_,B,dn,S10,_,_,_,_,_,_,_,_,_,rfl,by omega,am,seen (by simpa using pp) (fun _ _=>.inr aI),nt,hk,Z,U,ab,cI,ar,au,ai,aj,ap,aq,O,ag⟩,by simp [Zy];omega⟩
  | true =>
   rw [aJ] at pp;have aK:=am.qf.now;have a8:∀ g,Yo.sem Y g (.idxa 1) [.slice (some ⟨J.bb,0,none⟩) N.as.length N.as.length,Zg b]=some (.pointer (some ⟨J.bb,b,none⟩)):=fun g=>by
    have:=Vb (Y:=Y) (h:=g) (b:=J.bb) (sz:=1) (show N.as.length<=9223372036854775807 by omega) af (Xfy _);simpa using this
   simp [aK.blk.hc,a8];refine Zir am.ob (k:=b) (by have:=p8.lB;simp;omega) ?_;intro bo aL an;rw [Vn] at aL;have a9:=am.setB an aL;simp [wi];refine ⟨⟨i+1,I,D,_,_,dn,S10,_,_,_,_,_,_,_,_,_,rfl,by omega,a9,seen (by simpa using pp) (fun _ _=>.inr aI),nt,hk,Z,U,ab,cI,ar.mod an (fun _ e=>ai ac (.inr (.inr (.inl e)))),au.mod an (fun _ e=>aj ad (.inr (.inr (.inl e)))),ai,aj,ap.trans (an.mono fun i hi e=>.inr e),aq,O,ag⟩,by simp [Zy];omega⟩
structure Zpg (Y:Sys):Prop where
 R:Z44 Y
 K:Z85 Y
 New:Y.Has 343 Y343
 Dist:Y.Has 331 Y331
def Zgg (X:Zpg Y) {p op:Nat} {N:Zr} {S:Zf} {L:Za} {r:Sl} {costs:Zb} (g:Xc h p N S) (v:Vw h op N L) (rc:Yd h r costs) (ok:Yl N) (U:Yv N.vs.length L) {s t:Nat} {R:Ze}
  (hr:∀ h' (J:Qj),J.s=s->J.t=t->J.sc=r->h.size<=J.M->h.size<=J.bb->J.M≠J.bb->J.M<h'.size->Ext h h'->QF h' (fun b=>b=J.M\/b=J.bb) J N S L costs->GtH h' J.M (fun b=>b=J.M\/b=J.bb) N L->Ym h' 1 (Sl.at J.bb N.as.length N.as.length) (Zq (List.replicate N.as.length 0))->R (Zh J.qp) h') :
  Zv Y 343 [Zh p,Zh op,r.v,Zg s,Zg t] h R:=by
 have bL:=U.bL;have bn:=U.bn;have ba:=ok.ba;refine .of_has X.New rfl ?_;simp [Y343,Xm.wp];refine Zc4 X.R.Q.Q.A.O v (by omega) (fun i hi=>by have:=(Xs U hi).1;omega) ?_;intro h1 D e1 fL;have hf:∀ g,Yo.sem Y g (.fld 0 1 false) [Q1 D]=some D.v:=fun g=>rfl;simp [hf];refine Zoo ?_;intro M h2 gM mM e2;have lM:=mM.lt;have x2:=e1.trans e2;simp;refine Zat X.R.Q.Q.G.Arcs (g.ext x2) ?_;simp;refine U1 (n:=N.as.length) (by omega) rfl ?_;intro H h3 aa o3 e3 ab;have x3:=x2.trans e3;have hb:Yo.sem Y h3 (.build #[.pointer none,.pointer none,Zi,Zg 0,Zg 0,Zi,.map none,Zi] [(0,1),(1,1),(2,1),(3,1),(4,1),(5,1),(6,1),(7,1)] [0,1,2,3,4,5,6,7]) [Zh p,Zh op,r.v,Zg s,Zg t,D.v,.map (some M),.slice (some ⟨H,0,none⟩) N.as.length N.as.length]=some (.agg #[Zh p,Zh op,r.v,Zg s,Zg t,D.v,.map (some M),.slice (some ⟨H,0,none⟩) N.as.length N.as.length]):=by
  simp [Yo.sem,Instr.fill,Value.cells,Sl.v]
 simp [hb];refine Zn ?_;intro V h4 gq Q4 I;replace Q4:Xb h4 V #[Zh p,Zh op,r.v,Zg s,Zg t,D.v,.map (some M),.slice (some ⟨H,0,none⟩) N.as.length N.as.length]:=Q4;have x4:=x3.trans I;have z1:=e1.size;have z4:=I.size;have Z:Ext h1 h4:=(e2.trans e3).trans I;simp;have nM:M≠H:=by omega
 refine hr h4 ⟨V,p,op,M,H,s,t,r,D⟩ rfl rfl rfl (by simp only [];omega) (by simp only [];omega) nM (by simp only [];omega) x4 (fun k mk=>?_) ⟨⟨[],(mM.mod e3 (fun h=>h)).mod I (fun h=>h),fun p hp=>by simp at hp⟩,.inl rfl⟩ (o3.ext' I);simp only [] at mk;have xk:Ext h k:=Mod.ext x4 mk (fun j hj=>by rcases hj with e | e <;> omega);have yk:Ext h1 k:=Mod.ext Z mk (fun j hj=>by rcases hj with e | e <;> omega);have Qk:Xb k V _:=mk.blk Q4 (fun e=>by rcases e with e | e <;> omega);exact ⟨Qk,g.ext xk,v.ext xk,rc.ext xk,fL k (yk.mono fun _ _ h=>h.elim)⟩
def Z02 (X:Zpg Y) {p op:Nat} {N:Zr} {S:Zf} {L:Za} {D:Sl} {costs:Zb} (g:Xc h p N S) (v:Vw h op N L) (r:Yd h D costs) (G:Yl N) (H:Yv N.vs.length L) (I:Zbf N L costs) {s t:Nat} (hs:s<N.as.length) (ht:t<N.as.length) {R:Ze}
  (Z:∀ h' d,Ext h h'->X9 (Zf7 N s) (EdW N) t d->R (.tuple #[Zg d,.nilIface]) h') :
  Zv Y 331 [Zh p,Zh op,D.v,Zg s,Zg t] h R:=by
 have lc:=r.len;have le:=I.len;refine .of_has X.Dist rfl ?_;simp [Y331,Xm.wp];refine Zge X.K g v (by omega) hs ht ?_;simp;refine Zgg X g v r G H ?_;rintro h1 ⟨qp,p',aa,M,bb,s',t',ab,sL⟩ J e2 e3 l1 l2 O U x1 qf gt oB;simp only [] at J e2 e3;subst J e2 e3;simp only [] at l1 l2 O U;simp;refine Zsv X.R qf gt oB O U (fun hn=>by have:=Vj r hn;simp only [];omega) G H I hs ht ?_;intro h2 d u m2 r2;simp;exact Z h2 d (Mod.ext x1 m2 (fun j V=>by simp only [] at V;rcases V with e | e <;> omega)) r2.least
end
end Go.Rm
