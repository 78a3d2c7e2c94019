import Derived.Test.YtpikofomaekpoaaGreatDoorT38
/- Parts. -/
set_option linter.all false
namespace Go.Rm
def Zad (r:List (Nat × Nat)):Zb:=r.map fun p=>(p.2:Int)
def EdL (N:Zr) (L:Za) (costs:Zb) (lv t:Nat) (c:Int) (a b:Nat) (w:Int):Prop :=
 ∃ x,Zi3 N L costs (lv-1) a b x/\if b=t then w=x else Ys L lv (Qe N b)=c/\Ys L lv (Xd N b)=c/\Zu N b≠Xq/\w=x+Zu N b
def Zt5 {N:Zr} {L:Za} {costs:Zb} {k a b:Nat} {x:Int} (G:Yl N) (H:∀ i,0<=Zl costs i/\Zl costs i<=Xq) (h:Zi3 N L costs k a b x):b<N.as.length/\0<=x/\x<Xq:=by
 have I:Xq=1152921504606846976:=rfl;obtain ⟨hb,hx,h⟩:=h
 split at h
 ·have:=Wq G (a:=(a:Int)) (b:=(b:Int));exact ⟨hb,by omega,by omega⟩
 obtain ⟨_,_,_,h⟩:=h;unfold Q5 at h;have:=H (enV N L (k-1) (Zl (Ya L (k-1)) (Xd N a)).toNat (Yg 0 (Zx N L (k-1) false (Zl (Ya L (k-1)) (Xd N a)).toNat) a) (Yg 0 (Zx N L (k-1) true (Zl (Ya L (k-1)) (Xd N a)).toNat) b)).toNat
 exact ⟨hb,by omega,by omega⟩
def Zot {N:Zr} {L:Za} {costs:Zb} {lv s t:Nat} {c:Int} (G:Yl N) (hs:s<N.as.length) (I:∀ i,0<=Zl costs i/\Zl costs i<=Xq):Zik N.as.length (AtI s) (EdL N L costs lv t c):=by
 refine ⟨fun b c h=>by obtain ⟨rfl,rfl⟩:=h;exact ⟨hs,by omega⟩,fun a b w h=>?_⟩;obtain ⟨x,h1,H⟩:=h;have:=Zt5 G I h1
 split at H
 ·exact ⟨this.1,by omega⟩
 have:=(Ve G (a:=(b:Int))).resolve_left H.2.2.1;exact ⟨by omega,by omega⟩
def Z2z {B:Zb} {s t:Nat} {l:List (Nat × Nat)} (h:Zf4 B s t l) (e:l=[]):t=s:=by
 cases h with
 | nil=>rfl
 | snoc _ _ _=>simp at e
section
variable {Y:Sys} {h h':Zk} {J:Oj} {N:Zr} {S:Zf} {L:Za} {costs:Zb} {A:Vk} {B D:Zb} {Sh E:Zf} {r l:Int}
def PbI (qp s t n:Nat) (B:Zb) (ord:Zd) (h0:Zk) (m:Nat) (e:Zc) (h':Zk):Prop :=
 ∃ (b:Nat) (u:Sl) (r:List (Nat × Nat)) (v6:Value),e=[Zh qp,Zg s,Zg t,Zi,u.v,Zg b,v6]/\b<n/\m<=ord.length/\(b=s\/∃ i,∃ hi:i<ord.length,i<m/\Zl B b=(ord[i]:Nat))/\r.length+m<=ord.length /\
  Ym h' 1 u (Zq (Zad r))/\(u.nl=false->h0.size<=u.b)/\Ext h0 h'/\∀ l,Zf4 B s b l->Zf4 B s t (l++r.reverse)
def Zup (X:Zfv Y) (K:OpH h J N S L costs A B D Sh E r l) (ok:Yl N) {s t:Nat} {G:Zd} (ht:t<N.as.length)
  (bk:Zk2 G s N.as.length B) (hst:t≠s) (bt:∃ i,∃ I:i<G.length,Zl B t=(G[i]:Nat)) (lo:G.length<=N.as.length) {R:Ze}
  (hr:∀ h' u r,Ext h h'->Zf4 B s t r->Ym h' 1 u (Zq (Zad r))->(u.nl=false->h.size<=u.b)->r.length<=G.length->R u.v h') :
  Zv Y 403 [Zh J.qp,Zg s,Zg t] h R:=by
 have ba:=ok.ba;refine .of_has X.back rfl ?_;simp [Y403,Xm.wp];refine Zey (PbI J.qp s t N.as.length B G h) G.length ⟨t,Sl.nil,[],_,rfl,ht,Xfy _,?_,by simp,Ym.nil,fun h=>(by cases h),Mod.refl _,fun l U=>by simpa using U⟩ ?_
 ·obtain ⟨i,I,e⟩:=bt;exact .inr ⟨i,I,I,e⟩
 rintro m e h1 ⟨b,u,r,v6,rfl,lb,hm,hb,lr,V,Z,x1,U⟩;have K1:=K.ext x1;have aa:=K1.bq;unfold OB at aa;have lu:=V.row64.len;have ah:r.length=u.n:=by simpa [Zad] using lu
 by_cases c:b=s
 ·subst c;have hz:=U [] .nil;simp at hz;simp;refine Z5r X.Rev V (by simp [Zad];omega) ?_;intro h2 m2 o2;simp;have e3:(Zad r).reverse=Zad r.reverse:=by simp [Zad,List.map_reverse]
  rw [e3] at o2
  cases M:u.nl with
  | true =>
   have:r=[]:=List.length_eq_zero_iff.1 (by have:=(V.ok.nil M).1;omega);subst this;exact absurd (Z2z hz rfl) hst
  | false =>
   exact hr h2 u r.reverse (Mod.ext x1 m2 (fun j hj=>by have:=Z M;omega)) hz o2 Z (by simp;omega)
 have ab:¬ (b:Int)=(s:Int):=by omega
 obtain ⟨i,I,ac,ea⟩:=hb.resolve_left c;have ad:∀ g,Yo.sem Y g (.idxa 1) [.slice (some ⟨J.bb,0,none⟩) N.as.length N.as.length,Zg b]=some (.pointer (some ⟨J.bb,b,none⟩)):=fun g=>by
  have:=Vb (Y:=Y) (h:=g) (b:=J.bb) (sz:=1) (show N.as.length<=9223372036854775807 by omega) lb (Xfy _);simpa using this
 obtain ⟨la,ae⟩:=bk i I;simp [ab];refine Xp rfl ?_;intro Dd h2 gD D2 e2;simp;refine Wg rfl (V.ext' e2) D2 (by omega) (by omega) ?_;intro u' h3 o3 n3 m3 af;have x3:Ext h h3:=Mod.ext (x1.trans e2) m3 (fun j hj=>by have:=Z hj.1;omega);have K3:=K.ext x3;have O:=K3.bq;unfold OB at O;have lB:=K3.ob.row64.len;simp only [Sl.at_n] at lB;have H:=K3.ob.row64.val b (by omega);rw [ea] at H;simp at H;simp [O.hc,ad,H];refine Zlj (m':=i) ⟨G[i],u',r++[(G[i],b)],_,rfl,la,by omega,?_,by simp;omega,?_,fun hn=>?_,x3,fun l ag=>?_⟩ ac
 ·rcases ae with e | ⟨j,hj,e⟩
  ·exact .inl e
  exact .inr ⟨j,by omega,hj,e⟩
 ·simpa [Zad,Zq] using o3
 ·rcases af with ⟨x,y⟩ | ⟨x,y⟩
  ·rw [x];exact Z (by rw [<-y];exact hn)
  have:=x1.size;have:=e2.size;omega
 have:=U _ (.snoc ag ea c);rw [Xgu] at this;rw [List.reverse_append];exact this
def Zob:∀ {l m:Zd},l.Nodup->(∀ x,x∈l->x∈m)->l.length<=m.length
 | [],_,_,_=>by simp
 | a::r,m,H,h=>by
  obtain ⟨h1,I⟩:=List.nodup_cons.1 H;have G:=h a (by simp);have:=Zob I (m:=m.erase a) (fun x hx=>(Xji (fun e=>h1 (by rw [<-e];exact hx))).2 (h x (by simp [hx])));rw [List.length_erase_of_mem G] at this;have:=Xjj G;simp;omega
def Zix (N:Zr) (L:Za) (k b:Nat):Bool:=decide (k=0\/Ys L k (Qe N b)≠Ys L k (Xd N b))
def yB (N:Zr) (L:Za) (k b:Nat):Bool:=decide (k<L.length) && Zix N L k b && !Zix N L (k+1) b
def yN (N:Zr) (L:Za) (k:Nat):Nat:=((List.range N.as.length).filter (yB N L k)).length
def Xbw {N:Zr} {L:Za} {costs:Zb} {lv t a b:Nat} {c w:Int} (h1:1<=lv) (I:lv<=L.length) (h:EdL N L costs lv t c a b w) (hb:b≠t):b∈(List.range N.as.length).filter (yB N L (lv-1)):=by
 obtain ⟨x,⟨H,_,hx⟩,G⟩:=h;rw [if_neg hb] at G;obtain ⟨k,rfl⟩:∃ k,lv=k+1:=⟨lv-1,by omega⟩
 simp only [Xgy] at hx ⊢;simp [yB,Zix,H,G.1,G.2.1,show k<L.length by omega];by_cases q:k=0
 ·exact .inl q
 rw [if_neg q] at hx;exact .inr (fun e=>hx.2.2.1 (by rw [<-e];exact hx.2.1))
def Z2k {G:Zd} {s n:Nat} {B:Zb} (O:Zk2 G s n B):∀ {b:Nat} {l:List (Nat × Nat)},Zf4 B s b l->b∈G->∀ x,x∈l->x.1∈G:=by
 intro b l h
 induction h with
 | nil=>intro _ x hx;simp at hx
 | snoc h e H ih =>
  rename_i a b l;intro hb x hx;obtain ⟨i,R,I⟩:=Xgx hb;have M:a∈G:=by
   rcases (O i R).2 with q | ⟨j,U,q⟩
   ·exact absurd (by rw [<-I,q]) H
   rw [I,e] at q;have:G[j]=a:=by omega
   rw [<-this];exact Xgf _
  rcases List.mem_append.1 hx with q | q
  ·exact ih M x q
  simp at q;subst q;exact M
def Zse {G:Zd} {s t n:Nat} {B:Zb} (I:Zk2 G s n B) {l:List (Nat × Nat)} (h:Zf4 B s t l) (bt:∃ i,∃ M:i<G.length,Zl B t=(G[i]:Nat)):∀ x,x∈l->x.1∈G:=by
 obtain ⟨i,M,R⟩:=bt
 cases h with
 | nil=>intro x hx;simp at hx
 | snoc h e O =>
  rename_i a l;have H:a∈G:=by
   have:G[i]=a:=by omega
   rw [<-this];exact Xgf _
  intro x hx;rcases List.mem_append.1 hx with q | q
  ·exact Z2k I h H x q
  simp at q;subst q;exact H
def dnR (D:Zb) (r:Int):List Bool:=D.map fun x=>decide (x=r)
def Zru {D:Zb} {r:Int} {b:Nat} (hb:b<D.length):Zdn (dnR D r) b=decide (Zl D b=r):=by simp [Zdn,dnR,Zl,hb]
def Z8e {D:Zb} {r:Int} {k:Nat}:dnR (D.set k r) r=(dnR D r).set k true:=by simp [dnR,Xg2]
def Z4d {D:Zb} {n:Nat} {r:Int} (G:D.length=n) (h:∀ b,b<n->Zl D b<r):dnR D r=List.replicate n false:=by
 apply Xgb (by simp [dnR,G]);intro i h1 H;have I:i<n:=by simpa using H
 have:=h i I;rw [Zqk (by omega)] at this;simp [dnR];omega
def PnL (N:Zr) (L:Za) (lv t:Nat) (c:Int) (bs ps:Zb) (k i a b:Nat) (w:Int):Prop :=
 a=k/\∃ j,i<=j/\j<bs.length/\Zl bs j=(b:Int)/\Zl ps j≠Xq/\if b=t then w=Zl ps j else Ys L lv (Qe N b)=c/\Ys L lv (Xd N b)=c/\Zu N b≠Xq/\w=Zl ps j+Zu N b
def StO (J:Oj) (s t lv:Nat) (c:Int) (N:Zr) (S:Zf) (L:Za) (costs:Zb) (r l:Int) (Sh0 E:Zf) (h0:Zk) (m:Nat) (e:Zc) (h':Zk):Prop :=
 ∃ (ord:Zd) (cost:Nat->Int) (A:Vk) (B D:Zb) (Sh:Zf) (v8 v9 v10 v11 v12 v13 v14 v15 v16 v17 v18 v19 v20 v21 v22 v23 v24 v25:Value),
  e=[Zh J.qp,Zg lv,Zg s,Zg t,Zi,.bool false,Zg c,.bool true,v8,v9,v10,v11,v12,v13,v14,v15,v16,v17,v18,v19,v20,v21,v22,v23,v24,v25] /\
  OpH h' J N S L costs A B D Sh E r l/\SeP N.as.length s (EdL N L costs lv t c) ord cost A B (dnR D r) (fun _ _ _=>False)/\t ∉ ord/\(∀ b,b<N.as.length->Zl D b<=r)/\Mod (WrO J Sh0) h0 h'/\(∀ b,Sh b->Sh0 b\/h0.size<=b)/\m=N.as.length-ord.length
def StJ (J:Oj) (s t lv:Nat) (c:Int) (k M:Nat) (x:Int) (u w:Sl) (bs ps:Zb) (N:Zr) (S:Zf) (L:Za) (costs:Zb) (r l:Int) (Sh0 E:Zf) (h0:Zk) (e:Zc) (h':Zk):Prop :=
 ∃ (i:Nat) (ord:Zd) (cost:Nat->Int) (A:Vk) (B D:Zb) (Sh:Zf) (v10 v13 v14 v15 v16 v17 v18 v22 v23 v24 v25:Value),
  e=[Zh J.qp,Zg lv,Zg s,Zg t,Zi,.bool false,Zg c,.bool true,Zg k,Zg x,v10,u.v,w.v,v13,v14,v15,v16,v17,v18,u.v,Zg u.n,Zg i,v22,v23,v24,v25]/\i<=bs.length /\
  OpH h' J N S L costs A B D Sh E r l/\SeP N.as.length s (EdL N L costs lv t c) ord cost A B (dnR D r) (PnL N L lv t c bs ps k i)/\t ∉ ord/\(∀ b,b<N.as.length->Zl D b<=r)/\k∈ord/\cost k=x/\(∀ a,a∈ord->cost a<=x)/\0<=x/\x<Xq /\
  Yd h' u bs/\Yd h' w ps/\(bs≠[]->¬ WrO J Sh u.b)/\(ps≠[]->¬ WrO J Sh w.b)/\Mod (WrO J Sh0) h0 h'/\(∀ b,Sh b->Sh0 b\/h0.size<=b)/\N.as.length-ord.length<M
def Mod.wro {Sh Sh0:Zf} {h0 h h':Zk} (m:Mod (WrO J Sh0) h0 h) (k:Mod (WrO J Sh) h h') (f:∀ b,Sh b->Sh0 b\/h0.size<=b):Mod (WrO J Sh0) h0 h' :=
 m.then k fun i G hb=>(Zck f hb).resolve_right (by omega)
set_option maxHeartbeats 1000000 in
def Zuq (X:Zfv Y) (K:OpH h J N S L costs A B D Sh E r l) (ok:Yl N) (pk:Yv N.vs.length L) (lc:costs.length=levelS N L L.length) (c0:∀ i,0<=Zl costs i/\Zl costs i<=Xq) {lv s t:Nat} (h1:1<=lv) (h2:lv<=L.length) (hs:s<N.as.length) (ht:t<N.as.length) (hst:t≠s)
  (r0:0<=r) (r1:r<4611686018427387904) (hD:∀ b,b<N.as.length->Zl D b<=r) {x:Int} (hx:x<Xq) (hw:Xg (AtI s) (EdL N L costs lv t (Ys L lv (Xd N s))) t x) {R:Ze}
  (hr:∀ h' A' B' D' Sh' u d q,Mod (WrO J Sh) h h'->OpH h' J N S L costs A' B' D' Sh' E (r+1) l->(∀ b,Sh' b->Sh b\/h.size<=b)->(∀ b,b<N.as.length->Zl D' b<=r+1)->X9 (AtI s) (EdL N L costs lv t (Ys L lv (Xd N s))) t d->Zm4 (EdL N L costs lv t (Ys L lv (Xd N s))) s t d q ->
   Ym h' 1 u (Zq (Zad q))->(u.nl=false->h.size<=u.b/\¬ WrO J Sh' u.b)->q.length<=N.as.length->q.length<=yN N L (lv-1)+1->(∀ x,x∈q->x.1≠t)->R (.tuple #[u.v,.bool true]) h') :
  Zv Y 365 [Zh J.qp,Zg (lv:Int),Zg (s:Int),Zg (t:Int)] h R:=by
 have hI:Xq=1152921504606846976:=rfl;have bL:=pk.bL;have ba:=ok.ba;have G:=X.D.R.Q.Q.G;have HH:=X.D.R.H;have bq:=K.bq;unfold OB at bq;obtain ⟨e1,l1⟩:=Zfr ok hs;obtain ⟨U,aL⟩:∃ U,Ys L lv (Xd N s)=U:=⟨_,rfl⟩
 rw [aL] at hw hr;have C:=Zot (lv:=lv) (t:=t) (c:=U) (L:=L) (costs:=costs) ok hs c0;refine .of_has X.steps rfl ?_;simp [Y365,Xm.wp,bq.hc];refine Z2 G.To G.arc K.qf.now.g ?_;rw [e1];simp;refine Zcp X K ok pk h1 h2 l1 ?_;rw [aL];simp [bq.hc];refine Zl2 X.Clear K.hr ?_;intro g1 H1 m1;have K1:=K.heap m1 H1 (fun b hb=>.inl hb);have am:=K1.bq;unfold OB at am;have wr:IntKind.i64.wrap (r+1)=r+1:=Zo (by omega);simp [am.hc,wr];refine stB am (by simp) ?_;intro g2 B2 m2;have K2:OpH g2 J N S L costs _ B D Sh E (r+1) l:=K1.num m2 (by unfold OB;simpa using B2);have aD:=K2.bq;unfold OB at aD;simp [aD.hc];refine Zdc HH.Put HH.key X.D.R.C.Held HH.up HH.ahead HH.swap K2.hr ?_;intro g3 S3 H3 f3 m3;rw [Zbv (by omega) (by omega)] at H3;have K3:=K2.heap m3 H3 f3;have z1:=m1.size;have z2:=m2.size;have aM:∀ b,S3 b->Sh b\/h.size<=b:=fun b hb=>(f3 b hb).imp id (fun q=>by omega);have aN:Mod (WrO J Sh) h g3:=((m1.mono fun _ _ e=>.inr (.inr (.inr (.inr e)))).then m2 fun _ _ e=>.inr (.inr (.inr (.inl e)))).then m3 fun _ _ e=>.inr (.inr (.inr (.inr e)));have lD:D.length=N.as.length:=by have:=K.od.row64.len;simpa using this
 simp;refine Zey (StO J s t lv U N S L costs (r+1) l Sh E h) _ ⟨[],fun _=>0,_,B,D,S3,_,_,_,_,_,_,_,_,_,_,_,_,_,_,_,_,_,_,rfl,K3,?_,by simp,fun b hb=>by have:=hD b hb;omega,aN,aM,rfl⟩ ?_
 ·rw [Z4d lD (fun b hb=>by have:=hD b hb;omega)];exact SeP.start hs (by have:=K.ob.row64.len;simpa using this)
 clear aN aM K3 H3 f3 m3 K2 B2 m2 K1 H1 m1 z1 z2 am aD lD;rintro m e g4 ⟨M,I,A4,B4,D4,Sh4,v8,v9,aV,bv,bw,aW,aX,aY,aZ,a0,a6,bx,bz,bA,a7,a8,a9,bc,rfl,k4,p4,nt,aE,m4,O,rfl⟩;have aF:=k4.bq;unfold OB at aF;simp [aF.hc];refine Zky HH.Pop HH.down HH.ahead HH.swap k4.hr ?_ ?_
 ·intro h0;have:=p4.d.least C h0 ht;rw [if_neg nt] at this;have:=this.all _ hw;exfalso;omega
 intro g5 k c ac H5 m5;have k5:=k4.heap m5 H5 (fun b hb=>.inl hb);have an:Mod (WrO J Sh) h g5:=m4.wro (m5.mono fun _ _ e=>.inr (.inr (.inr (.inr e)))) O;have aw:=p4.d.popped C ac;obtain ⟨hk,p5,V,aa,cI⟩:=p4.pop ac;have lk:=ac.1;have aG:=k5.bq;unfold OB at aG;have Z:X4 I k c k=c:=by simp [X4]
 simp [aG.hc];by_cases et:k=t
 ·subst et;have bt:=(p4.ba _ c lk ac.2.1).2;have len:=Zb5 p4.d.nd p4.d.lt;simp;have ab:∃ i,∃ hi:i<M.length,Zl B4 k=(M[i]:Nat):=by
   rcases bt with ⟨e,_⟩ | ⟨i,hi,e,_⟩
   ·exact absurd e hst
   exact ⟨i,hi,e⟩
  have bB:M.length<=yN N L (lv-1)+1:=by
   have:=Zob (m:=s::(List.range N.as.length).filter (yB N L (lv-1))) p4.d.nd (fun x hx=>by
    obtain ⟨i,hi,ei⟩:=Xgx hx;rcases p4.bo i hi with q | ⟨j,hj,_,w,q,_⟩
    ·simp [<-ei,q]
    rw [ei] at q;exact Xgg _ (Xbw h1 h2 q (fun e=>nt (e ▸ hx))))
   simpa [yN] using this
  refine Zup X k5 ok ht p4.back hst ab len ?_
  ·intro g6 u q e6 hl ou fu lr;simp;have hq:=Zf4.w p5 hl (by simp);rw [Z] at hq;have z5:=an.size;exact hr g6 _ _ _ _ u c q (an.then e6 fun _ _ h=>h.elim) (k5.ext e6) O aE aw hq ou (fun hn=>⟨by have:=fu hn;omega,fun hb=>by have:=fu hn;have:=k5.wlt hb;omega⟩) (by omega) (by omega) (fun x hx e=>nt (e ▸ Zse p4.back hl ab x hx))
 have bd:¬ (k:Int)=(t:Int):=by omega
 have aO:∀ g (x:Nat),x<N.as.length->Yo.sem Y g (.idxa 1) [.slice (some ⟨J.db,0,none⟩) N.as.length N.as.length,Zg x]=some (.pointer (some ⟨J.db,x,none⟩)):=fun g x lx=>by
  have:=Vb (Y:=Y) (h:=g) (b:=J.db) (sz:=1) (show N.as.length<=9223372036854775807 by omega) lx (Xfy _);simpa using this
 have be:D4.length=N.as.length:=by have:=k4.od.row64.len;simpa using this
 simp [bd,aO _ _ lk];refine Zir k5.od (k:=k) (by simp;omega) ?_;intro g6 o6 m6;rw [Vn] at o6;have k6:=k5.mark m6 o6;have aP:Mod (WrO J Sh) h g6:=an.wro (m6.mono fun _ _ e=>.inr (.inl e)) O;have wl:IntKind.i64.wrap ((lv:Int)-1)=((lv-1:Nat):Int):=by rw [Zo (by omega)];omega
 simp [wl];refine Zvq X k6 ok pk lc c0 lk (show lv-1<=L.length by omega) ?_;intro g7 u w bs ps m7 k7 ru aH nu nw nx;have aQ:Mod (WrO J Sh) h g7:=aP.wro (m7.mono fun _ _ e=>.inl e) O;have lu:=ru.len;have lw:=aH.len;have lb:=nx.len;have bC:=nx.bl;have hM:N.as.length-(M++[k]).length<N.as.length-M.length:=by
  have:=Zb5 p5.d.nd p5.d.lt;simp at this ⊢;omega
 have aR:∀ b,b<N.as.length->Zl (D4.set k (r+1)) b<=r+1:=fun b hb=>by
  rw [Va (by omega)]
  split
  ·omega
  exact aE b hb
 rw [<-Z8e] at p5;simp;refine Zt (StJ J s t lv U k (N.as.length-M.length) c u w bs ps N S L costs (r+1) l Sh E h) (fun e _=>bs.length-Zy e 21) ⟨0,M++[k],_,_,B4,_,Sh4,_,_,_,_,_,_,_,_,_,_,_,rfl,by omega,k7,p5.less (fun a ha b w' he hp=>by
  subst hp;obtain ⟨x,h1,h2⟩:=he;obtain ⟨j,q1,q2,q3,q4⟩:=(nx.hop b x).1 h1;subst q4;exact .inl ⟨rfl,j,by omega,q1,q2,q3,h2⟩),by simp;exact ⟨nt,fun e=>et e.symm⟩,aR,by simp,Z,fun a ha=>V a ha,aa,cI,ru,aH,nu,nw,aQ,O,hM⟩ ?_
 clear hM aR k7 aQ m7 ru aH nu nw aP k6 m6 o6 k5 m5 an H5 aw p5 V Z p4 k4 m4 nt hk ac O aa cI aF aG aE be;generalize N.as.length-M.length=Mm;rintro e g8 ⟨i,M,I,A8,B8,D8,Sh8,aV,aW,aX,aY,aZ,a0,a6,a7,a8,a9,bc,rfl,hi,k8,p8,nt,af,hk,Z,V,aa,cI,ru,ad,nu,nw,m8,O,ag⟩;have aI:=k8.bq;unfold OB at aI;by_cases ci:i<bs.length;rotate_left
 ·have bg:¬ (i:Int)<u.n:=by omega
  simp [bg];refine Zlj (m':=N.as.length-M.length) ⟨M,I,A8,B8,D8,Sh8,_,_,_,_,_,_,_,_,_,_,_,_,_,_,_,_,_,_,rfl,k8,p8.less (fun a ha b w' he hp=>by obtain ⟨_,j,q1,q2,_⟩:=hp;omega),nt,af,m8,O,rfl⟩ ag
 have bh:(i:Int)<u.n:=by omega
 have bD:i<u.n:=by omega
 have bi:(i:Int)<w.n:=by omega
 have bE:i<w.n:=by omega
 have wi:=Zj (i:=i) (by omega);obtain ⟨b,eb,ae⟩:=nx.nat i ci;have vb:=ru.val i ci;rw [eb] at vb;have vp:=ad.val i (by omega);obtain ⟨aS,bF⟩:=nx.pos i ci;have bG:D8.length=N.as.length:=by have:=k8.od.row64.len;simpa using this
 have vd:hc g8 J.db b=some (Zg (Zl D8 b)):=by simpa using k8.od.row64.val b (by omega)
 have ah:bs≠[]:=fun e=>by rw [e] at ci;simp at ci
 have ao:ps≠[]:=fun e=>ah (List.length_eq_zero_iff.1 (by rw [lb,e];rfl));have bH:=Ve ok (a:=(b:Int));obtain ⟨q1,q2,q3,q4⟩:=Zj9 (x:=c+Zl ps i) (by omega);have q5:=Zde (a:=Ww (c+Zl ps i)) (b:=Zu N b) q2 (by omega);obtain ⟨y1,y2,y3,y4⟩:=Zj9 (x:=Ww (c+Zl ps i)+Zu N b) (by omega);have ax:=fun x=>nx.hop b x;have seen:∀ {A':Vk} {B':Zb},SeP N.as.length s (EdL N L costs lv t U) M I A' B' (dnR D8 (r+1)) (PnL N L lv t U bs ps k i) ->
   (∀ w',Zl ps i≠Xq->(if b=t then w'=Zl ps i else Ys L lv (Qe N b)=U/\Ys L lv (Xd N b)=U/\Zu N b≠Xq/\w'=Zl ps i+Zu N b)->1152921504606846976<=I k+w'\/RxW M I A' b (I k+w')) ->
   SeP N.as.length s (EdL N L costs lv t U) M I A' B' (dnR D8 (r+1)) (PnL N L lv t U bs ps k (i+1)):=fun {A' B'} pp hx=>pp.less (fun a ha y w' he hp=>by
  obtain ⟨rfl,j,a1,a2,a3,a4,a5⟩:=hp;by_cases e:j=i
  ·subst e;have:y=b:=by omega
   subst this;exact .inr (hx w' a4 a5)
  exact .inl ⟨rfl,j,by omega,a2,a3,a4,a5⟩)
 have bj:∀ g,Yo.sem Y g (.idxa 1) [.slice (some ⟨J.bb,0,none⟩) N.as.length N.as.length,Zg b]=some (.pointer (some ⟨J.bb,b,none⟩)):=fun g=>by
  have:=Vb (Y:=Y) (h:=g) (b:=J.bb) (sz:=1) (show N.as.length<=9223372036854775807 by omega) ae (Xfy _);simpa using this
 obtain ⟨f1,aJ⟩:∃ f1,Ww (c+Zl ps i)=f1:=⟨_,rfl⟩
 rw [aJ] at q1 q2 q3 q4 q5 y1 y2 y3 y4;simp [bh,bi,Zm ru.ok,Zm ad.ok,vb,vp];refine Zlz X.D.R.C ?_;rw [Zde aa aS,aJ];by_cases bt:b=t;obtain ⟨fx,ap⟩:∃ fx,fx=f1:=⟨_,rfl⟩
 have hA:fx<1152921504606846976->∃ w',EdL N L costs lv t U k b w'/\0<=w'/\fx=I k+w':=fun hf=>⟨Zl ps i,⟨_,(ax _).2 ⟨i,ci,eb,by omega,rfl⟩,by rw [if_pos bt]⟩,aS,by omega⟩
 have hB:∀ w',Zl ps i≠Xq->(if b=t then w'=Zl ps i else Ys L lv (Qe N b)=U/\Ys L lv (Xd N b)=U/\Zu N b≠Xq/\w'=Zl ps i+Zu N b)->1152921504606846976<=I k+w'\/fx=I k+w':=fun w' a1 a2=>by
  rw [if_pos bt] at a2;omega
 have ab:((b:Int)=(t:Int))=True:=by simp;omega
 have bk:(b=t)=True:=by simp;omega
 rw [<-ap];simp [ab];clear bk;rotate_left;by_cases ai:Ys L lv (Qe N b)=U/\Ys L lv (Xd N b)=U;rotate_left
 ·have ab:¬ (b:Int)=(t:Int):=by omega
  simp [ab];refine Zjp X k8 ok pk h1 h2 ae ?_;simp [ai,wi];refine ⟨⟨i+1,M,I,A8,B8,D8,Sh8,_,_,_,_,_,_,_,_,_,_,_,rfl,by omega,k8,seen p8 (fun w' a1 a2=>by rw [if_neg bt] at a2;exact absurd ⟨a2.1,a2.2.1⟩ ai),nt,af,hk,Z,V,aa,cI,ru,ad,nu,nw,m8,O,ag⟩,by simp [Zy];omega⟩
 rotate_left;obtain ⟨fx,ap⟩:∃ fx,fx=Ww (f1+Zu N b):=⟨_,rfl⟩
 rw [<-ap] at q5 y1 y2 y3 y4;have hA:fx<1152921504606846976->∃ w',EdL N L costs lv t U k b w'/\0<=w'/\fx=I k+w':=fun hf=>⟨Zl ps i+Zu N b,⟨_,(ax _).2 ⟨i,ci,eb,by omega,rfl⟩,by rw [if_neg bt];exact ⟨ai.1,ai.2,by omega,rfl⟩⟩,by omega,by omega⟩
 have hB:∀ w',Zl ps i≠Xq->(if b=t then w'=Zl ps i else Ys L lv (Qe N b)=U/\Ys L lv (Xd N b)=U/\Zu N b≠Xq/\w'=Zl ps i+Zu N b)->1152921504606846976<=I k+w'\/fx=I k+w':=fun w' a1 a2=>by
  rw [if_neg bt] at a2;omega
 have ab:¬ (b:Int)=(t:Int):=by omega
 simp [ab];refine Zjp X k8 ok pk h1 h2 ae ?_;simp [ai,aI.hc];refine Z8 G.Weight G.arc k8.qf.now.g ?_;simp;refine Zlz X.D.R.C ?_;rw [q5];simp
 all_goals
  clear ab ap q1 q2 q3 q4 q5 y1 y2 y3 y4 aJ;by_cases aK:fx<1152921504606846976;rotate_left
  ·simp [aK,wi];refine ⟨⟨i+1,M,I,A8,B8,D8,Sh8,_,_,_,_,_,_,_,_,_,_,_,rfl,by omega,k8,seen p8 (fun w' a1 a2=>.inl (by have:=hB w' a1 a2;omega)),nt,af,hk,Z,V,aa,cI,ru,ad,nu,nw,m8,O,ag⟩,by simp [Zy];omega⟩
  obtain ⟨w',he,bm,bn⟩:=hA aK;simp [aK,aI.hc,aO _ _ ae,vd];by_cases hd:Zl D8 b=r+1
  ·have hb:b∈M:=(p8.sett b ae).1 (by rw [Zru (by omega)];simpa using hd);simp [hd,wi];refine ⟨⟨i+1,M,I,A8,B8,D8,Sh8,_,_,_,_,_,_,_,_,_,_,_,rfl,by omega,k8,seen p8 (fun w2 a1 a2=>by
    rcases hB w2 a1 a2 with e | e
    ·exact .inl e
    exact .inr (.inl ⟨hb,by have:=V b hb;omega⟩)),nt,af,hk,Z,V,aa,cI,ru,ad,nu,nw,m8,O,ag⟩,by simp [Zy];omega⟩
  have hb:b ∉ M:=fun h=>hd (by have:=(p8.sett b ae).2 h;rw [Zru (by omega)] at this;simpa using this);obtain ⟨pp,bp⟩:=p8.put hk ae hb he bm (by omega) (fun a ha=>by rw [Z];exact V a ha);have ay:∀ w2,Zl ps i≠Xq->(if b=t then w2=Zl ps i else Ys L lv (Qe N b)=U/\Ys L lv (Xd N b)=U/\Zu N b≠Xq/\w2=Zl ps i+Zu N b)->1152921504606846976<=I k+w2\/RxW M I (Zbq N.as.length A8 b (I k+w')) b (I k+w2):=fun w2 a1 a2=>by
   rcases hB w2 a1 a2 with e | e
   ·exact .inl e
   rw [show I k+w2=I k+w' by omega];exact .inr bp
  simp [hd];refine Zdc HH.Put HH.key X.D.R.C.Held HH.up HH.ahead HH.swap k8.hr ?_;intro br S10 H10 aq ar;rw [show Ww fx=I k+w' by rw [Zbv (by omega) (by omega)];exact bn] at H10 ⊢;have au:=k8.heap ar H10 aq;have az:Mod (WrO J Sh) h br:=m8.wro (ar.mono fun _ _ e=>.inr (.inr (.inr (.inr e)))) O;have aj:∀ b,S10 b->Sh b\/h.size<=b:=fun b hb=>(aq b hb).elim (O b) (fun q=>.inr (by have:=m8.size;omega));have aA:=ru.mod ar (fun _ e=>nu ah (.inr (.inr (.inr (.inr e)))));have aB:=ad.mod ar (fun _ e=>nw ao (.inr (.inr (.inr (.inr e)))));have ak:bs≠[]->¬ WrO J S10 u.b:=fun _ hb=>(Zck aq hb).elim (nu ah) (fun q=>by have:=Vj ru ah;omega);have al:ps≠[]->¬ WrO J S10 w.b:=fun _ hb=>(Zck aq hb).elim (nw ao) (fun q=>by have:=Vj ad ao;omega)
  cases aT:Zem N.as.length A8 b (I k+w') with
  | false =>
   rw [aT] at pp;simp [wi];refine ⟨⟨i+1,M,I,_,B8,D8,S10,_,_,_,_,_,_,_,_,_,_,_,rfl,by omega,au,seen (by simpa using pp) ay,nt,af,hk,Z,V,aa,cI,aA,aB,ak,al,az,aj,ag⟩,by simp [Zy];omega⟩
  | true =>
   rw [aT] at pp;have aC:=au.bq;unfold OB at aC;simp [aC.hc,bj];refine Zir au.ob (k:=b) (by have:=p8.lB;simp;omega) ?_;intro bJ aU av;rw [Vn] at aU;have bu:=au.setB av aU;simp [wi];refine ⟨⟨i+1,M,I,_,_,D8,S10,_,_,_,_,_,_,_,_,_,_,_,rfl,by omega,bu,seen (by simpa using pp) ay,nt,af,hk,Z,V,aa,cI,aA.mod av (fun _ e=>ak ah (.inr (.inr (.inl e)))),aB.mod av (fun _ e=>al ao (.inr (.inr (.inl e)))),ak,al,az.wro (av.mono fun _ _ e=>.inr (.inr (.inl e))) aj,aj,ag⟩,by simp [Zy];omega⟩
end
inductive GoW (N:Zr) (a:Nat):Zd->Nat->Int->Prop
 | nil:GoW N a [] a 0
 | snoc {l:Zd} {b c:Nat} {y w:Int}:GoW N a l b y->EdW N b c w->GoW N a (l++[c]) c (y+w)
def GoW.then {N:Zr} {a b c:Nat} {l q:Zd} {y z:Int} (h:GoW N a l b y) (k:GoW N b q c z):GoW N a (l++q) c (y+z):=by
 induction k with
 | nil=>simpa using h
 | snoc _ e ih=>rw [<-Xgu,<-Int.add_assoc];exact .snoc ih e
def Ztu {E Hc:Nat->Nat->Int->Prop} {Ho:Nat->Int->Prop} {a t:Nat} (c1:∀ p b w,b≠t->E p b w->Hc p b w) (o1:∀ p w,E p t w->Ho p w) (r:∀ p b w,E p b w->0<=w) (ht:∀ y,¬ Xg (AtI a) Hc t y) {y:Int} (w:Xg (AtI a) E t y) :
  ∃ p z u,Xg (AtI a) Hc p z/\Ho p u/\z+u<=y:=by
 have key:∀ b y,Xg (AtI a) E b y->(∃ p z u,Xg (AtI a) Hc p z/\Ho p u/\z+u<=y)\/Xg (AtI a) Hc b y:=by
  intro b y w
  induction w with
  | init h=>exact .inr (.init h)
  | @step p b y w w0 e ih =>
   rcases ih with ⟨D,z,u,G,g2,H⟩ | ih
   ·exact .inl ⟨D,z,u,G,g2,by have:=r _ _ _ e;omega⟩
   by_cases q:b=t
   ·subst q;exact .inl ⟨p,_,_,ih,o1 _ _ e,Xht _⟩
   exact .inr (.step ih (c1 _ _ _ q e))
 exact (key t y w).resolve_right (ht y)
def Zku {E:Nat->Nat->Int->Prop} {T:Int->Prop} {a t:Nat} {x:Int} (h:Zao T x) (hx:x≠Xq) (D:∀ y,T y->Xg (AtI a) E t y) (G:∀ y,Xg (AtI a) E t y->∃ r,r<=y/\T r) :
  Xg (AtI a) E t x/\∀ d,X9 (AtI a) E t d->d=x:=by
 have w:=D x (h.is.resolve_left hx);refine ⟨w,fun d hd=>?_⟩;have h1:=hd.all x w;have H:=h.le;rcases hd.is with e | e
 ·have:Xq=1152921504606846976:=rfl;omega
 obtain ⟨r,I,h4⟩:=G d e;have:=h.all r h4;omega
section
variable {N:Zr} {L:Za} {costs:Zb}
def Zwn (U:Yl N) (pk:Yv N.vs.length L) (hE:Zbf N L costs) (c0:∀ i,0<=Zl costs i/\Zl costs i<=Xq) {lv a t:Nat} (h1:1<=lv) (h2:lv<=L.length) {x:Int} (ha:a<N.as.length) (V:Zi3 N L costs lv a t x) :
  Xg (AtI a) (EdL N L costs lv t (Ys L lv (Xd N a))) t x/\∀ d,X9 (AtI a) (EdL N L costs lv t (Ys L lv (Xd N a))) t d->d=x:=by
 obtain ⟨k,rfl⟩:∃ k,lv=k+1:=⟨lv-1,by omega⟩
 obtain ⟨lt,hx,V⟩:=V;rw [if_neg (by omega)] at V;obtain ⟨i1,i2,H,i4⟩:=V;simp only [Xgy] at i4;have EO:Zhq N (Ys L (k+1)) (Q5 N L costs k):=(hE.level (k:=k) (by omega)).ent pk U (by omega);have LP:=EO a t i1 i2 H;rw [<-i4] at LP;have e0:∀ p b w,EdL N L costs (k+1) t (Ys L (k+1) (Xd N a)) p b w->0<=w:=fun p b w e=>((Zot U ha c0).e0 p b w e).2;rcases Xhj k with z | z
 ·subst z;have up:∀ p b w,EdC N (Ys L 1) (Ys L 1 (Xd N a)) p b w->EdL N L costs 1 t (Ys L 1 (Xd N a)) p b w:=fun p b w e=>by
   obtain ⟨j,ej,lj⟩:=Uw e.1.2.1;have hb:b≠t:=fun h=>H (h ▸ e.2.2);exact ⟨Yr N p b,⟨by omega,e.1.1,by rw [if_pos rfl]⟩,by rw [if_neg hb];exact ⟨e.2.1,e.2.2,e.1.2.1,e.1.2.2⟩⟩
  refine Zku LP hx ?_ ?_
  ·rintro y ⟨p,D,X,g2,rfl⟩;exact .step (X.mono up) ⟨Yr N p t,⟨lt,g2,by rw [if_pos rfl]⟩,by rw [if_pos rfl]⟩
  intro y w;obtain ⟨p,D,u,I,g2,J⟩:=Ztu (Hc:=EdC N (Ys L 1) (Ys L 1 (Xd N a))) (Ho:=fun p w=>Yr N p t≠Xq/\w=Yr N p t) (fun p b w hb e=>by
    obtain ⟨x,⟨_,G,r⟩,e⟩:=e;rw [if_neg hb] at e;rw [if_pos rfl] at r;subst r;exact ⟨⟨G,e.2.2.1,e.2.2.2⟩,e.1,e.2.1⟩) (fun p w e=>by
    obtain ⟨x,⟨_,G,r⟩,e⟩:=e;rw [if_pos rfl] at e r;subst r;exact ⟨G,e⟩) e0 (fun y w=>H (Zbo w rfl)) w
  exact ⟨D+u,J,p,D,I,g2.1,by rw [g2.2]⟩
 obtain ⟨k,rfl⟩:∃ k',k=k'+1:=⟨k-1,by omega⟩
 have hb:=Zij pk (k+1) (k+1+1) (by omega) (by omega) h2;have he:Zhq N (Ys L (k+1)) (Q5 N L costs k):=(hE.level (k:=k) (by omega)).ent pk U (by omega);have Z:InK N (Ys L (k+1)) a:=fun e=>i1 (hb _ _ e);have LK:=(Zjs hb he U Z rfl i2 H).2 LP;have up:∀ p y,Xg (AtI a) (Zpn N (Ys L (k+1+1)) (Ys L (k+1)) (Ys L (k+1+1) (Xd N a)) (Q5 N L costs k)) p y->Xg (AtI a) (EdL N L costs (k+1+1) t (Ys L (k+1+1) (Xd N a))) p y:=by
  intro p y w
  induction w with
  | init h=>exact .init h
  | @step p b y w w0 e ih =>
   obtain ⟨e1,e2,e3,e4,e5,e6,e7⟩:=e;obtain ⟨j,ej,lj⟩:=Uw e6;have hb:b≠t:=fun h=>H (h ▸ e4);exact .step ih ⟨Q5 N L costs k p b,⟨by omega,e5,by rw [if_neg (by omega)];exact ⟨(Zgt w0 Z rfl).1,e1,e2,rfl⟩⟩,by rw [if_neg hb];exact ⟨e3,e4,e6,e7⟩⟩
 refine Zku LK hx ?_ ?_
 ·rintro y ⟨p,D,u,X,⟨I,g2,J,g4⟩,rfl⟩;exact .step (up _ _ X) ⟨Q5 N L costs k p t,⟨lt,J,by rw [if_neg (by omega)];exact ⟨(Zgt X Z rfl).1,I,g2,rfl⟩⟩,by rw [if_pos rfl];exact g4⟩
 intro y w;obtain ⟨p,D,u,I,g2,J⟩:=Ztu (Hc:=Zpn N (Ys L (k+1+1)) (Ys L (k+1)) (Ys L (k+1+1) (Xd N a)) (Q5 N L costs k)) (Ho:=fun p w=>Xas N (Ys L (k+1)) (Q5 N L costs k) p t w) (fun p b w hb e=>by
   obtain ⟨x,⟨_,G,r⟩,e⟩:=e;rw [if_neg hb] at e;rw [if_neg (by omega)] at r;obtain ⟨_,M,O,R⟩:=r;simp only [Xgy] at M O R;subst R;exact ⟨M,O,e.1,e.2.1,G,e.2.2.1,e.2.2.2⟩) (fun p w e=>by
   obtain ⟨x,⟨_,G,r⟩,e⟩:=e;rw [if_pos rfl] at e;rw [if_neg (by omega)] at r;obtain ⟨_,M,O,R⟩:=r;simp only [Xgy] at M O R;subst R;exact ⟨M,O,G,e⟩) e0 (fun y w=>H (Zgt w Z rfl).2) w
 exact ⟨D+u,J,p,D,u,I,g2,rfl⟩
end
def Zm4.seq {E:Nat->Nat->Int->Prop} {s:Nat}:∀ {b:Nat} {y:Int} {l:List (Nat × Nat)},Zm4 E s b y l->∃ (ps:Nat->Nat) (r:Nat->Int),ps 0=s/\r 0=0/\ps l.length=b/\r l.length=y/\∀ i (D:i<l.length),l[i]=(ps i,ps (i+1))/\E (ps i) (ps (i+1)) (r (i+1)-r i):=by
 intro b y l h
 induction h with
 | nil=>exact ⟨fun _=>s,fun _=>0,rfl,rfl,rfl,rfl,fun i D=>by simp at D⟩
 | @snoc a b y w l h e ih =>
  obtain ⟨ps,r,h1,I,H,h4,J⟩:=ih;refine ⟨fun i=>if i<=l.length then ps i else b,fun i=>if i<=l.length then r i else y+w,by simp [h1],by simp [I],?_,?_,fun i D=>?_⟩
  ·simp;omega
  ·simp;omega
  simp at D;rcases Xf0 i l.length with q | q
  ·obtain ⟨M,O⟩:=J i q;have G:i<=l.length:=by omega
   have e2:i+1<=l.length:=by omega
   simp only [G,e2,if_true];exact ⟨by rw [List.getElem_append_left q];exact M,O⟩
  have:i=l.length:=by omega
  subst this;have G:¬ l.length+1<=l.length:=by omega
  simp only [Xfy,G,if_true,if_false];exact ⟨by simp [H],by rw [H,h4,show y+w-y=w by omega];exact e⟩
def Z4g {N:Zr} {L:Za} {costs:Zb} {k s t:Nat} {c d:Int} {q:List (Nat × Nat)} (hq:Zm4 (EdL N L costs (k+1) t c) s t d q) (V:∀ x,x∈q->x.1≠t) (hst:t≠s) (X:Zu N t≠Xq) :
  0<q.length/\∃ (ps:Nat->Nat) (r:Nat->Int),ps 0=s/\r 0=0/\ps q.length=t/\r q.length=d+Zu N t /\
   ∀ i,i<q.length->Zl (Zad q) i=(ps (i+1):Int)/\ps (i+1)<N.as.length/\Zu N (ps (i+1))≠Xq/\∃ x,Zi3 N L costs k (ps i) (ps (i+1)) x/\r (i+1)=r i+(x+Zu N (ps (i+1))):=by
 obtain ⟨ps,r,h1,Z,G,h4,O⟩:=hq.seq;have R:0<q.length:=by
  rcases Xhj q.length with e | e
  ·rw [e,h1] at G;exact absurd G.symm hst
  exact e
 refine ⟨R,ps,fun i=>if i<q.length then r i else r i+Zu N t,h1,by simp [R,Z],G,by simp [h4],fun i H=>?_⟩;obtain ⟨a1,x,D,I⟩:=O i H;simp only [Xgy] at D;have U:Zl (Zad q) i=(ps (i+1):Int):=by simp [Zad,Zl,H,a1]
 rcases Xf0 (i+1) q.length with z | z
 ·have J:ps (i+1)≠t:=fun e=>V q[i+1] (Xgf _) (by rw [(O (i+1) z).1];exact e);rw [if_neg J] at I;exact ⟨U,D.1,I.2.2.1,x,D,by simp only [z,H,if_true];omega⟩
 have:i+1=q.length:=by omega
 have M:ps (i+1)=t:=by rw [this];exact G
 rw [if_pos M] at I;have z':¬ i+1<q.length:=by omega
 exact ⟨U,D.1,by rw [M];exact X,x,D,by simp only [z',H,if_true,if_false,M];omega⟩
def Zw7 {p q r:Nat->Bool} (h1:∀ x,p x=true->r x=true/\q x=false) (G:∀ x,q x=true->r x=true):∀ {l:Zd},(l.filter p).length+(l.filter q).length<=(l.filter r).length:=by
 intro l
 induction l with
 | nil=>simp
 | cons x l ih =>
  simp only [List.filter_cons]
  cases hp:p x <;> cases hq:q x <;> cases D:r x <;> simp <;> first | omega | skip
  ·have:=G x hq;rw [D] at this;cases this
  ·have:=(h1 x hp).1;rw [D] at this;cases this
  ·have:=(h1 x hp).2;rw [hq] at this;cases this
  have:=(h1 x hp).2;rw [hq] at this;cases this
def zN (N:Zr) (L:Za) (k:Nat):Nat:=if k<=L.length then ((List.range N.as.length).filter (Zix N L k)).length else 0
def Zi5 {N:Zr} {L:Za} (r:Yv N.vs.length L) (k:Nat):yN N L k+zN N L (k+1)<=zN N L k:=by
 rcases Xf0 k L.length with q | q
 ·unfold zN yN;rw [if_pos (by omega),if_pos (by omega)];refine Zw7 (fun x hx=>?_) (fun x hx=>?_)
  ·simp [yB] at hx;exact ⟨hx.1.2,hx.2⟩
  simp [Zix] at hx ⊢;by_cases z:k=0
  ·exact .inl z
  exact .inr (fun e=>hx (Zij r k (k+1) (by omega) (by omega) (by omega) _ _ e))
 have:yN N L k=0:=by
  unfold yN;rw [Xi9,Xja];intro x _ hx;simp [yB] at hx;omega
 unfold zN;rw [if_neg (by omega)];omega
def Q2 (N:Zr) (L:Za):Nat->Nat
 | 0=>1
 | k+1=>(yN N L k+1) * Q2 N L k
def am2 {a b:Nat}:4 * (a * b)<=(a+b) * (a+b):=by
 have key:∀ a k:Nat,4 * (a * (a+k))<=(a+(a+k)) * (a+(a+k)):=fun a k=>by
  have:=Xit k a;simp only [Nat.mul_add,Xgm];omega
 rcases Nat.le_total a b with h | h
 ·obtain ⟨k,rfl⟩:=Nat.le.dest h;exact key a k
 obtain ⟨k,rfl⟩:=Nat.le.dest h;rw [Xit (b+k) b,Nat.add_comm (b+k) b];exact key b k
def am3 {x y z:Nat} (h:x+y+z<=306):x * y * z<=1061208:=by
 have h1:=am2 (a:=x) (b:=y);have D:=am2 (a:=z) (b:=102);have G:=Xhe h1 D;have h4:=am2 (a:=x+y) (b:=z+102);have H:(x+y+(z+102)) * (x+y+(z+102))<=408 * 408:=Xhe (by omega) (by omega);have r:(x+y) * (z+102)<=41616:=by omega
 have I:=Xhe r r;have J:(x+y) * (x+y) * ((z+102) * (z+102))=(x+y) * (z+102) * ((x+y) * (z+102)):=by ac_rfl
 have e2:4 * (x * y) * (4 * (z * 102))=(4 * 4 * 102) * (x * y * z):=by ac_rfl
 omega
def am6 {a b c d e f:Nat} (h:a+b+c+d+e+f<=306):a * (b * (c * (d * (e * (f * 1)))))<=17596287801:=by
 have h1:=Xhe (Xhe (am2 (a:=a) (b:=b)) (am2 (a:=c) (b:=d))) (am2 (a:=e) (b:=f));have r:=am3 (x:=a+b) (y:=c+d) (z:=e+f) (by omega);have D:=Xhe r r;have G:(a+b) * (a+b) * ((c+d) * (c+d)) * ((e+f) * (e+f))=(a+b) * (c+d) * (e+f) * ((a+b) * (c+d) * (e+f)):=by ac_rfl
 have e2:4 * (a * b) * (4 * (c * d)) * (4 * (e * f))=(4 * 4 * 4) * (a * (b * (c * (d * (e * (f * 1)))))):=by rw [Xgd];ac_rfl
 omega
def Zvn {N : Zr} {L : Za} {k m : Nat} (h : k ≤ m) : Q2 N L k ≤ Q2 N L m := by
  induction m with
  | zero => have : k = 0 := by omega
            subst this; exact Xfy _
  | succ m ih =>
    by_cases q : k = m + 1
    · subst q; exact Xfy _
    have := ih (by omega);simp only [Q2];have := Nat.le_mul_of_pos_left (Q2 N L m) (show 0 < yN N L m + 1 by omega);omega
def Zkm {N:Zr} {L:Za} (r:Yv N.vs.length L) (D:N.as.length<=300) {k:Nat} (G:k<=L.length):Q2 N L k<=17596287801:=by
 have H:=r.bL;refine Xgk (Zvn (m:=6) (by omega)) ?_;have s0:yN N L 0+zN N L 1<=zN N L 0:=Zi5 r 0;have I:yN N L 1+zN N L 2<=zN N L 1:=Zi5 r 1;have s2:yN N L 2+zN N L 3<=zN N L 2:=Zi5 r 2;have J:yN N L 3+zN N L 4<=zN N L 3:=Zi5 r 3;have M:yN N L 4+zN N L 5<=zN N L 4:=Zi5 r 4;have O:yN N L 5+zN N L 6<=zN N L 5:=Zi5 r 5;have R:zN N L 0<=300:=by
  unfold zN;rw [if_pos (by omega)];have:=Xgz (Zix N L 0) (List.range N.as.length);simp at this;omega
 exact am6 (a:=yN N L 5+1) (b:=yN N L 4+1) (c:=yN N L 3+1) (d:=yN N L 2+1) (e:=yN N L 1+1) (f:=yN N L 0+1) (by omega)
def Zgo:Nat->Nat
 | 0=>0
 | k+1=>1+300 * Zgo k
def Zyw {l q:Zd}:Xu (l++q)=Xu l++Xu q:=by simp [Xu]
def Zvb {q:List (Nat × Nat)}:Xu (q.map (·.2))=Zad q:=by simp [Xu,Zad]
def Z76 {N:Zr} {L:Za} {costs:Zb} {k a b:Nat} {x:Int} (h:Zi3 N L costs k a b x) (G:k≠0):b≠a:=fun e=>by
 obtain ⟨_,_,h⟩:=h;rw [if_neg G] at h;subst e;exact h.1 h.2.1
def EdW.of_hop {N:Zr} {L:Za} {costs:Zb} {a b:Nat} {x:Int} (h:Zi3 N L costs 0 a b x) (H:Zu N b≠Xq):EdW N a b (x+Zu N b):=by
 obtain ⟨_,h1,G⟩:=h;rw [if_pos rfl] at G;subst G;exact ⟨h1,H,rfl⟩
structure Zxk (Y:Sys):Prop where
 P:Zfv Y
 op:Y.Has 347 Y347
section
variable {Y:Sys} {h h':Zk} {J:Oj} {N:Zr} {S:Zf} {L:Za} {costs:Zb} {A:Vk} {B D:Zb} {Sh E:Zf} {r l:Int}
def OpI (J:Oj) (lv s t:Nat) (u:Sl) (q:List (Nat × Nat)) (ps:Nat->Nat) (ys:Nat->Int) (N:Zr) (S:Zf) (L:Za) (costs:Zb) (r0:Int) (Sh0 E:Zf) (T P:Nat) (h0:Zk) (e:Zc) (h':Zk):Prop :=
 ∃ (i:Nat) (w:Sl) (g:Zd) (A:Vk) (B D:Zb) (Sh:Zf) (r l:Int) (v9 v10 v11 v12 v16 v17:Value),
  e=[Zh J.qp,Zg lv,Zg (ps i:Nat),Zg t,Zi,.bool false,u.v,.bool true,w.v,v9,v10,v11,v12,u.v,Zg u.n,Zg i,v16,v17]/\i<=q.length /\
  OpH h' J N S L costs A B D Sh (fun b=>E b\/(w.nl=false/\b=w.b)) r l/\(∀ b,b<N.as.length->Zl D b<=r)/\r0<=r/\r<=r0+(i * T:Nat)/\Ym h' 1 w (Zq (Xu g))/\GoW N s g (ps i) (ys i)/\g.length<=i * P/\Yd h' u (Zad q)/\(u.nl=false->¬ WrO J Sh u.b)/\(w.nl=false->h0.size<=w.b/\w.b≠u.b)/\Mod (WrO J Sh0) h0 h'/\(∀ b,Sh b->Sh0 b\/h0.size<=b)
def Yd.nls {s:Sl} {x:Zb} (r:Yd h s x) (G:x≠[]):s.nl=false:=by
 cases e:s.nl with
 | false=>rfl
 | true=>exact absurd (List.length_eq_zero_iff.1 (by rw [r.len];exact (r.ok.nil e).1)) G
set_option maxHeartbeats 1000000 in
def Zy5 (X:Zxk Y) (ok:Yl N) (V:Yv N.vs.length L) (hE:Zbf N L costs) (c0:∀ i,0<=Zl costs i/\Zl costs i<=Xq) (hn:N.as.length<=300):∀ (lv:Nat),1<=lv->lv<=L.length ->
  ∀ {h:Zk} {A:Vk} {B D:Zb} {Sh E:Zf} {r l:Int} {s t:Nat} {x:Int} {R:Ze},OpH h J N S L costs A B D Sh E r l->(∀ b,b<N.as.length->Zl D b<=r)->0<=r->r+(Zgo lv:Nat)<=4611686018427387904->s<N.as.length->Zi3 N L costs lv s t x->Zu N t≠Xq ->
  (∀ h' A' B' D' Sh' r' l' u g,Mod (WrO J Sh) h h'->OpH h' J N S L costs A' B' D' Sh' E r' l'->(∀ b,Sh' b->Sh b\/h.size<=b)->(∀ b,b<N.as.length->Zl D' b<=r')->r<=r'->r'<=r+(Zgo lv:Nat)->Ym h' 1 u (Zq (Xu g))->GoW N s g t (x+Zu N t)->g.length<=Q2 N L lv ->
   (u.nl=false->h.size<=u.b/\¬ WrO J Sh' u.b)->R (.tuple #[u.v,.bool true]) h') ->
  Zv Y 347 [Zh J.qp,Zg (lv:Int),Zg (s:Int),Zg (t:Int)] h R:=by
 intro lv
 induction lv with
 | zero=>intro h1;omega
 | succ k ih =>
  intro h1 h2 h A B D Sh E r l s t x R K hD r0 r1 hs hk hw hr;have bL:=V.bL;have bq:=K.bq;unfold OB at bq;have hst:t≠s:=Z76 hk (by omega);have ht:=hk.1;have hx:=(Zt5 ok c0 hk).2.2;obtain ⟨lw,lu⟩:=Zwn ok V hE c0 h1 h2 hs hk;have hT:Zgo (k+1)=1+300 * Zgo k:=rfl;have hP:Q2 N L (k+1)=(yN N L k+1) * Q2 N L k:=rfl;have bP:=Zkm V hn (k:=k) (by omega);have aA:=Zkm V hn h2;refine .of_has X.op rfl ?_;simp [Y347,Xm.wp,bq.hc];refine stB bq (by simp) ?_;intro g1 B1 m1;have K1:OpH g1 J N S L costs A B D Sh E r (IntKind.i64.wrap (l+1)):=K.num m1 (by unfold OB;simpa using B1);simp;refine Zuq X.P K1 ok V hE.len c0 h1 h2 hs ht hst r0 (by omega) hD hx lw ?_;intro g2 A2 B2 D2 Sh2 u d q m2 K2 f2 G hd hq U fu lq Z nq;have:=lu d hd;subst this;obtain ⟨l0,ps,ys,p0,y0,pl,yl,hh⟩:=Z4g hq nq hst hw;simp only [Xgy] at Z;have z1:=m1.size;have z2:=m2.size;have H:Mod (WrO J Sh) h g2:=(m1.mono fun _ _ e=>.inr (.inr (.inr (.inl e)))).then m2 fun i hi e=>e;have I:∀ b,Sh2 b->Sh b\/h.size<=b:=fun b hb=>(f2 b hb).imp id (fun e=>by omega);have ap:=U.row64.len;have aa:(Zad q).length=q.length:=by simp [Zad]
  by_cases z:k=0
  ·subst z;have gw:∀ i,i<=q.length->GoW N s ((q.map (·.2)).take i) (ps i) (ys i):=by
    intro i
    induction i with
    | zero=>intro _;rw [p0,y0];simpa using GoW.nil
    | succ i ae =>
     intro hi;obtain ⟨a1,a2,a3,x',a4,a5⟩:=hh i (by omega);have e:(q.map (·.2)).take (i+1)=(q.map (·.2)).take i++[ps (i+1)]:=by
      rw [Xgc (by simp;omega)]
      congr 2
      have:i<q.length:=by omega
      simp [Zad,Zl,this] at a1;simp;omega
     rw [e,a5];exact .snoc (ae (by omega)) (EdW.of_hop a4 a3)
   have gq:=gw q.length (Xfy _);rw [Xf7 (by simp),pl,yl] at gq;rw [<-Zvb] at U;simp;exact hr g2 _ _ _ _ _ _ u _ H K2 I G (by omega) (by simp [Zgo]) U gq (by simp [Q2];omega) (fun e=>⟨by have:=(fu e).1;omega,(fu e).2⟩)
  have z':¬ ((k:Int)+1=1):=by omega
  have M:Zad q≠[]:=fun e=>by rw [e] at aa;simp at aa;omega
  have af:=U.row64.nls M;have wl:IntKind.i64.wrap ((k:Int)+1-1)=(k:Int):=by rw [Zo (by omega)];omega
  have ag:IntKind.i64.wrap (k:Int)=(k:Int):=Zo (by omega);simp [z'];refine Zt (OpI J (k+1) s t u q ps ys N S L costs (r+1) Sh E (Zgo k) (Q2 N L k) h) (fun e _=>q.length-Zy e 15) ⟨0,Sl.nil,[],A2,B2,D2,Sh2,r+1,_,_,_,_,_,_,_,by rw [p0];rfl,by omega,K2.side (Mod.refl _) (fun b hb=>hb.elim (fun e=>⟨(K2.el b e).1,.inl e⟩) (fun e=>by cases e.1)),G,by omega,by omega,Ym.nil,by rw [p0,y0];exact .nil,by simp,U.row64,fun e=>(fu e).2,fun e=>(by cases e),H,I⟩ ?_;clear lu hd hq m2 K2 f2 G fu H I U z1 z2 m1 B1 K1 bq;rintro e g3 ⟨i,w,g,A3,B3,D3,Sh3,r3,l3,v9,aB,aC,aD,aE,aF,rfl,hi,K3,ab,aG,aH,ow,gw,lg,ru,nu,nw,m3,f3⟩;have aq:=ow.row64.len;have aI:(Xu g).length=g.length:=by simp [Xu]
  have ar:i * Q2 N L k<=q.length * Q2 N L k:=Xgi _ hi;have au:q.length * Q2 N L k<=(yN N L k+1) * Q2 N L k:=Xgi _ Z;by_cases c:i<q.length;rotate_left
  ·have c':¬ (i:Int)<u.n:=by omega
   have:i=q.length:=by omega
   subst this;rw [pl,yl] at gw;have av:q.length * Zgo k<=300 * Zgo k:=Xgi _ (by omega);simp [c'];exact hr g3 _ _ _ _ _ _ w g m3 (K3.side (Mod.refl _) (fun b hb=>⟨(K3.el b (.inl hb)).1,.inl (.inl hb)⟩)) f3 ab (by omega) (by omega) ow gw (by omega) (fun e=>⟨(nw e).1,(K3.el _ (.inr ⟨e,rfl⟩)).2⟩)
  have c':(i:Int)<u.n:=by omega
  have c2:i<u.n:=by omega
  have wi:=Zj (i:=i) (by omega);obtain ⟨a1,a2,a3,x',a4,a5⟩:=hh i c;have vb:=ru.val i (by omega);rw [a1] at vb;have ah:ps i<N.as.length:=by
   rcases Xhj i with e | e
   ·subst e;rw [p0];exact hs
   have:=(hh (i-1) (by omega)).2.1;rwa [Xjp e] at this
  have aw:(i+1) * Zgo k<=300 * Zgo k:=Xgi _ (by omega);have ax:(i+1) * Zgo k=i * Zgo k+Zgo k:=Nat.succ_mul _ _;have ay:(i+1) * Q2 N L k=i * Q2 N L k+Q2 N L k:=Nat.succ_mul _ _;have az:(i+1) * Q2 N L k<=q.length * Q2 N L k:=Xgi _ c;simp [c',Zm ru.ok,vb,ag];refine ih (by omega) (by omega) K3 ab (by omega) (by omega) ah a4 a3 ?_;intro g4 A4 B4 D4 Sh4 r4 l4 u4 q4 m4 K4 f4 ai aJ aK ac aj aL aM;have aN:=ac.row64.len;have aO:(Xu q4).length=q4.length:=by simp [Xu]
  have z4:=m4.size;have z3:=m3.size;have ak:=ow.mod m4 (fun e hb=>(K3.el _ (.inr ⟨e,rfl⟩)).2 hb);have al:=ru.mod m4 (fun _ hb=>nu af hb);have am:=m3.wro m4 f3;have an:∀ b,Sh4 b->Sh b\/h.size<=b:=fun b hb=>(f4 b hb).elim (f3 b) (fun e=>.inr (by omega));have ao:u.nl=false->¬ WrO J Sh4 u.b:=fun e hb=>(Zck f4 hb).elim (nu e) (fun q=>by have:=Vj ru M;omega);simp;refine Vg ak rfl (U7 ac.row64) (by simp;omega) Zai rfl (by omega) (by omega) ?_;intro w5 g5 O n5 m5 ad;have z5:=m5.size;have e5:Zq (Xu g)++Zq (Xu q4)=Zq (Xu (g++q4)):=by simp [Zyw,Zq]
  rw [e5] at O;have aP:=Vj ru M;have K5:OpH g5 J N S L costs A4 B4 D4 Sh4 (fun b=>E b\/(w5.nl=false/\b=w5.b)) r4 l4:=K4.side (m5.mono fun j _ hj=>.inr hj) (fun b hb=>by
   rcases hb with e | ⟨e1,e2⟩
   ·exact ⟨by have:=(K4.el b (.inl e)).1;omega,.inl (.inl e)⟩
   have:=O.lt e1;refine ⟨by omega,?_⟩;rcases ad with ⟨a,b'⟩ | ⟨a,_⟩
   ·exact .inl (.inr ⟨by rw [<-b'];exact e1,by omega⟩)
   exact .inr (by omega))
  simp [wi];refine ⟨⟨i+1,w5,g++q4,A4,B4,D4,Sh4,r4,l4,_,_,_,_,_,_,rfl,by omega,K5,ai,by omega,by omega,O,by rw [a5];exact gw.then aj,by simp;omega,al.mod m5 (fun _ hb=>(nw hb.1).2 hb.2.symm),ao,fun e=>?_,am.then m5 (fun j hj e=>by have:=(nw e.1).1;omega),an⟩,by simp [Zy];omega⟩;rcases ad with ⟨a,b'⟩ | ⟨a,_⟩
  ·rw [a];exact nw (by rw [<-b'];exact e)
  exact ⟨by omega,by omega⟩
end
structure NwT (h0 h:Zk) (n:Nat) (L:Za) (tag:Nat->Nat) (oL:Option Sl) (oM:Option Nat) (oH:Option (Nat × (Zf))) (o1 o2:Option Nat):Prop where
 ex:Ext h0 h
 z:∀ b,b<h0.size->tag b=0
 L:∀ s,oL=some s->∀ k,Mod (fun j=>tag j≠5) h k->Qn k s L
 M:∀ x,oM=some x->Zjx h x []/\tag x=1/\h0.size<=x/\x<h.size
 H:∀ x,oH=some x->X1 h x.1 n (fun _=>none) x.2/\∀ b,x.2 b->tag b=2/\h0.size<=b
 r1:∀ x,o1=some x->Ym h 1 (Sl.at x n n) (Zq (List.replicate n 0))/\tag x=3/\h0.size<=x/\x<h.size
 r2:∀ x,o2=some x->Ym h 1 (Sl.at x n n) (Zq (List.replicate n 0))/\tag x=4/\h0.size<=x/\x<h.size
def NwO (h0 h:Zk) (n:Nat) (L:Za) (oL:Option Sl) (oM:Option Nat) (oH:Option (Nat × (Zf))) (o1 o2:Option Nat):Prop:=∃ tag,NwT h0 h n L tag oL oM oH o1 o2
section
variable {h0 h h':Zk} {n:Nat} {L:Za} {oL:Option Sl} {oM:Option Nat} {oH:Option (Nat × (Zf))} {o1 o2:Option Nat} {tag:Nat->Nat}
def NwO.ex (a:NwO h0 h n L oL oM oH o1 o2):Ext h0 h:=a.elim fun _ a=>a.ex
def NwO.zero:NwO h0 h0 n L .none .none .none .none .none :=
 ⟨fun _=>0,Mod.refl _,fun _ _=>rfl,fun _ h=>(by cases h),fun _ h=>(by cases h),fun _ h=>(by cases h),fun _ h=>(by cases h),fun _ h=>(by cases h)⟩
def NwT.next (a:NwT h0 h n L tag oL oM oH o1 o2) (e:Ext h h') (c:Nat):NwT h0 h' n L (fun b=>if b<h.size then tag b else c) oL oM oH o1 o2:=by
 have z:=e.size;have G:=a.ex.size;refine ⟨a.ex.trans e,fun b hb=>by rw [if_pos (by omega)];exact a.z b hb,fun s hs k m=>a.L s hs k (e.mono (fun _ _ h=>h.elim) |>.then m fun i D q=>?_),fun x hx=>?_,fun x hx=>?_,fun x hx=>?_,fun x hx=>?_⟩
 ·rw [if_pos D] at q;exact q
 ·obtain ⟨p,q,r,s⟩:=a.M x hx;exact ⟨p.mod e (fun h=>h),by rw [if_pos s];exact q,r,by omega⟩
 ·obtain ⟨p,q⟩:=a.H x hx;exact ⟨p.mod e (fun _ _ h=>h),fun b hb=>by rw [if_pos (p.lt hb)];exact q b hb⟩
 ·obtain ⟨p,q,r,s⟩:=a.r1 x hx;exact ⟨p.ext' e,by rw [if_pos s];exact q,r,by omega⟩
 obtain ⟨p,q,r,s⟩:=a.r2 x hx;exact ⟨p.ext' e,by rw [if_pos s];exact q,r,by omega⟩
def NwO.part (a:NwO h0 h n L .none oM oH o1 o2) {s:Sl} (e:Ext h h') (f:∀ k,Mod (fun j=>j<h.size) h' k->Qn k s L):NwO h0 h' n L (some s) oM oH o1 o2:=by
 obtain ⟨t,a⟩:=a;have b:=a.next e 5;refine ⟨_,b.ex,b.z,fun r hs k m=>?_,b.M,b.H,b.r1,b.r2⟩
 cases hs
 refine f k (m.mono fun j D q=>?_);by_cases w:j<h.size
 ·exact w
 rw [if_neg w] at q;exact absurd rfl q
def NwO.map (a:NwO h0 h n L oL .none oH o1 o2) {x:Nat} (g:h.size<=x) (m:Zjx h' x []) (e:Ext h h'):NwO h0 h' n L oL (some x) oH o1 o2:=by
 obtain ⟨t,a⟩:=a;have b:=a.next e 1;have z:=a.ex.size;refine ⟨_,b.ex,b.z,b.L,fun y hy=>?_,b.H,b.r1,b.r2⟩
 cases hy
 exact ⟨m,by rw [if_neg (by omega)],by omega,m.lt⟩
def NwO.heap (a:NwO h0 h n L oL oM .none o1 o2) {p:Nat} {S:Zf} (H:X1 h' p n (fun _=>none) S) (f:∀ b,S b->h.size<=b) (e:Ext h h'):NwO h0 h' n L oL oM (some (p,S)) o1 o2:=by
 obtain ⟨t,a⟩:=a;have b:=a.next e 2;have z:=a.ex.size;refine ⟨_,b.ex,b.z,b.L,b.M,fun y hy=>?_,b.r1,b.r2⟩
 cases hy
 exact ⟨H,fun b hb=>⟨by rw [if_neg (by have:=f b hb;omega)],by have:=f b hb;omega⟩⟩
def NwO.row1 (a:NwO h0 h n L oL oM oH .none o2) {x:Nat} (g:h.size<=x) (o:Ym h' 1 (Sl.at x n n) (Zq (List.replicate n 0))) (e:Ext h h') (l:x<h'.size):NwO h0 h' n L oL oM oH (some x) o2:=by
 obtain ⟨t,a⟩:=a;have b:=a.next e 3;have z:=a.ex.size;refine ⟨_,b.ex,b.z,b.L,b.M,b.H,fun y hy=>?_,b.r2⟩
 cases hy
 exact ⟨o,by rw [if_neg (by omega)],by omega,l⟩
def NwO.row2 (a:NwO h0 h n L oL oM oH o1 .none) {x:Nat} (g:h.size<=x) (o:Ym h' 1 (Sl.at x n n) (Zq (List.replicate n 0))) (e:Ext h h') (l:x<h'.size):NwO h0 h' n L oL oM oH o1 (some x):=by
 obtain ⟨t,a⟩:=a;have b:=a.next e 4;have z:=a.ex.size;refine ⟨_,b.ex,b.z,b.L,b.M,b.H,b.r1,fun y hy=>?_⟩
 cases hy
 exact ⟨o,by rw [if_neg (by omega)],by omega,l⟩
def NwO.swap (a:NwO h0 h n L oL oM oH o1 o2):NwO h0 h n L oL oM oH o2 o1:=by
 obtain ⟨t,a⟩:=a;refine ⟨fun b=>if t b=3 then 4 else if t b=4 then 3 else t b,a.ex,fun b hb=>by simp [a.z b hb],fun s hs k m=>a.L s hs k (m.mono fun j _ q e=>q (by rw [e];simp)),fun x hx=>?_,fun x hx=>?_,fun x hx=>?_,fun x hx=>?_⟩
 ·have:=a.M x hx;simp [this.2.1];exact ⟨this.1,this.2.2⟩
 ·have:=a.H x hx;exact ⟨this.1,fun b hb=>by have:=this.2 b hb;simp [this.1];exact this.2⟩
 ·have:=a.r2 x hx;simp [this.2.1];exact ⟨this.1,this.2.2⟩
 have:=a.r1 x hx;simp [this.2.1];exact ⟨this.1,this.2.2⟩
end
structure Zxf (Y:Sys):Prop where
 P:Zxk Y
 New:Y.Has 346 Y346
section
variable {Y:Sys} {h h':Zk} {N:Zr} {S:Zf} {L:Za} {costs:Zb}
def Z3r (p op:Nat) (sc sL:Sl) (M hp bb db n:Nat):Array Value:=#[Zh p,Zh op,sc.v,sL.v,.map (some M),Zh hp,.slice (some ⟨bb,0,none⟩) n n,.slice (some ⟨db,0,none⟩) n n,Zg 0,Zg 0]
def Zlv {g:Zk} {p op M hp r D n:Nat} {G H:Sl}:Yo.sem Y g (.build #[.pointer none,.pointer none,Zi,Zi,.map none,.pointer none,Zi,Zi,Zg 0,Zg 0] [(0,1),(1,1),(2,1),(3,1),(4,1),(5,1),(6,1),(7,1),(8,1),(9,1)] [0,1,2,3,4,5,6,7]) [Zh p,Zh op,G.v,H.v,.map (some M),Zh hp,.slice (some ⟨r,0,none⟩) n n,.slice (some ⟨D,0,none⟩) n n]=some (.agg (Z3r p op G H M hp r D n)):=by
 simp [Yo.sem,Instr.fill,Value.cells,Sl.v,Z3r]
def NwO.fin {p op:Nat} {D G:Sl} {M hp I J O:Nat} {Sh E:Zf} {r h1:Zk} (e0:Ext r h) (U:∀ b,E b->r.size<=b/\b<h.size) (a:NwO h h1 N.as.length L (some G) (some M) (some (hp,Sh)) (some I) (some J)) (g:Xc r p N S) (v:Vw r op N L) (rc:Yd r D costs) (gq:h1.size<=O) (B:Xb h' O (Z3r p op D G M hp I J N.as.length)) (e:Ext h1 h') :
  OpH h' ⟨O,p,op,M,hp,I,J,D,G⟩ N S L costs (fun _=>none) (List.replicate N.as.length 0) (List.replicate N.as.length 0) Sh E 0 0:=by
 obtain ⟨t,a⟩:=a;obtain ⟨m1,m2,m3,m4⟩:=a.M _ rfl;obtain ⟨V,R⟩:=a.H _ rfl;obtain ⟨a1,a2,a3,a4⟩:=a.r1 _ rfl;obtain ⟨b1,b2,b3,b4⟩:=a.r2 _ rfl;simp only [] at V R;have z0:=e0.size;have lB:=B.lt;have X:∀ b,WrE ⟨O,p,op,M,hp,I,J,D,G⟩ Sh E b->r.size<=b/\(b<h1.size->t b≠5):=fun b hb=>by
  rcases hb with (e | e | e | e | e) | e
  ·simp only [] at e;subst e;exact ⟨by omega,fun _=>by omega⟩
  ·simp only [] at e;subst e;exact ⟨by omega,fun _=>by omega⟩
  ·simp only [] at e;subst e;exact ⟨by omega,fun _=>by omega⟩
  ·simp only [] at e;subst e;exact ⟨by omega,fun _=>by omega⟩
  ·have:=R b e;exact ⟨by omega,fun _=>by omega⟩
  have:=U b e;have:=a.z b this.2;exact ⟨by omega,fun _=>by omega⟩
 refine ⟨fun k mk=>?_,⟨⟨[],m1.mod e (fun h=>h),fun p hp=>by simp at hp⟩,.inl (.inl rfl)⟩,b1.ext' e,a1.ext' e,V.mod e (fun _ _ h=>h),B,fun b hb=>?_,?_,by show M<_;omega,fun hn hb=>?_,fun b hb=>⟨by have:=U b hb;omega,fun w=>?_⟩⟩
 ·have Z:Ext r k:=Mod.ext ((e0.trans a.ex).trans e) mk (fun j hj=>(X j hj).1);refine ⟨g.ext Z,v.ext Z,rc.ext Z,a.L _ rfl k ((e.mono fun _ _ h=>h.elim).then mk fun i hi hb=>(X i hb).2 hi)⟩
 ·have h2:=R b hb;have h3:=V.lt hb;exact ⟨fun e=>by simp only [] at e;subst e;omega,fun e=>by simp only [] at e;subst e;omega,fun e=>by simp only [] at e;subst e;omega,fun e=>by simp only [] at e;omega⟩
 ·simp only [];exact ⟨⟨fun e=>by subst e;omega,fun e=>by subst e;omega,fun e=>by subst e;omega⟩,by omega,by omega,by omega⟩
 ·have:=(X _ hb).1;have:=Vj rc hn;simp only [] at *
  omega
 have:=(U b hb).2;rcases w with e | e | e | e | e
 ·simp only [] at e;omega
 ·simp only [] at e;omega
 ·simp only [] at e;omega
 ·simp only [] at e;omega
 have:=(R b e).2;omega
set_option maxHeartbeats 8000000 in
def Zlc (X:Zxf Y) {p op:Nat} {sc:Sl} {E:Zf} {I:Zk} (e0:Ext I h) (hE:∀ b,E b->I.size<=b/\b<h.size) (g:Xc I p N S) (v:Vw I op N L) (rc:Yd I sc costs) (ok:Yl N) (pk:Yv N.vs.length L) {R:Ze}
    (hr:∀ h' J Sh,Ext h h'->(∀ b,WrO J Sh b->h.size<=b)->OpH h' J N S L costs (fun _=>none) (List.replicate N.as.length 0) (List.replicate N.as.length 0) Sh E 0 0->R (Zh J.qp) h') :
    Zv Y 346 [Zh p,Zh op,sc.v] h R:=by
  have bL:=pk.bL;have bn:=pk.bn;have ba:=ok.ba;have DR:=X.P.P.D.R;have O:=DR.Q.Q.A.O;have hA:=DR.Q.Q.G.Arcs;have hN:=DR.H.New;have ab:L.length<=1000:=by omega
  have ac:∀ i,i<L.length->(Ya L i).length<=1000000:=fun i hi=>by have:=(Xs pk hi).1;omega
  have kn:=Zk8 ba;have hf:∀ g V,Yo.sem Y g (.fld 0 1 false) [Q1 V]=some V.v:=fun g V=>rfl;have aa:∀ h1 h2 M hp bb db Z V Sh,NwO h h1 N.as.length L (some V) (some M) (some (hp,Sh)) (some bb) (some db)->h1.size<=Z->Xb h2 Z (Z3r p op sc V M hp bb db N.as.length)->Ext h1 h2->R (Zh Z) h2:=fun h1 h2 M hp bb db Z V Sh a gq B e =>
    hr h2 ⟨Z,p,op,M,hp,bb,db,sc,V⟩ Sh (a.ex.trans e) (fun b hb=>by
      have:=a.ex.size;obtain ⟨t,a⟩:=a;rcases hb with e | e | e | e | e
      ·simp only [] at e;subst e;exact (a.M _ rfl).2.2.1
      ·simp only [] at e;subst e;exact (a.r2 _ rfl).2.2.1
      ·simp only [] at e;subst e;exact (a.r1 _ rfl).2.2.1
      ·simp only [] at e;omega
      exact ((a.H _ rfl).2 b e).2) (a.fin e0 hE g v rc gq B e)
  clear hr;have r:NwO h h N.as.length L none none none none none:=NwO.zero;refine .of_has X.New rfl ?_;simp [Y346,Xm.wp]
  repeat' first
    | (with_reducible refine Zc4 O (v.ext (e0.trans r.ex)) ab ac ?_
       intro h1 V U f1;replace r:=r.part U f1;simp [hf])
    | (with_reducible refine Zoo ?_
       intro M h1 g1 m1 U;replace r:=r.map g1 m1 U;simp [Zlv])
    | (with_reducible refine Zat hA (g.ext (e0.trans r.ex)) ?_
       simp)
    | (with_reducible refine Zmq hN ?_
       intro h1 hp S1 H1 f1 U;rw [kn] at H1;replace r:=r.heap H1 f1 U;simp)
    | (with_reducible refine U1 (n:=N.as.length) (by omega) rfl ?_
       intro b h1 g1 o1 U l1
       first | replace r:=r.row1 g1 o1 U l1 | replace r:=r.row2 g1 o1 U l1
       simp [Zlv])
    | (with_reducible refine Zn ?_
       intro Z h1 g1 B1 U;replace B1:Xb h1 Z (Z3r p op sc _ _ _ _ _ N.as.length):=B1;simp
       first | with_reducible exact aa _ _ _ _ _ _ _ _ _ r g1 B1 U | with_reducible exact aa _ _ _ _ _ _ _ _ _ r.swap g1 B1 U)
    | (with_reducible apply And.intro)
structure Zvz (Y:Sys):Prop where
 N:Zxf Y
 Search:Y.Has 345 Y345
 CI:Y.Has 245 Y245
 Path:Y.Has 332 Y332
def Z6y {k:Nat} (h:k<=6):Zgo k<=2500000000000:=by
 have:k=0\/k=1\/k=2\/k=3\/k=4\/k=5\/k=6:=by omega
 rcases this with e | e | e | e | e | e | e <;> subst e <;> decide
def Z4v {s t a b:Nat} {w:Int} (h:HQ N L costs s t a b w):∃ x,b<N.as.length/\Zu N b≠Xq/\w=x+Zu N b/\Zi3 N L costs (lvQ N L s t a) a b x:=by
 unfold HQ Zid at h;simp only [] at h;change if lvQ N L s t a=0 then _ else _ at h
 split at h
 ·rename_i z;obtain ⟨h1,r,D⟩:=h;obtain ⟨j,H,I⟩:=Uw r;exact ⟨Yr N a b,by omega,r,D,by omega,h1,by rw [if_pos z]⟩
 rename_i z;obtain ⟨h1,r,D,h4,G,J⟩:=h;obtain ⟨j,H,I⟩:=Uw G;exact ⟨_,by omega,G,J,by omega,h4,by rw [if_neg z];exact ⟨h1,r,D,rfl⟩⟩
def Zs4 (X:Zvz Y) {p op:Nat} {U:Sl} (g:Xc h p N S) (v:Vw h op N L) (J:Yd h U costs) (V:Yl N) (Z:Yv N.vs.length L) (hE:Zbf N L costs) {s t:Nat} (hs:s<N.as.length) (ht:t<N.as.length) {R:Ze}
  (hr:∀ h' d u,Ext h h'->X9 (Zf7 N s) (EdW N) t d->(d<Xq->∃ r,Zm4 (HQ N L costs s t) s t d r/\Z6 h' u (r.map (Zkv N L s t))/\r.length<=N.as.length/\(r≠[]->h.size<=u.b))->R (.tuple #[.agg #[Zg d,u.v],.nilIface]) h') :
  Zv Y 345 [Zh p,Zh op,U.v,Zg s,Zg t] h R:=by
 have D:=X.N.P.P.D;have lc:=J.len;have le:=hE.len;refine .of_has X.Search rfl ?_;simp [Y345,Xm.wp];refine Zn ?_;intro A h0 gA A0 G;replace A0:Xb h0 A #[Zg 0,Zi]:=A0;simp;refine Zge D.K (g.ext G) (v.ext G) (by omega) hs ht ?_;simp;refine Zgg D (g.ext G) (v.ext G) (J.ext G) V Z ?_;rintro h1 ⟨qp,p',aa,M,bb,s',t',ab,sL⟩ e1 e2 e3 l1 l2 nM lM x1 qf gt oB;simp only [] at e1 e2 e3;subst e1 e2 e3;simp only [] at l1 l2 nM lM;simp;have lA:=A0.lt;refine Zsv D.R qf gt oB nM lM (fun H=>by have:=Vj (J.ext G) H;simp only [];omega) V Z hE hs ht ?_;intro h2 d u m2 r2;have A2:Xb h2 A #[Zg 0,Zi]:=m2.blk (A0.ext x1) (fun I=>by simp only [] at I;rcases I with e | e <;> omega);have x2:Ext h h2:=Mod.ext (G.trans x1) m2 (fun j I=>by simp only [] at I;rcases I with e | e <;> omega);have hb:∀ g,Yo.sem Y g (.build #[Zg 0,Zi] [(0,1),(1,1)] [0,1]) [Zg d,u.v]=some (.agg #[Zg d,u.v]):=fun g=>by
  simp [Yo.sem,Instr.fill,Value.cells,Sl.v]
 simp [hb];refine Zs (vs:=#[Zg d,u.v]) A2 rfl rfl (by simp) ?_;intro h3 A3 m3;simp;refine Zbp rfl A3 rfl ?_;refine hr h3 d u (Mod.ext x2 m3 (fun j I=>by omega)) r2.least (fun hd=>?_);obtain ⟨r,q1,O,q3,q4⟩:=r2.hops hd;have nl:r≠[]->u.nl=false:=fun H=>by
  cases e:u.nl with
  | false=>rfl
  | true=>have:=(O.ok.nil e).1;have:=O.n3;simp at this;exact absurd (List.length_eq_zero_iff.1 (by omega)) H
 refine ⟨r,q1,O.row3.mod m3 (fun H e=>?_),q3,fun H=>by have:=q4 (nl H);omega⟩;have:=q4 (nl (fun e=>H (by rw [e];rfl)));omega
def PaI (J:Oj) (s t:Nat) (p op:Nat) (sc u:Sl) (b5 b7:Nat) (d:Int) (q:List (Nat × Nat)) (ps:Nat->Nat) (ys:Nat->Int) (N:Zr) (S:Zf) (L:Za) (costs:Zb) (h00 h0:Zk) (e:Zc) (h':Zk):Prop :=
 ∃ (i:Nat) (w:Sl) (g:Zd) (A:Vk) (B D:Zb) (Sh:Zf) (r l:Int) (v11 v12 v13 v14 v15 v19 v20 v21:Value),
  e=[Zh p,Zh op,sc.v,Zg s,Zg t,Zh b5,.nilIface,Zh b7,.nilIface,w.v,Zh J.qp,v11,v12,v13,v14,v15,u.v,Zg u.n,Zg i,v19,v20,v21]/\i<=q.length /\
  OpH h' J N S L costs A B D Sh (fun b=>w.nl=false/\b=w.b) r l/\(∀ b,b<N.as.length->Zl D b<=r)/\0<=r/\r<=(i:Int) * 2500000000000/\Ym h' 1 w (Zq (Xu (s::g)))/\GoW N s g (ps i) (ys i)/\g.length<=i * 17596287801/\Z6 h' u (q.map (Zkv N L s t)) /\
  Xb h' b5 #[Zi,Zg 0,Zg 0]/\Xb h' b7 #[Zg d,u.v]/\Ext h00 h'/\(∀ b,WrO J Sh b->h0.size<=b)/\h00.size<=w.b/\w.b≠b5/\w.b≠b7/\(q≠[]->w.b≠u.b)/\h0.size<=h'.size
set_option maxHeartbeats 1000000 in
def Zzn (X:Zvz Y) {p op:Nat} {sc:Sl} (g:Xc h p N S) (v:Vw h op N L) (rc:Yd h sc costs) (ok:Yl N) (pk:Yv N.vs.length L) (hE:Zbf N L costs) (O:N.as.length<=300) {s t:Nat} (hs:s<N.as.length) (ht:t<N.as.length) {x:Int} (hx:x<Xq) (hw:Xg (Zf7 N s) (EdW N) t x) {R:Ze}
  (hr:∀ h' d a l q,Ext h h'->X9 (Zf7 N s) (EdW N) t d->d<Xq->Yd h' a (Xu (s::q))->GoW N s q t d->q.length<=5278886340300->R (.tuple #[.agg #[a.v,Zg d,Zg l],.nilIface]) h') :
  Zv Y 332 [Zh p,Zh op,sc.v,Zg s,Zg t] h R:=by
 have hI:Xq=1152921504606846976:=rfl;have bL:=pk.bL;have c0:∀ i,0<=Zl costs i/\Zl costs i<=Xq:=fun i=>by
  rcases Xf0 i costs.length with w | w
  ·exact hE.c0 i w
  have:Zl costs i=0:=by simp [Zl,Xgn w]
  omega
 refine .of_has X.Path rfl ?_;simp [Y332,Xm.wp];refine Zn ?_;intro b5 h1 g5 B5 e1;replace B5:Xb h1 b5 #[Zi,Zg 0,Zg 0]:=B5;simp;refine Zs4 X (g.ext e1) (v.ext e1) (rc.ext e1) ok pk hE hs ht ?_;intro h2 d u e2 hd hq;have dx:=hd.all x hw;obtain ⟨q,hq,U,lq,fu⟩:=hq (by omega);obtain ⟨ps,ys,p0,y0,pl,yl,hh⟩:=hq.seq;have x2:=e1.trans e2;have z2:=e2.size;have l5:=B5.lt;simp;refine Zn ?_;intro b7 h3 g7 B7 e3;replace B7:Xb h3 b7 #[Zg 0,Zi]:=B7;simp;refine Zs (vs:=#[Zg d,u.v]) B7 rfl rfl (by simp) ?_;intro h4 B7 m4;have ab:Ext h2 h4:=Mod.toExtF e3 m4 g7;have x4:=x2.trans ab;have B5:=(B5.ext e2).ext ab;have U:=U.ext ab;have dn:¬ 1152921504606846976<=d:=by omega
 have ae:q≠[]->u.b<h4.size:=fun O=>Zbs U (fun e=>O (List.map_eq_nil_iff.1 e));have l7:=B7.lt;simp [B7.hc,dn];refine Za0 rfl rfl rfl ?_ (by omega);intro wb h5 g5w _ e5 ow;replace ow:Ym h5 1 (Sl.at wb 1 1) (Zq (Xu [s])):=ow;have x5:=x4.trans e5;have z5:=e5.size;have lw:=ow.lt rfl;simp at lw;simp;refine Zlc X.N (E:=fun b=>(Sl.at wb 1 1).nl=false/\b=(Sl.at wb 1 1).b) x5 (fun b hb=>by have:=hb.2;simp at this;omega) g v rc ok pk ?_;intro h6 J Sh e6 f6 K6;have x6:=x5.trans e6;have z6:=e6.size;have k5:b5<h5.size:=by omega
 have k7:b7<h5.size:=by omega
 have B5:=(B5.ext e5).ext e6;have B7:=(B7.ext e5).ext e6;have U:=(U.ext e5).ext e6;have l3:=U.len;simp at l3;simp [B7.hc];refine Zt (PaI J s t p op sc u b5 b7 d q ps ys N S L costs h h5) (fun e _=>q.length-Zy e 18) ⟨0,Sl.at wb 1 1,[],_,_,_,Sh,0,0,_,_,_,_,_,_,_,_,rfl,by omega,K6,fun b hb=>by simp [Zl,hb],by omega,by omega,ow.ext' e6,by rw [p0,y0];exact .nil,by simp,U,B5,B7,x6,f6,by simp;omega,by simp;omega,by simp;omega,fun O=>by have:=ae O;simp;omega,by omega⟩ ?_;clear K6 f6 ow lw;rintro e g6 ⟨i,w,gl,A7,B8,D7,Sh7,r7,lp,aI,aJ,aK,aL,aM,aN,aO,aP,rfl,hi,K,hD,r0,r1,ow,gw,lg,U,B5,B7,x7,fW,w0,w5,w7,wu,zz⟩;have aB:=ow.row64.len;have aQ:(Xu (s::gl)).length=gl.length+1:=by simp [Xu]
 by_cases c:i<q.length;rotate_left
 ·have c':¬ (i:Int)<u.n:=by omega
  have:i=q.length:=by omega
  subst this;rw [pl,yl] at gw;have bq:=K.bq;unfold OB at bq;have aC:q.length * 17596287801<=5278886340300:=Xgk (Xgi 17596287801 (show q.length<=300 by omega)) (by decide);simp [c',B7.hc,bq.hc];refine Ze7 X.CI ow.row64 (by omega) ?_;intro h8 a e8 oa fa;have hb:∀ g,Yo.sem Y g (.build #[Zi,Zg 0,Zg 0] [(0,1),(1,1),(2,1)] [0,1,2]) [a.v,Zg d,Zg lp]=some (.agg #[a.v,Zg d,Zg lp]):=fun g=>by
   simp [Yo.sem,Instr.fill,Value.cells,Sl.v]
  simp [(B7.ext e8).hc,(Xb.ext bq e8).hc,hb];refine Zs (vs:=#[a.v,Zg d,Zg lp]) (B5.ext e8) rfl rfl (by simp) ?_;intro h9 B9 m9;simp;refine Zbp rfl B9 rfl ?_;have aR:=B5.lt;refine hr h9 d a lp gl (Mod.ext (x7.trans e8) m9 (fun j D=>by omega)) hd (by omega) (oa.row64.mod m9 (fun O e=>?_)) gw (by omega);have:=fa (oa.row64.nls O);omega
 have c':(i:Int)<u.n:=by omega
 have c2:i<u.n:=by omega
 have wi:=Zj (i:=i) (by omega);obtain ⟨a1,a2⟩:=hh i c;obtain ⟨x',lb,af,ew,hk⟩:=Z4v a2;have V:q≠[]:=fun e=>by rw [e] at c;simp at c
 have ap:ps i<N.as.length:=by
  rcases Xhj i with e | e
  ·subst e;rw [p0];exact hs
  obtain ⟨_,a⟩:=hh (i-1) (by omega);rw [Xjp e] at a;exact (Z4v a).elim fun _ a=>a.1
 have aq:Zp (q.map (Zkv N L s t)) i=⟨(lvQ N L s t (ps i):Nat),ps i,ps (i+1)⟩:=by
  simp [Zp,c,a1,Zkv]
 have ag:=U.rd (i:=i) (by simp;omega);rw [aq] at ag;have l5:=B5.lt;have l7:=B7.lt;have aD:(i+1) * 17596287801<=5278886340300:=Xgk (Xgi 17596287801 (show i+1<=300 by omega)) (by decide);simp [c',Zm U.ok,ag];refine Zn ?_;intro ar h8 au B11 e8;replace B11:Xb h8 ar #[Zg 0,Zg 0,Zg 0]:=B11;simp;refine Zs (vs:=#[Zg (lvQ N L s t (ps i):Nat),Zg (ps i),Zg (ps (i+1))]) B11 rfl rfl (by simp) ?_;intro h9 B11 m9;have e9:Ext g6 h9:=Mod.toExtF e8 m9 au;have K9:=K.ext e9;have ah:=ow.ext' e9;have aa:=U.ext e9;have B59:=B5.ext e9;have B79:=B7.ext e9;have x9:=x7.trans e9;have z9:=e9.size;simp [B11.hc];by_cases z:lvQ N L s t (ps i)=0
 ·rw [z] at hk;simp [z];refine Xp rfl ?_;intro bb ai aS B10 H;simp;refine Wg rfl (ah.ext' H) B10 (by omega) (by omega) ?_;intro w2 ac I av r G;have aw:=H.size;have ax:=r.size;have ay:=Zbs aa (fun e=>V (List.map_eq_nil_iff.1 e));have ad:Zq (Xu (s::gl))++[Zg (ps (i+1))]=Zq (Xu (s::(gl++[ps (i+1)]))):=by simp [Xu,Zq]
  rw [ad] at I;have K10:=K9.ext H;have K11:OpH ac J N S L costs A7 B8 D7 Sh7 (fun b=>w2.nl=false/\b=w2.b) r7 lp:=K10.side (r.mono fun j _ D=>D) (fun b ⟨e1,e2⟩=>by
   have:=I.lt e1;refine ⟨by omega,?_⟩;rcases G with ⟨a,b'⟩ | ⟨a,_⟩
   ·exact .inl ⟨by rw [<-b'];exact e1,by omega⟩
   exact .inr (by omega))
  simp [wi];refine ⟨⟨i+1,w2,gl++[ps (i+1)],A7,B8,D7,Sh7,r7,lp,_,_,_,_,_,_,_,_,rfl,by omega,K11,hD,r0,by omega,I,by rw [show ys (i+1)=ys i+(x'+Zu N (ps (i+1))) by omega];exact .snoc gw (EdW.of_hop hk af),by simp;omega,(aa.ext H).mod r (fun _ D=>wu V D.2.symm),r.blk (B59.ext H) (fun D=>w5 D.2.symm),r.blk (B79.ext H) (fun D=>w7 D.2.symm),Mod.ext (x9.trans H) r (fun j D=>by have:=D.2;omega),fW,?_,?_,?_,fun O=>?_,by omega⟩,by simp [Zy];omega⟩
  all_goals rcases G with ⟨a,b'⟩ | ⟨a,_⟩
  all_goals first | omega | (rw [a];first | assumption | exact wu O)
 have z':¬ ((lvQ N L s t (ps i):Nat):Int)=0:=by omega
 have lvl:lvQ N L s t (ps i)<=L.length:=Zh9;have tT:=Z6y (k:=lvQ N L s t (ps i)) (by omega);have tP:=Zkm pk O lvl;simp [z];refine Zy5 X.N.P ok pk hE c0 O (lvQ N L s t (ps i)) (by omega) lvl K9 hD r0 (by omega) ap hk af ?_;intro ai A10 B10 D10 Sh10 aj ak aT Z M K10 az al aE aF ou gq aG aH;have aw:=M.size;have lo:=ou.row64.len;have aU:(Xu Z).length=Z.length:=by simp [Xu]
 have am:=ah.mod M (fun e hb=>(K9.el _ ⟨e,rfl⟩).2 hb);have ay:=Zbs aa (fun e=>V (List.map_eq_nil_iff.1 e));have an:=aa.mod M (fun _ hb=>by have:=fW _ hb;have:=ae V;omega);have B510:=M.blk B59 (fun hb=>by have:=fW _ hb;omega);have B710:=M.blk B79 (fun hb=>by have:=fW _ hb;omega);have aA:Ext h ai:=Mod.ext x9 M (fun j D=>by have:=fW j D;omega);have ao:∀ b,WrO J Sh10 b->h5.size<=b:=fun b hb=>(Zck az hb).elim (fW b) (fun q=>by omega);simp;refine Vg am rfl (U7 ou.row64) (by simp;omega) Zai rfl (by omega) (by omega) ?_;intro w2 ac I av r G;have ax:=r.size;have ad:Zq (Xu (s::gl))++Zq (Xu Z)=Zq (Xu (s::(gl++Z))):=by simp [Xu,Zq]
 rw [ad] at I;have K11:OpH ac J N S L costs A10 B10 D10 Sh10 (fun b=>w2.nl=false/\b=w2.b) aj ak:=K10.side (r.mono fun j _ D=>D) (fun b ⟨e1,e2⟩=>by
  have:=I.lt e1;refine ⟨by omega,?_⟩;rcases G with ⟨a,b'⟩ | ⟨a,_⟩
  ·exact .inl ⟨by rw [<-b'];exact e1,by omega⟩
  exact .inr (by omega))
 simp [wi];refine ⟨⟨i+1,w2,gl++Z,A10,B10,D10,Sh10,aj,ak,_,_,_,_,_,_,_,_,rfl,by omega,K11,al,by omega,by omega,I,by rw [show ys (i+1)=ys i+(x'+Zu N (ps (i+1))) by omega];exact gw.then gq,by simp;omega,an.mod r (fun _ D=>wu V D.2.symm),r.blk B510 (fun D=>w5 D.2.symm),r.blk B710 (fun D=>w7 D.2.symm),Mod.ext aA r (fun j D=>by have:=D.2;omega),ao,?_,?_,?_,fun O=>?_,by omega⟩,by simp [Zy];omega⟩
 all_goals rcases G with ⟨a,b'⟩ | ⟨a,_⟩
 all_goals first | omega | (rw [a];first | assumption | exact wu O)
end
end Go.Rm
