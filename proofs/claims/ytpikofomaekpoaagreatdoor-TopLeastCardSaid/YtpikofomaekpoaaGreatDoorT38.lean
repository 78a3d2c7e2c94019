import Derived.Test.YtpikofomaekpoaaGreatDoorT37
/- Parts. -/
set_option linter.all false
namespace Go.Rm
structure Oj where
 qp:Nat
 p:Nat
 op:Nat
 M:Nat
 hp:Nat
 bb:Nat
 db:Nat
 sc:Sl
 sL:Sl
structure OS (h:Zk) (J:Oj) (N:Zr) (S:Zf) (L:Za) (costs:Zb):Prop where
 g:Xc h J.p N S
 v:Vw h J.op N L
 rc:Yd h J.sc costs
 rl:Qn h J.sL L
def OF (h:Zk) (W:Zf) (J:Oj) (N:Zr) (S:Zf) (L:Za) (costs:Zb):Prop:=∀ k,Mod W h k->OS k J N S L costs
def OF.now {h:Zk} {W:Zf} {J:Oj} {N:Zr} {S:Zf} {L:Za} {costs:Zb} (q:OF h W J N S L costs):OS h J N S L costs:=q h (Mod.refl _)
def OF.then {h h':Zk} {W W' S':Zf} {J:Oj} {N:Zr} {S:Zf} {L:Za} {costs:Zb} (q:OF h W J N S L costs) (m:Mod S' h h') (hs:∀ b,S' b->W b\/h.size<=b) (G:∀ b,W' b->W b\/h.size<=b):OF h' W' J N S L costs :=
 fun k mk=>q k ((m.mono fun i H h=>by rcases hs i h with q | q;exact q;omega).then mk fun i H h=>by rcases G i h with q | q;exact q;omega)
def OB (h:Zk) (J:Oj) (n:Nat) (r l:Int):Prop:=Xb h J.qp #[Zh J.p,Zh J.op,J.sc.v,J.sL.v,.map (some J.M),Zh J.hp,.slice (some ⟨J.bb,0,none⟩) n n,.slice (some ⟨J.db,0,none⟩) n n,Zg r,Zg l]
def WrO (J:Oj) (Sh:Zf) (b:Nat):Prop:=b=J.M\/b=J.db\/b=J.bb\/b=J.qp\/Sh b
def WrE (J:Oj) (Sh E:Zf) (b:Nat):Prop:=WrO J Sh b\/E b
structure OpH (h:Zk) (J:Oj) (N:Zr) (S:Zf) (L:Za) (costs:Zb) (A:Vk) (B D:Zb) (Sh E:Zf) (r l:Int):Prop where
 qf:OF h (WrE J Sh E) J N S L costs
 gt:GtH h J.M (WrE J Sh E) N L
 od:Ym h 1 (Sl.at J.db N.as.length N.as.length) (Zq D)
 ob:Ym h 1 (Sl.at J.bb N.as.length N.as.length) (Zq B)
 hr:X1 h J.hp N.as.length A Sh
 bq:OB h J N.as.length r l
 dj:∀ b,Sh b->b≠J.M/\b≠J.db/\b≠J.bb/\b≠J.qp
 dd:(J.M≠J.db/\J.M≠J.bb/\J.db≠J.bb)/\J.qp≠J.M/\J.qp≠J.db/\J.qp≠J.bb
 lM:J.M<h.size
 wc:costs≠[]->¬ WrE J Sh E J.sc.b
 el:∀ b,E b->b<h.size/\¬ WrO J Sh b
structure Zfv (Y:Sys):Prop where
 D:Zpg Y
 cellOf:Y.Has 402 Y402
 within:Y.Has 405 Y405
 next:Y.Has 404 Y404
 back:Y.Has 403 Y403
 steps:Y.Has 365 Y365
 Rev:Y.Has 265 Y265
 Clear:Y.Has 12 Y12
section
variable {Y:Sys} {h h':Zk} {J:Oj} {N:Zr} {S:Zf} {L:Za} {costs:Zb} {A A':Vk} {B D:Zb} {Sh Sh' E:Zf} {r l:Int}
def Zck {Sh Sh0:Zf} {n:Nat} (f:∀ b,Sh b->Sh0 b\/n<=b) {b:Nat} (h:WrO J Sh b):WrO J Sh0 b\/n<=b:=by
 rcases h with e | e | e | e | e
 ·exact .inl (.inl e)
 ·exact .inl (.inr (.inl e))
 ·exact .inl (.inr (.inr (.inl e)))
 ·exact .inl (.inr (.inr (.inr (.inl e))))
 exact (f b e).imp (fun q=>.inr (.inr (.inr (.inr q)))) id
def OpH.lts (k:OpH h J N S L costs A B D Sh E r l):J.db<h.size/\J.bb<h.size/\J.qp<h.size:=by
 have a:=k.od.lt rfl;have b:=k.ob.lt rfl;simp at a b;exact ⟨a,b,k.bq.lt⟩
def OpH.wlt (k:OpH h J N S L costs A B D Sh E r l) {b:Nat} (hb:WrO J Sh b):b<h.size:=by
 obtain ⟨G,H,I⟩:=k.lts;rcases hb with e | e | e | e | e
 ·rw [e];exact k.lM
 ·rw [e];exact G
 ·rw [e];exact H
 ·rw [e];exact I
 exact k.hr.lt e
def OpH.ext (k:OpH h J N S L costs A B D Sh E r l) (e:Ext h h'):OpH h' J N S L costs A B D Sh E r l :=
 ⟨k.qf.then e (fun _ h=>h.elim) (fun _ h=>.inl h),k.gt.mod e (fun _ h=>h.elim),k.od.ext' e,k.ob.ext' e,k.hr.mod e (fun _ _ h=>h),Xb.ext k.bq e,k.dj,k.dd,by have:=e.size;have:=k.lM;omega,k.wc,fun b hb=>⟨by have:=e.size;have:=(k.el b hb).1;omega,(k.el b hb).2⟩⟩
def OpH.heap (k:OpH h J N S L costs A B D Sh E r l) (m:Mod Sh h h') (H:X1 h' J.hp N.as.length A' Sh') (f:∀ b,Sh' b->Sh b\/h.size<=b):OpH h' J N S L costs A' B D Sh' E r l:=by
 have M:=k.lM;have G:∀ b,WrE J Sh' E b->WrE J Sh E b\/h.size<=b:=fun b hb=>by
  rcases hb with e | e
  ·exact (Zck f e).imp .inl id
  exact .inl (.inr e)
 have z:=m.size;refine ⟨k.qf.then m (fun b hb=>.inl (.inl (.inr (.inr (.inr (.inr hb)))))) G,k.gt.both m (fun b hb=>⟨.inl (.inl (.inr (.inr (.inr (.inr hb))))),(k.dj b hb).1⟩) G (.inl (.inl rfl)),k.od.mod m (fun _ hb=>(k.dj _ hb).2.1 rfl),k.ob.mod m (fun _ hb=>(k.dj _ hb).2.2.1 rfl),H,m.blk k.bq (fun hb=>(k.dj _ hb).2.2.2 rfl),fun b hb=>?_,k.dd,by omega,fun I hb=>?_,fun b hb=>?_⟩
 ·rcases f b hb with q | q
  ·exact k.dj b q
  obtain ⟨O,R,U⟩:=k.lts;omega
 ·rcases G _ hb with q | q
  ·exact k.wc I q
  have:=Vj k.qf.now.rc I;omega
 have:=k.el b hb;exact ⟨by omega,fun q=>(Zck f q).elim this.2 (fun q=>by omega)⟩
def OpH.mark {D':Zb} (k:OpH h J N S L costs A B D Sh E r l) (m:Mod (fun j=>j=J.db) h h') (o:Ym h' 1 (Sl.at J.db N.as.length N.as.length) (Zq D')):OpH h' J N S L costs A B D' Sh E r l:=by
 obtain ⟨G,I,H,M⟩:=k.dd;have z:=m.size;exact ⟨k.qf.then m (fun b hb=>.inl (.inl (.inr (.inl hb)))) (fun _ h=>.inl h),k.gt.mod m (fun b hb=>⟨.inl (.inl (.inr (.inl hb))),fun e=>G.1 (by rw [<-e];exact hb)⟩),o,k.ob.mod m (fun _ hb=>G.2.2 (Eq.symm hb)),k.hr.mod m (fun b hb e=>(k.dj b hb).2.1 e),m.blk k.bq H,k.dj,k.dd,by have:=k.lM;omega,k.wc,fun b hb=>⟨by have:=(k.el b hb).1;omega,(k.el b hb).2⟩⟩
def OpH.setB {B':Zb} (k:OpH h J N S L costs A B D Sh E r l) (m:Mod (fun j=>j=J.bb) h h') (o:Ym h' 1 (Sl.at J.bb N.as.length N.as.length) (Zq B')):OpH h' J N S L costs A B' D Sh E r l:=by
 obtain ⟨G,I,M,H⟩:=k.dd;have z:=m.size;exact ⟨k.qf.then m (fun b hb=>.inl (.inl (.inr (.inr (.inl hb))))) (fun _ h=>.inl h),k.gt.mod m (fun b hb=>⟨.inl (.inl (.inr (.inr (.inl hb)))),fun e=>G.2.1 (by rw [<-e];exact hb)⟩),k.od.mod m (fun _ hb=>G.2.2 hb),o,k.hr.mod m (fun b hb e=>(k.dj b hb).2.2.1 e),m.blk k.bq H,k.dj,k.dd,by have:=k.lM;omega,k.wc,fun b hb=>⟨by have:=(k.el b hb).1;omega,(k.el b hb).2⟩⟩
def OpH.gates (k:OpH h J N S L costs A B D Sh E r l) (m:Mod (fun j=>j=J.M) h h') (g:GtH h' J.M (fun j=>WrE J Sh E j/\j<h.size) N L):OpH h' J N S L costs A B D Sh E r l:=by
 obtain ⟨G,H,I,O⟩:=k.dd;have z:=m.size;exact ⟨k.qf.then m (fun b hb=>.inl (.inl (.inl hb))) (fun _ h=>.inl h),g.grow (fun b hb=>.inl ⟨hb,hb.elim k.wlt fun e=>(k.el b e).1⟩) (.inl (.inl rfl)),k.od.mod m (fun _ hb=>G.1 (Eq.symm hb)),k.ob.mod m (fun _ hb=>G.2.1 (Eq.symm hb)),k.hr.mod m (fun b hb e=>(k.dj b hb).1 e),m.blk k.bq H,k.dj,k.dd,by have:=k.lM;omega,k.wc,fun b hb=>⟨by have:=(k.el b hb).1;omega,(k.el b hb).2⟩⟩
def OpH.num {G l':Int} (k:OpH h J N S L costs A B D Sh E r l) (m:Mod (fun j=>j=J.qp) h h') (o:OB h' J N.as.length G l'):OpH h' J N S L costs A B D Sh E G l':=by
 obtain ⟨O,H,I,M⟩:=k.dd;have z:=m.size;exact ⟨k.qf.then m (fun b hb=>.inl (.inl (.inr (.inr (.inr (.inl hb)))))) (fun _ h=>.inl h),k.gt.mod m (fun b hb=>⟨.inl (.inl (.inr (.inr (.inr (.inl hb))))),fun e=>H (by rw [<-e];exact hb.symm)⟩),k.od.mod m (fun _ hb=>I (Eq.symm hb)),k.ob.mod m (fun _ hb=>M (Eq.symm hb)),k.hr.mod m (fun b hb e=>(k.dj b hb).2.2.2 e),o,k.dj,k.dd,by have:=k.lM;omega,k.wc,fun b hb=>⟨by have:=(k.el b hb).1;omega,(k.el b hb).2⟩⟩
def OpH.side {E':Zf} (k:OpH h J N S L costs A B D Sh E r l) (m:Mod E h h') (f:∀ b,E' b->b<h'.size/\(E b\/h.size<=b)):OpH h' J N S L costs A B D Sh E' r l:=by
 obtain ⟨I,M,O⟩:=k.lts;have R:=k.lM;have z:=m.size;have G:∀ b,WrE J Sh E' b->WrE J Sh E b\/h.size<=b:=fun b hb=>by
  rcases hb with e | e
  ·exact .inl (.inl e)
  exact (f b e).2.imp .inr id
 refine ⟨k.qf.then m (fun b hb=>.inl (.inr hb)) G,k.gt.both m (fun b hb=>⟨.inl (.inr hb),fun e=>(k.el b hb).2 (.inl e)⟩) G (.inl (.inl rfl)),k.od.mod m (fun _ hb=>(k.el _ hb).2 (.inr (.inl rfl))),k.ob.mod m (fun _ hb=>(k.el _ hb).2 (.inr (.inr (.inl rfl)))),k.hr.mod m (fun b hb e=>(k.el b e).2 (.inr (.inr (.inr (.inr hb))))),m.blk k.bq (fun hb=>(k.el _ hb).2 (.inr (.inr (.inr (.inl rfl))))),k.dj,k.dd,by omega,fun H hb=>?_,fun b hb=>⟨(f b hb).1,fun q=>?_⟩⟩
 ·rcases G _ hb with q | q
  ·exact k.wc H q
  have:=Vj k.qf.now.rc H;omega
 rcases (f b hb).2 with e | e
 ·exact (k.el b e).2 q
 have:=k.wlt q;omega
def Zcp (X:Zfv Y) (k:OpH h J N S L costs A B D Sh E r l) (ok:Yl N) (I:Yv N.vs.length L) {lv v:Nat} (h1:1<=lv) (h2:lv<=L.length) (hv:v<N.vs.length) {R:Ze}
  (U:R (.tuple #[Zg (Ys L lv v),.bool true]) h):Zv Y 402 [Zh J.qp,Zg (lv:Int),Zg (v:Int)] h R:=by
 have bL:=I.bL;have G:=k.qf.now.rl;have ll:=G.len;obtain ⟨u,hu,H⟩:=G.val (lv-1) (by omega);have lu:=H.len;have M:=(Xs I (i:=lv-1) (by omega)).1;have V:=H.val v (by omega);have O:=k.bq;unfold OB at O;refine .of_has X.cellOf rfl ?_;have Z:¬ (lv:Int)<1:=by omega
 have a2:¬ (J.sL.n:Int)<(lv:Int):=by omega
 have a3:¬ (v:Int)<0:=by omega
 have a4:¬ (u.n:Int)<=(v:Int):=by omega
 have w1:IntKind.i64.wrap ((lv:Int)-1)=((lv-1:Nat):Int):=by rw [Zo (by omega)];omega
 have i1:Yo.sem Y h (.idxa 1) [J.sL.v,Zg ((lv-1:Nat):Int)]=some (.pointer (some ⟨J.sL.b,J.sL.o+(lv-1),none⟩)):=by
  rw [Zm G.ok (by omega) (by omega)];simp
 have i2:Yo.sem Y h (.idxa 1) [u.v,Zg (v:Int)]=some (.pointer (some ⟨u.b,u.o+v,none⟩)):=by
  rw [Zm H.ok (by omega) (by omega)];simp
 simp [Y402,Xm.wp,O.hc,Z,a2,a3,a4,w1,i1,i2,hu,V];exact U
def Zjp (X:Zfv Y) (k:OpH h J N S L costs A B D Sh E r l) (I:Yl N) (U:Yv N.vs.length L) {lv b:Nat} {c:Int} (h1:1<=lv) (V:lv<=L.length) (hb:b<N.as.length) {R:Ze}
  (H:R (.bool (decide (Ys L lv (Qe N b)=c/\Ys L lv (Xd N b)=c))) h):Zv Y 405 [Zh J.qp,Zg (lv:Int),Zg c,Zg (b:Int)] h R:=by
 have M:=k.bq;unfold OB at M;have q:=k.qf.now;obtain ⟨e1,l1⟩:=Zov I hb;obtain ⟨e2,l2⟩:=Zfr I hb;refine .of_has X.within rfl ?_;simp [Y405,Xm.wp,M.hc];refine Zap X.D.R.Q.Q.G.From X.D.R.Q.Q.G.arc q.g ?_;rw [e1];simp;refine Zcp X k I U h1 V l1 ?_;simp [M.hc];refine Z2 X.D.R.Q.Q.G.To X.D.R.Q.Q.G.arc q.g ?_;rw [e2];simp;refine Zcp X k I U h1 V l2 ?_;simp;by_cases O:Ys L lv (Qe N b)=c
 ·by_cases Z:Ys L lv (Xd N b)=c
  ·simp [O,Z] at H ⊢;exact H
  simp [O,Z] at H ⊢;exact H
 simp [O] at H ⊢;exact H
end
section
variable {Y:Sys} {h h':Zk} {J:Oj} {N:Zr} {S:Zf} {L:Za} {costs:Zb} {A:Vk} {B D:Zb} {Sh E:Zf} {r l:Int}
def NyI (v0 v1 v3 v4 v5:Value) (u:Sl) (pb a:Nat) (N:Zr) (l:Zb) (h0:Zk) (e:Zc) (h':Zk):Prop :=
 ∃ (i:Nat) (P:Zb) (v8 v9 v10 v11 v12 v13 v14 v15 v19 v20 v21 v22:Value),e=[v0,v1,Zg a,v3,v4,v5,u.v,.slice (some ⟨pb,0,none⟩) l.length l.length,v8,v9,v10,v11,v12,v13,v14,v15,u.v,Zg u.n,Zg i,v19,v20,v21,v22]/\i<=l.length/\Ym h' 1 (Sl.at pb l.length l.length) (Zq P)/\P.length=l.length/\(∀ j,j<i->Zl P j=Yr N a (Zl l j))/\Ext h0 h'
set_option maxHeartbeats 1000000 in
def Zvq (X:Zfv Y) (K:OpH h J N S L costs A B D Sh E r l) (ok:Yl N) (pk:Yv N.vs.length L) (lc:costs.length=levelS N L L.length) (c0:∀ i,0<=Zl costs i/\Zl costs i<=Xq) {a lv:Nat} (ha:a<N.as.length) (aR:lv<=L.length) {R:Ze}
  (hr:∀ h' u w bs ps,Mod (fun j=>j=J.M) h h'->OpH h' J N S L costs A B D Sh E r l->Yd h' u bs->Yd h' w ps->(bs≠[]->¬ WrO J Sh u.b)->(ps≠[]->¬ WrO J Sh w.b)->Zf9 N L costs lv a bs ps->R (.tuple #[u.v,w.v]) h') :
  Zv Y 404 [Zh J.qp,Zg (lv:Int),Zg a] h R:=by
 have hI:Xq=1152921504606846976:=rfl;have bL:=pk.bL;have bn:=pk.bn;have ba:=ok.ba;have G:=X.D.R.Q.Q.G;have qs:=K.qf.now;have bq:=K.bq;unfold OB at bq;obtain ⟨e1,l1⟩:=Zfr ok ha;refine .of_has X.next rfl ?_;simp [Y404,Xm.wp,bq.hc];refine Z2 G.To G.arc qs.g ?_;rw [e1];by_cases z:lv=0
 ·subst z;simp [bq.hc];refine Zgh G.Outs G.vert G.CI qs.g (by omega) ?_;intro h1 u x1 ou fu;have aF:(if Yf N.vs.length (Xd N a:Int) then Qd N.as (Xd N a:Int) else [])=Xi N a:=by rw [<-e1];rfl
  rw [aF] at ou;have lu:=ou.row64.len;have lo:=Zci (N:=N) (a:=a);simp;refine U1 (n:=(Xi N a).length) (by omega) (by omega) ?_;intro pb h2 aS o2 x2 aT;simp;refine Zt (NyI (Zh J.qp) (Zg 0) (Zi) (Zi) (Zg (Xd N a)) u pb a N (Xi N a) h1) (fun e _=>(Xi N a).length-Zy e 18) ⟨0,_,_,_,_,_,_,_,_,_,_,_,_,_,by rw [<-lu];rfl,by omega,o2,by simp,fun j O=>by omega,x2⟩ ?_;rintro e h3 ⟨i,P,v8,v9,aU,aa,aV,ab,ac,ad,ae,af,ag,ah,rfl,hi,oP,lP,hP,x3⟩;have al:=x1.trans x3;have K3:=K.ext al;have am:=K3.bq;unfold OB at am;by_cases c:i<(Xi N a).length
  ·have c':(i:Int)<u.n:=by omega
   have c2:i<u.n:=by omega
   have w1:=Zj (i:=i) (by omega);obtain ⟨b,eb,lb⟩:=U5 c;have vb:=((ou.ext' x3).row64).val i c;rw [eb] at vb;have aG:∀ g,Yo.sem Y g (.idxa 1) [.slice (some ⟨pb,0,none⟩) (Xi N a).length (Xi N a).length,Zg i]=some (.pointer (some ⟨pb,i,none⟩)):=fun g=>by
    have:=Vb (Y:=Y) (h:=g) (b:=pb) (sz:=1) (show (Xi N a).length<=9223372036854775807 by omega) c (Xfy _);simpa using this
   simp [c',Zm ou.ok,vb,am.hc];refine Zgu G.Turn G.arc G.T K3.qf.now.g ok ?_;intro h4 e4;simp [aG];refine Zir (oP.ext' e4) (k:=i) (by simp;omega) ?_;intro h5 o5 m5;rw [Vn] at o5;have z1:=ou.lt;simp [w1];refine ⟨⟨i+1,_,_,_,_,_,_,_,_,_,_,_,_,_,rfl,by omega,o5,by simp [lP],fun j O=>?_,Mod.ext (x3.trans e4) m5 (fun j O=>by omega)⟩,by simp [Zy];omega⟩;rw [Va (by omega)];by_cases qj:j=i
   ·subst qj;simp [eb]
   simp [qj];exact hP j (by omega)
  have c':¬ (i:Int)<u.n:=by omega
  have:i=(Xi N a).length:=by omega
  subst this;simp [c'];have aH:∀ j,j<(Xi N a).length->0<=Zl P j/\Zl P j<=Xq:=fun j O=>by
   rw [hP j O];have:=Wq ok (a:=(a:Int)) (b:=Zl (Xi N a) j);omega
  have z1:=x1.size;refine hr h3 u (Sl.at pb _ _) (Xi N a) P (al.mono fun _ _ h=>h.elim) K3 (ou.ext' x3).row64 oP.row64 (fun I hb=>by
   have U:u.nl=false:=by
    cases U:u.nl with
    | false=>rfl
    | true=>have:=(ou.ok.nil U).1;exact absurd (List.length_eq_zero_iff.1 (by omega)) I
   have:=fu U;have:=K.wlt hb;omega) (fun _ hb=>by have:=K.wlt hb;simp only [Sl.at_b] at this;omega) ⟨lP.symm,fun j O=>U5 O,aH,fun b x=>?_,by omega⟩
  unfold Zi3;simp only [if_true];constructor
  ·rintro ⟨h0,h1,rfl⟩;obtain ⟨j,O,ej⟩:=Zw.1 (Zgv h1);have:=hP j O;rw [ej] at this;exact ⟨j,O,ej,by rw [this];exact h1,this.symm⟩
  rintro ⟨j,O,ej,h1,h2⟩;have:=hP j O;rw [ej] at this;obtain ⟨b',eb,lb⟩:=U5 O;exact ⟨by omega,by rw [h2];exact h1,by rw [h2,this]⟩
 obtain ⟨k,rfl⟩:∃ k,lv=k+1:=⟨lv-1,by omega⟩
 have hk:k<L.length:=by omega
 obtain ⟨c,ec,ai⟩:=Zh3 pk ok hk ha;have z2:¬ ((k:Int)+1=0):=by omega
 simp [z2];have cs:=@Zcp Y h J N S L costs A B D Sh E r l X K ok pk (k+1) (Xd N a) (by omega) (by omega) l1;rw [show Ys L (k+1) (Xd N a)=(c:Int) from ec] at cs;simp only [Int.natCast_add,Int.cast_ofNat_Int] at cs;refine cs ?_;have an:∀ g,Yo.sem Y g (.buildA 1 #[Zg 0,Zg 0] [0,1]) [Zg ((k:Int)+1),Zg c]=some (Zeo (k+1,c)):=fun g=>by
  simp [Yo.sem,Instr.fill,Value.cells,Zeo]
 obtain ⟨m,hM,hl⟩:=K.gt.ex;have aI:=Zoq (Y:=Y) hM (x:=(k+1,c)) (z:=.agg #[Zi,Zi]);simp [bq.hc,an,aI];refine Zn ?_;intro Dd h1 gD D1 x1;replace D1:Xb h1 Dd #[Zi,Zi]:=D1;simp;have aj:=Zk3 (costs:=costs) ok pk hk ai ec ha lc c0;have aW:=Wi (N:=N) (L:=L) (k:=k) (c:=c) (x:=false);have lgo:=Wi (N:=N) (L:=L) (k:=k) (c:=c) (x:=true);have bS:=Zar ok pk (k:=L.length) (Xfy _);have V:∀ (H:Zk) (a' b:Sl) (v6 v7 v8 v9 aa ab ac ad ao ap aq ae af ag ah:Value),Xb H Dd #[a'.v,b.v]->Mod (fun j=>j=J.M) h H->OpH H J N S L costs A B D Sh E r l->Yd H a' (Zx N L k false c)->Yd H b (Zx N L k true c)->(Zx N L k true c≠[]->¬ WrO J Sh b.b) ->
   Stmt.wp Y Y404.body.rest.rest.rest.rest.rest.rest.rest (U4 Y404.res R) (fun _ _ _=>False) (U4 Y404.res R) [Zh J.qp,Zg ((k:Int)+1),Zg a,Zi,Zi,Zg (Xd N a),v6,v7,v8,v9,Zg c,aa,Zh Dd,ab,ac,ad,ao,ap,aq,ae,af,ag,ah] H:=by
  intro H a' b v6 v7 v8 v9 aa ab ac ad ao ap aq ae af ag ah DH mH KH ra rb nb;have aX:=ra.len;have ar:=rb.len;have au:=KH.bq;unfold OB at au;simp [Y404,Stmt.rest,DH.hc];refine Zbl X.D.R.Q.Q.S ra (by omega) Xw ?_;simp [au.hc];refine Zcu X.D.R.Q.Q.A KH.qf.now.v ok pk hk ai ?_;intro hy ey;have Ky:=KH.ext ey;have av:=Ky.bq;unfold OB at av;have my:Mod (fun j=>j=J.M) h hy:=mH.then ey fun _ _ h=>h.elim;have Dy:=DH.ext ey;have aJ:=rb.ext ey;have aY:=Ky.qf.now.rc.len;rcases aj with ⟨e,nx⟩ | ⟨f,p0,ef,p1,p2,nx⟩
  ·have aw:R (.tuple #[Zi,Zi]) hy:=hr hy Sl.nil Sl.nil [] [] my Ky ⟨Sl.nil_ok,rfl,fun i hi=>by simp at hi⟩ ⟨Sl.nil_ok,rfl,fun i hi=>by simp at hi⟩ (fun h=>absurd rfl h) (fun h=>absurd rfl h) nx;rcases e with e | ⟨e0,e⟩
   ·simp [e];exact aw
   have aK:¬ Yg 0 (Zx N L k false c) (a:Int)<0:=by omega
   simp [aK,e];exact aw
  have aL:¬ Yg 0 (Zx N L k false c) (a:Int)<0:=by omega
  have d1:¬ (f:Int)<0:=by omega
  have wf:IntKind.i64.wrap ((f:Int)+(b.n:Int))=((f+b.n:Nat):Int):=by rw [Zo (by omega)];omega
  have d3:¬ ((J.sc.n:Int)<((f+b.n:Nat):Int)):=by omega
  have d2:¬ J.sc.n<f+b.n:=by omega
  rw [ar] at p1 p2;obtain ⟨w,hw,ax,wb⟩:=Yd.cut (Y:=Y) Ky.qf.now.rc (f:=f) (n:=b.n) (by omega) (by omega) (by omega);rw [ef];simp [aL,d1,d3,Dy.hc,av.hc,wf,hw,-Int.natCast_add];rw [<-ar] at ax;exact hr hy b w _ _ my Ky aJ ax nb (fun _ hb=>Ky.wc (fun e=>by rw [e] at p1;simp at p1;omega) (.inl (wb ▸ hb))) nx
 simp only [Y404,Stmt.rest] at V
 cases hv:Zdi m (k+1,c) with
 | some vv =>
  obtain ⟨a',b,e,ay,az,na,aA⟩:=(hl _ (Zn2 hv)).ex;simp only [Xgy] at ay az na aA;subst e;simp;refine Zs (vs:=#[a'.v,b.v]) D1 rfl rfl (by simp) ?_;intro h2 D2 m2;have x2:Ext h h2:=Mod.toExtF x1 m2 gD;simp [-Yc];rw [Yc];exact V h2 a' b _ _ _ _ _ _ _ _ _ _ _ _ _ _ _ D2 (x2.mono fun _ _ h=>h.elim) (K.ext x2) (ay.ext x2) (az.ext x2) (fun I hb=>aA I (.inl hb))
 | none =>
  simp;refine Zs (vs:=#[Zi,Zi]) D1 rfl rfl (by simp) ?_;intro h2 D2 m2;have x2:Ext h h2:=Mod.toExtF x1 m2 gD;have K2:=K.ext x2;have aB:=K2.bq;unfold OB at aB;simp [aB.hc];refine Zax X.D.R.Q.Q.A K2.qf.now.v ok pk hk ai ?_;intro h3 a' b x3 oa ob fa fb;simp;refine Zs (vs:=#[a'.v,b.v]) (D2.ext x3) rfl rfl (by simp) ?_;intro h4 D4 m4;have z2:=x2.size;have z3:=x3.size;have x4:Ext h h4:=Mod.ext (x2.trans x3) m4 (fun j O=>by omega);have K4:=K.ext x4;have aC:=K4.bq;unfold OB at aC;have lM:=hM.lt;have aM:=hM.mod x4 (fun h=>h);have lD:=D2.lt;have aN:=oa.mod m4 (fun I=>by have:=oa.lt I;rcases fa with e | e;rw [I] at e;cases e;omega);have aO:=ob.mod m4 (fun I=>by have:=ob.lt I;rcases fb with e | e;rw [I] at e;cases e;omega);simp [aC.hc,an,Yj D4];refine Ztc aM hv ?_;intro h5 aP m5;have z4:=x4.size;have Z:∀ {s:Sl} {y:Bool},Ym h3 1 s (Zq (Zx N L k y c))->(s.nl=true\/h2.size<=s.b)->Zx N L k y c≠[]->h.size<=s.b/\s.nl=false:=fun {s y} o f I=>by
   have U:s.nl=false:=by
    cases U:s.nl with
    | false=>rfl
    | true=>have:=(o.ok.nil U).1;have:=o.row64.len;exact absurd (List.length_eq_zero_iff.1 (by omega)) I
   rcases f with e | e
   ·rw [U] at e;cases e
   exact ⟨by omega,U⟩
  have aD:Yd h5 a' (Zx N L k false c):=aN.row64.mod m5 (fun I=>by have:=(Z oa fa I).1;omega);have aE:Yd h5 b (Zx N L k true c):=aO.row64.mod m5 (fun I=>by have:=(Z ob fb I).1;omega);have D5:=m5.blk D4 (by omega);have ak:Mod (fun j=>j=J.M) h h5:=(x4.mono fun _ _ h=>h.elim).trans m5;have aQ:GtH h5 J.M (fun j=>WrE J Sh E j/\j<h.size) N L:=by
   refine ⟨⟨_,aP,fun p hp=>?_⟩,⟨.inl (.inl rfl),lM⟩⟩;rcases List.mem_append.1 hp with w | w
   ·exact ((hl p w).mod (W:=WrE J Sh E) ak (fun j O=>by rw [O];exact .inl (.inl (.inl rfl)))).grow (fun j O=>.inl O.1)
   simp at w;subst w;exact ⟨a',b,rfl,aD,aE,fun I hw=>by have:=(Z oa fa I).1;omega,fun I hw=>by have:=(Z ob fb I).1;omega⟩
  have K5:=K.gates ak aQ;simp [-Yc];rw [Yc];exact V h5 a' b _ _ _ _ _ _ _ _ _ _ _ _ _ _ _ D5 ak K5 aD aE (fun I hb=>by have:=(Z ob fb I).1;have:=K.wlt hb;omega)
end
def Zde {a b:Int} (r:0<=a) (hb:0<=b):Ziy a b=Ww (a+b):=by
 unfold Ziy Ww
 repeat' split
 all_goals omega
end Go.Rm
