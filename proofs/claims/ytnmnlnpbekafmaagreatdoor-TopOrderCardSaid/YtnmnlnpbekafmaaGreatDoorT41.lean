import Derived.Test.YtnmnlnpbekafmaaGreatDoorT38
/- Parts. -/
set_option linter.unusedSimpArgs false
set_option linter.unusedVariables false
namespace Go.Rm
section
variable {N M:Zq} {L:Za} {k c:Nat}
theorem Z24 {l:List Xe} {i:Nat} (h:i<l.length):l[i]=Zp l i:=by rw [Wn h]
theorem Xz.ends (d:Xz N M):M.as.map (fun t=>(t.a,t.b))=N.as.map (fun t=>(t.a,t.b)):=by
 apply Xew
 ·simp [d.al]
 intro i h1 r;simp only [Xe7];rw [Z24,Z24];exact Prod.ext (d.ab i).1 (d.ab i).2
theorem Z2c {p:Xe->Bool} {q:Int × Int->Bool} (h:∀ t,p t=q (t.a,t.b)):∀ {l r:List Xe} {k:Nat},l.map (fun t=>(t.a,t.b))=r.map (fun t=>(t.a,t.b))->Uc p k l=Uc p k r:=by
 intro l
 induction l with
 | nil=>intro r k e;cases r with
  | nil=>rfl
  | cons=>simp at e
 | cons x l G =>
  intro r k e
  cases r with
  | nil=>simp at e
  | cons y r =>
   simp at e;have D:p x=p y:=by rw [h,h,e.1.1,e.1.2]
   simp only [Uc];rw [D,G (by simpa using e.2)]
theorem Xz.gate (d:Xz N M) {x:Bool}:Zw M L k x c=Zw N L k x c:=by
 unfold Zw Zcg;have e:Uq M L ((k:Int)+1)=Uq N L ((k:Int)+1):=by
  unfold Uq;exact Z2c (q:=fun p=>Za8 (lvl L ((k:Int)+1)) ⟨p.1,p.2,0⟩) (fun t=>rfl) d.ends
 rw [e];apply List.filter_congr;intro a _;rw [(d.ab a.toNat).1,(d.ab a.toNat).2]
theorem Xz.entN (d:Xz N M):entN M L k c=entN N L k c:=by unfold Rm.entN;rw [d.gate,d.gate]
theorem Xz.cellS (d:Xz N M):∀ {c:Nat},cellS M L k c=cellS N L k c:=by
 intro c
 induction c with
 | zero=>rfl
 | succ c r=>simp only [Rm.cellS];rw [r,d.entN]
theorem Xz.levelS (d:Xz N M):∀ {k:Nat},levelS M L k=levelS N L k:=by
 intro k
 induction k with
 | zero=>rfl
 | succ k r=>simp only [Rm.levelS];rw [r,d.cellS]
theorem Xz.starts (d:Xz N M):W0 M L k=W0 N L k:=by
 unfold W0;apply Xf6;intro c _;rw [d.levelS,d.cellS]
theorem Uz.dim {h:Zk} {op:Nat} (d:Xz N M) (v:Uz h op N L):Uz h op M L:=by
 obtain ⟨q,f,t,g,H,z,B,I,r,J,rt,D,O⟩:=v;refine ⟨q,f,t,g,H,z,B,I,⟨r.ok,r.len,fun i G=>?_⟩,?_,?_,⟨D.ok,D.len,fun i G=>?_⟩,by rw [d.levelS];exact O⟩
 ·obtain ⟨u,a,b⟩:=r.val i G;refine ⟨u,a,b.ok,b.len,fun x c hc=>?_⟩;rw [d.gate];exact b.val x c hc
 ·have:M.as.map (fun t=>t.a)=N.as.map (fun t=>t.a):=by
   have:=congrArg (List.map Prod.fst) d.ends;rw [Xf2,Xf2] at this;exact this
  rw [this];exact J
 ·have:M.as.map (fun t=>t.b)=N.as.map (fun t=>t.b):=by
   have:=congrArg (List.map Prod.snd) d.ends;rw [Xf2,Xf2] at this;exact this
  rw [this];exact rt
 obtain ⟨u,a,b⟩:=D.val i G;exact ⟨u,a,by rw [d.starts];exact b⟩
theorem Ziv {p:Xe->Bool} {q:Int × Int->Bool} (h:∀ t,p t=q (t.a,t.b)) {l r:List Xe} (e:l.map (fun t=>(t.a,t.b))=r.map (fun t=>(t.a,t.b))) {n:Nat}:((l.take n).filter p).length=((r.take n).filter p).length:=by
 have hp:p=q∘fun t=>(t.a,t.b):=funext h;have key:∀ l:List Xe,((l.take n).filter p).length=(((l.map fun t=>(t.a,t.b)).take n).filter q).length:=fun l=>by
  rw [<-Xhr,List.filter_map,Xep,hp]
 rw [key,key,e]
theorem Xz.cntB (d:Xz N M) {a n:Nat}:cntB M.as a n=cntB N.as a n:=by
 unfold Rm.cntB;rw [(d.ab a).2];exact Ziv (q:=fun p=>decide (p.2=(Zp N.as a).b)) (fun t=>rfl) d.ends
theorem Xz.cntA (d:Xz N M) {a n:Nat}:cntA M.as a n=cntA N.as a n:=by
 unfold Rm.cntA;rw [(d.ab a).1];exact Ziv (q:=fun p=>decide (p.1=(Zp N.as a).a)) (fun t=>rfl) d.ends
theorem Xz.fr (d:Xz N M) {a:Nat}:Z4 M a=Z4 N a:=by unfold Z4;rw [(d.ab a).1]
theorem Xz.to (d:Xz N M) {a:Nat}:Xl M a=Xl N a:=by unfold Xl;rw [(d.ab a).2]
theorem Xz.turn (d:Xz N M) {a b:Nat} (ht:Xl N a<N.vs.length->Zh7 (Zx N.ts (Zp N.vs (Xl N a)).c.toNat) (Zx M.ts (Zp N.vs (Xl N a)).c.toNat)=true):Xb M a b=Xb N a b:=by
 unfold Xb;rw [d.al];by_cases q:Ye N.as.length (a:Int)=false\/Ye N.as.length (b:Int)=false
 ·rw [if_pos q,if_pos q]
 rw [if_neg q,if_neg q,d.cntB,d.cntA];unfold Zir;simp only [Xeo];rw [(d.ab a).2,(d.ab b).1,d.vs,d.tl];by_cases r:(Zp N.as a).b≠(Zp N.as b).a\/Ye N.vs.length (Zp N.as a).b=false
 ·rw [if_pos r,if_pos r]
 rw [if_neg r,if_neg r];have hv:Ye N.vs.length (Zp N.as a).b=true:=by
  cases e:Ye N.vs.length (Zp N.as a).b with
  | true=>rfl
  | false=>exact absurd (.inr e) r
 simp [Ye] at hv;have:=ht (by unfold Xl;omega);unfold Xl Zh7 at this;simp only [decide_eq_true_eq] at this
 split
 ·rfl
 rw [this.1,this.2.1,this.2.2]
structure Z6r (N M:Zq) (row:Zb) (c:Nat):Prop where
 w:∀ a,a<N.as.length->Zl row (Z4 N a)=c->Zl row (Xl N a)=c->(Zp M.as a).c=(Zp N.as a).c
 t:∀ v,v<N.vs.length->Zl row v=c->Zh7 (Zx N.ts (Zp N.vs v).c.toNat) (Zx M.ts (Zp N.vs v).c.toNat)=true
theorem Z58 (h:Zo3 N M L k c=false):Z6r N M (Zz L k) c:=by
 unfold Zo3 at h;rw [Bool.or_eq_false_iff,Xhv,Xhv] at h;refine ⟨fun a r h1 D=>?_,fun v G h1=>?_⟩
 ·have:=h.1 a (by simpa using r);unfold Z4 Xl at *
  simp [Z8a,h1,D] at this;exact this.symm
 have:=h.2 v (by simpa using G);simpa [Z8m,h1] using this
theorem Z6r.thru (K:Z6r N M (Zz L k) c) (d:Xz N M) {a b:Nat} (I:Zl (Zz L k) (Xl N a)=c) {x:Int}:Zlb M (Zl (Zz L k)) c a b x↔Zlb N (Zl (Zz L k)) c a b x:=by
 have O:∀ u v:Nat,Zl (Zz L k) (Xl N u)=c->Xb M u v=Xb N u v:=fun u v hu=>d.turn (fun X=>K.t _ X hu);have R:∀ v:Nat,Zl (Zz L k) (Z4 N v)=c->Zl (Zz L k) (Xl N v)=c->Yc M v=Yc N v:=fun v h1 r=>by
  unfold Yc;rw [d.al];by_cases q:Ye N.as.length (v:Int)=true
  ·rw [if_pos q,if_pos q];simp [Ye] at q;exact K.w v (by omega) h1 r
  rw [if_neg q,if_neg q]
 have U:∀ u v w,Zl (Zz L k) (Xl N u)=c->(EdC M (Zl (Zz L k)) c u v w↔EdC N (Zl (Zz L k)) c u v w):=fun u v w hu=>by
  unfold EdC EdW;rw [d.fr,d.to,O u v hu];constructor
  ·rintro ⟨⟨h1,r,D⟩,h4,G⟩;rw [R v h4 G] at r D;exact ⟨⟨h1,r,D⟩,h4,G⟩
  rintro ⟨⟨h1,r,D⟩,h4,G⟩;rw [<-R v h4 G] at r D;exact ⟨⟨h1,r,D⟩,h4,G⟩
 have V:∀ u y,Xy (AtI a) (EdC M (Zl (Zz L k)) c) u y↔Xy (AtI a) (EdC N (Zl (Zz L k)) c) u y:=fun u y=>by
  constructor
  ·intro w
   induction w with
   | init h=>exact .init h
   | step w h J=>exact .step J ((U _ _ _ (Zcf J I)).1 h)
  intro w
  induction w with
  | init h=>exact .init h
  | step w h J=>exact .step J ((U _ _ _ (Zcf w I)).2 h)
 constructor
 ·rintro ⟨u,y,h1,r,rfl⟩;have H:=(V u y).1 h1;have hu:=Zcf H I;rw [O u b hu] at r ⊢;exact ⟨u,y,H,r,rfl⟩
 rintro ⟨u,y,h1,r,rfl⟩;have hu:=Zcf h1 I;rw [<-O u b hu] at r ⊢;exact ⟨u,y,(V u y).2 h1,r,rfl⟩
theorem Zb3.kept {C:Zb} (h:Zb3 N L C k c) (K:Z6r N M (Zz L k) c) (d:Xz N M) (H:Xf N.vs.length L) (I:Ym N) (J:k<L.length):Zb3 M L C k c:=by
 intro i o a b r G D hb;rw [d.gate] at r G D hb;rw [d.levelS,d.cellS,d.gate];have O:=((Zaj H I J).1 (Zu.2 ⟨i,r,D⟩)).2.2;exact Zef (fun x=>(K.thru d O).symm) (h i o a b r G D hb)
end
structure Zwi (Y:Sys):Prop where
 A:Z28 Y
 T:Zk6 Y
 Do:Y.Has 341 Y341
def OvR (h:Zk) (S:Zf) (op:Nat) (N:Zq) (L:Za):Prop:=∀ k,Mod S h k->Uz k op N L
theorem OvR.then {h h':Zk} {S S':Zf} {op:Nat} {N:Zq} {L:Za} (v:OvR h S op N L) (m:Mod S h h') (hs:∀ b,S' b->S b\/h.size<=b):OvR h' S' op N L :=
 fun k mk=>v k (m.then mk fun i r h=>by rcases hs i h with q | q;exact q;omega)
theorem U9.modM {h h':Zk} {S:Zf} {s:Sl} {l:List Yt} (r:U9 h s l) (e:Mod S h h') (hs:l≠[]->¬ S s.b):U9 h' s l :=
 ⟨r.ok,r.len,fun i D=>Mod.rd e (r.val i D) (hs (by intro e;rw [e] at D;simp at D))⟩
theorem U9.extM {h h':Zk} {s:Sl} {l:List Yt} (r:U9 h s l) (e:Ext h h'):U9 h' s l:=r.modM e (fun _ h=>h)
section
variable {Y:Sys} {h h':Zk}
def Xco (v0 v1 v2 v3 v7:Value) (cb n tb:Nat) (N M:Zq) (L:Za) (h0:Zk) (e:Zc) (h':Zk):Prop :=
 ∃ (i f:Nat) (C:Zb) (v8 v9 v12 v13 v14 v15 v16 v17 v18 v19 v20 v24 v25 v26 v27 v28 v29 v30:Value),e=[v0,v1,v2,v3,Zi,Zg 0,.nilIface,v7,v8,v9,.slice (some ⟨cb,0,none⟩) n n,Zg f,v12,v13,v14,v15,v16,v17,v18,v19,v20,.slice (some ⟨tb,0,none⟩) L.length L.length,Zg L.length,Zg i,v24,v25,v26,v27,v28,v29,v30]/\i<=L.length/\f<=i * 4096 /\
  Yl h' 1 (Sl.at cb n n) (Zt C)/\C.length=n/\(∀ i,i<C.length->0<=Zl C i/\Zl C i<=Wm)/\(∀ k c,k<i->k<L.length->c<Yh L k->Zb3 M L C k c)/\(∀ k c,i<=k->k<L.length->c<Yh L k->Zb3 N L C k c)/\Ext h0 h'
def Xdc (v0 v1 v2 v3 v7:Value) (cb n tb b i:Nat) (N M:Zq) (L:Za) (h0:Zk) (e:Zc) (h':Zk):Prop :=
 ∃ (c f:Nat) (C:Zb) (v8 v9 v14 v15 v16 v17 v18 v19 v20 v24 v28 v29 v30:Value),e=[v0,v1,v2,v3,Zi,Zg 0,.nilIface,v7,v8,v9,.slice (some ⟨cb,0,none⟩) n n,Zg f,Zg i,.slice (some ⟨b,0,none⟩) (Yh L i) (Yh L i),v14,v15,v16,v17,v18,v19,v20,.slice (some ⟨tb,0,none⟩) L.length L.length,Zg L.length,Zg i,v24,.slice (some ⟨b,0,none⟩) (Yh L i) (Yh L i),Zg (Yh L i),Zg c,v28,v29,v30]/\c<=Yh L i/\f<=i * 4096+c /\
  Yl h' 1 (Sl.at cb n n) (Zt C)/\C.length=n/\(∀ i,i<C.length->0<=Zl C i/\Zl C i<=Wm)/\(∀ k c,k<i->k<L.length->c<Yh L k->Zb3 M L C k c)/\(∀ c',c'<c->Zb3 M L C i c')/\(∀ c',c<=c'->c'<Yh L i->Zb3 N L C i c')/\(∀ k c,i<k->k<L.length->c<Yh L k->Zb3 N L C k c)/\Ext h0 h'
set_option maxHeartbeats 1000000 in
theorem Zx1 (X:Zwi Y) {p op:Nat} {N:Zq} {S:Zf} {L:Za} (g:Xg h p N S) (v:OvR h S op N L) (ok:Ym N) (pk:Xf N.vs.length L) {sc s:Sl} {costs:Zb} {l:List Yt} (rc:Yf h sc costs) (ad:Za7 N L costs) (fc:costs≠[]->¬ S sc.b) (q:U9 h s l) (hS:s.nl=false->¬ S s.b)
  {R:Ze} (aj:∀ h' t w,(Xj N l).2≠0->Ext h h'->R (.tuple #[Zi,Zg 0,.iface t w]) h')
  (hr:∀ h' I C f S',(Xj N l).2=0->Mod S h h'->Xg h' p (Yo N l) S'->(∀ b,S' b->S b\/h.size<=b)->h.size<=I->¬ S' I->Yl h' 1 (Sl.at I (levelS N L L.length) (levelS N L L.length)) (Zt C)->Za7 (Yo N l) L C->R (.tuple #[.slice (some ⟨I,0,none⟩) (levelS N L L.length) (levelS N L L.length),Zg f,.nilIface]) h') :
  Zv Y 341 [Zh p,Zh op,sc.v,s.v] h R:=by
 have bL:=pk.bL;have bS:=Zal ok pk (k:=L.length) (Xel _);have lc:=rc.len;have ak:=ad.len;have v0:=v h (Mod.refl _);have gl:=g.lt;refine .of_has X.Do rfl ?_;simp [Y341,Xn.wp];refine Zcn X.A.O.Ky.A v0 ?_;have e1:sc.n=levelS N L L.length:=by omega
 simp [e1];refine Zp0 X.T g ok v0 pk q ?_ ?_
 ·intro h1 w hb e1 fe;obtain ⟨t,u,hv⟩:=fe.here.iface hb;subst hv;simp;exact aj h1 t u hb e1
 intro h1 up tb bt hz x1 td;simp;refine Zrx X.T.A (g.ext x1) ok (q.extM x1) hS (fun _ _ hb=>absurd hz hb) ?_;intro V S2 _ m2 g2 al;simp [e1];have r:Xz N (Yo N l):=Z6 ok (fun _ hc=>Zbm hz hc);have ae:Ym (Yo N l):=Zbq ok;have am:Mod S h V:=(x1.mono fun _ _ h=>h.elim).trans m2;have v2:OvR V S2 op N L:=v.then am (fun b hb=>by have:=x1.size;rcases al b hb with q | q;exact .inl q;exact .inr (by omega));have af:Xf (Yo N l).vs.length L:=by rw [r.vs];exact pk
 have an:=td.mod m2 (fun j hj=>.inl (gl j hj));have aw:=(rc.ext x1).mod m2 fc;have z1:=x1.size;have z2:=m2.size;refine Zbx (n:=levelS N L L.length) (by omega) rfl ?_;intro I h3 ax o3 e3 aQ;simp;rw [<-Sl.at_v];refine Zhr (o:=0) o3 (aw.ext e3) (by omega) (s2:=Sl.at I (levelS N L L.length) (levelS N L L.length)) (by simp [Sl.at]) ?_;intro h4 o4 m4;have ao:Zej (List.replicate (levelS N L L.length) 0) 0 costs=costs:=by simp [Zej,ak]
 rw [ao] at o4;have ay:Ext V h4:=Mod.toExtF e3 m4 ax;simp;refine Zs (Xco (Zh p) (Zh op) sc.v s.v (.slice (some ⟨tb,0,none⟩) L.length L.length) I (levelS N L L.length) tb N (Yo N l) L V) (fun e _=>L.length-Zy e 23) ⟨0,0,costs,_,_,_,_,_,_,_,_,_,_,_,_,_,_,_,_,_,_,rfl,by omega,by omega,o4,ak,ad.c0,fun k c M=>by omega,fun k c _ M D=>ad.inn k c M D,ay⟩ ?_;rintro e h5 ⟨i,f,C,v8,v9,aR,aS,az,aA,aB,aC,aD,aE,aF,aG,aT,aU,aV,aH,aI,aJ,rfl,hi,hf,oC,lC,pC,dn,un,J⟩;have z5:=J.size;by_cases Z:i<L.length;rotate_left
 ·have:i=L.length:=by omega
  subst this;simp;have ap:¬ S2 I:=fun hb=>by have:=g2.lt I hb;omega
  refine hr h5 I C f S2 hz (am.then J fun _ _ h=>h.elim) (g2.ext J) (fun b hb=>by rcases al b hb with q | q;exact .inl q;exact .inr (by omega)) (by omega) ap oC ⟨by rw [r.levelS];exact lC,pC,fun k c M D=>dn k c M M D⟩
 have aK:(i:Int)<L.length:=by omega
 have wi:=Zj (i:=i) (by omega);have aa:=an.ext J;have bG:=(Xx pk Z).2.2.1;have ac:hc h5 tb i=some (.slice (some ⟨bt i,0,none⟩) (Yh L i) (Yh L i)):=by
  have:=aa.own.cell (i:=i) (v:=(Sl.at (bt i) (Yh L i) (Yh L i)).v) (by simp [Zfo,Z]);simpa using this
 have aL:∀ g,Ys.sem Y g (.idxa 1) [.slice (some ⟨tb,0,none⟩) L.length L.length,Zg i]=some (.pointer (some ⟨tb,i,none⟩)):=fun g=>by
  have:=Vu (Y:=Y) (h:=g) (b:=tb) (sz:=1) (show L.length<=9223372036854775807 by omega) Z (Xel L.length);simpa using this
 simp [aK,aL,ac];have aM:f<=i * 4096+0:=Xfc hf (Nat.le_of_eq (Nat.add_zero (i * 4096)).symm);refine Zs (Xdc (Zh p) (Zh op) sc.v s.v (.slice (some ⟨tb,0,none⟩) L.length L.length) I (levelS N L L.length) tb (bt i) i N (Yo N l) L V) (fun e _=>Yh L i-Zy e 27) ⟨0,f,C,_,_,_,_,_,_,_,_,_,_,_,_,_,rfl,Nat.zero_le _,aM,oC,lC,pC,dn,fun c' h=>by omega,fun c' _ D=>un i c' (Xel _) Z D,fun k c M G D=>un k c (by omega) G D,J⟩ ?_;clear ac aa z5 J un dn pC lC oC hf;rintro e h5 ⟨c,f,C,v8,v9,az,aA,aB,aC,aD,aE,aF,aG,aH,aI,aJ,rfl,aW,hf,oC,lC,pC,dn,dc,uc,un,J⟩;by_cases cc:c<Yh L i;rotate_left
 ·have:c=Yh L i:=by omega
  subst this;simp [wi];refine ⟨⟨i+1,f,C,_,_,_,_,_,_,_,_,_,_,_,_,_,_,_,_,_,_,rfl,by omega,by omega,oC,lC,pC,fun k c M G D=>?_,fun k c M G D=>un k c (by omega) G D,J⟩,by simp [Zy];omega⟩;by_cases q:k=i
  ·subst q;exact dc c D
  exact dn k c (by omega) G D
 have aN:(c:Int)<Yh L i:=by omega
 have wc:=Zj (i:=c) (by omega);have wf:=Zj (i:=f) (by omega);have aa:=an.ext J;have ag:hc h5 (bt i) c=some (.bool (Q3 N L l i c)):=by
  have:=(aa.row i Z).cell (i:=c) (v:=.bool (Q3 N L l i c)) (by simp [Vl,Zfj,cc]);simpa using this
 have D:∀ g,Ys.sem Y g (.idxa 1) [.slice (some ⟨bt i,0,none⟩) (Yh L i) (Yh L i),Zg c]=some (.pointer (some ⟨bt i,c,none⟩)):=fun g=>by
  have:=Vu (Y:=Y) (h:=g) (b:=bt i) (sz:=1) (show Yh L i<=9223372036854775807 by omega) cc (Xel _);simpa using this
 simp [aN,D,ag]
 cases ht:Q3 N L l i c with
 | false =>
  have aq:=ht;rw [Z32 ok hz] at aq;have K:=Z58 aq;simp [wc];refine ⟨⟨c+1,f,C,_,_,_,_,_,_,_,_,_,_,_,_,_,rfl,by omega,by omega,oC,lC,pC,dn,fun c' hc'=>?_,fun c' h1 V=>uc c' (by omega) V,un,J⟩,by simp [Zy];omega⟩;by_cases q:c'=c
  ·subst q;exact (uc c' (Xel _) cc).kept K r pk ok Z
  exact dc c' (by omega)
 | true =>
  have vM:=(v2 h5 (J.mono fun _ _ h=>h.elim)).dim r;have g5:=g2.ext J;have ar:C.length=levelS (Yo N l) L L.length:=by rw [r.levelS];exact lC
  simp [wf,wi];rw [<-Sl.at_v];refine Zm3 X.A.O g5 vM ae af Z cc oC.row64 ar pC (fun j hj c' hc'=>dn j c' (by omega) (by omega) hc') ?_;intro h6 t E e6 ot lE ft hE;have hp:=hE.pos ae af Z lE;have ce:=Zk8 (N:=Yo N l) Z cc;rw [<-ar] at ce;have aO:=oC.ext' e6;simp [wi];refine Zet X.A.O.Ky.A (vM.ext e6) ae af Z cc ?_;intro h7 e7;have ah:=aO.ext' e7;have x7:Ext V h7:=(J.trans e6).trans e7;have H:∀ {N':Zq} {k' c':Nat},Xz N N'->c'<Yh L k'->¬ (i=k'/\c=c')->Zb3 N' L C k' c'->Zb3 N' L (Zej C (levelS N L i+cellS N L i c) E) k' c':=fun {N' k' c'} dd hc' ab h=>by
   have:=h.other (E:=E) (k:=i) (c:=c) (by rw [lE,dd.entN,r.entN]) (by rw [dd.levelS,dd.cellS,dd.entN];rw [r.levelS,r.cellS,r.entN] at ce;exact ce) cc hc' ab;rw [dd.levelS,dd.cellS] at this;exact this
  have au:Zb3 (Yo N l) L (Zej C (levelS N L i+cellS N L i c) E) i c:=by
   have:=Zb3.put hE lE ce;rw [r.levelS,r.cellS] at this;exact this
  rw [r.levelS,r.cellS] at ce;by_cases ab:0<(Zw (Yo N l) L i false c).length/\0<(Zw (Yo N l) L i true c).length
  ·have ai:enV (Yo N l) L i c 0 0=((levelS N L i+cellS N L i c:Nat):Int):=by
    unfold enV;rw [if_pos ⟨by omega,by omega,by omega,by omega⟩,r.levelS,r.cellS];simp
   have h0:(0:Int)<=((levelS N L i+cellS N L i c:Nat):Int):=by omega
   have h1:((levelS N L i+cellS N L i c:Nat):Int)<=((levelS N L L.length:Nat):Int):=by omega
   have aX:levelS N L i+cellS N L i c<=levelS N L L.length:=by omega
   have U:=Zdl (Y:=Y) (h:=h7) (s:=Sl.at I (levelS N L L.length) (levelS N L L.length)) (sz:=1) (k:=.i64) (j:=((levelS N L i+cellS N L i c:Nat):Int)) ah.ok (by omega) (by simp only [Sl.at_n];omega);simp only [Xeo,Xe1,Sl.at_o,Sl.at_n,Sl.at_c,Xfg,Sl.at_v] at U;generalize aP:({ Sl.at I (levelS N L L.length) (levelS N L L.length) with o:=if levelS N L L.length=levelS N L i+cellS N L i c then 0 else levelS N L i+cellS N L i c,n:=levelS N L L.length-(levelS N L i+cellS N L i c),c:=levelS N L L.length-(levelS N L i+cellS N L i c) }:Sl)=s2 at U;simp [ai,h0,h1,U,-Int.natCast_add];refine Zhr ah (ot.row64.ext e7) (o:=levelS N L i+cellS N L i c) (by omega) aP.symm ?_;intro h8 o8 m8;have av:levelS N L i+cellS N L i c+E.length<=C.length:=by omega
   simp [wc,-Int.natCast_add];refine ⟨⟨c+1,f+1,_,_,_,_,_,_,_,_,_,_,_,_,_,_,rfl,by omega,by omega,o8,by rw [Zhf av];exact lC,Zrm av pC hp,fun k c' M G hc'=>H r hc' (by omega) (dn k c' M G hc'),fun c' hc'=>?_,fun c' q1 q2=>H Xz.refl q2 (by omega) (uc c' (by omega) q2),fun k c' M G hc'=>H Xz.refl hc' (by omega) (un k c' M G hc'),Mod.ext x7 m8 (fun j hj=>by omega)⟩,by simp [Zy];omega⟩;by_cases q:c'=c
   ·subst q;exact au
   exact H r (by omega) (by omega) (dc c' (by omega))
  have ai:enV (Yo N l) L i c 0 0 = -1:=by
   unfold enV;rw [if_neg (fun h=>ab ⟨by omega,by omega⟩)]
  simp [ai,wc];refine ⟨⟨c+1,f+1,C,_,_,_,_,_,_,_,_,_,_,_,_,_,rfl,by omega,by omega,ah,lC,pC,dn,fun c' hc'=>?_,fun c' h1 V=>uc c' (by omega) V,un,x7⟩,by simp [Zy];omega⟩;by_cases q:c'=c
  ·subst q;intro i' o' a b aY aZ _ _;exact absurd ⟨by omega,by omega⟩ ab
  exact dc c' (by omega)
end
end Go.Rm
