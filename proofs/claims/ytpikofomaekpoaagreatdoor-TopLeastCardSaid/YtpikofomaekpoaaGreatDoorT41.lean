import Derived.Test.YtpikofomaekpoaaGreatDoorT35
import Derived.Test.YtpikofomaekpoaaGreatDoorT40
/- Parts. -/
set_option linter.unusedSimpArgs false
set_option linter.unusedVariables false
namespace Go.Rm
section
variable {N M:Zr} {L:Za} {k c:Nat}
theorem Z4i {l:List Xe} {i:Nat} (h:i<l.length):l[i]=Zp l i:=by rw [Wy h]
theorem Wb.ends (d:Wb N M):M.as.map (fun t=>(t.a,t.b))=N.as.map (fun t=>(t.a,t.b)):=by
 apply Xgb
 ·simp [d.al]
 intro i h1 r;simp only [Xgo];rw [Z4i,Z4i];exact Prod.ext (d.ab i).1 (d.ab i).2
theorem Z3s {p:Xe->Bool} {q:Int × Int->Bool} (h:∀ t,p t=q (t.a,t.b)):∀ {l r:List Xe} {k:Nat},l.map (fun t=>(t.a,t.b))=r.map (fun t=>(t.a,t.b))->Ud p k l=Ud p k r:=by
 intro l
 induction l with
 | nil=>intro r k e;cases r with
  | nil=>rfl
  | cons=>simp at e
 | cons x l ih =>
  intro r k e
  cases r with
  | nil=>simp at e
  | cons y r =>
   simp at e;have D:p x=p y:=by rw [h,h,e.1.1,e.1.2]
   simp only [Ud];rw [D,ih (by simpa using e.2)]
theorem Wb.gate (d:Wb N M) {x:Bool}:Zx M L k x c=Zx N L k x c:=by
 unfold Zx Zcr;have e:Uv M L ((k:Int)+1)=Uv N L ((k:Int)+1):=by
  unfold Uv;exact Z3s (q:=fun p=>Zbg (lvl L ((k:Int)+1)) ⟨p.1,p.2,0⟩) (fun t=>rfl) d.ends
 rw [e];apply List.filter_congr;intro a _;rw [(d.ab a.toNat).1,(d.ab a.toNat).2]
theorem Wb.entN (d:Wb N M):entN M L k c=entN N L k c:=by unfold Rm.entN;rw [d.gate,d.gate]
theorem Wb.cellS (d:Wb N M):∀ {c:Nat},cellS M L k c=cellS N L k c:=by
 intro c
 induction c with
 | zero=>rfl
 | succ c ih=>simp only [Rm.cellS];rw [ih,d.entN]
theorem Wb.levelS (d:Wb N M):∀ {k:Nat},levelS M L k=levelS N L k:=by
 intro k
 induction k with
 | zero=>rfl
 | succ k ih=>simp only [Rm.levelS];rw [ih,d.cellS]
theorem Wb.starts (d:Wb N M):V8 M L k=V8 N L k:=by
 unfold V8;apply Xho;intro c _;rw [d.levelS,d.cellS]
theorem Vw.dim {h:Zk} {op:Nat} (d:Wb N M) (v:Vw h op N L):Vw h op M L:=by
 obtain ⟨q,f,t,g,H,z,B,I,r,J,rt,D,O⟩:=v;refine ⟨q,f,t,g,H,z,B,I,⟨r.ok,r.len,fun i G=>?_⟩,?_,?_,⟨D.ok,D.len,fun i G=>?_⟩,by rw [d.levelS];exact O⟩
 ·obtain ⟨u,a,b⟩:=r.val i G;refine ⟨u,a,b.ok,b.len,fun x c hc=>?_⟩;rw [d.gate];exact b.val x c hc
 ·have:M.as.map (fun t=>t.a)=N.as.map (fun t=>t.a):=by
   have:=congrArg (List.map Prod.fst) d.ends;rw [Xhh,Xhh] at this;exact this
  rw [this];exact J
 ·have:M.as.map (fun t=>t.b)=N.as.map (fun t=>t.b):=by
   have:=congrArg (List.map Prod.snd) d.ends;rw [Xhh,Xhh] at this;exact this
  rw [this];exact rt
 obtain ⟨u,a,b⟩:=D.val i G;exact ⟨u,a,by rw [d.starts];exact b⟩
theorem Zju {p:Xe->Bool} {q:Int × Int->Bool} (h:∀ t,p t=q (t.a,t.b)) {l r:List Xe} (e:l.map (fun t=>(t.a,t.b))=r.map (fun t=>(t.a,t.b))) {n:Nat}:((l.take n).filter p).length=((r.take n).filter p).length:=by
 have hp:p=q∘fun t=>(t.a,t.b):=funext h;have key:∀ l:List Xe,((l.take n).filter p).length=(((l.map fun t=>(t.a,t.b)).take n).filter q).length:=fun l=>by
  rw [<-Xi6,List.filter_map,Xf2,hp]
 rw [key,key,e]
theorem Wb.cntB (d:Wb N M) {a n:Nat}:cntB M.as a n=cntB N.as a n:=by
 unfold Rm.cntB;rw [(d.ab a).2];exact Zju (q:=fun p=>decide (p.2=(Zp N.as a).b)) (fun t=>rfl) d.ends
theorem Wb.cntA (d:Wb N M) {a n:Nat}:cntA M.as a n=cntA N.as a n:=by
 unfold Rm.cntA;rw [(d.ab a).1];exact Zju (q:=fun p=>decide (p.1=(Zp N.as a).a)) (fun t=>rfl) d.ends
theorem Wb.fr (d:Wb N M) {a:Nat}:Qe M a=Qe N a:=by unfold Qe;rw [(d.ab a).1]
theorem Wb.to (d:Wb N M) {a:Nat}:Xd M a=Xd N a:=by unfold Xd;rw [(d.ab a).2]
theorem Wb.turn (d:Wb N M) {a b:Nat} (ht:Xd N a<N.vs.length->Zi2 (Zz N.ts (Zp N.vs (Xd N a)).c.toNat) (Zz M.ts (Zp N.vs (Xd N a)).c.toNat)=true):Yr M a b=Yr N a b:=by
 unfold Yr;rw [d.al];by_cases q:Yf N.as.length (a:Int)=false\/Yf N.as.length (b:Int)=false
 ·rw [if_pos q,if_pos q]
 rw [if_neg q,if_neg q,d.cntB,d.cntA];unfold Ze8;simp only [Xf1];rw [(d.ab a).2,(d.ab b).1,d.vs,d.tl];by_cases r:(Zp N.as a).b≠(Zp N.as b).a\/Yf N.vs.length (Zp N.as a).b=false
 ·rw [if_pos r,if_pos r]
 rw [if_neg r,if_neg r];have hv:Yf N.vs.length (Zp N.as a).b=true:=by
  cases e:Yf N.vs.length (Zp N.as a).b with
  | true=>rfl
  | false=>exact absurd (.inr e) r
 simp [Yf] at hv;have:=ht (by unfold Xd;omega);unfold Xd Zi2 at this;simp only [decide_eq_true_eq] at this
 split
 ·rfl
 rw [this.1,this.2.1,this.2.2]
structure Z77 (N M:Zr) (row:Zb) (c:Nat):Prop where
 w:∀ a,a<N.as.length->Zl row (Qe N a)=c->Zl row (Xd N a)=c->(Zp M.as a).c=(Zp N.as a).c
 t:∀ v,v<N.vs.length->Zl row v=c->Zi2 (Zz N.ts (Zp N.vs v).c.toNat) (Zz M.ts (Zp N.vs v).c.toNat)=true
theorem Z7m (h:Zqa N M L k c=false):Z77 N M (Ya L k) c:=by
 unfold Zqa at h;rw [Bool.or_eq_false_iff,Xjb,Xjb] at h;refine ⟨fun a r h1 D=>?_,fun v lv h1=>?_⟩
 ·have:=h.1 a (by simpa using r);unfold Qe Xd at *
  simp [Z9p,h1,D] at this;exact this.symm
 have:=h.2 v (by simpa using lv);simpa [Z90,h1] using this
theorem Z77.thru (K:Z77 N M (Ya L k) c) (d:Wb N M) {a b:Nat} (I:Zl (Ya L k) (Xd N a)=c) {x:Int}:Zmf M (Zl (Ya L k)) c a b x↔Zmf N (Zl (Ya L k)) c a b x:=by
 have J:∀ u v:Nat,Zl (Ya L k) (Xd N u)=c->Yr M u v=Yr N u v:=fun u v hu=>d.turn (fun V=>K.t _ V hu);have O:∀ v:Nat,Zl (Ya L k) (Qe N v)=c->Zl (Ya L k) (Xd N v)=c->Zu M v=Zu N v:=fun v h1 r=>by
  unfold Zu;rw [d.al];by_cases q:Yf N.as.length (v:Int)=true
  ·rw [if_pos q,if_pos q];simp [Yf] at q;exact K.w v (by omega) h1 r
  rw [if_neg q,if_neg q]
 have R:∀ u v w,Zl (Ya L k) (Xd N u)=c->(EdC M (Zl (Ya L k)) c u v w↔EdC N (Zl (Ya L k)) c u v w):=fun u v w hu=>by
  unfold EdC EdW;rw [d.fr,d.to,J u v hu];constructor
  ·rintro ⟨⟨h1,r,D⟩,h4,G⟩;rw [O v h4 G] at r D;exact ⟨⟨h1,r,D⟩,h4,G⟩
  rintro ⟨⟨h1,r,D⟩,h4,G⟩;rw [<-O v h4 G] at r D;exact ⟨⟨h1,r,D⟩,h4,G⟩
 have U:∀ u y,Xg (AtI a) (EdC M (Zl (Ya L k)) c) u y↔Xg (AtI a) (EdC N (Zl (Ya L k)) c) u y:=fun u y=>by
  constructor
  ·intro w
   induction w with
   | init h=>exact .init h
   | step w h ih=>exact .step ih ((R _ _ _ (Zbo ih I)).1 h)
  intro w
  induction w with
  | init h=>exact .init h
  | step w h ih=>exact .step ih ((R _ _ _ (Zbo w I)).2 h)
 constructor
 ·rintro ⟨u,y,h1,r,rfl⟩;have H:=(U u y).1 h1;have hu:=Zbo H I;rw [J u b hu] at r ⊢;exact ⟨u,y,H,r,rfl⟩
 rintro ⟨u,y,h1,r,rfl⟩;have hu:=Zbo h1 I;rw [<-J u b hu] at r ⊢;exact ⟨u,y,(U u y).2 h1,r,rfl⟩
theorem Zce.kept {C:Zb} (h:Zce N L C k c) (K:Z77 N M (Ya L k) c) (d:Wb N M) (H:Yv N.vs.length L) (I:Yl N) (J:k<L.length):Zce M L C k c:=by
 intro i o a b r G D hb;rw [d.gate] at r G D hb;rw [d.levelS,d.cellS,d.gate];have O:=((Zan H I J).1 (Zw.2 ⟨i,r,D⟩)).2.2;exact Zep (fun x=>(K.thru d O).symm) (h i o a b r G D hb)
end
structure Zx2 (Y:Sys):Prop where
 A:Z4l Y
 T:Zma Y
 Do:Y.Has 341 Y341
def OvR (h:Zk) (S:Zf) (op:Nat) (N:Zr) (L:Za):Prop:=∀ k,Mod S h k->Vw k op N L
theorem OvR.then {h h':Zk} {S S':Zf} {op:Nat} {N:Zr} {L:Za} (v:OvR h S op N L) (m:Mod S h h') (hs:∀ b,S' b->S b\/h.size<=b):OvR h' S' op N L :=
 fun k mk=>v k (m.then mk fun i r h=>by rcases hs i h with q | q;exact q;omega)
theorem Zcm.modM {h h':Zk} {S:Zf} {s:Sl} {l:List Yz} (r:Zcm h s l) (e:Mod S h h') (hs:l≠[]->¬ S s.b):Zcm h' s l :=
 ⟨r.ok,r.len,fun i D=>Mod.rd e (r.val i D) (hs (by intro e;rw [e] at D;simp at D))⟩
theorem Zcm.extM {h h':Zk} {s:Sl} {l:List Yz} (r:Zcm h s l) (e:Ext h h'):Zcm h' s l:=r.modM e (fun _ h=>h)
section
variable {Y:Sys} {h h':Zk}
def Xd3 (v0 v1 v2 v3 v7:Value) (cb n tb:Nat) (N M:Zr) (L:Za) (h0:Zk) (e:Zc) (h':Zk):Prop :=
 ∃ (i f:Nat) (C:Zb) (v8 v9 v12 v13 v14 v15 v16 v17 v18 v19 v20 v24 v25 v26 v27 v28 v29 v30:Value),e=[v0,v1,v2,v3,Zi,Zg 0,.nilIface,v7,v8,v9,.slice (some ⟨cb,0,none⟩) n n,Zg f,v12,v13,v14,v15,v16,v17,v18,v19,v20,.slice (some ⟨tb,0,none⟩) L.length L.length,Zg L.length,Zg i,v24,v25,v26,v27,v28,v29,v30]/\i<=L.length/\f<=i * 4096 /\
  Ym h' 1 (Sl.at cb n n) (Zq C)/\C.length=n/\(∀ i,i<C.length->0<=Zl C i/\Zl C i<=Xq)/\(∀ k c,k<i->k<L.length->c<Yi L k->Zce M L C k c)/\(∀ k c,i<=k->k<L.length->c<Yi L k->Zce N L C k c)/\Ext h0 h'
def Xeo (v0 v1 v2 v3 v7:Value) (cb n tb b i:Nat) (N M:Zr) (L:Za) (h0:Zk) (e:Zc) (h':Zk):Prop :=
 ∃ (c f:Nat) (C:Zb) (v8 v9 v14 v15 v16 v17 v18 v19 v20 v24 v28 v29 v30:Value),e=[v0,v1,v2,v3,Zi,Zg 0,.nilIface,v7,v8,v9,.slice (some ⟨cb,0,none⟩) n n,Zg f,Zg i,.slice (some ⟨b,0,none⟩) (Yi L i) (Yi L i),v14,v15,v16,v17,v18,v19,v20,.slice (some ⟨tb,0,none⟩) L.length L.length,Zg L.length,Zg i,v24,.slice (some ⟨b,0,none⟩) (Yi L i) (Yi L i),Zg (Yi L i),Zg c,v28,v29,v30]/\c<=Yi L i/\f<=i * 4096+c /\
  Ym h' 1 (Sl.at cb n n) (Zq C)/\C.length=n/\(∀ i,i<C.length->0<=Zl C i/\Zl C i<=Xq)/\(∀ k c,k<i->k<L.length->c<Yi L k->Zce M L C k c)/\(∀ c',c'<c->Zce M L C i c')/\(∀ c',c<=c'->c'<Yi L i->Zce N L C i c')/\(∀ k c,i<k->k<L.length->c<Yi L k->Zce N L C k c)/\Ext h0 h'
set_option maxHeartbeats 1000000 in
theorem Zzm (X:Zx2 Y) {p op:Nat} {N:Zr} {S:Zf} {L:Za} (g:Xc h p N S) (v:OvR h S op N L) (ok:Yl N) (pk:Yv N.vs.length L) {sc s:Sl} {costs:Zb} {l:List Yz} (rc:Yd h sc costs) (ad:Zbf N L costs) (fc:costs≠[]->¬ S sc.b) (q:Zcm h s l) (hS:s.nl=false->¬ S s.b)
  {R:Ze} (aj:∀ h' t w,(Wj N l).2≠0->Ext h h'->R (.tuple #[Zi,Zg 0,.iface t w]) h')
  (hr:∀ h' I C f S',(Wj N l).2=0->Mod S h h'->Xc h' p (Xk N l) S'->(∀ b,S' b->S b\/h.size<=b)->h.size<=I->¬ S' I->Ym h' 1 (Sl.at I (levelS N L L.length) (levelS N L L.length)) (Zq C)->Zbf (Xk N l) L C->R (.tuple #[.slice (some ⟨I,0,none⟩) (levelS N L L.length) (levelS N L L.length),Zg f,.nilIface]) h') :
  Zv Y 341 [Zh p,Zh op,sc.v,s.v] h R:=by
 have bL:=pk.bL;have bS:=Zar ok pk (k:=L.length) (Xfy _);have lc:=rc.len;have ak:=ad.len;have v0:=v h (Mod.refl _);have gl:=g.lt;refine .of_has X.Do rfl ?_;simp [Y341,Xm.wp];refine Zcy X.A.O.Ky.A v0 ?_;have e1:sc.n=levelS N L L.length:=by omega
 simp [e1];refine Zq8 X.T g ok v0 pk q ?_ ?_
 ·intro h1 w hb e1 fe;obtain ⟨t,u,hv⟩:=fe.here.iface hb;subst hv;simp;exact aj h1 t u hb e1
 intro h1 up tb bt hz x1 td;simp;refine Zta X.T.A (g.ext x1) ok (q.extM x1) hS (fun _ _ hb=>absurd hz hb) ?_;intro V S2 _ m2 g2 al;simp [e1];have r:Wb N (Xk N l):=Zau ok (fun _ hc=>Zdb hz hc);have ae:Yl (Xk N l):=Zb3 ok;have am:Mod S h V:=(x1.mono fun _ _ h=>h.elim).trans m2;have v2:OvR V S2 op N L:=v.then am (fun b hb=>by have:=x1.size;rcases al b hb with q | q;exact .inl q;exact .inr (by omega));have af:Yv (Xk N l).vs.length L:=by rw [r.vs];exact pk
 have an:=td.mod m2 (fun j hj=>.inl (gl j hj));have aw:=(rc.ext x1).mod m2 fc;have z1:=x1.size;have z2:=m2.size;refine U1 (n:=levelS N L L.length) (by omega) rfl ?_;intro I h3 ax o3 e3 aQ;simp;rw [<-Sl.at_v];refine Zim (o:=0) o3 (aw.ext e3) (by omega) (s2:=Sl.at I (levelS N L L.length) (levelS N L L.length)) (by simp [Sl.at]) ?_;intro h4 o4 m4;have ao:Zet (List.replicate (levelS N L L.length) 0) 0 costs=costs:=by simp [Zet,ak]
 rw [ao] at o4;have ay:Ext V h4:=Mod.toExtF e3 m4 ax;simp;refine Zt (Xd3 (Zh p) (Zh op) sc.v s.v (.slice (some ⟨tb,0,none⟩) L.length L.length) I (levelS N L L.length) tb N (Xk N l) L V) (fun e _=>L.length-Zy e 23) ⟨0,0,costs,_,_,_,_,_,_,_,_,_,_,_,_,_,_,_,_,_,_,rfl,by omega,by omega,o4,ak,ad.c0,fun k c M=>by omega,fun k c _ M D=>ad.inn k c M D,ay⟩ ?_;rintro e h5 ⟨i,f,C,v8,v9,aR,aS,az,aA,aB,aC,aD,aE,aF,aG,aT,aU,aV,aH,aI,aJ,rfl,hi,hf,oC,lC,pC,dn,un,J⟩;have z5:=J.size;by_cases Z:i<L.length;rotate_left
 ·have:i=L.length:=by omega
  subst this;simp;have ap:¬ S2 I:=fun hb=>by have:=g2.lt I hb;omega
  refine hr h5 I C f S2 hz (am.then J fun _ _ h=>h.elim) (g2.ext J) (fun b hb=>by rcases al b hb with q | q;exact .inl q;exact .inr (by omega)) (by omega) ap oC ⟨by rw [r.levelS];exact lC,pC,fun k c M D=>dn k c M M D⟩
 have aK:(i:Int)<L.length:=by omega
 have wi:=Zj (i:=i) (by omega);have aa:=an.ext J;have bG:=(Xs pk Z).2.2.1;have ac:hc h5 tb i=some (.slice (some ⟨bt i,0,none⟩) (Yi L i) (Yi L i)):=by
  have:=aa.own.cell (i:=i) (v:=(Sl.at (bt i) (Yi L i) (Yi L i)).v) (by simp [Zf6,Z]);simpa using this
 have aL:∀ g,Yo.sem Y g (.idxa 1) [.slice (some ⟨tb,0,none⟩) L.length L.length,Zg i]=some (.pointer (some ⟨tb,i,none⟩)):=fun g=>by
  have:=Vb (Y:=Y) (h:=g) (b:=tb) (sz:=1) (show L.length<=9223372036854775807 by omega) Z (Xfy L.length);simpa using this
 simp [aK,aL,ac];have aM:f<=i * 4096+0:=Xgk hf (Nat.le_of_eq (Nat.add_zero (i * 4096)).symm);refine Zt (Xeo (Zh p) (Zh op) sc.v s.v (.slice (some ⟨tb,0,none⟩) L.length L.length) I (levelS N L L.length) tb (bt i) i N (Xk N l) L V) (fun e _=>Yi L i-Zy e 27) ⟨0,f,C,_,_,_,_,_,_,_,_,_,_,_,_,_,rfl,Nat.zero_le _,aM,oC,lC,pC,dn,fun c' h=>by omega,fun c' _ D=>un i c' (Xfy _) Z D,fun k c M G D=>un k c (by omega) G D,J⟩ ?_;clear ac aa z5 J un dn pC lC oC hf;rintro e h5 ⟨c,f,C,v8,v9,az,aA,aB,aC,aD,aE,aF,aG,aH,aI,aJ,rfl,aW,hf,oC,lC,pC,dn,dc,uc,un,J⟩;by_cases cc:c<Yi L i;rotate_left
 ·have:c=Yi L i:=by omega
  subst this;simp [wi];refine ⟨⟨i+1,f,C,_,_,_,_,_,_,_,_,_,_,_,_,_,_,_,_,_,_,rfl,by omega,by omega,oC,lC,pC,fun k c M G D=>?_,fun k c M G D=>un k c (by omega) G D,J⟩,by simp [Zy];omega⟩;by_cases q:k=i
  ·subst q;exact dc c D
  exact dn k c (by omega) G D
 have aN:(c:Int)<Yi L i:=by omega
 have wc:=Zj (i:=c) (by omega);have wf:=Zj (i:=f) (by omega);have aa:=an.ext J;have ag:hc h5 (bt i) c=some (.bool (Zac N L l i c)):=by
  have:=(aa.row i Z).cell (i:=c) (v:=.bool (Zac N L l i c)) (by simp [Vt,Zf0,cc]);simpa using this
 have D:∀ g,Yo.sem Y g (.idxa 1) [.slice (some ⟨bt i,0,none⟩) (Yi L i) (Yi L i),Zg c]=some (.pointer (some ⟨bt i,c,none⟩)):=fun g=>by
  have:=Vb (Y:=Y) (h:=g) (b:=bt i) (sz:=1) (show Yi L i<=9223372036854775807 by omega) cc (Xfy _);simpa using this
 simp [aN,D,ag]
 cases ht:Zac N L l i c with
 | false =>
  have aq:=ht;rw [Z5f ok hz] at aq;have K:=Z7m aq;simp [wc];refine ⟨⟨c+1,f,C,_,_,_,_,_,_,_,_,_,_,_,_,_,rfl,by omega,by omega,oC,lC,pC,dn,fun c' hc'=>?_,fun c' h1 V=>uc c' (by omega) V,un,J⟩,by simp [Zy];omega⟩;by_cases q:c'=c
  ·subst q;exact (uc c' (Xfy _) cc).kept K r pk ok Z
  exact dc c' (by omega)
 | true =>
  have vM:=(v2 h5 (J.mono fun _ _ h=>h.elim)).dim r;have g5:=g2.ext J;have ar:C.length=levelS (Xk N l) L L.length:=by rw [r.levelS];exact lC
  simp [wf,wi];rw [<-Sl.at_v];refine Zn5 X.A.O g5 vM ae af Z cc oC.row64 ar pC (fun j hj c' hc'=>dn j c' (by omega) (by omega) hc') ?_;intro h6 t E e6 ot lE ft hE;have hp:=hE.pos ae af Z lE;have ce:=Zmc (N:=Xk N l) Z cc;rw [<-ar] at ce;have aO:=oC.ext' e6;simp [wi];refine Zcu X.A.O.Ky.A (vM.ext e6) ae af Z cc ?_;intro h7 e7;have ah:=aO.ext' e7;have x7:Ext V h7:=(J.trans e6).trans e7;have H:∀ {N':Zr} {k' c':Nat},Wb N N'->c'<Yi L k'->¬ (i=k'/\c=c')->Zce N' L C k' c'->Zce N' L (Zet C (levelS N L i+cellS N L i c) E) k' c':=fun {N' k' c'} dd hc' ab h=>by
   have:=h.other (E:=E) (k:=i) (c:=c) (by rw [lE,dd.entN,r.entN]) (by rw [dd.levelS,dd.cellS,dd.entN];rw [r.levelS,r.cellS,r.entN] at ce;exact ce) cc hc' ab;rw [dd.levelS,dd.cellS] at this;exact this
  have au:Zce (Xk N l) L (Zet C (levelS N L i+cellS N L i c) E) i c:=by
   have:=Zce.put hE lE ce;rw [r.levelS,r.cellS] at this;exact this
  rw [r.levelS,r.cellS] at ce;by_cases ab:0<(Zx (Xk N l) L i false c).length/\0<(Zx (Xk N l) L i true c).length
  ·have ai:enV (Xk N l) L i c 0 0=((levelS N L i+cellS N L i c:Nat):Int):=by
    unfold enV;rw [if_pos ⟨by omega,by omega,by omega,by omega⟩,r.levelS,r.cellS];simp
   have h0:(0:Int)<=((levelS N L i+cellS N L i c:Nat):Int):=by omega
   have h1:((levelS N L i+cellS N L i c:Nat):Int)<=((levelS N L L.length:Nat):Int):=by omega
   have aX:levelS N L i+cellS N L i c<=levelS N L L.length:=by omega
   have U:=Zdw (Y:=Y) (h:=h7) (s:=Sl.at I (levelS N L L.length) (levelS N L L.length)) (sz:=1) (k:=.i64) (j:=((levelS N L i+cellS N L i c:Nat):Int)) ah.ok (by omega) (by simp only [Sl.at_n];omega);simp only [Xf1,Xgd,Sl.at_o,Sl.at_n,Sl.at_c,Xgl,Sl.at_v] at U;generalize aP:({ Sl.at I (levelS N L L.length) (levelS N L L.length) with o:=if levelS N L L.length=levelS N L i+cellS N L i c then 0 else levelS N L i+cellS N L i c,n:=levelS N L L.length-(levelS N L i+cellS N L i c),c:=levelS N L L.length-(levelS N L i+cellS N L i c) }:Sl)=s2 at U;simp [ai,h0,h1,U,-Int.natCast_add];refine Zim ah (ot.row64.ext e7) (o:=levelS N L i+cellS N L i c) (by omega) aP.symm ?_;intro h8 o8 m8;have av:levelS N L i+cellS N L i c+E.length<=C.length:=by omega
   simp [wc,-Int.natCast_add];refine ⟨⟨c+1,f+1,_,_,_,_,_,_,_,_,_,_,_,_,_,_,rfl,by omega,by omega,o8,by rw [Zh7 av];exact lC,Zsx av pC hp,fun k c' M G hc'=>H r hc' (by omega) (dn k c' M G hc'),fun c' hc'=>?_,fun c' q1 q2=>H Wb.refl q2 (by omega) (uc c' (by omega) q2),fun k c' M G hc'=>H Wb.refl hc' (by omega) (un k c' M G hc'),Mod.ext x7 m8 (fun j hj=>by omega)⟩,by simp [Zy];omega⟩;by_cases q:c'=c
   ·subst q;exact au
   exact H r (by omega) (by omega) (dc c' (by omega))
  have ai:enV (Xk N l) L i c 0 0 = -1:=by
   unfold enV;rw [if_neg (fun h=>ab ⟨by omega,by omega⟩)]
  simp [ai,wc];refine ⟨⟨c+1,f+1,C,_,_,_,_,_,_,_,_,_,_,_,_,_,rfl,by omega,by omega,ah,lC,pC,dn,fun c' hc'=>?_,fun c' h1 V=>uc c' (by omega) V,un,x7⟩,by simp [Zy];omega⟩;by_cases q:c'=c
  ·subst q;intro i' o' a b aY aZ _ _;exact absurd ⟨by omega,by omega⟩ ab
  exact dc c' (by omega)
end
end Go.Rm
