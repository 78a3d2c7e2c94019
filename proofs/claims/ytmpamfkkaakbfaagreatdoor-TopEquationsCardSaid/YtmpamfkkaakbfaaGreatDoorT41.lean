import Derived.Test.YtmpamfkkaakbfaaGreatDoorT37
import Derived.Test.YtmpamfkkaakbfaaGreatDoorT40
import Derived.Test.YtmpamfkkaakbfaaGreatDoorT02
/- Parts RMend0 RMend1 -/
set_option linter.unusedSimpArgs false
set_option linter.unusedVariables false
namespace Go.Rm
section
variable {N M:Zg} {L:List (List Int)} {k c:Nat}
theorem Z2r {l:List Yp} {i:Nat} (h:i<l.length):l[i]=Zf l i:=by rw [Wj h]
theorem Xq.ends (d:Xq N M):M.as.map (fun t=>(t.a,t.b))=N.as.map (fun t=>(t.a,t.b)):=by
 apply Xem
 ·simp [d.al]
 ·intro i h1 r
  simp only [Xev]
  rw [Z2r,Z2r]
  exact Prod.ext (d.ab i).1 (d.ab i).2
theorem Z10 {p:Yp->Bool} {q:Int × Int->Bool} (h:∀ t,p t=q (t.a,t.b)):∀ {l r:List Yp} {k:Nat},l.map (fun t=>(t.a,t.b))=r.map (fun t=>(t.a,t.b))->Vl p k l=Vl p k r:=by
 intro l
 induction l with
 | nil=>intro r k e; cases r with
  | nil=>rfl
  | cons=>simp at e
 | cons x l G =>
  intro r k e
  cases r with
  | nil=>simp at e
  | cons y r =>
   simp at e
   have D:p x=p y:=by rw [h,h,e.1.1,e.1.2]
   simp only [Vl]
   rw [D,G (by simpa using e.2)]
theorem Xq.gate (d:Xq N M) {x:Bool}:Zn M L k x c=Zn N L k x c:=by
 unfold Zn Zbz
 have e:Uf M L ((k:Int)+1)=Uf N L ((k:Int)+1):=by
  unfold Uf
  exact Z10 (q:=fun p=>Zar (lvl L ((k:Int)+1)) ⟨p.1,p.2,0⟩) (fun t=>rfl) d.ends
 rw [e]
 apply List.filter_congr
 intro a _
 rw [(d.ab a.toNat).1,(d.ab a.toNat).2]
theorem Xq.entN (d:Xq N M):entN M L k c=entN N L k c:=by unfold Rm.entN; rw [d.gate,d.gate]
theorem Xq.cellS (d:Xq N M):∀ {c:Nat},cellS M L k c=cellS N L k c:=by
 intro c
 induction c with
 | zero=>rfl
 | succ c r=>simp only [Rm.cellS]; rw [r,d.entN]
theorem Xq.levelS (d:Xq N M):∀ {k:Nat},levelS M L k=levelS N L k:=by
 intro k
 induction k with
 | zero=>rfl
 | succ k r=>simp only [Rm.levelS]; rw [r,d.cellS]
theorem Xq.starts (d:Xq N M):Z9 M L k=Z9 N L k:=by
 unfold Z9
 apply Xfr
 intro c _
 rw [d.levelS,d.cellS]
theorem Up.dim {h:Za} {op:Nat} (d:Xq N M) (v:Up h op N L):Up h op M L:=by
 obtain ⟨q,f,t,g,H,z,B,I,r,J,rt,D,O⟩:=v
 refine ⟨q,f,t,g,H,z,B,I,⟨r.ok,r.len,fun i G=>?_⟩,?_,?_,⟨D.ok,D.len,fun i G=>?_⟩,by rw [d.levelS]; exact O⟩
 ·obtain ⟨u,a,b⟩:=r.val i G
  refine ⟨u,a,b.ok,b.len,fun x c hc=>?_⟩
  rw [d.gate]
  exact b.val x c hc
 ·have:M.as.map (fun t=>t.a)=N.as.map (fun t=>t.a):=by
   have:=congrArg (List.map Prod.fst) d.ends
   rw [Xfn,Xfn] at this
   exact this
  rw [this]; exact J
 ·have:M.as.map (fun t=>t.b)=N.as.map (fun t=>t.b):=by
   have:=congrArg (List.map Prod.snd) d.ends
   rw [Xfn,Xfn] at this
   exact this
  rw [this]; exact rt
 ·obtain ⟨u,a,b⟩:=D.val i G
  exact ⟨u,a,by rw [d.starts]; exact b⟩
theorem Zik {p:Yp->Bool} {q:Int × Int->Bool} (h:∀ t,p t=q (t.a,t.b)) {l r:List Yp} (e:l.map (fun t=>(t.a,t.b))=r.map (fun t=>(t.a,t.b))) {n:Nat}:((l.take n).filter p).length=((r.take n).filter p).length:=by
 have hp:p=q∘fun t=>(t.a,t.b):=funext h
 have key:∀ l:List Yp,((l.take n).filter p).length=(((l.map fun t=>(t.a,t.b)).take n).filter q).length:=fun l=>by
  rw [<-Xhe,List.filter_map,Xea,hp]
 rw [key,key,e]
theorem Xq.cntB (d:Xq N M) {a n:Nat}:cntB M.as a n=cntB N.as a n:=by
 unfold Rm.cntB
 rw [(d.ab a).2]
 exact Zik (q:=fun p=>decide (p.2=(Zf N.as a).b)) (fun t=>rfl) d.ends
theorem Xq.cntA (d:Xq N M) {a n:Nat}:cntA M.as a n=cntA N.as a n:=by
 unfold Rm.cntA
 rw [(d.ab a).1]
 exact Zik (q:=fun p=>decide (p.1=(Zf N.as a).a)) (fun t=>rfl) d.ends
theorem Xq.fr (d:Xq N M) {a:Nat}:Z0 M a=Z0 N a:=by unfold Z0; rw [(d.ab a).1]
theorem Xq.to (d:Xq N M) {a:Nat}:Xd M a=Xd N a:=by unfold Xd; rw [(d.ab a).2]
theorem Xq.turn (d:Xq N M) {a b:Nat} (ht:Xd N a<N.vs.length->Zht (Zp N.ts (Zf N.vs (Xd N a)).c.toNat) (Zp M.ts (Zf N.vs (Xd N a)).c.toNat)=true):Ye M a b=Ye N a b:=by
 unfold Ye
 rw [d.al]
 by_cases q:Zt N.as.length (a:Int)=false\/Zt N.as.length (b:Int)=false
 ·rw [if_pos q,if_pos q]
 rw [if_neg q,if_neg q,d.cntB,d.cntA]
 unfold Zeg
 simp only [Xd9]
 rw [(d.ab a).2,(d.ab b).1,d.vs,d.tl]
 by_cases r:(Zf N.as a).b≠(Zf N.as b).a\/Zt N.vs.length (Zf N.as a).b=false
 ·rw [if_pos r,if_pos r]
 rw [if_neg r,if_neg r]
 have hv:Zt N.vs.length (Zf N.as a).b=true:=by
  cases e:Zt N.vs.length (Zf N.as a).b with
  | true=>rfl
  | false=>exact absurd (.inr e) r
 simp [Zt] at hv
 have:=ht (by unfold Xd; omega)
 unfold Xd Zht at this
 simp only [decide_eq_true_eq] at this
 split
 ·rfl
 ·rw [this.1,this.2.1,this.2.2]
structure Z6d (N M:Zg) (row:List Int) (c:Nat):Prop where
 w:∀ a,a<N.as.length->Zc row (Z0 N a)=c->Zc row (Xd N a)=c->(Zf M.as a).c=(Zf N.as a).c
 t:∀ v,v<N.vs.length->Zc row v=c->Zht (Zp N.ts (Zf N.vs v).c.toNat) (Zp M.ts (Zf N.vs v).c.toNat)=true
theorem Z5u (h:Zoo N M L k c=false):Z6d N M (Zq L k) c:=by
 unfold Zoo at h
 rw [Bool.or_eq_false_iff,Xhh,Xhh] at h
 refine ⟨fun a r h1 D=>?_,fun v G h1=>?_⟩
 ·have:=h.1 a (by simpa using r)
  unfold Z0 Xd at *
  simp [Z7t,h1,D] at this
  exact this.symm
 ·have:=h.2 v (by simpa using G)
  simpa [Z74,h1] using this
theorem Z6d.thru (K:Z6d N M (Zq L k) c) (d:Xq N M) {a b:Nat} (I:Zc (Zq L k) (Xd N a)=c) {x:Int}:Zk1 M (Zc (Zq L k)) c a b x↔Zk1 N (Zc (Zq L k)) c a b x:=by
 have O:∀ u v:Nat,Zc (Zq L k) (Xd N u)=c->Ye M u v=Ye N u v:=fun u v hu=>d.turn (fun X=>K.t _ X hu)
 have R:∀ v:Nat,Zc (Zq L k) (Z0 N v)=c->Zc (Zq L k) (Xd N v)=c->Zl M v=Zl N v:=fun v h1 r=>by
  unfold Zl
  rw [d.al]
  by_cases q:Zt N.as.length (v:Int)=true
  ·rw [if_pos q,if_pos q]
   simp [Zt] at q
   exact K.w v (by omega) h1 r
  ·rw [if_neg q,if_neg q]
 have U:∀ u v w,Zc (Zq L k) (Xd N u)=c->(EdC M (Zc (Zq L k)) c u v w↔EdC N (Zc (Zq L k)) c u v w):=fun u v w hu=>by
  unfold EdC EdW
  rw [d.fr,d.to,O u v hu]
  constructor
  ·rintro ⟨⟨h1,r,D⟩,h4,G⟩
   rw [R v h4 G] at r D
   exact ⟨⟨h1,r,D⟩,h4,G⟩
  ·rintro ⟨⟨h1,r,D⟩,h4,G⟩
   rw [<-R v h4 G] at r D
   exact ⟨⟨h1,r,D⟩,h4,G⟩
 have V:∀ u y,Xk (AtI a) (EdC M (Zc (Zq L k)) c) u y↔Xk (AtI a) (EdC N (Zc (Zq L k)) c) u y:=fun u y=>by
  constructor
  ·intro w
   induction w with
   | init h=>exact .init h
   | step w h J=>exact .step J ((U _ _ _ (Zbx J I)).1 h)
  ·intro w
   induction w with
   | init h=>exact .init h
   | step w h J=>exact .step J ((U _ _ _ (Zbx w I)).2 h)
 constructor
 ·rintro ⟨u,y,h1,r,rfl⟩
  have H:=(V u y).1 h1
  have hu:=Zbx H I
  rw [O u b hu] at r ⊢
  exact ⟨u,y,H,r,rfl⟩
 ·rintro ⟨u,y,h1,r,rfl⟩
  have hu:=Zbx h1 I
  rw [<-O u b hu] at r ⊢
  exact ⟨u,y,(V u y).2 h1,r,rfl⟩
theorem Zbl.kept {C:List Int} (h:Zbl N L C k c) (K:Z6d N M (Zq L k) c) (d:Xq N M) (H:Yx N.vs.length L) (I:Yd N) (J:k<L.length):Zbl M L C k c:=by
 intro i o a b r G D hb
 rw [d.gate] at r G D hb
 rw [d.levelS,d.cellS,d.gate]
 have O:=((X5 H I J).1 (Zk.2 ⟨i,r,D⟩)).2.2
 exact Zdy (fun x=>(K.thru d O).symm) (h i o a b r G D hb)
end
structure Zwc (Y:Sys):Prop where
 A:Z2u Y
 T:Zkw Y
 Do:Y.Has 341 Y341
def OvR (h:Za) (S:Nat->Prop) (op:Nat) (N:Zg) (L:List (List Int)):Prop:=∀ k,Mod S h k->Up k op N L
theorem OvR.then {h h':Za} {S S':Nat->Prop} {op:Nat} {N:Zg} {L:List (List Int)} (v:OvR h S op N L) (m:Mod S h h') (hs:∀ b,S' b->S b\/h.size<=b):OvR h' S' op N L :=
 fun k mk=>v k (m.then mk fun i r h=>by rcases hs i h with q | q; exact q; omega)
theorem Zbt.modM {h h':Za} {S:Nat->Prop} {s:Sl} {l:List Ym} (r:Zbt h s l) (e:Mod S h h') (hs:l≠[]->¬ S s.b):Zbt h' s l :=
 ⟨r.ok,r.len,fun i D=>Mod.rd e (r.val i D) (hs (by intro e; rw [e] at D; simp at D))⟩
theorem Zbt.extM {h h':Za} {s:Sl} {l:List Ym} (r:Zbt h s l) (e:Ext h h'):Zbt h' s l:=r.modM e (fun _ h=>h)
section
variable {Y:Sys} {h h':Za}
def Xca (v0 v1 v2 v3 v7:Value) (cb n tb:Nat) (N M:Zg) (L:List (List Int)) (h0:Za) (e:List Value) (h':Za):Prop :=
 ∃ (i f:Nat) (C:List Int) (v8 v9 v12 v13 v14 v15 v16 v17 v18 v19 v20 v24 v25 v26 v27 v28 v29 v30:Value),e=[v0,v1,v2,v3,.slice none 0 0,.int .i64 0,.nilIface,v7,v8,v9,.slice (some ⟨cb,0,none⟩) n n,.int .i64 f,v12,v13,v14,v15,v16,v17,v18,v19,v20,.slice (some ⟨tb,0,none⟩) L.length L.length,.int .i64 L.length,.int .i64 i,v24,v25,v26,v27,v28,v29,v30]/\i<=L.length/\f<=i * 4096 /\
  Yb h' 1 (Sl.at cb n n) (Zh C)/\C.length=n/\(∀ i,i<C.length->0<=Zc C i/\Zc C i<=Xr)/\(∀ k c,k<i->k<L.length->c<Zw L k->Zbl M L C k c)/\(∀ k c,i<=k->k<L.length->c<Zw L k->Zbl N L C k c)/\Ext h0 h'
def Xcw (v0 v1 v2 v3 v7:Value) (cb n tb b i:Nat) (N M:Zg) (L:List (List Int)) (h0:Za) (e:List Value) (h':Za):Prop :=
 ∃ (c f:Nat) (C:List Int) (v8 v9 v14 v15 v16 v17 v18 v19 v20 v24 v28 v29 v30:Value),e=[v0,v1,v2,v3,.slice none 0 0,.int .i64 0,.nilIface,v7,v8,v9,.slice (some ⟨cb,0,none⟩) n n,.int .i64 f,.int .i64 i,.slice (some ⟨b,0,none⟩) (Zw L i) (Zw L i),v14,v15,v16,v17,v18,v19,v20,.slice (some ⟨tb,0,none⟩) L.length L.length,.int .i64 L.length,.int .i64 i,v24,.slice (some ⟨b,0,none⟩) (Zw L i) (Zw L i),.int .i64 (Zw L i),.int .i64 c,v28,v29,v30]/\c<=Zw L i/\f<=i * 4096+c /\
  Yb h' 1 (Sl.at cb n n) (Zh C)/\C.length=n/\(∀ i,i<C.length->0<=Zc C i/\Zc C i<=Xr)/\(∀ k c,k<i->k<L.length->c<Zw L k->Zbl M L C k c)/\(∀ c',c'<c->Zbl M L C i c')/\(∀ c',c<=c'->c'<Zw L i->Zbl N L C i c')/\(∀ k c,i<k->k<L.length->c<Zw L k->Zbl N L C k c)/\Ext h0 h'
set_option maxHeartbeats 1000000 in
theorem Zxt (X:Zwc Y) {p op:Nat} {N:Zg} {S:Nat->Prop} {L:List (List Int)} (g:Yv h p N S) (v:OvR h S op N L) (ok:Yd N) (pk:Yx N.vs.length L) {sc s:Sl} {G:List Int} {l:List Ym} (rc:Zz h sc G) (ad:Zeb N L G) (fc:G≠[]->¬ S sc.b) (q:Zbt h s l) (hS:s.nl=false->¬ S s.b)
  {R:Value->Za->Prop} (aj:∀ h' t w,(Xw N l).2≠0->Ext h h'->R (.tuple #[.slice none 0 0,.int .i64 0,.iface t w]) h')
  (hr:∀ h' M C f S',(Xw N l).2=0->Mod S h h'->Yv h' p (Yu N l) S'->(∀ b,S' b->S b\/h.size<=b)->h.size<=M->¬ S' M->Yb h' 1 (Sl.at M (levelS N L L.length) (levelS N L L.length)) (Zh C)->Zeb (Yu N l) L C->R (.tuple #[.slice (some ⟨M,0,none⟩) (levelS N L L.length) (levelS N L L.length),.int .i64 f,.nilIface]) h') :
  Zm Y 341 [.pointer (some ⟨p,0,none⟩),.pointer (some ⟨op,0,none⟩),sc.v,s.v] h R:=by
 have hI:Xr=1152921504606846976:=rfl
 have bL:=pk.bL
 have bS:=Q2 ok pk (k:=L.length) (Xd6 _)
 have lc:=rc.len
 have ak:=ad.len
 have v0:=v h (Mod.refl _)
 have gl:=g.lt
 refine .of_has X.Do rfl ?_
 simp [Y341,Xa.wp]
 refine Zb6 X.A.O.Ky.A v0 ?_
 have e1:sc.n=levelS N L L.length:=by omega
 simp [e1]
 refine Zpo X.T g ok v0 pk q ?_ ?_
 ·intro h1 w hb e1 fe
  obtain ⟨t,u,hv⟩:=fe.here.iface hb
  subst hv
  simp
  exact aj h1 t u hb e1
 intro h1 up tb bt hz x1 td
 simp
 refine Zrp X.T.A (g.ext x1) ok (q.extM x1) hS (fun _ _ hb=>absurd hz hb) ?_
 intro h2 S2 _ m2 g2 al
 simp [e1]
 have r:Xq N (Yu N l):=Q6 ok (fun _ hc=>Zcl hz hc)
 have ae:Yd (Yu N l):=Za8 ok
 have am:Mod S h h2:=(x1.mono fun _ _ h=>h.elim).trans m2
 have v2:OvR h2 S2 op N L:=v.then am (fun b hb=>by have:=x1.size; rcases al b hb with q | q; exact .inl q; exact .inr (by omega))
 have af:Yx (Yu N l).vs.length L:=by rw [r.vs]; exact pk
 have an:=td.mod m2 (fun j hj=>.inl (gl j hj))
 have aw:=(rc.ext x1).mod m2 fc
 have z1:=x1.size
 have z2:=m2.size
 refine Zbd (n:=levelS N L L.length) (by omega) rfl ?_
 intro M h3 ax o3 e3 aR
 simp
 rw [<-Sl.at_v]
 refine Zhh (o:=0) o3 (aw.ext e3) (by omega) (s2:=Sl.at M (levelS N L L.length) (levelS N L L.length)) (by simp [Sl.at]) ?_
 intro h4 o4 m4
 have ao:Zd3 (List.replicate (levelS N L L.length) 0) 0 G=G:=by simp [Zd3,ak]
 rw [ao] at o4
 have ay:Ext h2 h4:=Mod.toExtF e3 m4 ax
 simp
 refine Zj (Xca (.pointer (some ⟨p,0,none⟩)) (.pointer (some ⟨op,0,none⟩)) sc.v s.v (.slice (some ⟨tb,0,none⟩) L.length L.length) M (levelS N L L.length) tb N (Yu N l) L h2) (fun e _=>L.length-Zo e 23) ⟨0,0,G,_,_,_,_,_,_,_,_,_,_,_,_,_,_,_,_,_,_,rfl,by omega,by omega,o4,ak,ad.c0,fun k c U=>by omega,fun k c _ U D=>ad.inn k c U D,ay⟩ ?_
 rintro e h5 ⟨i,f,C,v8,v9,aS,aT,az,aA,aB,aC,aD,aE,aF,aG,aU,aV,aW,aH,aI,aJ,rfl,hi,hf,oC,lC,pC,dn,un,J⟩
 have z5:=J.size
 by_cases V:i<L.length
 rotate_left
 ·have:i=L.length:=by omega
  subst this
  simp
  have ap:¬ S2 M:=fun hb=>by have:=g2.lt M hb; omega
  refine hr h5 M C f S2 hz (am.then J fun _ _ h=>h.elim) (g2.ext J) (fun b hb=>by rcases al b hb with q | q; exact .inl q; exact .inr (by omega)) (by omega) ap oC ⟨by rw [r.levelS]; exact lC,pC,fun k c U D=>dn k c U U D⟩
 have aK:(i:Int)<L.length:=by omega
 have wi:IntKind.i64.wrap ((i:Int)+1)=(i:Int)+1:=Ze (by omega)
 have aa:=an.ext J
 have bG:=(Xi pk V).2.2.1
 have ac:hc h5 tb i=some (.slice (some ⟨bt i,0,none⟩) (Zw L i) (Zw L i)):=by
  have:=aa.own.cell (i:=i) (v:=(Sl.at (bt i) (Zw L i) (Zw L i)).v) (by simp [Zfd,V])
  simpa using this
 have aL:∀ g,Yg.sem Y g (.idxa 1) [.slice (some ⟨tb,0,none⟩) L.length L.length,.int .i64 i]=some (.pointer (some ⟨tb,i,none⟩)):=fun g=>by
  have:=Vt (Y:=Y) (h:=g) (b:=tb) (sz:=1) (show L.length<=9223372036854775807 by omega) V (Xd6 L.length)
  simpa using this
 simp [aK,V,aL,ac]
 have aM:f<=i * 4096+0:=Xew hf (Nat.le_of_eq (Nat.add_zero (i * 4096)).symm)
 refine Zj (Xcw (.pointer (some ⟨p,0,none⟩)) (.pointer (some ⟨op,0,none⟩)) sc.v s.v (.slice (some ⟨tb,0,none⟩) L.length L.length) M (levelS N L L.length) tb (bt i) i N (Yu N l) L h2) (fun e _=>Zw L i-Zo e 27) ⟨0,f,C,_,_,_,_,_,_,_,_,_,_,_,_,_,rfl,Nat.zero_le _,aM,oC,lC,pC,dn,fun c' h=>by omega,fun c' _ D=>un i c' (Xd6 _) V D,fun k c U H D=>un k c (by omega) H D,J⟩ ?_
 clear ac aa z5 J un dn pC lC oC hf
 rintro e h5 ⟨c,f,C,v8,v9,az,aA,aB,aC,aD,aE,aF,aG,aH,aI,aJ,rfl,aX,hf,oC,lC,pC,dn,dc,uc,un,J⟩
 have z5:=J.size
 by_cases cc:c<Zw L i
 rotate_left
 ·have:c=Zw L i:=by omega
  subst this
  simp [wi]
  refine ⟨⟨i+1,f,C,_,_,_,_,_,_,_,_,_,_,_,_,_,_,_,_,_,_,rfl,by omega,by omega,oC,lC,pC,fun k c U H D=>?_,fun k c U H D=>un k c (by omega) H D,J⟩,by simp [Zo]; omega⟩
  by_cases q:k=i
  ·subst q; exact dc c D
  ·exact dn k c (by omega) H D
 have aN:(c:Int)<Zw L i:=by omega
 have wc:IntKind.i64.wrap ((c:Int)+1)=(c:Int)+1:=Ze (by omega)
 have wf:IntKind.i64.wrap ((f:Int)+1)=(f:Int)+1:=Ze (by omega)
 have aa:=an.ext J
 have ag:hc h5 (bt i) c=some (.bool (V6 N L l i c)):=by
  have:=(aa.row i V).cell (i:=c) (v:=.bool (V6 N L l i c)) (by simp [Va,Ze8,cc])
  simpa using this
 have D:∀ g,Yg.sem Y g (.idxa 1) [.slice (some ⟨bt i,0,none⟩) (Zw L i) (Zw L i),.int .i64 c]=some (.pointer (some ⟨bt i,c,none⟩)):=fun g=>by
  have:=Vt (Y:=Y) (h:=g) (b:=bt i) (sz:=1) (show Zw L i<=9223372036854775807 by omega) cc (Xd6 _)
  simpa using this
 simp [aN,cc,D,ag]
 cases ht:V6 N L l i c with
 | false =>
  have aq:=ht
  rw [Z3o ok hz] at aq
  have K:=Z5u aq
  simp [wc]
  refine ⟨⟨c+1,f,C,_,_,_,_,_,_,_,_,_,_,_,_,_,rfl,by omega,by omega,oC,lC,pC,dn,fun c' hc'=>?_,fun c' h1 h2=>uc c' (by omega) h2,un,J⟩,by simp [Zo]; omega⟩
  by_cases q:c'=c
  ·subst q; exact (uc c' (Xd6 _) cc).kept K r pk ok V
  ·exact dc c' (by omega)
 | true =>
  have vM:=(v2 h5 (J.mono fun _ _ h=>h.elim)).dim r
  have g5:=g2.ext J
  have ar:C.length=levelS (Yu N l) L L.length:=by rw [r.levelS]; exact lC
  simp [wf,wi]
  rw [<-Sl.at_v]
  refine Zmq X.A.O g5 vM ae af V cc oC.row64 ar pC (fun j hj c' hc'=>dn j c' (by omega) (by omega) hc') ?_
  intro h6 t E e6 ot lE ft hE
  have hp:=hE.pos ae af V lE
  have ce:=Zky (N:=Yu N l) V cc
  rw [<-ar] at ce
  have aO:=oC.ext' e6
  simp [wi]
  refine Zb2 X.A.O.Ky.A (vM.ext e6) ae af V cc ?_
  intro h7 e7
  have ah:=aO.ext' e7
  have x7:Ext h2 h7:=(J.trans e6).trans e7
  have I:∀ {N':Zg} {k' c':Nat},Xq N N'->c'<Zw L k'->¬ (i=k'/\c=c')->Zbl N' L C k' c'->Zbl N' L (Zd3 C (levelS N L i+cellS N L i c) E) k' c':=fun {N' k' c'} dd hc' ab h=>by
   have:=h.other (E:=E) (k:=i) (c:=c) (by rw [lE,dd.entN,r.entN]) (by rw [dd.levelS,dd.cellS,dd.entN]; rw [r.levelS,r.cellS,r.entN] at ce; exact ce) cc hc' ab
   rw [dd.levelS,dd.cellS] at this
   exact this
  have au:Zbl (Yu N l) L (Zd3 C (levelS N L i+cellS N L i c) E) i c:=by
   have:=Zbl.put hE lE ce
   rw [r.levelS,r.cellS] at this
   exact this
  rw [r.levelS,r.cellS] at ce
  by_cases ab:0<(Zn (Yu N l) L i false c).length/\0<(Zn (Yu N l) L i true c).length
  ·have ai:enV (Yu N l) L i c 0 0=((levelS N L i+cellS N L i c:Nat):Int):=by
    unfold enV
    rw [if_pos ⟨by omega,by omega,by omega,by omega⟩,r.levelS,r.cellS]
    simp
   have h0:(0:Int)<=((levelS N L i+cellS N L i c:Nat):Int):=by omega
   have h1:((levelS N L i+cellS N L i c:Nat):Int)<=((levelS N L L.length:Nat):Int):=by omega
   have aP:levelS N L i+cellS N L i c<=levelS N L L.length:=by omega
   have Z:=Zc5 (Y:=Y) (h:=h7) (s:=Sl.at M (levelS N L L.length) (levelS N L L.length)) (sz:=1) (k:=.i64) (j:=((levelS N L i+cellS N L i c:Nat):Int)) ah.ok (by omega) (by simp only [Sl.at_n]; omega)
   simp only [Xd9,Xej,Sl.at_o,Sl.at_n,Sl.at_c,Xes,Sl.at_v] at Z
   generalize aQ:({ Sl.at M (levelS N L L.length) (levelS N L L.length) with o:=if levelS N L L.length=levelS N L i+cellS N L i c then 0 else levelS N L i+cellS N L i c,n:=levelS N L L.length-(levelS N L i+cellS N L i c),c:=levelS N L L.length-(levelS N L i+cellS N L i c) }:Sl)=s2 at Z
   simp [ai,h0,h1,aP,Z,-Int.natCast_add]
   refine Zhh ah (ot.row64.ext e7) (o:=levelS N L i+cellS N L i c) (by omega) aQ.symm ?_
   intro h8 o8 m8
   have av:levelS N L i+cellS N L i c+E.length<=C.length:=by omega
   simp [wc,-Int.natCast_add]
   refine ⟨⟨c+1,f+1,_,_,_,_,_,_,_,_,_,_,_,_,_,_,rfl,by omega,by omega,o8,by rw [Zg6 av]; exact lC,Zrd av pC hp,fun k c' U H hc'=>I r hc' (by omega) (dn k c' U H hc'),fun c' hc'=>?_,fun c' q1 q2=>I Xq.refl q2 (by omega) (uc c' (by omega) q2),fun k c' U H hc'=>I Xq.refl hc' (by omega) (un k c' U H hc'),Mod.ext x7 m8 (fun j hj=>by omega)⟩,by simp [Zo]; omega⟩
   by_cases q:c'=c
   ·subst q; exact au
   ·exact I r (by omega) (by omega) (dc c' (by omega))
  ·have ai:enV (Yu N l) L i c 0 0 = -1:=by
    unfold enV
    rw [if_neg (fun h=>ab ⟨by omega,by omega⟩)]
   simp [ai,wc]
   refine ⟨⟨c+1,f+1,C,_,_,_,_,_,_,_,_,_,_,_,_,_,rfl,by omega,by omega,ah,lC,pC,dn,fun c' hc'=>?_,fun c' h1 h2=>uc c' (by omega) h2,un,x7⟩,by simp [Zo]; omega⟩
   by_cases q:c'=c
   ·subst q
    intro i' o' a b aY aZ _ _
    exact absurd ⟨by omega,by omega⟩ ab
   ·exact dc c' (by omega)
end
end Go.Rm
