import Derived.Test.YtmpamfkkaakbfaaGreatDoorT34
import Derived.Test.YtmpamfkkaakbfaaGreatDoorT36
/- Parts RFill8 RFill9 RFill10 RFill11 RFill12 RFill13 -/
set_option linter.unusedSimpArgs false
set_option linter.unusedVariables false
namespace Go.Rm
def Zme (Y:Sys) (B10 B17 B7:Nat):Value:=.func (.func (Y.fid 441)) #[] #[.pointer (some ⟨B10,0,none⟩),.pointer (some ⟨B17,0,none⟩),.pointer (some ⟨B7,0,none⟩)]
section
variable {Y:Sys} {h h':Za}
theorem Zpc {h:Za} {K:Value->Za->Prop} {b o:Nat} {B10 B17 B7:Nat}:Ef.wp h K (.store 1) [.pointer (some ⟨b,o,none⟩),Zme Y B10 B17 B7]=Xg h b o (Zme Y B10 B17 B7) K:=Us rfl
def Ka8 (Bc B7 Br B10 M D B17:Nat) (v0 v1 v2 v3 v4 v5 v11:Value) (s1:Sl) (Ar ins:List Int) (n:Nat) (h0:Za) (e:List Value) (h':Za):Prop :=
 ∃ (i:Nat) (ss:Sl) (v12 v13 v14 v15 v16 v18 v19 v20 v21 v22 v23 v25 v26 v27 v28 v29 v30 v31 v32 v33 v34 v35 v36 v37 v38 v39 v40 v41 v42 v43 v47:Value),
  e=[v0,v1,v2,v3,v4,v5,.pointer (some ⟨Bc,0,none⟩),.pointer (some ⟨B7,0,none⟩),.pointer (some ⟨Br,0,none⟩),.map (some M),.pointer (some ⟨B10,0,none⟩),v11,v12,v13,v14,v15,v16,.pointer (some ⟨B17,0,none⟩),v18,v19,v20,v21,v22,v23,.pointer (some ⟨D,0,none⟩),v25,v26,v27,v28,v29,v30,v31,v32,v33,v34,v35,v36,v37,v38,v39,v40,v41,v42,v43,s1.v,.int .i64 s1.n,.int .i64 i,v47]/\i<=ins.length /\
  Ys h' D #[.int .i64 n,ss.v,.nilFunc]/\Yb h' 1 ss (Zh ((ins.take i).map (Yc 0 Ar)))/\(ss.nl=false->h0.size<=ss.b)/\Mod (fun j=>j=D) h0 h'
theorem Zx1 {Bc B7 Br B10 M B17:Nat} {H s2 I:Sl} {ins Ar:List Int} {v0 v1 v2 v3 v4 v5 aa ab ac ad ae af ag ah ai aj ak al am an ao ap aq ar au av aw ax ay az aA aB aC aD aE aF aG aH aI aJ aK aL:Value}
  (bc:Ys h Bc #[H.v,s2.v]) (r1:Zz h H ins) (aM:Ys h B10 #[I.v]) (mp:Zcf h M (Ww Ar 0)) (br:Ys h Br #[.int .i64 0,.slice none 0 0,.nilFunc]) (aN:∀ e,e∈ins->e∈Ar) (bi:ins.length<=100000) {R:Value->Za->Prop}
  (hr:∀ h' ss,Mod (fun j=>j=Br) h h'->Zz h' ss (ins.map (Yc 0 Ar))->R (.agg #[.int .i64 I.n,ss.v,Zme Y B10 B17 B7]) h') :
  Stmt.wp Y Y398.body.rest.rest.rest.rest.rest.rest.rest (Q5 [.box 8 3 true] R) (fun _ _ _=>False) (Q5 [.box 8 3 true] R)
   [v0,v1,v2,v3,v4,v5,.pointer (some ⟨Bc,0,none⟩),.pointer (some ⟨B7,0,none⟩),.pointer (some ⟨Br,0,none⟩),.map (some M),.pointer (some ⟨B10,0,none⟩),aa,ab,ac,ad,ae,af,.pointer (some ⟨B17,0,none⟩),ag,ah,ai,aj,ak,al,am,an,ao,ap,aq,ar,au,av,aw,ax,ay,az,aA,aB,aC,aD,aE,aF,aG,aH,aI,aJ,aK,aL] h:=by
 have l1:=r1.len
 have aO:∀ g,Yg.sem Y g (.build #[.int .i64 0,.slice none 0 0,.nilFunc] [(0,1),(1,1),(2,1)] [0]) [.int .i64 I.n]=some (.agg #[.int .i64 I.n,.slice none 0 0,.nilFunc]):=fun g=>rfl
 simp [Y398,Stmt.rest,aM.hc,aO]
 refine Zd ?_
 intro D hh gD Dh eh
 replace Dh:Ys hh D #[.int .i64 0,.slice none 0 0,.nilFunc]:=Dh
 have lD:=Dh.lt
 have zh:=eh.size
 simp
 refine Zi (vs:=#[.int .i64 I.n,.slice none 0 0,.nilFunc]) Dh rfl rfl (by intro v hv; simp at hv; rcases hv with rfl | rfl | rfl <;> rfl) ?_
 intro hj Dj mj
 have zj:=mj.size
 have ej:Ext h hj:=Mod.toExtF eh mj gD
 simp [(bc.ext ej).hc]
 refine Zj (Ka8 Bc B7 Br B10 M D B17 v0 v1 v2 v3 v4 v5 aa H Ar ins I.n hj) (fun e _=>ins.length-Zo e 46) ⟨0,Sl.nil,_,_,_,_,_,_,_,_,_,_,_,_,_,_,_,_,_,_,_,_,_,_,_,_,_,_,_,_,_,_,_,rfl,by omega,Dj,Yb.nil,fun h=>(by cases h),Mod.refl _⟩ ?_
 rintro e hk ⟨q,ss,aU,aV,aW,aX,aY,aZ,a0,a1,a2,a3,a4,a5,a6,a7,a8,a9,ba,bb,bd,be,bg,bh,bj,bk,bm,bn,bo,bp,bq,bs,bu,rfl,hq,Dk,os,X,mk⟩
 have aP:=os.1
 simp at aP
 have zk:=mk.size
 by_cases Z:q<ins.length
 ·have J:(q:Int)<H.n:=by omega
  have aQ:q<H.n:=by omega
  have w1:IntKind.i64.wrap ((q:Int)+1)=(q:Int)+1:=Ze (by omega)
  have bv:H.nl=false:=by
   cases aR:H.nl with
   | false=>rfl
   | true=>have:=(r1.ok.nil aR).1; omega
  have bw:=Qg r1 (fun e=>by rw [e] at Z; simp at Z)
  have vv:=((r1.ext ej).mod mk (fun _=>by omega)).val q Z
  have hm:=Zk.2 ⟨q,Z,rfl⟩
  have lM:=mp.lt
  have O:=Zs9 (Y:=Y) ((mp.ext ej).mod mk (by omega)) (x:=Zc ins q) (z:=.int .i64 0)
  rw [X7,if_pos (aN _ hm)] at O
  simp at O
  simp [J,aQ,Zb r1.ok,vv,Dk.hc,O]
  refine Xe rfl ?_
  intro b hl gl Bl el
  simp
  refine Wc rfl (os.ext' el) Bl (by omega) (by omega) ?_
  intro r hm om nm U hs
  have Dm:=U.blk (Dk.ext el) (fun e=>by have:=X e.1; omega)
  simp [Dm.hc]
  refine stB Dm (by simp) ?_
  intro hn Dn mn
  simp at Dn
  have zl:=el.size
  have zm:=U.size
  have on:Yb hn 1 r (Zh ((ins.take (q+1)).map (Yc 0 Ar))):=by
   have:=om.mod mn (fun V e=>by
    rcases hs with ⟨x,y⟩ | ⟨x,y⟩
    ·have:=X (by rw [<-y]; exact V); omega
    ·omega)
   have ht:Zh ((ins.take (q+1)).map (Yc 0 Ar))=Zh ((ins.take q).map (Yc 0 Ar))++[.int .i64 (Yc 0 Ar (Zc ins q))]:=by
    rw [Xel Z,Xe1]
    simp only [Zh,Xe1,Xfi,Xfv]
    rw [show Zc ins q=ins[q] by simp [Zc,Z]]
   rw [ht]
   exact this
  have aS:r.nl=false->hj.size<=r.b:=fun V=>by
   rcases hs with ⟨x,y⟩ | ⟨x,y⟩
   ·have:=X (by rw [<-y]; exact V); omega
   ·omega
  have e1:Mod (fun j=>j=D) hj hn:=by
   refine ⟨by have:=mn.size; omega,fun i hi G=>?_⟩
   rw [mn.get i (by omega) G,U.get i (by omega) (fun e=>by have:=X e.1; omega),el.get i (by omega) (fun h=>h),mk.get i hi G]
  simp [w1]
  exact ⟨⟨q+1,r,_,_,_,_,_,_,_,_,_,_,_,_,_,_,_,_,_,_,_,_,_,_,_,_,_,_,_,_,_,_,_,rfl,by omega,Dn,on,aS,e1⟩,by simp [Zo]; omega⟩
 have J:¬ (q:Int)<H.n:=by omega
 have:q=ins.length:=by omega
 subst this
 have aT:∀ g,Yg.sem Y g (.mkf 441 0) [.pointer (some ⟨B10,0,none⟩),.pointer (some ⟨B17,0,none⟩),.pointer (some ⟨B7,0,none⟩)]=some (Zme Y B10 B17 B7):=fun g=>rfl
 have bx:=br.lt
 simp [J,aT]
 rw [Zpc]
 refine stB Dk (by simp) ?_
 intro hl Dl ml
 simp at Dl
 have zl:=ml.size
 have Brl:=ml.blk (mk.blk (br.ext ej) (by omega)) (by omega)
 simp [Zy Dl]
 refine Zi (vs:=#[.int .i64 I.n,ss.v,Zme Y B10 B17 B7]) Brl rfl rfl (by intro v hv; simp at hv; rcases hv with rfl | rfl | rfl <;> rfl) ?_
 intro hm Bm U
 simp
 refine Yt rfl Bm rfl ?_
 have e2:Mod (fun j=>j=Br) h hm:=by
  refine ⟨by have:=U.size; omega,fun i hi G=>?_⟩
  rw [U.get i (by omega) G,ml.get i (by omega) (by omega),mk.get i (by omega) (by omega),ej.get i (by omega) (fun h=>h)]
 rw [Xef (Xd6 _)] at os
 exact hr hm ss e2 ((os.mod ml (fun hn=>by have:=X hn; omega)).mod U (fun hn=>by have:=X hn; omega)).row64
end
def Xas (x:Yp):Value × Value × Value:=Xm x
section
variable {Y:Sys} {h h':Za}
structure KaP (h0 h:Za) (B17 bl n i:Nat) (P:List (Sl × List Yp)) (f:Nat->List Int) (stp:Int->Yp):Prop where
 lp:P.length=i
 ex:Ext h0 h
 b17:Ys h B17 #[(Sl.at bl n n).v]
 rw:∀ p,p∈P->Z4 h p.1 p.2
 dP:∀ p,p∈P->p.2≠[]->h0.size<=p.1.b/\p.1.b≠bl/\p.1.b≠B17
 row:∀ k,k<i->Zkn P k=(f k).map stp
 lB:h0.size<=B17/\h0.size<=bl/\B17≠bl
theorem KaP.ext {h0:Za} {B17 bl n i:Nat} {P:List (Sl × List Yp)} {f:Nat->List Int} {r:Int->Yp} (k:KaP h0 h B17 bl n i P f r) (e:Ext h h'):KaP h0 h' B17 bl n i P f r :=
 ⟨k.lp,k.ex.trans e,k.b17.ext e,fun p hp=>(k.rw p hp).ext e,k.dP,k.row,k.lB⟩
def Ka4 (Bc B7 Br B10 M B17 bl n:Nat) (v0 v1 v2 v3 v4 v5:Value) (sG:Sl) (f:Nat->List Int) (stp:Int->Yp) (h0:Za) (e:List Value) (h':Za):Prop :=
 ∃ (i:Nat) (P:List (Sl × List Yp)) (v12 v13 v14 v15 v16 v18 v19 v20 v21 v22 v23 v24 v25 v26 v27 v28 v29 v30 v31 v32 v33 v37 v38 v39 v40 v41 v42 v43 v44 v45 v46 v47:Value),
  e=[v0,v1,v2,v3,v4,v5,.pointer (some ⟨Bc,0,none⟩),.pointer (some ⟨B7,0,none⟩),.pointer (some ⟨Br,0,none⟩),.map (some M),.pointer (some ⟨B10,0,none⟩),sG.v,v12,v13,v14,v15,v16,.pointer (some ⟨B17,0,none⟩),v18,v19,v20,v21,v22,v23,v24,v25,v26,v27,v28,v29,v30,v31,v32,v33,sG.v,.int .i64 sG.n,.int .i64 i,v37,v38,v39,v40,v41,v42,v43,v44,v45,v46,v47]/\i<=n /\
  KaP h0 h' B17 bl n i P f stp/\Yb h' 1 (Sl.at bl n n) ((P.map fun p=>p.1.v)++List.replicate (n-i) (.slice none 0 0))
def Ka6 (Bc B7 Br B10 M B17 bl n i:Nat) (v0 v1 v2 v3 v4 v5:Value) (sG b:Sl) (f:Nat->List Int) (stp:Int->Yp) (h0:Za) (e:List Value) (h':Za):Prop :=
 ∃ (j:Nat) (P:List (Sl × List Yp)) (sT:Sl) (v12 v13 v14 v15 v16 v19 v20 v21 v22 v23 v24 v25 v26 v27 v28 v29 v30 v31 v32 v33 v37 v41 v42 v43 v44 v45 v46 v47:Value),
  e=[v0,v1,v2,v3,v4,v5,.pointer (some ⟨Bc,0,none⟩),.pointer (some ⟨B7,0,none⟩),.pointer (some ⟨Br,0,none⟩),.map (some M),.pointer (some ⟨B10,0,none⟩),sG.v,v12,v13,v14,v15,v16,.pointer (some ⟨B17,0,none⟩),.int .i64 i,v19,v20,v21,v22,v23,v24,v25,v26,v27,v28,v29,v30,v31,v32,v33,sG.v,.int .i64 sG.n,.int .i64 i,v37,b.v,.int .i64 b.n,.int .i64 j,v41,v42,v43,v44,v45,v46,v47]/\j<=(f i).length /\
  KaP h0 h' B17 bl n i P f stp/\Yb h' 1 (Sl.at bl n n) ((P.map fun p=>p.1.v)++sT.v::List.replicate (n-i-1) (.slice none 0 0))/\Yb h' 3 sT (Zs ((((f i).take j).map stp).map Xm))/\(sT.nl=false->h0.size<=sT.b/\sT.b≠bl/\sT.b≠B17/\∀ p,p∈P->p.2≠[]->p.1.b≠sT.b)
theorem Zxn {K:Value->Za->Prop} {n:Nat} {m:Int} (G:n<=1000000) (r:m=n) (D:∀ (b:Nat) (h':Za),h.size<=b->Yb h' 1 (Sl.at b n n) (List.replicate n (.slice none 0 0))->Ext h h'->b<h'.size->K (.slice (some ⟨b,0,none⟩) n n) h') :
  Ef.wp h K (.mkslice 1 24 #[.slice none 0 0]) [.int .i64 m,.int .i64 m]:=by
 subst r
 rw [Wx]
 refine ⟨by omega,by omega,by omega,by omega,fun t=>?_⟩
 simp only [Xd9,Xej,Vp]
 exact D h.size _ (Xd6 _) ⟨by simp,.inr ⟨rfl,rfl,rfl,by simp,by simp; omega,_,Ys.new,by simp,by simp⟩⟩ Mod.push (by simp)
structure Z2z (Y:Sys):Prop where
 G:WkG Y
 S:Zrk Y
 K:Ztl Y
 A:Zfk Y
 byKids:Y.Has 398 Y398
 next:Y.Has 441 Y441
set_option maxHeartbeats 2000000 in
theorem Zzk (X:Z2z Y) {p:Nat} {N:Zg} {S:Nat->Prop} (g:Yv h p N S) (ok:Yd N) {Bc B7 Br B10 M n:Nat} {s1 s2 sp O:Sl} {ins outs Ar:List Int} {f:Nat->List Int} {a b:Nat->Sl} {v1 v2 v3 v4 v5 ao ap aq ar au av aw ax ay az aA aB aC aD aE aF aG aH aI aJ aK aL aM aN aO aP aQ aR aS aT aU aV aW aX aY aZ:Value}
  (bc:Ys h Bc #[s1.v,s2.v]) (r1:Zz h s1 ins) (r2:Zz h s2 outs) (a0:Ys h B10 #[sp.v]) (mp:Zcf h M (Ww Ar 0)) (br:Ys h Br #[.int .i64 0,.slice none 0 0,.nilFunc]) (a1:∀ e,e∈ins->e∈Ar) (bi:ins.length<=100000) (bo:outs.length<=100000) (ro:Zbf outs)
  (a2:O.ok) (nG:O.n=n) (bn:n<=4096) (a3:∀ i,i<n->rd h O.b (O.o+i * 2) 2=some [(a i).v,(b i).v]) (a4:∀ i,i<n->Zz h (b i) (f i)) (lf:∀ i,i<n->(f i).length<=16384) (hf:∀ i m,i<n->m∈f i->Yc 0 outs m<0->m∈Ar) {R:Value->Za->Prop}
  (hr:∀ (h':Za) (ss:Sl) (B17:Nat) (sl:Sl),Mod (fun j=>j=Br) h h'->Zz h' ss (ins.map (Yc 0 Ar))->Ys h' B17 #[sl.v]->sl.ok->sl.n=n->(∀ i,i<n->∃ u:Sl,hc h' sl.b (sl.o+i)=some u.v/\Z4 h' u ((f i).map (Xv N outs Ar)))->R (.agg #[.int .i64 sp.n,ss.v,Zme Y B10 B17 B7]) h') :
  Stmt.wp Y Y398.body.rest.rest.rest.rest.rest (Q5 [.box 8 3 true] R) (fun _ _ _=>False) (Q5 [.box 8 3 true] R)
   [.pointer (some ⟨p,0,none⟩),v1,v2,v3,v4,v5,.pointer (some ⟨Bc,0,none⟩),.pointer (some ⟨B7,0,none⟩),.pointer (some ⟨Br,0,none⟩),.map (some M),.pointer (some ⟨B10,0,none⟩),O.v,ao,ap,aq,ar,au,av,aw,ax,ay,az,aA,aB,aC,aD,aE,aF,aG,aH,aI,aJ,aK,aL,aM,aN,aO,aP,aQ,aR,aS,aT,aU,aV,aW,aX,aY,aZ] h:=by
 have hI:Xr=1152921504606846976:=rfl
 have l2:=r2.len
 simp [Y398,Stmt.rest,-Zu]
 refine Zxn (n:=n) (by omega) (by omega) ?_
 intro bl ha bp ol ea bq
 simp [-Zu]
 refine Zd ?_
 intro B17 hb gB Bb eb
 replace Bb:Ys hb B17 #[.slice none 0 0]:=Bb
 have lB:=Bb.lt
 have za:=ea.size
 have zb:=eb.size
 simp [-Zu]
 refine stB Bb (by simp) ?_
 intro hd Bd md
 simp at Bd
 have zd:=md.size
 have xd:Ext h hd:=ea.trans (Mod.toExtF eb md gB)
 have bs:=br.lt
 have a5:=ol.ext' eb |>.mod md (fun _=>by simp only [Sl.at_b]; omega)
 simp [-Zu]
 rw [Zu]
 simp [-Zu]
 rw [Zu]
 simp [-Zu]
 refine Zj (Ka4 Bc B7 Br B10 M B17 bl n (.pointer (some ⟨p,0,none⟩)) v1 v2 v3 v4 v5 O f (Xv N outs Ar) h) (fun e _=>n-Zo e 36) ⟨0,[],_,_,_,_,_,_,_,_,_,_,_,_,_,_,_,_,_,_,_,_,_,_,_,_,_,_,_,_,_,_,_,_,rfl,by omega,⟨rfl,xd,Bd,fun p hp=>by simp at hp,fun p hp=>by simp at hp,fun k hk=>by omega,by omega⟩,by simpa using a5⟩ ?_
 rintro e he ⟨i,P,bu,bv,bw,bx,bz,bA,bB,bC,bD,bE,bF,bG,bH,bJ,bK,bL,bM,bN,bO,bP,bQ,bR,bS,bT,bU,bV,bW,bX,bY,bZ,b0,b1,rfl,hi,H,oL⟩
 have lP:=H.lp
 have zx:=H.ex.size
 by_cases c:i<n
 rotate_left
 ·have c':¬ (i:Int)<O.n:=by omega
  have:i=n:=by omega
  subst this
  simp [c',-Zu]
  rw [Zu]
  refine Zx1 (bc.ext H.ex) (r1.ext H.ex) (a0.ext H.ex) (mp.ext H.ex) (br.ext H.ex) a1 bi ?_
  intro h' ss m' rs
  have lb:=H.lB
  refine hr h' ss B17 (Sl.at bl i i) ((H.ex.mono fun _ _ h=>h.elim).trans m') rs (m'.blk H.b17 (by omega)) ⟨fun h=>(by cases h),Xd6 _,.inl rfl⟩ rfl (fun k hk=>?_)
  obtain ⟨pp,hp,a6,a7⟩:=Zqd (P:=P) (k:=k) (by omega)
  have a8:=oL.mod m' (fun _=>by simp only [Sl.at_b]; omega)
  refine ⟨pp.1,a8.cell (by rw [Xep (by simp; omega),List.getElem?_map,a6]; rfl),?_⟩
  rw [<-H.row k hk,<-a7]
  exact (H.rw pp hp).mod m' (fun I=>by have:=H.dP pp hp I; omega)
 have c':(i:Int)<O.n:=by omega
 have c2:i<O.n:=by omega
 have w1:IntKind.i64.wrap ((i:Int)+1)=(i:Int)+1:=Ze (by omega)
 have ae:=a3 i c
 have b2:O.b<h.size:=by
  refine Xey fun q=>?_
  have:rd h O.b (O.o+i * 2) 2=none:=by
   simp [Rm.rd,hc,Xfw (Nat.not_lt.1 q)]
  rw [this] at ae
  cases ae
 have ac:=Mod.rd H.ex ae (fun h=>h)
 have rb:=a4 i c
 have b3:=rb.len
 have b4:=lf i c
 simp [c',c2,Zb a2,ac]
 refine Zd ?_
 intro D a9 gD Df ef
 replace Df:Ys a9 D #[.slice none 0 0,.slice none 0 0]:=Df
 simp
 refine Zi (vs:=#[(a i).v,(b i).v]) Df rfl rfl (by simp) ?_
 intro hg Dg mg
 have eg:Ext he hg:=Mod.toExtF ef mg gD
 simp [Dg.hc]
 have kg:=H.ext eg
 have og:=oL.ext' eg
 have ad:List.replicate (n-i) (Value.slice none 0 0)=Sl.nil.v::List.replicate (n-i-1) (Value.slice none 0 0):=by
  rw [show n-i=(n-i-1)+1 by omega,Xhg]; rfl
 rw [ad] at og
 refine Zj (Ka6 Bc B7 Br B10 M B17 bl n i (.pointer (some ⟨p,0,none⟩)) v1 v2 v3 v4 v5 O (b i) f (Xv N outs Ar) h) (fun e _=>(f i).length-Zo e 40) ⟨0,P,Sl.nil,_,_,_,_,_,_,_,_,_,_,_,_,_,_,_,_,_,_,_,_,_,_,_,_,_,_,_,_,rfl,by omega,kg,og,Yb.nil,fun h=>(by cases h)⟩ ?_
 clear og kg mg Dg ef Df gD ac lP zx ad eg oL H hi
 clear P
 rintro e hh ⟨j,P,U,b5,b6,b7,b8,b9,ca,cb,cc,cd,cf,cg,ch,ci,ck,cl,cm,cn,co,cp,cq,cr,ct,cu,cv,cw,cy,cz,cA,rfl,hj,H,oL,oT,V⟩
 have lP:=H.lp
 have zx:=H.ex.size
 have lB:=H.lB
 have ba:=rb.ext H.ex
 by_cases cj:j<(f i).length
 rotate_left
 ·have af:¬ (j:Int)<(b i).n:=by omega
  rw [Xef (by omega)] at oT
  have rT:=oT.row3
  have bb:(f i).map (Xv N outs Ar)≠[]->U.nl=false:=fun I=>by
   cases bd:U.nl with
   | false=>rfl
   | true =>
    have:=(oT.ok.nil bd).1
    have:=rT.len
    exact absurd (List.length_eq_zero_iff.1 (by omega)) I
  simp [af,w1]
  refine ⟨⟨i+1,P++[(U,(f i).map (Xv N outs Ar))],_,_,_,_,_,_,_,_,_,_,_,_,_,_,_,_,_,_,_,_,_,_,_,_,_,_,_,_,_,_,_,_,rfl,by omega,⟨by simp [lP],H.ex,H.b17,fun q hq=>?_,fun q hq I=>?_,fun k hk=>?_,lB⟩,?_⟩,by simp [Zo]; omega⟩
  ·rcases List.mem_append.1 hq with w | w
   ·exact H.rw q w
   ·simp at w; subst w; exact rT
  ·rcases List.mem_append.1 hq with w | w
   ·exact H.dP q w I
   ·simp at w; subst w
    have:=V (bb I)
    exact ⟨this.1,this.2.1,this.2.2.1⟩
  ·rcases Xd8 k i with w | w
   ·rw [Zmo (by omega)]; exact H.row k w
   ·have:k=P.length:=by omega
    rw [this,Zmb,lP]
  ·have:n-(i+1)=n-i-1:=by omega
   rw [this]
   simpa using oL
 have af:(j:Int)<(b i).n:=by omega
 have be:j<(b i).n:=by omega
 have wj:IntKind.i64.wrap ((j:Int)+1)=(j:Int)+1:=Ze (by omega)
 have vm:=ba.val j cj
 have an:=Zk.2 ⟨j,cj,rfl⟩
 generalize hm:Zc (f i) j=m at vm an
 have ht:((f i).take (j+1)).map (Xv N outs Ar)=((f i).take j).map (Xv N outs Ar)++[Xv N outs Ar m]:=by
  rw [Xel cj,Xe1,<-hm]; simp [Zc,cj]
 have nT:=oT.n3
 simp at nT
 simp [af,be,Zb rb.ok,vm,(bc.ext H.ex).hc]
 refine Zax X.S (r2.ext H.ex) (by omega) ro ?_
 have bg:∀ g (x:Int),Yg.sem Y g (.build #[.int .i64 0,.int .i64 0,.int .i64 0] [(0,1),(1,1),(2,1)] [1]) [.int .i64 x]=some (.agg #[.int .i64 0,.int .i64 x,.int .i64 0]):=fun g x=>rfl
 simp [bg]
 refine Zd ?_
 intro E hk gE Ek ek
 replace Ek:Ys hk E #[.int .i64 0,.int .i64 0,.int .i64 0]:=Ek
 have lE:=Ek.lt
 simp
 refine Zi (vs:=#[.int .i64 0,.int .i64 (Yc 0 outs m),.int .i64 0]) Ek rfl rfl (by simp) ?_
 intro hl El ml
 have el:Ext hh hl:=Mod.toExtF ek ml gE
 simp [El.hc]
 by_cases d:Yc 0 outs m<0
 ·have bh:=hf i m c an d
  have bj:Yc 0 outs m = -1:=Zbh (fun h=>by have:=Qb (a:=m) (l:=outs) (k:=0); have:=this.2 h; omega)
  have ag:=Zlz (Y:=Y) ((mp.ext H.ex).ext el) (x:=m) (z:=.int .i64 0)
  rw [X7,if_pos bh] at ag
  simp at ag
  have xl:=H.ex.trans el
  simp [d,ag]
  refine U0 X.G.Weight X.G.arc (g.ext xl) ?_
  simp
  refine stB El (by simp) ?_
  intro cB E2 m2
  simp at E2
  simp
  refine stB E2 (by simp) ?_
  intro bk E3 m3
  simp at E3
  have x1:Ext hh bk:=Mod.toExtF ek (ml.trans (m2.trans m3)) gE
  have hst:Xas (Xv N outs Ar m)=(.int .i64 (Yc 0 Ar m),.int .i64 (Yc 0 outs m),.int .i64 (Zl N m)):=by unfold Xv; rw [if_pos d,bj]; rfl
  have kx:=H.ext x1
  have ox:=oL.ext' x1
  have ah:=oT.ext' x1
  have Z:∀ g,Yg.sem Y g (.idxa 1) [.slice (some ⟨bl,0,none⟩) n n,.int .i64 i]=some (.pointer (some ⟨bl,i,none⟩)):=fun g=>by
   have:=Vt (Y:=Y) (h:=g) (b:=bl) (sz:=1) (show n<=9223372036854775807 by omega) c (Xd6 n)
   simpa using this
  have aa:∀ g,Yb g 1 (Sl.at bl n n) ((P.map fun p=>p.1.v)++U.v::List.replicate (n-i-1) (.slice none 0 0))->hc g bl i=some U.v:=fun g o=>by
   have:=o.cell (i:=i) (v:=U.v) (by rw [Xe2 (by simp; omega)]; simp [lP])
   simpa using this
  have ai:=aa _ ox
  simp [kx.b17.hc,Z,ai,Zy E3]
  refine Qu ?_
  intro q hq gq Bq eq
  have J:=kx.ext eq
  have oq:=ox.ext' eq
  have aj:=aa _ oq
  simp [J.b17.hc,aj]
  refine Vz rfl (ah.ext' eq) Bq rfl rfl rfl (by omega) (by omega) ?_
  intro r ak or mr hs
  have b17r:=mr.blk J.b17 (fun e=>by have:=V e.1; omega)
  have al:=oq.mod mr (fun _ e=>by have:=V e.1; simp only [Sl.at_b] at e; omega)
  simp [b17r.hc,Z]
  refine Zlf al (k:=i) (by simp; omega) ?_
  intro bm ot mt
  have zq:=J.ex.size
  have zr:=mr.size
  have e3:Zs (List.map Xm (List.map (Xv N outs Ar) (List.take j (f i)))++[((.int .i64 (Yc 0 Ar m),.int .i64 (Yc 0 outs m),.int .i64 (Zl N m)))])=Zs (((((f i).take (j+1)).map (Xv N outs Ar))).map Xm):=by rw [ht,Xe1,<-hst]; rfl
  simp only [Xfn] at e3
  have am:Yb ak 3 r (Zs ((((f i).take (j+1)).map (Xv N outs Ar)).map Xm)):=by
   rw [<-hst] at or
   rw [ht,Xe1]
   exact or
  have ab:r.nl=false->r.b≠bl/\h.size<=r.b/\r.b≠B17/\∀ p,p∈P->p.2≠[]->p.1.b≠r.b:=fun I=>by
   rcases hs with ⟨x,y⟩ | ⟨x,y⟩
   ·have:=V (by rw [<-y]; exact I)
    rw [x]
    exact ⟨this.2.1,this.1,this.2.2.1,this.2.2.2⟩
   ·have:=J.b17.lt
    have:=oq.lt rfl
    simp only [Sl.at_b] at this
    exact ⟨by omega,by omega,by omega,fun p hp I=>by have:=Ze1 (J.rw p hp) I; omega⟩
  have Wm:((P.map fun p=>p.1.v)++U.v::List.replicate (n-i-1) (Value.slice none 0 0)).set i r.v=(P.map fun p=>p.1.v)++r.v::List.replicate (n-i-1) (Value.slice none 0 0):=by
   rw [List.set_append_right _ _ (by simp; omega)]
   simp [lP]
  rw [Wm] at ot
  simp [wj]
  refine ⟨⟨j+1,P,r,_,_,_,_,_,_,_,_,_,_,_,_,_,_,_,_,_,_,_,_,_,_,_,_,_,_,_,_,rfl,by omega,⟨lP,Mod.ext (Mod.ext J.ex mr (fun x hx=>by have:=V hx.1; omega)) mt (fun x hx=>by omega),mt.blk b17r (by omega),fun p hp=>((J.rw p hp).mod mr (fun I e=>by have:=(V e.1).2.2.2 p hp I; omega)).mod mt (fun I e=>by have:=H.dP p hp I; omega),H.dP,H.row,lB⟩,ot,am.mod mt (fun I e=>by have:=ab I; omega),fun I=>by have:=ab I; exact ⟨this.2.1,this.1,this.2.2.1,this.2.2.2⟩⟩,by simp [Zo]; omega⟩
 ·simp only [if_neg d]
  have hst:Xas (Xv N outs Ar m)=(.int .i64 0,.int .i64 (Yc 0 outs m),.int .i64 0):=by unfold Xv; rw [if_neg d]; rfl
  have kx:=H.ext el
  have ox:=oL.ext' el
  have ah:=oT.ext' el
  have Z:∀ g,Yg.sem Y g (.idxa 1) [.slice (some ⟨bl,0,none⟩) n n,.int .i64 i]=some (.pointer (some ⟨bl,i,none⟩)):=fun g=>by
   have:=Vt (Y:=Y) (h:=g) (b:=bl) (sz:=1) (show n<=9223372036854775807 by omega) c (Xd6 n)
   simpa using this
  have aa:∀ g,Yb g 1 (Sl.at bl n n) ((P.map fun p=>p.1.v)++U.v::List.replicate (n-i-1) (.slice none 0 0))->hc g bl i=some U.v:=fun g o=>by
   have:=o.cell (i:=i) (v:=U.v) (by rw [Xe2 (by simp; omega)]; simp [lP])
   simpa using this
  have ai:=aa _ ox
  simp [kx.b17.hc,Z,ai,Zy El]
  refine Qu ?_
  intro q hq gq Bq eq
  have J:=kx.ext eq
  have oq:=ox.ext' eq
  have aj:=aa _ oq
  simp [J.b17.hc,aj]
  refine Vz rfl (ah.ext' eq) Bq rfl rfl rfl (by omega) (by omega) ?_
  intro r ak or mr hs
  have b17r:=mr.blk J.b17 (fun e=>by have:=V e.1; omega)
  have al:=oq.mod mr (fun _ e=>by have:=V e.1; simp only [Sl.at_b] at e; omega)
  simp [b17r.hc,Z]
  refine Zlf al (k:=i) (by simp; omega) ?_
  intro bm ot mt
  have zq:=J.ex.size
  have zr:=mr.size
  have e3:Zs (List.map Xm (List.map (Xv N outs Ar) (List.take j (f i)))++[((.int .i64 0,.int .i64 (Yc 0 outs m),.int .i64 0))])=Zs (((((f i).take (j+1)).map (Xv N outs Ar))).map Xm):=by rw [ht,Xe1,<-hst]; rfl
  simp only [Xfn] at e3
  have am:Yb ak 3 r (Zs ((((f i).take (j+1)).map (Xv N outs Ar)).map Xm)):=by
   rw [<-hst] at or
   rw [ht,Xe1]
   exact or
  have ab:r.nl=false->r.b≠bl/\h.size<=r.b/\r.b≠B17/\∀ p,p∈P->p.2≠[]->p.1.b≠r.b:=fun I=>by
   rcases hs with ⟨x,y⟩ | ⟨x,y⟩
   ·have:=V (by rw [<-y]; exact I)
    rw [x]
    exact ⟨this.2.1,this.1,this.2.2.1,this.2.2.2⟩
   ·have:=J.b17.lt
    have:=oq.lt rfl
    simp only [Sl.at_b] at this
    exact ⟨by omega,by omega,by omega,fun p hp I=>by have:=Ze1 (J.rw p hp) I; omega⟩
  have Wm:((P.map fun p=>p.1.v)++U.v::List.replicate (n-i-1) (Value.slice none 0 0)).set i r.v=(P.map fun p=>p.1.v)++r.v::List.replicate (n-i-1) (Value.slice none 0 0):=by
   rw [List.set_append_right _ _ (by simp; omega)]
   simp [lP]
  rw [Wm] at ot
  simp [wj]
  refine ⟨⟨j+1,P,r,_,_,_,_,_,_,_,_,_,_,_,_,_,_,_,_,_,_,_,_,_,_,_,_,_,_,_,_,rfl,by omega,⟨lP,Mod.ext (Mod.ext J.ex mr (fun x hx=>by have:=V hx.1; omega)) mt (fun x hx=>by omega),mt.blk b17r (by omega),fun p hp=>((J.rw p hp).mod mr (fun I e=>by have:=(V e.1).2.2.2 p hp I; omega)).mod mt (fun I e=>by have:=H.dP p hp I; omega),H.dP,H.row,lB⟩,ot,am.mod mt (fun I e=>by have:=ab I; omega),fun I=>by have:=ab I; exact ⟨this.2.1,this.1,this.2.2.1,this.2.2.2⟩⟩,by simp [Zo]; omega⟩
end
section
variable {N:Zg} {L:List (List Int)} {k:Nat} {ks:List Int}
def gI (N:Zg) (L:List (List Int)) (k:Nat) (ks:List Int) (x:Bool) (u:Nat):List Int:=Zn N L k x (Zc ks u).toNat
def spF (N:Zg) (L:List (List Int)) (k:Nat) (ks:List Int) (u:Nat):List (Int × Nat):=(List.range (gI N L k ks false u).length).map fun j=>(enV N L k (Zc ks u).toNat (j:Nat) 0,u)
def ArF (N:Zg) (L:List (List Int)) (k:Nat) (ks:List Int) (u:Nat):List Int:=(List.range u).flatMap (gI N L k ks false)
def SpF (N:Zg) (L:List (List Int)) (k:Nat) (ks:List Int) (u:Nat):List (Int × Nat):=(List.range u).flatMap (spF N L k ks)
theorem Zk9 {u:Nat}:ArF N L k ks (u+1)=ArF N L k ks u++gI N L k ks false u:=by simp [ArF,Xf1]
theorem Zkq {u:Nat}:SpF N L k ks (u+1)=SpF N L k ks u++spF N L k ks u:=by simp [SpF,Xf1]
def ArP (N:Zg) (L:List (List Int)) (k:Nat) (ks:List Int) (u j:Nat):List Int:=ArF N L k ks u++(gI N L k ks false u).take j
def SpP (N:Zg) (L:List (List Int)) (k:Nat) (ks:List Int) (u j:Nat):List (Int × Nat):=SpF N L k ks u++(spF N L k ks u).take j
theorem Zso {u:Nat}:ArP N L k ks u 0=ArF N L k ks u:=by simp [ArP]
theorem Z28 {u:Nat}:SpP N L k ks u 0=SpF N L k ks u:=by simp [SpP]
theorem Znz {u:Nat}:ArP N L k ks u (gI N L k ks false u).length=ArF N L k ks (u+1):=by rw [Zk9]; simp [ArP]
theorem Ziw {u:Nat}:(spF N L k ks u).length=(gI N L k ks false u).length:=by simp [spF]
theorem Z40 {u:Nat}:SpP N L k ks u (gI N L k ks false u).length=SpF N L k ks (u+1):=by
 rw [Zkq]
 unfold SpP
 rw [Xef (by rw [Ziw]; exact Xd6 _)]
theorem Zgl {u j:Nat} (r:j<(gI N L k ks false u).length):ArP N L k ks u (j+1)=ArP N L k ks u j++[Zc (gI N L k ks false u) j]:=by
 unfold ArP
 rw [Xel r,Xe6,show Zc (gI N L k ks false u) j=(gI N L k ks false u)[j] by simp [Zc,r]]
theorem Zzv {u j:Nat} (r:j<(gI N L k ks false u).length):SpP N L k ks u (j+1)=SpP N L k ks u j++[(enV N L k (Zc ks u).toNat (j:Nat) 0,u)]:=by
 unfold SpP
 rw [Xel (by rw [Ziw]; exact r),Xe6]
 simp [spF]
theorem Q7:∀ {u:Nat},(SpF N L k ks u).length=(ArF N L k ks u).length:=by
 intro u
 induction u with
 | zero=>rfl
 | succ u r=>rw [Zkq,Zk9,Xei,Xei,r,Ziw]
theorem Zv4 {u j:Nat}:(SpP N L k ks u j).length=(ArP N L k ks u j).length:=by
 unfold SpP ArP
 rw [Xei,Xei,Q7,Xex,Xex,Ziw]
theorem Znw {u:Nat} {x:Int}:x∈ArF N L k ks u↔∃ i,i<u/\x∈gI N L k ks false i:=by simp [ArF]
theorem Xaw:∀ {u p:Nat},p<(ArF N L k ks u).length->∃ i j,i<u/\j<(gI N L k ks false i).length/\Zc (ArF N L k ks u) p=Zc (gI N L k ks false i) j/\(SpF N L k ks u)[p]? = some (enV N L k (Zc ks i).toNat (j:Nat) 0,i):=by
 intro u
 induction u with
 | zero=>intro p h; simp [ArF] at h
 | succ u r =>
  intro p h
  rw [Zk9] at h ⊢
  rw [Zkq]
  rcases Xd8 p (ArF N L k ks u).length with q | q
  ·obtain ⟨i,j,h1,h2,h3,h4⟩:=r q
   exact ⟨i,j,by omega,h2,by rw [Vq q]; exact h3,by rw [Xep (by rw [Q7]; exact q)]; exact h4⟩
  ·have D:=h
   rw [Xei] at D
   refine ⟨u,p-(ArF N L k ks u).length,by omega,by omega,?_,?_⟩
   ·simp [Zc,Xe2 q]
   ·rw [Xe2 (by rw [Q7]; exact q),Q7]
    simp [spF,show p-(ArF N L k ks u).length<(gI N L k ks false u).length by omega]
theorem Z3i (r:Yx N.vs.length L) (D:Yd N) (G:k<L.length) (X:Zfb ks) (O:∀ i,i<ks.length->∃ q:Nat,Zc ks i=q) {u j:Nat} (hu:u<ks.length) (H:j<(gI N L k ks false u).length):Zc (gI N L k ks false u) j ∉ ArP N L k ks u j:=by
 intro h
 have h0:=Zk.2 ⟨j,H,rfl⟩
 rcases List.mem_append.1 h with q | q
 ·obtain ⟨i,I,J⟩:=Znw.1 q
  obtain ⟨a,e,Z⟩:=Vg r D G h0
  unfold gI at h0 J
  rw [show Zc (Zn N L k false (Zc ks u).toNat) j=(a:Int) from e] at J
  rw [show Zc (Zn N L k false (Zc ks u).toNat) j=(a:Int) from e] at h0
  have R:=((X5 r D G).1 h0).2.2
  have e2:=((X5 r D G).1 J).2.2
  obtain ⟨q1,U⟩:=O u hu
  obtain ⟨q2,V⟩:=O i (by omega)
  rw [U] at R
  rw [V] at e2
  simp at R e2
  have:=X i u (by omega) hu (by rw [U,V]; omega)
  omega
 ·obtain ⟨i,I,e⟩:=Zk.1 q
  simp at I
  rw [show Zc ((gI N L k ks false u).take j) i=Zc (gI N L k ks false u) i by simp [Zc,Xen,show i<j by omega]] at e
  have:=Xc.once i j (by unfold gI at I H; omega) H e
  omega
theorem Z88 (D:Yx N.vs.length L) (G:Yd N) (H:k<L.length) (I:Zfb ks) (J:∀ i,i<ks.length->∃ q:Nat,Zc ks i=q):∀ {u:Nat},u<=ks.length->Zfb (ArF N L k ks u):=by
 intro u
 induction u with
 | zero=>intro _ i j O; simp [ArF] at O
 | succ u R =>
  intro hu
  have:∀ j,j<=(gI N L k ks false u).length->Zfb (ArP N L k ks u j):=by
   intro j
   induction j with
   | zero=>intro _; rw [Zso]; exact R (by omega)
   | succ j r =>
    intro U
    rw [Zgl (by omega)]
    exact (r (by omega)).snoc (Z3i D G H I J (by omega) (by omega))
  rw [<-Znz]
  exact this _ (Xd6 _)
end
def spV (x:Int × Nat):Value × Value:=(.int .i64 x.1,.int .i64 x.2)
structure KyS (h:Za) (z0 B10 M:Nat) (sp sG:Sl) (Ar:List Int) (Sp:List (Int × Nat)) (ga gb:Nat->Sl) (m:Nat) (ia io:Nat->List Int):Prop where
 b10:Ys h B10 #[sp.v]
 mp:Zcf h M (Ww Ar 0)
 oS:Yb h 2 sp (Vi (Sp.map spV))
 oG:Yb h 2 sG (Vi ((List.range m).map fun u=>((ga u).v,(gb u).v)))
 oa:∀ u,u<m->Yb h 1 (ga u) (Zh (ia u))
 ob:∀ u,u<m->Yb h 1 (gb u) (Zh (io u))
 lz:B10<z0/\M<z0/\B10≠M/\z0<=h.size
 dS:sp.nl=false->z0<=sp.b
 dG:sG.nl=false->z0<=sG.b/\(sp.nl=false->sG.b≠sp.b)
 dA:∀ u,u<m->(ga u).nl=false->z0<=(ga u).b/\(sp.nl=false->(ga u).b≠sp.b)/\(sG.nl=false->(ga u).b≠sG.b)
 dB:∀ u,u<m->(gb u).nl=false->z0<=(gb u).b/\(sp.nl=false->(gb u).b≠sp.b)/\(sG.nl=false->(gb u).b≠sG.b)
section
variable {h h' h1 h2 h3 h4:Za} {z0 B10 M m:Nat} {sp sG:Sl} {Ar:List Int} {Sp:List (Int × Nat)} {ga gb:Nat->Sl} {ia io:Nat->List Int}
theorem KyS.ext (k:KyS h z0 B10 M sp sG Ar Sp ga gb m ia io) (e:Ext h h'):KyS h' z0 B10 M sp sG Ar Sp ga gb m ia io :=
 ⟨k.b10.ext e,k.mp.ext e,k.oS.ext' e,k.oG.ext' e,fun u hu=>(k.oa u hu).ext' e,fun u hu=>(k.ob u hu).ext' e,by have:=k.lz; have:=e.size; omega,k.dS,k.dG,k.dA,k.dB⟩
theorem KyS.addG (k:KyS h z0 B10 M sp sG Ar Sp ga gb m ia io) (e:Ext h h1) {a b D:Sl} (X:Yb h1 1 a (Zh (ia m))) (ob:Yb h1 1 b (Zh (io m))) (Z:a.nl=true\/h.size<=a.b) (fb:b.nl=true\/h.size<=b.b)
  (G:Mod (fun j=>sG.nl=false/\j=sG.b) h1 h2) (o:Yb h2 2 D (Vi ((List.range m).map fun u=>((ga u).v,(gb u).v))++[a.v,b.v])) (hs:(D.b=sG.b/\D.nl=sG.nl)\/(h1.size<=D.b/\D.nl=false)) :
  KyS h2 z0 B10 M sp D Ar Sp (fun u=>if u=m then a else ga u) (fun u=>if u=m then b else gb u) (m+1) ia io:=by
 have lz:=k.lz
 have ze:=e.size
 have zm:=G.size
 have R:=k.dG
 have k1:=k.ext e
 have I:a.nl=false->h.size<=a.b:=fun r=>Z.resolve_left (by rw [r]; simp)
 have J:b.nl=false->h.size<=b.b:=fun r=>fb.resolve_left (by rw [r]; simp)
 have U:sG.nl=false->sG.b<h.size:=k.oG.lt
 have V:sp.nl=false->sp.b<h.size:=k.oS.lt
 have O:D.nl=false->(D.b=sG.b/\sG.nl=false)\/h1.size<=D.b:=fun r=>by
  rcases hs with ⟨x,y⟩ | ⟨x,y⟩
  ·exact .inl ⟨x,by rw [<-y]; exact r⟩
  ·exact .inr x
 refine ⟨G.blk k1.b10 (fun q=>by have:=R q.1; omega),k1.mp.mod G (fun q=>by have:=R q.1; omega),k1.oS.mod G (fun r q=>by have:=(R q.1).2 r; omega),?_,fun u hu=>?_,fun u hu=>?_,by omega,k.dS,fun r=>?_,fun u hu r=>?_,fun u hu r=>?_⟩
 ·have e1:(List.range (m+1)).map (fun u=>(Sl.v (if u=m then a else ga u),Sl.v (if u=m then b else gb u)))=(List.range m).map (fun u=>((ga u).v,(gb u).v))++[(a.v,b.v)]:=by
   rw [Xf1,Xe1]
   congr 1
   ·apply Xfr
    intro u hu
    have:u≠m:=by simp at hu; omega
    simp [this]
   ·simp
  rw [e1]
  simpa [Vi] using o
 ·by_cases q:u=m
  ·subst q
   simp only [if_true]
   exact X.mod G (fun r e=>by have:=I r; have:=U e.1; omega)
  ·simp only [if_neg q]
   exact (k1.oa u (by omega)).mod G (fun r e=>by have:=(k.dA u (by omega) r).2.2 e.1; omega)
 ·by_cases q:u=m
  ·subst q
   simp only [if_true]
   exact ob.mod G (fun r e=>by have:=J r; have:=U e.1; omega)
  ·simp only [if_neg q]
   exact (k1.ob u (by omega)).mod G (fun r e=>by have:=(k.dB u (by omega) r).2.2 e.1; omega)
 ·rcases O r with ⟨x,y⟩ | x
  ·rw [x]; exact R y
  ·exact ⟨by omega,fun hs=>by have:=V hs; omega⟩
 ·by_cases q:u=m
  ·subst q
   simp only [if_true] at r ⊢
   have:=I r
   have la:=X.lt r
   refine ⟨by omega,fun hs=>by have:=V hs; omega,fun H=>?_⟩
   rcases O H with ⟨x,y⟩ | x
   ·have:=U y; omega
   ·omega
  ·simp only [if_neg q] at r ⊢
   have d:=k.dA u (by omega) r
   have lu:=(k.oa u (by omega)).lt r
   refine ⟨d.1,d.2.1,fun H=>?_⟩
   rcases O H with ⟨x,y⟩ | x
   ·rw [x]; exact d.2.2 y
   ·omega
 ·by_cases q:u=m
  ·subst q
   simp only [if_true] at r ⊢
   have:=J r
   have la:=ob.lt r
   refine ⟨by omega,fun hs=>by have:=V hs; omega,fun H=>?_⟩
   rcases O H with ⟨x,y⟩ | x
   ·have:=U y; omega
   ·omega
  ·simp only [if_neg q] at r ⊢
   have d:=k.dB u (by omega) r
   have lu:=(k.ob u (by omega)).lt r
   refine ⟨d.1,d.2.1,fun H=>?_⟩
   rcases O H with ⟨x,y⟩ | x
   ·rw [x]; exact d.2.2 y
   ·omega
theorem KyS.addS (k:KyS h z0 B10 M sp sG Ar Sp ga gb m ia io) {x:Int} {s:Int × Nat} {D:Sl} (J:Mod (fun j=>j=M) h h1) (R:Zcf h1 M (Ww (Ar++[x]) 0)) (e:Ext h1 h2)
  (H:Mod (fun j=>sp.nl=false/\j=sp.b) h2 h3) (o:Yb h3 2 D (Vi (Sp.map spV)++[(spV s).1,(spV s).2])) (hs:(D.b=sp.b/\D.nl=sp.nl)\/(h2.size<=D.b/\D.nl=false)) (G:Mod (fun j=>j=B10) h3 h4) (U:Ys h4 B10 #[D.v]) :
  KyS h4 z0 B10 M D sG (Ar++[x]) (Sp++[s]) ga gb m ia io:=by
 have X:=k.lz
 have Z:=J.size
 have ze:=e.size
 have zm:=H.size
 have z4:=G.size
 have O:=k.dS
 have lS:sp.nl=false->sp.b<h.size:=k.oS.lt
 have V:sG.nl=false->sG.b<h.size:=k.oG.lt
 have I:D.nl=false->(D.b=sp.b/\sp.nl=false)\/h2.size<=D.b:=fun r=>by
  rcases hs with ⟨x,y⟩ | ⟨x,y⟩
  ·exact .inl ⟨x,by rw [<-y]; exact r⟩
  ·exact .inr x
 refine ⟨U,((R.ext e).mod H (fun q=>by have:=O q.1; omega)).mod G (by omega),?_,?_,fun u hu=>?_,fun u hu=>?_,by omega,fun r=>?_,fun r=>?_,fun u hu r=>?_,fun u hu r=>?_⟩
 ·have:=o.mod G (fun r q=>by
   rcases I r with ⟨x,y⟩ | x
   ·have:=O y; omega
   ·omega)
  simpa [Vi] using this
 ·exact (((k.oG.mod J (fun r q=>by have:=k.dG r; omega)).ext' e).mod H (fun r q=>by have:=(k.dG r).2 q.1; omega)).mod G (fun r q=>by have:=k.dG r; omega)
 ·exact ((((k.oa u hu).mod J (fun r q=>by have:=k.dA u hu r; omega)).ext' e).mod H (fun r q=>by have:=(k.dA u hu r).2.1 q.1; omega)).mod G (fun r q=>by have:=k.dA u hu r; omega)
 ·exact ((((k.ob u hu).mod J (fun r q=>by have:=k.dB u hu r; omega)).ext' e).mod H (fun r q=>by have:=(k.dB u hu r).2.1 q.1; omega)).mod G (fun r q=>by have:=k.dB u hu r; omega)
 ·rcases I r with ⟨x,y⟩ | x
  ·rw [x]; exact O y
  ·omega
 ·have d:=k.dG r
  have:=V r
  refine ⟨d.1,fun h=>?_⟩
  rcases I h with ⟨x,y⟩ | x
  ·rw [x]; exact d.2 y
  ·omega
 ·have d:=k.dA u hu r
  have:=(k.oa u hu).lt r
  refine ⟨d.1,fun h=>?_,d.2.2⟩
  rcases I h with ⟨x,y⟩ | x
  ·rw [x]; exact d.2.1 y
  ·omega
 ·have d:=k.dB u hu r
  have:=(k.ob u hu).lt r
  refine ⟨d.1,fun h=>?_,d.2.2⟩
  rcases I h with ⟨x,y⟩ | x
  ·rw [x]; exact d.2.1 y
  ·omega
end
theorem Zh8 {N : Zg} {L : List (List Int)} {i j : Nat} (h : i ≤ j) : levelS N L i ≤ levelS N L j := by
  induction j with
  | zero => have : i = 0 := by omega
            subst this; exact Xd6 _
  | succ j r =>
    by_cases q : i = j + 1
    · subst q; exact Xd6 _
    · have := r (by omega); simp only [levelS]; omega
theorem Zf0 {N : Zg} {L : List (List Int)} {k i j : Nat} (h : i ≤ j) : cellS N L k i ≤ cellS N L k j := by
  induction j with
  | zero => have : i = 0 := by omega
            subst this; exact Xd6 _
  | succ j r =>
    by_cases q : i = j + 1
    · subst q; exact Xd6 _
    · have := r (by omega); simp only [cellS]; omega
theorem Zky {N:Zg} {L:List (List Int)} {k q:Nat} (r:k<L.length) (hq:q<Zw L k):levelS N L k+cellS N L k q+entN N L k q<=levelS N L L.length:=by
 have h1:=Zf0 (N:=N) (L:=L) (k:=k) (i:=q+1) (j:=Zw L k) hq
 have D:=Zh8 (N:=N) (L:=L) (i:=k+1) (j:=L.length) r
 simp only [levelS,cellS] at h1 D
 omega
theorem Zpl {N:Zg} {L:List (List Int)} {k q j:Nat} (r:k<L.length) (hq:q<Zw L k) (D:j<(Zn N L k false q).length) (H:0<(Zn N L k true q).length):0<=enV N L k q j 0/\enV N L k q j 0+(Zn N L k true q).length<=levelS N L L.length:=by
 have h1:=Zky (N:=N) r hq
 have G:=Xe7 (Zn N L k true q).length (show j+1<=(Zn N L k false q).length from D)
 rw [Xet,Xg7] at G
 unfold enV entN at *
 rw [if_pos ⟨by omega,by omega,by omega,by omega⟩]
 have e:((j:Int) * ((Zn N L k true q).length:Int))=((j * (Zn N L k true q).length:Nat):Int):=by simp
 rw [e]
 omega
theorem Ziu {n:Nat} {L:List (List Int)} (D:Yx n L) {k:Nat} (G:k+1<L.length) {a b:Nat} (r:a<n) (hb:b<n) (e:Zc (Zq L k) a=Zc (Zq L k) b):Zc (Zq L (k+1)) a=Zc (Zq L (k+1)) b:=by
 have h:=(Uh (D.lv (k+1) G)).2.2.2 (by omega)
 rw [show k+1-1=k from rfl] at h
 have h1:=h a r b hb (by omega)
 have H:=h b hb a r (by omega)
 omega
section
variable {Y:Sys} {h h':Za}
theorem Zg0 {K:Value->Za->Prop} {D G x y:Value} (hx:x.oneCell'=true) (hy:y.oneCell'=true) (H:∀ (b:Nat) (h':Za),h.size<=b->Ys h' b #[x,y]->Ext h h'->K (.slice (some ⟨b,0,none⟩) 1 1) h') :
  Ef.wp h K (.bslice 1 2 #[D,G] [0]) [.agg #[x,y]]:=by
 have e:Instr.fill (fun i=>some (i * 2,2)) (Xj #[D,G] (1 * 2)) ([0].zip [.agg #[x,y]])=some #[x,y]:=by
  simp [Instr.fill,Xj]
  apply Xfp
  ·simp
  ·intro i h1 r
   match i,r with
   | 0,_=>simp
   | 1,_=>simp
   | i+2,r=>exact absurd r (by simp)
 simp only [Ef.wp,e]
 exact fun t=>H _ _ (Xd6 _) Ys.new Mod.push
theorem Zjx {K:Value->Za->Prop} {bytes b:Nat} {zero:Array Value} {s:Sl} {cs:List Value} {x y:Value} (hz:zero.size=2) (o:Yb h 2 s cs) (hb:Ys h b #[x,y]) (hx:x.oneCell'=true) (hy:y.oneCell'=true) (D:(s.n+1) * bytes<=140737488355328) (G:s.n+1<=9223372036854775807)
  (H:∀ (r:Sl) (h':Za),Yb h' 2 r (cs++[x,y])->r.n=s.n+1->Mod (fun j=>s.nl=false/\j=s.b) h h'->((r.b=s.b/\r.nl=s.nl)\/(h.size<=r.b/\r.nl=false))->K r.v h') :
  Ef.wp h K (.append 2 bytes zero) [s.v,.slice (some ⟨b,0,none⟩) 1 1]:=by
 have hs:Wq h 2 1 (.slice (some ⟨b,0,none⟩) 1 1)=some [x,y]:=by
  rw [Zer]
  exact Zy hb rfl
 refine Vx o (m:=1) (nw:=[x,y]) rfl hs rfl (fun v hv=>?_) hz D G (fun r h' I J M hs'=>H r h' I J M hs')
 simp only [Xf8,Xgk,or_false] at hv
 rcases hv with rfl | rfl <;> assumption
def Kb0 (Bc B7 Br B10 M:Nat) (v0 v1 v2 v3 v4 v5:Value) (t:Sl) (N:Zg) (L:List (List Int)) (k:Nat) (ks:List Int) (hz:Za) (e:List Value) (h':Za):Prop :=
 ∃ (i:Nat) (sp sG:Sl) (ga gb:Nat->Sl) (v12 v13 v14 v15 v16 v17 v18 v19 v20 v21 v22 v23 v24 v25 v29 v30 v31 v32 v33 v34 v35 v36 v37 v38 v39 v40 v41 v42 v43 v44 v45 v46 v47:Value),
  e=[v0,v1,v2,v3,v4,v5,.pointer (some ⟨Bc,0,none⟩),.pointer (some ⟨B7,0,none⟩),.pointer (some ⟨Br,0,none⟩),.map (some M),.pointer (some ⟨B10,0,none⟩),sG.v,v12,v13,v14,v15,v16,v17,v18,v19,v20,v21,v22,v23,v24,v25,t.v,.int .i64 t.n,.int .i64 i,v29,v30,v31,v32,v33,v34,v35,v36,v37,v38,v39,v40,v41,v42,v43,v44,v45,v46,v47]/\i<=ks.length /\
  KyS h' hz.size B10 M sp sG (ArF N L k ks i) (SpF N L k ks i) ga gb i (gI N L k ks false) (gI N L k ks true)/\Mod (fun j=>j=M\/j=B10) hz h'
def Kb2 (Bc B7 Br B10 M i q:Nat) (v0 v1 v2 v3 v4 v5:Value) (t sG a:Sl) (ga gb:Nat->Sl) (N:Zg) (L:List (List Int)) (k:Nat) (ks:List Int) (hz:Za) (e:List Value) (h':Za):Prop :=
 ∃ (j:Nat) (sp:Sl) (v14 v15 v16 v17 v18 v19 v20 v21 v22 v23 v24 v25 v29 v33 v34 v35 v36 v37 v38 v39 v40 v41 v42 v43 v44 v45 v46 v47:Value),
  e=[v0,v1,v2,v3,v4,v5,.pointer (some ⟨Bc,0,none⟩),.pointer (some ⟨B7,0,none⟩),.pointer (some ⟨Br,0,none⟩),.map (some M),.pointer (some ⟨B10,0,none⟩),sG.v,.int .i64 i,.int .i64 q,v14,v15,v16,v17,v18,v19,v20,v21,v22,v23,v24,v25,t.v,.int .i64 t.n,.int .i64 i,v29,a.v,.int .i64 a.n,.int .i64 j,v33,v34,v35,v36,v37,v38,v39,v40,v41,v42,v43,v44,v45,v46,v47]/\j<=(gI N L k ks false i).length /\
  KyS h' hz.size B10 M sp sG (ArP N L k ks i j) (SpP N L k ks i j) ga gb (i+1) (gI N L k ks false) (gI N L k ks true)/\Mod (fun j=>j=M\/j=B10) hz h'
set_option maxHeartbeats 2000000 in
theorem Zsd (X:Z2z Y) {p op:Nat} {N:Zg} {S:Nat->Prop} {L:List (List Int)} (g:Yv h p N S) (v:Up h op N L) (I:Yd N) (H:Yx N.vs.length L) {k c:Nat} (hk:k+1<L.length) (hc:c<Zw L (k+1)) {s1 s2 sc:Sl} {r:List Int}
  (r1:Zz h s1 (Zn N L (k+1) false c)) (r2:Zz h s2 (Zn N L (k+1) true c)) (rc:Zz h sc r) (lc:r.length=levelS N L L.length) (c0:∀ i,i<r.length->0<=Zc r i/\Zc r i<=Xr) {R:Value->Za->Prop}
  (hr:∀ h' Ar fi ls st ss fv,Ext h h'->Zri N L r (Zn N L (k+1) true c) Ar k c fi ls st->Zz h' ss ((Zn N L (k+1) false c).map (Yc 0 Ar))->Zkm Y h' fv Ar.length st->fv.oneCell'=true->(∀ e,e∈Zn N L (k+1) false c->e∈Ar)->Ar.length<=16384->R (.agg #[.int .i64 Ar.length,ss.v,fv]) h') :
  Zm Y 398 [.pointer (some ⟨p,0,none⟩),.pointer (some ⟨op,0,none⟩),.int .i64 (((k+1:Nat):Int)+1),.int .i64 c,.agg #[s1.v,s2.v],sc.v] h R:=by
 have hI:Xr=1152921504606846976:=rfl
 have ba:=I.ba
 have bL:=H.bL
 have bn:=H.bn
 have l1:=r1.len
 have l2:=r2.len
 refine .of_has X.byKids rfl ?_
 simp [Y398,Xa.wp,-Zu,-Int.natCast_add]
 refine Zd ?_
 intro Bc ha aW Bca ea
 replace Bca:Ys ha Bc #[s1.v,s2.v]:=Bca
 simp [-Zu,-Int.natCast_add]
 refine Zd ?_
 intro B7 hb aX B7b eb
 replace B7b:Ys hb B7 #[sc.v]:=B7b
 simp [-Zu,-Int.natCast_add]
 refine Zd ?_
 intro Br hd aY Brd ed
 replace Brd:Ys hd Br #[.int .i64 0,.slice none 0 0,.nilFunc]:=Brd
 simp [-Zu,-Int.natCast_add]
 rw [Zu]
 simp [-Zu,-Int.natCast_add]
 refine Zmh ?_
 intro M he gM mM ee
 have lM:=mM.lt
 simp [-Zu,-Int.natCast_add]
 rw [Zu]
 simp [-Zu,-Int.natCast_add]
 refine Zd ?_
 intro B10 hf aU B10f ef
 replace B10f:Ys hf B10 #[.slice none 0 0]:=B10f
 have aZ:=B10f.lt
 have xf:Ext h hf:=(((ea.trans eb).trans ed).trans ee).trans ef
 simp [-Zu,-Int.natCast_add]
 rw [Zu]
 simp [-Zu,-Int.natCast_add]
 rw [Zu]
 simp [-Zu,-Int.natCast_add]
 refine Zlm X.K (v.ext xf) H hk (by omega) hc ?_
 intro hz t ks ez ot aC a0 ah aa
 rw [show k+1-1=k from rfl] at aa
 have xz:=xf.trans ez
 have za:=ea.size
 have zb:=eb.size
 have zd:=ed.size
 have ze:=ee.size
 have zf:=ef.size
 have zz:=ez.size
 have a1:=ot.lt aC
 have U:=Bca.lt
 have lb:=B7b.lt
 have ld:=Brd.lt
 have kn:∀ i,i<ks.length->∃ q:Nat,Zc ks i=q/\q<Zw L k:=fun i hi=>by
  obtain ⟨w,h1,J,h3⟩:=(aa _).1 (Zk.2 ⟨i,hi,rfl⟩)
  obtain ⟨q,e,lq⟩:=(Xi H (show k<L.length by omega)).2.2.2 w h1
  exact ⟨q,by rw [<-h3]; exact e,lq⟩
 have aD:ks.length<=4096:=by
  have:=Zcz ah.once kn
  have:=(Xi H (show k<L.length by omega)).2.2.1
  omega
 have an:∀ {u:Nat},u<=ks.length->Zfb (ArF N L k ks u):=Z88 H I (by omega) ah.once (fun i hi=>by obtain ⟨q,e,_⟩:=kn i hi; exact ⟨q,e⟩)
 have ao:∀ {u:Nat},∀ x,x∈ArF N L k ks u->∃ a:Nat,x=a/\a<N.as.length:=fun {u} x hx=>by
  obtain ⟨i,_,Z⟩:=Znw.1 hx
  exact Vg H I (by omega) Z
 have ag:∀ {u:Nat},u<=ks.length->(ArF N L k ks u).length<=N.as.length:=fun {u} hu=>Zcz (an hu) (fun i hi=>by
  obtain ⟨a,e,U⟩:=ao _ (Zk.2 ⟨i,hi,rfl⟩)
  exact ⟨a,e,U⟩)
 have a2:=ot.row64.len
 have k0:KyS hz hz.size B10 M Sl.nil Sl.nil (ArF N L k ks 0) (SpF N L k ks 0) (fun _=>Sl.nil) (fun _=>Sl.nil) 0 (gI N L k ks false) (gI N L k ks true) :=
  ⟨B10f.ext ez,(mM.ext ef).ext ez,Yb.nil,Yb.nil,fun u hu=>by omega,fun u hu=>by omega,by omega,fun h=>(by cases h),fun h=>(by cases h),fun u hu=>by omega,fun u hu=>by omega⟩
 simp [-Zu,-Int.natCast_add]
 rw [Zu]
 simp [-Zu,-Int.natCast_add]
 refine Zj (Kb0 Bc B7 Br B10 M (.pointer (some ⟨p,0,none⟩)) (.pointer (some ⟨op,0,none⟩)) (.int .i64 (((k+1:Nat):Int)+1)) (.int .i64 c) (.agg #[s1.v,s2.v]) sc.v t N L k ks hz) (fun e _=>ks.length-Zo e 28) ⟨0,Sl.nil,Sl.nil,_,_,_,_,_,_,_,_,_,_,_,_,_,_,_,_,_,_,_,_,_,_,_,_,_,_,_,_,_,_,_,_,_,_,_,rfl,by omega,k0,Mod.refl _⟩ ?_
 rintro e hg ⟨i,sp,sG,ga,gb,a3,a4,a5,a6,a7,a8,a9,bb,bc,bd,be,bg,bh,bi,bj,bk,bm,bo,bp,bq,br,bs,bu,bv,bw,bx,bz,bA,bC,bD,bE,bF,bG,rfl,hi,G,mg⟩
 have xg:Ext h hg:=Mod.ext xz mg (fun j hj=>by omega)
 have zg:=mg.size
 have nG:=G.oG.1
 simp [X6] at nG
 by_cases ci:i<ks.length
 rotate_left
 ·have ai:¬ (i:Int)<t.n:=by omega
  have:i=ks.length:=by omega
  subst this
  simp [ai,-Zu,-Int.natCast_add]
  rw [Zu]
  have oF:=an (u:=ks.length) (Xd6 _)
  have ab:∀ x:Int,x∈ArF N L k ks ks.length↔∃ a:Nat,x=a/\a<N.as.length/\Zc (Zq L k) (Z0 N a)≠Zc (Zq L k) (Xd N a)/\Zc (Zq L (k+1)) (Xd N a)=c:=by
   intro x
   rw [Znw]
   constructor
   ·rintro ⟨u,hu,Z⟩
    obtain ⟨a,e,U⟩:=Vg H I (by omega) Z
    subst e
    obtain ⟨_,h1,J⟩:=(X5 H I (by omega)).1 Z
    obtain ⟨q,V,lq⟩:=kn u hu
    obtain ⟨w,w1,w2,w3⟩:=(aa _).1 (Zk.2 ⟨u,hu,rfl⟩)
    have hv:=(I.arcs a U).2
    simp [Zt] at hv
    refine ⟨a,rfl,U,h1,?_⟩
    rw [<-w2]
    exact Ziu H (by omega) (by unfold Xd; omega) w1 (by rw [J,w3,V]; rfl)
   ·rintro ⟨a,rfl,U,h1,J⟩
    have hv:=(I.arcs a U).2
    simp [Zt] at hv
    obtain ⟨u,lu,eu⟩:=Zk.1 ((aa (Zc (Zq L k) (Xd N a))).2 ⟨Xd N a,by unfold Xd; omega,J,rfl⟩)
    obtain ⟨q,V,lq⟩:=kn u lu
    exact ⟨u,lu,(X5 H I (by omega)).2 ⟨U,h1,by rw [<-eu,V]; rfl⟩⟩
  have ap:∀ e,e∈Zn N L (k+1) false c->e∈ArF N L k ks ks.length:=fun e he=>by
   obtain ⟨a,ea,U⟩:=Vg H I hk he
   subst ea
   obtain ⟨_,h1,J⟩:=(X5 H I hk).1 he
   have hv:=I.arcs a U
   simp [Zt] at hv
   exact (ab _).2 ⟨a,rfl,U,fun e=>h1 (Ziu H (by omega) (by unfold Z0; omega) (by unfold Xd; omega) e),J⟩
  have li:=Wb (N:=N) (L:=L) (k:=k+1) (c:=c) (x:=false)
  have lo:=Wb (N:=N) (L:=L) (k:=k+1) (c:=c) (x:=true)
  have lA:=ag (u:=ks.length) (Xd6 _)
  have nS:=G.oS.1
  simp [X6] at nS
  rw [Q7] at nS
  have bH:Mod (fun j=>j=M\/j=B10) hz hg:=mg
  have ac:∀ {b:Nat} {cs:Array Value},Ys hz b cs->b≠M->b≠B10->Ys hg b cs:=fun hb h1 J=>mg.blk hb (fun e=>by rcases e with e | e; exact h1 e; exact J e)
  refine Zzk X (g.ext xg) I (n:=ks.length) (a:=ga) (b:=gb) (f:=gI N L k ks true) (ac ((((((Bca.ext eb).ext ed).ext ee).ext ef)).ext ez) (by omega) (by omega)) (r1.ext xg) (r2.ext xg) G.b10 G.mp (ac (((Brd.ext ee).ext ef).ext ez) (by omega) (by omega)) ap (by omega) (by omega) Xc G.oG.ok (by omega) aD (fun u hu=>?_) (fun u hu=>(G.ob u hu).row64) (fun u hu=>by
   have:=Wb (N:=N) (L:=L) (k:=k) (c:=(Zc ks u).toNat) (x:=true); unfold gI; omega) (fun u m hu Z hp=>?_) ?_
  ·obtain ⟨g1,g2⟩:=Zfx (l:=(List.range ks.length).map fun u=>((ga u).v,(gb u).v)) (i:=u) (by simpa using hu)
   simp at g1 g2
   have:=Zal (h:=hg) (b:=sG.b) (l:=[(ga u).v,(gb u).v]) (o:=sG.o+u * 2) (fun i v hv=>by
    match i,hv with
    | 0,hv=>simp at hv; subst hv; exact G.oG.cell g1
    | 1,hv=>simp at hv; subst hv; exact G.oG.cell g2
    | i+2,hv=>simp at hv)
   exact this
  ·obtain ⟨a,e,U⟩:=Vg H I (by omega) Z
   subst e
   obtain ⟨_,h1,J⟩:=(Ud H I (by omega)).1 Z
   obtain ⟨w,w1,w2,w3⟩:=(aa _).1 (Zk.2 ⟨u,hu,rfl⟩)
   obtain ⟨q,V,lq⟩:=kn u hu
   have hv:=I.arcs a U
   simp [Zt] at hv
   have aq:Zc (Zq L (k+1)) (Z0 N a)=c:=by
    rw [<-w2]
    exact Ziu H (by omega) (by unfold Z0; omega) w1 (by rw [J,w3,V]; rfl)
   refine (ab _).2 ⟨a,rfl,U,h1,Xey fun q=>?_⟩
   have aE:(a:Int)∈Zn N L (k+1) true c:=(Ud H I hk).2 ⟨U,fun e=>q (by rw [<-e,aq]),aq⟩
   have:=Qb (a:=(a:Int)) (l:=Zn N L (k+1) true c) (k:=0)
   have:=this.2 aE
   omega
  intro hw ss B17 sl mw aF bB aG nl ar
  have aV:=G.b10.lt
  have lz:=G.lz
  have xw:Ext h hw:=Mod.ext xg mw (fun j hj=>by omega)
  let fi:Nat->Int:=fun u=>((SpF N L k ks ks.length).getD u (0,0)).1
  let O:Nat->Nat:=fun u=>((SpF N L k ks ks.length).getD u (0,0)).2
  have aj:∀ u,u<(ArF N L k ks ks.length).length->∃ i j,i<ks.length/\j<(gI N L k ks false i).length/\Zc (ArF N L k ks ks.length) u=Zc (gI N L k ks false i) j/\fi u=enV N L k (Zc ks i).toNat (j:Nat) 0/\O u=i:=fun u hu=>by
   obtain ⟨i,j,h1,J,h3,h4⟩:=Xaw hu
   exact ⟨i,j,h1,J,h3,by simp [fi,h4],by simp [O,h4]⟩
  let ad:Nat->List Yp:=fun i=>(gI N L k ks true i).map (Xv N (Zn N L (k+1) true c) (ArF N L k ks ks.length))
  let st:Nat->List Yp:=fun u=>if u<(ArF N L k ks ks.length).length then stK r (fi u).toNat (ad (O u)) else []
  have ae:∀ u (a:Nat),u<(ArF N L k ks ks.length).length->Zc (ArF N L k ks ks.length) u=a->∃ j,j<(gI N L k ks false (O u)).length/\Zc (gI N L k ks false (O u)) j=(a:Int)/\fi u=enV N L k (Zc ks (O u)).toNat (j:Nat) 0/\Zc (Zq L k) (Xd N a)=Zc ks (O u)/\O u<ks.length:=fun u a hu ha=>by
   obtain ⟨i,j,h1,J,h3,h4,h5⟩:=aj u hu
   obtain ⟨q,V,lq⟩:=kn i h1
   have Z:(a:Int)∈gI N L k ks false i:=Zk.2 ⟨j,J,by rw [<-h3,ha]⟩
   have:=((X5 H I (by omega)).1 Z).2.2
   subst h5
   exact ⟨j,J,by rw [<-h3,ha],h4,by rw [this,V]; rfl,h1⟩
  have KD:Zri N L r (Zn N L (k+1) true c) (ArF N L k ks ks.length) k c fi (fun u=>ad (O u)) st:=by
   refine ⟨oF,ab,fun u a hu ha=>?_,fun u a hu ha=>?_,fun u=>rfl⟩
   ·obtain ⟨j,j1,j2,j3,j4,_⟩:=ae u a hu ha
    rw [j3,j4]
    congr 1
    have:=Xb (l:=Zn N L k false (Zc ks (O u)).toNat) Xc.once j1
    rw [show Zc (Zn N L k false (Zc ks (O u)).toNat) j=(a:Int) from j2] at this
    exact this.symm
   ·obtain ⟨j,j1,j2,j3,j4,_⟩:=ae u a hu ha
    show (gI N L k ks true (O u)).map _=_
    rw [j4]; rfl
  have ak:=G.oS.mod mw (fun hn e=>by have:=G.dS hn; omega)
  have KH:Z6v hw B10 B17 B7 (ArF N L k ks ks.length).length r fi O ad ks.length:=by
   refine ⟨⟨sp,sl,sc,mw.blk G.b10 (by omega),bB,mw.blk (ac ((((B7b.ext ed).ext ee).ext ef).ext ez) (by omega) (by omega)) (by omega),rc.ext xw,ak.ok,by omega,aG,nl,fun u hu=>?_,ar⟩,fun u hu=>?_,fun i hi=>?_,fun u hu aH=>?_,?_,c0,fun i x hi hx=>?_⟩
   ·obtain ⟨i,j,h1,J,h3,h4⟩:=Xaw hu
    have au:u<((SpF N L k ks ks.length).map spV).length:=by rw [Xea,Q7]; exact hu
    obtain ⟨g1,g2⟩:=Zfx (l:=(SpF N L k ks ks.length).map spV) (i:=u) au
    rw [Xev] at g1 g2
    have he:(SpF N L k ks ks.length)[u]'(by rw [Q7]; exact hu)=(enV N L k (Zc ks i).toNat (j:Nat) 0,i):=by
     have:=h4
     rw [Xfe (by rw [Q7]; exact hu)] at this
     simpa using this
    rw [he] at g1 g2
    have f1:fi u=enV N L k (Zc ks i).toNat (j:Nat) 0:=by simp [fi,h4]
    have f2:O u=i:=by simp [O,h4]
    rw [f1,f2]
    exact ⟨ak.cell g1,ak.cell g2⟩
   ·obtain ⟨i,j,h1,J,h3,h4,h5⟩:=aj u hu
    omega
   ·have:=Wb (N:=N) (L:=L) (k:=k) (c:=(Zc ks i).toNat) (x:=true)
    show ((gI N L k ks true i).map _).length<=_
    rw [Xea]
    unfold gI
    omega
   ·obtain ⟨i,j,h1,J,h3,h4,h5⟩:=aj u hu
    obtain ⟨q,V,lq⟩:=kn i h1
    have hl:(ad (O u)).length=(Zn N L k true q).length:=by
     show ((gI N L k ks true (O u)).map _).length=_
     rw [Xea,h5]; unfold gI; rw [V]; rfl
    have av:0<(Zn N L k true q).length:=by rw [<-hl]; exact List.length_pos_iff.2 aH
    rw [hl,h4,V,lc]
    have hj:j<(Zn N L k false q).length:=by unfold gI at J; rw [V] at J; exact J
    exact Zpl (show k<L.length by omega) lq hj av
   ·have:=Q2 I H (k:=L.length) (Xd6 _)
    rw [lc]
    omega
   ·obtain ⟨m,Z,rfl⟩:=List.mem_map.1 hx
    obtain ⟨a,e,U⟩:=Vg H I (by omega) Z
    subst e
    exact Zwh I
  have:=hr hw (ArF N L k ks ks.length) fi (fun u=>ad (O u)) st ss _ xw KD aF (Zxl X.next KH (fun u hu=>by show (if _ then _ else _)=_; rw [if_pos hu])) rfl ap (by omega)
  rw [show (ArF N L k ks ks.length).length=sp.n by omega] at this
  exact this
 have ai:(i:Int)<t.n:=by omega
 have aI:i<t.n:=by omega
 have wi:IntKind.i64.wrap ((i:Int)+1)=(i:Int)+1:=Ze (by omega)
 have wk:IntKind.i64.wrap (((k+1:Nat):Int)+1-1)=(k:Int)+1:=by rw [Ze (by omega)]; omega
 have aw:IntKind.i64.wrap ((k+1:Nat):Int)=(k:Int)+1:=by rw [Ze (by omega)]; omega
 obtain ⟨q,V,lq⟩:=kn i ci
 have vi:=((ot.mod mg (fun _=>by omega)).row64).val i ci
 rw [V] at vi
 have ax:∀ x,gI N L k ks x i=Zn N L k x q:=fun x=>by unfold gI; rw [V]; rfl
 simp [ai,aI,Zb ot.ok,vi,wk,aw,-Int.natCast_add]
 refine Zca X.A (v.ext xg) I H (by omega) lq ?_
 intro hh a b eh oa ob fa fb
 rw [<-ax] at oa ob
 have zh:=eh.size
 simp [-Int.natCast_add]
 refine Zd ?_
 intro D hj gD Dj ej
 replace Dj:Ys hj D #[.slice none 0 0,.slice none 0 0]:=Dj
 have lD:=Dj.lt
 simp [-Int.natCast_add]
 refine Zi (vs:=#[a.v,b.v]) Dj rfl rfl (by simp) ?_
 intro aJ Dk mk
 have ek:Ext hh aJ:=Mod.toExtF ej mk gD
 simp [Zy Dk,-Int.natCast_add]
 refine Zg0 (by simp) (by simp) ?_
 intro E hl gE El el
 have xl:Ext hg hl:=(eh.trans ek).trans el
 simp [-Int.natCast_add]
 refine Zjx rfl (G.oG.ext' xl) El (by simp) (by simp) (by omega) (by omega) ?_
 intro ay Z om nm mm hs
 have zl:=xl.size
 have kz:=G.lz
 have kj:=ej.size
 have kk:=mk.size
 have kl:=el.size
 have km:=G.addG xl ((oa.ext' ek).ext' el) ((ob.ext' ek).ext' el) fa fb mm om hs
 have Dm:=mm.blk (Dk.ext el) (fun e=>by have:=G.oG.lt e.1; omega)
 have az:Mod (fun j=>j=M\/j=B10) hz Z:=by
  refine ⟨by have:=mm.size; omega,fun x hx hn=>?_⟩
  rw [mm.get x (by omega) (fun e=>by have:=G.dG e.1; omega),xl.get x (by omega) (fun h=>h),mg.get x hx hn]
 have af:Yb Z 1 a (Zh (gI N L k ks false i)):=by
  have:=km.oa i (by omega)
  simpa using this
 have bJ:=af.row64.len
 simp [Dm.hc,-Int.natCast_add]
 refine Zj (Kb2 Bc B7 Br B10 M i q (.pointer (some ⟨p,0,none⟩)) (.pointer (some ⟨op,0,none⟩)) (.int .i64 (((k+1:Nat):Int)+1)) (.int .i64 c) (.agg #[s1.v,s2.v]) sc.v t ay a (fun u=>if u=i then a else ga u) (fun u=>if u=i then b else gb u) N L k ks hz) (fun e _=>(gI N L k ks false i).length-Zo e 32) ⟨0,sp,_,_,_,_,_,_,_,_,_,_,_,_,_,_,_,_,_,_,_,_,_,_,_,_,_,_,_,_,rfl,by omega,by rw [Zso,Z28]; exact km,az⟩ ?_
 clear af az Dm km nm om hs mm kl kk kj kz zl xl El gE el ek mk Dk lD Dj gD ej fa fb oa ob eh zh vi nG zg xg mg G
 rintro e hn ⟨j,sp,bK,bM,bN,bO,bP,bQ,bR,bS,bT,bU,bV,bW,bX,bY,bZ,b0,b6,b7,b8,b9,ca,cb,cc,cd,cf,cg,ch,ck,rfl,hj,G,mg⟩
 have xg:Ext h hn:=Mod.ext xz mg (fun j hj=>by omega)
 have zg:=mg.size
 have af:Yb hn 1 a (Zh (gI N L k ks false i)):=by
  have:=G.oa i (by omega)
  simpa using this
 by_cases cj:j<(gI N L k ks false i).length
 rotate_left
 ·have al:¬ (j:Int)<a.n:=by omega
  have:j=(gI N L k ks false i).length:=by omega
  subst this
  rw [Znz,Z40] at G
  simp [al,wi,-Int.natCast_add]
  exact ⟨⟨i+1,sp,ay,_,_,_,_,_,_,_,_,_,_,_,_,_,_,_,_,_,_,_,_,_,_,_,_,_,_,_,_,_,_,_,_,_,_,_,rfl,by omega,G,mg⟩,by simp [Zo]; omega⟩
 have al:(j:Int)<a.n:=by omega
 have aK:j<a.n:=by omega
 have wj:IntKind.i64.wrap ((j:Int)+1)=(j:Int)+1:=Ze (by have:=Wb (N:=N) (L:=L) (k:=k) (c:=q) (x:=false); rw [<-ax] at this; omega)
 have vj:=af.row64.val j cj
 have nS:=G.oS.1
 have lS:sp.n<=N.as.length:=by
  have e1:(SpP N L k ks i j).length<=(SpF N L k ks (i+1)).length:=by
   rw [Zv4,Q7,<-Znz]
   unfold ArP
   simp
   omega
  rw [Q7] at e1
  have:=ag (u:=i+1) (by omega)
  simp [X6] at nS
  omega
 have aL:(ArP N L k ks i j).length=sp.n:=by rw [<-Zv4]; simp [X6] at nS; omega
 have aA:=Z3i H I (by omega) ah.once (fun i hi=>by obtain ⟨q,e,_⟩:=kn i hi; exact ⟨q,e⟩) ci cj
 simp [al,aK,Zb af.ok,vj,G.b10.hc,-Int.natCast_add]
 refine Zk2 G.mp (by rw [X7,if_neg aA]) ?_
 intro aM M1 m1
 have aN:Ww (ArP N L k ks i j) 0++[(Zc (gI N L k ks false i) j,Value.int .i64 sp.n)]=Ww (ArP N L k ks i (j+1)) 0:=by rw [Zgl cj,Zef,<-aL]; simp
 rw [aN] at M1
 have lz:=G.lz
 have b1:=m1.blk G.b10 (by omega)
 simp [b1.hc,wk,aw,-Int.natCast_add]
 have x1:Ext h aM:=Mod.ext xg m1 (fun j hj=>by omega)
 refine Zb2 X.A (v.ext x1) I H (by omega) lq ?_
 intro cl e2
 have b2:=b1.ext e2
 have aO:∀ g (x:Int),Yg.sem Y g (.build #[.int .i64 0,.int .i64 0] [(0,1),(1,1)] [0,1]) [.int .i64 x,.int .i64 i]=some (.agg #[.int .i64 x,.int .i64 i]):=fun g x=>rfl
 simp [b2.hc,aO,-Int.natCast_add]
 refine Zg0 rfl rfl ?_
 intro E cm gE E3 e3
 have b3:=b2.ext e3
 simp [b3.hc,-Int.natCast_add]
 have aP:=((G.oS.mod m1 (fun hn e=>by have:=G.dS hn; omega)).ext' e2).ext' e3
 refine Zjx rfl aP E3 rfl rfl (by omega) (by omega) ?_
 intro aQ cn o4 n4 m4 aR
 have z1:=m1.size
 have z2:=e2.size
 have z3:=e3.size
 have z4:=m4.size
 have b4:=m4.blk b3 (fun e=>by have:=G.dS e.1; omega)
 simp [-Int.natCast_add]
 refine stB b4 (by simp) ?_
 intro aS b5 m5
 simp at b5
 have aT:enV N L k (Zc ks i).toNat (j:Nat) 0=enV N L k q (j:Nat) 0:=by rw [V]; rfl
 have k5:=G.addS (s:=(enV N L k q (j:Nat) 0,i)) m1 (by rw [<-Zgl cj]; exact M1) (e2.trans e3) m4 o4 aR m5 b5
 rw [<-Zgl cj] at k5
 have aB:=Zzv (N:=N) (L:=L) (k:=k) (ks:=ks) cj
 rw [aT] at aB
 rw [<-aB] at k5
 have m5z:Mod (fun j=>j=M\/j=B10) hz aS:=by
  refine ⟨by have:=m5.size; omega,fun x hx am=>?_⟩
  rw [m5.get x (by omega) (fun e=>am (.inr e)),m4.get x (by omega) (fun e=>by have:=G.dS e.1; omega),e3.get x (by omega) (fun h=>h),e2.get x (by omega) (fun h=>h),m1.get x (by omega) (fun e=>am (.inl e)),mg.get x hx am]
 simp [wj,-Int.natCast_add]
 exact ⟨⟨j+1,aQ,_,_,_,_,_,_,_,_,_,_,_,_,_,_,_,_,_,_,_,_,_,_,_,_,_,_,_,_,rfl,by omega,k5,m5z⟩,by simp [Zo]; omega⟩
end
def Zn5 (N:Zg) (L:List (List Int)) (k c:Nat) (E:List Int):Prop :=
 ∀ i o a b:Nat,i<(Zn N L k false c).length->o<(Zn N L k true c).length->Zc (Zn N L k false c) i=a->Zc (Zn N L k true c) o=b->Zas (Zk1 N (Zc (Zq L k)) c a b) (Zc E (i * (Zn N L k true c).length+o))
def Zi0 (N:Zg) (L:List (List Int)) (costs:List Int) (k:Nat):Prop :=
 ∀ c,c<Zw L k->∀ i o a b:Nat,i<(Zn N L k false c).length->o<(Zn N L k true c).length->Zc (Zn N L k false c) i=a->Zc (Zn N L k true c) o=b->Zas (Zk1 N (Zc (Zq L k)) c a b) (Zc costs (levelS N L k+cellS N L k c+(i * (Zn N L k true c).length+o)))
theorem Zw6 {n:Nat} {L:List (List Int)} (D:Yx n L) {k:Nat} (G:k<L.length) (H:0<n):∃ v,v<n/\Zc (Zq L k) v=0:=by
 obtain ⟨O,r,I,_⟩:=Uh (D.lv k G)
 have J:0<(Xs (Zq L k)).toNat:=by
  obtain ⟨R,U,M⟩:=Zcj (l:=Zq L k) (n:=(n:Int)) (by omega) (fun j V=>by have:=(r j (by omega)).2; omega)
  have:=M 0 (by omega)
  have:=(r 0 H).1
  omega
 have h0:=I 0 J
 refine Xey fun q=>h0 ?_
 unfold Za0
 rw [Xhu,Xhv]
 intro x hx
 obtain ⟨v,a,b⟩:=Zk.1 hx
 simp
 intro e
 exact q ⟨v,by omega,by rw [b]; exact e⟩
theorem Zm4 {n:Nat} {L:List (List Int)} (D:Yx n L) {k:Nat} (G:k+1<L.length):Zic (Zc (Zq L k)) (Zc (Zq L (k+1))):=by
 obtain ⟨I,J,U,_⟩:=Uh (D.lv k (by omega))
 obtain ⟨M,O,V,R⟩:=Uh (D.lv (k+1) G)
 have r:∀ v,n<=v->Zc (Zq L k) v=0/\Zc (Zq L (k+1)) v=0:=fun v hv=>by
  constructor <;> simp [Zc,Xeu,I,M,hv]
 have zero:∀ u,u<n->Zc (Zq L k) u=0->Zc (Zq L (k+1)) u=0:=fun u hu e=>by
  obtain ⟨w,H,X⟩:=Zw6 D G (by omega)
  have:=R (by omega) u hu w H (by rw [show k+1-1=k from rfl,e]; exact (J w H).1)
  have:=(O u hu).1
  omega
 intro u v e
 by_cases hu:u<n
 ·by_cases hv:v<n
  ·exact Ziu D G hu hv e
  ·obtain ⟨a,b⟩:=r v (by omega)
   rw [b]
   exact zero u hu (by rw [e,a])
 ·obtain ⟨a,b⟩:=r u (by omega)
  by_cases hv:v<n
  ·rw [b]
   exact (zero v hv (by rw [<-e,a])).symm
  ·rw [b,(r v (by omega)).2]
theorem Zi0.ent {N:Zg} {L:List (List Int)} {r:List Int} {k:Nat} (h:Zi0 N L r k) (D:Yx N.vs.length L) (G:Yd N) (H:k<L.length):Zj0 N (Zc (Zq L k)) (Zbj N L r k):=by
 intro a b J h1 M
 have O:a<N.as.length:=Xey fun q=>J (by simp [Z0,Xd,Zf,Xeu (Nat.not_lt.1 q)])
 have lb:b<N.as.length:=Xey fun q=>M (by rw [<-h1]; simp [Z0,Xd,Zf,Xeu (Nat.not_lt.1 q)])
 obtain ⟨q,I,lq⟩:=Zko D G H O
 obtain ⟨i,R,U⟩:=Zk.1 ((X5 D G H (q:=q)).2 ⟨O,J,I⟩)
 obtain ⟨o,lo,V⟩:=Zk.1 ((Ud D G H (q:=q)).2 ⟨lb,fun e=>M (by rw [<-e,h1]),by rw [h1,I]⟩)
 have X:=Xb (Xc (N:=N) (L:=L) (k:=k) (c:=q) (x:=false)).once R
 have Z:=Xb (Xc (N:=N) (L:=L) (k:=k) (c:=q) (x:=true)).once lo
 rw [U] at X
 rw [V] at Z
 have:=h q lq i o a b R lo U V
 unfold Zbj
 rw [I]
 simp only [Xd9]
 rw [X,Z]
 have e:(enV N L k q i o).toNat=levelS N L k+cellS N L k q+(i * (Zn N L k true q).length+o):=by
  unfold enV
  rw [if_pos ⟨by omega,by omega,by omega,by omega⟩]
  have e:((i:Int) * ((Zn N L k true q).length:Int))=((i * (Zn N L k true q).length:Nat):Int):=by simp
  rw [e]
  omega
 rw [e]
 exact this
structure Z21 (Y:Sys):Prop where
 Lt:Zz7 Y
 By:Z7d Y
 Ky:Z2z Y
 One:Y.Has 360 Y360
section
variable {Y:Sys} {h h':Za}
theorem Zdy {P Q:Int->Prop} (e:∀ x,P x↔Q x) {d:Int} (h:Zas P d):Zas Q d:=⟨h.le,fun x hx=>h.all x ((e x).2 hx),h.is.imp id (e d).1⟩
theorem Zmq (X:Z21 Y) {p op:Nat} {N:Zg} {S:Nat->Prop} {L:List (List Int)} (g:Yv h p N S) (v:Up h op N L) (H:Yd N) (J:Yx N.vs.length L) {k c:Nat} (M:k<L.length) (hc:c<Zw L k) {sc:Sl} {r:List Int}
  (rc:Zz h sc r) (lc:r.length=levelS N L L.length) (c0:∀ i,i<r.length->0<=Zc r i/\Zc r i<=Xr) (ak:∀ j,j+1=k->Zi0 N L r j) {R:Value->Za->Prop}
  (hr:∀ h' t E,Ext h h'->Yb h' 1 t (Zh E)->E.length=entN N L k c->(t.nl=true\/h.size<=t.b)->Zn5 N L k c E->R t.v h') :
  Zm Y 360 [.pointer (some ⟨p,0,none⟩),.pointer (some ⟨op,0,none⟩),.int .i64 ((k:Int)+1),.int .i64 c,sc.v] h R:=by
 have hI:Xr=1152921504606846976:=rfl
 have bL:=J.bL
 have bG:=(Xi J M).2.2.1
 have ba:=H.ba
 have bE:=Zov (L:=L) (k:=k) (c:=c) H
 have li:=Wb (N:=N) (L:=L) (k:=k) (c:=c) (x:=false)
 have lo:=Wb (N:=N) (L:=L) (k:=k) (c:=c) (x:=true)
 refine .of_has X.One rfl ?_
 have c1:¬ (c:Int)<0:=by omega
 have c2:¬ (Zw L k:Int)<=c:=by omega
 have c3:¬ Zw L k<=c:=by omega
 simp [Y360,Xa.wp,c1]
 refine U1 X.Ky.A.O v M (by omega) ?_
 simp [c2,c3]
 refine Zca X.Ky.A v H J M hc ?_
 intro h1 a b e1 oa ob fa fb
 have la:=oa.row64.len
 have lb:=ob.row64.len
 simp
 refine Zd ?_
 intro D h2 gD D2 e2
 replace D2:Ys h2 D #[.slice none 0 0,.slice none 0 0]:=D2
 simp
 refine Zi (vs:=#[a.v,b.v]) D2 rfl rfl (by simp) ?_
 intro Z D3 m3
 have e3:Ext h1 Z:=Mod.toExtF e2 m3 gD
 have x3:Ext h Z:=e1.trans e3
 have ae:=oa.ext' e3
 have af:=ob.ext' e3
 simp [D3.hc]
 have V:∀ h',Ext h h'->((Zn N L k false c).length=0\/(Zn N L k true c).length=0)->R (.slice none 0 0) h':=fun h' e q=>by
  refine hr h' Sl.nil [] e Yb.nil ?_ (.inl rfl) (fun i o _ _ h1 h2=>by omega)
  unfold entN
  rcases q with q | q <;> rw [q] <;> simp
 by_cases z1:a.n=0
 ·simp [z1]
  exact V Z x3 (.inl (by omega))
 by_cases z2:b.n=0
 ·simp [z1,z2,D3.hc]
  exact V Z x3 (.inr (by omega))
 simp [z1,z2,D3.hc]
 by_cases z3:k=0
 ·subst z3
  simp [Zy D3,D3.hc]
  refine Zry X.By (g.ext x3) H ae.row64 af.row64 Xc Xc (fun j U=>Vg J H M (Zk.2 ⟨j,U,rfl⟩)) (by omega) ?_
  intro h4 As st ss fv e4 B au ag rs nx ab
  have x4:=x3.trans e4
  have av:As.length<=N.as.length:=Zcz B.once B.nat
  have G:((List.range (Zn N L 0 false c).length).map fun (k:Nat)=>(k:Int)).length=(Zn N L 0 false c).length:=by simp
  have ah:∀ j,j<(Zn N L 0 false c).length->Zc ((List.range (Zn N L 0 false c).length).map fun (k:Nat)=>(k:Int)) j=(j:Int):=fun j U=>by simp [Zc,U]
  simp [(D3.ext e4).hc]
  have ac:(Zn N L 0 false c).length * (Zn N L 0 true c).length<=268435456:=bE
  rw [<-lb]
  refine Zki X.Lt (B.ok H) (by omega) rs (fun j U=>⟨j,by rw [G] at U; exact ⟨ah j U,by omega⟩⟩) (by omega) (by rw [G]; exact ac) nx ab ?_
  intro h5 cb E e5 g5 o5 l5 hE
  rw [G] at o5 l5 hE
  simp only [G]
  simp
  refine hr h5 (Sl.at cb _ _) E (x4.trans e5) o5 (by rw [l5]; rfl) (.inr (by have:=x4.size; simp only [Sl.at_b]; omega)) (fun i o a' b' h1 h2 Z aa=>?_)
  have:=hE i h1 o h2
  rw [ah i h1] at this
  simp only [Xd9] at this
  have ad:(a':Int)∈Zn N L 0 false c:=Zk.2 ⟨i,h1,Z⟩
  have al:=((X5 J H M).1 ad).2.2
  refine Zdy (fun x=>?_) this
  exact B.thru (k:=(c:Int)) (ce:=Zc (Zq L 0)) (fun y=>by
   rw [Ud J H M]
   exact ⟨fun ⟨q1,q2,q3⟩=>⟨q1,q3,fun e=>q2 (by rw [q3,e])⟩,fun ⟨q1,q2,q3⟩=>⟨q1,fun e=>q3 (by rw [<-e,q2]),q2⟩⟩) Xc.once (by omega) (by rw [ag i h1]; exact Z) al h2 aa
 obtain ⟨k,rfl⟩:∃ k',k=k'+1:=⟨k-1,by omega⟩
 have z4:¬ ((k:Int)+1+1=1):=by omega
 have z5:¬ ((k:Int)+1=0):=by omega
 simp [z4,z5,Zy D3,D3.hc]
 rw [show ((k:Int)+1+1)=(((k+1:Nat):Int)+1) by omega]
 refine Zsd X.Ky (g.ext x3) (v.ext x3) H J M hc ae.row64 af.row64 (rc.ext x3) lc c0 ?_
 intro h4 Ar fi ls st ss fv e4 B rs nx ab am bA
 have x4:=x3.trans e4
 have I:=Zm4 J M
 have an:=ak k rfl
 have ai:∀ i,0<=Zc r i/\Zc r i<=Xr:=fun i=>by
  rcases Xd8 i r.length with q | q
  ·exact c0 i q
  ·have:Zc r i=0:=by simp [Zc,Xeu q]
   omega
 have ac:(Zn N L (k+1) false c).length * (Zn N L (k+1) true c).length<=268435456:=bE
 have G:((Zn N L (k+1) false c).map (Yc 0 Ar)).length=(Zn N L (k+1) false c).length:=by simp
 have hst:∀ j,j<(Zn N L (k+1) false c).length->∃ u:Nat,Zc ((Zn N L (k+1) false c).map (Yc 0 Ar)) j=u/\u<Ar.length/\Zc Ar u=Zc (Zn N L (k+1) false c) j:=fun j U=>by
  obtain ⟨u,lu,eu⟩:=Zk.1 (am _ (Zk.2 ⟨j,U,rfl⟩))
  have:=Xb B.once lu
  refine ⟨u,?_,lu,eu⟩
  rw [<-this,eu]
  simp [Zc,U]
 simp [(D3.ext e4).hc]
 rw [<-lb]
 refine Zki X.Lt (B.ok J H M rfl (fun i=>(ai i).1) I) bA rs (fun j U=>by
  rw [G] at U
  obtain ⟨u,q1,q2,_⟩:=hst j U
  exact ⟨u,q1,q2⟩) (by omega) (by rw [G]; exact ac) nx ab ?_
 intro h5 cb E e5 g5 o5 l5 hE
 rw [G] at o5 l5 hE
 simp only [G]
 simp
 refine hr h5 (Sl.at cb _ _) E (x4.trans e5) o5 (by rw [l5]; rfl) (.inr (by have:=x4.size; simp only [Sl.at_b]; omega)) (fun i o a' b' h1 h2 Z aa=>?_)
 have:=hE i h1 o h2
 obtain ⟨u,q1,q2,q3⟩:=hst i h1
 rw [q1] at this
 simp only [Xd9] at this
 have ad:(a':Int)∈Zn N L (k+1) false c:=Zk.2 ⟨i,h1,Z⟩
 have ao:(b':Int)∈Zn N L (k+1) true c:=Zk.2 ⟨o,h2,aa⟩
 obtain ⟨_,ap,aq⟩:=(X5 J H M).1 ad
 obtain ⟨_,ar,aj⟩:=(Ud J H M).1 ao
 have hT:Zas (Zre N (Zc (Zq L (k+1))) (Zc (Zq L k)) c (Zbj N L r k) a' b') (Zc E (i * (Zn N L (k+1) true c).length+o)):=Zdy (fun x=>B.thru J H M rfl (fun i=>(ai i).2) I q2 (by rw [q3]; exact Z) h2 aa) this
 exact (Zsi I (an.ent J H (by omega)) H (fun e=>ap (I _ _ e)) aq aj (fun e=>ar (by rw [aj,e]))).1 hT
end
def Zd3 (C:List Int) (o:Nat) (E:List Int):List Int:=C.take o++E++C.drop (o+E.length)
theorem Zg6 {C E:List Int} {o:Nat} (h:o+E.length<=C.length):(Zd3 C o E).length=C.length:=by simp [Zd3]; omega
theorem Zpe {C E:List Int} {o j:Nat} (h:o+E.length<=C.length):Zc (Zd3 C o E) j=if o<=j/\j<o+E.length then Zc E (j-o) else Zc C j:=by
 unfold Zd3 Zc
 simp only [Xee]
 rcases Xd8 j o with q | q
 ·rw [if_neg (by omega),Xe6,Xep (by simp; omega),Xen,if_pos q]
 ·rcases Xd8 j (o+E.length) with q' | q'
  ·rw [if_pos ⟨q,q'⟩,Xe6,Xe2 (by simp; omega),Xep (by simp; omega)]
   simp [Xff (show o<=C.length by omega)]
  ·rw [if_neg (by omega),Xe2 (by simp; omega),Xfg]
   simp [Xff (show o<=C.length by omega)]
   congr 2
   omega
theorem Zhh {h:Za} {K:Value->Za->Prop} {G n o:Nat} {C E:List Int} {t s2:Sl} (H:Yb h 1 (Sl.at G n n) (Zh C)) (r:Zz h t E) (U:o+E.length<=n) (V:s2 = { Sl.at G n n with o:=if n=o then 0 else o,n:=n-o,c:=n-o })
  (M:∀ h',Yb h' 1 (Sl.at G n n) (Zh (Zd3 C o E))->Mod (fun j=>j=G) h h'->K (.int .i64 E.length) h'):Ef.wp h K (.copy 1) [s2.v,t.v]:=by
 subst V
 have X:=r.len
 have Z:=H.row64.len
 simp only [Sl.at_n] at Z
 have hm:min t.n (n-o)=E.length:=by omega
 have hv:(Sl.v { Sl.at G n n with o:=if n=o then 0 else o,n:=n-o,c:=n-o }) = .slice (some ⟨G,if n=o then 0 else o,none⟩) (n-o) (n-o):=by simp [Sl.v,Sl.at]
 rw [hv]
 have D:=Zbu r
 rw [<-X] at D
 simp only [Ef.wp,Yq,hm,D]
 rcases H.2 with ⟨h1,_⟩ | ⟨_,_,_,h1,O,I,hb,R,ht⟩
 ·cases h1
 simp only [Sl.at_c,Sl.at_b,Sl.at_n,Xej] at hb R ht h1 O
 have J:I.toList.length=n:=by simp [R]
 rw [<-J,Xfl] at ht
 by_cases q:n=o
 ·have:E.length=0:=by omega
  have:E=[]:=List.length_eq_zero_iff.1 this
  subst this
  simp only [if_pos q,Zh,Xfv,hst]
  refine M h ?_ (Mod.refl _)
  have:Zd3 C o []=C:=by simp [Zd3]
  rw [this]; exact H
 ·simp only [if_neg q]
  obtain ⟨h',g1,g2,g3,_⟩:=Zeu (vs:=Zh E) (o:=o) hb (by simp; omega) Zc3
  rw [g1]
  refine M h' ⟨by simp [Zg6 (C:=C) (E:=E) (o:=o) (by omega)]; omega,.inr ⟨rfl,rfl,rfl,Xd6 _,O,_,g2,by simp; omega,?_⟩⟩ g3
  simp only [Sl.at_n,Xej]
  rw [Xef (by simp; omega),ht]
  simp [Zd3,Zh,Xhe,List.map_drop]
def Zbl (N:Zg) (L:List (List Int)) (C:List Int) (k c:Nat):Prop :=
 ∀ i o a b:Nat,i<(Zn N L k false c).length->o<(Zn N L k true c).length->Zc (Zn N L k false c) i=a->Zc (Zn N L k true c) o=b->Zas (Zk1 N (Zc (Zq L k)) c a b) (Zc C (levelS N L k+cellS N L k c+(i * (Zn N L k true c).length+o)))
theorem Z2d {N:Zg} {L:List (List Int)} {k c i o:Nat} (r:i<(Zn N L k false c).length) (D:o<(Zn N L k true c).length):i * (Zn N L k true c).length+o<entN N L k c:=by
 have:=Xe7 (Zn N L k true c).length (show i+1<=(Zn N L k false c).length from r)
 rw [Xet,Xg7] at this
 unfold entN
 omega
theorem Zb0 {N:Zg} {L:List (List Int)} {k c k' c':Nat} (hc:c<Zw L k) (hc':c'<Zw L k') (D:¬ (k=k'/\c=c')):levelS N L k+cellS N L k c+entN N L k c<=levelS N L k'+cellS N L k' c'\/levelS N L k'+cellS N L k' c'+entN N L k' c'<=levelS N L k+cellS N L k c:=by
 have r:∀ {k c k' c':Nat},c<Zw L k->(k<k'\/(k=k'/\c<c'))->levelS N L k+cellS N L k c+entN N L k c<=levelS N L k'+cellS N L k' c':=by
  intro k c k' c' hc h
  rcases h with h | ⟨rfl,h⟩
  ·have h1:=Zf0 (N:=N) (L:=L) (k:=k) (i:=c+1) (j:=Zw L k) hc
   have G:=Zh8 (N:=N) (L:=L) (i:=k+1) (j:=k') h
   simp only [levelS,cellS] at h1 G
   omega
  ·have h1:=Zf0 (N:=N) (L:=L) (k:=k) (i:=c+1) (j:=c') h
   simp only [cellS] at h1
   omega
 rcases Xgb k k' with h | h | h
 ·exact .inl (r hc (.inl h))
 ·subst h
  rcases Xgb c c' with h | h | h
  ·exact .inl (r hc (.inr ⟨rfl,h⟩))
  ·exact absurd ⟨rfl,h⟩ D
  ·exact .inr (r hc' (.inr ⟨rfl,h⟩))
 ·exact .inr (r hc' (.inl h))
theorem Zbl.put {N:Zg} {L:List (List Int)} {C E:List Int} {k c:Nat} (h:Zn5 N L k c E) (H:E.length=entN N L k c) (I:levelS N L k+cellS N L k c+entN N L k c<=C.length):Zbl N L (Zd3 C (levelS N L k+cellS N L k c) E) k c:=by
 intro i o a b r D G hb
 have:=Z2d r D
 rw [Zpe (by omega),if_pos ⟨by omega,by omega⟩,Xhw]
 exact h i o a b r D G hb
theorem Zbl.other {N:Zg} {L:List (List Int)} {C E:List Int} {k c k' c':Nat} (h:Zbl N L C k' c') (J:E.length=entN N L k c) (M:levelS N L k+cellS N L k c+entN N L k c<=C.length) (hc:c<Zw L k) (hc':c'<Zw L k') (r:¬ (k=k'/\c=c')):Zbl N L (Zd3 C (levelS N L k+cellS N L k c) E) k' c':=by
 intro i o a b D G H hb
 have:=Z2d D G
 have I:=Zb0 (N:=N) hc hc' r
 rw [Zpe (by omega),if_neg (by omega)]
 exact h i o a b D G H hb
theorem Z0p {N:Zg} (r:Yd N) {ce:Nat->Int} {k:Int} {i o:Nat} {x:Int} (h:Zk1 N ce k i o x):0<=x:=by
 obtain ⟨a,y,h1,D,rfl⟩:=h
 have:=Zea r h1
 have:=(Ws r (a:=(a:Int)) (b:=(o:Int))).resolve_left D
 omega
theorem Zn5.pos {N:Zg} {L:List (List Int)} {E:List Int} {k c:Nat} (G:Yd N) (H:Yx N.vs.length L) (I:k<L.length) (h:Zn5 N L k c E) (M:E.length=entN N L k c):∀ j,j<E.length->0<=Zc E j/\Zc E j<=Xr:=by
 intro j r
 rw [M] at r
 unfold entN at r
 have O:0<(Zn N L k true c).length:=by
  rcases Xgf (Zn N L k true c).length with q | q
  ·rw [q] at r; simp at r
  ·exact q
 have J:j / (Zn N L k true c).length<(Zn N L k false c).length:=Nat.div_lt_of_lt_mul (by rw [Nat.mul_comm]; exact r)
 have D:=Nat.mod_lt j O
 obtain ⟨a,R,_⟩:=Vg H G I (Zk.2 ⟨_,J,rfl⟩)
 obtain ⟨b,U,_⟩:=Vg H G I (Zk.2 ⟨_,D,rfl⟩)
 have:=h _ _ a b J D R U
 rw [Nat.div_add_mod'] at this
 refine ⟨?_,this.le⟩
 rcases this.is with q | q
 ·rw [q]; decide
 ·exact Z0p G q
structure Zeb (N:Zg) (L:List (List Int)) (C:List Int):Prop where
 len:C.length=levelS N L L.length
 c0:∀ i,i<C.length->0<=Zc C i/\Zc C i<=Xr
 inn:∀ k c,k<L.length->c<Zw L k->Zbl N L C k c
theorem Zeb.level {N:Zg} {L:List (List Int)} {C:List Int} (h:Zeb N L C) {k:Nat} (r:k<L.length):Zi0 N L C k:=fun c hc=>h.inn k c r hc
theorem Zrd {C E:List Int} {o:Nat} (h:o+E.length<=C.length) (D:∀ i,i<C.length->0<=Zc C i/\Zc C i<=Xr) (G:∀ j,j<E.length->0<=Zc E j/\Zc E j<=Xr):∀ i,i<(Zd3 C o E).length->0<=Zc (Zd3 C o E) i/\Zc (Zd3 C o E) i<=Xr:=by
 intro i r
 rw [Zg6 h] at r
 rw [Zpe h]
 split
 ·exact G _ (by omega)
 ·exact D i r
structure Z2u (Y:Sys):Prop where
 O:Z21 Y
 All:Y.Has 358 Y358
section
variable {Y:Sys} {h h':Za}
def Xda (v0 v1:Value) (cb n:Nat) (N:Zg) (L:List (List Int)) (h0:Za) (e:List Value) (h':Za):Prop :=
 ∃ (j:Nat) (C:List Int) (v6 v7 v8 v9 v10:Value),e=[v0,v1,.slice none 0 0,.slice (some ⟨cb,0,none⟩) n n,.int .i64 ((levelS N L j:Nat):Int),.int .i64 ((j:Int)+1),v6,v7,v8,v9,v10]/\j<=L.length/\Yb h' 1 (Sl.at cb n n) (Zh C)/\C.length=n/\(∀ i,i<C.length->0<=Zc C i/\Zc C i<=Xr) /\
  (∀ k c,k<j->c<Zw L k->Zbl N L C k c)/\Ext h0 h'
def Xde (v0 v1:Value) (cb n j:Nat) (N:Zg) (L:List (List Int)) (h0:Za) (e:List Value) (h':Za):Prop :=
 ∃ (c:Nat) (C:List Int) (v6 v7 v10:Value),e=[v0,v1,.slice none 0 0,.slice (some ⟨cb,0,none⟩) n n,.int .i64 ((levelS N L j+cellS N L j c:Nat):Int),.int .i64 ((j:Int)+1),v6,v7,.int .i64 (Zw L j),.int .i64 c,v10]/\c<=Zw L j/\Yb h' 1 (Sl.at cb n n) (Zh C)/\C.length=n/\(∀ i,i<C.length->0<=Zc C i/\Zc C i<=Xr) /\
  (∀ k c',k<j->c'<Zw L k->Zbl N L C k c')/\(∀ c',c'<c->Zbl N L C j c')/\Ext h0 h'
theorem Z0r (X:Z2u Y) {p op:Nat} {N:Zg} {S:Nat->Prop} {L:List (List Int)} (g:Yv h p N S) (v:Up h op N L) (ok:Yd N) (V:Yx N.vs.length L) {R:Value->Za->Prop}
  (hr:∀ h' G C,Ext h h'->h.size<=G->Yb h' 1 (Sl.at G (levelS N L L.length) (levelS N L L.length)) (Zh C)->Zeb N L C->R (.slice (some ⟨G,0,none⟩) (levelS N L L.length) (levelS N L L.length)) h') :
  Zm Y 358 [.pointer (some ⟨p,0,none⟩),.pointer (some ⟨op,0,none⟩)] h R:=by
 have hI:Xr=1152921504606846976:=rfl
 have bL:=V.bL
 have bS:=Q2 ok V (k:=L.length) (Xd6 _)
 refine .of_has X.All rfl ?_
 simp [Y358,Xa.wp]
 refine Zb6 X.O.Ky.A v ?_
 simp
 refine Zbd (n:=levelS N L L.length) (by omega) rfl ?_
 intro G h1 ac o1 e1 ag
 simp
 refine Zj (Xda (.pointer (some ⟨p,0,none⟩)) (.pointer (some ⟨op,0,none⟩)) G (levelS N L L.length) N L h) (fun e _=>L.length+1-Zo e 5) ⟨0,_,_,_,_,_,_,rfl,by omega,o1,by simp,fun i hi=>by simp [Zc] at hi ⊢; simp [hi],fun k c Z=>by omega,e1⟩ ?_
 rintro e h2 ⟨j,C,v6,v7,v8,v9,ah,rfl,hj,H,I,J,M,D⟩
 simp
 refine Zdr X.O.Ky.A.O (v.ext D) ?_
 by_cases cj:j<L.length
 rotate_left
 ·have U:¬ (j:Int)+1<=L.length:=by omega
  have:j=L.length:=by omega
  subst this
  simp [U]
  exact hr h2 G C D ac H ⟨I,J,fun k c Z hc=>M k c Z hc⟩
 have U:(j:Int)+1<=L.length:=by omega
 have wj:IntKind.i64.wrap ((j:Int)+1+1)=(j:Int)+1+1:=Ze (by omega)
 have bG:=(Xi V cj).2.2.1
 simp [U]
 refine U1 X.O.Ky.A.O (v.ext D) cj (by omega) ?_
 simp
 refine Zj (Xde (.pointer (some ⟨p,0,none⟩)) (.pointer (some ⟨op,0,none⟩)) G (levelS N L L.length) j N L h) (fun e _=>Zw L j-Zo e 9) ⟨0,C,_,_,_,rfl,by omega,H,I,J,M,fun c' h=>by omega,D⟩ ?_
 clear M J I H D
 clear C h2
 rintro e h2 ⟨c,C,w6,w7,ai,rfl,hc,H,I,J,M,dc,D⟩
 by_cases cc:c<Zw L j
 rotate_left
 ·have ad:¬ (c:Int)<Zw L j:=by omega
  have:c=Zw L j:=by omega
  subst this
  have aa:levelS N L (j+1)=levelS N L j+cellS N L j (Zw L j):=rfl
  simp [wj,-Int.natCast_add]
  refine ⟨⟨j+1,C,_,_,_,_,_,by rw [aa]; rfl,by omega,H,I,J,fun k c' Z hc'=>?_,D⟩,by simp [Zo]; omega⟩
  by_cases q:k=j
  ·subst q; exact dc c' hc'
  ·exact M k c' (by omega) hc'
 have ad:(c:Int)<Zw L j:=by omega
 have wc:IntKind.i64.wrap ((c:Int)+1)=(c:Int)+1:=Ze (by omega)
 have ce:=Zky (N:=N) cj cc
 have aj:((levelS N L j+cellS N L j c:Nat):Int)<=((levelS N L L.length:Nat):Int):=by omega
 have r:=Zc5 (Y:=Y) (h:=h2) (s:=Sl.at G (levelS N L L.length) (levelS N L L.length)) (sz:=1) (k:=.i64) (j:=((levelS N L j+cellS N L j c:Nat):Int)) H.ok (by omega) (by simp only [Sl.at_n]; omega)
 simp only [Xd9,Xej,Sl.at_o,Sl.at_n,Sl.at_c,Xes,Sl.at_v] at r
 generalize ae:({ Sl.at G (levelS N L L.length) (levelS N L L.length) with o:=if levelS N L L.length=levelS N L j+cellS N L j c then 0 else levelS N L j+cellS N L j c,n:=levelS N L L.length-(levelS N L j+cellS N L j c),c:=levelS N L L.length-(levelS N L j+cellS N L j c) }:Sl)=s2 at r
 simp [cc,r,-Int.natCast_add]
 rw [<-Sl.at_v]
 refine Zmq X.O (g.ext D) (v.ext D) ok V cj cc H.row64 I J (fun i hi c' hc'=>M i c' (by omega) hc') ?_
 intro h3 t E e3 ot lE ft hE
 have af:=H.ext' e3
 have hp:=hE.pos ok V cj lE
 simp [-Int.natCast_add]
 refine Zhh af ot.row64 (o:=levelS N L j+cellS N L j c) (by omega) ae.symm ?_
 intro h4 o4 m4
 have w5:IntKind.i64.wrap (((levelS N L j+cellS N L j c:Nat):Int)+(E.length:Int))=((levelS N L j+cellS N L j (c+1):Nat):Int):=by
  rw [Ze (by omega)]
  simp only [cellS]
  omega
 have ak:=wc
 simp [w5,wc,-Int.natCast_add]
 have ab:levelS N L j+cellS N L j c+E.length<=C.length:=by omega
 refine ⟨⟨c+1,_,_,_,_,rfl,by omega,o4,by rw [Zg6 ab]; exact I,Zrd ab J hp,fun k c' Z hc'=>(M k c' Z hc').other lE (by omega) cc hc' (by omega),fun c' hc'=>?_,Mod.ext (D.trans e3) m4 (fun i hi=>by omega)⟩,by simp [Zo]; omega⟩
 by_cases q:c'=c
 ·subst q; exact Zbl.put hE lE (by omega)
 ·exact (dc c' (by omega)).other lE (by omega) cc (by omega) (by omega)
end
end Go.Rm
