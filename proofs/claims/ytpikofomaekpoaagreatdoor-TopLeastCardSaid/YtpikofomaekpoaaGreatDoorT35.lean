import Derived.Test.YtpikofomaekpoaaGreatDoorT33
import Derived.Test.YtpikofomaekpoaaGreatDoorT34
/- Parts. -/
set_option linter.unusedSimpArgs false
set_option linter.unusedVariables false
namespace Go.Rm
def Zns (Y:Sys) (B10 B17 B7:Nat):Value:=.func (.func (Y.fid 441)) #[] #[Zh B10,Zh B17,Zh B7]
section
variable {Y:Sys} {h h':Zk}
theorem Zqx {h:Zk} {K:Ze} {b o:Nat} {B10 B17 B7:Nat}:Ef.wp h K (.store 1) [.pointer (some ⟨b,o,none⟩),Zns Y B10 B17 B7]=Xt h b o (Zns Y B10 B17 B7) K:=Qh rfl
def Ka8 (Bc B7 Br B10 M D B17:Nat) (v0 v1 v2 v3 v4 v5 v11:Value) (s1:Sl) (Ar ins:Zb) (n:Nat) (h0:Zk) (e:Zc) (h':Zk):Prop :=
 ∃ (i:Nat) (ss:Sl) (v12 v13 v14 v15 v16 v18 v19 v20 v21 v22 v23 v25 v26 v27 v28 v29 v30 v31 v32 v33 v34 v35 v36 v37 v38 v39 v40 v41 v42 v43 v47:Value),
  e=[v0,v1,v2,v3,v4,v5,Zh Bc,Zh B7,Zh Br,.map (some M),Zh B10,v11,v12,v13,v14,v15,v16,Zh B17,v18,v19,v20,v21,v22,v23,Zh D,v25,v26,v27,v28,v29,v30,v31,v32,v33,v34,v35,v36,v37,v38,v39,v40,v41,v42,v43,s1.v,Zg s1.n,Zg i,v47]/\i<=ins.length /\
  Xb h' D #[Zg n,ss.v,.nilFunc]/\Ym h' 1 ss (Zq ((ins.take i).map (Yg 0 Ar)))/\(ss.nl=false->h0.size<=ss.b)/\Mod (fun j=>j=D) h0 h'
theorem Zzv {Bc B7 Br B10 M B17:Nat} {H s2 I:Sl} {ins Ar:Zb} {v0 v1 v2 v3 v4 v5 aa ab ac ad ae af ag ah ai aj ak al am an ao ap aq ar au av aw ax ay az aA aB aC aD aE aF aG aH aI aJ aK aL:Value}
  (bc:Xb h Bc #[H.v,s2.v]) (r1:Yd h H ins) (aM:Xb h B10 #[I.v]) (mp:Zc7 h M (Vp Ar 0)) (br:Xb h Br #[Zg 0,Zi,.nilFunc]) (aN:∀ e,e∈ins->e∈Ar) (bi:ins.length<=100000) {R:Ze}
  (hr:∀ h' ss,Mod (fun j=>j=Br) h h'->Yd h' ss (ins.map (Yg 0 Ar))->R (.agg #[Zg I.n,ss.v,Zns Y B10 B17 B7]) h') :
  Stmt.wp Y Y398.body.rest.rest.rest.rest.rest.rest.rest (U4 [.box 8 3 true] R) (fun _ _ _=>False) (U4 [.box 8 3 true] R)
   [v0,v1,v2,v3,v4,v5,Zh Bc,Zh B7,Zh Br,.map (some M),Zh B10,aa,ab,ac,ad,ae,af,Zh B17,ag,ah,ai,aj,ak,al,am,an,ao,ap,aq,ar,au,av,aw,ax,ay,az,aA,aB,aC,aD,aE,aF,aG,aH,aI,aJ,aK,aL] h:=by
 have l1:=r1.len;have aO:∀ g,Yo.sem Y g (.build #[Zg 0,Zi,.nilFunc] [(0,1),(1,1),(2,1)] [0]) [Zg I.n]=some (.agg #[Zg I.n,Zi,.nilFunc]):=fun g=>rfl;simp [Y398,Stmt.rest,aM.hc,aO];refine Zn ?_;intro D hh gD Dh eh;replace Dh:Xb hh D #[Zg 0,Zi,.nilFunc]:=Dh;have lD:=Dh.lt;simp;refine Zs (vs:=#[Zg I.n,Zi,.nilFunc]) Dh rfl rfl (by intro v hv;simp at hv;rcases hv with rfl | rfl | rfl <;> rfl) ?_;intro hj Dj mj;have zj:=mj.size;have ej:Ext h hj:=Mod.toExtF eh mj gD;simp [(bc.ext ej).hc];refine Zt (Ka8 Bc B7 Br B10 M D B17 v0 v1 v2 v3 v4 v5 aa H Ar ins I.n hj) (fun e _=>ins.length-Zy e 46) ⟨0,Sl.nil,_,_,_,_,_,_,_,_,_,_,_,_,_,_,_,_,_,_,_,_,_,_,_,_,_,_,_,_,_,_,_,rfl,by omega,Dj,Ym.nil,fun h=>(by cases h),Mod.refl _⟩ ?_;rintro e hk ⟨q,ss,aT,aU,aV,aW,aX,aY,aZ,a0,a1,a2,a3,a4,a5,a6,a7,a8,a9,ba,bb,bd,be,bg,bh,bj,bk,bm,bn,bo,bp,bq,bs,rfl,hq,Dk,os,X,mk⟩;have aP:=os.1;simp at aP;have zk:=mk.size;by_cases Z:q<ins.length
 ·have J:(q:Int)<H.n:=by omega
  have bu:q<H.n:=by omega
  have w1:=Zj (i:=q) (by omega);have bv:H.nl=false:=by
   cases aQ:H.nl with
   | false=>rfl
   | true=>have:=(r1.ok.nil aQ).1;omega
  have bw:=Vj r1 (fun e=>by rw [e] at Z;simp at Z);have vv:=((r1.ext ej).mod mk (fun _=>by omega)).val q Z;have hm:=Zw.2 ⟨q,Z,rfl⟩;have lM:=mp.lt;have O:=Zux (Y:=Y) ((mp.ext ej).mod mk (by omega)) (x:=Zl ins q) (z:=Zg 0);rw [U8,if_pos (aN _ hm)] at O;simp at O;simp [J,Zm r1.ok,vv,Dk.hc,O];refine Xp rfl ?_;intro b hl gl Bl el;simp;refine Wg rfl (os.ext' el) Bl (by omega) (by omega) ?_;intro r hm om nm U hs;have Dm:=U.blk (Dk.ext el) (fun e=>by have:=X e.1;omega);simp;refine stB Dm (by simp) ?_;intro hn Dn mn;simp at Dn;have zl:=el.size;have zm:=U.size;have on:Ym hn 1 r (Zq ((ins.take (q+1)).map (Yg 0 Ar))):=by
   have:=om.mod mn (fun V e=>by
    rcases hs with ⟨x,y⟩ | ⟨x,y⟩
    ·have:=X (by rw [<-y];exact V);omega
    omega)
   have ht:Zq ((ins.take (q+1)).map (Yg 0 Ar))=Zq ((ins.take q).map (Yg 0 Ar))++[Zg (Yg 0 Ar (Zl ins q))]:=by
    rw [Xgc Z,Xgt];simp only [Zq,Xgt,Xha,Xhr];rw [show Zl ins q=ins[q] by simp [Zl,Z]]
   rw [ht];exact this
  have aR:r.nl=false->hj.size<=r.b:=fun V=>by
   rcases hs with ⟨x,y⟩ | ⟨x,y⟩
   ·have:=X (by rw [<-y];exact V);omega
   omega
  have e1:Mod (fun j=>j=D) hj hn:=by
   refine ⟨by have:=mn.size;omega,fun i hi G=>?_⟩;rw [mn.get i (by omega) G,U.get i (by omega) (fun e=>by have:=X e.1;omega),el.get i (by omega) (fun h=>h),mk.get i hi G]
  simp [w1];exact ⟨⟨q+1,r,_,_,_,_,_,_,_,_,_,_,_,_,_,_,_,_,_,_,_,_,_,_,_,_,_,_,_,_,_,_,_,rfl,by omega,Dn,on,aR,e1⟩,by simp [Zy];omega⟩
 have J:¬ (q:Int)<H.n:=by omega
 have:q=ins.length:=by omega
 subst this;have aS:∀ g,Yo.sem Y g (.mkf 441 0) [Zh B10,Zh B17,Zh B7]=some (Zns Y B10 B17 B7):=fun g=>rfl;have bx:=br.lt;simp [J,aS];rw [Zqx];refine stB Dk (by simp) ?_;intro hl Dl ml;simp at Dl;have zl:=ml.size;have Brl:=ml.blk (mk.blk (br.ext ej) (by omega)) (by omega);simp [Yj Dl];refine Zs (vs:=#[Zg I.n,ss.v,Zns Y B10 B17 B7]) Brl rfl rfl (by intro v hv;simp at hv;rcases hv with rfl | rfl | rfl <;> rfl) ?_;intro hm Bm U;simp;refine Xj rfl Bm rfl ?_;have e2:Mod (fun j=>j=Br) h hm:=by
  refine ⟨by have:=U.size;omega,fun i hi G=>?_⟩;rw [U.get i (by omega) G,ml.get i (by omega) (by omega),mk.get i (by omega) (by omega),ej.get i (by omega) (fun h=>h)]
 rw [Xf7 (Xfy _)] at os;exact hr hm ss e2 ((os.mod ml (fun hn=>by have:=X hn;omega)).mod U (fun hn=>by have:=X hn;omega)).row64
def Xcp (x:Xe):Value × Value × Value:=Xz x
structure KaP (h0 h:Zk) (B17 bl n i:Nat) (P:List (Sl × List Xe)) (f:Nat->Zb) (stp:Int->Xe):Prop where
 lp:P.length=i
 ex:Ext h0 h
 b17:Xb h B17 #[(Sl.at bl n n).v]
 rw:∀ p,p∈P->Z6 h p.1 p.2
 dP:∀ p,p∈P->p.2≠[]->h0.size<=p.1.b/\p.1.b≠bl/\p.1.b≠B17
 row:∀ k,k<i->Zl1 P k=(f k).map stp
 lB:h0.size<=B17/\h0.size<=bl/\B17≠bl
theorem KaP.ext {h0:Zk} {B17 bl n i:Nat} {P:List (Sl × List Xe)} {f:Nat->Zb} {r:Int->Xe} (k:KaP h0 h B17 bl n i P f r) (e:Ext h h'):KaP h0 h' B17 bl n i P f r :=
 ⟨k.lp,k.ex.trans e,k.b17.ext e,fun p hp=>(k.rw p hp).ext e,k.dP,k.row,k.lB⟩
def Ka4 (Bc B7 Br B10 M B17 bl n:Nat) (v0 v1 v2 v3 v4 v5:Value) (sG:Sl) (f:Nat->Zb) (stp:Int->Xe) (h0:Zk) (e:Zc) (h':Zk):Prop :=
 ∃ (i:Nat) (P:List (Sl × List Xe)) (v12 v13 v14 v15 v16 v18 v19 v20 v21 v22 v23 v24 v25 v26 v27 v28 v29 v30 v31 v32 v33 v37 v38 v39 v40 v41 v42 v43 v44 v45 v46 v47:Value),
  e=[v0,v1,v2,v3,v4,v5,.pointer (some ⟨Bc,0,none⟩),.pointer (some ⟨B7,0,none⟩),.pointer (some ⟨Br,0,none⟩),.map (some M),.pointer (some ⟨B10,0,none⟩),sG.v,v12,v13,v14,v15,v16,.pointer (some ⟨B17,0,none⟩),v18,v19,v20,v21,v22,v23,v24,v25,v26,v27,v28,v29,v30,v31,v32,v33,sG.v,.int .i64 sG.n,.int .i64 i,v37,v38,v39,v40,v41,v42,v43,v44,v45,v46,v47]/\i<=n /\
  KaP h0 h' B17 bl n i P f stp/\Ym h' 1 (Sl.at bl n n) ((P.map fun p=>p.1.v)++List.replicate (n-i) (.slice none 0 0))
def Ka6 (Bc B7 Br B10 M B17 bl n i:Nat) (v0 v1 v2 v3 v4 v5:Value) (sG b:Sl) (f:Nat->Zb) (stp:Int->Xe) (h0:Zk) (e:Zc) (h':Zk):Prop :=
 ∃ (j:Nat) (P:List (Sl × List Xe)) (sT:Sl) (v12 v13 v14 v15 v16 v19 v20 v21 v22 v23 v24 v25 v26 v27 v28 v29 v30 v31 v32 v33 v37 v41 v42 v43 v44 v45 v46 v47:Value),
  e=[v0,v1,v2,v3,v4,v5,.pointer (some ⟨Bc,0,none⟩),.pointer (some ⟨B7,0,none⟩),.pointer (some ⟨Br,0,none⟩),.map (some M),.pointer (some ⟨B10,0,none⟩),sG.v,v12,v13,v14,v15,v16,.pointer (some ⟨B17,0,none⟩),.int .i64 i,v19,v20,v21,v22,v23,v24,v25,v26,v27,v28,v29,v30,v31,v32,v33,sG.v,.int .i64 sG.n,.int .i64 i,v37,b.v,.int .i64 b.n,.int .i64 j,v41,v42,v43,v44,v45,v46,v47]/\j<=(f i).length /\
  KaP h0 h' B17 bl n i P f stp/\Ym h' 1 (Sl.at bl n n) ((P.map fun p=>p.1.v)++sT.v::List.replicate (n-i-1) (.slice none 0 0))/\Ym h' 3 sT (Ye ((((f i).take j).map stp).map Xz))/\(sT.nl=false->h0.size<=sT.b/\sT.b≠bl/\sT.b≠B17/\∀ p,p∈P->p.2≠[]->p.1.b≠sT.b)
theorem Zzg {K:Ze} {n:Nat} {m:Int} (G:n<=1000000) (r:m=n) (D:∀ (b:Nat) (h':Zk),h.size<=b->Ym h' 1 (Sl.at b n n) (List.replicate n (.slice none 0 0))->Ext h h'->b<h'.size->K (.slice (some ⟨b,0,none⟩) n n) h') :
  Ef.wp h K (.mkslice 1 24 #[.slice none 0 0]) [.int .i64 m,.int .i64 m]:=by
 subst r;rw [Vq];refine ⟨by omega,by omega,by omega,by omega,fun t=>?_⟩;simp only [Xf1,Xgd,Ui];exact D h.size _ (Xfy _) ⟨by simp,.inr ⟨rfl,rfl,rfl,by simp,by simp;omega,_,Xb.new,by simp,by simp⟩⟩ Mod.push (by simp)
structure Z4q (Y:Sys):Prop where
 G:WkG Y
 S:Zs5 Y
 K:Zu9 Y
 A:Zgi Y
 byKids:Y.Has 398 Y398
 next:Y.Has 441 Y441
set_option maxHeartbeats 2000000 in
theorem Z1a (X:Z4q Y) {p:Nat} {N:Zr} {S:Zf} (g:Xc h p N S) (ok:Yl N) {Bc B7 Br B10 M n:Nat} {s1 s2 sp O:Sl} {ins outs Ar:Zb} {f:Nat->Zb} {a b:Nat->Sl} {v1 v2 v3 v4 v5 ao ap aq ar au av aw ax ay az aA aB aC aD aE aF aG aH aI aJ aK aL aM aN aO aP aQ aR aS aT aU aV aW aX aY aZ:Value}
  (bc:Xb h Bc #[s1.v,s2.v]) (r1:Yd h s1 ins) (r2:Yd h s2 outs) (a0:Xb h B10 #[sp.v]) (mp:Zc7 h M (Vp Ar 0)) (br:Xb h Br #[.int .i64 0,.slice none 0 0,.nilFunc]) (a1:∀ e,e∈ins->e∈Ar) (bi:ins.length<=100000) (bo:outs.length<=100000) (ro:Zcb outs)
  (a2:O.ok) (nG:O.n=n) (bn:n<=4096) (a3:∀ i,i<n->rd h O.b (O.o+i * 2) 2=some [(a i).v,(b i).v]) (a4:∀ i,i<n->Yd h (b i) (f i)) (lf:∀ i,i<n->(f i).length<=16384) (hf:∀ i m,i<n->m∈f i->Yg 0 outs m<0->m∈Ar) {R:Ze}
  (hr:∀ (h':Zk) (ss:Sl) (B17:Nat) (sl:Sl),Mod (fun j=>j=Br) h h'->Yd h' ss (ins.map (Yg 0 Ar))->Xb h' B17 #[sl.v]->sl.ok->sl.n=n->(∀ i,i<n->∃ u:Sl,hc h' sl.b (sl.o+i)=some u.v/\Z6 h' u ((f i).map (Wh N outs Ar)))->R (.agg #[.int .i64 sp.n,ss.v,Zns Y B10 B17 B7]) h') :
  Stmt.wp Y Y398.body.rest.rest.rest.rest.rest (U4 [.box 8 3 true] R) (fun _ _ _=>False) (U4 [.box 8 3 true] R)
   [.pointer (some ⟨p,0,none⟩),v1,v2,v3,v4,v5,.pointer (some ⟨Bc,0,none⟩),.pointer (some ⟨B7,0,none⟩),.pointer (some ⟨Br,0,none⟩),.map (some M),.pointer (some ⟨B10,0,none⟩),O.v,ao,ap,aq,ar,au,av,aw,ax,ay,az,aA,aB,aC,aD,aE,aF,aG,aH,aI,aJ,aK,aL,aM,aN,aO,aP,aQ,aR,aS,aT,aU,aV,aW,aX,aY,aZ] h:=by
 have l2:=r2.len;simp [Y398,Stmt.rest,-Yc];refine Zzg (n:=n) (by omega) (by omega) ?_;intro bl ha bm ol ea bp;simp [-Yc];refine Zn ?_;intro B17 hb gB Bb eb;replace Bb:Xb hb B17 #[.slice none 0 0]:=Bb;simp [-Yc];refine stB Bb (by simp) ?_;intro hd Bd md;simp at Bd;have xd:Ext h hd:=ea.trans (Mod.toExtF eb md gB);have bq:=br.lt;have a5:=ol.ext' eb |>.mod md (fun _=>by simp only [Sl.at_b];omega);simp [-Yc];rw [Yc];simp [-Yc];rw [Yc];simp [-Yc];refine Zt (Ka4 Bc B7 Br B10 M B17 bl n (.pointer (some ⟨p,0,none⟩)) v1 v2 v3 v4 v5 O f (Wh N outs Ar) h) (fun e _=>n-Zy e 36) ⟨0,[],_,_,_,_,_,_,_,_,_,_,_,_,_,_,_,_,_,_,_,_,_,_,_,_,_,_,_,_,_,_,_,_,rfl,by omega,⟨rfl,xd,Bd,fun p hp=>by simp at hp,fun p hp=>by simp at hp,fun k hk=>by omega,by omega⟩,by simpa using a5⟩ ?_;rintro e he ⟨i,P,bs,bu,bv,bw,bx,bz,bA,bB,bC,bD,bE,bF,bG,bH,bJ,bK,bL,bM,bN,bO,bP,bQ,bR,bS,bT,bU,bV,bW,bX,bY,bZ,b0,rfl,hi,H,oL⟩;have lP:=H.lp;have zx:=H.ex.size;by_cases c:i<n;rotate_left
 ·have c':¬ (i:Int)<O.n:=by omega
  have:i=n:=by omega
  subst this;simp [c',-Yc];rw [Yc];refine Zzv (bc.ext H.ex) (r1.ext H.ex) (a0.ext H.ex) (mp.ext H.ex) (br.ext H.ex) a1 bi ?_;intro h' ss m' rs;have lb:=H.lB;refine hr h' ss B17 (Sl.at bl i i) ((H.ex.mono fun _ _ h=>h.elim).trans m') rs (m'.blk H.b17 (by omega)) ⟨fun h=>(by cases h),Xfy _,.inl rfl⟩ rfl (fun k hk=>?_);obtain ⟨pp,hp,a6,a7⟩:=Zry (P:=P) (k:=k) (by omega);have a8:=oL.mod m' (fun _=>by simp only [Sl.at_b];omega);refine ⟨pp.1,a8.cell (by rw [Xgh (by simp;omega),List.getElem?_map,a6];rfl),?_⟩;rw [<-H.row k hk,<-a7];exact (H.rw pp hp).mod m' (fun I=>by have:=H.dP pp hp I;omega)
 have c':(i:Int)<O.n:=by omega
 have w1:=Zj (i:=i) (by omega);have ae:=a3 i c;have b1:O.b<h.size:=by
  refine Xgq fun q=>?_;have:rd h O.b (O.o+i * 2) 2=none:=by
   simp [Rm.rd,hc,Xhx (Nat.not_lt.1 q)]
  rw [this] at ae
  cases ae
 have ac:=Mod.rd H.ex ae (fun h=>h);have rb:=a4 i c;have b2:=rb.len;have b3:=lf i c;simp [c',Zm a2,ac];refine Zn ?_;intro D a9 gD Df ef;replace Df:Xb a9 D #[.slice none 0 0,.slice none 0 0]:=Df;simp;refine Zs (vs:=#[(a i).v,(b i).v]) Df rfl rfl (by simp) ?_;intro hg Dg mg;have eg:Ext he hg:=Mod.toExtF ef mg gD;simp [Dg.hc];have kg:=H.ext eg;have og:=oL.ext' eg;have ad:List.replicate (n-i) (Value.slice none 0 0)=Sl.nil.v::List.replicate (n-i-1) (Value.slice none 0 0):=by
  rw [show n-i=(n-i-1)+1 by omega,Xi8];rfl
 rw [ad] at og;refine Zt (Ka6 Bc B7 Br B10 M B17 bl n i (.pointer (some ⟨p,0,none⟩)) v1 v2 v3 v4 v5 O (b i) f (Wh N outs Ar) h) (fun e _=>(f i).length-Zy e 40) ⟨0,P,Sl.nil,_,_,_,_,_,_,_,_,_,_,_,_,_,_,_,_,_,_,_,_,_,_,_,_,_,_,_,_,rfl,by omega,kg,og,Ym.nil,fun h=>(by cases h)⟩ ?_;clear og kg mg Dg ef Df gD ac lP zx ad eg oL H hi;clear P;rintro e hh ⟨j,P,U,b4,b5,b6,b7,b8,b9,ca,cb,cc,cd,cf,cg,ch,ci,ck,cl,cm,cn,co,cp,cq,cr,ct,cu,cv,cw,cy,cz,rfl,hj,H,oL,oT,V⟩;have lP:=H.lp;have zx:=H.ex.size;have lB:=H.lB;have ba:=rb.ext H.ex;by_cases cj:j<(f i).length;rotate_left
 ·have af:¬ (j:Int)<(b i).n:=by omega
  rw [Xf7 (by omega)] at oT;have rT:=oT.row3;have bb:(f i).map (Wh N outs Ar)≠[]->U.nl=false:=fun I=>by
   cases bd:U.nl with
   | false=>rfl
   | true =>
    have:=(oT.ok.nil bd).1;have:=rT.len;exact absurd (List.length_eq_zero_iff.1 (by omega)) I
  simp [af,w1];refine ⟨⟨i+1,P++[(U,(f i).map (Wh N outs Ar))],_,_,_,_,_,_,_,_,_,_,_,_,_,_,_,_,_,_,_,_,_,_,_,_,_,_,_,_,_,_,_,_,rfl,by omega,⟨by simp [lP],H.ex,H.b17,fun q hq=>?_,fun q hq I=>?_,fun k hk=>?_,lB⟩,?_⟩,by simp [Zy];omega⟩
  ·rcases List.mem_append.1 hq with w | w
   ·exact H.rw q w
   simp at w;subst w;exact rT
  ·rcases List.mem_append.1 hq with w | w
   ·exact H.dP q w I
   simp at w;subst w;have:=V (bb I);exact ⟨this.1,this.2.1,this.2.2.1⟩
  ·rcases Xf0 k i with w | w
   ·rw [Zn3 (by omega)];exact H.row k w
   have:k=P.length:=by omega
   rw [this,Znp,lP]
  have:n-(i+1)=n-i-1:=by omega
  rw [this];simpa using oL
 have af:(j:Int)<(b i).n:=by omega
 have wj:=Zj (i:=j) (by omega);have vm:=ba.val j cj;have an:=Zw.2 ⟨j,cj,rfl⟩;generalize hm:Zl (f i) j=m at vm an;have ht:((f i).take (j+1)).map (Wh N outs Ar)=((f i).take j).map (Wh N outs Ar)++[Wh N outs Ar m]:=by
  rw [Xgc cj,Xgt,<-hm];simp [Zl,cj]
 have nT:=oT.n3;simp at nT;simp [af,Zm rb.ok,vm,(bc.ext H.ex).hc];refine Zbl X.S (r2.ext H.ex) (by omega) ro ?_;have be:∀ g (x:Int),Yo.sem Y g (.build #[.int .i64 0,.int .i64 0,.int .i64 0] [(0,1),(1,1),(2,1)] [1]) [.int .i64 x]=some (.agg #[.int .i64 0,.int .i64 x,.int .i64 0]):=fun g x=>rfl;simp [be];refine Zn ?_;intro E hk gE Ek ek;replace Ek:Xb hk E #[.int .i64 0,.int .i64 0,.int .i64 0]:=Ek;simp;refine Zs (vs:=#[.int .i64 0,.int .i64 (Yg 0 outs m),.int .i64 0]) Ek rfl rfl (by simp) ?_;intro hl El ml;have el:Ext hh hl:=Mod.toExtF ek ml gE;simp [El.hc];by_cases d:Yg 0 outs m<0
 ·have bg:=hf i m c an d;have bh:Yg 0 outs m = -1:=Zd0 (fun h=>by have:=Qr (a:=m) (l:=outs) (k:=0);have:=this.2 h;omega);have ag:=Znd (Y:=Y) ((mp.ext H.ex).ext el) (x:=m) (z:=.int .i64 0);rw [U8,if_pos bg] at ag;simp at ag;have xl:=H.ex.trans el;simp [d,ag];refine Z8 X.G.Weight X.G.arc (g.ext xl) ?_;simp;refine stB El (by simp) ?_;intro cA E2 m2;simp at E2;simp;refine stB E2 (by simp) ?_;intro bj E3 m3;simp at E3;have x1:Ext hh bj:=Mod.toExtF ek (ml.trans (m2.trans m3)) gE;have hst:Xcp (Wh N outs Ar m)=(.int .i64 (Yg 0 Ar m),.int .i64 (Yg 0 outs m),.int .i64 (Zu N m)):=by unfold Wh;rw [if_pos d,bh];rfl
  have kx:=H.ext x1;have ox:=oL.ext' x1;have ah:=oT.ext' x1;have Z:∀ g,Yo.sem Y g (.idxa 1) [.slice (some ⟨bl,0,none⟩) n n,.int .i64 i]=some (.pointer (some ⟨bl,i,none⟩)):=fun g=>by
   have:=Vb (Y:=Y) (h:=g) (b:=bl) (sz:=1) (show n<=9223372036854775807 by omega) c (Xfy n);simpa using this
  have aa:∀ g,Ym g 1 (Sl.at bl n n) ((P.map fun p=>p.1.v)++U.v::List.replicate (n-i-1) (.slice none 0 0))->hc g bl i=some U.v:=fun g o=>by
   have:=o.cell (i:=i) (v:=U.v) (by rw [Xgv (by simp;omega)];simp [lP]);simpa using this
  have ai:=aa _ ox;simp [kx.b17.hc,Z,ai,Yj E3];refine Z9 ?_;intro q hq gq Bq eq;have J:=kx.ext eq;have oq:=ox.ext' eq;have aj:=aa _ oq;simp [J.b17.hc,aj];refine Up rfl (ah.ext' eq) Bq rfl rfl rfl (by omega) (by omega) ?_;intro r ak or mr hs;have b17r:=mr.blk J.b17 (fun e=>by have:=V e.1;omega);have al:=oq.mod mr (fun _ e=>by have:=V e.1;simp only [Sl.at_b] at e;omega);simp [b17r.hc,Z];refine Zir al (k:=i) (by simp;omega) ?_;intro bk ot mt;have zq:=J.ex.size;have zr:=mr.size;have e3:Ye (List.map Xz (List.map (Wh N outs Ar) (List.take j (f i)))++[((.int .i64 (Yg 0 Ar m),.int .i64 (Yg 0 outs m),.int .i64 (Zu N m)))])=Ye (((((f i).take (j+1)).map (Wh N outs Ar))).map Xz):=by rw [ht,Xgt,<-hst];rfl
  simp only [Xhh] at e3;have am:Ym ak 3 r (Ye ((((f i).take (j+1)).map (Wh N outs Ar)).map Xz)):=by
   rw [<-hst] at or;rw [ht,Xgt];exact or
  have ab:r.nl=false->r.b≠bl/\h.size<=r.b/\r.b≠B17/\∀ p,p∈P->p.2≠[]->p.1.b≠r.b:=fun I=>by
   rcases hs with ⟨x,y⟩ | ⟨x,y⟩
   ·have:=V (by rw [<-y];exact I);rw [x];exact ⟨this.2.1,this.1,this.2.2.1,this.2.2.2⟩
   have:=J.b17.lt;have:=oq.lt rfl;simp only [Sl.at_b] at this;exact ⟨by omega,by omega,by omega,fun p hp I=>by have:=Zbs (J.rw p hp) I;omega⟩
  have Vd:((P.map fun p=>p.1.v)++U.v::List.replicate (n-i-1) (Value.slice none 0 0)).set i r.v=(P.map fun p=>p.1.v)++r.v::List.replicate (n-i-1) (Value.slice none 0 0):=by
   rw [List.set_append_right _ _ (by simp;omega)];simp [lP]
  rw [Vd] at ot;simp [wj];refine ⟨⟨j+1,P,r,_,_,_,_,_,_,_,_,_,_,_,_,_,_,_,_,_,_,_,_,_,_,_,_,_,_,_,_,rfl,by omega,⟨lP,Mod.ext (Mod.ext J.ex mr (fun x hx=>by have:=V hx.1;omega)) mt (fun x hx=>by omega),mt.blk b17r (by omega),fun p hp=>((J.rw p hp).mod mr (fun I e=>by have:=(V e.1).2.2.2 p hp I;omega)).mod mt (fun I e=>by have:=H.dP p hp I;omega),H.dP,H.row,lB⟩,ot,am.mod mt (fun I e=>by have:=ab I;omega),fun I=>by have:=ab I;exact ⟨this.2.1,this.1,this.2.2.1,this.2.2.2⟩⟩,by simp [Zy];omega⟩
 simp only [if_neg d];have hst:Xcp (Wh N outs Ar m)=(.int .i64 0,.int .i64 (Yg 0 outs m),.int .i64 0):=by unfold Wh;rw [if_neg d];rfl
 have kx:=H.ext el;have ox:=oL.ext' el;have ah:=oT.ext' el;have Z:∀ g,Yo.sem Y g (.idxa 1) [.slice (some ⟨bl,0,none⟩) n n,.int .i64 i]=some (.pointer (some ⟨bl,i,none⟩)):=fun g=>by
  have:=Vb (Y:=Y) (h:=g) (b:=bl) (sz:=1) (show n<=9223372036854775807 by omega) c (Xfy n);simpa using this
 have aa:∀ g,Ym g 1 (Sl.at bl n n) ((P.map fun p=>p.1.v)++U.v::List.replicate (n-i-1) (.slice none 0 0))->hc g bl i=some U.v:=fun g o=>by
  have:=o.cell (i:=i) (v:=U.v) (by rw [Xgv (by simp;omega)];simp [lP]);simpa using this
 have ai:=aa _ ox;simp [kx.b17.hc,Z,ai,Yj El];refine Z9 ?_;intro q hq gq Bq eq;have J:=kx.ext eq;have oq:=ox.ext' eq;have aj:=aa _ oq;simp [J.b17.hc,aj];refine Up rfl (ah.ext' eq) Bq rfl rfl rfl (by omega) (by omega) ?_;intro r ak or mr hs;have b17r:=mr.blk J.b17 (fun e=>by have:=V e.1;omega);have al:=oq.mod mr (fun _ e=>by have:=V e.1;simp only [Sl.at_b] at e;omega);simp [b17r.hc,Z];refine Zir al (k:=i) (by simp;omega) ?_;intro bk ot mt;have zq:=J.ex.size;have zr:=mr.size;have e3:Ye (List.map Xz (List.map (Wh N outs Ar) (List.take j (f i)))++[((.int .i64 0,.int .i64 (Yg 0 outs m),.int .i64 0))])=Ye (((((f i).take (j+1)).map (Wh N outs Ar))).map Xz):=by rw [ht,Xgt,<-hst];rfl
 simp only [Xhh] at e3;have am:Ym ak 3 r (Ye ((((f i).take (j+1)).map (Wh N outs Ar)).map Xz)):=by
  rw [<-hst] at or;rw [ht,Xgt];exact or
 have ab:r.nl=false->r.b≠bl/\h.size<=r.b/\r.b≠B17/\∀ p,p∈P->p.2≠[]->p.1.b≠r.b:=fun I=>by
  rcases hs with ⟨x,y⟩ | ⟨x,y⟩
  ·have:=V (by rw [<-y];exact I);rw [x];exact ⟨this.2.1,this.1,this.2.2.1,this.2.2.2⟩
  have:=J.b17.lt;have:=oq.lt rfl;simp only [Sl.at_b] at this;exact ⟨by omega,by omega,by omega,fun p hp I=>by have:=Zbs (J.rw p hp) I;omega⟩
 have Vd:((P.map fun p=>p.1.v)++U.v::List.replicate (n-i-1) (Value.slice none 0 0)).set i r.v=(P.map fun p=>p.1.v)++r.v::List.replicate (n-i-1) (Value.slice none 0 0):=by
  rw [List.set_append_right _ _ (by simp;omega)];simp [lP]
 rw [Vd] at ot;simp [wj];refine ⟨⟨j+1,P,r,_,_,_,_,_,_,_,_,_,_,_,_,_,_,_,_,_,_,_,_,_,_,_,_,_,_,_,_,rfl,by omega,⟨lP,Mod.ext (Mod.ext J.ex mr (fun x hx=>by have:=V hx.1;omega)) mt (fun x hx=>by omega),mt.blk b17r (by omega),fun p hp=>((J.rw p hp).mod mr (fun I e=>by have:=(V e.1).2.2.2 p hp I;omega)).mod mt (fun I e=>by have:=H.dP p hp I;omega),H.dP,H.row,lB⟩,ot,am.mod mt (fun I e=>by have:=ab I;omega),fun I=>by have:=ab I;exact ⟨this.2.1,this.1,this.2.2.1,this.2.2.2⟩⟩,by simp [Zy];omega⟩
end
section
variable {N:Zr} {L:Za} {k:Nat} {ks:Zb}
def gI (N:Zr) (L:Za) (k:Nat) (ks:Zb) (x:Bool) (u:Nat):Zb:=Zx N L k x (Zl ks u).toNat
def spF (N:Zr) (L:Za) (k:Nat) (ks:Zb) (u:Nat):List (Int × Nat):=(List.range (gI N L k ks false u).length).map fun j=>(enV N L k (Zl ks u).toNat (j:Nat) 0,u)
def ArF (N:Zr) (L:Za) (k:Nat) (ks:Zb) (u:Nat):Zb:=(List.range u).flatMap (gI N L k ks false)
def SpF (N:Zr) (L:Za) (k:Nat) (ks:Zb) (u:Nat):List (Int × Nat):=(List.range u).flatMap (spF N L k ks)
theorem Zmp {u:Nat}:ArF N L k ks (u+1)=ArF N L k ks u++gI N L k ks false u:=by simp [ArF,Xh4]
theorem Zl4 {u:Nat}:SpF N L k ks (u+1)=SpF N L k ks u++spF N L k ks u:=by simp [SpF,Xh4]
def ArP (N:Zr) (L:Za) (k:Nat) (ks:Zb) (u j:Nat):Zb:=ArF N L k ks u++(gI N L k ks false u).take j
def SpP (N:Zr) (L:Za) (k:Nat) (ks:Zb) (u j:Nat):List (Int × Nat):=SpF N L k ks u++(spF N L k ks u).take j
theorem Zub {u:Nat}:ArP N L k ks u 0=ArF N L k ks u:=by simp [ArP]
theorem Z40 {u:Nat}:SpP N L k ks u 0=SpF N L k ks u:=by simp [SpP]
theorem Zpm {u:Nat}:ArP N L k ks u (gI N L k ks false u).length=ArF N L k ks (u+1):=by rw [Zmp];simp [ArP]
theorem Zj6 {u:Nat}:(spF N L k ks u).length=(gI N L k ks false u).length:=by simp [spF]
theorem Z6s {u:Nat}:SpP N L k ks u (gI N L k ks false u).length=SpF N L k ks (u+1):=by
 rw [Zl4];unfold SpP;rw [Xf7 (by rw [Zj6];exact Xfy _)]
theorem Zhl {u j:Nat} (r:j<(gI N L k ks false u).length):ArP N L k ks u (j+1)=ArP N L k ks u j++[Zl (gI N L k ks false u) j]:=by
 unfold ArP;rw [Xgc r,Xgu,show Zl (gI N L k ks false u) j=(gI N L k ks false u)[j] by simp [Zl,r]]
theorem Z1k {u j:Nat} (r:j<(gI N L k ks false u).length):SpP N L k ks u (j+1)=SpP N L k ks u j++[(enV N L k (Zl ks u).toNat (j:Nat) 0,u)]:=by
 unfold SpP;rw [Xgc (by rw [Zj6];exact r),Xgu];simp [spF]
theorem Zav:∀ {u:Nat},(SpF N L k ks u).length=(ArF N L k ks u).length:=by
 intro u
 induction u with
 | zero=>rfl
 | succ u ih=>rw [Zl4,Zmp,Xf9,Xf9,ih,Zj6]
theorem Zxv {u j:Nat}:(SpP N L k ks u j).length=(ArP N L k ks u j).length:=by
 unfold SpP ArP;rw [Xf9,Xf9,Zav,Xgp,Xgp,Zj6]
theorem Zpj {u:Nat} {x:Int}:x∈ArF N L k ks u↔∃ i,i<u/\x∈gI N L k ks false i:=by simp [ArF]
theorem Xct:∀ {u p:Nat},p<(ArF N L k ks u).length->∃ i j,i<u/\j<(gI N L k ks false i).length/\Zl (ArF N L k ks u) p=Zl (gI N L k ks false i) j/\(SpF N L k ks u)[p]? = some (enV N L k (Zl ks i).toNat (j:Nat) 0,i):=by
 intro u
 induction u with
 | zero=>intro p h;simp [ArF] at h
 | succ u ih =>
  intro p h;rw [Zmp] at h ⊢;rw [Zl4];rcases Xf0 p (ArF N L k ks u).length with q | q
  ·obtain ⟨i,j,h1,h2,h3,h4⟩:=ih q;exact ⟨i,j,by omega,h2,by rw [Uj q];exact h3,by rw [Xgh (by rw [Zav];exact q)];exact h4⟩
  have r:=h;rw [Xf9] at r;refine ⟨u,p-(ArF N L k ks u).length,by omega,by omega,?_,?_⟩
  ·simp [Zl,Xgv q]
  rw [Xgv (by rw [Zav];exact q),Zav];simp [spF,show p-(ArF N L k ks u).length<(gI N L k ks false u).length by omega]
theorem Z5a (r:Yv N.vs.length L) (D:Yl N) (G:k<L.length) (X:Zf3 ks) (O:∀ i,i<ks.length->∃ q:Nat,Zl ks i=q) {u j:Nat} (hu:u<ks.length) (H:j<(gI N L k ks false u).length):Zl (gI N L k ks false u) j ∉ ArP N L k ks u j:=by
 intro h;have h0:=Zw.2 ⟨j,H,rfl⟩;rcases List.mem_append.1 h with q | q
 ·obtain ⟨i,I,J⟩:=Zpj.1 q;obtain ⟨a,e,Z⟩:=Uh r D G h0;unfold gI at h0 J;rw [show Zl (Zx N L k false (Zl ks u).toNat) j=(a:Int) from e] at J;rw [show Zl (Zx N L k false (Zl ks u).toNat) j=(a:Int) from e] at h0;have R:=((Zan r D G).1 h0).2.2;have e2:=((Zan r D G).1 J).2.2;obtain ⟨q1,U⟩:=O u hu;obtain ⟨q2,V⟩:=O i (by omega);rw [U] at R;rw [V] at e2;simp at R e2;have:=X i u (by omega) hu (by rw [U,V];omega);omega
 obtain ⟨i,I,e⟩:=Zw.1 q;simp at I;rw [show Zl ((gI N L k ks false u).take j) i=Zl (gI N L k ks false u) i by simp [Zl,show i<j by omega]] at e;have:=Xw.once i j (by unfold gI at I H;omega) H e;omega
theorem Xa6 (D:Yv N.vs.length L) (G:Yl N) (H:k<L.length) (I:Zf3 ks) (J:∀ i,i<ks.length->∃ q:Nat,Zl ks i=q):∀ {u:Nat},u<=ks.length->Zf3 (ArF N L k ks u):=by
 intro u
 induction u with
 | zero=>intro _ i j O;simp [ArF] at O
 | succ u ih =>
  intro hu;have:∀ j,j<=(gI N L k ks false u).length->Zf3 (ArP N L k ks u j):=by
   intro j
   induction j with
   | zero=>intro _;rw [Zub];exact ih (by omega)
   | succ j r =>
    intro R;rw [Zhl (by omega)];exact (r (by omega)).snoc (Z5a D G H I J (by omega) (by omega))
  rw [<-Zpm];exact this _ (Xfy _)
end
def spV (x:Int × Nat):Value × Value:=(Zg x.1,Zg x.2)
structure KyS (h:Zk) (z0 B10 M:Nat) (sp sG:Sl) (Ar:Zb) (Sp:List (Int × Nat)) (ga gb:Nat->Sl) (m:Nat) (ia io:Nat->Zb):Prop where
 b10:Xb h B10 #[sp.v]
 mp:Zc7 h M (Vp Ar 0)
 oS:Ym h 2 sp (Ua (Sp.map spV))
 oG:Ym h 2 sG (Ua ((List.range m).map fun u=>((ga u).v,(gb u).v)))
 oa:∀ u,u<m->Ym h 1 (ga u) (Zq (ia u))
 ob:∀ u,u<m->Ym h 1 (gb u) (Zq (io u))
 lz:B10<z0/\M<z0/\B10≠M/\z0<=h.size
 dS:sp.nl=false->z0<=sp.b
 dG:sG.nl=false->z0<=sG.b/\(sp.nl=false->sG.b≠sp.b)
 dA:∀ u,u<m->(ga u).nl=false->z0<=(ga u).b/\(sp.nl=false->(ga u).b≠sp.b)/\(sG.nl=false->(ga u).b≠sG.b)
 dB:∀ u,u<m->(gb u).nl=false->z0<=(gb u).b/\(sp.nl=false->(gb u).b≠sp.b)/\(sG.nl=false->(gb u).b≠sG.b)
section
variable {h h' h1 h2 h3 h4:Zk} {z0 B10 M m:Nat} {sp sG:Sl} {Ar:Zb} {Sp:List (Int × Nat)} {ga gb:Nat->Sl} {ia io:Nat->Zb}
theorem KyS.ext (k:KyS h z0 B10 M sp sG Ar Sp ga gb m ia io) (e:Ext h h'):KyS h' z0 B10 M sp sG Ar Sp ga gb m ia io :=
 ⟨k.b10.ext e,k.mp.ext e,k.oS.ext' e,k.oG.ext' e,fun u hu=>(k.oa u hu).ext' e,fun u hu=>(k.ob u hu).ext' e,by have:=k.lz;have:=e.size;omega,k.dS,k.dG,k.dA,k.dB⟩
theorem KyS.addG (k:KyS h z0 B10 M sp sG Ar Sp ga gb m ia io) (e:Ext h h1) {a b D:Sl} (X:Ym h1 1 a (Zq (ia m))) (ob:Ym h1 1 b (Zq (io m))) (Z:a.nl=true\/h.size<=a.b) (fb:b.nl=true\/h.size<=b.b)
  (G:Mod (fun j=>sG.nl=false/\j=sG.b) h1 h2) (o:Ym h2 2 D (Ua ((List.range m).map fun u=>((ga u).v,(gb u).v))++[a.v,b.v])) (hs:(D.b=sG.b/\D.nl=sG.nl)\/(h1.size<=D.b/\D.nl=false)) :
  KyS h2 z0 B10 M sp D Ar Sp (fun u=>if u=m then a else ga u) (fun u=>if u=m then b else gb u) (m+1) ia io:=by
 have lz:=k.lz;have ze:=e.size;have zm:=G.size;have R:=k.dG;have k1:=k.ext e;have I:a.nl=false->h.size<=a.b:=fun r=>Z.resolve_left (by rw [r];simp);have J:b.nl=false->h.size<=b.b:=fun r=>fb.resolve_left (by rw [r];simp);have U:sG.nl=false->sG.b<h.size:=k.oG.lt;have V:sp.nl=false->sp.b<h.size:=k.oS.lt;have O:D.nl=false->(D.b=sG.b/\sG.nl=false)\/h1.size<=D.b:=fun r=>by
  rcases hs with ⟨x,y⟩ | ⟨x,y⟩
  ·exact .inl ⟨x,by rw [<-y];exact r⟩
  exact .inr x
 refine ⟨G.blk k1.b10 (fun q=>by have:=R q.1;omega),k1.mp.mod G (fun q=>by have:=R q.1;omega),k1.oS.mod G (fun r q=>by have:=(R q.1).2 r;omega),?_,fun u hu=>?_,fun u hu=>?_,by omega,k.dS,fun r=>?_,fun u hu r=>?_,fun u hu r=>?_⟩
 ·have e1:(List.range (m+1)).map (fun u=>(Sl.v (if u=m then a else ga u),Sl.v (if u=m then b else gb u)))=(List.range m).map (fun u=>((ga u).v,(gb u).v))++[(a.v,b.v)]:=by
   rw [Xh4,Xgt]
   congr 1
   ·apply Xho;intro u hu;have:u≠m:=by simp at hu;omega
    simp [this]
   simp
  rw [e1];simpa [Ua] using o
 ·by_cases q:u=m
  ·subst q;simp only [if_true];exact X.mod G (fun r e=>by have:=I r;have:=U e.1;omega)
  simp only [if_neg q];exact (k1.oa u (by omega)).mod G (fun r e=>by have:=(k.dA u (by omega) r).2.2 e.1;omega)
 ·by_cases q:u=m
  ·subst q;simp only [if_true];exact ob.mod G (fun r e=>by have:=J r;have:=U e.1;omega)
  simp only [if_neg q];exact (k1.ob u (by omega)).mod G (fun r e=>by have:=(k.dB u (by omega) r).2.2 e.1;omega)
 ·rcases O r with ⟨x,y⟩ | x
  ·rw [x];exact R y
  exact ⟨by omega,fun hs=>by have:=V hs;omega⟩
 ·by_cases q:u=m
  ·subst q;simp only [if_true] at r ⊢;have:=I r;have la:=X.lt r;refine ⟨by omega,fun hs=>by have:=V hs;omega,fun H=>?_⟩;rcases O H with ⟨x,y⟩ | x
   ·have:=U y;omega
   omega
  simp only [if_neg q] at r ⊢;have d:=k.dA u (by omega) r;have lu:=(k.oa u (by omega)).lt r;refine ⟨d.1,d.2.1,fun H=>?_⟩;rcases O H with ⟨x,y⟩ | x
  ·rw [x];exact d.2.2 y
  omega
 by_cases q:u=m
 ·subst q;simp only [if_true] at r ⊢;have:=J r;have la:=ob.lt r;refine ⟨by omega,fun hs=>by have:=V hs;omega,fun H=>?_⟩;rcases O H with ⟨x,y⟩ | x
  ·have:=U y;omega
  omega
 simp only [if_neg q] at r ⊢;have d:=k.dB u (by omega) r;have lu:=(k.ob u (by omega)).lt r;refine ⟨d.1,d.2.1,fun H=>?_⟩;rcases O H with ⟨x,y⟩ | x
 ·rw [x];exact d.2.2 y
 omega
theorem KyS.addS (k:KyS h z0 B10 M sp sG Ar Sp ga gb m ia io) {x:Int} {s:Int × Nat} {D:Sl} (J:Mod (fun j=>j=M) h h1) (R:Zc7 h1 M (Vp (Ar++[x]) 0)) (e:Ext h1 h2)
  (H:Mod (fun j=>sp.nl=false/\j=sp.b) h2 h3) (o:Ym h3 2 D (Ua (Sp.map spV)++[(spV s).1,(spV s).2])) (hs:(D.b=sp.b/\D.nl=sp.nl)\/(h2.size<=D.b/\D.nl=false)) (G:Mod (fun j=>j=B10) h3 h4) (U:Xb h4 B10 #[D.v]) :
  KyS h4 z0 B10 M D sG (Ar++[x]) (Sp++[s]) ga gb m ia io:=by
 have X:=k.lz;have Z:=J.size;have ze:=e.size;have zm:=H.size;have z4:=G.size;have O:=k.dS;have V:sG.nl=false->sG.b<h.size:=k.oG.lt;have I:D.nl=false->(D.b=sp.b/\sp.nl=false)\/h2.size<=D.b:=fun r=>by
  rcases hs with ⟨x,y⟩ | ⟨x,y⟩
  ·exact .inl ⟨x,by rw [<-y];exact r⟩
  exact .inr x
 refine ⟨U,((R.ext e).mod H (fun q=>by have:=O q.1;omega)).mod G (by omega),?_,?_,fun u hu=>?_,fun u hu=>?_,by omega,fun r=>?_,fun r=>?_,fun u hu r=>?_,fun u hu r=>?_⟩
 ·have:=o.mod G (fun r q=>by
   rcases I r with ⟨x,y⟩ | x
   ·have:=O y;omega
   omega)
  simpa [Ua] using this
 ·exact (((k.oG.mod J (fun r q=>by have:=k.dG r;omega)).ext' e).mod H (fun r q=>by have:=(k.dG r).2 q.1;omega)).mod G (fun r q=>by have:=k.dG r;omega)
 ·exact ((((k.oa u hu).mod J (fun r q=>by have:=k.dA u hu r;omega)).ext' e).mod H (fun r q=>by have:=(k.dA u hu r).2.1 q.1;omega)).mod G (fun r q=>by have:=k.dA u hu r;omega)
 ·exact ((((k.ob u hu).mod J (fun r q=>by have:=k.dB u hu r;omega)).ext' e).mod H (fun r q=>by have:=(k.dB u hu r).2.1 q.1;omega)).mod G (fun r q=>by have:=k.dB u hu r;omega)
 ·rcases I r with ⟨x,y⟩ | x
  ·rw [x];exact O y
  omega
 ·have d:=k.dG r;have:=V r;refine ⟨d.1,fun h=>?_⟩;rcases I h with ⟨x,y⟩ | x
  ·rw [x];exact d.2 y
  omega
 ·have d:=k.dA u hu r;have:=(k.oa u hu).lt r;refine ⟨d.1,fun h=>?_,d.2.2⟩;rcases I h with ⟨x,y⟩ | x
  ·rw [x];exact d.2.1 y
  omega
 have d:=k.dB u hu r;have:=(k.ob u hu).lt r;refine ⟨d.1,fun h=>?_,d.2.2⟩;rcases I h with ⟨x,y⟩ | x
 ·rw [x];exact d.2.1 y
 omega
end
theorem Zjh {N : Zr} {L : Za} {i j : Nat} (h : i ≤ j) : levelS N L i ≤ levelS N L j := by
  induction j with
  | zero => have : i = 0 := by omega
            subst this; exact Xfy _
  | succ j ih =>
    by_cases q : i = j + 1
    · subst q; exact Xfy _
    have := ih (by omega); simp only [levelS]; omega
theorem Zg2 {N : Zr} {L : Za} {k i j : Nat} (h : i ≤ j) : cellS N L k i ≤ cellS N L k j := by
  induction j with
  | zero => have : i = 0 := by omega
            subst this; exact Xfy _
  | succ j ih =>
    by_cases q : i = j + 1
    · subst q; exact Xfy _
    have := ih (by omega); simp only [cellS]; omega
theorem Zmc {N:Zr} {L:Za} {k q:Nat} (r:k<L.length) (hq:q<Yi L k):levelS N L k+cellS N L k q+entN N L k q<=levelS N L L.length:=by
 have h1:=Zg2 (N:=N) (L:=L) (k:=k) (i:=q+1) (j:=Yi L k) hq;have D:=Zjh (N:=N) (L:=L) (i:=k+1) (j:=L.length) r;simp only [levelS,cellS] at h1 D;omega
theorem Zyq {N:Zr} {L:Za} {k q j:Nat} (r:k<L.length) (hq:q<Yi L k) (D:j<(Zx N L k false q).length) (H:0<(Zx N L k true q).length):0<=enV N L k q j 0/\enV N L k q j 0+(Zx N L k true q).length<=levelS N L L.length:=by
 have h1:=Zmc (N:=N) r hq;have G:=Xgi (Zx N L k true q).length (show j+1<=(Zx N L k false q).length from D);rw [Xgm,Xiz] at G;unfold enV entN at *
 rw [if_pos ⟨by omega,by omega,by omega,by omega⟩];have e:((j:Int) * ((Zx N L k true q).length:Int))=((j * (Zx N L k true q).length:Nat):Int):=by simp
 rw [e];omega
theorem Zj4 {n:Nat} {L:Za} (D:Yv n L) {k:Nat} (G:k+1<L.length) {a b:Nat} (r:a<n) (hb:b<n) (e:Zl (Ya L k) a=Zl (Ya L k) b):Zl (Ya L (k+1)) a=Zl (Ya L (k+1)) b:=by
 have h:=(Uy (D.lv (k+1) G)).2.2.2 (by omega);rw [show k+1-1=k from rfl] at h;have h1:=h a r b hb (by omega);have H:=h b hb a r (by omega);omega
section
variable {Y:Sys} {h h':Zk}
theorem Zh0 {K:Ze} {D G x y:Value} (hx:x.oneCell'=true) (hy:y.oneCell'=true) (H:∀ (b:Nat) (h':Zk),h.size<=b->Xb h' b #[x,y]->Ext h h'->K (.slice (some ⟨b,0,none⟩) 1 1) h') :
  Ef.wp h K (.bslice 1 2 #[D,G] [0]) [.agg #[x,y]]:=by
 have e:Instr.fill (fun i=>some (i * 2,2)) (Xy #[D,G] (1 * 2)) ([0].zip [.agg #[x,y]])=some #[x,y]:=by
  simp [Instr.fill,Xy];apply Xhm
  ·simp
  intro i h1 r
  match i,r with
  | 0,_=>simp
  | 1,_=>simp
  | i+2,r=>exact absurd r (by simp)
 simp only [Ef.wp,e];exact fun t=>H _ _ (Xfy _) Xb.new Mod.push
theorem Zla {K:Ze} {bytes b:Nat} {zero:Array Value} {s:Sl} {cs:Zc} {x y:Value} (hz:zero.size=2) (o:Ym h 2 s cs) (hb:Xb h b #[x,y]) (hx:x.oneCell'=true) (hy:y.oneCell'=true) (D:(s.n+1) * bytes<=140737488355328) (G:s.n+1<=9223372036854775807)
  (H:∀ (r:Sl) (h':Zk),Ym h' 2 r (cs++[x,y])->r.n=s.n+1->Mod (fun j=>s.nl=false/\j=s.b) h h'->((r.b=s.b/\r.nl=s.nl)\/(h.size<=r.b/\r.nl=false))->K r.v h') :
  Ef.wp h K (.append 2 bytes zero) [s.v,.slice (some ⟨b,0,none⟩) 1 1]:=by
 have hs:Vl h 2 1 (.slice (some ⟨b,0,none⟩) 1 1)=some [x,y]:=by
  rw [Zfj];exact Yj hb rfl
 refine Vg o (m:=1) (nw:=[x,y]) rfl hs rfl (fun v hv=>?_) hz D G (fun r h' I J M hs'=>H r h' I J M hs');simp only [Xh2,Xid,or_false] at hv;rcases hv with rfl | rfl <;> assumption
def Kb0 (Bc B7 Br B10 M:Nat) (v0 v1 v2 v3 v4 v5:Value) (t:Sl) (N:Zr) (L:Za) (k:Nat) (ks:Zb) (hz:Zk) (e:Zc) (h':Zk):Prop :=
 ∃ (i:Nat) (sp sG:Sl) (ga gb:Nat->Sl) (v12 v13 v14 v15 v16 v17 v18 v19 v20 v21 v22 v23 v24 v25 v29 v30 v31 v32 v33 v34 v35 v36 v37 v38 v39 v40 v41 v42 v43 v44 v45 v46 v47:Value),
  e=[v0,v1,v2,v3,v4,v5,.pointer (some ⟨Bc,0,none⟩),.pointer (some ⟨B7,0,none⟩),.pointer (some ⟨Br,0,none⟩),.map (some M),.pointer (some ⟨B10,0,none⟩),sG.v,v12,v13,v14,v15,v16,v17,v18,v19,v20,v21,v22,v23,v24,v25,t.v,.int .i64 t.n,.int .i64 i,v29,v30,v31,v32,v33,v34,v35,v36,v37,v38,v39,v40,v41,v42,v43,v44,v45,v46,v47]/\i<=ks.length /\
  KyS h' hz.size B10 M sp sG (ArF N L k ks i) (SpF N L k ks i) ga gb i (gI N L k ks false) (gI N L k ks true)/\Mod (fun j=>j=M\/j=B10) hz h'
def Kb2 (Bc B7 Br B10 M i q:Nat) (v0 v1 v2 v3 v4 v5:Value) (t sG a:Sl) (ga gb:Nat->Sl) (N:Zr) (L:Za) (k:Nat) (ks:Zb) (hz:Zk) (e:Zc) (h':Zk):Prop :=
 ∃ (j:Nat) (sp:Sl) (v14 v15 v16 v17 v18 v19 v20 v21 v22 v23 v24 v25 v29 v33 v34 v35 v36 v37 v38 v39 v40 v41 v42 v43 v44 v45 v46 v47:Value),
  e=[v0,v1,v2,v3,v4,v5,.pointer (some ⟨Bc,0,none⟩),.pointer (some ⟨B7,0,none⟩),.pointer (some ⟨Br,0,none⟩),.map (some M),.pointer (some ⟨B10,0,none⟩),sG.v,.int .i64 i,.int .i64 q,v14,v15,v16,v17,v18,v19,v20,v21,v22,v23,v24,v25,t.v,.int .i64 t.n,.int .i64 i,v29,a.v,.int .i64 a.n,.int .i64 j,v33,v34,v35,v36,v37,v38,v39,v40,v41,v42,v43,v44,v45,v46,v47]/\j<=(gI N L k ks false i).length /\
  KyS h' hz.size B10 M sp sG (ArP N L k ks i j) (SpP N L k ks i j) ga gb (i+1) (gI N L k ks false) (gI N L k ks true)/\Mod (fun j=>j=M\/j=B10) hz h'
set_option maxHeartbeats 2000000 in
theorem Zt0 (X:Z4q Y) {p op:Nat} {N:Zr} {S:Zf} {L:Za} (g:Xc h p N S) (v:Vw h op N L) (G:Yl N) (H:Yv N.vs.length L) {k c:Nat} (hk:k+1<L.length) (hc:c<Yi L (k+1)) {s1 s2 sc:Sl} {costs:Zb}
  (r1:Yd h s1 (Zx N L (k+1) false c)) (r2:Yd h s2 (Zx N L (k+1) true c)) (rc:Yd h sc costs) (lc:costs.length=levelS N L L.length) (c0:∀ i,i<costs.length->0<=Zl costs i/\Zl costs i<=Xq) {R:Ze}
  (hr:∀ h' Ar Z ls st ss fv,Ext h h'->Zs2 N L costs (Zx N L (k+1) true c) Ar k c Z ls st->Yd h' ss ((Zx N L (k+1) false c).map (Yg 0 Ar))->Zl0 Y h' fv Ar.length st->fv.oneCell'=true->(∀ e,e∈Zx N L (k+1) false c->e∈Ar)->Ar.length<=16384->R (.agg #[.int .i64 Ar.length,ss.v,fv]) h') :
  Zv Y 398 [.pointer (some ⟨p,0,none⟩),.pointer (some ⟨op,0,none⟩),.int .i64 (((k+1:Nat):Int)+1),.int .i64 c,.agg #[s1.v,s2.v],sc.v] h R:=by
 have ba:=G.ba;have bL:=H.bL;have l1:=r1.len;have l2:=r2.len;refine .of_has X.byKids rfl ?_;simp [Y398,Xm.wp,-Yc,-Int.natCast_add];refine Zn ?_;intro Bc ha aT Bca ea;replace Bca:Xb ha Bc #[s1.v,s2.v]:=Bca;simp [-Yc,-Int.natCast_add];refine Zn ?_;intro B7 hb aU B7b eb;replace B7b:Xb hb B7 #[sc.v]:=B7b;simp [-Yc,-Int.natCast_add];refine Zn ?_;intro Br hd aV Brd ed;replace Brd:Xb hd Br #[.int .i64 0,.slice none 0 0,.nilFunc]:=Brd;simp [-Yc,-Int.natCast_add];rw [Yc];simp [-Yc,-Int.natCast_add];refine Znv ?_;intro M he gM mM ee;have lM:=mM.lt;simp [-Yc,-Int.natCast_add];rw [Yc];simp [-Yc,-Int.natCast_add];refine Zn ?_;intro B10 hf aS B10f ef;replace B10f:Xb hf B10 #[.slice none 0 0]:=B10f;have aW:=B10f.lt;have xf:Ext h hf:=(((ea.trans eb).trans ed).trans ee).trans ef;simp [-Yc,-Int.natCast_add];rw [Yc];simp [-Yc,-Int.natCast_add];rw [Yc];simp [-Yc,-Int.natCast_add];refine Zm1 X.K (v.ext xf) H hk (by omega) hc ?_;intro hz t ks ez ot aC aX ah aa;rw [show k+1-1=k from rfl] at aa;have xz:=xf.trans ez;have zz:=ez.size;have aY:=ot.lt aC;have O:=Bca.lt;have lb:=B7b.lt;have ld:=Brd.lt;have kn:∀ i,i<ks.length->∃ q:Nat,Zl ks i=q/\q<Yi L k:=fun i hi=>by
  obtain ⟨w,h1,I,h3⟩:=(aa _).1 (Zw.2 ⟨i,hi,rfl⟩);obtain ⟨q,e,lq⟩:=(Xs H (show k<L.length by omega)).2.2.2 w h1;exact ⟨q,by rw [<-h3];exact e,lq⟩
 have aD:ks.length<=4096:=by
  have:=Zdr ah.once kn;have:=(Xs H (show k<L.length by omega)).2.2.1;omega
 have an:∀ {u:Nat},u<=ks.length->Zf3 (ArF N L k ks u):=Xa6 H G (by omega) ah.once (fun i hi=>by obtain ⟨q,e,_⟩:=kn i hi;exact ⟨q,e⟩);have ao:∀ {u:Nat},∀ x,x∈ArF N L k ks u->∃ a:Nat,x=a/\a<N.as.length:=fun {u} x hx=>by
  obtain ⟨i,_,V⟩:=Zpj.1 hx;exact Uh H G (by omega) V
 have ag:∀ {u:Nat},u<=ks.length->(ArF N L k ks u).length<=N.as.length:=fun {u} hu=>Zdr (an hu) (fun i hi=>by
  obtain ⟨a,e,O⟩:=ao _ (Zw.2 ⟨i,hi,rfl⟩);exact ⟨a,e,O⟩)
 have aZ:=ot.row64.len;have k0:KyS hz hz.size B10 M Sl.nil Sl.nil (ArF N L k ks 0) (SpF N L k ks 0) (fun _=>Sl.nil) (fun _=>Sl.nil) 0 (gI N L k ks false) (gI N L k ks true) :=
  ⟨B10f.ext ez,(mM.ext ef).ext ez,Ym.nil,Ym.nil,fun u hu=>by omega,fun u hu=>by omega,by omega,fun h=>(by cases h),fun h=>(by cases h),fun u hu=>by omega,fun u hu=>by omega⟩
 simp [-Yc,-Int.natCast_add];rw [Yc];simp [-Yc,-Int.natCast_add];refine Zt (Kb0 Bc B7 Br B10 M (.pointer (some ⟨p,0,none⟩)) (.pointer (some ⟨op,0,none⟩)) (.int .i64 (((k+1:Nat):Int)+1)) (.int .i64 c) (.agg #[s1.v,s2.v]) sc.v t N L k ks hz) (fun e _=>ks.length-Zy e 28) ⟨0,Sl.nil,Sl.nil,_,_,_,_,_,_,_,_,_,_,_,_,_,_,_,_,_,_,_,_,_,_,_,_,_,_,_,_,_,_,_,_,_,_,_,rfl,by omega,k0,Mod.refl _⟩ ?_;rintro e hg ⟨i,sp,sG,ga,gb,a0,a1,a2,a3,a4,a5,a6,a7,a8,a9,bb,bc,bd,be,bg,bh,bi,bj,bk,bm,bn,bo,bp,bq,br,bs,bu,bv,bw,bx,bz,bA,bC,rfl,hi,r,mg⟩;have xg:Ext h hg:=Mod.ext xz mg (fun j hj=>by omega);have zg:=mg.size;have nG:=r.oG.1;simp [U3] at nG;by_cases ci:i<ks.length;rotate_left
 ·have ai:¬ (i:Int)<t.n:=by omega
  have:i=ks.length:=by omega
  subst this;simp [ai,-Yc,-Int.natCast_add];rw [Yc];have oF:=an (u:=ks.length) (Xfy _);have ab:∀ x:Int,x∈ArF N L k ks ks.length↔∃ a:Nat,x=a/\a<N.as.length/\Zl (Ya L k) (Qe N a)≠Zl (Ya L k) (Xd N a)/\Zl (Ya L (k+1)) (Xd N a)=c:=by
   intro x;rw [Zpj];constructor
   ·rintro ⟨u,hu,V⟩;obtain ⟨a,e,O⟩:=Uh H G (by omega) V;subst e;obtain ⟨_,h1,I⟩:=(Zan H G (by omega)).1 V;obtain ⟨q,U,lq⟩:=kn u hu;obtain ⟨w,w1,w2,w3⟩:=(aa _).1 (Zw.2 ⟨u,hu,rfl⟩);have hv:=(G.arcs a O).2;simp [Yf] at hv;refine ⟨a,rfl,O,h1,?_⟩;rw [<-w2];exact Zj4 H (by omega) (by unfold Xd;omega) w1 (by rw [I,w3,U];rfl)
   rintro ⟨a,rfl,O,h1,I⟩;have hv:=(G.arcs a O).2;simp [Yf] at hv;obtain ⟨u,lu,eu⟩:=Zw.1 ((aa (Zl (Ya L k) (Xd N a))).2 ⟨Xd N a,by unfold Xd;omega,I,rfl⟩);obtain ⟨q,U,lq⟩:=kn u lu;exact ⟨u,lu,(Zan H G (by omega)).2 ⟨O,h1,by rw [<-eu,U];rfl⟩⟩
  have ap:∀ e,e∈Zx N L (k+1) false c->e∈ArF N L k ks ks.length:=fun e he=>by
   obtain ⟨a,ea,O⟩:=Uh H G hk he;subst ea;obtain ⟨_,h1,I⟩:=(Zan H G hk).1 he;have hv:=G.arcs a O;simp [Yf] at hv;exact (ab _).2 ⟨a,rfl,O,fun e=>h1 (Zj4 H (by omega) (by unfold Qe;omega) (by unfold Xd;omega) e),I⟩
  have li:=Wi (N:=N) (L:=L) (k:=k+1) (c:=c) (x:=false);have lo:=Wi (N:=N) (L:=L) (k:=k+1) (c:=c) (x:=true);have lA:=ag (u:=ks.length) (Xfy _);have nS:=r.oS.1;simp [U3] at nS;rw [Zav] at nS;have ac:∀ {b:Nat} {cs:Array Value},Xb hz b cs->b≠M->b≠B10->Xb hg b cs:=fun hb h1 I=>mg.blk hb (fun e=>by rcases e with e | e;exact h1 e;exact I e);refine Z1a X (g.ext xg) G (n:=ks.length) (a:=ga) (b:=gb) (f:=gI N L k ks true) (ac ((((((Bca.ext eb).ext ed).ext ee).ext ef)).ext ez) (by omega) (by omega)) (r1.ext xg) (r2.ext xg) r.b10 r.mp (ac (((Brd.ext ee).ext ef).ext ez) (by omega) (by omega)) ap (by omega) (by omega) Xw r.oG.ok (by omega) aD (fun u hu=>?_) (fun u hu=>(r.ob u hu).row64) (fun u hu=>by
   have:=Wi (N:=N) (L:=L) (k:=k) (c:=(Zl ks u).toNat) (x:=true);unfold gI;omega) (fun u m hu V hp=>?_) ?_
  ·obtain ⟨g1,g2⟩:=Zgz (l:=(List.range ks.length).map fun u=>((ga u).v,(gb u).v)) (i:=u) (by simpa using hu);simp at g1 g2;have:=Zba (h:=hg) (b:=sG.b) (l:=[(ga u).v,(gb u).v]) (o:=sG.o+u * 2) (fun i v hv=>by
    match i,hv with
    | 0,hv=>simp at hv;subst hv;exact r.oG.cell g1
    | 1,hv=>simp at hv;subst hv;exact r.oG.cell g2
    | i+2,hv=>simp at hv)
   exact this
  ·obtain ⟨a,e,O⟩:=Uh H G (by omega) V;subst e;obtain ⟨_,h1,I⟩:=(V0 H G (by omega)).1 V;obtain ⟨w,w1,w2,w3⟩:=(aa _).1 (Zw.2 ⟨u,hu,rfl⟩);obtain ⟨q,U,lq⟩:=kn u hu;have hv:=G.arcs a O;simp [Yf] at hv;have aq:Zl (Ya L (k+1)) (Qe N a)=c:=by
    rw [<-w2];exact Zj4 H (by omega) (by unfold Qe;omega) w1 (by rw [I,w3,U];rfl)
   refine (ab _).2 ⟨a,rfl,O,h1,Xgq fun q=>?_⟩;have aE:(a:Int)∈Zx N L (k+1) true c:=(V0 H G hk).2 ⟨O,fun e=>q (by rw [<-e,aq]),aq⟩;have:=Qr (a:=(a:Int)) (l:=Zx N L (k+1) true c) (k:=0);have:=this.2 aE;omega
  intro hw ss B17 sl mw aF bB aG nl ar;have xw:Ext h hw:=Mod.ext xg mw (fun j hj=>by omega)
  let Z:Nat->Int:=fun u=>((SpF N L k ks ks.length).getD u (0,0)).1
  let J:Nat->Nat:=fun u=>((SpF N L k ks ks.length).getD u (0,0)).2
  have aj:∀ u,u<(ArF N L k ks ks.length).length->∃ i j,i<ks.length/\j<(gI N L k ks false i).length/\Zl (ArF N L k ks ks.length) u=Zl (gI N L k ks false i) j/\Z u=enV N L k (Zl ks i).toNat (j:Nat) 0/\J u=i:=fun u hu=>by
   obtain ⟨i,j,h1,I,h3,h4⟩:=Xct hu;exact ⟨i,j,h1,I,h3,by simp [Z,h4],by simp [J,h4]⟩
  let ad:Nat->List Xe:=fun i=>(gI N L k ks true i).map (Wh N (Zx N L (k+1) true c) (ArF N L k ks ks.length))
  let st:Nat->List Xe:=fun u=>if u<(ArF N L k ks ks.length).length then stK costs (Z u).toNat (ad (J u)) else []
  have ae:∀ u (a:Nat),u<(ArF N L k ks ks.length).length->Zl (ArF N L k ks ks.length) u=a->∃ j,j<(gI N L k ks false (J u)).length/\Zl (gI N L k ks false (J u)) j=(a:Int)/\Z u=enV N L k (Zl ks (J u)).toNat (j:Nat) 0/\Zl (Ya L k) (Xd N a)=Zl ks (J u)/\J u<ks.length:=fun u a hu ha=>by
   obtain ⟨i,j,h1,I,h3,h4,h5⟩:=aj u hu;obtain ⟨q,U,lq⟩:=kn i h1;have V:(a:Int)∈gI N L k ks false i:=Zw.2 ⟨j,I,by rw [<-h3,ha]⟩;have:=((Zan H G (by omega)).1 V).2.2;subst h5;exact ⟨j,I,by rw [<-h3,ha],h4,by rw [this,U];rfl,h1⟩
  have KD:Zs2 N L costs (Zx N L (k+1) true c) (ArF N L k ks ks.length) k c Z (fun u=>ad (J u)) st:=by
   refine ⟨oF,ab,fun u a hu ha=>?_,fun u a hu ha=>?_,fun u=>rfl⟩
   ·obtain ⟨j,j1,j2,j3,j4,_⟩:=ae u a hu ha;rw [j3,j4]
    congr 1
    have:=Xv (l:=Zx N L k false (Zl ks (J u)).toNat) Xw.once j1;rw [show Zl (Zx N L k false (Zl ks (J u)).toNat) j=(a:Int) from j2] at this;exact this.symm
   obtain ⟨j,j1,j2,j3,j4,_⟩:=ae u a hu ha;show (gI N L k ks true (J u)).map _=_;rw [j4];rfl
  have ak:=r.oS.mod mw (fun hn e=>by have:=r.dS hn;omega);have KH:Z8q hw B10 B17 B7 (ArF N L k ks ks.length).length costs Z J ad ks.length:=by
   refine ⟨⟨sp,sl,sc,mw.blk r.b10 (by omega),bB,mw.blk (ac ((((B7b.ext ed).ext ee).ext ef).ext ez) (by omega) (by omega)) (by omega),rc.ext xw,ak.ok,by omega,aG,nl,fun u hu=>?_,ar⟩,fun u hu=>?_,fun i hi=>?_,fun u hu aH=>?_,?_,c0,fun i x hi hx=>?_⟩
   ·obtain ⟨i,j,h1,I,h3,h4⟩:=Xct hu;have au:u<((SpF N L k ks ks.length).map spV).length:=by rw [Xf2,Zav];exact hu
    obtain ⟨g1,g2⟩:=Zgz (l:=(SpF N L k ks ks.length).map spV) (i:=u) au;rw [Xgo] at g1 g2;have he:(SpF N L k ks ks.length)[u]'(by rw [Zav];exact hu)=(enV N L k (Zl ks i).toNat (j:Nat) 0,i):=by
     have:=h4;rw [Xg6 (by rw [Zav];exact hu)] at this;simpa using this
    rw [he] at g1 g2;have f1:Z u=enV N L k (Zl ks i).toNat (j:Nat) 0:=by simp [Z,h4]
    have f2:J u=i:=by simp [J,h4]
    rw [f1,f2];exact ⟨ak.cell g1,ak.cell g2⟩
   ·obtain ⟨i,j,h1,I,h3,h4,h5⟩:=aj u hu;omega
   ·have:=Wi (N:=N) (L:=L) (k:=k) (c:=(Zl ks i).toNat) (x:=true);show ((gI N L k ks true i).map _).length<=_;rw [Xf2];unfold gI;omega
   ·obtain ⟨i,j,h1,I,h3,h4,h5⟩:=aj u hu;obtain ⟨q,U,lq⟩:=kn i h1;have hl:(ad (J u)).length=(Zx N L k true q).length:=by
     show ((gI N L k ks true (J u)).map _).length=_;rw [Xf2,h5];unfold gI;rw [U];rfl
    have av:0<(Zx N L k true q).length:=by rw [<-hl];exact List.length_pos_iff.2 aH
    rw [hl,h4,U,lc];have hj:j<(Zx N L k false q).length:=by unfold gI at I;rw [U] at I;exact I
    exact Zyq (show k<L.length by omega) lq hj av
   ·have:=Zar G H (k:=L.length) (Xfy _);rw [lc];omega
   obtain ⟨m,V,rfl⟩:=List.mem_map.1 hx;obtain ⟨a,e,O⟩:=Uh H G (by omega) V;subst e;exact Zx8 G
  have:=hr hw (ArF N L k ks ks.length) Z (fun u=>ad (J u)) st ss _ xw KD aF (Zze X.next KH (fun u hu=>by show (if _ then _ else _)=_;rw [if_pos hu])) rfl ap (by omega);rw [show (ArF N L k ks ks.length).length=sp.n by omega] at this;exact this
 have ai:(i:Int)<t.n:=by omega
 have wi:=Zj (i:=i) (by omega);have wk:IntKind.i64.wrap (((k+1:Nat):Int)+1-1)=(k:Int)+1:=by rw [Zo (by omega)];omega
 have aw:IntKind.i64.wrap ((k+1:Nat):Int)=(k:Int)+1:=by rw [Zo (by omega)];omega
 obtain ⟨q,U,lq⟩:=kn i ci;have vi:=((ot.mod mg (fun _=>by omega)).row64).val i ci;rw [U] at vi;have ax:∀ x,gI N L k ks x i=Zx N L k x q:=fun x=>by unfold gI;rw [U];rfl
 simp [ai,Zm ot.ok,vi,aw,-Int.natCast_add];refine Zax X.A (v.ext xg) G H (by omega) lq ?_;intro hh a b eh oa ob fa fb;rw [<-ax] at oa ob;have zh:=eh.size;simp [-Int.natCast_add];refine Zn ?_;intro D hj gD Dj ej;replace Dj:Xb hj D #[.slice none 0 0,.slice none 0 0]:=Dj;have lD:=Dj.lt;simp [-Int.natCast_add];refine Zs (vs:=#[a.v,b.v]) Dj rfl rfl (by simp) ?_;intro aI Dk mk;have ek:Ext hh aI:=Mod.toExtF ej mk gD;simp [Yj Dk,-Int.natCast_add];refine Zh0 (by simp) (by simp) ?_;intro E hl gE El el;have xl:Ext hg hl:=(eh.trans ek).trans el;simp [-Int.natCast_add];refine Zla rfl (r.oG.ext' xl) El (by simp) (by simp) (by omega) (by omega) ?_;intro ay V om nm mm hs;have zl:=xl.size;have kz:=r.lz;have kj:=ej.size;have kk:=mk.size;have kl:=el.size;have km:=r.addG xl ((oa.ext' ek).ext' el) ((ob.ext' ek).ext' el) fa fb mm om hs;have Dm:=mm.blk (Dk.ext el) (fun e=>by have:=r.oG.lt e.1;omega);have az:Mod (fun j=>j=M\/j=B10) hz V:=by
  refine ⟨by have:=mm.size;omega,fun x hx hn=>?_⟩;rw [mm.get x (by omega) (fun e=>by have:=r.dG e.1;omega),xl.get x (by omega) (fun h=>h),mg.get x hx hn]
 have af:Ym V 1 a (Zq (gI N L k ks false i)):=by
  have:=km.oa i (by omega);simpa using this
 have bD:=af.row64.len;simp [Dm.hc,-Int.natCast_add];refine Zt (Kb2 Bc B7 Br B10 M i q (.pointer (some ⟨p,0,none⟩)) (.pointer (some ⟨op,0,none⟩)) (.int .i64 (((k+1:Nat):Int)+1)) (.int .i64 c) (.agg #[s1.v,s2.v]) sc.v t ay a (fun u=>if u=i then a else ga u) (fun u=>if u=i then b else gb u) N L k ks hz) (fun e _=>(gI N L k ks false i).length-Zy e 32) ⟨0,sp,_,_,_,_,_,_,_,_,_,_,_,_,_,_,_,_,_,_,_,_,_,_,_,_,_,_,_,_,rfl,by omega,by rw [Zub,Z40];exact km,az⟩ ?_;clear af az Dm km nm om hs mm kl kk kj kz zl xl El gE el ek mk Dk lD Dj gD ej fa fb oa ob eh zh vi nG zg xg mg r;rintro e hn ⟨j,sp,bE,bF,bG,bH,bJ,bK,bM,bN,bO,bP,bQ,bR,bS,bT,bU,bV,bW,bX,bY,bZ,b0,b6,b7,b8,b9,ca,cb,cc,rfl,hj,r,mg⟩;have xg:Ext h hn:=Mod.ext xz mg (fun j hj=>by omega);have zg:=mg.size;have af:Ym hn 1 a (Zq (gI N L k ks false i)):=by
  have:=r.oa i (by omega);simpa using this
 by_cases cj:j<(gI N L k ks false i).length;rotate_left
 ·have al:¬ (j:Int)<a.n:=by omega
  have:j=(gI N L k ks false i).length:=by omega
  subst this;rw [Zpm,Z6s] at r;simp [al,wi,-Int.natCast_add];exact ⟨⟨i+1,sp,ay,_,_,_,_,_,_,_,_,_,_,_,_,_,_,_,_,_,_,_,_,_,_,_,_,_,_,_,_,_,_,_,_,_,_,_,rfl,by omega,r,mg⟩,by simp [Zy];omega⟩
 have al:(j:Int)<a.n:=by omega
 have wj:IntKind.i64.wrap ((j:Int)+1)=(j:Int)+1:=Zo (by have:=Wi (N:=N) (L:=L) (k:=k) (c:=q) (x:=false);rw [<-ax] at this;omega);have vj:=af.row64.val j cj;have nS:=r.oS.1;have lS:sp.n<=N.as.length:=by
  have e1:(SpP N L k ks i j).length<=(SpF N L k ks (i+1)).length:=by
   rw [Zxv,Zav,<-Zpm];unfold ArP;simp;omega
  rw [Zav] at e1;have:=ag (u:=i+1) (by omega);simp [U3] at nS;omega
 have aJ:(ArP N L k ks i j).length=sp.n:=by rw [<-Zxv];simp [U3] at nS;omega
 have aA:=Z5a H G (by omega) ah.once (fun i hi=>by obtain ⟨q,e,_⟩:=kn i hi;exact ⟨q,e⟩) ci cj;simp [al,Zm af.ok,vj,r.b10.hc,-Int.natCast_add];refine Zmg r.mp (by rw [U8,if_neg aA]) ?_;intro aK M1 m1;have aL:Vp (ArP N L k ks i j) 0++[(Zl (gI N L k ks false i) j,Value.int .i64 sp.n)]=Vp (ArP N L k ks i (j+1)) 0:=by rw [Zhl cj,Ze6,<-aJ];simp
 rw [aL] at M1;have lz:=r.lz;have b1:=m1.blk r.b10 (by omega);simp [b1.hc,aw,-Int.natCast_add];have x1:Ext h aK:=Mod.ext xg m1 (fun j hj=>by omega);refine Zcu X.A (v.ext x1) G H (by omega) lq ?_;intro cd e2;have b2:=b1.ext e2;have aM:∀ g (x:Int),Yo.sem Y g (.build #[.int .i64 0,.int .i64 0] [(0,1),(1,1)] [0,1]) [.int .i64 x,.int .i64 i]=some (.agg #[.int .i64 x,.int .i64 i]):=fun g x=>rfl;simp [b2.hc,aM,-Int.natCast_add];refine Zh0 rfl rfl ?_;intro E cf gE E3 e3;have b3:=b2.ext e3;simp [b3.hc,-Int.natCast_add];have aN:=((r.oS.mod m1 (fun hn e=>by have:=r.dS hn;omega)).ext' e2).ext' e3;refine Zla rfl aN E3 rfl rfl (by omega) (by omega) ?_;intro aO cg o4 n4 m4 aP;have z1:=m1.size;have z2:=e2.size;have z3:=e3.size;have z4:=m4.size;have b4:=m4.blk b3 (fun e=>by have:=r.dS e.1;omega);simp [-Int.natCast_add];refine stB b4 (by simp) ?_;intro aQ b5 m5;simp at b5;have aR:enV N L k (Zl ks i).toNat (j:Nat) 0=enV N L k q (j:Nat) 0:=by rw [U];rfl
 have k5:=r.addS (s:=(enV N L k q (j:Nat) 0,i)) m1 (by rw [<-Zhl cj];exact M1) (e2.trans e3) m4 o4 aP m5 b5;rw [<-Zhl cj] at k5;have aB:=Z1k (N:=N) (L:=L) (k:=k) (ks:=ks) cj;rw [aR] at aB;rw [<-aB] at k5;have m5z:Mod (fun j=>j=M\/j=B10) hz aQ:=by
  refine ⟨by have:=m5.size;omega,fun x hx am=>?_⟩;rw [m5.get x (by omega) (fun e=>am (.inr e)),m4.get x (by omega) (fun e=>by have:=r.dS e.1;omega),e3.get x (by omega) (fun h=>h),e2.get x (by omega) (fun h=>h),m1.get x (by omega) (fun e=>am (.inl e)),mg.get x hx am]
 simp [wj,-Int.natCast_add];exact ⟨⟨j+1,aO,_,_,_,_,_,_,_,_,_,_,_,_,_,_,_,_,_,_,_,_,_,_,_,_,_,_,_,_,rfl,by omega,k5,m5z⟩,by simp [Zy];omega⟩
def Zpr (N:Zr) (L:Za) (k c:Nat) (E:Zb):Prop :=
 ∀ i o a b:Nat,i<(Zx N L k false c).length->o<(Zx N L k true c).length->Zl (Zx N L k false c) i=a->Zl (Zx N L k true c) o=b->Zao (Zmf N (Zl (Ya L k)) c a b) (Zl E (i * (Zx N L k true c).length+o))
def Zka (N:Zr) (L:Za) (costs:Zb) (k:Nat):Prop :=
 ∀ c,c<Yi L k->∀ i o a b:Nat,i<(Zx N L k false c).length->o<(Zx N L k true c).length->Zl (Zx N L k false c) i=a->Zl (Zx N L k true c) o=b->Zao (Zmf N (Zl (Ya L k)) c a b) (Zl costs (levelS N L k+cellS N L k c+(i * (Zx N L k true c).length+o)))
theorem Zyz {n:Nat} {L:Za} (D:Yv n L) {k:Nat} (G:k<L.length) (H:0<n):∃ v,v<n/\Zl (Ya L k) v=0:=by
 obtain ⟨O,r,I,_⟩:=Uy (D.lv k G);have J:0<(Wn (Ya L k)).toNat:=by
  obtain ⟨R,U,M⟩:=Zc9 (l:=Ya L k) (n:=(n:Int)) (by omega) (fun j V=>by have:=(r j (by omega)).2;omega);have:=M 0 (by omega);have:=(r 0 H).1;omega
 have h0:=I 0 J;refine Xgq fun q=>h0 ?_;unfold Zbt;rw [Xi9,Xja];intro x hx;obtain ⟨v,a,b⟩:=Zw.1 hx;simp;intro e;exact q ⟨v,by omega,by rw [b];exact e⟩
theorem Zok {n:Nat} {L:Za} (D:Yv n L) {k:Nat} (G:k+1<L.length):Zjl (Zl (Ya L k)) (Zl (Ya L (k+1))):=by
 obtain ⟨I,J,U,_⟩:=Uy (D.lv k (by omega));obtain ⟨M,O,V,R⟩:=Uy (D.lv (k+1) G);have r:∀ v,n<=v->Zl (Ya L k) v=0/\Zl (Ya L (k+1)) v=0:=fun v hv=>by
  constructor <;> simp [Zl,I,M,hv]
 have zero:∀ u,u<n->Zl (Ya L k) u=0->Zl (Ya L (k+1)) u=0:=fun u hu e=>by
  obtain ⟨w,H,X⟩:=Zyz D G (by omega);have:=R (by omega) u hu w H (by rw [show k+1-1=k from rfl,e];exact (J w H).1);have:=(O u hu).1;omega
 intro u v e;by_cases hu:u<n
 ·by_cases hv:v<n
  ·exact Zj4 D G hu hv e
  obtain ⟨a,b⟩:=r v (by omega);rw [b];exact zero u hu (by rw [e,a])
 obtain ⟨a,b⟩:=r u (by omega);by_cases hv:v<n
 ·rw [b];exact (zero v hv (by rw [<-e,a])).symm
 rw [b,(r v (by omega)).2]
theorem Zka.ent {N:Zr} {L:Za} {costs:Zb} {k:Nat} (h:Zka N L costs k) (r:Yv N.vs.length L) (D:Yl N) (G:k<L.length):Zhq N (Zl (Ya L k)) (Q5 N L costs k):=by
 intro a b I h1 J;have M:a<N.as.length:=Xgq fun q=>I (by simp [Qe,Xd,Zp,Xgn (Nat.not_lt.1 q)]);have Z:b<N.as.length:=Xgq fun q=>J (by rw [<-h1];simp [Qe,Xd,Zp,Xgn (Nat.not_lt.1 q)]);obtain ⟨q,H,lq⟩:=Zh3 r D G M;obtain ⟨i,O,R⟩:=Zw.1 ((Zan r D G (q:=q)).2 ⟨M,I,H⟩);obtain ⟨o,lo,U⟩:=Zw.1 ((V0 r D G (q:=q)).2 ⟨Z,fun e=>J (by rw [<-e,h1]),by rw [h1,H]⟩);have V:=Xv (Xw (N:=N) (L:=L) (k:=k) (c:=q) (x:=false)).once O;have X:=Xv (Xw (N:=N) (L:=L) (k:=k) (c:=q) (x:=true)).once lo;rw [R] at V;rw [U] at X;have:=h q lq i o a b O lo R U;unfold Q5;rw [H];simp only [Xf1];rw [V,X];have e:(enV N L k q i o).toNat=levelS N L k+cellS N L k q+(i * (Zx N L k true q).length+o):=by
  unfold enV;rw [if_pos ⟨by omega,by omega,by omega,by omega⟩];have e:((i:Int) * ((Zx N L k true q).length:Int))=((i * (Zx N L k true q).length:Nat):Int):=by simp
  rw [e];omega
 rw [e];exact this
structure Z4s (Y:Sys):Prop where
 Lt:Z1w Y
 By:Z87 Y
 Ky:Z4q Y
 One:Y.Has 360 Y360
theorem Zep {P Q:Int->Prop} (e:∀ x,P x↔Q x) {d:Int} (h:Zao P d):Zao Q d:=⟨h.le,fun x hx=>h.all x ((e x).2 hx),h.is.imp id (e d).1⟩
theorem Zn5 (X:Z4s Y) {p op:Nat} {N:Zr} {S:Zf} {L:Za} (g:Xc h p N S) (v:Vw h op N L) (G:Yl N) (I:Yv N.vs.length L) {k c:Nat} (J:k<L.length) (hc:c<Yi L k) {sc:Sl} {costs:Zb}
  (rc:Yd h sc costs) (lc:costs.length=levelS N L L.length) (c0:∀ i,i<costs.length->0<=Zl costs i/\Zl costs i<=Xq) (ak:∀ j,j+1=k->Zka N L costs j) {R:Ze}
  (hr:∀ h' t E,Ext h h'->Ym h' 1 t (Zq E)->E.length=entN N L k c->(t.nl=true\/h.size<=t.b)->Zpr N L k c E->R t.v h') :
  Zv Y 360 [Zh p,Zh op,Zg ((k:Int)+1),Zg c,sc.v] h R:=by
 have hI:Xq=1152921504606846976:=rfl;have bL:=I.bL;have bG:=(Xs I J).2.2.1;have ba:=G.ba;have bE:=Zqh (L:=L) (k:=k) (c:=c) G;have li:=Wi (N:=N) (L:=L) (k:=k) (c:=c) (x:=false);have lo:=Wi (N:=N) (L:=L) (k:=k) (c:=c) (x:=true);refine .of_has X.One rfl ?_;have c1:¬ (c:Int)<0:=by omega
 have c2:¬ (Yi L k:Int)<=c:=by omega
 have c3:¬ Yi L k<=c:=by omega
 simp [Y360,Xm.wp,c1];refine Zaf X.Ky.A.O v J (by omega) ?_;simp [c2];refine Zax X.Ky.A v G I J hc ?_;intro h1 a b e1 oa ob fa fb;have la:=oa.row64.len;have lb:=ob.row64.len;simp;refine Zn ?_;intro D Z gD D2 e2;replace D2:Xb Z D #[Zi,Zi]:=D2;simp;refine Zs (vs:=#[a.v,b.v]) D2 rfl rfl (by simp) ?_;intro V D3 m3;have e3:Ext h1 V:=Mod.toExtF e2 m3 gD;have x3:Ext h V:=e1.trans e3;have ae:=oa.ext' e3;have af:=ob.ext' e3;simp [D3.hc];have U:∀ h',Ext h h'->((Zx N L k false c).length=0\/(Zx N L k true c).length=0)->R (Zi) h':=fun h' e q=>by
  refine hr h' Sl.nil [] e Ym.nil ?_ (.inl rfl) (fun i o _ _ h1 Z=>by omega);unfold entN;rcases q with q | q <;> rw [q] <;> simp
 by_cases z1:a.n=0
 ·simp [z1];exact U V x3 (.inl (by omega))
 by_cases z2:b.n=0
 ·simp [z1,z2];exact U V x3 (.inr (by omega))
 simp [z1,z2];by_cases z3:k=0
 ·subst z3;simp [Yj D3,D3.hc];refine Ztk X.By (g.ext x3) G ae.row64 af.row64 Xw Xw (fun j M=>Uh I G J (Zw.2 ⟨j,M,rfl⟩)) (by omega) ?_;intro h4 As st ss fv e4 B au ag rs nx ab;have x4:=x3.trans e4;have av:As.length<=N.as.length:=Zdr B.once B.nat
  have r:((List.range (Zx N L 0 false c).length).map fun (k:Nat)=>(k:Int)).length=(Zx N L 0 false c).length:=by simp
  have ah:∀ j,j<(Zx N L 0 false c).length->Zl ((List.range (Zx N L 0 false c).length).map fun (k:Nat)=>(k:Int)) j=(j:Int):=fun j M=>by simp [Zl,M]
  simp [(D3.ext e4).hc];have ac:(Zx N L 0 false c).length * (Zx N L 0 true c).length<=268435456:=bE;rw [<-lb];refine Zlu X.Lt (B.ok G) (by omega) rs (fun j M=>⟨j,by rw [r] at M;exact ⟨ah j M,by omega⟩⟩) (by omega) (by rw [r];exact ac) nx ab ?_;intro h5 cb E e5 g5 o5 l5 hE;rw [r] at o5 l5 hE;simp only [r];simp;refine hr h5 (Sl.at cb _ _) E (x4.trans e5) o5 (by rw [l5];rfl) (.inr (by have:=x4.size;simp only [Sl.at_b];omega)) (fun i o a' b' h1 Z V aa=>?_);have:=hE i h1 o Z;rw [ah i h1] at this;simp only [Xf1] at this;have ad:(a':Int)∈Zx N L 0 false c:=Zw.2 ⟨i,h1,V⟩;have al:=((Zan I G J).1 ad).2.2;refine Zep (fun x=>?_) this;exact B.thru (k:=(c:Int)) (ce:=Zl (Ya L 0)) (fun y=>by
   rw [V0 I G J];exact ⟨fun ⟨q1,q2,q3⟩=>⟨q1,q3,fun e=>q2 (by rw [q3,e])⟩,fun ⟨q1,q2,q3⟩=>⟨q1,fun e=>q3 (by rw [<-e,q2]),q2⟩⟩) Xw.once (by omega) (by rw [ag i h1];exact V) al Z aa
 obtain ⟨k,rfl⟩:∃ k',k=k'+1:=⟨k-1,by omega⟩
 have z4:¬ ((k:Int)+1+1=1):=by omega
 have z5:¬ ((k:Int)+1=0):=by omega
 simp [z4,Yj D3,D3.hc];rw [show ((k:Int)+1+1)=(((k+1:Nat):Int)+1) by omega];refine Zt0 X.Ky (g.ext x3) (v.ext x3) G I J hc ae.row64 af.row64 (rc.ext x3) lc c0 ?_;intro h4 Ar fi ls st ss fv e4 B rs nx ab am bA;have x4:=x3.trans e4;have H:=Zok I J;have an:=ak k rfl;have ai:∀ i,0<=Zl costs i/\Zl costs i<=Xq:=fun i=>by
  rcases Xf0 i costs.length with q | q
  ·exact c0 i q
  have:Zl costs i=0:=by simp [Zl,Xgn q]
  omega
 have ac:(Zx N L (k+1) false c).length * (Zx N L (k+1) true c).length<=268435456:=bE;have r:((Zx N L (k+1) false c).map (Yg 0 Ar)).length=(Zx N L (k+1) false c).length:=by simp
 have hst:∀ j,j<(Zx N L (k+1) false c).length->∃ u:Nat,Zl ((Zx N L (k+1) false c).map (Yg 0 Ar)) j=u/\u<Ar.length/\Zl Ar u=Zl (Zx N L (k+1) false c) j:=fun j M=>by
  obtain ⟨u,lu,eu⟩:=Zw.1 (am _ (Zw.2 ⟨j,M,rfl⟩));have:=Xv B.once lu;refine ⟨u,?_,lu,eu⟩;rw [<-this,eu];simp [Zl,M]
 simp [(D3.ext e4).hc];rw [<-lb];refine Zlu X.Lt (B.ok I G J rfl (fun i=>(ai i).1) H) bA rs (fun j M=>by
  rw [r] at M;obtain ⟨u,q1,q2,_⟩:=hst j M;exact ⟨u,q1,q2⟩) (by omega) (by rw [r];exact ac) nx ab ?_
 intro h5 cb E e5 g5 o5 l5 hE;rw [r] at o5 l5 hE;simp only [r];simp;refine hr h5 (Sl.at cb _ _) E (x4.trans e5) o5 (by rw [l5];rfl) (.inr (by have:=x4.size;simp only [Sl.at_b];omega)) (fun i o a' b' h1 Z V aa=>?_);have:=hE i h1 o Z;obtain ⟨u,q1,q2,q3⟩:=hst i h1;rw [q1] at this;simp only [Xf1] at this;have ad:(a':Int)∈Zx N L (k+1) false c:=Zw.2 ⟨i,h1,V⟩;have ao:(b':Int)∈Zx N L (k+1) true c:=Zw.2 ⟨o,Z,aa⟩;obtain ⟨_,ap,aq⟩:=(Zan I G J).1 ad;obtain ⟨_,ar,aj⟩:=(V0 I G J).1 ao;have hT:Zao (Zsy N (Zl (Ya L (k+1))) (Zl (Ya L k)) c (Q5 N L costs k) a' b') (Zl E (i * (Zx N L (k+1) true c).length+o)):=Zep (fun x=>B.thru I G J rfl (fun i=>(ai i).2) H q2 (by rw [q3];exact V) Z aa) this;exact (Zjs H (an.ent I G (by omega)) G (fun e=>ap (H _ _ e)) aq aj (fun e=>ar (by rw [aj,e]))).1 hT
def Zet (C:Zb) (o:Nat) (E:Zb):Zb:=C.take o++E++C.drop (o+E.length)
theorem Zh7 {C E:Zb} {o:Nat} (h:o+E.length<=C.length):(Zet C o E).length=C.length:=by simp [Zet];omega
theorem Zqz {C E:Zb} {o j:Nat} (h:o+E.length<=C.length):Zl (Zet C o E) j=if o<=j/\j<o+E.length then Zl E (j-o) else Zl C j:=by
 unfold Zet Zl;simp only [Xf5];rcases Xf0 j o with q | q
 ·rw [if_neg (by omega),Xgu,Xgh (by simp;omega),Xg7,if_pos q]
 rcases Xf0 j (o+E.length) with q' | q'
 ·rw [if_pos ⟨q,q'⟩,Xgu,Xgv (by simp;omega),Xgh (by simp;omega)];simp [Xg8 (show o<=C.length by omega)]
 rw [if_neg (by omega),Xgv (by simp;omega),Xhd];simp [Xg8 (show o<=C.length by omega)]
 congr 2
 omega
theorem Zim {h:Zk} {K:Ze} {G n o:Nat} {C E:Zb} {t s2:Sl} (H:Ym h 1 (Sl.at G n n) (Zq C)) (r:Yd h t E) (U:o+E.length<=n) (V:s2 = { Sl.at G n n with o:=if n=o then 0 else o,n:=n-o,c:=n-o })
  (M:∀ h',Ym h' 1 (Sl.at G n n) (Zq (Zet C o E))->Mod (fun j=>j=G) h h'->K (Zg E.length) h'):Ef.wp h K (.copy 1) [s2.v,t.v]:=by
 subst V;have X:=r.len;have Z:=H.row64.len;simp only [Sl.at_n] at Z;have hm:min t.n (n-o)=E.length:=by omega
 have hv:(Sl.v { Sl.at G n n with o:=if n=o then 0 else o,n:=n-o,c:=n-o }) = .slice (some ⟨G,if n=o then 0 else o,none⟩) (n-o) (n-o):=by simp [Sl.v,Sl.at]
 rw [hv];have D:=U7 r;rw [<-X] at D;simp only [Ef.wp,Xf,hm,D];rcases H.2 with ⟨h1,_⟩ | ⟨_,_,_,h1,O,I,hb,R,ht⟩
 ·cases h1
 simp only [Sl.at_c,Sl.at_b,Sl.at_n,Xgd] at hb R ht h1 O;have J:I.toList.length=n:=by simp [R]
 rw [<-J,Xhf] at ht;by_cases q:n=o
 ·have:E.length=0:=by omega
  have:E=[]:=List.length_eq_zero_iff.1 this;subst this;simp only [if_pos q,Zq,Xhr,hst];refine M h ?_ (Mod.refl _);have:Zet C o []=C:=by simp [Zet]
  rw [this];exact H
 simp only [if_neg q];obtain ⟨h',g1,g2,g3,_⟩:=Zfm (vs:=Zq E) (o:=o) hb (by simp;omega) Zai;rw [g1];refine M h' ⟨by simp [Zh7 (C:=C) (E:=E) (o:=o) (by omega)];omega,.inr ⟨rfl,rfl,rfl,Xfy _,O,_,g2,by simp;omega,?_⟩⟩ g3;simp only [Sl.at_n,Xgd];rw [Xf7 (by simp;omega),ht];simp [Zet,Zq,Xi6,List.map_drop]
def Zce (N:Zr) (L:Za) (C:Zb) (k c:Nat):Prop :=
 ∀ i o a b:Nat,i<(Zx N L k false c).length->o<(Zx N L k true c).length->Zl (Zx N L k false c) i=a->Zl (Zx N L k true c) o=b->Zao (Zmf N (Zl (Ya L k)) c a b) (Zl C (levelS N L k+cellS N L k c+(i * (Zx N L k true c).length+o)))
theorem Z34 {N:Zr} {L:Za} {k c i o:Nat} (r:i<(Zx N L k false c).length) (D:o<(Zx N L k true c).length):i * (Zx N L k true c).length+o<entN N L k c:=by
 have:=Xgi (Zx N L k true c).length (show i+1<=(Zx N L k false c).length from r);rw [Xgm,Xiz] at this;unfold entN;omega
theorem Zcs {N:Zr} {L:Za} {k c k' c':Nat} (hc:c<Yi L k) (hc':c'<Yi L k') (D:¬ (k=k'/\c=c')):levelS N L k+cellS N L k c+entN N L k c<=levelS N L k'+cellS N L k' c'\/levelS N L k'+cellS N L k' c'+entN N L k' c'<=levelS N L k+cellS N L k c:=by
 have r:∀ {k c k' c':Nat},c<Yi L k->(k<k'\/(k=k'/\c<c'))->levelS N L k+cellS N L k c+entN N L k c<=levelS N L k'+cellS N L k' c':=by
  intro k c k' c' hc h;rcases h with h | ⟨rfl,h⟩
  ·have h1:=Zg2 (N:=N) (L:=L) (k:=k) (i:=c+1) (j:=Yi L k) hc;have G:=Zjh (N:=N) (L:=L) (i:=k+1) (j:=k') h;simp only [levelS,cellS] at h1 G;omega
  have h1:=Zg2 (N:=N) (L:=L) (k:=k) (i:=c+1) (j:=c') h;simp only [cellS] at h1;omega
 rcases Xh6 k k' with h | h | h
 ·exact .inl (r hc (.inl h))
 ·subst h;rcases Xh6 c c' with h | h | h
  ·exact .inl (r hc (.inr ⟨rfl,h⟩))
  ·exact absurd ⟨rfl,h⟩ D
  exact .inr (r hc' (.inr ⟨rfl,h⟩))
 exact .inr (r hc' (.inl h))
theorem Zce.put {N:Zr} {L:Za} {C E:Zb} {k c:Nat} (h:Zpr N L k c E) (H:E.length=entN N L k c) (I:levelS N L k+cellS N L k c+entN N L k c<=C.length):Zce N L (Zet C (levelS N L k+cellS N L k c) E) k c:=by
 intro i o a b r D G hb;have:=Z34 r D;rw [Zqz (by omega),if_pos ⟨by omega,by omega⟩,Nat.add_sub_cancel_left];exact h i o a b r D G hb
theorem Zce.other {N:Zr} {L:Za} {C E:Zb} {k c k' c':Nat} (h:Zce N L C k' c') (J:E.length=entN N L k c) (M:levelS N L k+cellS N L k c+entN N L k c<=C.length) (hc:c<Yi L k) (hc':c'<Yi L k') (r:¬ (k=k'/\c=c')):Zce N L (Zet C (levelS N L k+cellS N L k c) E) k' c':=by
 intro i o a b D G H hb;have:=Z34 D G;have I:=Zcs (N:=N) hc hc' r;rw [Zqz (by omega),if_neg (by omega)];exact h i o a b D G H hb
theorem Z2e {N:Zr} (r:Yl N) {ce:Nat->Int} {k:Int} {i o:Nat} {x:Int} (h:Zmf N ce k i o x):0<=x:=by
 obtain ⟨a,y,h1,D,rfl⟩:=h;have:=Ze1 r h1;have:=(Wq r (a:=(a:Int)) (b:=(o:Int))).resolve_left D;omega
theorem Zpr.pos {N:Zr} {L:Za} {E:Zb} {k c:Nat} (G:Yl N) (H:Yv N.vs.length L) (I:k<L.length) (h:Zpr N L k c E) (M:E.length=entN N L k c):∀ j,j<E.length->0<=Zl E j/\Zl E j<=Xq:=by
 intro j r;rw [M] at r;unfold entN at r;have O:0<(Zx N L k true c).length:=by
  rcases Xhj (Zx N L k true c).length with q | q
  ·rw [q] at r;simp at r
  exact q
 have J:j / (Zx N L k true c).length<(Zx N L k false c).length:=Nat.div_lt_of_lt_mul (by rw [Xit];exact r);have D:=Nat.mod_lt j O;obtain ⟨a,R,_⟩:=Uh H G I (Zw.2 ⟨_,J,rfl⟩);obtain ⟨b,U,_⟩:=Uh H G I (Zw.2 ⟨_,D,rfl⟩);have:=h _ _ a b J D R U;rw [Nat.div_add_mod'] at this;refine ⟨?_,this.le⟩;rcases this.is with q | q
 ·rw [q];decide
 exact Z2e G q
structure Zbf (N:Zr) (L:Za) (C:Zb):Prop where
 len:C.length=levelS N L L.length
 c0:∀ i,i<C.length->0<=Zl C i/\Zl C i<=Xq
 inn:∀ k c,k<L.length->c<Yi L k->Zce N L C k c
theorem Zbf.level {N:Zr} {L:Za} {C:Zb} (h:Zbf N L C) {k:Nat} (r:k<L.length):Zka N L C k:=fun c hc=>h.inn k c r hc
theorem Zsx {C E:Zb} {o:Nat} (h:o+E.length<=C.length) (D:∀ i,i<C.length->0<=Zl C i/\Zl C i<=Xq) (G:∀ j,j<E.length->0<=Zl E j/\Zl E j<=Xq):∀ i,i<(Zet C o E).length->0<=Zl (Zet C o E) i/\Zl (Zet C o E) i<=Xq:=by
 intro i r;rw [Zh7 h] at r;rw [Zqz h]
 split
 ·exact G _ (by omega)
 exact D i r
structure Z4l (Y:Sys):Prop where
 O:Z4s Y
 All:Y.Has 358 Y358
def Xe2 (v0 v1:Value) (cb n:Nat) (N:Zr) (L:Za) (h0:Zk) (e:Zc) (h':Zk):Prop :=
 ∃ (j:Nat) (C:Zb) (v6 v7 v8 v9 v10:Value),e=[v0,v1,Zi,.slice (some ⟨cb,0,none⟩) n n,Zg ((levelS N L j:Nat):Int),Zg ((j:Int)+1),v6,v7,v8,v9,v10]/\j<=L.length/\Ym h' 1 (Sl.at cb n n) (Zq C)/\C.length=n/\(∀ i,i<C.length->0<=Zl C i/\Zl C i<=Xq) /\
  (∀ k c,k<j->c<Yi L k->Zce N L C k c)/\Ext h0 h'
def Xe6 (v0 v1:Value) (cb n j:Nat) (N:Zr) (L:Za) (h0:Zk) (e:Zc) (h':Zk):Prop :=
 ∃ (c:Nat) (C:Zb) (v6 v7 v10:Value),e=[v0,v1,Zi,.slice (some ⟨cb,0,none⟩) n n,Zg ((levelS N L j+cellS N L j c:Nat):Int),Zg ((j:Int)+1),v6,v7,Zg (Yi L j),Zg c,v10]/\c<=Yi L j/\Ym h' 1 (Sl.at cb n n) (Zq C)/\C.length=n/\(∀ i,i<C.length->0<=Zl C i/\Zl C i<=Xq) /\
  (∀ k c',k<j->c'<Yi L k->Zce N L C k c')/\(∀ c',c'<c->Zce N L C j c')/\Ext h0 h'
theorem Z2g (X:Z4l Y) {p op:Nat} {N:Zr} {S:Zf} {L:Za} (g:Xc h p N S) (v:Vw h op N L) (ok:Yl N) (V:Yv N.vs.length L) {R:Ze}
  (hr:∀ h' G C,Ext h h'->h.size<=G->Ym h' 1 (Sl.at G (levelS N L L.length) (levelS N L L.length)) (Zq C)->Zbf N L C->R (.slice (some ⟨G,0,none⟩) (levelS N L L.length) (levelS N L L.length)) h') :
  Zv Y 358 [Zh p,Zh op] h R:=by
 have bL:=V.bL;have bS:=Zar ok V (k:=L.length) (Xfy _);refine .of_has X.All rfl ?_;simp [Y358,Xm.wp];refine Zcy X.O.Ky.A v ?_;simp;refine U1 (n:=levelS N L L.length) (by omega) rfl ?_;intro G h1 ac o1 e1 ag;simp;refine Zt (Xe2 (Zh p) (Zh op) G (levelS N L L.length) N L h) (fun e _=>L.length+1-Zy e 5) ⟨0,_,_,_,_,_,_,rfl,by omega,o1,by simp,fun i hi=>by simp [Zl] at hi ⊢;simp [hi],fun k c Z=>by omega,e1⟩ ?_;rintro e h2 ⟨j,C,v6,v7,v8,v9,ah,rfl,hj,H,I,J,M,D⟩;simp;refine Zeh X.O.Ky.A.O (v.ext D) ?_;by_cases cj:j<L.length;rotate_left
 ·have U:¬ (j:Int)+1<=L.length:=by omega
  have:j=L.length:=by omega
  subst this;simp [U];exact hr h2 G C D ac H ⟨I,J,fun k c Z hc=>M k c Z hc⟩
 have U:(j:Int)+1<=L.length:=by omega
 have wj:IntKind.i64.wrap ((j:Int)+1+1)=(j:Int)+1+1:=Zo (by omega);have bG:=(Xs V cj).2.2.1;simp [U];refine Zaf X.O.Ky.A.O (v.ext D) cj (by omega) ?_;simp;refine Zt (Xe6 (Zh p) (Zh op) G (levelS N L L.length) j N L h) (fun e _=>Yi L j-Zy e 9) ⟨0,C,_,_,_,rfl,by omega,H,I,J,M,fun c' h=>by omega,D⟩ ?_;clear M J I H D;clear C h2;rintro e h2 ⟨c,C,w6,w7,ai,rfl,hc,H,I,J,M,dc,D⟩;by_cases cc:c<Yi L j;rotate_left
 ·have ad:¬ (c:Int)<Yi L j:=by omega
  have:c=Yi L j:=by omega
  subst this;have aa:levelS N L (j+1)=levelS N L j+cellS N L j (Yi L j):=rfl;simp [wj,-Int.natCast_add];refine ⟨⟨j+1,C,_,_,_,_,_,by rw [aa];rfl,by omega,H,I,J,fun k c' Z hc'=>?_,D⟩,by simp [Zy];omega⟩;by_cases q:k=j
  ·subst q;exact dc c' hc'
  exact M k c' (by omega) hc'
 have ad:(c:Int)<Yi L j:=by omega
 have wc:=Zj (i:=c) (by omega);have ce:=Zmc (N:=N) cj cc;have aj:((levelS N L j+cellS N L j c:Nat):Int)<=((levelS N L L.length:Nat):Int):=by omega
 have r:=Zdw (Y:=Y) (h:=h2) (s:=Sl.at G (levelS N L L.length) (levelS N L L.length)) (sz:=1) (k:=.i64) (j:=((levelS N L j+cellS N L j c:Nat):Int)) H.ok (by omega) (by simp only [Sl.at_n];omega);simp only [Xf1,Xgd,Sl.at_o,Sl.at_n,Sl.at_c,Xgl,Sl.at_v] at r;generalize ae:({ Sl.at G (levelS N L L.length) (levelS N L L.length) with o:=if levelS N L L.length=levelS N L j+cellS N L j c then 0 else levelS N L j+cellS N L j c,n:=levelS N L L.length-(levelS N L j+cellS N L j c),c:=levelS N L L.length-(levelS N L j+cellS N L j c) }:Sl)=s2 at r;simp [cc,r,-Int.natCast_add];rw [<-Sl.at_v];refine Zn5 X.O (g.ext D) (v.ext D) ok V cj cc H.row64 I J (fun i hi c' hc'=>M i c' (by omega) hc') ?_;intro h3 t E e3 ot lE ft hE;have af:=H.ext' e3;have hp:=hE.pos ok V cj lE;simp [-Int.natCast_add];refine Zim af ot.row64 (o:=levelS N L j+cellS N L j c) (by omega) ae.symm ?_;intro h4 o4 m4;have w5:IntKind.i64.wrap (((levelS N L j+cellS N L j c:Nat):Int)+(E.length:Int))=((levelS N L j+cellS N L j (c+1):Nat):Int):=by
  rw [Zo (by omega)];simp only [cellS];omega
 have ak:=wc;simp [w5,wc,-Int.natCast_add];have ab:levelS N L j+cellS N L j c+E.length<=C.length:=by omega
 refine ⟨⟨c+1,_,_,_,_,rfl,by omega,o4,by rw [Zh7 ab];exact I,Zsx ab J hp,fun k c' Z hc'=>(M k c' Z hc').other lE (by omega) cc hc' (by omega),fun c' hc'=>?_,Mod.ext (D.trans e3) m4 (fun i hi=>by omega)⟩,by simp [Zy];omega⟩;by_cases q:c'=c
 ·subst q;exact Zce.put hE lE (by omega)
 exact (dc c' (by omega)).other lE (by omega) cc (by omega) (by omega)
end
end Go.Rm
