import Derived.Test.YtpikofomaekpoaaGreatDoorT11
import Derived.Test.YtpikofomaekpoaaGreatDoorT12
/- Parts. -/
set_option linter.unusedSimpArgs false
set_option linter.unusedVariables false
namespace Go.Rm
def Xbs (v0:Value) (B rb n:Nat) (ts:List Tab) (h0:Zk) (e:Zc) (h':Zk):Prop :=
 ∃ (i:Nat) (v4 v5 v6 v7 v8 v9 v10 v11 v12 v13 v14 v15 v16 v17 v18 v19 v20 v21 v22 v23 v24 v25 v26:Value),
  e=[v0,.pointer (some ⟨B,0,none⟩),.pointer (some ⟨rb,0,none⟩),.int .i64 i,v4,v5,v6,v7,v8,v9,v10,v11,v12,v13,v14,v15,v16,v17,v18,v19,v20,v21,v22,v23,v24,v25,v26]/\i<=n/\Ql 0 ts=Ql i (ts.drop i)/\Ext h0 h'
def Xc4 (v0:Value) (B rb n nt:Nat) (vs:List Xe) (h0:Zk) (e:Zc) (h':Zk):Prop :=
 ∃ (i:Nat) (v3 v4 v6 v7 v8 v9 v10 v11 v12 v13 v14 v15 v16 v17 v18 v19 v20 v21 v22 v23 v24 v25 v26:Value),
  e=[v0,.pointer (some ⟨B,0,none⟩),.pointer (some ⟨rb,0,none⟩),v3,v4,.int .i64 i,v6,v7,v8,v9,v10,v11,v12,v13,v14,v15,v16,v17,v18,v19,v20,v21,v22,v23,v24,v25,v26]/\i<=n/\Un nt 0 vs=Un nt i (vs.drop i)/\(∀ j,j<i->Yf nt (Zp vs j).c=true)/\Ext h0 h'
def Xb3 (v0:Value) (B rb n nv:Nat) (sI sO:Sl) (as:List Xe) (h0:Zk) (e:Zc) (h':Zk):Prop :=
 ∃ (i:Nat) (v3 v4 v5 v6 v10 v11 v12 v13 v14 v15 v16 v17 v18 v19 v20 v21 v22 v23 v24 v25 v26:Value),
  e=[v0,.pointer (some ⟨B,0,none⟩),.pointer (some ⟨rb,0,none⟩),v3,v4,v5,v6,sI.v,sO.v,.int .i64 i,v10,v11,v12,v13,v14,v15,v16,v17,v18,v19,v20,v21,v22,v23,v24,v25,v26]/\i<=n/\Z0 nv 0 as=Z0 nv i (as.drop i)/\(∀ j,j<i->Yf nv (Zp as j).a=true/\Yf nv (Zp as j).b=true)/\Ym h' 1 sI (Zq (Zld nv (as.take i)))/\Ym h' 1 sO (Zq (Ze4 nv (as.take i)))/\Ext h0 h'
def Xb1 (v0:Value) (B rb n:Nat) (sI sO:Sl) (N:Zr) (h0:Zk) (e:Zc) (h':Zk):Prop :=
 ∃ (i:Nat) (v3 v4 v5 v6 v9 v10 v12 v13 v14 v15 v16 v17 v18 v19 v20 v21 v22 v23 v24 v25 v26:Value),
  e=[v0,.pointer (some ⟨B,0,none⟩),.pointer (some ⟨rb,0,none⟩),v3,v4,v5,v6,sI.v,sO.v,v9,v10,.int .i64 i,v12,v13,v14,v15,v16,v17,v18,v19,v20,v21,v22,v23,v24,v25,v26]/\i<=n/\Uq N 0 N.vs=Uq N i (N.vs.drop i)/\Ext h0 h'
structure Z5q (Y:Sys):Prop where
 CheckNet:Y.Has 101 Y101
 Within:Y.Has 118 Y118
 Coord:Y.Has 124 Y124
section
variable {Y:Sys} {h:Zk}
theorem Zk9 (RN:Z5q Y) (T:RefCk Y) {G sa st:Sl} {N:Zr} (r:Ut h G sa st N)
  {R:Ze} (hr:∀ h' v,Ext h h'->FWr h.size h' (Uc N) v->R v h'):Zv Y 101 [Yy G sa st] h R:=by
 have lv:=r.rv.len;have la:=r.ra.len;have lt:=r.rt.len;refine .of_has RN.CheckNet rfl ?_;simp [Y101,Xm.wp,Yy];refine Zn ?_;intro B h1 g1 B1 e1;simp;refine Zn ?_;intro rb h2 g2 B2 e2;have B12:=B1.ext e2;have aV:=e1.trans e2;have z1:=e1.size;have z2:=e2.size;have lB:=B2.lt;have D:∀ {h':Zk} {v:Value} {K:Ze},Ext h h'->Xb h' rb #[.slice none 0 0,.int .i64 0]->FWr h2.size h' (Uc N) v->(∀ h4 X,v = .agg X->Xb h4 rb X->X.size=2->R v h4->K undef h4) ->
   Ef.wp h' K (.store 2) [.pointer (some ⟨rb,0,none⟩),v]:=by
  intro h' v K e3 B3 ae hk;obtain ⟨X,rfl⟩:=ae.here.shape;refine Zs B3 rfl rfl (by simp) ?_;intro h4 B4 m4;exact hk h4 _ rfl B4 rfl (hr h4 _ (Mod.ext e3 m4 (fun j hj=>by omega)) ((ae.step m4 (fun j hj=>by omega)).mono (by omega)))
 have M:∀ {h':Zk} {p:ByteArray} {k e:Int} {K:Ze},Ext h2 h'->Uc N=Vr p k e->(∀ h4 v,Ext h h4->Xb h4 rb #[.slice none 0 0,.int .i64 0]->FWr h2.size h4 (Uc N) v->K v h4) ->
   Zv Y 50 [.string p,.int .i64 k,.int .i64 e] h' K:=by
  intro h' p k e K x hw hK;refine Q6 T.At ?_;intro h4 v e4 hv;refine hK h4 v ((aV.trans x).trans e4) (B2.ext (x.trans e4)) ?_;rw [hw];exact hv.mono x.size
 simp [B12.hc];by_cases c1:4096<G.n
 ·have ag:(4096:Int)<G.n:=by omega
  have hw:Uc N=Vr Zq9 0 4:=by
   unfold Uc;rw [Zef] <;> simp [Zda,lv,c1,Vr]
  simp [ag];refine M (Mod.refl h2) hw ?_;intro h3 v x3 B3 hv;simp;refine D x3 B3 hv ?_;rintro h4 X rfl B4 hs I;simp;exact Xj rfl B4 hs I
 have ag:¬ (4096:Int)<G.n:=by omega
 by_cases c2:16384<sa.n
 ·have aI:(16384:Int)<sa.n:=by omega
  have hw:Uc N=Vr Zq9 1 4:=by
   unfold Uc;rw [Zef] <;> simp [Zda,lv,la,c1,c2,Vr]
  simp [ag,aI];refine M (Mod.refl h2) hw ?_;intro h3 v x3 B3 hv;simp;refine D x3 B3 hv ?_;rintro h4 X rfl B4 hs I;simp;exact Xj rfl B4 hs I
 have aI:¬ (16384:Int)<sa.n:=by omega
 by_cases c3:256<st.n
 ·have aW:(256:Int)<st.n:=by omega
  have hw:Uc N=Vr Zq9 2 4:=by
   unfold Uc;rw [Zef] <;> simp [Zda,lv,la,lt,c1,c2,c3,Vr]
  simp [ag,aI,aW];refine M (Mod.refl h2) hw ?_;intro h3 v x3 B3 hv;simp;refine D x3 B3 hv ?_;rintro h4 X rfl B4 hs I;simp;exact Xj rfl B4 hs I
 have aW:¬ (256:Int)<st.n:=by omega
 have a9:Uc N=orW (Ql 0 N.ts) (orW (Un N.ts.length 0 N.vs) (orW (Z0 N.vs.length 0 N.as) (Uq N 0 N.vs))):=by
  unfold Uc;rw [Zee];simp [Zda,lv,la,lt,c1,c2,c3,Qg]
 simp [ag,aI,aW];refine Zt (Xbs (Yy G sa st) B rb st.n N.ts h2) (fun e _=>st.n-Zy e 3) ⟨0,_,_,_,_,_,_,_,_,_,_,_,_,_,_,_,_,_,_,_,_,_,_,_,rfl,by omega,by simp,Mod.refl h2⟩ ?_;rintro e h3 ⟨i,v4,v5,v6,v7,v8,v9,ah,aJ,ai,aj,ak,al,am,an,ao,ap,aq,ar,au,av,aw,ax,ay,rfl,hi,J,x3⟩;have y3:=aV.trans x3;have B13:=B12.ext x3;by_cases c:i<st.n
 ·have c':(i:Int)<st.n:=by omega
  have w1:=Zj (i:=i) (by omega);rw [Zjq (by omega)] at J;obtain ⟨q,aK,_,rq⟩:=(r.ext y3).rt.rd (i:=i) (by omega);simp [c',B13.hc,Zm (r.ext y3).rt.ok,aK];refine Zr9 T rq ?_;intro h4 v4 e4 aX;rw [show Us (Zz N.ts i).i (Zz N.ts i).o (Zz N.ts i).cs=Z3 (Zz N.ts i) from rfl] at aX;have y4:=y3.trans e4;obtain ⟨ps,rfl⟩:=aX.here.shape;simp;refine Xh (vs:=#[ps.v,.int .i64 (Z3 (Zz N.ts i)).2]) rfl rfl (by simp) ?_;intro b5 bo g5 B5' aY O;simp;refine O _ ?_;intro h5 B5 e5;clear O B5' aY;have y5:=y4.trans e5;by_cases h0:(Z3 (Zz N.ts i)).2=0
  ·rw [if_neg (by simp [h0])] at J;simp [B5.hc,h0,w1];exact ⟨⟨i+1,_,_,_,_,_,_,_,_,_,_,_,_,_,_,_,_,_,_,_,_,_,_,_,rfl,by omega,J,(x3.trans e4).trans e5⟩,by simp [Zy];omega⟩
  rw [if_pos h0] at J;have aL:(Wx Zo0 i (Z3 (Zz N.ts i))).2≠0:=by unfold Wx;rw [if_neg h0];exact h0
  have hw:Uc N=Wx Zo0 i (Z3 (Zz N.ts i)):=by rw [a9,J,Zef aL]
  simp [B5.hc,h0,Yj B5];refine Zqw RN.Within (aX.here.ext e5) h0 (by have:=(Zyv (t:=Zz N.ts i)).1;omega) ?_;intro h6 v6 e6 U;rw [<-hw] at U;obtain ⟨bC,rfl⟩:=U.here.shape;simp;refine D (y5.trans e6) (B2.ext (((x3.trans e4).trans e5).trans e6)) (U.mono (by have:=((x3.trans e4).trans e5).size;omega)) ?_;rintro h7 X hs' B7 hs I;simp;exact Xj rfl B7 hs (by rw [<-hs'];exact I)
 have c':¬ (i:Int)<st.n:=by omega
 rw [Xgs (by omega),Ql] at J;have ba:Uc N=orW (Un N.ts.length 0 N.vs) (orW (Z0 N.vs.length 0 N.as) (Uq N 0 N.vs)):=by rw [a9,J,Zee rfl]
 simp [c',B13.hc];refine Zt (Xc4 (Yy G sa st) B rb G.n N.ts.length N.vs h3) (fun e _=>G.n-Zy e 5) ⟨0,_,_,_,_,_,_,_,_,_,_,_,_,_,_,_,_,_,_,_,_,_,_,_,rfl,by omega,by simp,fun j hj=>by omega,Mod.refl h3⟩ ?_;clear c c' hi J v4 v5 v6 v7 v8 v9 ah aJ ai aj ak al am an ao ap aq ar au av aw ax ay;rintro e h4 ⟨i,v3,v4,v6,v7,v8,v9,ah,aJ,ai,aj,ak,al,am,an,ao,ap,aq,ar,au,av,aw,ax,ay,rfl,hi,J,aR,x4⟩;have y4:=y3.trans x4;have B14:=B13.ext x4;have bb:=x3.trans x4;by_cases c:i<G.n
 ·have c':(i:Int)<G.n:=by omega
  have w1:=Zj (i:=i) (by omega);rw [Zjc (by omega)] at J;have bp:=(r.ext y4).rv.rd (i:=i) (by omega);simp [c',B14.hc,Zm (r.ext y4).rv.ok,bp];refine Xh (vs:=#[.int .i64 (Zp N.vs i).a,.int .i64 (Zp N.vs i).b,.int .i64 (Zp N.vs i).c]) rfl rfl (by simp) ?_;intro b5 bo g5 B5' aY O;simp;refine O _ ?_;intro h5 B5 e5;clear O B5' aY;have aM:=bb.trans e5;have B15:=B14.ext e5;have H:(Ur N.ts.length i (Zp N.vs i)).2≠0->Uc N=Ur N.ts.length i (Zp N.vs i):=by
   intro az;rw [if_pos az] at J;rw [ba,J,Zef az]
  simp [B5.hc];refine Zl3 RN.Coord ?_;by_cases f1:Zbx (Zp N.vs i).a=true
  ·have hv:Ur N.ts.length i (Zp N.vs i)=Vr X0 i 1:=by simp [Ur,f1]
   simp [f1];refine M aM (by rw [H (by rw [hv];simp [Vr]),hv]) ?_;intro h6 v x6 B6 U;simp;refine D x6 B6 U ?_;rintro h7 X rfl B7 hs I;simp;exact Xj rfl B7 hs I
  simp [f1,B5.hc];refine Zl3 RN.Coord ?_;by_cases f2:Zbx (Zp N.vs i).b=true
  ·have hv:Ur N.ts.length i (Zp N.vs i)=Vr X0 i 1:=by simp [Ur,f2]
   simp [f2];refine M aM (by rw [H (by rw [hv];simp [Vr]),hv]) ?_;intro h6 v x6 B6 U;simp;refine D x6 B6 U ?_;rintro h7 X rfl B7 hs I;simp;exact Xj rfl B7 hs I
  have aZ:Ur N.ts.length i (Zp N.vs i)=if Yf N.ts.length (Zp N.vs i).c then Qg else Vr X0 i 5:=by simp [Ur,f1,f2]
  by_cases f3:(Zp N.vs i).c<0
  ·have hv:Ur N.ts.length i (Zp N.vs i)=Vr X0 i 5:=by
    rw [aZ,if_neg];simp [Yf];omega
   simp [f2,B5.hc,f3];refine M aM (by rw [H (by rw [hv];simp [Vr]),hv]) ?_;intro h6 v x6 B6 U;simp;refine D x6 B6 U ?_;rintro h7 X rfl B7 hs I;simp;exact Xj rfl B7 hs I
  by_cases f4:(st.n:Int)<=(Zp N.vs i).c
  ·have hv:Ur N.ts.length i (Zp N.vs i)=Vr X0 i 5:=by
    rw [aZ,if_neg];simp [Yf];omega
   simp [f2,B5.hc,B15.hc,f3,f4];refine M aM (by rw [H (by rw [hv];simp [Vr]),hv]) ?_;intro h6 v x6 B6 U;simp;refine D x6 B6 U ?_;rintro h7 X rfl B7 hs I;simp;exact Xj rfl B7 hs I
  have bc:Yf N.ts.length (Zp N.vs i).c=true:=by simp [Yf];omega
  have hv:Ur N.ts.length i (Zp N.vs i)=Qg:=by rw [aZ,if_pos bc]
  rw [hv,if_neg (by simp [Qg])] at J;simp [f2,B5.hc,B15.hc,f3,f4,w1];refine ⟨⟨i+1,_,_,_,_,_,_,_,_,_,_,_,_,_,_,_,_,_,_,_,_,_,_,_,rfl,by omega,J,fun j hj=>?_,x4.trans e5⟩,by simp [Zy];omega⟩;rcases Xf0 j i with q | q
  ·exact aR j q
  obtain rfl:j=i:=by omega
  exact bc
 have c':¬ (i:Int)<G.n:=by omega
 obtain rfl:i=G.n:=by omega
 rw [Xgs (by omega),Un] at J;have aL:Uc N=orW (Z0 N.vs.length 0 N.as) (Uq N 0 N.vs):=by rw [ba,J,Zee rfl]
 have hV:∀ i,i<N.vs.length->Yf N.ts.length (Zp N.vs i).c=true:=fun i hi=>aR i (by omega);have q1:(G.n:Int)<=9223372036854775807:=by omega
 have q2:8 * (G.n:Int)<=281474976710656:=by omega
 simp [c',B14.hc,Vq,Ui,q1,q2];intro t;have o2:Ym (h4.push (.cells (Array.replicate G.n (.int .i64 0)) t)) 1 (Sl.at h4.size G.n G.n) (Zq (List.replicate G.n 0)):=Zdh (by omega);have e5:Ext h4 (h4.push (.cells (Array.replicate G.n (.int .i64 0)) t)):=Mod.push;have k5:(h4.push (.cells (Array.replicate G.n (.int .i64 0)) t)).size=h4.size+1:=by simp
 generalize h4.push (.cells (Array.replicate G.n (.int .i64 0)) t)=h5 at *
 have B15:=B14.ext e5;simp [B15.hc,Vq,Ui,q1,q2];intro t';have o3:Ym (h5.push (.cells (Array.replicate G.n (.int .i64 0)) t')) 1 (Sl.at h5.size G.n G.n) (Zq (List.replicate G.n 0)):=Zdh (by omega);have e6:Ext h5 (h5.push (.cells (Array.replicate G.n (.int .i64 0)) t')):=Mod.push;have bd:=o2.mod e6 (fun _ h=>h);have k6:(h5.push (.cells (Array.replicate G.n (.int .i64 0)) t')).size=h5.size+1:=by simp
 generalize h5.push (.cells (Array.replicate G.n (.int .i64 0)) t')=h6 at *
 obtain ⟨sI,aA⟩:∃ sI,sI=Sl.at h4.size G.n G.n:=⟨_,rfl⟩
 obtain ⟨sO,aB⟩:∃ sO,sO=Sl.at h5.size G.n G.n:=⟨_,rfl⟩
 have bI:sI.b=h4.size:=by rw [aA];rfl
 have bO:sO.b=h5.size:=by rw [aB];rfl
 have nI:sI.n=G.n:=by rw [aA];rfl
 have nO:sO.n=G.n:=by rw [aB];rfl
 have vI:(Value.slice (some ⟨h4.size,0,none⟩) G.n G.n)=sI.v:=by rw [aA];rfl
 have vO:(Value.slice (some ⟨h5.size,0,none⟩) G.n G.n)=sO.v:=by rw [aB];rfl
 rw [<-aA] at bd;rw [<-aB] at o3;simp [vI,vO];refine Zt (Xb3 (Yy G sa st) B rb sa.n G.n sI sO N.as h4) (fun e _=>sa.n-Zy e 9) ⟨0,_,_,_,_,_,_,_,_,_,_,_,_,_,_,_,_,_,_,_,_,_,rfl,by omega,by simp,fun j hj=>by omega,by simpa [Zt6] using bd,by simpa [Zos] using o3,e5.trans e6⟩ ?_;have x2A:=bb;rintro e h7 ⟨i,v3,v4,v5,v6,ah,aJ,ai,aj,ak,al,am,an,ao,ap,aq,ar,au,av,aw,ax,ay,rfl,hi,J,aC,oI,oO,x7⟩;rw [<-lv] at J aC;have y7:=y4.trans x7;have B17:=B14.ext x7;have be:=x2A.trans x7;by_cases c:i<sa.n
 ·have c':(i:Int)<sa.n:=by omega
  have w1:=Zj (i:=i) (by omega);rw [Zml (by omega)] at J;have bq:=(r.ext y7).ra.rd (i:=i) (by omega);simp [c',B17.hc,Zm (r.ext y7).ra.ok,bq];refine Xh (vs:=#[.int .i64 (Zp N.as i).a,.int .i64 (Zp N.as i).b,.int .i64 (Zp N.as i).c]) rfl rfl (by simp) ?_;intro b8 bD g8 B8' br O;simp;refine O _ ?_;intro h8 B8 e8;clear O B8' br;have aD:=be.trans e8;have B18:=B17.ext e8;have H:(Q3 N.vs.length i (Zp N.as i)).2≠0->Uc N=Q3 N.vs.length i (Zp N.as i):=by
   intro az;rw [if_pos az] at J;rw [aL,J,Zef az]
  by_cases f1:(Zp N.as i).a<0
  ·have hv:Q3 N.vs.length i (Zp N.as i)=Vr Zm0 i 5:=by
    simp [Q3,Yf];intros;omega
   simp [B8.hc,f1];refine M aD (by rw [H (by rw [hv];simp [Vr]),hv]) ?_;intro h9 v x9 B9 aa;simp;refine D x9 B9 aa ?_;rintro ac X rfl B10 hs I;simp;exact Xj rfl B10 hs I
  by_cases f2:(G.n:Int)<=(Zp N.as i).a
  ·have hv:Q3 N.vs.length i (Zp N.as i)=Vr Zm0 i 5:=by
    simp [Q3,Yf];intros;omega
   simp [B8.hc,B18.hc,f1,f2];refine M aD (by rw [H (by rw [hv];simp [Vr]),hv]) ?_;intro h9 v x9 B9 aa;simp;refine D x9 B9 aa ?_;rintro ac X rfl B10 hs I;simp;exact Xj rfl B10 hs I
  by_cases f3:(Zp N.as i).b<0
  ·have hv:Q3 N.vs.length i (Zp N.as i)=Vr Zm0 i 5:=by
    simp [Q3,Yf];intros;omega
   simp [B8.hc,B18.hc,f1,f2,f3];refine M aD (by rw [H (by rw [hv];simp [Vr]),hv]) ?_;intro h9 v x9 B9 aa;simp;refine D x9 B9 aa ?_;rintro ac X rfl B10 hs I;simp;exact Xj rfl B10 hs I
  by_cases f4:(G.n:Int)<=(Zp N.as i).b
  ·have hv:Q3 N.vs.length i (Zp N.as i)=Vr Zm0 i 5:=by
    simp [Q3,Yf];intros;omega
   simp [B8.hc,B18.hc,f1,f2,f3,f4];refine M aD (by rw [H (by rw [hv];simp [Vr]),hv]) ?_;intro h9 v x9 B9 aa;simp;refine D x9 B9 aa ?_;rintro ac X rfl B10 hs I;simp;exact Xj rfl B10 hs I
  have g1:Yf N.vs.length (Zp N.as i).a=true:=by simp [Yf];omega
  have g2:Yf N.vs.length (Zp N.as i).b=true:=by simp [Yf];omega
  simp [B8.hc,B18.hc,f1,f2,f3,f4];obtain ⟨f,hf'⟩:∃ f:Nat,(Zp N.as i).a=f:=⟨(Zp N.as i).a.toNat,by omega⟩
  obtain ⟨g,bg⟩:∃ g:Nat,(Zp N.as i).b=g:=⟨(Zp N.as i).b.toNat,by omega⟩
  refine Zbw T.Weight ?_;by_cases f5:Yt (Zp N.as i).c=true;rotate_left
  ·have hv:Q3 N.vs.length i (Zp N.as i)=Vr Zm0 i 8:=by simp [Q3,g1,g2,f5]
   simp [f5];refine M aD (by rw [H (by rw [hv];simp [Vr]),hv]) ?_;intro h9 v x9 B9 aa;simp;refine D x9 B9 aa ?_;rintro ac X rfl B10 hs I;simp;exact Xj rfl B10 hs I
  have hv:Q3 N.vs.length i (Zp N.as i)=Qg:=by simp [Q3,g1,g2,f5]
  rw [hv,if_neg (by simp [Qg])] at J;have bs:=Znx (n:=G.n) (t:=g) (by omega:i<N.as.length) bg (by omega);have bu:=Zlm (n:=G.n) (t:=f) (by omega:i<N.as.length) hf' (by omega);have bv:(g:Int)<sI.n:=by omega
  have bw:(f:Int)<sO.n:=by omega
  have a0:=oI.mod e8 (fun _ h=>h);have aE:=oO.mod e8 (fun _ h=>h);rw [hf',bg] at B8;have cO:=aE.row64.at (i:=f) (by omega)
  rw [Zh4 (by omega)] at cO;have bE:=Zyp (as:=N.as.take i) (v:=g);have bF:=Zsc (as:=N.as.take i) (v:=f);have bG:(N.as.take i).length<=16384:=by rw [Xgp];omega
  have wI:IntKind.i64.wrap ((Qs (N.as.take i) g:Int)+1)=(Qs (N.as.take i) g:Int)+1:=Zo (by omega);have wO:IntKind.i64.wrap ((Wz (N.as.take i) f:Int)+1)=(Wz (N.as.take i) f:Int)+1:=Zo (by omega);obtain ⟨ad,bH,bx,m9,_⟩:=Zdq aE (k:=f) (y:=(Wz (N.as.take i) f:Int)+1) (by simp;omega);rw [bu] at ad;have bJ:=oI.lt (by rw [aA];rfl);have bK:=oO.lt (by rw [aB];rfl);simp [f5,B8.hc,Zm aE.ok,bw,cO,wO,Xt.open,bx];have B9:=m9.blk B8 (by omega);have Z:=a0.mod m9 (fun _ hj=>by omega);have x9:Ext h4 (Vd h8 sO.b (sO.o+f) (.int .i64 ((Wz (N.as.take i) f:Int)+1))):=Mod.ext (x7.trans e8) m9 (fun j hj=>by omega);generalize Vd h8 sO.b (sO.o+f) (.int .i64 ((Wz (N.as.take i) f:Int)+1))=h9 at *
  have cI:=Z.row64.at (i:=g) (by omega)
  rw [Zj0 (by omega)] at cI;obtain ⟨aS,bL,bz,bh,_⟩:=Zdq Z (k:=g) (y:=(Qs (N.as.take i) g:Int)+1) (by simp;omega);rw [bs] at aS;simp [B9.hc,Zm Z.ok,bv,cI,wI,Xt.open,bz,w1];have bi:=ad.mod bh (fun _ hj=>by omega);have ab:Ext h4 (Vd h9 sI.b (sI.o+g) (.int .i64 ((Qs (N.as.take i) g:Int)+1))):=Mod.ext x9 bh (fun j hj=>by omega);refine ⟨⟨i+1,_,_,_,_,_,_,_,_,_,_,_,_,_,_,_,_,_,_,_,_,_,rfl,by omega,by rw [lv] at J;exact J,fun j hj=>?_,aS,bi,ab⟩,by simp [Zy];omega⟩;rcases Xf0 j i with q | q
  ·rw [<-lv];exact aC j q
  obtain rfl:j=i:=by omega
  rw [<-lv];exact ⟨g1,g2⟩
 have c':¬ (i:Int)<sa.n:=by omega
 obtain rfl:i=sa.n:=by omega
 rw [Xgs (by omega),Z0] at J;rw [Xf7 (by omega)] at oI oO;have ae:Uc N=Uq N 0 N.vs:=by rw [aL,J,Zee rfl]
 simp [c',B17.hc];refine Zt (Xb1 (Yy G sa st) B rb G.n sI sO N h7) (fun e _=>G.n-Zy e 11) ⟨0,_,_,_,_,_,_,_,_,_,_,_,_,_,_,_,_,_,_,_,_,_,rfl,by omega,by simp,Mod.refl h7⟩ ?_;clear c c' hi J v3 v4 v5 v6 ah aJ ai aj ak al am an ao ap aq ar au av aw ax ay;rintro e h8 ⟨i,v3,v4,v5,v6,v9,ah,ai,aj,ak,al,am,an,ao,ap,aq,ar,au,av,aw,ax,ay,rfl,hi,J,x8⟩;have B18:=B17.ext x8;have r8:=(r.ext y7).ext x8;have a0:=oI.mod x8 (fun _ h=>h);have aE:=oO.mod x8 (fun _ h=>h);have a1:=be.trans x8;by_cases c:i<G.n
 ·have c':(i:Int)<G.n:=by omega
  have w1:=Zj (i:=i) (by omega);rw [Zlx (by omega)] at J;have ht:=hV i (by omega);simp only [Yf,decide_eq_true_eq] at ht;obtain ⟨f,hf'⟩:∃ f:Nat,(Zp N.vs i).c=f:=⟨(Zp N.vs i).c.toNat,by omega⟩
  have bj:=r8.rv.v2 i (by omega);rw [hf'] at bj ht;obtain ⟨q,aK,_,_⟩:=r8.rt.rd (i:=f) (by omega);have bA:(f:Int)<st.n:=by omega
  simp [c',B18.hc,Zm r8.rv.ok,bj,Zm r8.rt.ok,bA,aK];refine Xh (vs:=#[.int .i64 (Zz N.ts f).i,.int .i64 (Zz N.ts f).o,q.v]) rfl rfl (by simp) ?_;intro b9 bM g9 B9' aN O;have a2:=r8.ext aN;have a3:=a2.rv.v2 i (by omega);rw [hf'] at a3;obtain ⟨q',bk,bB,_⟩:=a2.rt.rd (i:=f) (by omega);have B19':=B18.ext aN;have aF:=aN.rd aK;simp [B19'.hc,a3,aF];refine O _ ?_;intro h9 B9 e9;clear O B9' aN a2 a3 bk bB aF B19';have aO:=a1.trans e9;have Z:=a0.mod e9 (fun _ h=>h);have ad:=aE.mod e9 (fun _ h=>h);have cI:=Z.row64.at (i:=i) (by omega)
  rw [Zj0 (by omega)] at cI;have cO:=ad.row64.at (i:=i) (by omega)
  rw [Zh4 (by omega)] at cO;have aG:(i:Int)<sI.n:=by omega
  have aP:(i:Int)<sO.n:=by omega
  have a4:Zel N i (Zp N.vs i)=if 16<Qs N.as i\/16<Wz N.as i then Vr X0 i 4
    else if (Zz N.ts f).i≠Qs N.as i\/(Zz N.ts f).o≠Wz N.as i then Vr X0 i 9 else Qg:=by
   simp [Zel,hf']
  generalize Qs N.as i=a at *
  generalize Wz N.as i=b at *
  have aT:(16<a\/16<b)->Uc N=Vr X0 i 4:=by
   intro a5;rw [ae,J,a4,if_pos a5,if_pos (by simp [Vr])]
  have aU:¬ (16<a\/16<b)->((Zz N.ts f).i≠a\/(Zz N.ts f).o≠b)->Uc N=Vr X0 i 9:=by
   intro a5 bm;rw [ae,J,a4,if_neg a5,if_pos bm,if_pos (by simp [Vr])]
  by_cases ca:16<a
  ·have af:(16:Int)<a:=by omega
   simp [Zm Z.ok,aG,cI,af];refine M aO (aT (.inl ca)) ?_;intro ac v ab B10 V;simp;refine D ab B10 V ?_;rintro a6 X rfl B11 hs I;simp;exact Xj rfl B11 hs I
  have af:¬ (16:Int)<a:=by omega
  by_cases cb:16<b
  ·have aH:(16:Int)<b:=by omega
   simp [Zm Z.ok,Zm ad.ok,aG,aP,cI,cO,af,aH];refine M aO (aT (.inr cb)) ?_;intro ac v ab B10 V;simp;refine D ab B10 V ?_;rintro a6 X rfl B11 hs I;simp;exact Xj rfl B11 hs I
  have aH:¬ (16:Int)<b:=by omega
  have a7:¬ (16<a\/16<b):=by omega
  by_cases cc:(Zz N.ts f).i=a;rotate_left
  ·have aQ:((a:Int)=(Zz N.ts f).i)=False:=by simp;omega
   simp [B9.hc,Zm Z.ok,Zm ad.ok,aG,aP,cI,cO,af,aH,aQ];refine M aO (aU a7 (.inl cc)) ?_;intro ac v ab B10 V;simp;refine D ab B10 V ?_;rintro a6 X rfl B11 hs I;simp;exact Xj rfl B11 hs I
  have aQ:((a:Int)=(Zz N.ts f).i)=True:=by simp [cc]
  by_cases cd:(Zz N.ts f).o=b;rotate_left
  ·have a8:((b:Int)=(Zz N.ts f).o)=False:=by simp;omega
   simp [B9.hc,Zm Z.ok,Zm ad.ok,aG,aP,cI,cO,af,aH,aQ,a8];refine M aO (aU a7 (.inr cd)) ?_;intro ac v ab B10 V;simp;refine D ab B10 V ?_;rintro a6 X rfl B11 hs I;simp;exact Xj rfl B11 hs I
  have a8:((b:Int)=(Zz N.ts f).o)=True:=by simp [cd]
  simp [B9.hc,Zm Z.ok,Zm ad.ok,aG,aP,cI,cO,af,aH,aQ,a8,w1];refine ⟨⟨i+1,_,_,_,_,_,_,_,_,_,_,_,_,_,_,_,_,_,_,_,_,_,rfl,by omega,?_,x8.trans e9⟩,by simp [Zy];omega⟩;have bn:Zel N i (Zp N.vs i)=Qg:=by
   rw [a4,if_neg a7];simp [cc,cd]
  rw [J,bn,if_neg (by simp [Qg])]
 have c':¬ (i:Int)<G.n:=by omega
 rw [Xgs (by omega),Uq] at J;simp [c',B18.hc];refine D (aV.trans a1) (B2.ext a1) (by rw [ae,J];exact FWr.ok) ?_;rintro h9 X hs' B9 hs I;simp;exact Xj rfl B9 hs (by rw [<-hs'];exact I)
def Ud (p:Xe->Bool):Nat->List Xe->Zb
 | _,[]=>[]
 | k,t::r=>if p t then (k:Int)::Ud p (k+1) r else Ud p (k+1) r
theorem Z2y {p:Xe->Bool} {a b:List Xe}:∀ {k:Nat},Ud p k (a++b)=Ud p k a++Ud p (k+a.length) b:=by
 induction a with
 | nil=>intro k;rfl
 | cons t r ih =>
  intro k;have e:k+1+r.length=k+(t::r).length:=by simp;omega
  rw [Xh5,Ud,Ud,ih,e]
  split <;> rfl
theorem Zb4 {p:Xe->Bool} {l:List Xe} {i:Nat} (r:i<l.length):Ud p 0 (l.take (i+1))=Ud p 0 (l.take i)++if p (Zp l i) then [(i:Int)] else []:=by
 rw [Xgc r,Z2y,Wy r]
 congr 1
 simp [Ud,Xgp,Xg8 (Nat.le_of_lt r)]
theorem Q8 {p:Xe->Bool} {l:List Xe}:∀ {k:Nat},(Ud p k l).length=(l.filter p).length:=by
 induction l with
 | nil=>intro k;rfl
 | cons t r ih =>
  intro k;rw [Ud];by_cases c:p t=true
  ·simp [c,ih]
  simp [c,ih]
def Zfh (as:List Xe) (v:Int):Zb:=Ud (fun t=>decide (t.b=v)) 0 as
def Qd (as:List Xe) (v:Int):Zb:=Ud (fun t=>decide (t.a=v)) 0 as
def Zec:Int:=1152921504606846976
def Ze8 (N:Zr) (a b i o:Int):Int :=
 let v:=(Zp N.as a.toNat).b
 if v≠(Zp N.as b.toNat).a\/Yf N.vs.length v=false then Zec
 else
  let t:=(Zp N.vs v.toNat).c
  if Yf N.ts.length t=false then Zec else atV (Zz N.ts t.toNat).i (Zz N.ts t.toNat).o (Zz N.ts t.toNat).cs i o
def cntB (as:List Xe) (a:Nat) (n:Nat):Nat:=((as.take n).filter fun t=>decide (t.b=(Zp as a).b)).length
def cntA (as:List Xe) (a:Nat) (n:Nat):Nat:=((as.take n).filter fun t=>decide (t.a=(Zp as a).a)).length
theorem Zol {as:List Xe} {a n:Nat} (r:n<as.length):cntB as a (n+1)=cntB as a n+if (Zp as n).b=(Zp as a).b then 1 else 0:=by
 unfold cntB;rw [Xgc r,Wy r,Xh3,Xf9]
 congr 1
 by_cases c:as[n].b=(Zp as a).b <;> simp [c]
theorem Znk {as:List Xe} {a n:Nat} (r:n<as.length):cntA as a (n+1)=cntA as a n+if (Zp as n).a=(Zp as a).a then 1 else 0:=by
 unfold cntA;rw [Xgc r,Wy r,Xh3,Xf9]
 congr 1
 by_cases c:as[n].a=(Zp as a).a <;> simp [c]
theorem Z6b {as:List Xe} {a n:Nat}:cntB as a n<=as.length:=Xgk (Xgz ..) (by simp;omega)
theorem Z74 {as:List Xe} {a n:Nat}:cntA as a n<=as.length:=Xgk (Xgz ..) (by simp;omega)
def Yr (N:Zr) (a b:Int):Int :=
 if Yf N.as.length a=false\/Yf N.as.length b=false then Zec
 else Ze8 N a b (cntB N.as a.toNat a.toNat) (cntA N.as b.toNat b.toNat)
def Ziy (a b:Int):Int:=Ww (Ww a+Ww b)
def Zw5 (l:Zb):Int:=l.foldl Ziy 0
theorem Qf {a:Int}:0<=Ww a/\Ww a<=Zec:=by
 unfold Ww Zec
 repeat' split
 all_goals omega
theorem Zx5 {a:Int} (h:0<=a/\a<=Zec):Ww a=a:=by
 unfold Ww Zec at *
 repeat' split
 all_goals omega
theorem Zwh {a b c:Int}:Ziy (Ziy a b) c=Ziy a (Ziy b c):=by
 unfold Ziy;have r:=Qf (a:=a);have hb:=Qf (a:=b);have hc:=Qf (a:=c);rw [Zx5 (Qf),Zx5 (Qf)];generalize Ww a=x at *
 generalize Ww b=y at *
 generalize Ww c=z at *
 unfold Ww Zec at *
 repeat' split
 all_goals omega
theorem Zzz {as:List Xe} {i g:Nat} (r:(Zp as i).b=(g:Int)):cntB as i i=Qs (as.take i) g:=by
 unfold cntB Qs;rw [r]
theorem Zvc {as:List Xe} {i g:Nat} (r:(Zp as i).a=(g:Int)):cntA as i i=Wz (as.take i) g:=by
 unfold cntA Wz;rw [r]
def Z22 (N:Zr):Prop:=∀ i,i<N.as.length->Yf N.vs.length (Zp N.as i).a=true/\Yf N.vs.length (Zp N.as i).b=true
structure Zj3 (Y:Sys):Prop where
 Held:Y.Has 19 Y19
 Add:Y.Has 116 Y116
 Sum:Y.Has 135 Y135
structure Zo3 (Y:Sys):Prop where
 Held:Y.Has 14 Y14
 Add:Y.Has 133 Y133
theorem Zlz (C:Zj3 Y) {a b:Int} {R:Ze} (r:R (.int .i64 (Ziy a b)) h):Zv Y 116 [.int .i64 a,.int .i64 b] h R:=by
 refine .of_has C.Add rfl ?_;simp [Y116,Xm.wp];refine Zfo C.Held ?_;simp;refine Zfo C.Held ?_;have D:=Qf (a:=a);have hb:=Qf (a:=b);have w:IntKind.i64.wrap (Ww a+Ww b)=Ww a+Ww b:=Zo (by unfold Zec at *;omega);simp [w];refine Zfo C.Held ?_;simp;exact r
theorem Zfb (H:Y.Has 14 Y14) {a:Int} {h:Zk} {R:Ze} (r:R (.int .i64 (Ww a)) h):Zv Y 14 [.int .i64 a] h R:=by
 refine .of_has H rfl ?_;simp [Y14,Xm.wp];unfold Ww at r
 split
 ·rename_i h0;rw [if_pos h0] at r;exact r
 rename_i h0;rw [if_neg h0] at r
 split
 ·rename_i h1;rw [if_pos h1] at r;exact r
 rename_i h1;rw [if_neg h1] at r;exact r
theorem Znf (C:Zo3 Y) {a b:Int} {R:Ze} (r:R (.int .i64 (Ziy a b)) h):Zv Y 133 [.int .i64 a,.int .i64 b] h R:=by
 refine .of_has C.Add rfl ?_;simp [Y133,Xm.wp];refine Zfb C.Held ?_;simp;refine Zfb C.Held ?_;have D:=Qf (a:=a);have hb:=Qf (a:=b);have w:IntKind.i64.wrap (Ww a+Ww b)=Ww a+Ww b:=Zo (by unfold Zec at *;omega);simp [w];refine Zfb C.Held ?_;simp;exact r
def Xev (s:Sl) (cs:Zb) (h0:Zk) (e:Zc) (h':Zk):Prop :=
 ∃ (i:Nat) (p:Int) (v1 v3 v7:Value),e=[s.v,v1,.int .i64 p,v3,s.v,.int .i64 s.n,.int .i64 i,v7]/\i<=s.n/\p=Zw5 (cs.take i)/\h'=h0
theorem Z1p (C:Zj3 Y) {s:Sl} {cs:Zb} (r:Yd h s cs) (D:s.n<=1000000) {R:Ze} (G:R (.int .i64 (Zw5 cs)) h):Zv Y 135 [s.v] h R:=by
 have I:=r.len;refine .of_has C.Sum rfl ?_;simp [Y135,Xm.wp];refine Zt (Xev s cs h) (fun e _=>s.n-Zy e 6) ⟨0,0,_,_,_,rfl,by omega,by simp [Zw5],rfl⟩ ?_;rintro e h1 ⟨i,p,J,M,O,rfl,U,hp,rfl⟩;by_cases c:i<s.n
 ·have c':(i:Int)<s.n:=by omega
  have H:=Zj (i:=i) (by omega);simp [c',Zm r.ok,r.at c];refine Zlz C ?_;simp [H];refine ⟨⟨i+1,_,_,_,_,rfl,by omega,?_,rfl⟩,by simp [Zy];omega⟩;rw [hp,Zw5,Zw5,Xgc (by omega),Xi7];simp [Zl,show i<cs.length by omega]
 have c':¬ (i:Int)<s.n:=by omega
 rw [Xf7 (by omega)] at hp;simp [c'];rw [hp];exact G
def Zw1 (N:Zr) (a:Int):Int:=(Zp N.as a.toNat).c
def X7 (N:Zr) (l:Zb) (i:Nat):Bool :=
 Yf N.as.length (Zl l i) && decide (Zw1 N (Zl l i)≠Zec) && (decide (i=0) || decide (Yr N (Zl l (i-1)) (Zl l i)≠Zec))
def Ze5 (N:Zr) (l:Zb):Bool:=decide (l≠[]) && (List.range l.length).all (X7 N l)
theorem Zb1 {N:Zr} {l:Zb}:Ze5 N l=true↔l≠[]/\∀ i,i<l.length->X7 N l i=true:=by simp [Ze5,Xhl]
def Vy (N:Zr) (l:Zb):Nat->Int
 | 0=>0
 | i+1=>if i=0 then 0 else Ziy (Ziy (Vy N l i) (Yr N (Zl l (i-1)) (Zl l i))) (Zw1 N (Zl l i))
def Zgf (N:Zr) (l:Zb):Int:=if Ze5 N l then Vy N l l.length else Zec
theorem Zrp {N:Zr} {a b:Nat} (r:a<N.as.length) (hb:b<N.as.length):Yr N a b=Ze8 N a b (cntB N.as a a) (cntA N.as b b):=by
 unfold Yr;rw [if_neg]
 ·simp
 simp [Yf];omega
def Zps (Y:Sys) (x:Value) (xs:Zc) (h:Zk) (R:Ze):Prop :=
 match x with
 | .func (.func f) first cap=>Y.able f/\Y.C f (first.toList++xs++cap.toList) h R
 | _=>False
@[simp] theorem Xb8 {K:W5} {e T:Zc} {x:Wa} {xs:List Wa} {d:X3} {k:IL}:IL.wp Y K (.op (.callv x xs d) k) e T h=Zps Y (x.ev Y e T) (xs.map (Wa.ev Y e T)) h (EfK Y K k d e T):=(rfl)
structure Zes (N:Zr):Prop where
 bv:N.vs.length<=20000
 ba:N.as.length<=20000
 bt:N.ts.length<=20000
 bc:∀ i,i<N.ts.length->(Zz N.ts i).cs.length<=1000000
structure Yl (N:Zr):Prop where
 bv:N.vs.length<=4096
 ba:N.as.length<=16384
 bt:N.ts.length<=256
 tab:∀ i,i<N.ts.length->(Z3 (Zz N.ts i)).2=0
 vx:∀ i,i<N.vs.length->Zbx (Zp N.vs i).a=false/\Zbx (Zp N.vs i).b=false
 vt:∀ i,i<N.vs.length->Yf N.ts.length (Zp N.vs i).c=true
 arcs:Z22 N
 w:∀ i,i<N.as.length->Yt (Zp N.as i).c=true
 meet:∀ i,i<N.vs.length->Qs N.as i<=16/\Wz N.as i<=16/\(Zz N.ts (Zp N.vs i).c.toNat).i=Qs N.as i/\(Zz N.ts (Zp N.vs i).c.toNat).o=Wz N.as i
theorem Za7 {a b:Wr}:(orW a b).2=0↔a.2=0/\b.2=0:=by
 unfold orW
 split
 ·rename_i h;simp [h]
 rename_i h;have:a.2=0:=by simpa using h
 simp [this]
theorem Zrg:∀ {l:List Tab} {k:Nat},(Ql k l).2=0↔∀ i,i<l.length->(Z3 (Zz l i)).2=0:=by
 intro l
 induction l with
 | nil=>intro k;simp [Ql,Qg]
 | cons t r ih =>
  intro k;rw [Ql]
  split
  ·rename_i c;constructor
   ·intro h0;unfold Wx at h0;rw [if_neg c] at h0;exact absurd h0 c
   intro h;exact absurd (h 0 (by simp)) (by simpa [Zz] using c)
  rename_i c;rw [ih];constructor
  ·intro h i D
   cases i with
   | zero=>simpa [Zz] using c
   | succ i=>exact h i (by simpa using D)
  intro h i D;exact h (i+1) (by simpa using D)
theorem Zkh {nt k:Nat} {v:Xe}:(Ur nt k v).2=0↔Zbx v.a=false/\Zbx v.b=false/\Yf nt v.c=true:=by
 unfold Ur
 cases Zbx v.a <;> cases Zbx v.b <;> cases Yf nt v.c <;> simp [Vr,Qg]
theorem Zs6 {nt:Nat}:∀ {l:List Xe} {k:Nat},(Un nt k l).2=0↔∀ i,i<l.length->Zbx (Zp l i).a=false/\Zbx (Zp l i).b=false/\Yf nt (Zp l i).c=true:=by
 intro l
 induction l with
 | nil=>intro k;simp [Un,Qg]
 | cons t r ih =>
  intro k;rw [Un]
  split
  ·rename_i c;constructor
   ·intro h0;exact absurd h0 c
   intro h;exact absurd (Zkh.2 (h 0 (by simp))) (by simpa [Zp] using c)
  rename_i c;rw [ih];constructor
  ·intro h i D
   cases i with
   | zero=>exact (Zkh (k:=k) (v:=t)).1 (by simpa using c)
   | succ i=>exact h i (by simpa using D)
  intro h i D;exact h (i+1) (by simpa using D)
theorem Znw {r k:Nat} {a:Xe}:(Q3 r k a).2=0↔Yf r a.a=true/\Yf r a.b=true/\Yt a.c=true:=by
 unfold Q3
 cases Yf r a.a <;> cases Yf r a.b <;> cases Yt a.c <;> simp [Vr,Qg]
theorem Zwy {D:Nat}:∀ {l:List Xe} {k:Nat},(Z0 D k l).2=0↔∀ i,i<l.length->Yf D (Zp l i).a=true/\Yf D (Zp l i).b=true/\Yt (Zp l i).c=true:=by
 intro l
 induction l with
 | nil=>intro k;simp [Z0,Qg]
 | cons t r ih =>
  intro k;rw [Z0]
  split
  ·rename_i c;constructor
   ·intro h0;exact absurd h0 c
   intro h;exact absurd (Znw.2 (h 0 (by simp))) (by simpa [Zp] using c)
  rename_i c;rw [ih];constructor
  ·intro h i G
   cases i with
   | zero=>exact (Znw (k:=k) (a:=t)).1 (by simpa using c)
   | succ i=>exact h i (by simpa using G)
  intro h i G;exact h (i+1) (by simpa using G)
theorem Zke {N:Zr} {k:Nat} {v:Xe}:(Zel N k v).2=0↔Qs N.as k<=16/\Wz N.as k<=16/\(Zz N.ts v.c.toNat).i=Qs N.as k/\(Zz N.ts v.c.toNat).o=Wz N.as k:=by
 unfold Zel
 split
 ·rename_i c;simp [Vr];omega
 rename_i c
 split
 ·rename_i d;simp [Vr];omega
 rename_i d;simp [Qg];omega
theorem Zuv {N:Zr}:∀ {l:List Xe} {k:Nat},(Uq N k l).2=0↔∀ i,i<l.length->Qs N.as (k+i)<=16/\Wz N.as (k+i)<=16/\(Zz N.ts (Zp l i).c.toNat).i=Qs N.as (k+i)/\(Zz N.ts (Zp l i).c.toNat).o=Wz N.as (k+i):=by
 intro l
 induction l with
 | nil=>intro k;simp [Uq,Qg]
 | cons t r ih =>
  intro k;rw [Uq]
  split
  ·rename_i c;constructor
   ·intro h0;exact absurd h0 c
   intro h;exact absurd (Zke.2 (h 0 (by simp))) (by simpa [Zp] using c)
  rename_i c;rw [ih];constructor
  ·intro h i D
   cases i with
   | zero=>exact (Zke (k:=k) (v:=t)).1 (by simpa using c)
   | succ i =>
    have:=h i (by simpa using D);rw [show k+1+i=k+(i+1) by omega] at this;exact this
  intro h i D;have:=h (i+1) (by simpa using D);rw [show k+(i+1)=k+1+i by omega] at this;exact this
theorem Zuc {N:Zr}:(Zda N).2=0↔N.vs.length<=4096/\N.as.length<=16384/\N.ts.length<=256:=by
 unfold Zda
 split
 ·simp [Vr];omega
 split
 ·simp [Vr];omega
 split
 ·simp [Vr];omega
 simp [Qg];omega
theorem Zi4 {N:Zr}:(Uc N).2=0↔Yl N:=by
 unfold Uc;rw [Za7,Za7,Za7,Za7,Zuc,Zrg,Zs6,Zwy,Zuv];constructor
 ·rintro ⟨⟨a,b,c⟩,d,e,f,g⟩;exact ⟨a,b,c,d,fun i r=>⟨(e i r).1,(e i r).2.1⟩,fun i r=>(e i r).2.2,fun i r=>⟨(f i r).1,(f i r).2.1⟩,fun i r=>(f i r).2.2,fun i r=>by have:=g i r;rwa [Xgl] at this⟩
 rintro ⟨a,b,c,d,D,e2,f1,f2,g⟩;exact ⟨⟨a,b,c⟩,d,fun i r=>⟨(D i r).1,(D i r).2,e2 i r⟩,fun i r=>⟨(f1 i r).1,(f1 i r).2,f2 i r⟩,fun i r=>by rw [Xgl];exact g i r⟩
theorem Z43 {t:Tab} (h:(Z3 t).2=0):Z3 t=Qg:=by
 obtain ⟨_,_,_,_,_,_,h⟩:=Zg0 (ins:=t.i) (outs:=t.o) (cs:=t.cs) h;exact h
theorem Z6e {N:Zr} (h:Yl N):Uc N=Qg:=by
 have hs:Zda N=Qg:=by
  obtain ⟨a,b,c⟩:=(⟨h.bv,h.ba,h.bt⟩:_/\_/\_)
  unfold Zda;rw [if_neg (by omega),if_neg (by omega),if_neg (by omega)]
 have ht:∀ {l:List Tab} {k:Nat},(Ql k l).2=0->Ql k l=Qg:=by
  intro l
  induction l with
  | nil=>intro k _;rfl
  | cons t r ih =>
   intro k h0;rw [Ql] at h0 ⊢
   split at h0
   ·rename_i c;unfold Wx at h0;rw [if_neg c] at h0;exact absurd h0 c
   rename_i c;rw [if_neg c];exact ih h0
 have hv:∀ {l:List Xe} {k:Nat},(Un N.ts.length k l).2=0->Un N.ts.length k l=Qg:=by
  intro l
  induction l with
  | nil=>intro k _;rfl
  | cons t r ih =>
   intro k h0;rw [Un] at h0 ⊢
   split at h0
   ·rename_i c;exact absurd h0 c
   rename_i c;rw [if_neg c];exact ih h0
 have J:∀ {l:List Xe} {k:Nat},(Z0 N.vs.length k l).2=0->Z0 N.vs.length k l=Qg:=by
  intro l
  induction l with
  | nil=>intro k _;rfl
  | cons t r ih =>
   intro k h0;rw [Z0] at h0 ⊢
   split at h0
   ·rename_i c;exact absurd h0 c
   rename_i c;rw [if_neg c];exact ih h0
 have D:∀ {l:List Xe} {k:Nat},(Uq N k l).2=0->Uq N k l=Qg:=by
  intro l
  induction l with
  | nil=>intro k _;rfl
  | cons t r ih =>
   intro k h0;rw [Uq] at h0 ⊢
   split at h0
   ·rename_i c;exact absurd h0 c
   rename_i c;rw [if_neg c];exact ih h0
 have h0:=Zi4.2 h;unfold Uc at h0 ⊢;rw [Za7,Za7,Za7,Za7] at h0;obtain ⟨h1,G,H,h4,I⟩:=h0;rw [Zee h1,Zee G,Zee H,Zee h4,D I]
theorem Zi9 {p:Xe->Bool}:∀ {l:List Xe} {k q a:Nat},a<l.length->p (Zp l a)=true->Yg q (Ud p k l) ((k+a:Nat):Int)=((q+((l.take a).filter p).length:Nat):Int):=by
 intro l
 induction l with
 | nil=>intro k q a H;simp at H
 | cons t r ih =>
  intro k q a H hp;rw [Ud]
  cases a with
  | zero =>
   have:p t=true:=by simpa [Zp] using hp
   rw [if_pos this];simp [Yg]
  | succ a =>
   have D:a<r.length:=by simpa using H
   have G:p (Zp r a)=true:=by simpa [Zp] using hp
   by_cases c:p t=true
   ·rw [if_pos c,Yg,if_neg (by omega)];have:=ih (k:=k+1) (q:=q+1) D G;rw [show k+1+a=k+(a+1) by omega] at this;rw [this];simp [c];omega
   rw [if_neg c];have:=ih (k:=k+1) (q:=q) D G;rw [show k+1+a=k+(a+1) by omega] at this;rw [this];simp [c]
theorem Zwe {as:List Xe} {a:Nat} (r:a<as.length):Yg 0 (Zfh as (Zp as a).b) a=cntB as a a:=by
 have:=Zi9 (p:=fun t=>decide (t.b=(Zp as a).b)) (l:=as) (k:=0) (q:=0) r (by simp);rw [Xgl,Xgl] at this;exact this
theorem Zs7 {as:List Xe} {a:Nat} (r:a<as.length):Yg 0 (Qd as (Zp as a).a) a=cntA as a a:=by
 have:=Zi9 (p:=fun t=>decide (t.a=(Zp as a).a)) (l:=as) (k:=0) (q:=0) r (by simp);rw [Xgl,Xgl] at this;exact this
structure Zfy (Y:Sys):Prop where
 There:Y.Has 130 Y130
 Place:Y.Has 131 Y131
 Ins:Y.Has 107 Y107
 Outs:Y.Has 109 Y109
 Turn:Y.Has 111 Y111
structure Zqi (Y:Sys):Prop where
 Walk:Y.Has 113 Y113
 Cost:Y.Has 115 Y115
def Xb5 (v0:Value) (B:Nat) (v:Int) (n:Nat) (as:List Xe) (h0:Zk) (e:Zc) (h':Zk):Prop :=
 ∃ (i:Nat) (s:Sl) (v6 v7:Value),e=[v0,.int .i64 v,.pointer (some ⟨B,0,none⟩),.slice none 0 0,s.v,.int .i64 i,v6,v7]/\i<=n/\Ym h' 1 s (Zq (Zfh (as.take i) v))/\(s.nl=true\/h0.size<=s.b)/\Ext h0 h'
theorem Z1c (RN:Zfy Y) {M H O:Sl} {N:Zr} (r:Ut h M H O N) (ba:N.as.length<=16384) {v:Int} {R:Ze}
  (hr:∀ h' s,Ext h h'->Ym h' 1 s (Zq (Zfh N.as v))->(s.nl=true\/h.size<=s.b)->R s.v h'):Zv Y 107 [Yy M H O,.int .i64 v] h R:=by
 have la:=r.ra.len;refine .of_has RN.Ins rfl ?_;simp [Y107,Xm.wp,Yy];refine Zn ?_;intro B J gB U V;have cB:∀ g,Ext g h->Ext g J:=fun g e=>Mod.trans e V;simp;refine Zt (Xb5 (Yy M H O) B v H.n N.as J) (fun e _=>H.n-Zy e 5) ⟨0,Sl.nil,_,_,rfl,by omega,Ym.nil,.inl rfl,Mod.refl _⟩ ?_;rintro e h2 ⟨i,s,v6,v7,rfl,hi,o2,G,I⟩;have D:∀ g,Ext g J->Ext g h2:=fun g e=>Mod.trans e I;by_cases c:i<H.n
 ·have c':(i:Int)<H.n:=by omega
  have X:i<N.as.length:=by omega
  have w1:=Zj (i:=i) (by omega);have sn:=Zb4 (p:=fun t=>decide (t.b=v)) X;have nS:s.n<=i:=by
   have:=o2.1;rw [Vm,Zfh,Q8,Xgd] at this;have:=Xgz (fun t:Xe=>decide (t.b=v)) (N.as.take i);simp at this;omega
  by_cases q:(Zp N.as i).b=v
  ·have q':((Zp N.as i).b=v)=True:=by simp [q]
   simp only [q',decide_true,if_true] at sn;simp (maxDischargeDepth:=60) [cB,U.sk,D,c',X,Zm r.ra.ok,r.ra.s1,q',Qy];intro t;refine Zcf rfl o2 (by omega) (by omega) ?_;intro s' h3 o4 aa m4 Z;have x4:Ext J h3:=Mod.ext I m4 (fun j hj=>by have:=G.resolve_left (by rw [hj.1];simp);omega);rw [show Zq (Zfh (N.as.take i) v)++[Value.int .i64 i]=Zq (Zfh (N.as.take (i+1)) v) by rw [Zfh,Zfh,sn];simp [Zq]] at o4;simp [w1];refine ⟨⟨i+1,s',_,_,rfl,by omega,o4,?_,x4⟩,by simp [Zy];omega⟩;have:=I.size;rcases Z with ⟨q1,q2⟩ | ⟨q1,q2⟩
   ·rw [q1,q2];exact G
   exact .inr (by omega)
  have q':((Zp N.as i).b=v)=False:=by simp [q]
  simp only [q',decide_false,Xga,if_false,Xie] at sn;simp (maxDischargeDepth:=60) [cB,U.sk,D,c',X,w1,Zm r.ra.ok,r.ra.s1,q'];refine ⟨⟨i+1,s,_,_,rfl,by omega,?_,G,I⟩,by simp [Zy];omega⟩;have o3:=o2;rw [Zfh,<-sn] at o3;exact o3
 have c':¬ (i:Int)<H.n:=by omega
 rw [Xf7 (by omega)] at o2;simp (maxDischargeDepth:=60) [U.sk,D,c'];refine hr h2 s (V.trans I) o2 (G.imp_right fun q=>?_);have:=V.size;omega
def Z95 (v0:Value) (B:Nat) (v:Int) (n:Nat) (as:List Xe) (h0:Zk) (e:Zc) (h':Zk):Prop :=
 ∃ (i:Nat) (s:Sl) (v6 v7:Value),e=[v0,.int .i64 v,.pointer (some ⟨B,0,none⟩),.slice none 0 0,s.v,.int .i64 i,v6,v7]/\i<=n/\Ym h' 1 s (Zq (Qd (as.take i) v))/\(s.nl=true\/h0.size<=s.b)/\Ext h0 h'
theorem Zve (RN:Zfy Y) {M H O:Sl} {N:Zr} (r:Ut h M H O N) (ba:N.as.length<=16384) {v:Int} {R:Ze}
  (hr:∀ h' s,Ext h h'->Ym h' 1 s (Zq (Qd N.as v))->(s.nl=true\/h.size<=s.b)->R s.v h'):Zv Y 109 [Yy M H O,.int .i64 v] h R:=by
 have la:=r.ra.len;refine .of_has RN.Outs rfl ?_;simp [Y109,Xm.wp,Yy];refine Zn ?_;intro B J gB U V;have cB:∀ g,Ext g h->Ext g J:=fun g e=>Mod.trans e V;simp;refine Zt (Z95 (Yy M H O) B v H.n N.as J) (fun e _=>H.n-Zy e 5) ⟨0,Sl.nil,_,_,rfl,by omega,Ym.nil,.inl rfl,Mod.refl _⟩ ?_;rintro e h2 ⟨i,s,v6,v7,rfl,hi,o2,G,I⟩;have D:∀ g,Ext g J->Ext g h2:=fun g e=>Mod.trans e I;by_cases c:i<H.n
 ·have c':(i:Int)<H.n:=by omega
  have X:i<N.as.length:=by omega
  have w1:=Zj (i:=i) (by omega);have sn:=Zb4 (p:=fun t=>decide (t.a=v)) X;have nS:s.n<=i:=by
   have:=o2.1;rw [Vm,Qd,Q8,Xgd] at this;have:=Xgz (fun t:Xe=>decide (t.a=v)) (N.as.take i);simp at this;omega
  by_cases q:(Zp N.as i).a=v
  ·have q':((Zp N.as i).a=v)=True:=by simp [q]
   simp only [q',decide_true,if_true] at sn;simp (maxDischargeDepth:=60) [cB,U.sk,D,c',X,Zm r.ra.ok,r.ra.s0,q',Qy];intro t;refine Zcf rfl o2 (by omega) (by omega) ?_;intro s' h3 o4 aa m4 Z;have x4:Ext J h3:=Mod.ext I m4 (fun j hj=>by have:=G.resolve_left (by rw [hj.1];simp);omega);rw [show Zq (Qd (N.as.take i) v)++[Value.int .i64 i]=Zq (Qd (N.as.take (i+1)) v) by rw [Qd,Qd,sn];simp [Zq]] at o4;simp [w1];refine ⟨⟨i+1,s',_,_,rfl,by omega,o4,?_,x4⟩,by simp [Zy];omega⟩;have:=I.size;rcases Z with ⟨q1,q2⟩ | ⟨q1,q2⟩
   ·rw [q1,q2];exact G
   exact .inr (by omega)
  have q':((Zp N.as i).a=v)=False:=by simp [q]
  simp only [q',decide_false,Xga,if_false,Xie] at sn;simp (maxDischargeDepth:=60) [cB,U.sk,D,c',X,w1,Zm r.ra.ok,r.ra.s0,q'];refine ⟨⟨i+1,s,_,_,rfl,by omega,?_,G,I⟩,by simp [Zy];omega⟩;have o3:=o2;rw [Qd,<-sn] at o3;exact o3
 have c':¬ (i:Int)<H.n:=by omega
 rw [Xf7 (by omega)] at o2;simp (maxDischargeDepth:=60) [U.sk,D,c'];refine hr h2 s (V.trans I) o2 (G.imp_right fun q=>?_);have:=V.size;omega
theorem Z2s {as:List Xe} {v:Int}:(Zfh as v).length<=as.length:=by rw [Zfh,Q8];exact Xgz ..
theorem Zna {as:List Xe} {v:Int}:(Qd as v).length<=as.length:=by rw [Qd,Q8];exact Xgz ..
theorem Zmo (RN:Zfy Y) (T:Zd4 Y) {sv sa st:Sl} {N:Zr} (r:Ut h sv sa st N) (U:Yl N) {a b:Int} {R:Ze}
  (I:∀ h',Ext h h'->R (.int .i64 (Yr N a b)) h'):Zv Y 111 [Yy sv sa st,.int .i64 a,.int .i64 b] h R:=by
 have lv:=r.rv.len;have la:=r.ra.len;have lt:=r.rt.len;have ba:=U.ba;refine .of_has RN.Turn rfl ?_;simp [Y111,Xm.wp,Yy];refine Zn ?_;intro B hB gB J eB;have V:∀ g,Ext g h->Ext g hB:=fun g e=>Mod.trans e eB;simp (maxDischargeDepth:=60) [J.rk];refine Zd8 RN.There la ?_;intro h1 e1;have D:∀ g,Ext g hB->Ext g h1:=fun g e=>Mod.trans e e1;have x1:=Mod.trans eB e1;by_cases c1:Yf N.as.length a=true;rotate_left
 ·have aa:Yf N.as.length a=false:=by simpa using c1
  rw [Yr,if_pos (.inl aa)] at I;simp (maxDischargeDepth:=60) [aa];exact I _ x1
 simp (maxDischargeDepth:=60) [J.rk,D,c1];refine Zd8 RN.There la ?_;intro h2 e2;have G:∀ g,Ext g h1->Ext g h2:=fun g e=>Mod.trans e e2;have x2:=Mod.trans x1 e2;by_cases c2:Yf N.as.length b=true;rotate_left
 ·have ab:Yf N.as.length b=false:=by simpa using c2
  rw [Yr,if_pos (.inr ab)] at I;simp (maxDischargeDepth:=60) [ab];exact I _ x2
 have d1:=c1;have d2:=c2;simp only [Yf,decide_eq_true_eq] at d1 d2;obtain ⟨a,rfl⟩:∃ n:Nat,a=n:=⟨a.toNat,by omega⟩
 obtain ⟨b,rfl⟩:∃ n:Nat,b=n:=⟨b.toNat,by omega⟩
 have X:a<N.as.length:=by omega
 have hb:b<N.as.length:=by omega
 have ac:(a:Int)<sa.n:=by omega
 have ad:(b:Int)<sa.n:=by omega
 rw [Zrp X hb] at I;by_cases c3:(Zp N.as a).b=(Zp N.as b).a;rotate_left
 ·have O:((Zp N.as a).b=(Zp N.as b).a)=False:=by simp [c3]
  rw [Ze8] at I;simp only [Xf1] at I;rw [if_pos (.inl c3)] at I;simp (maxDischargeDepth:=60) [V,J.sk,D,G,X,hb,ac,ad,Zm r.ra.ok,r.ra.s0,r.ra.s1,c2,O];exact I _ x2
 have af:=Zwe X;have ae:=Zs7 hb;rw [<-c3] at ae;have hx:Ze8 N a b (cntB N.as a a) (cntA N.as b b)=atV (Zz N.ts (Zp N.vs (Zp N.as a).b.toNat).c.toNat).i (Zz N.ts (Zp N.vs (Zp N.as a).b.toNat).c.toNat).o (Zz N.ts (Zp N.vs (Zp N.as a).b.toNat).c.toNat).cs (cntB N.as a a) (cntA N.as b b):=by
  have h1:=(U.arcs a X).2;have hv:(Zp N.as a).b.toNat<N.vs.length:=by simp only [Yf,decide_eq_true_eq] at h1;omega
  have h2:=U.vt _ hv;rw [Ze8];simp only [Xf1];rw [if_neg (by rw [h1];simp [c3]),if_neg (by simp [h2])]
 rw [hx] at I;clear hx;have g1:=(U.arcs a X).2;generalize hv:(Zp N.as a).b=v at *
 have O:(v=(Zp N.as b).a)=True:=by simp [c3]
 simp only [Yf,decide_eq_true_eq] at g1;have v0:0<=v:=g1.1;have v1:v<sv.n:=by omega
 have Z:v.toNat<N.vs.length:=by omega
 have g2:=U.vt _ Z;generalize ht:(Zp N.vs v.toNat).c=t at *
 simp only [Yf,decide_eq_true_eq] at g2;have t0:0<=t:=g2.1;have t1:t<st.n:=by omega
 have t2:t.toNat<N.ts.length:=by omega
 obtain ⟨u,ag,_,ru⟩:=(r.ext x2).rt.rd (i:=t.toNat) t2;have sr:∀ h',Ext h2 h'->rd h' st.b (st.o+t.toNat * 3) 3=some [.int .i64 (Zz N.ts t.toNat).i,.int .i64 (Zz N.ts t.toNat).o,u.v]:=fun h' e=>e.rd ag (fun h=>h);simp (maxDischargeDepth:=60) [V,J.sk,J.rk,D,G,X,hb,ac,ad,Zm r.ra.ok,Zm r.rv.ok,Zm r.rt.ok,r.ra.s0,r.ra.s1,r.rv.s2,v0,v1,Z,t0,t1,hv,ht,sr,c2,O];refine Z1c RN (r.ext x2) ba ?_;intro h3 s3 e3 o3 ah;have H:∀ g,Ext g h2->Ext g h3:=fun g e=>Mod.trans e e3;have x3:=x2.trans e3;have r3:=o3.row64;have l3:=r3.len;have k3:=Z2s (as:=N.as) (v:=v);simp (maxDischargeDepth:=60) [V,J.sk,J.rk,D,G,r.rv.s2,Z,ht,sr,H];refine Zi7 RN.Place r3 (by omega) ?_;rw [af];simp (maxDischargeDepth:=60) [V,J.sk,J.rk,D,G,r.rv.s2,Z,ht,sr,H];refine Zve RN (r.ext x3) ba ?_;intro h4 s4 e4 o4 ai;have M:∀ g,Ext g h3->Ext g h4:=fun g e=>Mod.trans e e4;have x4:=x3.trans e4;have r4:=o4.row64;have l4:=r4.len;have k4:=Zna (as:=N.as) (v:=v);simp (maxDischargeDepth:=60) [V,J.sk,D,G,r.rv.s2,Z,ht,sr,H,M];refine Zi7 RN.Place r4 (by omega) ?_;rw [ae];simp (maxDischargeDepth:=60) [V,J.sk,D,G,r.rv.s2,Z,ht,sr,H,M];refine Zqu T (ru.ext (e3.trans e4)) (U.tab _ t2) ?_;intro h5 e5;simp;exact I _ (x4.trans e5)
def Xa0 (v0:Value) (B:Nat) (s:Sl) (N:Zr) (cs:Zb) (h0:Zk) (e:Zc) (h':Zk):Prop :=
 ∃ (i:Nat) (v3 v5 v6:Value),e=[v0,s.v,.pointer (some ⟨B,0,none⟩),v3,.int .i64 i,v5,v6]/\i<=s.n/\(∀ j,j<i->X7 N cs j=true)/\Ext h0 h'
theorem Zgy (RN:Zfy Y) (RW:Zqi Y) (T:Zd4 Y) {sv sa st s:Sl} {N:Zr} {cs:Zb} (r:Ut h sv sa st N) (H:Yd h s cs) (aa:s.n<=4611686018427387904) (ok:Yl N)
  {R:Ze} (hr:∀ h',Ext h h'->R (.bool (Ze5 N cs)) h'):Zv Y 113 [Yy sv sa st,s.v] h R:=by
 have la:=r.ra.len;have ll:=H.len;refine .of_has RW.Walk rfl ?_;simp [Y113,Xm.wp,Yy];refine Zn ?_;intro B hB gB M eB;have cB:∀ g,Ext g h->Ext g hB:=fun g e=>Mod.trans e eB;simp;refine Zt (Xa0 (Yy sv sa st) B s N cs hB) (fun e _=>s.n-Zy e 4) ⟨0,_,_,_,rfl,by omega,fun j hj=>by omega,Mod.refl _⟩ ?_;rintro e h2 ⟨i,v3,v5,v6,rfl,hi,I,x2⟩;have D:∀ g,Ext g hB->Ext g h2:=fun g e=>Mod.trans e x2;have O:=eB.trans x2;by_cases c:i<s.n
 ·have c':(i:Int)<s.n:=by omega
  have U:i<cs.length:=by omega
  have w1:=Zj (i:=i) (by omega);have J:X7 N cs i=false->∀ h',Ext h h'->R (.bool false) h':=by
   intro hb h' e;have:=hr h' e;rwa [show Ze5 N cs=false by
    rw [Xhk];intro V;have:=(Zb1.1 V).2 i U;rw [hb] at this
    cases this] at this
  simp (maxDischargeDepth:=60) [cB,M.rk,D,Zm H.ok,H.sk,c',U];refine Zd8 RN.There la ?_;intro h3 e3;have G:∀ g,Ext g h2->Ext g h3:=fun g e=>Mod.trans e e3;have x3:=O.trans e3;by_cases f1:Yf N.as.length (Zl cs i)=true;rotate_left
  ·have X:Yf N.as.length (Zl cs i)=false:=by simpa using f1
   simp (maxDischargeDepth:=60) [X];exact J (by simp [X7,X]) _ x3
  have d1:=f1;simp only [Yf,decide_eq_true_eq] at d1;obtain ⟨b,hb⟩:∃ b:Nat,Zl cs i=b:=⟨(Zl cs i).toNat,by omega⟩
  have b1:b<N.as.length:=by omega
  have b2:(b:Int)<sa.n:=by omega
  rw [hb] at f1;by_cases f2:(Zp N.as b).c=1152921504606846976
  ·simp (maxDischargeDepth:=60) [cB,M.sk,D,Zm H.ok,H.sk,Zm r.ra.ok,r.ra.s2,c',U,G,hb,b1,b2,f1,f2];exact J (by simp [X7,hb,Zw1,f2,Zec]) _ x3
  by_cases f3:i=0
  ·have Z:(0<i)=False:=by simp [f3]
   simp (maxDischargeDepth:=60) [cB,M.sk,D,Zm H.ok,H.sk,Zm r.ra.ok,r.ra.s2,c',U,w1,G,hb,b1,b2,f1,f2,Z];refine ⟨⟨i+1,_,_,_,rfl,by omega,fun j hj=>?_,x2.trans e3⟩,by simp [Zy];omega⟩;obtain rfl:j=i:=by omega
   have Z:(j=0)=True:=by simp [f3]
   simp [X7,hb,f1,Zw1,Zec,Z];exact f2
  have Z:(0<i)=True:=by simp;omega
  have w2:IntKind.i64.wrap ((i:Int)-1)=((i-1:Nat):Int):=by rw [Zo (by omega)];omega
  have i1:((i-1:Nat):Int)<s.n:=by omega
  have i2:i-1<cs.length:=by omega
  simp (maxDischargeDepth:=60) [cB,M.sk,M.rk,D,Zm H.ok,H.sk,Zm r.ra.ok,r.ra.s2,c',U,G,hb,b1,b2,f1,f2,Z,w2,i1,i2];refine Zmo RN T (r.ext x3) ok ?_;intro h4 e4;have x4:=x3.trans e4;by_cases f4:Yr N (Zl cs (i-1)) b=1152921504606846976
  ·simp (maxDischargeDepth:=60) [f4];exact J (by simp [X7,hb,f4,f3,Zec]) _ x4
  simp (maxDischargeDepth:=60) [w1,f4];refine ⟨⟨i+1,_,_,_,rfl,by omega,fun j hj=>?_,(x2.trans e3).trans e4⟩,by simp [Zy];omega⟩;rcases Xf0 j i with q | q
  ·exact I j q
  obtain rfl:j=i:=by omega
  simp [X7,hb,f1,Zw1,Zec,f4];exact f2
 have c':¬ (i:Int)<s.n:=by omega
 obtain rfl:i=s.n:=by omega
 have V:Ze5 N cs=decide (0<s.n):=by
  by_cases q:0<s.n
  ·rw [decide_eq_true q];exact Zb1.2 ⟨fun hn=>by rw [hn] at ll;simp at ll;omega,fun i hi=>I i (by omega)⟩
  rw [decide_eq_false q,Xhk];intro V;exact (Zb1.1 V).1 (Xgw (by omega))
 rw [V] at hr;simp [c'];exact hr _ O
def Xax (v0:Value) (B:Nat) (s:Sl) (N:Zr) (cs:Zb) (h0:Zk) (e:Zc) (h':Zk):Prop :=
 ∃ (i:Nat) (p:Int) (v3 v6 v7:Value),e=[v0,s.v,.pointer (some ⟨B,0,none⟩),v3,.int .i64 p,.int .i64 (i+1),v6,v7]/\i+1<=s.n/\p=Vy N cs (i+1)/\Ext h0 h'
theorem Zko (RN:Zfy Y) (RW:Zqi Y) (T:Zd4 Y) (C:Zo3 Y) {sv X st s:Sl} {N:Zr} {cs:Zb} (r:Ut h sv X st N) (H:Yd h s cs) (I:s.n<=4611686018427387904) (ok:Yl N)
  {R:Ze} (J:∀ h',Ext h h'->R (.int .i64 (Zgf N cs)) h'):Zv Y 115 [Yy sv X st,s.v] h R:=by
 have la:=r.ra.len;have ll:=H.len;refine .of_has RW.Cost rfl ?_;simp [Y115,Xm.wp,Yy];refine Zn ?_;intro B hB gB Z eB;have cB:∀ g,Ext g h->Ext g hB:=fun g e=>Mod.trans e eB;simp (maxDischargeDepth:=60) [Z.rk];refine Zgy RN RW T (r.ext eB) (H.ext eB) I ok ?_;intro h1 e1;have D:∀ g,Ext g hB->Ext g h1:=fun g e=>Mod.trans e e1;have x1:=eB.trans e1;by_cases hw:Ze5 N cs=true;rotate_left
 ·have M:Ze5 N cs=false:=by simpa using hw
  rw [Zgf,M,if_neg (by simp)] at J;simp (maxDischargeDepth:=60) [M];exact J _ x1
 rw [Zgf,if_pos hw] at J;obtain ⟨aa,O⟩:=Zb1.1 hw;have ad:0<s.n:=by rw [<-ll];exact List.length_pos_iff.2 aa
 simp (maxDischargeDepth:=60) [hw];refine Zt (Xax (Yy sv X st) B s N cs h1) (fun e _=>s.n-Zy e 5) ⟨0,0,_,_,_,rfl,by omega,by simp [Vy],Mod.refl _⟩ ?_;rintro e h2 ⟨i,p,v3,v6,v7,rfl,hi,hp,x2⟩;have G:∀ g,Ext g h1->Ext g h2:=fun g e=>Mod.trans e x2;have U:=x1.trans x2;by_cases c:i+1<s.n
 ·have c':(i:Int)+1<s.n:=by omega
  have ab:(i:Int)<s.n:=by omega
  have ci:i+1<cs.length:=by omega
  have ac:i<cs.length:=by omega
  have i0:(0:Int)<=(i:Int)+1:=by omega
  have i1:((i:Int)+1).toNat=i+1:=by omega
  have w1:IntKind.i64.wrap ((i:Int)+1+1)=(i:Int)+1+1:=Zo (by omega);have w2:IntKind.i64.wrap (i:Int)=(i:Int):=Zo (by omega);have s1:=O (i+1) ci;simp only [X7,Xf4] at s1;have d1:=s1.1.1;simp only [Yf,decide_eq_true_eq] at d1;obtain ⟨b,hb⟩:∃ b:Nat,Zl cs (i+1)=b:=⟨(Zl cs (i+1)).toNat,by omega⟩
  have b1:b<N.as.length:=by omega
  have b2:(b:Int)<X.n:=by omega
  simp (maxDischargeDepth:=60) [cB,Z.sk,Z.rk,D,G,Zm H.ok,H.sk,Zm r.ra.ok,r.ra.s2,c',ab,ci,ac,i0,i1,w2,hb,b1,b2];refine Zmo RN T (r.ext U) ok ?_;intro h3 e3;have V:∀ g,Ext g h2->Ext g h3:=fun g e=>Mod.trans e e3;simp (maxDischargeDepth:=60) [cB,Z.sk,D,G,H.sk,r.ra.s2,ci,hb,b1,V];refine Znf C ?_;simp;refine Znf C ?_;simp [w1];refine ⟨⟨i+1,_,_,_,_,rfl,by omega,?_,x2.trans e3⟩,by simp [Zy];omega⟩;rw [Vy,if_neg (by omega),<-hp,Zwh,hb,Zw1];simp
 have c':¬ (i:Int)+1<s.n:=by omega
 have e:i+1=cs.length:=by omega
 rw [e] at hp;rw [<-hp] at J;simp (maxDischargeDepth:=60) [c'];exact J _ U
end
end Go.Rm
