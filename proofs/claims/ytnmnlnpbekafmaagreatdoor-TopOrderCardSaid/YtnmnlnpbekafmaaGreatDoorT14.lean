import Derived.Test.YtnmnlnpbekafmaaGreatDoorT12
import Derived.Test.YtnmnlnpbekafmaaGreatDoorT13
/- Parts. -/
set_option linter.unusedSimpArgs false
set_option linter.unusedVariables false
namespace Go.Rm
def Xab (v0:Value) (B rb n:Nat) (ts:List Tab) (h0:Zk) (e:Zc) (h':Zk):Prop :=
 ∃ (i:Nat) (v4 v5 v6 v7 v8 v9 v10 v11 v12 v13 v14 v15 v16 v17 v18 v19 v20 v21 v22 v23 v24 v25 v26:Value),
  e=[v0,.pointer (some ⟨B,0,none⟩),.pointer (some ⟨rb,0,none⟩),.int .i64 i,v4,v5,v6,v7,v8,v9,v10,v11,v12,v13,v14,v15,v16,v17,v18,v19,v20,v21,v22,v23,v24,v25,v26]/\i<=n/\Qe 0 ts=Qe i (ts.drop i)/\Ext h0 h'
def Xbp (v0:Value) (B rb n nt:Nat) (vs:List Xe) (h0:Zk) (e:Zc) (h':Zk):Prop :=
 ∃ (i:Nat) (v3 v4 v6 v7 v8 v9 v10 v11 v12 v13 v14 v15 v16 v17 v18 v19 v20 v21 v22 v23 v24 v25 v26:Value),
  e=[v0,.pointer (some ⟨B,0,none⟩),.pointer (some ⟨rb,0,none⟩),v3,v4,.int .i64 i,v6,v7,v8,v9,v10,v11,v12,v13,v14,v15,v16,v17,v18,v19,v20,v21,v22,v23,v24,v25,v26]/\i<=n/\Uf nt 0 vs=Uf nt i (vs.drop i)/\(∀ j,j<i->Ye nt (Zp vs j).c=true)/\Ext h0 h'
def Xal (v0:Value) (B rb n nv:Nat) (sI sO:Sl) (as:List Xe) (h0:Zk) (e:Zc) (h':Zk):Prop :=
 ∃ (i:Nat) (v3 v4 v5 v6 v10 v11 v12 v13 v14 v15 v16 v17 v18 v19 v20 v21 v22 v23 v24 v25 v26:Value),
  e=[v0,.pointer (some ⟨B,0,none⟩),.pointer (some ⟨rb,0,none⟩),v3,v4,v5,v6,sI.v,sO.v,.int .i64 i,v10,v11,v12,v13,v14,v15,v16,v17,v18,v19,v20,v21,v22,v23,v24,v25,v26]/\i<=n/\Qy nv 0 as=Qy nv i (as.drop i)/\(∀ j,j<i->Ye nv (Zp as j).a=true/\Ye nv (Zp as j).b=true)/\Yl h' 1 sI (Zt (Zj8 nv (as.take i)))/\Yl h' 1 sO (Zt (Zer nv (as.take i)))/\Ext h0 h'
def Xaj (v0:Value) (B rb n:Nat) (sI sO:Sl) (N:Zq) (h0:Zk) (e:Zc) (h':Zk):Prop :=
 ∃ (i:Nat) (v3 v4 v5 v6 v9 v10 v12 v13 v14 v15 v16 v17 v18 v19 v20 v21 v22 v23 v24 v25 v26:Value),
  e=[v0,.pointer (some ⟨B,0,none⟩),.pointer (some ⟨rb,0,none⟩),v3,v4,v5,v6,sI.v,sO.v,v9,v10,.int .i64 i,v12,v13,v14,v15,v16,v17,v18,v19,v20,v21,v22,v23,v24,v25,v26]/\i<=n/\Uj N 0 N.vs=Uj N i (N.vs.drop i)/\Ext h0 h'
structure Z4c (Y:Sys):Prop where
 CheckNet:Y.Has 101 Y101
 Within:Y.Has 118 Y118
 Coord:Y.Has 124 Y124
section
variable {Y:Sys} {h:Zk}
theorem Zj5 (RN:Z4c Y) (T:Zz5 Y) {G sa st:Sl} {N:Zq} (r:Ul h G sa st N)
  {R:Ze} (hr:∀ h' v,Ext h h'->FWr h.size h' (Vw N) v->R v h'):Zv Y 101 [Yx G sa st] h R:=by
 have lv:=r.rv.len;have la:=r.ra.len;have lt:=r.rt.len;refine .of_has RN.CheckNet rfl ?_;simp [Y101,Xn.wp,Yx];refine Zn ?_;intro B h1 g1 B1 e1;simp;refine Zn ?_;intro rb h2 g2 B2 e2;have B12:=B1.ext e2;have aV:=e1.trans e2;have z1:=e1.size;have z2:=e2.size;have lB:=B2.lt;have D:∀ {h':Zk} {v:Value} {K:Ze},Ext h h'->Xa h' rb #[.slice none 0 0,.int .i64 0]->FWr h2.size h' (Vw N) v->(∀ h4 X,v = .agg X->Xa h4 rb X->X.size=2->R v h4->K undef h4) ->
   Ef.wp h' K (.store 2) [.pointer (some ⟨rb,0,none⟩),v]:=by
  intro h' v K e3 B3 ae hk;obtain ⟨X,rfl⟩:=ae.here.shape;refine Zr B3 rfl rfl (by simp) ?_;intro h4 B4 m4;exact hk h4 _ rfl B4 rfl (hr h4 _ (Mod.ext e3 m4 (fun j hj=>by omega)) ((ae.step m4 (fun j hj=>by omega)).mono (by omega)))
 have M:∀ {h':Zk} {p:ByteArray} {k e:Int} {K:Ze},Ext h2 h'->Vw N=Vj p k e->(∀ h4 v,Ext h h4->Xa h4 rb #[.slice none 0 0,.int .i64 0]->FWr h2.size h4 (Vw N) v->K v h4) ->
   Zv Y 50 [.string p,.int .i64 k,.int .i64 e] h' K:=by
  intro h' p k e K x hw hK;refine U8 T.At ?_;intro h4 v e4 hv;refine hK h4 v ((aV.trans x).trans e4) (B2.ext (x.trans e4)) ?_;rw [hw];exact hv.mono x.size
 simp [B12.hc];by_cases c1:4096<G.n
 ·have ag:(4096:Int)<G.n:=by omega
  have hw:Vw N=Vj Zp1 0 4:=by
   unfold Vw;rw [Zd7] <;> simp [Zcz,lv,c1,Vj]
  simp [ag];refine M (Mod.refl h2) hw ?_;intro h3 v x3 B3 hv;simp;refine D x3 B3 hv ?_;rintro h4 X rfl B4 hs I;simp;exact Xc rfl B4 hs I
 have ag:¬ (4096:Int)<G.n:=by omega
 by_cases c2:16384<sa.n
 ·have aI:(16384:Int)<sa.n:=by omega
  have hw:Vw N=Vj Zp1 1 4:=by
   unfold Vw;rw [Zd7] <;> simp [Zcz,lv,la,c1,c2,Vj]
  simp [ag,aI];refine M (Mod.refl h2) hw ?_;intro h3 v x3 B3 hv;simp;refine D x3 B3 hv ?_;rintro h4 X rfl B4 hs I;simp;exact Xc rfl B4 hs I
 have aI:¬ (16384:Int)<sa.n:=by omega
 by_cases c3:256<st.n
 ·have aW:(256:Int)<st.n:=by omega
  have hw:Vw N=Vj Zp1 2 4:=by
   unfold Vw;rw [Zd7] <;> simp [Zcz,lv,la,lt,c1,c2,c3,Vj]
  simp [ag,aI,aW];refine M (Mod.refl h2) hw ?_;intro h3 v x3 B3 hv;simp;refine D x3 B3 hv ?_;rintro h4 X rfl B4 hs I;simp;exact Xc rfl B4 hs I
 have aW:¬ (256:Int)<st.n:=by omega
 have a9:Vw N=orW (Qe 0 N.ts) (orW (Uf N.ts.length 0 N.vs) (orW (Qy N.vs.length 0 N.as) (Uj N 0 N.vs))):=by
  unfold Vw;rw [Zd3];simp [Zcz,lv,la,lt,c1,c2,c3,Qa]
 simp [ag,aI,aW];refine Zs (Xab (Yx G sa st) B rb st.n N.ts h2) (fun e _=>st.n-Zy e 3) ⟨0,_,_,_,_,_,_,_,_,_,_,_,_,_,_,_,_,_,_,_,_,_,_,_,rfl,by omega,by simp,Mod.refl h2⟩ ?_;rintro e h3 ⟨i,v4,v5,v6,v7,v8,v9,ah,aJ,ai,aj,ak,al,am,an,ao,ap,aq,ar,au,av,aw,ax,ay,rfl,hi,J,x3⟩;have y3:=aV.trans x3;have B13:=B12.ext x3;by_cases c:i<st.n
 ·have c':(i:Int)<st.n:=by omega
  have w1:=Zj (i:=i) (by omega);rw [Zis (by omega)] at J;obtain ⟨q,aK,_,rq⟩:=(r.ext y3).rt.rd (i:=i) (by omega);simp [c',B13.hc,Zm (r.ext y3).rt.ok,aK];refine Zqz T rq ?_;intro h4 v4 e4 aX;rw [show Uo (Zx N.ts i).i (Zx N.ts i).o (Zx N.ts i).cs=Z1 (Zx N.ts i) from rfl] at aX;have y4:=y3.trans e4;obtain ⟨ps,rfl⟩:=aX.here.shape;simp;refine Xd (vs:=#[ps.v,.int .i64 (Z1 (Zx N.ts i)).2]) rfl rfl (by simp) ?_;intro b5 bo g5 B5' aY O;simp;refine O _ ?_;intro h5 B5 e5;clear O B5' aY;have y5:=y4.trans e5;by_cases h0:(Z1 (Zx N.ts i)).2=0
  ·rw [if_neg (by simp [h0])] at J;simp [B5.hc,h0,w1];exact ⟨⟨i+1,_,_,_,_,_,_,_,_,_,_,_,_,_,_,_,_,_,_,_,_,_,_,_,rfl,by omega,J,(x3.trans e4).trans e5⟩,by simp [Zy];omega⟩
  rw [if_pos h0] at J;have aL:(Wx Zns i (Z1 (Zx N.ts i))).2≠0:=by unfold Wx;rw [if_neg h0];exact h0
  have hw:Vw N=Wx Zns i (Z1 (Zx N.ts i)):=by rw [a9,J,Zd7 aL]
  simp [B5.hc,h0,Yj B5];refine Zpo RN.Within (aX.here.ext e5) h0 (by have:=(Zxc (t:=Zx N.ts i)).1;omega) ?_;intro h6 v6 e6 U;rw [<-hw] at U;obtain ⟨bC,rfl⟩:=U.here.shape;simp;refine D (y5.trans e6) (B2.ext (((x3.trans e4).trans e5).trans e6)) (U.mono (by have:=((x3.trans e4).trans e5).size;omega)) ?_;rintro h7 X hs' B7 hs I;simp;exact Xc rfl B7 hs (by rw [<-hs'];exact I)
 have c':¬ (i:Int)<st.n:=by omega
 rw [Xfh (by omega),Qe] at J;have ba:Vw N=orW (Uf N.ts.length 0 N.vs) (orW (Qy N.vs.length 0 N.as) (Uj N 0 N.vs)):=by rw [a9,J,Zd3 rfl]
 simp [c',B13.hc];refine Zs (Xbp (Yx G sa st) B rb G.n N.ts.length N.vs h3) (fun e _=>G.n-Zy e 5) ⟨0,_,_,_,_,_,_,_,_,_,_,_,_,_,_,_,_,_,_,_,_,_,_,_,rfl,by omega,by simp,fun j hj=>by omega,Mod.refl h3⟩ ?_;clear c c' hi J v4 v5 v6 v7 v8 v9 ah aJ ai aj ak al am an ao ap aq ar au av aw ax ay;rintro e h4 ⟨i,v3,v4,v6,v7,v8,v9,ah,aJ,ai,aj,ak,al,am,an,ao,ap,aq,ar,au,av,aw,ax,ay,rfl,hi,J,aR,x4⟩;have y4:=y3.trans x4;have B14:=B13.ext x4;have bb:=x3.trans x4;by_cases c:i<G.n
 ·have c':(i:Int)<G.n:=by omega
  have w1:=Zj (i:=i) (by omega);rw [Zid (by omega)] at J;have bp:=(r.ext y4).rv.rd (i:=i) (by omega);simp [c',B14.hc,Zm (r.ext y4).rv.ok,bp];refine Xd (vs:=#[.int .i64 (Zp N.vs i).a,.int .i64 (Zp N.vs i).b,.int .i64 (Zp N.vs i).c]) rfl rfl (by simp) ?_;intro b5 bo g5 B5' aY O;simp;refine O _ ?_;intro h5 B5 e5;clear O B5' aY;have aM:=bb.trans e5;have B15:=B14.ext e5;have H:(Uk N.ts.length i (Zp N.vs i)).2≠0->Vw N=Uk N.ts.length i (Zp N.vs i):=by
   intro az;rw [if_pos az] at J;rw [ba,J,Zd7 az]
  simp [B5.hc];refine Zkz RN.Coord ?_;by_cases f1:Zbj (Zp N.vs i).a=true
  ·have hv:Uk N.ts.length i (Zp N.vs i)=Vj Z8 i 1:=by simp [Uk,f1]
   simp [f1];refine M aM (by rw [H (by rw [hv];simp [Vj]),hv]) ?_;intro h6 v x6 B6 U;simp;refine D x6 B6 U ?_;rintro h7 X rfl B7 hs I;simp;exact Xc rfl B7 hs I
  simp [f1,B5.hc];refine Zkz RN.Coord ?_;by_cases f2:Zbj (Zp N.vs i).b=true
  ·have hv:Uk N.ts.length i (Zp N.vs i)=Vj Z8 i 1:=by simp [Uk,f2]
   simp [f2];refine M aM (by rw [H (by rw [hv];simp [Vj]),hv]) ?_;intro h6 v x6 B6 U;simp;refine D x6 B6 U ?_;rintro h7 X rfl B7 hs I;simp;exact Xc rfl B7 hs I
  have aZ:Uk N.ts.length i (Zp N.vs i)=if Ye N.ts.length (Zp N.vs i).c then Qa else Vj Z8 i 5:=by simp [Uk,f1,f2]
  by_cases f3:(Zp N.vs i).c<0
  ·have hv:Uk N.ts.length i (Zp N.vs i)=Vj Z8 i 5:=by
    rw [aZ,if_neg];simp [Ye];omega
   simp [f2,B5.hc,f3];refine M aM (by rw [H (by rw [hv];simp [Vj]),hv]) ?_;intro h6 v x6 B6 U;simp;refine D x6 B6 U ?_;rintro h7 X rfl B7 hs I;simp;exact Xc rfl B7 hs I
  by_cases f4:(st.n:Int)<=(Zp N.vs i).c
  ·have hv:Uk N.ts.length i (Zp N.vs i)=Vj Z8 i 5:=by
    rw [aZ,if_neg];simp [Ye];omega
   simp [f2,B5.hc,B15.hc,f3,f4];refine M aM (by rw [H (by rw [hv];simp [Vj]),hv]) ?_;intro h6 v x6 B6 U;simp;refine D x6 B6 U ?_;rintro h7 X rfl B7 hs I;simp;exact Xc rfl B7 hs I
  have bc:Ye N.ts.length (Zp N.vs i).c=true:=by simp [Ye];omega
  have hv:Uk N.ts.length i (Zp N.vs i)=Qa:=by rw [aZ,if_pos bc]
  rw [hv,if_neg (by simp [Qa])] at J;simp [f2,B5.hc,B15.hc,f3,f4,w1];refine ⟨⟨i+1,_,_,_,_,_,_,_,_,_,_,_,_,_,_,_,_,_,_,_,_,_,_,_,rfl,by omega,J,fun j hj=>?_,x4.trans e5⟩,by simp [Zy];omega⟩;rcases Xen j i with q | q
  ·exact aR j q
  obtain rfl:j=i:=by omega
  exact bc
 have c':¬ (i:Int)<G.n:=by omega
 obtain rfl:i=G.n:=by omega
 rw [Xfh (by omega),Uf] at J;have aL:Vw N=orW (Qy N.vs.length 0 N.as) (Uj N 0 N.vs):=by rw [ba,J,Zd3 rfl]
 have hV:∀ i,i<N.vs.length->Ye N.ts.length (Zp N.vs i).c=true:=fun i hi=>aR i (by omega);have q1:(G.n:Int)<=9223372036854775807:=by omega
 have q2:8 * (G.n:Int)<=281474976710656:=by omega
 simp [c',B14.hc,Vi,Ua,q1,q2];intro t;have o2:Yl (h4.push (.cells (Array.replicate G.n (.int .i64 0)) t)) 1 (Sl.at h4.size G.n G.n) (Zt (List.replicate G.n 0)):=Zc6 (by omega);have e5:Ext h4 (h4.push (.cells (Array.replicate G.n (.int .i64 0)) t)):=Mod.push;have k5:(h4.push (.cells (Array.replicate G.n (.int .i64 0)) t)).size=h4.size+1:=by simp
 generalize h4.push (.cells (Array.replicate G.n (.int .i64 0)) t)=h5 at *
 have B15:=B14.ext e5;simp [B15.hc,Vi,Ua,q1,q2];intro t';have o3:Yl (h5.push (.cells (Array.replicate G.n (.int .i64 0)) t')) 1 (Sl.at h5.size G.n G.n) (Zt (List.replicate G.n 0)):=Zc6 (by omega);have e6:Ext h5 (h5.push (.cells (Array.replicate G.n (.int .i64 0)) t')):=Mod.push;have bd:=o2.mod e6 (fun _ h=>h);have k6:(h5.push (.cells (Array.replicate G.n (.int .i64 0)) t')).size=h5.size+1:=by simp
 generalize h5.push (.cells (Array.replicate G.n (.int .i64 0)) t')=h6 at *
 obtain ⟨sI,aA⟩:∃ sI,sI=Sl.at h4.size G.n G.n:=⟨_,rfl⟩
 obtain ⟨sO,aB⟩:∃ sO,sO=Sl.at h5.size G.n G.n:=⟨_,rfl⟩
 have bI:sI.b=h4.size:=by rw [aA];rfl
 have bO:sO.b=h5.size:=by rw [aB];rfl
 have nI:sI.n=G.n:=by rw [aA];rfl
 have nO:sO.n=G.n:=by rw [aB];rfl
 have vI:(Value.slice (some ⟨h4.size,0,none⟩) G.n G.n)=sI.v:=by rw [aA];rfl
 have vO:(Value.slice (some ⟨h5.size,0,none⟩) G.n G.n)=sO.v:=by rw [aB];rfl
 rw [<-aA] at bd;rw [<-aB] at o3;simp [vI,vO];refine Zs (Xal (Yx G sa st) B rb sa.n G.n sI sO N.as h4) (fun e _=>sa.n-Zy e 9) ⟨0,_,_,_,_,_,_,_,_,_,_,_,_,_,_,_,_,_,_,_,_,_,rfl,by omega,by simp,fun j hj=>by omega,by simpa [Zss] using bd,by simpa [Znn] using o3,e5.trans e6⟩ ?_;have x2A:=bb;rintro e h7 ⟨i,v3,v4,v5,v6,ah,aJ,ai,aj,ak,al,am,an,ao,ap,aq,ar,au,av,aw,ax,ay,rfl,hi,J,aC,oI,oO,x7⟩;rw [<-lv] at J aC;have y7:=y4.trans x7;have B17:=B14.ext x7;have be:=x2A.trans x7;by_cases c:i<sa.n
 ·have c':(i:Int)<sa.n:=by omega
  have w1:=Zj (i:=i) (by omega);rw [Zlj (by omega)] at J;have bq:=(r.ext y7).ra.rd (i:=i) (by omega);simp [c',B17.hc,Zm (r.ext y7).ra.ok,bq];refine Xd (vs:=#[.int .i64 (Zp N.as i).a,.int .i64 (Zp N.as i).b,.int .i64 (Zp N.as i).c]) rfl rfl (by simp) ?_;intro b8 bD g8 B8' br O;simp;refine O _ ?_;intro h8 B8 e8;clear O B8' br;have aD:=be.trans e8;have B18:=B17.ext e8;have H:(U7 N.vs.length i (Zp N.as i)).2≠0->Vw N=U7 N.vs.length i (Zp N.as i):=by
   intro az;rw [if_pos az] at J;rw [aL,J,Zd7 az]
  by_cases f1:(Zp N.as i).a<0
  ·have hv:U7 N.vs.length i (Zp N.as i)=Vj Zlz i 5:=by
    simp [U7,Ye];intros;omega
   simp [B8.hc,f1];refine M aD (by rw [H (by rw [hv];simp [Vj]),hv]) ?_;intro h9 v x9 B9 aa;simp;refine D x9 B9 aa ?_;rintro ac X rfl B10 hs I;simp;exact Xc rfl B10 hs I
  by_cases f2:(G.n:Int)<=(Zp N.as i).a
  ·have hv:U7 N.vs.length i (Zp N.as i)=Vj Zlz i 5:=by
    simp [U7,Ye];intros;omega
   simp [B8.hc,B18.hc,f1,f2];refine M aD (by rw [H (by rw [hv];simp [Vj]),hv]) ?_;intro h9 v x9 B9 aa;simp;refine D x9 B9 aa ?_;rintro ac X rfl B10 hs I;simp;exact Xc rfl B10 hs I
  by_cases f3:(Zp N.as i).b<0
  ·have hv:U7 N.vs.length i (Zp N.as i)=Vj Zlz i 5:=by
    simp [U7,Ye];intros;omega
   simp [B8.hc,B18.hc,f1,f2,f3];refine M aD (by rw [H (by rw [hv];simp [Vj]),hv]) ?_;intro h9 v x9 B9 aa;simp;refine D x9 B9 aa ?_;rintro ac X rfl B10 hs I;simp;exact Xc rfl B10 hs I
  by_cases f4:(G.n:Int)<=(Zp N.as i).b
  ·have hv:U7 N.vs.length i (Zp N.as i)=Vj Zlz i 5:=by
    simp [U7,Ye];intros;omega
   simp [B8.hc,B18.hc,f1,f2,f3,f4];refine M aD (by rw [H (by rw [hv];simp [Vj]),hv]) ?_;intro h9 v x9 B9 aa;simp;refine D x9 B9 aa ?_;rintro ac X rfl B10 hs I;simp;exact Xc rfl B10 hs I
  have g1:Ye N.vs.length (Zp N.as i).a=true:=by simp [Ye];omega
  have g2:Ye N.vs.length (Zp N.as i).b=true:=by simp [Ye];omega
  simp [B8.hc,B18.hc,f1,f2,f3,f4];obtain ⟨f,hf'⟩:∃ f:Nat,(Zp N.as i).a=f:=⟨(Zp N.as i).a.toNat,by omega⟩
  obtain ⟨g,bg⟩:∃ g:Nat,(Zp N.as i).b=g:=⟨(Zp N.as i).b.toNat,by omega⟩
  refine Zbi T.Weight ?_;by_cases f5:Yu (Zp N.as i).c=true;rotate_left
  ·have hv:U7 N.vs.length i (Zp N.as i)=Vj Zlz i 8:=by simp [U7,g1,g2,f5]
   simp [f5];refine M aD (by rw [H (by rw [hv];simp [Vj]),hv]) ?_;intro h9 v x9 B9 aa;simp;refine D x9 B9 aa ?_;rintro ac X rfl B10 hs I;simp;exact Xc rfl B10 hs I
  have hv:U7 N.vs.length i (Zp N.as i)=Qa:=by simp [U7,g1,g2,f5]
  rw [hv,if_neg (by simp [Qa])] at J;have bs:=Zmx (n:=G.n) (t:=g) (by omega:i<N.as.length) bg (by omega);have bu:=Zkk (n:=G.n) (t:=f) (by omega:i<N.as.length) hf' (by omega);have bv:(g:Int)<sI.n:=by omega
  have bw:(f:Int)<sO.n:=by omega
  have a0:=oI.mod e8 (fun _ h=>h);have aE:=oO.mod e8 (fun _ h=>h);rw [hf',bg] at B8;have cO:=aE.row64.at (i:=f) (by omega)
  rw [Zhc (by omega)] at cO;have bE:=Zw5 (as:=N.as.take i) (v:=g);have bF:=Zq2 (as:=N.as.take i) (v:=f);have bG:(N.as.take i).length<=16384:=by rw [Xfd];omega
  have wI:IntKind.i64.wrap ((Qn (N.as.take i) g:Int)+1)=(Qn (N.as.take i) g:Int)+1:=Zo (by omega);have wO:IntKind.i64.wrap ((Wz (N.as.take i) f:Int)+1)=(Wz (N.as.take i) f:Int)+1:=Zo (by omega);obtain ⟨ad,bH,bx,m9,_⟩:=Zde aE (k:=f) (y:=(Wz (N.as.take i) f:Int)+1) (by simp;omega);rw [bu] at ad;have bJ:=oI.lt (by rw [aA];rfl);have bK:=oO.lt (by rw [aB];rfl);simp [f5,B8.hc,Zm aE.ok,bw,cO,wO,Xo.open,bx];have B9:=m9.blk B8 (by omega);have Z:=a0.mod m9 (fun _ hj=>by omega);have x9:Ext h4 (Wy h8 sO.b (sO.o+f) (.int .i64 ((Wz (N.as.take i) f:Int)+1))):=Mod.ext (x7.trans e8) m9 (fun j hj=>by omega);generalize Wy h8 sO.b (sO.o+f) (.int .i64 ((Wz (N.as.take i) f:Int)+1))=h9 at *
  have cI:=Z.row64.at (i:=g) (by omega)
  rw [Zi0 (by omega)] at cI;obtain ⟨aS,bL,bz,bh,_⟩:=Zde Z (k:=g) (y:=(Qn (N.as.take i) g:Int)+1) (by simp;omega);rw [bs] at aS;simp [B9.hc,Zm Z.ok,bv,cI,wI,Xo.open,bz,w1];have bi:=ad.mod bh (fun _ hj=>by omega);have ab:Ext h4 (Wy h9 sI.b (sI.o+g) (.int .i64 ((Qn (N.as.take i) g:Int)+1))):=Mod.ext x9 bh (fun j hj=>by omega);refine ⟨⟨i+1,_,_,_,_,_,_,_,_,_,_,_,_,_,_,_,_,_,_,_,_,_,rfl,by omega,by rw [lv] at J;exact J,fun j hj=>?_,aS,bi,ab⟩,by simp [Zy];omega⟩;rcases Xen j i with q | q
  ·rw [<-lv];exact aC j q
  obtain rfl:j=i:=by omega
  rw [<-lv];exact ⟨g1,g2⟩
 have c':¬ (i:Int)<sa.n:=by omega
 obtain rfl:i=sa.n:=by omega
 rw [Xfh (by omega),Qy] at J;rw [Xeu (by omega)] at oI oO;have ae:Vw N=Uj N 0 N.vs:=by rw [aL,J,Zd3 rfl]
 simp [c',B17.hc];refine Zs (Xaj (Yx G sa st) B rb G.n sI sO N h7) (fun e _=>G.n-Zy e 11) ⟨0,_,_,_,_,_,_,_,_,_,_,_,_,_,_,_,_,_,_,_,_,_,rfl,by omega,by simp,Mod.refl h7⟩ ?_;clear c c' hi J v3 v4 v5 v6 ah aJ ai aj ak al am an ao ap aq ar au av aw ax ay;rintro e h8 ⟨i,v3,v4,v5,v6,v9,ah,ai,aj,ak,al,am,an,ao,ap,aq,ar,au,av,aw,ax,ay,rfl,hi,J,x8⟩;have B18:=B17.ext x8;have r8:=(r.ext y7).ext x8;have a0:=oI.mod x8 (fun _ h=>h);have aE:=oO.mod x8 (fun _ h=>h);have a1:=be.trans x8;by_cases c:i<G.n
 ·have c':(i:Int)<G.n:=by omega
  have w1:=Zj (i:=i) (by omega);rw [Zkt (by omega)] at J;have ht:=hV i (by omega);simp only [Ye,decide_eq_true_eq] at ht;obtain ⟨f,hf'⟩:∃ f:Nat,(Zp N.vs i).c=f:=⟨(Zp N.vs i).c.toNat,by omega⟩
  have bj:=r8.rv.v2 i (by omega);rw [hf'] at bj ht;obtain ⟨q,aK,_,_⟩:=r8.rt.rd (i:=f) (by omega);have bA:(f:Int)<st.n:=by omega
  simp [c',B18.hc,Zm r8.rv.ok,bj,Zm r8.rt.ok,bA,aK];refine Xd (vs:=#[.int .i64 (Zx N.ts f).i,.int .i64 (Zx N.ts f).o,q.v]) rfl rfl (by simp) ?_;intro b9 bM g9 B9' aN O;have a2:=r8.ext aN;have a3:=a2.rv.v2 i (by omega);rw [hf'] at a3;obtain ⟨q',bk,bB,_⟩:=a2.rt.rd (i:=f) (by omega);have B19':=B18.ext aN;have aF:=aN.rd aK;simp [B19'.hc,a3,aF];refine O _ ?_;intro h9 B9 e9;clear O B9' aN a2 a3 bk bB aF B19';have aO:=a1.trans e9;have Z:=a0.mod e9 (fun _ h=>h);have ad:=aE.mod e9 (fun _ h=>h);have cI:=Z.row64.at (i:=i) (by omega)
  rw [Zi0 (by omega)] at cI;have cO:=ad.row64.at (i:=i) (by omega)
  rw [Zhc (by omega)] at cO;have aG:(i:Int)<sI.n:=by omega
  have aP:(i:Int)<sO.n:=by omega
  have a4:Zec N i (Zp N.vs i)=if 16<Qn N.as i\/16<Wz N.as i then Vj Z8 i 4
    else if (Zx N.ts f).i≠Qn N.as i\/(Zx N.ts f).o≠Wz N.as i then Vj Z8 i 9 else Qa:=by
   simp [Zec,hf']
  generalize Qn N.as i=a at *
  generalize Wz N.as i=b at *
  have aT:(16<a\/16<b)->Vw N=Vj Z8 i 4:=by
   intro a5;rw [ae,J,a4,if_pos a5,if_pos (by simp [Vj])]
  have aU:¬ (16<a\/16<b)->((Zx N.ts f).i≠a\/(Zx N.ts f).o≠b)->Vw N=Vj Z8 i 9:=by
   intro a5 bm;rw [ae,J,a4,if_neg a5,if_pos bm,if_pos (by simp [Vj])]
  by_cases ca:16<a
  ·have af:(16:Int)<a:=by omega
   simp [Zm Z.ok,aG,cI,af];refine M aO (aT (.inl ca)) ?_;intro ac v ab B10 V;simp;refine D ab B10 V ?_;rintro a6 X rfl B11 hs I;simp;exact Xc rfl B11 hs I
  have af:¬ (16:Int)<a:=by omega
  by_cases cb:16<b
  ·have aH:(16:Int)<b:=by omega
   simp [Zm Z.ok,Zm ad.ok,aG,aP,cI,cO,af,aH];refine M aO (aT (.inr cb)) ?_;intro ac v ab B10 V;simp;refine D ab B10 V ?_;rintro a6 X rfl B11 hs I;simp;exact Xc rfl B11 hs I
  have aH:¬ (16:Int)<b:=by omega
  have a7:¬ (16<a\/16<b):=by omega
  by_cases cc:(Zx N.ts f).i=a;rotate_left
  ·have aQ:((a:Int)=(Zx N.ts f).i)=False:=by simp;omega
   simp [B9.hc,Zm Z.ok,Zm ad.ok,aG,aP,cI,cO,af,aH,aQ];refine M aO (aU a7 (.inl cc)) ?_;intro ac v ab B10 V;simp;refine D ab B10 V ?_;rintro a6 X rfl B11 hs I;simp;exact Xc rfl B11 hs I
  have aQ:((a:Int)=(Zx N.ts f).i)=True:=by simp [cc]
  by_cases cd:(Zx N.ts f).o=b;rotate_left
  ·have a8:((b:Int)=(Zx N.ts f).o)=False:=by simp;omega
   simp [B9.hc,Zm Z.ok,Zm ad.ok,aG,aP,cI,cO,af,aH,aQ,a8];refine M aO (aU a7 (.inr cd)) ?_;intro ac v ab B10 V;simp;refine D ab B10 V ?_;rintro a6 X rfl B11 hs I;simp;exact Xc rfl B11 hs I
  have a8:((b:Int)=(Zx N.ts f).o)=True:=by simp [cd]
  simp [B9.hc,Zm Z.ok,Zm ad.ok,aG,aP,cI,cO,af,aH,aQ,a8,w1];refine ⟨⟨i+1,_,_,_,_,_,_,_,_,_,_,_,_,_,_,_,_,_,_,_,_,_,rfl,by omega,?_,x8.trans e9⟩,by simp [Zy];omega⟩;have bn:Zec N i (Zp N.vs i)=Qa:=by
   rw [a4,if_neg a7];simp [cc,cd]
  rw [J,bn,if_neg (by simp [Qa])]
 have c':¬ (i:Int)<G.n:=by omega
 rw [Xfh (by omega),Uj] at J;simp [c',B18.hc];refine D (aV.trans a1) (B2.ext a1) (by rw [ae,J];exact FWr.ok) ?_;rintro h9 X hs' B9 hs I;simp;exact Xc rfl B9 hs (by rw [<-hs'];exact I)
def Uc (p:Xe->Bool):Nat->List Xe->Zb
 | _,[]=>[]
 | k,t::r=>if p t then (k:Int)::Uc p (k+1) r else Uc p (k+1) r
theorem Z1l {p:Xe->Bool} {a b:List Xe}:∀ {k:Nat},Uc p k (a++b)=Uc p k a++Uc p (k+a.length) b:=by
 induction a with
 | nil=>intro k;rfl
 | cons t r D =>
  intro k;have e:k+1+r.length=k+(t::r).length:=by simp;omega
  rw [Xgu,Uc,Uc,D,e]
  split <;> rfl
theorem Zfb {p:Xe->Bool} {l:List Xe} {i:Nat} (r:i<l.length):Uc p 0 (l.take (i+1))=Uc p 0 (l.take i)++if p (Zp l i) then [(i:Int)] else []:=by
 rw [Xey r,Z1l,Wn r]
 congr 1
 simp [Uc,Xfd,Xfr (Nat.le_of_lt r)]
theorem Zc3 {p:Xe->Bool} {l:List Xe}:∀ {k:Nat},(Uc p k l).length=(l.filter p).length:=by
 induction l with
 | nil=>intro k;rfl
 | cons t r D =>
  intro k;rw [Uc];by_cases c:p t=true
  ·simp [c,D]
  simp [c,D]
def Zzv (as:List Xe) (v:Int):Zb:=Uc (fun t=>decide (t.b=v)) 0 as
def Zbb (as:List Xe) (v:Int):Zb:=Uc (fun t=>decide (t.a=v)) 0 as
def Zsi:Int:=1152921504606846976
def Zir (N:Zq) (a b i o:Int):Int :=
 let v:=(Zp N.as a.toNat).b
 if v≠(Zp N.as b.toNat).a\/Ye N.vs.length v=false then Zsi
 else
  let t:=(Zp N.vs v.toNat).c
  if Ye N.ts.length t=false then Zsi else atV (Zx N.ts t.toNat).i (Zx N.ts t.toNat).o (Zx N.ts t.toNat).cs i o
def cntB (as:List Xe) (a:Nat) (n:Nat):Nat:=((as.take n).filter fun t=>decide (t.b=(Zp as a).b)).length
def cntA (as:List Xe) (a:Nat) (n:Nat):Nat:=((as.take n).filter fun t=>decide (t.a=(Zp as a).a)).length
theorem Zni {as:List Xe} {a n:Nat} (r:n<as.length):cntB as a (n+1)=cntB as a n+if (Zp as n).b=(Zp as a).b then 1 else 0:=by
 unfold cntB;rw [Xey r,Wn r,Xgr,Xex]
 congr 1
 by_cases c:as[n].b=(Zp as a).b <;> simp [c]
theorem Zmk {as:List Xe} {a n:Nat} (r:n<as.length):cntA as a (n+1)=cntA as a n+if (Zp as n).a=(Zp as a).a then 1 else 0:=by
 unfold cntA;rw [Xey r,Wn r,Xgr,Xex]
 congr 1
 by_cases c:as[n].a=(Zp as a).a <;> simp [c]
theorem Z4y {as:List Xe} {a n:Nat}:cntB as a n<=as.length:=Xfc (Xfx ..) (by simp;omega)
theorem Z6q {as:List Xe} {a n:Nat}:cntA as a n<=as.length:=Xfc (Xfx ..) (by simp;omega)
def Xb (N:Zq) (a b:Int):Int :=
 if Ye N.as.length a=false\/Ye N.as.length b=false then Zsi
 else Zir N a b (cntB N.as a.toNat a.toNat) (cntA N.as b.toNat b.toNat)
def Z9e (a b:Int):Int:=Qi (Qi a+Qi b)
def Zvo (l:Zb):Int:=l.foldl Z9e 0
theorem Zjz {a:Int}:0<=Qi a/\Qi a<=Zsi:=by
 unfold Qi Zsi
 repeat' split
 all_goals omega
theorem Zye {as:List Xe} {i g:Nat} (r:(Zp as i).b=(g:Int)):cntB as i i=Qn (as.take i) g:=by
 unfold cntB Qn;rw [r]
theorem Ztz {as:List Xe} {i g:Nat} (r:(Zp as i).a=(g:Int)):cntA as i i=Wz (as.take i) g:=by
 unfold cntA Wz;rw [r]
def Z1o (N:Zq):Prop:=∀ i,i<N.as.length->Ye N.vs.length (Zp N.as i).a=true/\Ye N.vs.length (Zp N.as i).b=true
structure Zi3 (Y:Sys):Prop where
 Held:Y.Has 19 Y19
 Add:Y.Has 116 Y116
 Sum:Y.Has 135 Y135
theorem Z2w (C:Zi3 Y) {a b:Int} {R:Ze} (r:R (.int .i64 (Z9e a b)) h):Zv Y 116 [.int .i64 a,.int .i64 b] h R:=by
 refine .of_has C.Add rfl ?_;simp [Y116,Xn.wp];refine Ze5 C.Held ?_;simp;refine Ze5 C.Held ?_;have D:=Zjz (a:=a);have hb:=Zjz (a:=b);have w:IntKind.i64.wrap (Qi a+Qi b)=Qi a+Qi b:=Zo (by unfold Zsi at *;omega);simp [w];refine Ze5 C.Held ?_;simp;exact r
def Xdk (s:Sl) (cs:Zb) (h0:Zk) (e:Zc) (h':Zk):Prop :=
 ∃ (i:Nat) (p:Int) (v1 v3 v7:Value),e=[s.v,v1,.int .i64 p,v3,s.v,.int .i64 s.n,.int .i64 i,v7]/\i<=s.n/\p=Zvo (cs.take i)/\h'=h0
theorem Z0a (C:Zi3 Y) {s:Sl} {cs:Zb} (r:Yf h s cs) (D:s.n<=1000000) {R:Ze} (G:R (.int .i64 (Zvo cs)) h):Zv Y 135 [s.v] h R:=by
 have I:=r.len;refine .of_has C.Sum rfl ?_;simp [Y135,Xn.wp];refine Zs (Xdk s cs h) (fun e _=>s.n-Zy e 6) ⟨0,0,_,_,_,rfl,by omega,by simp [Zvo],rfl⟩ ?_;rintro e h1 ⟨i,p,J,M,O,rfl,U,hp,rfl⟩;by_cases c:i<s.n
 ·have c':(i:Int)<s.n:=by omega
  have H:=Zj (i:=i) (by omega);simp [c',Zm r.ok,r.at c];refine Z2w C ?_;simp [H];refine ⟨⟨i+1,_,_,_,_,rfl,by omega,?_,rfl⟩,by simp [Zy];omega⟩;rw [hp,Zvo,Zvo,Xey (by omega),Xht];simp [Zl,show i<cs.length by omega]
 have c':¬ (i:Int)<s.n:=by omega
 rw [Xeu (by omega)] at hp;simp [c'];rw [hp];exact G
theorem Z0j {N:Zq} {a b:Nat} (r:a<N.as.length) (hb:b<N.as.length):Xb N a b=Zir N a b (cntB N.as a a) (cntA N.as b b):=by
 unfold Xb;rw [if_neg]
 ·simp
 simp [Ye];omega
theorem Zr9 {a b:List Xe} (r:a.length=b.length) (h:∀ j,j<a.length->Zp a j=Zp b j):a=b:=by
 apply Xew r;intro j h1 D;have:=h j h1;rwa [Wn h1,Wn D] at this
theorem Z20 {a b:List Tab} (r:a.length=b.length) (h:∀ j,j<a.length->Zx a j=Zx b j):a=b:=by
 apply Xew r;intro j h1 D;have:=h j h1;rwa [W5 h1,W5 D] at this
theorem Zuc {t u:Tab}:decide (t.i=u.i/\t.o=u.o/\t.cs=u.cs)=decide (t=u):=by
 obtain ⟨a,b,c⟩:=t;obtain ⟨a',b',c'⟩:=u;simp
def Zol (Y:Sys) (x:Value) (xs:Zc) (h:Zk) (R:Ze):Prop :=
 match x with
 | .func (.func f) first cap=>Y.able f/\Y.C f (first.toList++xs++cap.toList) h R
 | _=>False
@[simp] theorem Xap {K:X4} {e T:Zc} {x:Xw} {xs:List Xw} {d:X0} {k:IL}:IL.wp Y K (.op (.callv x xs d) k) e T h=Zol Y (x.ev Y e T) (xs.map (Xw.ev Y e T)) h (EfK Y K k d e T):=(rfl)
theorem Zp2 {neg:Bool} {t u:Xe}:Ys.sem Y h (.eqa neg 3) [.agg #[.int .i64 t.a,.int .i64 t.b,.int .i64 t.c],.agg #[.int .i64 u.a,.int .i64 u.b,.int .i64 u.c]]=some (.bool (if neg then !decide (t=u) else decide (t=u))):=by
 have e:decide (t=u)=((t.a == u.a) && ((t.b == u.b) && (t.c == u.c))):=by
  obtain ⟨a,b,c⟩:=t;obtain ⟨a',b',c'⟩:=u;rw [Xgc];simp
 rw [e];simp [Ys.sem,Qc,Zaa]
structure Zc1 (N:Zq):Prop where
 bv:N.vs.length<=20000
 ba:N.as.length<=20000
 bt:N.ts.length<=20000
 bc:∀ i,i<N.ts.length->(Zx N.ts i).cs.length<=1000000
def Xdf (v0 v1:Value) (B C:Nat) (n:Nat) (a b:List Xe) (h0:Zk) (e:Zc) (h':Zk):Prop :=
 ∃ (i:Nat) (v4 v6 v7 v8 v9 v10 v11 v12 v13 v14:Value),e=[v0,v1,.pointer (some ⟨B,0,none⟩),.pointer (some ⟨C,0,none⟩),v4,.int .i64 i,v6,v7,v8,v9,v10,v11,v12,v13,v14]/\i<=n/\(∀ j,j<i->Zp a j=Zp b j)/\h'=h0
def Xcz (v0 v1:Value) (B C:Nat) (n:Nat) (a b:List Xe) (h0:Zk) (e:Zc) (h':Zk):Prop :=
 ∃ (i:Nat) (v4 v5 v7 v8 v9 v10 v11 v12 v13 v14:Value),e=[v0,v1,.pointer (some ⟨B,0,none⟩),.pointer (some ⟨C,0,none⟩),v4,v5,.int .i64 i,v7,v8,v9,v10,v11,v12,v13,v14]/\i<=n/\(∀ j,j<i->Zp a j=Zp b j)/\h'=h0
def Xc1 (v0 v1:Value) (B C:Nat) (n:Nat) (a b:List Tab) (h0:Zk) (e:Zc) (h':Zk):Prop :=
 ∃ (i:Nat) (v4 v5 v6 v8 v9 v10 v11 v12 v13 v14:Value),e=[v0,v1,.pointer (some ⟨B,0,none⟩),.pointer (some ⟨C,0,none⟩),v4,v5,v6,.int .i64 i,v8,v9,v10,v11,v12,v13,v14]/\i<=n/\(∀ j,j<i->Zx a j=Zx b j)/\Ext h0 h'
theorem Zl4 (HS:Y.Has 103 Y103) (T:Zod Y) {J O U G H I:Sl} {N M:Zq} (r:Ul h J O U N) (r':Ul h G H I M) (b:Zc1 N) {R:Ze}
  (hr:∀ h',Ext h h'->R (.bool (decide (N=M))) h'):Zv Y 103 [Yx J O U,Yx G H I] h R:=by
 have lv:=r.rv.len;have la:=r.ra.len;have lt:=r.rt.len;have al:=r'.rv.len;have am:=r'.ra.len;have an:=r'.rt.len;obtain ⟨b1,b2,b3,b4⟩:=b;refine .of_has HS rfl ?_;simp [Y103,Xn.wp,Yx];refine Zn ?_;intro B hB gB Z eB;have cB:∀ g,Ext g h->Ext g hB:=fun g e=>Mod.trans e eB;simp (maxDischargeDepth:=60);refine Zn ?_;intro C hC gC bC eC;have cC:∀ g,Ext g hB->Ext g hC:=fun g e=>Mod.trans e eC;have x1:=eB.trans eC;have no:N≠M->∀ h',Ext h h'->R (.bool false) h':=fun hn h' e=>by
  have:=hr h' e;rwa [decide_eq_false hn] at this
 by_cases c1:J.n=G.n;rotate_left
 ·have V:¬ (J.n:Int)=G.n:=by omega
  simp (maxDischargeDepth:=60) [Z.sk,cC,bC.sk,V];exact no (fun e=>by rw [e] at lv;omega) _ x1
 have V:((J.n:Int)=G.n)=True:=by simp;omega
 by_cases c2:O.n=H.n;rotate_left
 ·have aa:¬ (O.n:Int)=H.n:=by omega
  simp (maxDischargeDepth:=60) [Z.sk,cC,bC.sk,V,aa];exact no (fun e=>by rw [e] at la;omega) _ x1
 have aa:((O.n:Int)=H.n)=True:=by simp;omega
 by_cases c3:U.n=I.n;rotate_left
 ·have ac:¬ (U.n:Int)=I.n:=by omega
  simp (maxDischargeDepth:=60) [Z.sk,cC,bC.sk,V,aa,ac];exact no (fun e=>by rw [e] at lt;omega) _ x1
 have ac:((U.n:Int)=I.n)=True:=by simp;omega
 simp (maxDischargeDepth:=60) [Z.sk,cC,bC.sk,V,aa,ac];refine Zs (Xdf (Yx J O U) (Yx G H I) B C J.n N.vs M.vs hC) (fun e _=>J.n-Zy e 5) ⟨0,_,_,_,_,_,_,_,_,_,_,rfl,by omega,fun j hj=>by omega,rfl⟩ ?_;rintro e h1 ⟨i,v4,v6,v7,v8,v9,ad,ae,af,ag,ah,rfl,hi,D,rfl⟩;by_cases c:i<J.n
 ·have c':(i:Int)<J.n:=by omega
  have X:(i:Int)<G.n:=by omega
  have ci:i<N.vs.length:=by omega
  have cj:i<M.vs.length:=by omega
  have w1:=Zj (i:=i) (by omega);simp (maxDischargeDepth:=60) [cB,Z.sk,cC,bC.sk,Zm r.rv.ok,Zm r'.rv.ok,r.rv.sr,r'.rv.sr,c',X,ci,cj,Zp2];by_cases q:Zp N.vs i=Zp M.vs i
  ·have q':(Zp N.vs i=Zp M.vs i)=True:=by simp [q]
   simp [q',w1];refine ⟨⟨i+1,_,_,_,_,_,_,_,_,_,_,rfl,by omega,fun j hj=>?_,rfl⟩,by simp [Zy];omega⟩;rcases Xen j i with g | g
   ·exact D j g
   obtain rfl:j=i:=by omega
   exact q
  simp [q];exact no (fun e=>q (by rw [e])) _ x1
 have c':¬ (i:Int)<J.n:=by omega
 have ev:N.vs=M.vs:=Zr9 (by omega) fun j hj=>D j (by omega);clear D hi c;simp (maxDischargeDepth:=60) [Z.sk,cC,c'];clear c';refine Zs (Xcz (Yx J O U) (Yx G H I) B C O.n N.as M.as h1) (fun e _=>O.n-Zy e 6) ⟨0,_,_,_,_,_,_,_,_,_,_,rfl,by omega,fun j hj=>by omega,rfl⟩ ?_;rintro e h1 ⟨i,v4,v5,v7,v8,v9,ad,ae,af,ag,ah,rfl,hi,D,rfl⟩;by_cases c:i<O.n
 ·have c':(i:Int)<O.n:=by omega
  have X:(i:Int)<H.n:=by omega
  have ci:i<N.as.length:=by omega
  have cj:i<M.as.length:=by omega
  have w1:=Zj (i:=i) (by omega);simp (maxDischargeDepth:=60) [cB,Z.sk,cC,bC.sk,Zm r.ra.ok,Zm r'.ra.ok,r.ra.sr,r'.ra.sr,c',X,ci,cj,Zp2];by_cases q:Zp N.as i=Zp M.as i
  ·have q':(Zp N.as i=Zp M.as i)=True:=by simp [q]
   simp [q',w1];refine ⟨⟨i+1,_,_,_,_,_,_,_,_,_,_,rfl,by omega,fun j hj=>?_,rfl⟩,by simp [Zy];omega⟩;rcases Xen j i with g | g
   ·exact D j g
   obtain rfl:j=i:=by omega
   exact q
  simp [q];exact no (fun e=>q (by rw [e])) _ x1
 have c':¬ (i:Int)<O.n:=by omega
 have ea:N.as=M.as:=Zr9 (by omega) fun j hj=>D j (by omega);clear D hi c;simp (maxDischargeDepth:=60) [Z.sk,cC,c'];clear c';refine Zs (Xc1 (Yx J O U) (Yx G H I) B C U.n N.ts M.ts h1) (fun e _=>U.n-Zy e 7) ⟨0,_,_,_,_,_,_,_,_,_,_,rfl,by omega,fun j hj=>by omega,Mod.refl _⟩ ?_;rintro e h2 ⟨i,v4,v5,v6,v8,v9,ad,ae,af,ag,ah,rfl,hi,D,x2⟩;have ab:=x1.trans x2;have k2:∀ g,Ext g h1->Ext g h2:=fun g e=>Mod.trans e x2;by_cases c:i<U.n
 ·have c':(i:Int)<U.n:=by omega
  have X:(i:Int)<I.n:=by omega
  have w1:=Zj (i:=i) (by omega);obtain ⟨u,ai,_,ru⟩:=(r.rt.ext ab).rd (i:=i) (by omega);obtain ⟨w,aj,_,ak⟩:=(r'.rt.ext ab).rd (i:=i) (by omega);simp (maxDischargeDepth:=60) [Z.sk,cC,bC.sk,Zm r.rt.ok,Zm r'.rt.ok,c',X,k2,ai,aj];refine Zsy T ru ak (by have:=b4 i (by omega);have:=ru.len;omega) ?_;intro h3 e3;rw [Zuc];have x3:=ab.trans e3;by_cases q:Zx N.ts i=Zx M.ts i
  ·have q':(Zx N.ts i=Zx M.ts i)=True:=by simp [q]
   simp [q',w1];refine ⟨⟨i+1,_,_,_,_,_,_,_,_,_,_,rfl,by omega,fun j hj=>?_,x2.trans e3⟩,by simp [Zy];omega⟩;rcases Xen j i with g | g
   ·exact D j g
   obtain rfl:j=i:=by omega
   exact q
  simp [q];exact no (fun e=>q (by rw [e])) _ x3
 have c':¬ (i:Int)<U.n:=by omega
 have et:N.ts=M.ts:=Z20 (by omega) fun j hj=>D j (by omega);have e:N=M:=by
  obtain ⟨a,b,c⟩:=N;obtain ⟨a',b',c'⟩:=M;simp only at ev ea et;rw [ev,ea,et]
 have:=hr h2 ab;rw [decide_eq_true e] at this;simp (maxDischargeDepth:=60) [Z.sk,cC,c',k2];exact this
structure Ym (N:Zq):Prop where
 bv:N.vs.length<=4096
 ba:N.as.length<=16384
 bt:N.ts.length<=256
 tab:∀ i,i<N.ts.length->(Z1 (Zx N.ts i)).2=0
 vx:∀ i,i<N.vs.length->Zbj (Zp N.vs i).a=false/\Zbj (Zp N.vs i).b=false
 vt:∀ i,i<N.vs.length->Ye N.ts.length (Zp N.vs i).c=true
 arcs:Z1o N
 w:∀ i,i<N.as.length->Yu (Zp N.as i).c=true
 meet:∀ i,i<N.vs.length->Qn N.as i<=16/\Wz N.as i<=16/\(Zx N.ts (Zp N.vs i).c.toNat).i=Qn N.as i/\(Zx N.ts (Zp N.vs i).c.toNat).o=Wz N.as i
theorem Zay {a b:Wr}:(orW a b).2=0↔a.2=0/\b.2=0:=by
 unfold orW
 split
 ·rename_i h;simp [h]
 rename_i h;have:a.2=0:=by simpa using h
 simp [this]
theorem Zp9:∀ {l:List Tab} {k:Nat},(Qe k l).2=0↔∀ i,i<l.length->(Z1 (Zx l i)).2=0:=by
 intro l
 induction l with
 | nil=>intro k;simp [Qe,Qa]
 | cons t r G =>
  intro k;rw [Qe]
  split
  ·rename_i c;constructor
   ·intro h0;unfold Wx at h0;rw [if_neg c] at h0;exact absurd h0 c
   intro h;exact absurd (h 0 (by simp)) (by simpa [Zx] using c)
  rename_i c;rw [G];constructor
  ·intro h i D
   cases i with
   | zero=>simpa [Zx] using c
   | succ i=>exact h i (by simpa using D)
  intro h i D;exact h (i+1) (by simpa using D)
theorem Zji {nt k:Nat} {v:Xe}:(Uk nt k v).2=0↔Zbj v.a=false/\Zbj v.b=false/\Ye nt v.c=true:=by
 unfold Uk
 cases Zbj v.a <;> cases Zbj v.b <;> cases Ye nt v.c <;> simp [Vj,Qa]
theorem Zru {nt:Nat}:∀ {l:List Xe} {k:Nat},(Uf nt k l).2=0↔∀ i,i<l.length->Zbj (Zp l i).a=false/\Zbj (Zp l i).b=false/\Ye nt (Zp l i).c=true:=by
 intro l
 induction l with
 | nil=>intro k;simp [Uf,Qa]
 | cons t r G =>
  intro k;rw [Uf]
  split
  ·rename_i c;constructor
   ·intro h0;exact absurd h0 c
   intro h;exact absurd (Zji.2 (h 0 (by simp))) (by simpa [Zp] using c)
  rename_i c;rw [G];constructor
  ·intro h i D
   cases i with
   | zero=>exact (Zji (k:=k) (v:=t)).1 (by simpa using c)
   | succ i=>exact h i (by simpa using D)
  intro h i D;exact h (i+1) (by simpa using D)
theorem Zmw {r k:Nat} {a:Xe}:(U7 r k a).2=0↔Ye r a.a=true/\Ye r a.b=true/\Yu a.c=true:=by
 unfold U7
 cases Ye r a.a <;> cases Ye r a.b <;> cases Yu a.c <;> simp [Vj,Qa]
theorem Zvi {D:Nat}:∀ {l:List Xe} {k:Nat},(Qy D k l).2=0↔∀ i,i<l.length->Ye D (Zp l i).a=true/\Ye D (Zp l i).b=true/\Yu (Zp l i).c=true:=by
 intro l
 induction l with
 | nil=>intro k;simp [Qy,Qa]
 | cons t r H =>
  intro k;rw [Qy]
  split
  ·rename_i c;constructor
   ·intro h0;exact absurd h0 c
   intro h;exact absurd (Zmw.2 (h 0 (by simp))) (by simpa [Zp] using c)
  rename_i c;rw [H];constructor
  ·intro h i G
   cases i with
   | zero=>exact (Zmw (k:=k) (a:=t)).1 (by simpa using c)
   | succ i=>exact h i (by simpa using G)
  intro h i G;exact h (i+1) (by simpa using G)
theorem Zjf {N:Zq} {k:Nat} {v:Xe}:(Zec N k v).2=0↔Qn N.as k<=16/\Wz N.as k<=16/\(Zx N.ts v.c.toNat).i=Qn N.as k/\(Zx N.ts v.c.toNat).o=Wz N.as k:=by
 unfold Zec
 split
 ·rename_i c;simp [Vj];omega
 rename_i c
 split
 ·rename_i d;simp [Vj];omega
 rename_i d;simp [Qa];omega
theorem Zth {N:Zq}:∀ {l:List Xe} {k:Nat},(Uj N k l).2=0↔∀ i,i<l.length->Qn N.as (k+i)<=16/\Wz N.as (k+i)<=16/\(Zx N.ts (Zp l i).c.toNat).i=Qn N.as (k+i)/\(Zx N.ts (Zp l i).c.toNat).o=Wz N.as (k+i):=by
 intro l
 induction l with
 | nil=>intro k;simp [Uj,Qa]
 | cons t r G =>
  intro k;rw [Uj]
  split
  ·rename_i c;constructor
   ·intro h0;exact absurd h0 c
   intro h;exact absurd (Zjf.2 (h 0 (by simp))) (by simpa [Zp] using c)
  rename_i c;rw [G];constructor
  ·intro h i D
   cases i with
   | zero=>exact (Zjf (k:=k) (v:=t)).1 (by simpa using c)
   | succ i =>
    have:=h i (by simpa using D);rw [show k+1+i=k+(i+1) by omega] at this;exact this
  intro h i D;have:=h (i+1) (by simpa using D);rw [show k+(i+1)=k+1+i by omega] at this;exact this
theorem Zs0 {N:Zq}:(Zcz N).2=0↔N.vs.length<=4096/\N.as.length<=16384/\N.ts.length<=256:=by
 unfold Zcz
 split
 ·simp [Vj];omega
 split
 ·simp [Vj];omega
 split
 ·simp [Vj];omega
 simp [Qa];omega
theorem Zh8 {N:Zq}:(Vw N).2=0↔Ym N:=by
 unfold Vw;rw [Zay,Zay,Zay,Zay,Zs0,Zp9,Zru,Zvi,Zth];constructor
 ·rintro ⟨⟨a,b,c⟩,d,e,f,g⟩;exact ⟨a,b,c,d,fun i r=>⟨(e i r).1,(e i r).2.1⟩,fun i r=>(e i r).2.2,fun i r=>⟨(f i r).1,(f i r).2.1⟩,fun i r=>(f i r).2.2,fun i r=>by have:=g i r;rwa [Xfg] at this⟩
 rintro ⟨a,b,c,d,D,e2,f1,f2,g⟩;exact ⟨⟨a,b,c⟩,d,fun i r=>⟨(D i r).1,(D i r).2,e2 i r⟩,fun i r=>⟨(f1 i r).1,(f1 i r).2,f2 i r⟩,fun i r=>by rw [Xfg];exact g i r⟩
theorem Z3p {t:Tab} (h:(Z1 t).2=0):Z1 t=Qa:=by
 obtain ⟨_,_,_,_,_,_,h⟩:=Zhx (ins:=t.i) (outs:=t.o) (cs:=t.cs) h;exact h
theorem Z41 {N:Zq} (h:Ym N):Vw N=Qa:=by
 have hs:Zcz N=Qa:=by
  obtain ⟨a,b,c⟩:=(⟨h.bv,h.ba,h.bt⟩:_/\_/\_)
  unfold Zcz;rw [if_neg (by omega),if_neg (by omega),if_neg (by omega)]
 have ht:∀ {l:List Tab} {k:Nat},(Qe k l).2=0->Qe k l=Qa:=by
  intro l
  induction l with
  | nil=>intro k _;rfl
  | cons t r D =>
   intro k h0;rw [Qe] at h0 ⊢
   split at h0
   ·rename_i c;unfold Wx at h0;rw [if_neg c] at h0;exact absurd h0 c
   rename_i c;rw [if_neg c];exact D h0
 have hv:∀ {l:List Xe} {k:Nat},(Uf N.ts.length k l).2=0->Uf N.ts.length k l=Qa:=by
  intro l
  induction l with
  | nil=>intro k _;rfl
  | cons t r D =>
   intro k h0;rw [Uf] at h0 ⊢
   split at h0
   ·rename_i c;exact absurd h0 c
   rename_i c;rw [if_neg c];exact D h0
 have M:∀ {l:List Xe} {k:Nat},(Qy N.vs.length k l).2=0->Qy N.vs.length k l=Qa:=by
  intro l
  induction l with
  | nil=>intro k _;rfl
  | cons t r D =>
   intro k h0;rw [Qy] at h0 ⊢
   split at h0
   ·rename_i c;exact absurd h0 c
   rename_i c;rw [if_neg c];exact D h0
 have G:∀ {l:List Xe} {k:Nat},(Uj N k l).2=0->Uj N k l=Qa:=by
  intro l
  induction l with
  | nil=>intro k _;rfl
  | cons t r D =>
   intro k h0;rw [Uj] at h0 ⊢
   split at h0
   ·rename_i c;exact absurd h0 c
   rename_i c;rw [if_neg c];exact D h0
 have h0:=Zh8.2 h;unfold Vw at h0 ⊢;rw [Zay,Zay,Zay,Zay] at h0;obtain ⟨h1,H,I,h4,J⟩:=h0;rw [Zd3 h1,Zd3 H,Zd3 I,Zd3 h4,G J]
theorem Zw9 {as:List Xe} {v:Int}:(Zbb as v).length<=as.length:=by rw [Zbb,Zc3];exact Xfx ..
end
end Go.Rm
