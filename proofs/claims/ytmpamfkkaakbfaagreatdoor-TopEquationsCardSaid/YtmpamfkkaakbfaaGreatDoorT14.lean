import Derived.Test.YtmpamfkkaakbfaaGreatDoorT12
import Derived.Test.YtmpamfkkaakbfaaGreatDoorT13
/- Parts RNet9 RNet10 RNet11 RNet12 RNet13 RNet14 -/
set_option linter.unusedSimpArgs false
set_option linter.unusedVariables false
namespace Go.Rm
def Z9v (v0:Value) (B rb n:Nat) (ts:List Tab) (h0:Za) (e:List Value) (h':Za):Prop :=
 ∃ (i:Nat) (v4 v5 v6 v7 v8 v9 v10 v11 v12 v13 v14 v15 v16 v17 v18 v19 v20 v21 v22 v23 v24 v25 v26:Value),
  e=[v0,.pointer (some ⟨B,0,none⟩),.pointer (some ⟨rb,0,none⟩),.int .i64 i,v4,v5,v6,v7,v8,v9,v10,v11,v12,v13,v14,v15,v16,v17,v18,v19,v20,v21,v22,v23,v24,v25,v26]/\i<=n/\Uu 0 ts=Uu i (ts.drop i)/\Ext h0 h'
def Xa8 (v0:Value) (B rb n nt:Nat) (vs:List Yp) (h0:Za) (e:List Value) (h':Za):Prop :=
 ∃ (i:Nat) (v3 v4 v6 v7 v8 v9 v10 v11 v12 v13 v14 v15 v16 v17 v18 v19 v20 v21 v22 v23 v24 v25 v26:Value),
  e=[v0,.pointer (some ⟨B,0,none⟩),.pointer (some ⟨rb,0,none⟩),v3,v4,.int .i64 i,v6,v7,v8,v9,v10,v11,v12,v13,v14,v15,v16,v17,v18,v19,v20,v21,v22,v23,v24,v25,v26]/\i<=n/\Vv nt 0 vs=Vv nt i (vs.drop i)/\(∀ j,j<i->Zt nt (Zf vs j).c=true)/\Ext h0 h'
def Z94 (v0:Value) (B rb n nv:Nat) (sI sO:Sl) (as:List Yp) (h0:Za) (e:List Value) (h':Za):Prop :=
 ∃ (i:Nat) (v3 v4 v5 v6 v10 v11 v12 v13 v14 v15 v16 v17 v18 v19 v20 v21 v22 v23 v24 v25 v26:Value),
  e=[v0,.pointer (some ⟨B,0,none⟩),.pointer (some ⟨rb,0,none⟩),v3,v4,v5,v6,sI.v,sO.v,.int .i64 i,v10,v11,v12,v13,v14,v15,v16,v17,v18,v19,v20,v21,v22,v23,v24,v25,v26]/\i<=n/\Qo nv 0 as=Qo nv i (as.drop i)/\(∀ j,j<i->Zt nv (Zf as j).a=true/\Zt nv (Zf as j).b=true)/\Yb h' 1 sI (Zh (Zjz nv (as.take i)))/\Yb h' 1 sO (Zh (Zee nv (as.take i)))/\Ext h0 h'
def Z92 (v0:Value) (B rb n:Nat) (sI sO:Sl) (N:Zg) (h0:Za) (e:List Value) (h':Za):Prop :=
 ∃ (i:Nat) (v3 v4 v5 v6 v9 v10 v12 v13 v14 v15 v16 v17 v18 v19 v20 v21 v22 v23 v24 v25 v26:Value),
  e=[v0,.pointer (some ⟨B,0,none⟩),.pointer (some ⟨rb,0,none⟩),v3,v4,v5,v6,sI.v,sO.v,v9,v10,.int .i64 i,v12,v13,v14,v15,v16,v17,v18,v19,v20,v21,v22,v23,v24,v25,v26]/\i<=n/\Ua N 0 N.vs=Ua N i (N.vs.drop i)/\Ext h0 h'
structure Z3z (Y:Sys):Prop where
 CheckNet:Y.Has 101 Y101
 Within:Y.Has 118 Y118
 Coord:Y.Has 124 Y124
section
variable {Y:Sys} {h:Za}
theorem Zjw (RN:Z3z Y) (T:RefCk Y) {G sa st:Sl} {N:Zg} (r:Uo h G sa st N)
  {R:Value->Za->Prop} (hr:∀ h' v,Ext h h'->FWr h.size h' (Vk N) v->R v h'):Zm Y 101 [Yo G sa st] h R:=by
 have lv:=r.rv.len
 have la:=r.ra.len
 have lt:=r.rt.len
 refine .of_has RN.CheckNet rfl ?_
 simp [Y101,Xa.wp,Yo]
 refine Zd ?_
 intro B h1 g1 B1 e1
 simp
 refine Zd ?_
 intro rb h2 g2 B2 e2
 have B12:=B1.ext e2
 have aW:=e1.trans e2
 have z1:=e1.size
 have z2:=e2.size
 have lB:=B2.lt
 have D:∀ {h':Za} {v:Value} {K:Value->Za->Prop},Ext h h'->Ys h' rb #[.slice none 0 0,.int .i64 0]->FWr h2.size h' (Vk N) v->(∀ h4 X,v = .agg X->Ys h4 rb X->X.size=2->R v h4->K undef h4) ->
   Ef.wp h' K (.store 2) [.pointer (some ⟨rb,0,none⟩),v]:=by
  intro h' v K e3 B3 ae hk
  obtain ⟨X,rfl⟩:=ae.here.shape
  refine Zi B3 rfl rfl (by simp) ?_
  intro h4 B4 m4
  exact hk h4 _ rfl B4 rfl (hr h4 _ (Mod.ext e3 m4 (fun j hj=>by omega)) ((ae.step m4 (fun j hj=>by omega)).mono (by omega)))
 have M:∀ {h':Za} {p:ByteArray} {k e:Int} {K:Value->Za->Prop},Ext h2 h'->Vk N=Wy p k e->(∀ h4 v,Ext h h4->Ys h4 rb #[.slice none 0 0,.int .i64 0]->FWr h2.size h4 (Vk N) v->K v h4) ->
   Zm Y 50 [.string p,.int .i64 k,.int .i64 e] h' K:=by
  intro h' p k e K x hw hK
  refine W1 T.At ?_
  intro h4 v e4 hv
  refine hK h4 v ((aW.trans x).trans e4) (B2.ext (x.trans e4)) ?_
  rw [hw]
  exact hv.mono x.size
 simp [B12.hc]
 by_cases c1:4096<G.n
 ·have ag:(4096:Int)<G.n:=by omega
  have hw:Vk N=Wy Zpp 0 4:=by
   unfold Vk; rw [Zdp] <;> simp [Zck,lv,c1,Wy]
  simp [ag]
  refine M (Mod.refl h2) hw ?_
  intro h3 v x3 B3 hv
  simp
  refine D x3 B3 hv ?_
  rintro h4 X rfl B4 hs I
  simp
  exact Yt rfl B4 hs I
 have ag:¬ (4096:Int)<G.n:=by omega
 by_cases c2:16384<sa.n
 ·have aJ:(16384:Int)<sa.n:=by omega
  have hw:Vk N=Wy Zpp 1 4:=by
   unfold Vk; rw [Zdp] <;> simp [Zck,lv,la,c1,c2,Wy]
  simp [ag,aJ,B12.hc]
  refine M (Mod.refl h2) hw ?_
  intro h3 v x3 B3 hv
  simp
  refine D x3 B3 hv ?_
  rintro h4 X rfl B4 hs I
  simp
  exact Yt rfl B4 hs I
 have aJ:¬ (16384:Int)<sa.n:=by omega
 by_cases c3:256<st.n
 ·have aX:(256:Int)<st.n:=by omega
  have hw:Vk N=Wy Zpp 2 4:=by
   unfold Vk; rw [Zdp] <;> simp [Zck,lv,la,lt,c1,c2,c3,Wy]
  simp [ag,aJ,aX,B12.hc]
  refine M (Mod.refl h2) hw ?_
  intro h3 v x3 B3 hv
  simp
  refine D x3 B3 hv ?_
  rintro h4 X rfl B4 hs I
  simp
  exact Yt rfl B4 hs I
 have aX:¬ (256:Int)<st.n:=by omega
 have a9:Vk N=orW (Uu 0 N.ts) (orW (Vv N.ts.length 0 N.vs) (orW (Qo N.vs.length 0 N.as) (Ua N 0 N.vs))):=by
  unfold Vk; rw [Zdn]; simp [Zck,lv,la,lt,c1,c2,c3,Ur]
 simp [ag,aJ,aX,B12.hc]
 refine Zj (Z9v (Yo G sa st) B rb st.n N.ts h2) (fun e _=>st.n-Zo e 3) ⟨0,_,_,_,_,_,_,_,_,_,_,_,_,_,_,_,_,_,_,_,_,_,_,_,rfl,by omega,by simp,Mod.refl h2⟩ ?_
 rintro e h3 ⟨i,v4,v5,v6,v7,v8,v9,ah,aK,ai,aj,ak,al,am,an,ao,ap,aq,ar,au,av,aw,ax,ay,rfl,hi,J,x3⟩
 have y3:=aW.trans x3
 have B13:=B12.ext x3
 by_cases c:i<st.n
 ·have c':(i:Int)<st.n:=by omega
  have w1:IntKind.i64.wrap ((i:Int)+1)=(i:Int)+1:=Ze (by omega)
  rw [Zih (by omega)] at J
  obtain ⟨q,aL,_,rq⟩:=(r.ext y3).rt.rd (i:=i) (by omega)
  simp [c',B13.hc,Zb (r.ext y3).rt.ok,aL]
  refine Zqp T rq ?_
  intro h4 v4 e4 aY
  rw [show Uc (Zp N.ts i).i (Zp N.ts i).o (Zp N.ts i).cs=Qr (Zp N.ts i) from rfl] at aY
  have y4:=y3.trans e4
  obtain ⟨ps,rfl⟩:=aY.here.shape
  simp
  refine Yr (vs:=#[ps.v,.int .i64 (Qr (Zp N.ts i)).2]) rfl rfl (by simp) ?_
  intro b5 bp g5 B5' aZ O
  simp
  refine O _ ?_
  intro h5 B5 e5
  clear O B5' aZ
  have y5:=y4.trans e5
  by_cases h0:(Qr (Zp N.ts i)).2=0
  ·rw [if_neg (by simp [h0])] at J
   simp [B5.hc,h0,w1]
   exact ⟨⟨i+1,_,_,_,_,_,_,_,_,_,_,_,_,_,_,_,_,_,_,_,_,_,_,_,rfl,by omega,J,(x3.trans e4).trans e5⟩,by simp [Zo]; omega⟩
  ·rw [if_pos h0] at J
   have aM:(Wi Zne i (Qr (Zp N.ts i))).2≠0:=by unfold Wi; rw [if_neg h0]; exact h0
   have hw:Vk N=Wi Zne i (Qr (Zp N.ts i)):=by rw [a9,J,Zdp aM]
   simp [B5.hc,h0,Zy B5]
   refine Zpb RN.Within (aY.here.ext e5) h0 (by have:=(Zw3 (t:=Zp N.ts i)).1; omega) ?_
   intro h6 v6 e6 U
   rw [<-hw] at U
   obtain ⟨bE,rfl⟩:=U.here.shape
   simp
   refine D (y5.trans e6) (B2.ext (((x3.trans e4).trans e5).trans e6)) (U.mono (by have:=((x3.trans e4).trans e5).size; omega)) ?_
   rintro h7 X hs' B7 hs I
   simp
   exact Yt rfl B7 hs (by rw [<-hs']; exact I)
 have c':¬ (i:Int)<st.n:=by omega
 rw [Xe0 (by omega),Uu] at J
 have ba:Vk N=orW (Vv N.ts.length 0 N.vs) (orW (Qo N.vs.length 0 N.as) (Ua N 0 N.vs)):=by rw [a9,J,Zdn rfl]
 simp [c',B13.hc]
 refine Zj (Xa8 (Yo G sa st) B rb G.n N.ts.length N.vs h3) (fun e _=>G.n-Zo e 5) ⟨0,_,_,_,_,_,_,_,_,_,_,_,_,_,_,_,_,_,_,_,_,_,_,_,rfl,by omega,by simp,fun j hj=>by omega,Mod.refl h3⟩ ?_
 clear c c' hi J v4 v5 v6 v7 v8 v9 ah aK ai aj ak al am an ao ap aq ar au av aw ax ay
 rintro e h4 ⟨i,v3,v4,v6,v7,v8,v9,ah,aK,ai,aj,ak,al,am,an,ao,ap,aq,ar,au,av,aw,ax,ay,rfl,hi,J,aS,x4⟩
 have y4:=y3.trans x4
 have B14:=B13.ext x4
 have bb:=x3.trans x4
 by_cases c:i<G.n
 ·have c':(i:Int)<G.n:=by omega
  have w1:IntKind.i64.wrap ((i:Int)+1)=(i:Int)+1:=Ze (by omega)
  rw [Zh3 (by omega)] at J
  have bq:=(r.ext y4).rv.rd (i:=i) (by omega)
  simp [c',B14.hc,Zb (r.ext y4).rv.ok,bq]
  refine Yr (vs:=#[.int .i64 (Zf N.vs i).a,.int .i64 (Zf N.vs i).b,.int .i64 (Zf N.vs i).c]) rfl rfl (by simp) ?_
  intro b5 bp g5 B5' aZ O
  simp
  refine O _ ?_
  intro h5 B5 e5
  clear O B5' aZ
  have aN:=bb.trans e5
  have B15:=B14.ext e5
  have H:(Ub N.ts.length i (Zf N.vs i)).2≠0->Vk N=Ub N.ts.length i (Zf N.vs i):=by
   intro az
   rw [if_pos az] at J
   rw [ba,J,Zdp az]
  simp [B5.hc]
  refine Zkp RN.Coord ?_
  by_cases f1:Za3 (Zf N.vs i).a=true
  ·have hv:Ub N.ts.length i (Zf N.vs i)=Wy Qv i 1:=by simp [Ub,f1]
   simp [f1]
   refine M aN (by rw [H (by rw [hv]; simp [Wy]),hv]) ?_
   intro h6 v x6 B6 U
   simp
   refine D x6 B6 U ?_
   rintro h7 X rfl B7 hs I
   simp
   exact Yt rfl B7 hs I
  simp [f1,B5.hc]
  refine Zkp RN.Coord ?_
  by_cases f2:Za3 (Zf N.vs i).b=true
  ·have hv:Ub N.ts.length i (Zf N.vs i)=Wy Qv i 1:=by simp [Ub,f2]
   simp [f2]
   refine M aN (by rw [H (by rw [hv]; simp [Wy]),hv]) ?_
   intro h6 v x6 B6 U
   simp
   refine D x6 B6 U ?_
   rintro h7 X rfl B7 hs I
   simp
   exact Yt rfl B7 hs I
  have a0:Ub N.ts.length i (Zf N.vs i)=if Zt N.ts.length (Zf N.vs i).c then Ur else Wy Qv i 5:=by simp [Ub,f1,f2]
  by_cases f3:(Zf N.vs i).c<0
  ·have hv:Ub N.ts.length i (Zf N.vs i)=Wy Qv i 5:=by
    rw [a0,if_neg]; simp [Zt]; omega
   simp [f2,B5.hc,f3]
   refine M aN (by rw [H (by rw [hv]; simp [Wy]),hv]) ?_
   intro h6 v x6 B6 U
   simp
   refine D x6 B6 U ?_
   rintro h7 X rfl B7 hs I
   simp
   exact Yt rfl B7 hs I
  by_cases f4:(st.n:Int)<=(Zf N.vs i).c
  ·have hv:Ub N.ts.length i (Zf N.vs i)=Wy Qv i 5:=by
    rw [a0,if_neg]; simp [Zt]; omega
   simp [f2,B5.hc,B15.hc,f3,f4]
   refine M aN (by rw [H (by rw [hv]; simp [Wy]),hv]) ?_
   intro h6 v x6 B6 U
   simp
   refine D x6 B6 U ?_
   rintro h7 X rfl B7 hs I
   simp
   exact Yt rfl B7 hs I
  have bc:Zt N.ts.length (Zf N.vs i).c=true:=by simp [Zt]; omega
  have hv:Ub N.ts.length i (Zf N.vs i)=Ur:=by rw [a0,if_pos bc]
  rw [hv,if_neg (by simp [Ur])] at J
  simp [f2,B5.hc,B15.hc,f3,f4,w1]
  refine ⟨⟨i+1,_,_,_,_,_,_,_,_,_,_,_,_,_,_,_,_,_,_,_,_,_,_,_,rfl,by omega,J,fun j hj=>?_,x4.trans e5⟩,by simp [Zo]; omega⟩
  rcases Xd8 j i with q | q
  ·exact aS j q
  ·obtain rfl:j=i:=by omega
   exact bc
 have c':¬ (i:Int)<G.n:=by omega
 obtain rfl:i=G.n:=by omega
 rw [Xe0 (by omega),Vv] at J
 have aM:Vk N=orW (Qo N.vs.length 0 N.as) (Ua N 0 N.vs):=by rw [ba,J,Zdn rfl]
 have hV:∀ i,i<N.vs.length->Zt N.ts.length (Zf N.vs i).c=true:=fun i hi=>aS i (by omega)
 have q1:(G.n:Int)<=9223372036854775807:=by omega
 have q2:8 * (G.n:Int)<=281474976710656:=by omega
 simp [c',B14.hc,Wx,Vp,q1,q2]
 intro t
 have o2:Yb (h4.push (.cells (Array.replicate G.n (.int .i64 0)) t)) 1 (Sl.at h4.size G.n G.n) (Zh (List.replicate G.n 0)):=Zcr (by omega)
 have e5:Ext h4 (h4.push (.cells (Array.replicate G.n (.int .i64 0)) t)):=Mod.push
 have k5:(h4.push (.cells (Array.replicate G.n (.int .i64 0)) t)).size=h4.size+1:=by simp
 generalize h4.push (.cells (Array.replicate G.n (.int .i64 0)) t)=h5 at *
 have B15:=B14.ext e5
 simp [B15.hc,Wx,Vp,q1,q2]
 intro t'
 have o3:Yb (h5.push (.cells (Array.replicate G.n (.int .i64 0)) t')) 1 (Sl.at h5.size G.n G.n) (Zh (List.replicate G.n 0)):=Zcr (by omega)
 have e6:Ext h5 (h5.push (.cells (Array.replicate G.n (.int .i64 0)) t')):=Mod.push
 have bd:=o2.mod e6 (fun _ h=>h)
 have k6:(h5.push (.cells (Array.replicate G.n (.int .i64 0)) t')).size=h5.size+1:=by simp
 generalize h5.push (.cells (Array.replicate G.n (.int .i64 0)) t')=h6 at *
 have B16:=B15.ext e6
 obtain ⟨sI,aA⟩:∃ sI,sI=Sl.at h4.size G.n G.n:=⟨_,rfl⟩
 obtain ⟨sO,aB⟩:∃ sO,sO=Sl.at h5.size G.n G.n:=⟨_,rfl⟩
 have bI:sI.b=h4.size:=by rw [aA]; rfl
 have bO:sO.b=h5.size:=by rw [aB]; rfl
 have nI:sI.n=G.n:=by rw [aA]; rfl
 have nO:sO.n=G.n:=by rw [aB]; rfl
 have vI:(Value.slice (some ⟨h4.size,0,none⟩) G.n G.n)=sI.v:=by rw [aA]; rfl
 have vO:(Value.slice (some ⟨h5.size,0,none⟩) G.n G.n)=sO.v:=by rw [aB]; rfl
 rw [<-aA] at bd
 rw [<-aB] at o3
 simp [vI,vO]
 refine Zj (Z94 (Yo G sa st) B rb sa.n G.n sI sO N.as h4) (fun e _=>sa.n-Zo e 9) ⟨0,_,_,_,_,_,_,_,_,_,_,_,_,_,_,_,_,_,_,_,_,_,rfl,by omega,by simp,fun j hj=>by omega,by simpa [Zsj] using bd,by simpa [Zm9] using o3,e5.trans e6⟩ ?_
 have x2A:=bb
 rintro e h7 ⟨i,v3,v4,v5,v6,ah,aK,ai,aj,ak,al,am,an,ao,ap,aq,ar,au,av,aw,ax,ay,rfl,hi,J,aC,oI,oO,x7⟩
 rw [<-lv] at J aC
 have y7:=y4.trans x7
 have B17:=B14.ext x7
 have be:=x2A.trans x7
 by_cases c:i<sa.n
 ·have c':(i:Int)<sa.n:=by omega
  have w1:IntKind.i64.wrap ((i:Int)+1)=(i:Int)+1:=Ze (by omega)
  rw [Zk6 (by omega)] at J
  have br:=(r.ext y7).ra.rd (i:=i) (by omega)
  simp [c',B17.hc,Zb (r.ext y7).ra.ok,br]
  refine Yr (vs:=#[.int .i64 (Zf N.as i).a,.int .i64 (Zf N.as i).b,.int .i64 (Zf N.as i).c]) rfl rfl (by simp) ?_
  intro b8 bF g8 B8' bs O
  simp
  refine O _ ?_
  intro h8 B8 e8
  clear O B8' bs
  have aD:=be.trans e8
  have B18:=B17.ext e8
  have H:(W0 N.vs.length i (Zf N.as i)).2≠0->Vk N=W0 N.vs.length i (Zf N.as i):=by
   intro az
   rw [if_pos az] at J
   rw [aM,J,Zdp az]
  by_cases f1:(Zf N.as i).a<0
  ·have hv:W0 N.vs.length i (Zf N.as i)=Wy Zll i 5:=by
    simp [W0,Zt]; intros; omega
   simp [B8.hc,f1]
   refine M aD (by rw [H (by rw [hv]; simp [Wy]),hv]) ?_
   intro h9 v x9 B9 aa
   simp
   refine D x9 B9 aa ?_
   rintro ac X rfl B10 hs I
   simp
   exact Yt rfl B10 hs I
  by_cases f2:(G.n:Int)<=(Zf N.as i).a
  ·have hv:W0 N.vs.length i (Zf N.as i)=Wy Zll i 5:=by
    simp [W0,Zt]; intros; omega
   simp [B8.hc,B18.hc,f1,f2]
   refine M aD (by rw [H (by rw [hv]; simp [Wy]),hv]) ?_
   intro h9 v x9 B9 aa
   simp
   refine D x9 B9 aa ?_
   rintro ac X rfl B10 hs I
   simp
   exact Yt rfl B10 hs I
  by_cases f3:(Zf N.as i).b<0
  ·have hv:W0 N.vs.length i (Zf N.as i)=Wy Zll i 5:=by
    simp [W0,Zt]; intros; omega
   simp [B8.hc,B18.hc,f1,f2,f3]
   refine M aD (by rw [H (by rw [hv]; simp [Wy]),hv]) ?_
   intro h9 v x9 B9 aa
   simp
   refine D x9 B9 aa ?_
   rintro ac X rfl B10 hs I
   simp
   exact Yt rfl B10 hs I
  by_cases f4:(G.n:Int)<=(Zf N.as i).b
  ·have hv:W0 N.vs.length i (Zf N.as i)=Wy Zll i 5:=by
    simp [W0,Zt]; intros; omega
   simp [B8.hc,B18.hc,f1,f2,f3,f4]
   refine M aD (by rw [H (by rw [hv]; simp [Wy]),hv]) ?_
   intro h9 v x9 B9 aa
   simp
   refine D x9 B9 aa ?_
   rintro ac X rfl B10 hs I
   simp
   exact Yt rfl B10 hs I
  have g1:Zt N.vs.length (Zf N.as i).a=true:=by simp [Zt]; omega
  have g2:Zt N.vs.length (Zf N.as i).b=true:=by simp [Zt]; omega
  simp [B8.hc,B18.hc,f1,f2,f3,f4]
  obtain ⟨f,hf'⟩:∃ f:Nat,(Zf N.as i).a=f:=⟨(Zf N.as i).a.toNat,by omega⟩
  obtain ⟨g,bg⟩:∃ g:Nat,(Zf N.as i).b=g:=⟨(Zf N.as i).b.toNat,by omega⟩
  refine Za2 T.Weight ?_
  by_cases f5:Yi (Zf N.as i).c=true
  rotate_left
  ·have hv:W0 N.vs.length i (Zf N.as i)=Wy Zll i 8:=by simp [W0,g1,g2,f5]
   simp [f5]
   refine M aD (by rw [H (by rw [hv]; simp [Wy]),hv]) ?_
   intro h9 v x9 B9 aa
   simp
   refine D x9 B9 aa ?_
   rintro ac X rfl B10 hs I
   simp
   exact Yt rfl B10 hs I
  have hv:W0 N.vs.length i (Zf N.as i)=Ur:=by simp [W0,g1,g2,f5]
  rw [hv,if_neg (by simp [Ur])] at J
  have bu:=Zmj (n:=G.n) (t:=g) (by omega:i<N.as.length) bg (by omega)
  have bv:=Zka (n:=G.n) (t:=f) (by omega:i<N.as.length) hf' (by omega)
  have bw:(g:Int)<sI.n:=by omega
  have bx:(f:Int)<sO.n:=by omega
  have a1:=oI.mod e8 (fun _ h=>h)
  have aE:=oO.mod e8 (fun _ h=>h)
  rw [hf',bg] at B8
  have cO:=aE.row64.at (i:=f) (by omega)
  rw [Zg3 (by omega)] at cO
  have bG:=Zwy (as:=N.as.take i) (v:=g)
  have bH:=Zqs (as:=N.as.take i) (v:=f)
  have bJ:(N.as.take i).length<=16384:=by rw [Xex]; omega
  have wI:IntKind.i64.wrap ((Qc (N.as.take i) g:Int)+1)=(Qc (N.as.take i) g:Int)+1:=Ze (by omega)
  have wO:IntKind.i64.wrap ((Wk (N.as.take i) f:Int)+1)=(Wk (N.as.take i) f:Int)+1:=Ze (by omega)
  obtain ⟨ad,bz,bA,m9,_⟩:=Zcy aE (k:=f) (y:=(Wk (N.as.take i) f:Int)+1) (by simp; omega)
  rw [bv] at ad
  have bK:=oI.lt (by rw [aA]; rfl)
  have bL:=oO.lt (by rw [aB]; rfl)
  simp [f5,B8.hc,Zb aE.ok,bx,cO,wO,Xg.open,bz,bA]
  have B9:=m9.blk B8 (by omega)
  have Z:=a1.mod m9 (fun _ hj=>by omega)
  have x9:Ext h4 (Wm h8 sO.b (sO.o+f) (.int .i64 ((Wk (N.as.take i) f:Int)+1))):=Mod.ext (x7.trans e8) m9 (fun j hj=>by omega)
  generalize Wm h8 sO.b (sO.o+f) (.int .i64 ((Wk (N.as.take i) f:Int)+1))=h9 at *
  have cI:=Z.row64.at (i:=g) (by omega)
  rw [Ziq (by omega)] at cI
  obtain ⟨aT,bB,bC,bh,_⟩:=Zcy Z (k:=g) (y:=(Qc (N.as.take i) g:Int)+1) (by simp; omega)
  rw [bu] at aT
  simp [B9.hc,Zb Z.ok,bw,cI,wI,Xg.open,bB,bC,w1]
  have bi:=ad.mod bh (fun _ hj=>by omega)
  have ab:Ext h4 (Wm h9 sI.b (sI.o+g) (.int .i64 ((Qc (N.as.take i) g:Int)+1))):=Mod.ext x9 bh (fun j hj=>by omega)
  refine ⟨⟨i+1,_,_,_,_,_,_,_,_,_,_,_,_,_,_,_,_,_,_,_,_,_,rfl,by omega,by rw [lv] at J; exact J,fun j hj=>?_,aT,bi,ab⟩,by simp [Zo]; omega⟩
  rcases Xd8 j i with q | q
  ·rw [<-lv]; exact aC j q
  ·obtain rfl:j=i:=by omega
   rw [<-lv]; exact ⟨g1,g2⟩
 have c':¬ (i:Int)<sa.n:=by omega
 obtain rfl:i=sa.n:=by omega
 rw [Xe0 (by omega),Qo] at J
 rw [Xef (by omega)] at oI oO
 have ae:Vk N=Ua N 0 N.vs:=by rw [aM,J,Zdn rfl]
 simp [c',B17.hc]
 refine Zj (Z92 (Yo G sa st) B rb G.n sI sO N h7) (fun e _=>G.n-Zo e 11) ⟨0,_,_,_,_,_,_,_,_,_,_,_,_,_,_,_,_,_,_,_,_,_,rfl,by omega,by simp,Mod.refl h7⟩ ?_
 clear c c' hi J v3 v4 v5 v6 ah aK ai aj ak al am an ao ap aq ar au av aw ax ay
 rintro e h8 ⟨i,v3,v4,v5,v6,v9,ah,ai,aj,ak,al,am,an,ao,ap,aq,ar,au,av,aw,ax,ay,rfl,hi,J,x8⟩
 have B18:=B17.ext x8
 have r8:=(r.ext y7).ext x8
 have a1:=oI.mod x8 (fun _ h=>h)
 have aE:=oO.mod x8 (fun _ h=>h)
 have a2:=be.trans x8
 by_cases c:i<G.n
 ·have c':(i:Int)<G.n:=by omega
  have w1:IntKind.i64.wrap ((i:Int)+1)=(i:Int)+1:=Ze (by omega)
  rw [Zkk (by omega)] at J
  have ht:=hV i (by omega)
  simp only [Zt,decide_eq_true_eq] at ht
  obtain ⟨f,hf'⟩:∃ f:Nat,(Zf N.vs i).c=f:=⟨(Zf N.vs i).c.toNat,by omega⟩
  have bj:=r8.rv.v2 i (by omega)
  rw [hf'] at bj ht
  obtain ⟨q,aL,_,_⟩:=r8.rt.rd (i:=f) (by omega)
  have bk:(f:Int)<st.n:=by omega
  simp [c',B18.hc,Zb r8.rv.ok,bj,Zb r8.rt.ok,bk,aL]
  refine Yr (vs:=#[.int .i64 (Zp N.ts f).i,.int .i64 (Zp N.ts f).o,q.v]) rfl rfl (by simp) ?_
  intro b9 bM g9 B9' aO O
  have aF:=r8.ext aO
  have a3:=aF.rv.v2 i (by omega)
  rw [hf'] at a3
  obtain ⟨q',bm,bD,_⟩:=aF.rt.rd (i:=f) (by omega)
  have B19':=B18.ext aO
  have aG:=aO.rd aL
  simp [B19'.hc,c',Zb aF.rv.ok,a3,Zb aF.rt.ok,bk,aG]
  refine O _ ?_
  intro h9 B9 e9
  clear O B9' aO aF a3 bm bD aG B19'
  have aP:=a2.trans e9
  have Z:=a1.mod e9 (fun _ h=>h)
  have ad:=aE.mod e9 (fun _ h=>h)
  have cI:=Z.row64.at (i:=i) (by omega)
  rw [Ziq (by omega)] at cI
  have cO:=ad.row64.at (i:=i) (by omega)
  rw [Zg3 (by omega)] at cO
  have aH:(i:Int)<sI.n:=by omega
  have aQ:(i:Int)<sO.n:=by omega
  have a4:Zdv N i (Zf N.vs i)=if 16<Qc N.as i\/16<Wk N.as i then Wy Qv i 4
    else if (Zp N.ts f).i≠Qc N.as i\/(Zp N.ts f).o≠Wk N.as i then Wy Qv i 9 else Ur:=by
   simp [Zdv,hf']
  generalize Qc N.as i=a at *
  generalize Wk N.as i=b at *
  have aU:(16<a\/16<b)->Vk N=Wy Qv i 4:=by
   intro a5
   rw [ae,J,a4,if_pos a5,if_pos (by simp [Wy])]
  have aV:¬ (16<a\/16<b)->((Zp N.ts f).i≠a\/(Zp N.ts f).o≠b)->Vk N=Wy Qv i 9:=by
   intro a5 bn
   rw [ae,J,a4,if_neg a5,if_pos bn,if_pos (by simp [Wy])]
  by_cases ca:16<a
  ·have af:(16:Int)<a:=by omega
   simp [Zb Z.ok,aH,cI,af]
   refine M aP (aU (.inl ca)) ?_
   intro ac v ab B10 V
   simp
   refine D ab B10 V ?_
   rintro a6 X rfl B11 hs I
   simp
   exact Yt rfl B11 hs I
  have af:¬ (16:Int)<a:=by omega
  by_cases cb:16<b
  ·have aI:(16:Int)<b:=by omega
   simp [Zb Z.ok,Zb ad.ok,aH,aQ,cI,cO,af,aI]
   refine M aP (aU (.inr cb)) ?_
   intro ac v ab B10 V
   simp
   refine D ab B10 V ?_
   rintro a6 X rfl B11 hs I
   simp
   exact Yt rfl B11 hs I
  have aI:¬ (16:Int)<b:=by omega
  have a7:¬ (16<a\/16<b):=by omega
  by_cases cc:(Zp N.ts f).i=a
  rotate_left
  ·have aR:((a:Int)=(Zp N.ts f).i)=False:=by simp; omega
   simp [B9.hc,Zb Z.ok,Zb ad.ok,aH,aQ,cI,cO,af,aI,aR]
   refine M aP (aV a7 (.inl cc)) ?_
   intro ac v ab B10 V
   simp
   refine D ab B10 V ?_
   rintro a6 X rfl B11 hs I
   simp
   exact Yt rfl B11 hs I
  have aR:((a:Int)=(Zp N.ts f).i)=True:=by simp [cc]
  by_cases cd:(Zp N.ts f).o=b
  rotate_left
  ·have a8:((b:Int)=(Zp N.ts f).o)=False:=by simp; omega
   simp [B9.hc,Zb Z.ok,Zb ad.ok,aH,aQ,cI,cO,af,aI,aR,a8]
   refine M aP (aV a7 (.inr cd)) ?_
   intro ac v ab B10 V
   simp
   refine D ab B10 V ?_
   rintro a6 X rfl B11 hs I
   simp
   exact Yt rfl B11 hs I
  have a8:((b:Int)=(Zp N.ts f).o)=True:=by simp [cd]
  simp [B9.hc,Zb Z.ok,Zb ad.ok,aH,aQ,cI,cO,af,aI,aR,a8,w1]
  refine ⟨⟨i+1,_,_,_,_,_,_,_,_,_,_,_,_,_,_,_,_,_,_,_,_,_,rfl,by omega,?_,x8.trans e9⟩,by simp [Zo]; omega⟩
  have bo:Zdv N i (Zf N.vs i)=Ur:=by
   rw [a4,if_neg a7]
   simp [cc,cd]
  rw [J,bo,if_neg (by simp [Ur])]
 have c':¬ (i:Int)<G.n:=by omega
 rw [Xe0 (by omega),Ua] at J
 simp [c',B18.hc]
 refine D (aW.trans a2) (B2.ext a2) (by rw [ae,J]; exact FWr.ok) ?_
 rintro h9 X hs' B9 hs I
 simp
 exact Yt rfl B9 hs (by rw [<-hs']; exact I)
end
def Vl (p:Yp->Bool):Nat->List Yp->List Int
 | _,[]=>[]
 | k,t::r=>if p t then (k:Int)::Vl p (k+1) r else Vl p (k+1) r
theorem Z09 {p:Yp->Bool} {a b:List Yp}:∀ {k:Nat},Vl p k (a++b)=Vl p k a++Vl p (k+a.length) b:=by
 induction a with
 | nil=>intro k; rfl
 | cons t r D =>
  intro k
  have e:k+1+r.length=k+(t::r).length:=by simp; omega
  rw [Xga,Vl,Vl,D,e]
  split <;> rfl
theorem Za9 {p:Yp->Bool} {l:List Yp} {i:Nat} (r:i<l.length):Vl p 0 (l.take (i+1))=Vl p 0 (l.take i)++if p (Zf l i) then [(i:Int)] else []:=by
 rw [Xel r,Z09,Wj r]
 congr 1
 simp [Vl,Xex,Xff (Nat.le_of_lt r)]
theorem W8 {p:Yp->Bool} {l:List Yp}:∀ {k:Nat},(Vl p k l).length=(l.filter p).length:=by
 induction l with
 | nil=>intro k; rfl
 | cons t r D =>
  intro k
  rw [Vl]
  by_cases c:p t=true
  ·simp [c,D]
  ·simp [c,D]
def Zep (as:List Yp) (v:Int):List Int:=Vl (fun t=>decide (t.b=v)) 0 as
def Uw (as:List Yp) (v:Int):List Int:=Vl (fun t=>decide (t.a=v)) 0 as
def Zo2:Int:=1152921504606846976
def Zeg (N:Zg) (a b i o:Int):Int :=
 let v:=(Zf N.as a.toNat).b
 if v≠(Zf N.as b.toNat).a\/Zt N.vs.length v=false then Zo2
 else
  let t:=(Zf N.vs v.toNat).c
  if Zt N.ts.length t=false then Zo2 else atV (Zp N.ts t.toNat).i (Zp N.ts t.toNat).o (Zp N.ts t.toNat).cs i o
def cntB (as:List Yp) (a:Nat) (n:Nat):Nat:=((as.take n).filter fun t=>decide (t.b=(Zf as a).b)).length
def cntA (as:List Yp) (a:Nat) (n:Nat):Nat:=((as.take n).filter fun t=>decide (t.a=(Zf as a).a)).length
theorem Zm5 {as:List Yp} {a n:Nat} (r:n<as.length):cntB as a (n+1)=cntB as a n+if (Zf as n).b=(Zf as a).b then 1 else 0:=by
 unfold cntB
 rw [Xel r,Wj r,Xf9,Xei]
 congr 1
 by_cases c:as[n].b=(Zf as a).b <;> simp [c]
theorem Zl6 {as:List Yp} {a n:Nat} (r:n<as.length):cntA as a (n+1)=cntA as a n+if (Zf as n).a=(Zf as a).a then 1 else 0:=by
 unfold cntA
 rw [Xel r,Wj r,Xf9,Xei]
 congr 1
 by_cases c:as[n].a=(Zf as a).a <;> simp [c]
theorem Z4j {as:List Yp} {a n:Nat}:cntB as a n<=as.length:=Xew (Xe8 ..) (by simp; omega)
theorem Z6c {as:List Yp} {a n:Nat}:cntA as a n<=as.length:=Xew (Xe8 ..) (by simp; omega)
def Ye (N:Zg) (a b:Int):Int :=
 if Zt N.as.length a=false\/Zt N.as.length b=false then Zo2
 else Zeg N a b (cntB N.as a.toNat a.toNat) (cntA N.as b.toNat b.toNat)
def Zao (a b:Int):Int:=Vc (Vc a+Vc b)
def Zve (l:List Int):Int:=l.foldl Zao 0
theorem Zc8 {a:Int}:0<=Vc a/\Vc a<=Zo2:=by
 unfold Vc Zo2
 repeat' split
 all_goals omega
theorem Zx6 {as:List Yp} {i g:Nat} (r:(Zf as i).b=(g:Int)):cntB as i i=Qc (as.take i) g:=by
 unfold cntB Qc
 rw [r]
theorem Ztn {as:List Yp} {i g:Nat} (r:(Zf as i).a=(g:Int)):cntA as i i=Wk (as.take i) g:=by
 unfold cntA Wk
 rw [r]
def Z1c (N:Zg):Prop:=∀ i,i<N.as.length->Zt N.vs.length (Zf N.as i).a=true/\Zt N.vs.length (Zf N.as i).b=true
structure Zit (Y:Sys):Prop where
 Held:Y.Has 19 Y19
 Add:Y.Has 116 Y116
 Sum:Y.Has 135 Y135
structure Zvk (Y:Sys):Prop where
 Held:Y.Has 14 Y14
 Add:Y.Has 133 Y133
section
variable {Y:Sys} {h:Za}
theorem Z2k (C:Zit Y) {a b:Int} {R:Value->Za->Prop} (r:R (.int .i64 (Zao a b)) h):Zm Y 116 [.int .i64 a,.int .i64 b] h R:=by
 refine .of_has C.Add rfl ?_
 simp [Y116,Xa.wp]
 refine Zew C.Held ?_
 simp
 refine Zew C.Held ?_
 have D:=Zc8 (a:=a)
 have hb:=Zc8 (a:=b)
 have w:IntKind.i64.wrap (Vc a+Vc b)=Vc a+Vc b:=Ze (by unfold Zo2 at *; omega)
 simp [w]
 refine Zew C.Held ?_
 simp
 exact r
theorem Zej (H:Y.Has 14 Y14) {a:Int} {h:Za} {R:Value->Za->Prop} (r:R (.int .i64 (Vc a)) h):Zm Y 14 [.int .i64 a] h R:=by
 refine .of_has H rfl ?_
 simp [Y14,Xa.wp]
 unfold Vc at r
 split
 ·rename_i h0; rw [if_pos h0] at r; exact r
 ·rename_i h0; rw [if_neg h0] at r
  split
  ·rename_i h1; rw [if_pos h1] at r; exact r
  ·rename_i h1; rw [if_neg h1] at r; exact r
theorem Zl1 (C:Zvk Y) {a b:Int} {R:Value->Za->Prop} (r:R (.int .i64 (Zao a b)) h):Zm Y 133 [.int .i64 a,.int .i64 b] h R:=by
 refine .of_has C.Add rfl ?_
 simp [Y133,Xa.wp]
 refine Zej C.Held ?_
 simp
 refine Zej C.Held ?_
 have D:=Zc8 (a:=a)
 have hb:=Zc8 (a:=b)
 have w:IntKind.i64.wrap (Vc a+Vc b)=Vc a+Vc b:=Ze (by unfold Zo2 at *; omega)
 simp [w]
 refine Zej C.Held ?_
 simp
 exact r
def Xc3 (s:Sl) (cs:List Int) (h0:Za) (e:List Value) (h':Za):Prop :=
 ∃ (i:Nat) (p:Int) (v1 v3 v7:Value),e=[s.v,v1,.int .i64 p,v3,s.v,.int .i64 s.n,.int .i64 i,v7]/\i<=s.n/\p=Zve (cs.take i)/\h'=h0
theorem Zz0 (C:Zit Y) {s:Sl} {cs:List Int} (r:Zz h s cs) (D:s.n<=1000000) {R:Value->Za->Prop} (G:R (.int .i64 (Zve cs)) h):Zm Y 135 [s.v] h R:=by
 have I:=r.len
 refine .of_has C.Sum rfl ?_
 simp [Y135,Xa.wp]
 refine Zj (Xc3 s cs h) (fun e _=>s.n-Zo e 6) ⟨0,0,_,_,_,rfl,by omega,by simp [Zve],rfl⟩ ?_
 rintro e h1 ⟨i,p,J,M,O,rfl,U,hp,rfl⟩
 by_cases c:i<s.n
 ·have c':(i:Int)<s.n:=by omega
  have H:IntKind.i64.wrap ((i:Int)+1)=(i:Int)+1:=Ze (by omega)
  simp [c',Zb r.ok,r.at c]
  refine Z2k C ?_
  simp [H]
  refine ⟨⟨i+1,_,_,_,_,rfl,by omega,?_,rfl⟩,by simp [Zo]; omega⟩
  rw [hp,Zve,Zve,Xel (by omega),Xhf]
  simp [Zc,show i<cs.length by omega]
 ·have c':¬ (i:Int)<s.n:=by omega
  rw [Xef (by omega)] at hp
  simp [c']
  rw [hp]
  exact G
end
theorem Zp4 {N:Zg} {a b:Nat} (r:a<N.as.length) (hb:b<N.as.length):Ye N a b=Zeg N a b (cntB N.as a a) (cntA N.as b b):=by
 unfold Ye
 rw [if_neg]
 ·simp
 ·simp [Zt]; omega
section
variable {Y:Sys} {h:Za}
def Zn6 (Y:Sys) (x:Value) (xs:List Value) (h:Za) (R:Value->Za->Prop):Prop :=
 match x with
 | .func (.func f) first cap=>Y.able f/\Y.C f (first.toList++xs++cap.toList) h R
 | _=>False
@[simp] theorem Z99 {K:Z3} {e T:List Value} {x:Xo} {xs:List Xo} {d:Qx} {k:IL}:IL.wp Y K (.op (.callv x xs d) k) e T h=Zn6 Y (x.ev Y e T) (xs.map (Xo.ev Y e T)) h (EfK Y K k d e T):=(rfl)
structure Zd2 (N:Zg):Prop where
 bv:N.vs.length<=20000
 ba:N.as.length<=20000
 bt:N.ts.length<=20000
 bc:∀ i,i<N.ts.length->(Zp N.ts i).cs.length<=1000000
end
structure Yd (N:Zg):Prop where
 bv:N.vs.length<=4096
 ba:N.as.length<=16384
 bt:N.ts.length<=256
 tab:∀ i,i<N.ts.length->(Qr (Zp N.ts i)).2=0
 vx:∀ i,i<N.vs.length->Za3 (Zf N.vs i).a=false/\Za3 (Zf N.vs i).b=false
 vt:∀ i,i<N.vs.length->Zt N.ts.length (Zf N.vs i).c=true
 arcs:Z1c N
 w:∀ i,i<N.as.length->Yi (Zf N.as i).c=true
 meet:∀ i,i<N.vs.length->Qc N.as i<=16/\Wk N.as i<=16/\(Zp N.ts (Zf N.vs i).c.toNat).i=Qc N.as i/\(Zp N.ts (Zf N.vs i).c.toNat).o=Wk N.as i
theorem Zah {a b:Wr}:(orW a b).2=0↔a.2=0/\b.2=0:=by
 unfold orW
 split
 ·rename_i h; simp [h]
 ·rename_i h
  have:a.2=0:=by simpa using h
  simp [this]
theorem Zpv:∀ {l:List Tab} {k:Nat},(Uu k l).2=0↔∀ i,i<l.length->(Qr (Zp l i)).2=0:=by
 intro l
 induction l with
 | nil=>intro k; simp [Uu,Ur]
 | cons t r G =>
  intro k
  rw [Uu]
  split
  ·rename_i c
   constructor
   ·intro h0
    unfold Wi at h0
    rw [if_neg c] at h0
    exact absurd h0 c
   ·intro h
    exact absurd (h 0 (by simp)) (by simpa [Zp] using c)
  ·rename_i c
   rw [G]
   constructor
   ·intro h i D
    cases i with
    | zero=>simpa [Zp] using c
    | succ i=>exact h i (by simpa using D)
   ·intro h i D
    exact h (i+1) (by simpa using D)
theorem Zi9 {nt k:Nat} {v:Yp}:(Ub nt k v).2=0↔Za3 v.a=false/\Za3 v.b=false/\Zt nt v.c=true:=by
 unfold Ub
 cases Za3 v.a <;> cases Za3 v.b <;> cases Zt nt v.c <;> simp [Wy,Ur]
theorem Zrl {nt:Nat}:∀ {l:List Yp} {k:Nat},(Vv nt k l).2=0↔∀ i,i<l.length->Za3 (Zf l i).a=false/\Za3 (Zf l i).b=false/\Zt nt (Zf l i).c=true:=by
 intro l
 induction l with
 | nil=>intro k; simp [Vv,Ur]
 | cons t r G =>
  intro k
  rw [Vv]
  split
  ·rename_i c
   constructor
   ·intro h0
    exact absurd h0 c
   ·intro h
    exact absurd (Zi9.2 (h 0 (by simp))) (by simpa [Zf] using c)
  ·rename_i c
   rw [G]
   constructor
   ·intro h i D
    cases i with
    | zero=>exact (Zi9 (k:=k) (v:=t)).1 (by simpa using c)
    | succ i=>exact h i (by simpa using D)
   ·intro h i D
    exact h (i+1) (by simpa using D)
theorem Zmi {r k:Nat} {a:Yp}:(W0 r k a).2=0↔Zt r a.a=true/\Zt r a.b=true/\Yi a.c=true:=by
 unfold W0
 cases Zt r a.a <;> cases Zt r a.b <;> cases Yi a.c <;> simp [Wy,Ur]
theorem Zu7 {D:Nat}:∀ {l:List Yp} {k:Nat},(Qo D k l).2=0↔∀ i,i<l.length->Zt D (Zf l i).a=true/\Zt D (Zf l i).b=true/\Yi (Zf l i).c=true:=by
 intro l
 induction l with
 | nil=>intro k; simp [Qo,Ur]
 | cons t r H =>
  intro k
  rw [Qo]
  split
  ·rename_i c
   constructor
   ·intro h0
    exact absurd h0 c
   ·intro h
    exact absurd (Zmi.2 (h 0 (by simp))) (by simpa [Zf] using c)
  ·rename_i c
   rw [H]
   constructor
   ·intro h i G
    cases i with
    | zero=>exact (Zmi (k:=k) (a:=t)).1 (by simpa using c)
    | succ i=>exact h i (by simpa using G)
   ·intro h i G
    exact h (i+1) (by simpa using G)
theorem Zi6 {N:Zg} {k:Nat} {v:Yp}:(Zdv N k v).2=0↔Qc N.as k<=16/\Wk N.as k<=16/\(Zp N.ts v.c.toNat).i=Qc N.as k/\(Zp N.ts v.c.toNat).o=Wk N.as k:=by
 unfold Zdv
 split
 ·rename_i c
  simp [Wy]
  omega
 ·rename_i c
  split
  ·rename_i d
   simp [Wy]
   omega
  ·rename_i d
   simp [Ur]
   omega
theorem Zs7 {N:Zg}:∀ {l:List Yp} {k:Nat},(Ua N k l).2=0↔∀ i,i<l.length->Qc N.as (k+i)<=16/\Wk N.as (k+i)<=16/\(Zp N.ts (Zf l i).c.toNat).i=Qc N.as (k+i)/\(Zp N.ts (Zf l i).c.toNat).o=Wk N.as (k+i):=by
 intro l
 induction l with
 | nil=>intro k; simp [Ua,Ur]
 | cons t r G =>
  intro k
  rw [Ua]
  split
  ·rename_i c
   constructor
   ·intro h0
    exact absurd h0 c
   ·intro h
    exact absurd (Zi6.2 (h 0 (by simp))) (by simpa [Zf] using c)
  ·rename_i c
   rw [G]
   constructor
   ·intro h i D
    cases i with
    | zero=>exact (Zi6 (k:=k) (v:=t)).1 (by simpa using c)
    | succ i =>
     have:=h i (by simpa using D)
     rw [show k+1+i=k+(i+1) by omega] at this
     exact this
   ·intro h i D
    have:=h (i+1) (by simpa using D)
    rw [show k+(i+1)=k+1+i by omega] at this
    exact this
theorem Zsq {N:Zg}:(Zck N).2=0↔N.vs.length<=4096/\N.as.length<=16384/\N.ts.length<=256:=by
 unfold Zck
 split
 ·simp [Wy]; omega
 ·split
  ·simp [Wy]; omega
  ·split
   ·simp [Wy]; omega
   ·simp [Ur]; omega
theorem Zhv {N:Zg}:(Vk N).2=0↔Yd N:=by
 unfold Vk
 rw [Zah,Zah,Zah,Zah,Zsq,Zpv,Zrl,Zu7,Zs7]
 constructor
 ·rintro ⟨⟨a,b,c⟩,d,e,f,g⟩
  exact ⟨a,b,c,d,fun i r=>⟨(e i r).1,(e i r).2.1⟩,fun i r=>(e i r).2.2,fun i r=>⟨(f i r).1,(f i r).2.1⟩,fun i r=>(f i r).2.2,fun i r=>by have:=g i r; rwa [Xes] at this⟩
 ·rintro ⟨a,b,c,d,D,e2,f1,f2,g⟩
  exact ⟨⟨a,b,c⟩,d,fun i r=>⟨(D i r).1,(D i r).2,e2 i r⟩,fun i r=>⟨(f1 i r).1,(f1 i r).2,f2 i r⟩,fun i r=>by rw [Xes]; exact g i r⟩
theorem Z3b {t:Tab} (h:(Qr t).2=0):Qr t=Ur:=by
 obtain ⟨_,_,_,_,_,_,h⟩:=Zfy (ins:=t.i) (outs:=t.o) (cs:=t.cs) h
 exact h
theorem Z4m {N:Zg} (h:Yd N):Vk N=Ur:=by
 have hs:Zck N=Ur:=by
  obtain ⟨a,b,c⟩:=(⟨h.bv,h.ba,h.bt⟩:_/\_/\_)
  unfold Zck
  rw [if_neg (by omega),if_neg (by omega),if_neg (by omega)]
 have ht:∀ {l:List Tab} {k:Nat},(Uu k l).2=0->Uu k l=Ur:=by
  intro l
  induction l with
  | nil=>intro k _; rfl
  | cons t r D =>
   intro k h0
   rw [Uu] at h0 ⊢
   split at h0
   ·rename_i c
    unfold Wi at h0
    rw [if_neg c] at h0
    exact absurd h0 c
   ·rename_i c
    rw [if_neg c]
    exact D h0
 have hv:∀ {l:List Yp} {k:Nat},(Vv N.ts.length k l).2=0->Vv N.ts.length k l=Ur:=by
  intro l
  induction l with
  | nil=>intro k _; rfl
  | cons t r D =>
   intro k h0
   rw [Vv] at h0 ⊢
   split at h0
   ·rename_i c
    exact absurd h0 c
   ·rename_i c
    rw [if_neg c]
    exact D h0
 have M:∀ {l:List Yp} {k:Nat},(Qo N.vs.length k l).2=0->Qo N.vs.length k l=Ur:=by
  intro l
  induction l with
  | nil=>intro k _; rfl
  | cons t r D =>
   intro k h0
   rw [Qo] at h0 ⊢
   split at h0
   ·rename_i c
    exact absurd h0 c
   ·rename_i c
    rw [if_neg c]
    exact D h0
 have G:∀ {l:List Yp} {k:Nat},(Ua N k l).2=0->Ua N k l=Ur:=by
  intro l
  induction l with
  | nil=>intro k _; rfl
  | cons t r D =>
   intro k h0
   rw [Ua] at h0 ⊢
   split at h0
   ·rename_i c
    exact absurd h0 c
   ·rename_i c
    rw [if_neg c]
    exact D h0
 have h0:=Zhv.2 h
 unfold Vk at h0 ⊢
 rw [Zah,Zah,Zah,Zah] at h0
 obtain ⟨h1,H,I,h4,J⟩:=h0
 rw [Zdn h1,Zdn H,Zdn I,Zdn h4,G J]
theorem Zhz {p:Yp->Bool}:∀ {l:List Yp} {k q a:Nat},a<l.length->p (Zf l a)=true->Yc q (Vl p k l) ((k+a:Nat):Int)=((q+((l.take a).filter p).length:Nat):Int):=by
 intro l
 induction l with
 | nil=>intro k q a H; simp at H
 | cons t r I =>
  intro k q a H hp
  rw [Vl]
  cases a with
  | zero =>
   have:p t=true:=by simpa [Zf] using hp
   rw [if_pos this]
   simp [Yc]
  | succ a =>
   have D:a<r.length:=by simpa using H
   have G:p (Zf r a)=true:=by simpa [Zf] using hp
   by_cases c:p t=true
   ·rw [if_pos c,Yc,if_neg (by omega)]
    have:=I (k:=k+1) (q:=q+1) D G
    rw [show k+1+a=k+(a+1) by omega] at this
    rw [this]
    simp [c]
    omega
   ·rw [if_neg c]
    have:=I (k:=k+1) (q:=q) D G
    rw [show k+1+a=k+(a+1) by omega] at this
    rw [this]
    simp [c]
theorem Zup {as:List Yp} {a:Nat} (r:a<as.length):Yc 0 (Zep as (Zf as a).b) a=cntB as a a:=by
 have:=Zhz (p:=fun t=>decide (t.b=(Zf as a).b)) (l:=as) (k:=0) (q:=0) r (by simp)
 rw [Xes,Xes] at this
 exact this
theorem Zrm {as:List Yp} {a:Nat} (r:a<as.length):Yc 0 (Uw as (Zf as a).a) a=cntA as a a:=by
 have:=Zhz (p:=fun t=>decide (t.a=(Zf as a).a)) (l:=as) (k:=0) (q:=0) r (by simp)
 rw [Xes,Xes] at this
 exact this
structure Zi2 (Y:Sys):Prop where
 There:Y.Has 130 Y130
 Place:Y.Has 131 Y131
 Ins:Y.Has 107 Y107
 Outs:Y.Has 109 Y109
 Turn:Y.Has 111 Y111
section
variable {Y:Sys} {h:Za}
def Z96 (v0:Value) (B:Nat) (v:Int) (n:Nat) (as:List Yp) (h0:Za) (e:List Value) (h':Za):Prop :=
 ∃ (i:Nat) (s:Sl) (v6 v7:Value),e=[v0,.int .i64 v,.pointer (some ⟨B,0,none⟩),.slice none 0 0,s.v,.int .i64 i,v6,v7]/\i<=n/\Yb h' 1 s (Zh (Zep (as.take i) v))/\(s.nl=true\/h0.size<=s.b)/\Ext h0 h'
theorem Zzm (RN:Zi2 Y) {O H U:Sl} {N:Zg} (r:Uo h O H U N) (ba:N.as.length<=16384) {v:Int} {R:Value->Za->Prop}
  (hr:∀ h' s,Ext h h'->Yb h' 1 s (Zh (Zep N.as v))->(s.nl=true\/h.size<=s.b)->R s.v h'):Zm Y 107 [Yo O H U,.int .i64 v] h R:=by
 have la:=r.ra.len
 refine .of_has RN.Ins rfl ?_
 simp [Y107,Xa.wp,Yo]
 refine Zd ?_
 intro B M gB I V
 have X:∀ g,Ext g h->Ext g M:=fun g e=>Mod.trans e V
 simp
 refine Zj (Z96 (Yo O H U) B v H.n N.as M) (fun e _=>H.n-Zo e 5) ⟨0,Sl.nil,_,_,rfl,by omega,Yb.nil,.inl rfl,Mod.refl _⟩ ?_
 rintro e h2 ⟨i,s,v6,v7,rfl,hi,o2,G,J⟩
 have D:∀ g,Ext g M->Ext g h2:=fun g e=>Mod.trans e J
 by_cases c:i<H.n
 ·have c':(i:Int)<H.n:=by omega
  have Z:i<N.as.length:=by omega
  have w1:IntKind.i64.wrap ((i:Int)+1)=(i:Int)+1:=Ze (by omega)
  have sn:=Za9 (p:=fun t=>decide (t.b=v)) Z
  have nS:s.n<=i:=by
   have:=o2.1
   rw [Wu,Zep,W8,Xej] at this
   have:=Xe8 (fun t:Yp=>decide (t.b=v)) (N.as.take i)
   simp at this; omega
  by_cases q:(Zf N.as i).b=v
  ·have q':((Zf N.as i).b=v)=True:=by simp [q]
   simp only [q',decide_true,if_true] at sn
   simp (config:={ maxDischargeDepth:=60 }) [X,I.sk,I.rk,D,c',Z,w1,Zb r.ra.ok,r.ra.s0,r.ra.s1,r.ra.s2,q',Qm]
   intro t
   refine Zbn rfl o2 (by omega) (by omega) ?_
   intro s' h3 o4 ab m4 aa
   have x4:Ext M h3:=Mod.ext J m4 (fun j hj=>by have:=G.resolve_left (by rw [hj.1]; simp); omega)
   rw [show Zh (Zep (N.as.take i) v)++[Value.int .i64 i]=Zh (Zep (N.as.take (i+1)) v) by rw [Zep,Zep,sn]; simp [Zh]] at o4
   simp [w1]
   refine ⟨⟨i+1,s',_,_,rfl,by omega,o4,?_,x4⟩,by simp [Zo]; omega⟩
   have:=J.size
   rcases aa with ⟨q1,q2⟩ | ⟨q1,q2⟩
   ·rw [q1,q2]; exact G
   ·exact .inr (by omega)
  ·have q':((Zf N.as i).b=v)=False:=by simp [q]
   simp only [q',decide_false,Xeh,if_false,Xgl] at sn
   simp (config:={ maxDischargeDepth:=60 }) [X,I.sk,I.rk,D,c',Z,w1,Zb r.ra.ok,r.ra.s0,r.ra.s1,r.ra.s2,q']
   refine ⟨⟨i+1,s,_,_,rfl,by omega,?_,G,J⟩,by simp [Zo]; omega⟩
   have o3:=o2
   rw [Zep,<-sn] at o3
   exact o3
 have c':¬ (i:Int)<H.n:=by omega
 rw [Xef (by omega)] at o2
 simp (config:={ maxDischargeDepth:=60 }) [X,I.sk,I.rk,D,c']
 refine hr h2 s (V.trans J) o2 (G.imp_right fun q=>?_)
 have:=V.size
 omega
def Z79 (v0:Value) (B:Nat) (v:Int) (n:Nat) (as:List Yp) (h0:Za) (e:List Value) (h':Za):Prop :=
 ∃ (i:Nat) (s:Sl) (v6 v7:Value),e=[v0,.int .i64 v,.pointer (some ⟨B,0,none⟩),.slice none 0 0,s.v,.int .i64 i,v6,v7]/\i<=n/\Yb h' 1 s (Zh (Uw (as.take i) v))/\(s.nl=true\/h0.size<=s.b)/\Ext h0 h'
theorem Ztp (RN:Zi2 Y) {O H U:Sl} {N:Zg} (r:Uo h O H U N) (ba:N.as.length<=16384) {v:Int} {R:Value->Za->Prop}
  (hr:∀ h' s,Ext h h'->Yb h' 1 s (Zh (Uw N.as v))->(s.nl=true\/h.size<=s.b)->R s.v h'):Zm Y 109 [Yo O H U,.int .i64 v] h R:=by
 have la:=r.ra.len
 refine .of_has RN.Outs rfl ?_
 simp [Y109,Xa.wp,Yo]
 refine Zd ?_
 intro B M gB I V
 have X:∀ g,Ext g h->Ext g M:=fun g e=>Mod.trans e V
 simp
 refine Zj (Z79 (Yo O H U) B v H.n N.as M) (fun e _=>H.n-Zo e 5) ⟨0,Sl.nil,_,_,rfl,by omega,Yb.nil,.inl rfl,Mod.refl _⟩ ?_
 rintro e h2 ⟨i,s,v6,v7,rfl,hi,o2,G,J⟩
 have D:∀ g,Ext g M->Ext g h2:=fun g e=>Mod.trans e J
 by_cases c:i<H.n
 ·have c':(i:Int)<H.n:=by omega
  have Z:i<N.as.length:=by omega
  have w1:IntKind.i64.wrap ((i:Int)+1)=(i:Int)+1:=Ze (by omega)
  have sn:=Za9 (p:=fun t=>decide (t.a=v)) Z
  have nS:s.n<=i:=by
   have:=o2.1
   rw [Wu,Uw,W8,Xej] at this
   have:=Xe8 (fun t:Yp=>decide (t.a=v)) (N.as.take i)
   simp at this; omega
  by_cases q:(Zf N.as i).a=v
  ·have q':((Zf N.as i).a=v)=True:=by simp [q]
   simp only [q',decide_true,if_true] at sn
   simp (config:={ maxDischargeDepth:=60 }) [X,I.sk,I.rk,D,c',Z,w1,Zb r.ra.ok,r.ra.s0,r.ra.s1,r.ra.s2,q',Qm]
   intro t
   refine Zbn rfl o2 (by omega) (by omega) ?_
   intro s' h3 o4 ab m4 aa
   have x4:Ext M h3:=Mod.ext J m4 (fun j hj=>by have:=G.resolve_left (by rw [hj.1]; simp); omega)
   rw [show Zh (Uw (N.as.take i) v)++[Value.int .i64 i]=Zh (Uw (N.as.take (i+1)) v) by rw [Uw,Uw,sn]; simp [Zh]] at o4
   simp [w1]
   refine ⟨⟨i+1,s',_,_,rfl,by omega,o4,?_,x4⟩,by simp [Zo]; omega⟩
   have:=J.size
   rcases aa with ⟨q1,q2⟩ | ⟨q1,q2⟩
   ·rw [q1,q2]; exact G
   ·exact .inr (by omega)
  ·have q':((Zf N.as i).a=v)=False:=by simp [q]
   simp only [q',decide_false,Xeh,if_false,Xgl] at sn
   simp (config:={ maxDischargeDepth:=60 }) [X,I.sk,I.rk,D,c',Z,w1,Zb r.ra.ok,r.ra.s0,r.ra.s1,r.ra.s2,q']
   refine ⟨⟨i+1,s,_,_,rfl,by omega,?_,G,J⟩,by simp [Zo]; omega⟩
   have o3:=o2
   rw [Uw,<-sn] at o3
   exact o3
 have c':¬ (i:Int)<H.n:=by omega
 rw [Xef (by omega)] at o2
 simp (config:={ maxDischargeDepth:=60 }) [X,I.sk,I.rk,D,c']
 refine hr h2 s (V.trans J) o2 (G.imp_right fun q=>?_)
 have:=V.size
 omega
theorem Z02 {as:List Yp} {v:Int}:(Zep as v).length<=as.length:=by rw [Zep,W8]; exact Xe8 ..
theorem Zlw {as:List Yp} {v:Int}:(Uw as v).length<=as.length:=by rw [Uw,W8]; exact Xe8 ..
theorem Zva (RN:Zi2 Y) (T:Zgq Y) {sv sa st:Sl} {N:Zg} (r:Uo h sv sa st N) (ok:Yd N) {a b:Int} {R:Value->Za->Prop}
  (O:∀ h',Ext h h'->R (.int .i64 (Ye N a b)) h'):Zm Y 111 [Yo sv sa st,.int .i64 a,.int .i64 b] h R:=by
 have lv:=r.rv.len
 have la:=r.ra.len
 have lt:=r.rt.len
 have ba:=ok.ba
 refine .of_has RN.Turn rfl ?_
 simp [Y111,Xa.wp,Yo]
 refine Zd ?_
 intro B hB gB H eB
 have U:∀ g,Ext g h->Ext g hB:=fun g e=>Mod.trans e eB
 simp (config:={ maxDischargeDepth:=60 }) [U,H.sk,H.rk]
 refine Zfw RN.There la ?_
 intro h1 e1
 have D:∀ g,Ext g hB->Ext g h1:=fun g e=>Mod.trans e e1
 have x1:=Mod.trans eB e1
 by_cases c1:Zt N.as.length a=true
 rotate_left
 ·have aa:Zt N.as.length a=false:=by simpa using c1
  rw [Ye,if_pos (.inl aa)] at O
  simp (config:={ maxDischargeDepth:=60 }) [U,H.sk,H.rk,D,aa]
  exact O _ x1
 simp (config:={ maxDischargeDepth:=60 }) [U,H.sk,H.rk,D,c1]
 refine Zfw RN.There la ?_
 intro h2 e2
 have G:∀ g,Ext g h1->Ext g h2:=fun g e=>Mod.trans e e2
 have x2:=Mod.trans x1 e2
 by_cases c2:Zt N.as.length b=true
 rotate_left
 ·have ab:Zt N.as.length b=false:=by simpa using c2
  rw [Ye,if_pos (.inr ab)] at O
  simp (config:={ maxDischargeDepth:=60 }) [U,H.sk,H.rk,D,G,ab]
  exact O _ x2
 have d1:=c1
 have d2:=c2
 simp only [Zt,decide_eq_true_eq] at d1 d2
 obtain ⟨a,rfl⟩:∃ n:Nat,a=n:=⟨a.toNat,by omega⟩
 obtain ⟨b,rfl⟩:∃ n:Nat,b=n:=⟨b.toNat,by omega⟩
 have V:a<N.as.length:=by omega
 have hb:b<N.as.length:=by omega
 have J:(a:Int)<sa.n:=by omega
 have M:(b:Int)<sa.n:=by omega
 rw [Zp4 V hb] at O
 by_cases c3:(Zf N.as a).b=(Zf N.as b).a
 rotate_left
 ·have Z:((Zf N.as a).b=(Zf N.as b).a)=False:=by simp [c3]
  rw [Zeg] at O
  simp only [Xd9] at O
  rw [if_pos (.inl c3)] at O
  simp (config:={ maxDischargeDepth:=60 }) [U,H.sk,H.rk,D,G,V,hb,J,M,Zb r.ra.ok,Zb r.rv.ok,Zb r.rt.ok,r.ra.s0,r.ra.s1,r.ra.s2,r.ra.sr,r.rv.s2,c2,Z]
  exact O _ x2
 have ad:=Zup V
 have ac:=Zrm hb
 rw [<-c3] at ac
 have hx:Zeg N a b (cntB N.as a a) (cntA N.as b b)=atV (Zp N.ts (Zf N.vs (Zf N.as a).b.toNat).c.toNat).i (Zp N.ts (Zf N.vs (Zf N.as a).b.toNat).c.toNat).o (Zp N.ts (Zf N.vs (Zf N.as a).b.toNat).c.toNat).cs (cntB N.as a a) (cntA N.as b b):=by
  have h1:=(ok.arcs a V).2
  have hv:(Zf N.as a).b.toNat<N.vs.length:=by simp only [Zt,decide_eq_true_eq] at h1; omega
  have h2:=ok.vt _ hv
  rw [Zeg]
  simp only [Xd9]
  rw [if_neg (by rw [h1]; simp [c3]),if_neg (by simp [h2])]
 rw [hx] at O
 clear hx
 have g1:=(ok.arcs a V).2
 generalize hv:(Zf N.as a).b=v at *
 have Z:(v=(Zf N.as b).a)=True:=by simp [c3]
 simp only [Zt,decide_eq_true_eq] at g1
 have v0:0<=v:=g1.1
 have v1:v<sv.n:=by omega
 have v2:v.toNat<N.vs.length:=by omega
 have g2:=ok.vt _ v2
 generalize ht:(Zf N.vs v.toNat).c=t at *
 simp only [Zt,decide_eq_true_eq] at g2
 have t0:0<=t:=g2.1
 have t1:t<st.n:=by omega
 have t2:t.toNat<N.ts.length:=by omega
 obtain ⟨u,ae,_,ru⟩:=(r.ext x2).rt.rd (i:=t.toNat) t2
 have sr:∀ h',Ext h2 h'->rd h' st.b (st.o+t.toNat * 3) 3=some [.int .i64 (Zp N.ts t.toNat).i,.int .i64 (Zp N.ts t.toNat).o,u.v]:=fun h' e=>e.rd ae (fun h=>h)
 simp (config:={ maxDischargeDepth:=60 }) [U,H.sk,H.rk,D,G,V,hb,J,M,Zb r.ra.ok,Zb r.rv.ok,Zb r.rt.ok,r.ra.s0,r.ra.s1,r.ra.s2,r.ra.sr,r.rv.s2,v0,v1,v2,t0,t1,hv,ht,sr,c2,Z]
 refine Zzm RN (r.ext x2) ba ?_
 intro h3 s3 e3 o3 af
 have I:∀ g,Ext g h2->Ext g h3:=fun g e=>Mod.trans e e3
 have x3:=x2.trans e3
 have r3:=o3.row64
 have l3:=r3.len
 have k3:=Z02 (as:=N.as) (v:=v)
 simp (config:={ maxDischargeDepth:=60 }) [U,H.sk,H.rk,D,G,V,hb,J,M,Zb r.ra.ok,Zb r.rv.ok,Zb r.rt.ok,r.ra.s0,r.ra.s1,r.ra.s2,r.ra.sr,r.rv.s2,v0,v1,v2,t0,t1,hv,ht,sr,I]
 refine Zhx RN.Place r3 (by omega) ?_
 rw [ad]
 simp (config:={ maxDischargeDepth:=60 }) [U,H.sk,H.rk,D,G,V,hb,J,M,Zb r.ra.ok,Zb r.rv.ok,Zb r.rt.ok,r.ra.s0,r.ra.s1,r.ra.s2,r.ra.sr,r.rv.s2,v0,v1,v2,t0,t1,hv,ht,sr,I]
 refine Ztp RN (r.ext x3) ba ?_
 intro h4 s4 e4 o4 ag
 have X:∀ g,Ext g h3->Ext g h4:=fun g e=>Mod.trans e e4
 have x4:=x3.trans e4
 have r4:=o4.row64
 have l4:=r4.len
 have k4:=Zlw (as:=N.as) (v:=v)
 simp (config:={ maxDischargeDepth:=60 }) [U,H.sk,H.rk,D,G,V,hb,J,M,Zb r.ra.ok,Zb r.rv.ok,Zb r.rt.ok,r.ra.s0,r.ra.s1,r.ra.s2,r.ra.sr,r.rv.s2,v0,v1,v2,t0,t1,hv,ht,sr,I,X]
 refine Zhx RN.Place r4 (by omega) ?_
 rw [ac]
 simp (config:={ maxDischargeDepth:=60 }) [U,H.sk,H.rk,D,G,V,hb,J,M,Zb r.ra.ok,Zb r.rv.ok,Zb r.rt.ok,r.ra.s0,r.ra.s1,r.ra.s2,r.ra.sr,r.rv.s2,v0,v1,v2,t0,t1,hv,ht,sr,I,X]
 refine Zo9 T (ru.ext (e3.trans e4)) (ok.tab _ t2) ?_
 intro h5 e5
 simp
 exact O _ (x4.trans e5)
end
end Go.Rm
