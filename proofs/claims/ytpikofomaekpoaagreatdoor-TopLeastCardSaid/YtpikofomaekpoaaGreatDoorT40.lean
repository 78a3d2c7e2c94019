import Derived.Test.YtpikofomaekpoaaGreatDoorT26
/- Parts. -/
set_option linter.unusedSimpArgs false
set_option linter.unusedVariables false
namespace Go.Rm
def Zf0 (L:Za) (T:Nat->Nat->Bool) (i:Nat):List Bool:=(List.range (Yi L i)).map (T i)
structure U9 (lo up:Nat) (h:Zk) (tb:Nat) (L:Za) (bt:Nat->Nat) (T:Nat->Nat->Bool):Prop where
 own:Ym h 1 (Sl.at tb L.length L.length) (Zf6 L.length fun i=>Sl.at (bt i) (Yi L i) (Yi L i))
 row:∀ i,i<L.length->Ym h 1 (Sl.at (bt i) (Yi L i) (Yi L i)) (Vt (Zf0 L T i))
 ft:lo<=tb/\tb<up
 fr:∀ i,i<L.length->lo<=bt i/\bt i<up/\bt i≠tb
 dj:∀ i j,i<L.length->j<L.length->i≠j->bt i≠bt j
def Zx9 (L:Za) (T:Nat->Nat->Bool) (a b:Nat):Nat->Nat->Bool:=fun i c=>T i c || decide (Zl (Ya L i) a=(c:Int)/\Zl (Ya L i) b=(c:Int))
section
variable {Y:Sys} {h h':Zk} {lo up tb:Nat} {L:Za} {bt:Nat->Nat} {T:Nat->Nat->Bool}
theorem U9.mod {S:Zf} (t:U9 lo up h tb L bt T) (m:Mod S h h') (hs:∀ j,S j->j<lo\/up<=j):U9 lo up h' tb L bt T :=
 {t with
  own:=t.own.mod m (fun _ hb=>by have:=hs _ hb;have:=t.ft;simp at *;omega)
  row:=fun i r=>(t.row i r).mod m (fun _ hb=>by have:=hs _ hb;have:=(t.fr i r);simp at *;omega) }
theorem U9.ext (t:U9 lo up h tb L bt T) (m:Ext h h'):U9 lo up h' tb L bt T:=t.mod m fun _ h=>h.elim
theorem U9.congr {T':Nat->Nat->Bool} (t:U9 lo up h tb L bt T) (e:∀ i c,i<L.length->c<Yi L i->T i c=T' i c):U9 lo up h tb L bt T' :=
 {t with
  row:=fun i r=>by
   have:Zf0 L T' i=Zf0 L T i:=by
    apply Xho;intro c hc;exact (e i c r (by simpa using hc)).symm
   rw [this];exact t.row i r }
theorem U9.set {K:Ze} (t:U9 lo up h tb L bt T) {i c:Nat} (D:i<L.length) (hc:c<Yi L i)
  (H:∀ h',U9 lo up h' tb L bt (fun j d=>T j d || decide (j=i/\d=c))->Mod (fun j=>lo<=j/\j<up) h h'->K undef h'):Xt h (bt i) c (.bool true) K:=by
 refine Zir (t.row i D) (k:=c) (by rw [Zgx];simpa [Zf0] using hc) ?_;intro h' o m;refine H h' ?_ (m.mono fun j _ G=>by have:=t.fr i D;omega);refine ⟨t.own.mod m (fun _ hb=>by have:=(t.fr i D).2.2;simp at hb;omega),fun j G=>?_,t.ft,t.fr,t.dj⟩;by_cases e:j=i
 ·subst e;have:(Vt (Zf0 L T j)).set c (.bool true)=Vt (Zf0 L (fun r d=>T r d || decide (r=j/\d=c)) j):=by
   apply Xgb
   ·simp [Vt,Zf0]
   intro k h1 I;simp [Vt,Zf0] at h1;rw [Xg3];simp only [Vt,Zf0,Xgo,Xhu,true_and];by_cases q:c=k
   ·subst q;simp
   have:¬ k=c:=fun e=>q e.symm;simp [q,this]
  rw [this] at o;exact o
 have:=(t.row j G).mod m (fun _ hb=>t.dj j i G D e hb);have e2:Zf0 L (fun r d=>T r d || decide (r=i/\d=c)) j=Zf0 L T j:=by
  apply Xho;intro d _;simp [e]
 rw [e2];exact this
structure Zma (Y:Sys):Prop where
 A:Zyg Y
 O:Zeb Y
 Touched:Y.Has 308 Y308
 mark:Y.Has 319 Y319
 Wt:Y.Has 233 Y233
def MkI (tb:Nat) (u:Sl) (L:Za) (bt:Nat->Nat) (T:Nat->Nat->Bool) (a b lo up:Nat) (h0:Zk) (e:Zc) (h':Zk):Prop :=
 ∃ (i:Nat) (v4 v5 v6 v10 v11 v12:Value),e=[.slice (some ⟨tb,0,none⟩) L.length L.length,u.v,Zg a,Zg b,v4,v5,v6,u.v,Zg u.n,Zg i,v10,v11,v12]/\i<=L.length/\U9 lo up h' tb L bt (fun j c=>T j c || decide (j<i/\Zl (Ya L j) a=(c:Int)/\Zl (Ya L j) b=(c:Int)))/\Mod (fun j=>lo<=j/\j<up) h0 h'
theorem Zn7 (X:Zma Y) {u:Sl} {N:Zr} {a b:Nat} (td:U9 lo up h tb L bt T) (ru:Qn h u L) (J:Yv N.vs.length L) (Z:a<N.vs.length) (hb:b<N.vs.length)
  (D:∀ h',Mod (fun j=>lo<=j/\j<up) h h'->Qn h' u L) {R:Ze}
  (hr:∀ h',Mod (fun j=>lo<=j/\j<up) h h'->U9 lo up h' tb L bt (Zx9 L T a b)->R (.tuple #[]) h') :
  Zv Y 319 [.slice (some ⟨tb,0,none⟩) L.length L.length,u.v,Zg a,Zg b] h R:=by
 have lL:=ru.len;have bL:=J.bL;refine .of_has X.mark rfl ?_;simp [Y319,Xm.wp];refine Zt (MkI tb u L bt T a b lo up h) (fun e _=>L.length-Zy e 9) ⟨0,_,_,_,_,_,_,rfl,by omega,td.congr (fun i c _ _=>by simp),Mod.refl _⟩ ?_;rintro e h1 ⟨i,v4,v5,v6,aa,ab,ac,rfl,hi,M,O⟩;by_cases c:i<L.length;rotate_left
 ·have c':¬ (i:Int)<u.n:=by omega
  obtain rfl:i=L.length:=by omega
  simp [c'];refine hr h1 O (M.congr (fun j d U hd=>?_));simp [Zx9,U]
 have c':(i:Int)<u.n:=by omega
 have c2:(i:Int)<L.length:=by omega
 have c3:¬ (L.length:Int)<=i:=by omega
 have w1:=Zj (i:=i) (by omega);have G:=D h1 O;obtain ⟨w,hw,r⟩:=G.val i c;have lw:=r.len;obtain ⟨y1,y2,_,_⟩:=Uy (J.lv i c);have ya:=y2 a Z;have yb:=y2 b hb;have a1:(a:Int)<w.n:=by omega
 have a2:¬ (w.n:Int)<=a:=by omega
 have b1:(b:Int)<w.n:=by omega
 have b2:¬ (w.n:Int)<=b:=by omega
 have va:=r.val a (by omega);have vb:=r.val b (by omega);obtain ⟨x,hx⟩:∃ x:Nat,Zl (Ya L i) a=x:=⟨(Zl (Ya L i) a).toNat,by omega⟩
 rw [hx] at va;have a3:¬ L.length<=i:=by omega
 simp [c',Zm G.ok,hw,c3,a1,a2,b1,b2,Zm r.ok,va,vb];by_cases k:Zl (Ya L i) b=x;rotate_left
 ·have k':¬ (x:Int)=Zl (Ya L i) b:=fun e=>k e.symm;simp [k',w1];refine ⟨⟨i+1,_,_,_,_,_,_,rfl,by omega,M.congr (fun j d U hd=>?_),O⟩,by simp [Zy];omega⟩;by_cases e:j<i
  ·simp [e,show j<i+1 by omega]
  by_cases e2:j=i
  ·subst e2;have:¬ ((x:Int)=(d:Int)/\Zl (Ya L j) b=(d:Int)):=fun q=>k (by omega);simp [hx,this]
  have:¬ j<i+1:=by omega
  simp [e,this]
 have xg:x<Yi L i:=by
  obtain ⟨_,_,_,hv⟩:=Xs J c;obtain ⟨z,hz,ad⟩:=hv a Z;omega
 have ct:=M.own.cell (Zdm c);simp at ct;have H:=Vb (Y:=Y) (h:=h1) (b:=tb) (sz:=1) (show L.length<=9223372036854775807 by omega) c (Xfy _);have gb:=(Xs J c).2.2.1;have I:=Vb (Y:=Y) (h:=h1) (b:=bt i) (sz:=1) (show Yi L i<=9223372036854775807 by omega) xg (Xfy _);simp at H I;have V:(x:Int)<Yi L i:=by omega
 simp [k,H,ct,V,I];refine M.set c xg ?_;intro h2 t2 m2;simp [w1];refine ⟨⟨i+1,_,_,_,_,_,_,rfl,by omega,t2.congr (fun j d U hd=>?_),O.trans m2⟩,by simp [Zy];omega⟩;by_cases e:j<i
 ·simp [e,show j<i+1 by omega,show ¬ j=i by omega]
 by_cases e2:j=i
 ·subst e2;simp only [Nat.lt_irrefl,false_and,decide_false,Bool.or_false,true_and,Xim,hx,k]
  congr 1
  rw [decide_eq_decide];omega
 have:¬ j<i+1:=by omega
 simp [e,e2,this]
end
def Zc0 (N:Zr) (L:Za) (c:Yz) (i k:Nat):Bool :=
 if c.kd=1 then decide ((Zp N.as c.a.toNat).c≠c.w) && decide (Zl (Ya L i) (Zp N.as c.a.toNat).a.toNat=(k:Int)/\Zl (Ya L i) (Zp N.as c.a.toNat).b.toNat=(k:Int))
 else decide (atV (Zz N.ts c.a.toNat).i (Zz N.ts c.a.toNat).o (Zz N.ts c.a.toNat).cs c.i c.o≠c.w) && (List.range N.vs.length).any fun v=>decide ((Zp N.vs v).c=c.a) && decide (Zl (Ya L i) v=(k:Int))
def Zac (N:Zr) (L:Za) (l:List Yz) (i k:Nat):Bool:=l.any fun c=>Zc0 N L c i k
theorem Ztn {N:Zr} {L:Za} {l:List Yz} {i j k:Nat} (r:i<l.length):Zac N L (l.take (i+1)) j k=(Zac N L (l.take i) j k || Zc0 N L (Yp l i) j k):=by
 unfold Zac;rw [Xgc r,List.any_append];simp [Yp,r]
def Zbh (L:Za) (bt:Nat->Nat) (i:Nat):Zc:=(List.range L.length).map fun k=>if k<i then (Sl.at (bt k) (Yi L k) (Yi L k)).v else Zi
structure Zox (lo:Nat) (h:Zk) (tb:Nat) (L:Za) (bt:Nat->Nat) (i:Nat):Prop where
 own:Ym h 1 (Sl.at tb L.length L.length) (Zbh L bt i)
 row:∀ k,k<i->Ym h 1 (Sl.at (bt k) (Yi L k) (Yi L k)) (Vt (Zf0 L (fun _ _=>false) k))
 ft:lo<=tb/\tb<h.size
 fr:∀ k,k<i->lo<=bt k/\bt k<h.size/\bt k≠tb
 dj:∀ j k,j<i->k<i->j≠k->bt j≠bt k
theorem Z26 {L:Za} {i:Nat}:Vt (Zf0 L (fun _ _=>false) i)=List.replicate (Yi L i) (.bool false):=by
 apply Xgb
 ·simp [Vt,Zf0]
 intro k h1 r;simp [Vt,Zf0]
section
variable {Y:Sys} {h h':Zk} {lo up tb:Nat} {L:Za} {bt:Nat->Nat}
theorem Zox.step {i b:Nat} {h1:Zk} {K:Ze} (t:Zox lo h tb L bt i) (M:i<L.length) (U:h.size<=b) (o:Ym h1 1 (Sl.at b (Yi L i) (Yi L i)) (List.replicate (Yi L i) (.bool false))) (e:Ext h h1) (V:b<h1.size) (O:lo<=h.size)
  (G:∀ D,Zox lo D tb L (fun k=>if k=i then b else bt k) (i+1)->Mod (fun j=>j=tb) h1 D->K undef D):Xt h1 tb i (Sl.at b (Yi L i) (Yi L i)).v K:=by
 have R:=t.own.mod e (fun _ h=>h);refine Zir R (k:=i) (by simpa [Zbh] using M) ?_;intro D o2 H;have X:=e.size;have Z:=H.size;have ft:=t.ft;refine G D ⟨?_,fun k G=>?_,by omega,fun k G=>?_,fun j k hj G I=>?_⟩ H
 ·have:(Zbh L bt i).set i (Sl.at b (Yi L i) (Yi L i)).v=Zbh L (fun k=>if k=i then b else bt k) (i+1):=by
   apply Xgb
   ·simp [Zbh]
   intro k h1 D;simp [Zbh] at h1;rw [Xg3];by_cases q:i=k
   ·subst q;simp [Zbh]
   simp only [Zbh,Xgo,Xhu,q,if_false];have q':¬ k=i:=fun e=>q e.symm;by_cases r:k<i
   ·simp [r,q',show k<i+1 by omega]
   simp [r,show ¬ k<i+1 by omega]
  rw [this] at o2;exact o2
 ·by_cases q:k=i
  ·subst q;simp only [if_true];rw [Z26];exact o.mod H (fun _ hb=>by simp at hb;omega)
  simp only [q,if_false];have J:=t.fr k (by omega);exact ((t.row k (by omega)).mod e (fun _ h=>h)).mod H (fun _ hb=>by simp at hb;omega)
 ·by_cases q:k=i
  ·subst q;simp only [if_true];omega
  simp only [q,if_false];have J:=t.fr k (by omega);omega
 by_cases q:j=i
 ·by_cases r:k=i
  ·omega
  have J:=t.fr k (by omega);simp only [q,r,if_true,if_false];omega
 have fj:=t.fr j (by omega);by_cases r:k=i
 ·simp only [q,r,if_true,if_false];omega
 simp only [q,r,if_false];exact t.dj j k (by omega) (by omega) I
theorem Zox.told (t:Zox lo h tb L bt L.length):U9 lo h.size h tb L bt (fun _ _=>false):=by
 refine ⟨?_,t.row,t.ft,t.fr,t.dj⟩;have:Zbh L bt L.length=Zf6 L.length fun i=>Sl.at (bt i) (Yi L i) (Yi L i):=by
  apply Xho;intro k r;have r:k<L.length:=by simpa using r
  simp [r]
 rw [<-this];exact t.own
def Xd4 (p op tb:Nat) (s:Sl) (L:Za) (h0:Zk) (e:Zc) (h':Zk):Prop :=
 ∃ (i:Nat) (bt:Nat->Nat) (v3 v4 v5 v7 v8 v9 v10 v11 v12 v13 v16 v17 v18 v19 v20 v21 v22 v23 v24 v25 v26 v27 v28 v29 v30 v31:Value),e=[Zh p,Zh op,s.v,v3,v4,v5,.slice (some ⟨tb,0,none⟩) L.length L.length,v7,v8,v9,v10,v11,v12,v13,Zg L.length,Zg i,v16,v17,v18,v19,v20,v21,v22,v23,v24,v25,v26,v27,v28,v29,v30,v31]/\i<=L.length/\Zox h0.size h' tb L bt i/\Ext h0 h'
def Xel (p op tb B:Nat) (v8:Value) (s:Sl) (N:Zr) (L:Za) (l:List Yz) (bt:Nat->Nat) (lo up:Nat) (h0:Zk) (e:Zc) (h':Zk):Prop :=
 ∃ (i:Nat) (v3 v4 v5 v7 v10 v11 v12 v13 v14 v15 v16 v17 v21 v22 v23 v24 v25 v26 v27 v28 v29 v30 v31:Value),e=[Zh p,Zh op,s.v,v3,v4,v5,.slice (some ⟨tb,0,none⟩) L.length L.length,v7,v8,Zh B,v10,v11,v12,v13,v14,v15,v16,v17,s.v,Zg s.n,Zg i,v21,v22,v23,v24,v25,v26,v27,v28,v29,v30,v31]/\i<=l.length/\U9 lo up h' tb L bt (Zac N L (l.take i))/\Mod (fun j=>lo<=j/\j<up) h0 h'
def Xfa (p op tb B C i:Nat) (v8:Value) (s sv:Sl) (N:Zr) (L:Za) (a:Int) (T:Nat->Nat->Bool) (bt:Nat->Nat) (lo up:Nat) (h0:Zk) (e:Zc) (h':Zk):Prop :=
 ∃ (v:Nat) (v3 v4 v5 v7 v11 v12 v13 v14 v15 v16 v17 v21 v22 v23 v24 v25 v26 v30 v31:Value),e=[Zh p,Zh op,s.v,v3,v4,v5,.slice (some ⟨tb,0,none⟩) L.length L.length,v7,v8,Zh B,Zh C,v11,v12,v13,v14,v15,v16,v17,s.v,Zg s.n,Zg i,v21,v22,v23,v24,v25,v26,sv.v,Zg sv.n,Zg v,v30,v31]/\v<=N.vs.length/\U9 lo up h' tb L bt (fun j k=>T j k || (List.range v).any fun x=>decide ((Zp N.vs x).c=a) && decide (Zl (Ya L j) x=(k:Int)))/\Mod (fun j=>lo<=j/\j<up) h0 h'
set_option maxHeartbeats 2000000 in
theorem Zq8 (X:Zma Y) {p op:Nat} {N M:Zr} {S:Zf} {s:Sl} {l:List Yz} (g:Xc h p N S) (ok:Yl N) (ov:Vw h op M L) (pk:Yv N.vs.length L) (q:Zcm h s l) {R:Ze}
  (ae:∀ h' v,(Wj N l).2≠0->Ext h h'->W9 Y h.size h' (Wj N l) v->R (.tuple #[Zi,v]) h')
  (hr:∀ h' up tb bt,(Wj N l).2=0->Ext h h'->U9 h.size up h' tb L bt (Zac N L l)->R (.tuple #[.slice (some ⟨tb,0,none⟩) L.length L.length,.nilIface]) h') :
  Zv Y 308 [Zh p,Zh op,s.v] h R:=by
 have ll:=q.len;have bL:=pk.bL;have bn:=pk.bn;have D:=X.A;refine .of_has X.Touched rfl ?_;simp [Y308,Xm.wp];refine Zji D.C g ok q ?_;intro h1 v e1 fv;by_cases c0:(Wj N l).2=0;rotate_left
 ·obtain ⟨t,u,hv⟩:=fv.here.iface c0;subst hv;simp;exact ae h1 _ c0 e1 fv
 have hv:=Err.nil fv.here c0;subst hv;obtain ⟨hl,hb⟩:=Ze3 c0;have z1:=e1.size;simp;refine Zeh X.O (ov.ext e1) ?_;simp;refine Zoz (n:=L.length) (by omega) rfl ?_;intro tb h2 aY o2 e2 aZ;simp;refine Zt (Xd4 p op tb s L h1) (fun e _=>L.length-Zy e 15) ⟨0,fun _=>0,_,_,_,_,_,_,_,_,_,_,_,_,_,_,_,_,_,_,_,_,_,_,_,_,_,_,rfl,by omega,⟨?_,fun k hk=>by omega,by omega,fun k hk=>by omega,fun j k H=>by omega⟩,e2⟩ ?_
 ·have:Zbh L (fun _=>0) 0=List.replicate L.length (Zi):=by
   apply Xgb
   ·simp [Zbh]
   intro k h1 h2;simp [Zbh]
  rw [this];exact o2
 rintro e U ⟨i,bt,v3,v4,v5,v7,v8,v9,aA,af,ag,ah,ai,aj,a0,a1,a2,ak,al,am,an,ao,ap,aB,aC,aD,aq,ar,rfl,hi,tp,e3⟩;have z3:=e3.size;have x3:=e1.trans e3;by_cases c:i<L.length
 ·have c':(i:Int)<L.length:=by omega
  have w1:=Zj (i:=i) (by omega);simp [c',w1];refine Zaf X.O (ov.ext x3) c (by omega) ?_;have gb:=(Xs pk c).2.2.1;simp;refine Zls (n:=Yi L i) (by omega) rfl ?_;intro b h4 aE o4 e4 aF;have au:=Vb (Y:=Y) (h:=h4) (b:=tb) (sz:=1) (show L.length<=9223372036854775807 by omega) c (Xfy _);simp at au;simp [au];rw [show Value.slice (some ⟨b,0,none⟩) (Yi L i) (Yi L i)=(Sl.at b (Yi L i) (Yi L i)).v from rfl];refine tp.step c aE o4 e4 aF (by omega) ?_;intro h5 aG m5;simp [w1];refine ⟨⟨i+1,_,_,_,_,_,_,_,_,_,_,_,_,_,_,_,_,_,_,_,_,_,_,_,_,_,_,_,rfl,by omega,aG,?_⟩,by simp [Zy];omega⟩;exact Mod.ext (e3.trans e4) m5 (fun j H=>by omega)
 have c':¬ (i:Int)<L.length:=by omega
 obtain rfl:i=L.length:=by omega
 have td:=tp.told;have a3:=tp.ft;simp [c'];by_cases c1:s.n=0
 ·have aH:l=[]:=Xgw (by omega);subst aH;simp [c1];refine hr U U.size tb bt c0 x3 ?_;exact ⟨td.own,td.row,⟨by omega,by omega⟩,fun i hi=>by have:=td.fr i hi;omega,td.dj⟩
 simp [c1];have av:∀ i,i<L.length->(Ya L i).length<=1000000:=fun i hi=>by
  have:=(Xs pk hi).1;omega
 refine Zc4 X.O (ov.ext x3) (by omega) av ?_;intro h4 u e4 fu;have z4:=e4.size;have x4:=x3.trans e4;simp [Q1];refine Znc D.C.Net D.C.Cl (g.ext x4) ok.small ?_;intro h5 s1 s2 s3 e5 fn;have z5:=e5.size;have x5:=x4.trans e5;simp [Yy];refine Xh (vs:=#[s1.v,s2.v,s3.v]) rfl rfl (by simp) ?_;intro B a4 gB aI aJ stB;simp;refine stB _ ?_;intro h6 B6 e6;clear stB aI aJ;have z6:=e6.size;have x6:=x5.trans e6;simp;refine Zt (Xel p op tb B u.v s N L l bt h1.size U.size h6) (fun e _=>l.length-Zy e 20) ⟨0,_,_,_,_,_,_,_,_,_,_,_,_,_,_,_,_,_,_,_,_,_,_,_,rfl,by omega,?_,Mod.refl _⟩ ?_
 ·refine U9.congr (((td.ext e4).ext e5).ext e6) ?_;intro i c _ _;simp [Zac]
 rintro e h7 ⟨i,v3,v4,v5,v7,aA,af,ag,ah,aK,aL,ai,aj,ak,al,am,an,ao,ap,aB,aC,aD,aq,ar,rfl,hi,t7,m7⟩;have z7:=m7.size;have x7:Ext h h7:=Mod.ext x6 m7 (fun j H=>by omega);by_cases c:i<l.length;rotate_left
 ·have c':¬ (i:Int)<s.n:=by omega
  obtain rfl:i=l.length:=by omega
  rw [Xhf] at t7;simp [c'];refine hr h7 U.size tb bt c0 x7 ?_;exact ⟨t7.own,t7.row,⟨by omega,t7.ft.2⟩,fun i hi=>by have:=t7.fr i hi;omega,t7.dj⟩
 have c':(i:Int)<s.n:=by omega
 have w1:=Zj (i:=i) (by omega);have rc:=(q.ext' x7).val i c;have ab:Ul N (Yp l i)=0:=Z7 (hb i c);have I:∀ j k,Zac N L (l.take (i+1)) j k=(Zac N L (l.take i) j k || Zc0 N L (Yp l i) j k):=fun j k=>Ztn c;generalize Yp l i=cc at rc ab I;obtain ⟨kd,a,ii,o,w⟩:=cc;simp only at rc;simp [c',Zm q.ok,rc];refine Xh (vs:=#[Zg kd,Zg a,Zg ii,Zg o,Zg w]) rfl rfl (by simp) ?_;intro C a5 gC aM aN stC;simp;refine stC _ ?_;intro h8 C8 e8;clear stC aM aN;have x8:=x7.trans e8;have t8:=t7.ext e8;have m8:Mod (fun j=>h1.size<=j/\j<U.size) h6 h8:=m7.trans (e8.mono fun _ _ h=>h.elim);have r:∀ k,Mod (fun j=>h1.size<=j/\j<U.size) h8 k->Qn k u L:=fun k mk=>by
  refine fu k ?_;refine (((e5.trans e6).mono fun _ _ h=>h.elim).trans (m8.mono fun j _ H=>?_)).trans (mk.mono fun j _ H=>?_) <;> omega
 simp [C8.hc];by_cases k1:kd=1
 ·obtain ⟨a',J,aO,hw,w0,sn⟩:=Zgj ab k1;simp only at J;have va:Yf N.as.length a=true:=by simp [Yf];omega
  have aP:Zu N a=(Zp N.as a').c:=by unfold Zu;rw [if_pos va,J];rfl
  have aQ:Zdg N a=(Zp N.as a').a:=by unfold Zdg;rw [if_pos va,J];rfl
  have aR:toV N a=(Zp N.as a').b:=by unfold toV;rw [if_pos va,J];rfl
  simp [k1];refine Z8 X.Wt D.GS.arc (g.ext x8) ?_;rw [aP];simp [C8.hc];have h1t:∀ j k,Zc0 N L ⟨kd,a,ii,o,w⟩ j k=(decide ((Zp N.as a').c≠w) && decide (Zl (Ya L j) (Zp N.as a').a.toNat=(k:Int)/\Zl (Ya L j) (Zp N.as a').b.toNat=(k:Int))):=fun j k=>by
   simp [Zc0,k1,J]
  by_cases k2:(Zp N.as a').c=w
  ·simp [k2,w1];refine ⟨⟨i+1,_,_,_,_,_,_,_,_,_,_,_,_,_,_,_,_,_,_,_,_,_,_,_,rfl,by omega,t8.congr (fun j d H hd=>?_),m8⟩,by simp [Zy];omega⟩;rw [I,h1t];simp [k2]
  simp [k2];refine Zap X.O.From D.GS.arc (g.ext x8) ?_;rw [aQ];simp [C8.hc];refine Z2 X.O.GO.R.G.To D.GS.arc (g.ext x8) ?_;rw [aR];obtain ⟨y1,y2⟩:=ok.arcs a' aO;simp only [Yf,decide_eq_true_eq] at y1 y2;obtain ⟨x,hx⟩:∃ x:Nat,(Zp N.as a').a=x:=⟨(Zp N.as a').a.toNat,by omega⟩
  obtain ⟨y,hy⟩:∃ y:Nat,(Zp N.as a').b=y:=⟨(Zp N.as a').b.toNat,by omega⟩
  simp [hx,hy];refine Zn7 X t8 (r h8 (Mod.refl _)) pk (by omega) (by omega) r ?_;intro h9 m9 t9;simp [w1];refine ⟨⟨i+1,_,_,_,_,_,_,_,_,_,_,_,_,_,_,_,_,_,_,_,_,_,_,_,rfl,by omega,t9.congr (fun j d H hd=>?_),m8.trans m9⟩,by simp [Zy];omega⟩;rw [I,h1t];simp [Zx9,k2,hx,hy]
 obtain ⟨k2,t,A,B',o',J,ei,eo,lt,ho,l1,l2,lp,hw,w0,sn⟩:=Zcq ok ab k1;simp only at k2 J ei eo;have B8:=m8.blk B6 (by omega);have nh:∀ k,Mod (fun j=>h1.size<=j/\j<U.size) h8 k->Ut k s1 s2 s3 N:=fun k mk=>by
  refine fn k ?_;refine ((e6.mono fun _ _ h=>h.elim).trans (m8.mono fun j _ H=>?_)).trans (mk.mono fun j _ H=>?_) <;> omega
 have n8:=nh h8 (Mod.refl _);have a6:=n8.rt.len;obtain ⟨uu,aS,_,ru⟩:=n8.rt.rd (i:=t) lt;have la:(t:Int)<s3.n:=by omega
 simp [k2,C8.hc,B8.hc,J,Zm n8.rt.ok,la,aS];rw [show (Value.agg #[Zg (Zz N.ts t).i,Zg (Zz N.ts t).o,uu.v])=Zfd (Zz N.ts t).i (Zz N.ts t).o uu from rfl];refine Zx4 D.T ru ?_;intro h9 e9;have t9:=t8.ext e9;have m9:Mod (fun j=>h1.size<=j/\j<U.size) h8 h9:=e9.mono fun _ _ h=>h.elim;have C9:=C8.ext e9;have B9:=B8.ext e9;have h1t:∀ j k,Zc0 N L ⟨kd,a,ii,o,w⟩ j k=(decide (atV (Zz N.ts t).i (Zz N.ts t).o (Zz N.ts t).cs ii o≠w) && (List.range N.vs.length).any fun v=>decide ((Zp N.vs v).c=(t:Int)) && decide (Zl (Ya L j) v=(k:Int))):=fun j k=>by
  simp [Zc0,k1,J]
 simp [C9.hc];by_cases k3:atV (Zz N.ts t).i (Zz N.ts t).o (Zz N.ts t).cs ii o=w
 ·simp [k3,w1];refine ⟨⟨i+1,_,_,_,_,_,_,_,_,_,_,_,_,_,_,_,_,_,_,_,_,_,_,_,rfl,by omega,t9.congr (fun j d H hd=>?_),m8.trans m9⟩,by simp [Zy];omega⟩;rw [I,h1t];simp [k3]
 simp [k3,B9.hc];refine Zt (Xfa p op tb B C i u.v s s1 N L t (Zac N L (l.take i)) bt h1.size U.size h9) (fun e _=>N.vs.length-Zy e 29) ⟨0,_,_,_,_,_,_,_,_,_,_,_,_,_,_,_,_,_,_,_,rfl,by omega,t9.congr (fun j d H hd=>by simp),Mod.refl _⟩ ?_;rintro e aT ⟨v,v3,v4,v5,v7,af,ag,ah,aK,aL,ai,aj,ak,al,am,an,ao,ap,aq,ar,rfl,hv,aw,Z⟩;have ac:=nh aT (m9.trans Z);have lv:=ac.rv.len;by_cases d:v<N.vs.length;rotate_left
 ·have d':¬ (v:Int)<s1.n:=by omega
  obtain rfl:v=N.vs.length:=by omega
  simp [d',w1];refine ⟨⟨i+1,_,_,_,_,_,_,_,_,_,_,_,_,_,_,_,_,_,_,_,_,_,_,_,rfl,by omega,aw.congr (fun j d H hd=>?_),(m8.trans m9).trans Z⟩,by simp [Zy];omega⟩;rw [I,h1t];simp [k3]
 have d':(v:Int)<s1.n:=by omega
 have wv:=Zj (i:=v) (by omega);simp [d',Zm ac.rv.ok,ac.rv.rd d];refine Xh (vs:=#[Zg (Zp N.vs v).a,Zg (Zp N.vs v).b,Zg (Zp N.vs v).c]) rfl rfl (by simp) ?_;intro V a7 gV aU aV ax;simp;refine ax _ ?_;intro ay V11 ad;clear ax aU aV;have C11:=(Z.blk C9 (by omega)).ext ad;have az:=aw.ext ad;have aa:Mod (fun j=>h1.size<=j/\j<U.size) h9 ay:=Z.trans (ad.mono fun _ _ h=>h.elim);simp [V11.hc,C11.hc];by_cases k4:(Zp N.vs v).c=(t:Int)
 rotate_left
 ·simp [k4,wv,J];refine ⟨⟨v+1,_,_,_,_,_,_,_,_,_,_,_,_,_,_,_,_,_,_,_,rfl,by omega,az.congr (fun j d H hd=>?_),aa⟩,by simp [Zy];omega⟩;simp [Xh4,k4]
 simp [k4,J];refine Zn7 X az (r ay (m9.trans aa)) pk d d (fun k mk=>r k ((m9.trans aa).trans mk)) ?_;intro a8 aW aX;simp [wv];refine ⟨⟨v+1,_,_,_,_,_,_,_,_,_,_,_,_,_,_,_,_,_,_,_,rfl,by omega,aX.congr (fun j d H hd=>?_),aa.trans aW⟩,by simp [Zy];omega⟩;simp [Xh4,k4,Zx9,Bool.or_assoc]
end
def Z9p (N:Zr) (row:Zb) (c:Nat) (a:Nat):Bool:=decide (Zl row (Zp N.as a).a.toNat=(c:Int)) && decide (Zl row (Zp N.as a).b.toNat=(c:Int))
def Z90 (row:Zb) (c:Nat) (v:Nat):Bool:=decide (Zl row v=(c:Int))
def Zi2 (a b:Tab):Bool:=decide (a.i=b.i/\a.o=b.o/\a.cs=b.cs)
def Zqa (N M:Zr) (L:Za) (i k:Nat):Bool :=
 ((List.range N.as.length).any fun a=>Z9p N (Ya L i) k a && decide ((Zp N.as a).c≠(Zp M.as a).c)) ||
 (List.range N.vs.length).any fun v=>Z90 (Ya L i) k v && !Zi2 (Zz N.ts (Zp N.vs v).c.toNat) (Zz M.ts (Zp N.vs v).c.toNat)
theorem Zxd {N:Zr} {l:List Yz} {i:Nat} (h:Q7 N l i=0) {j:Nat} (r:j<i):Vh (Yp l j) (Yp l i)=false:=by
 unfold Q7 at h
 split at h
 ·rename_i q;exact absurd h q
 split at h
 ·cases h
 ·rename_i q
  cases k:Vh (Yp l j) (Yp l i) with
  | false=>rfl
  | true=>exact absurd (Zfx.2 ⟨j,r,k⟩) q
theorem Zx7 {N:Zr} {c:Yz} (h:Ul N c=0) (r:c.kd=1):c.i=0/\c.o=0:=by
 unfold Ul at h;rw [if_pos r] at h
 split at h
 ·cases h
 ·omega
theorem Zzw {N:Zr} (Z:Yl N) {l:List Yz} (hb:∀ i,i<l.length->Q7 N l i=0) {a:Nat} (ha:a<N.as.length):∀ i,i<=l.length ->
  ((∀ j,j<i->(Yp l j).kd=1->(Yp l j).a≠a)->(Zp (Xk N (l.take i)).as a).c=(Zp N.as a).c) /\
  (∀ j,j<i->(Yp l j).kd=1->(Yp l j).a=a->(Zp (Xk N (l.take i)).as a).c=(Yp l j).w):=by
 intro i
 induction i with
 | zero=>intro _;exact ⟨fun _=>rfl,fun j M=>by omega⟩
 | succ i ih =>
  intro hi;obtain ⟨p1,p2⟩:=ih (by omega);have J:i<l.length:=by omega
  have V:=Zb3 (l:=l.take i) Z;have O:∀ x,x∈l.take i->Ul N x=0:=fun x hx=>by
   obtain ⟨k,G,e⟩:=List.mem_iff_getElem.1 (Xin hx);have:=Z7 (hb k G);rwa [show Yp l k=x by simp [Yp,G,e]] at this
  have dm:=Zau (l:=l.take i) Z O;have I:=Z7 (hb i J);have R:Ul (Xk N (l.take i)) (Yp l i)=0:=by rw [dm.one];exact I
  rw [Zcx J];generalize hK:Xk N (l.take i)=K at *
  unfold chN;by_cases G:(Yp l i).kd=1
  ·rw [if_pos G];obtain ⟨a',ea,X,_,_,e⟩:=Zgj R G;rw [e];simp only;rw [Zfl X];by_cases q:a=a'
   ·rw [if_pos q];refine ⟨fun U=>absurd (by rw [ea,q]) (U i (by omega) G),fun j M D H=>?_⟩;by_cases r:j=i
    ·rw [r]
    exfalso;have ks:=Zxd (hb i J) (j:=j) (by omega);have o1:=Zx7 (Z7 (hb j (by omega))) D;have o2:=Zx7 I G;simp only [Vh,decide_eq_false_iff_not] at ks;exact ks ⟨by omega,by omega,by omega,by omega⟩
   rw [if_neg q];refine ⟨fun U=>p1 (fun j M=>U j (by omega)),fun j M D H=>?_⟩;by_cases r:j=i
   ·subst r;exact absurd (by omega) q
   exact p2 j (by omega) D H
  rw [if_neg G];obtain ⟨_,t,A,B,o,_,_,_,lt,_,_,_,_,_,_,e⟩:=Zcq V R G;rw [e];refine ⟨fun U=>p1 (fun j M=>U j (by omega)),fun j M D H=>?_⟩;by_cases r:j=i
  ·subst r;exact absurd D G
  exact p2 j (by omega) D H
def Zuj (N:Zr) (c:Yz):Nat:=(c.i * (Zz N.ts c.a.toNat).o+c.o).toNat
theorem Zh5 {N:Zr} (J:Yl N) {c:Yz} (h:Ul N c=0) (O:c.kd≠1):∃ t A B o:Nat,c.a=t/\c.i=A/\c.o=B/\t<N.ts.length/\(Zz N.ts t).o=o/\B<o/\Zuj N c=A * o+B/\A * o+B<(Zz N.ts t).cs.length/\Yt c.w=true /\
  Zbk N c.a c.i c.o c.w = { N with ts:=N.ts.set t ⟨(Zz N.ts t).i,(Zz N.ts t).o,(Zz N.ts t).cs.set (A * o+B) c.w⟩ }/\atV (Zz N.ts t).i (Zz N.ts t).o (Zz N.ts t).cs c.i c.o=Zl (Zz N.ts t).cs (A * o+B):=by
 obtain ⟨X,t,A,B,o,M,D,G,lt,r,Z,R,U,V,w0,sn⟩:=Zcq J h O;have hp:((A:Int) * (o:Int)+(B:Int)).toNat=A * o+B:=by
  have:(A:Int) * (o:Int)+(B:Int)=((A * o+B:Nat):Int):=by simp
  rw [this];rfl
 refine ⟨t,A,B,o,M,D,G,lt,r,R,?_,U,V,sn,?_⟩
 ·unfold Zuj;rw [M,D,G,Xf1,r];exact hp
 have H:=J.tab t lt;rw [D,G];unfold atV;have s0:(Wl (Zz N.ts t).i (Zz N.ts t).o).2=0:=by
  unfold Z3 Us at H
  split at H
  ·rename_i q;exact absurd H q
  rename_i q;exact Xgq q
 rw [if_neg (by rw [r];rintro (q | q | q | q | q) <;> first | omega | (rw [r] at s0;exact q s0))];have I:(A:Int) * (o:Int)+(B:Int)=((A * o+B:Nat):Int):=by simp
 rw [r,if_pos (by rw [I];omega)];rw [hp]
theorem Z2p {A B A' B' o:Nat} (h:A * o+B=A' * o+B') (D:B<o) (r:B'<o):A=A'/\B=B':=by
 rcases Xh6 A A' with q | q | q
 ·have:=Xgi o (show A+1<=A' by omega);rw [Xgm] at this;omega
 ·subst q;omega
 have:=Xgi o (show A'+1<=A by omega);rw [Xgm] at this;omega
theorem Z39 {l:Zb} {i:Nat} {x:Int} (h:Zl l i=x):l.set i x=l:=by
 apply Xgb
 ·simp
 intro k h1 r;rw [Xg3]
 split
 ·rename_i e;subst e;rw [<-h];simp [Zl,r]
 rfl
theorem Zzx {N:Zr} (R:Yl N) {l:List Yz} (hb:∀ i,i<l.length->Q7 N l i=0) {t:Nat} (ht:t<N.ts.length):∀ i,i<=l.length ->
  ((∀ j,j<i->(Yp l j).kd≠1->(Yp l j).a=t->Zl (Zz N.ts t).cs (Zuj N (Yp l j))=(Yp l j).w)->Zz (Xk N (l.take i)).ts t=Zz N.ts t) /\
  (∀ j,j<i->(Yp l j).kd≠1->(Yp l j).a=t->Zl (Zz (Xk N (l.take i)).ts t).cs (Zuj N (Yp l j))=(Yp l j).w)/\(Zz (Xk N (l.take i)).ts t).cs.length=(Zz N.ts t).cs.length:=by
 intro i
 induction i with
 | zero=>intro _;exact ⟨fun _=>rfl,fun j M=>by omega,rfl⟩
 | succ i ih =>
  intro hi;obtain ⟨Z,p2,p3⟩:=ih (by omega);have J:i<l.length:=by omega
  have aa:=Zb3 (l:=l.take i) R;have U:∀ x,x∈l.take i->Ul N x=0:=fun x hx=>by
   obtain ⟨k,H,e⟩:=List.mem_iff_getElem.1 (Xin hx);have:=Z7 (hb k H);rwa [show Yp l k=x by simp [Yp,H,e]] at this
  have dm:=Zau (l:=l.take i) R U;have I:=Z7 (hb i J);have V:Ul (Xk N (l.take i)) (Yp l i)=0:=by rw [dm.one];exact I
  rw [Zcx J];generalize hK:Xk N (l.take i)=K at *
  unfold chN;by_cases H:(Yp l i).kd=1
  ·rw [if_pos H];obtain ⟨a',ea,ad,_,_,e⟩:=Zgj V H;rw [e];refine ⟨fun O=>Z (fun j M=>O j (by omega)),fun j M D G=>?_,p3⟩;by_cases r:j=i
   ·subst r;exact absurd H D
   exact p2 j (by omega) D G
  rw [if_neg H];obtain ⟨t',A,B,o,ea,ei,eo,lt,ho,lB,hp,lp,_,e,_⟩:=Zh5 aa V H;have X:Zuj N (Yp l i)=A * o+B:=by
   rw [<-hp];unfold Zuj;rw [(dm.tb _).2]
  rw [e];simp only;rw [Zhz lt];by_cases q:t=t'
  ·rw [if_pos q];subst q;refine ⟨fun O=>?_,fun j M D G=>?_,by simpa using p3⟩
   ·have e1:=Z (fun j M=>O j (by omega));have e2:=O i (by omega) H ea;rw [e1,Z39 (by rw [<-X];exact e2)]
   simp only;by_cases r:j=i
   ·subst r;rw [X,Va lp,if_pos rfl]
   have ks:=Zxd (hb i J) (j:=j) (by omega);obtain ⟨t2,A2,B2,o2,ae,af,ag,ah,ai,ab,ac,aj,_,_,_⟩:=Zh5 R (Z7 (hb j (by omega))) D;have:t2=t:=by omega
   subst this;have ak:=(dm.tb t2).2;have oo:o2=o:=by omega
   subst oo;rw [Va lp,if_neg (fun e=>?_)]
   ·exact p2 j (by omega) D G
   rw [ac] at e;obtain ⟨x1,x2⟩:=Z2p e ab lB;simp only [Vh,decide_eq_false_iff_not] at ks;have k1:(Yp l j).kd=2:=(Zcq R (Z7 (hb j (by omega))) D).1;have k2:(Yp l i).kd=2:=(Zcq R I H).1;exact ks ⟨by omega,by omega,by omega,by omega⟩
  rw [if_neg q];refine ⟨fun O=>Z (fun j M=>O j (by omega)),fun j M D G=>?_,p3⟩;by_cases r:j=i
  ·subst r;exact absurd (by omega) q
  exact p2 j (by omega) D G
theorem Z5h {l:List Yz} {c:Yz} (h:c∈l):∃ j,j<l.length/\Yp l j=c:=by
 obtain ⟨k,r,e⟩:=List.mem_iff_getElem.1 h;exact ⟨k,r,by simp [Yp,r,e]⟩
theorem Ztg {l:List Yz} {j:Nat} (h:j<l.length):Yp l j∈l:=by
 rw [show Yp l j=l[j] by simp [Yp,h]];exact Xgf h
theorem Z5f {N:Zr} (R:Yl N) {l:List Yz} (hz:(Wj N l).2=0) {L:Za} {i k:Nat}:Zac N L l i k=Zqa N (Xk N l) L i k:=by
 obtain ⟨_,hb⟩:=Ze3 hz;have G:=fun {a:Nat} (X:a<N.as.length)=>Zzw R hb X l.length (Xfy _);have I:=fun {t:Nat} (ht:t<N.ts.length)=>Zzx R hb ht l.length (Xfy _);rw [Xhf] at G I;rw [Xhz];unfold Zac Zqa;simp only [Xiy,Xi0,Xf4,Xix,Z9p,Z90,decide_eq_true_eq];constructor
 ·rintro ⟨c,hc,ht⟩;obtain ⟨j,H,rfl⟩:=Z5h hc;have U:=Z7 (hb j H);unfold Zc0 at ht;by_cases r:(Yp l j).kd=1
  ·rw [if_pos r] at ht;simp only [Xf4,decide_eq_true_eq] at ht;obtain ⟨h1,O,J⟩:=ht;obtain ⟨a,D,la,_⟩:=Zgj U r;rw [D,Xf1] at h1 O J;refine .inl ⟨a,la,⟨O,J⟩,?_⟩;rw [(G la).2 j H r D];exact h1
  rw [if_neg r] at ht;simp only [Xf4,decide_eq_true_eq,Xiy,Xix] at ht;obtain ⟨h1,v,hv,O,J⟩:=ht;obtain ⟨t,A,B,o,D,ei,eo,lt,ho,lB,hp,lp,_,_,M⟩:=Zh5 R U r;rw [D,Xf1,M] at h1;refine .inr ⟨v,hv,J,?_⟩;rw [O,D,Xf1];simp only [Xhg,Zi2,decide_eq_false_iff_not];rintro ⟨_,_,e⟩;have:=(I lt).2.1 j H r D;rw [<-e,hp] at this;exact h1 this
 rintro (⟨a,X,⟨O,J⟩,h1⟩ | ⟨v,hv,J,h1⟩)
 ·by_cases q:∃ j,j<l.length/\(Yp l j).kd=1/\(Yp l j).a=a
  ·obtain ⟨j,H,r,D⟩:=q;refine ⟨Yp l j,Ztg H,?_⟩;unfold Zc0;rw [if_pos r,D,Xf1];simp only [Xf4,decide_eq_true_eq];refine ⟨?_,O,J⟩;rw [<-(G X).2 j H r D];exact h1
  exact absurd ((G X).1 (fun j H r D=>q ⟨j,H,r,D⟩)).symm h1
 have Z:=R.vt v hv;simp only [Yf,decide_eq_true_eq] at Z;have ht:(Zp N.vs v).c.toNat<N.ts.length:=by omega
 by_cases q:∃ j,j<l.length/\(Yp l j).kd≠1/\(Yp l j).a=(Zp N.vs v).c.toNat/\Zl (Zz N.ts (Zp N.vs v).c.toNat).cs (Zuj N (Yp l j))≠(Yp l j).w
 ·obtain ⟨j,H,r,aa,V⟩:=q;refine ⟨Yp l j,Ztg H,?_⟩;obtain ⟨t,A,B,o,D,ei,eo,lt,ho,lB,hp,lp,_,_,M⟩:=Zh5 R (Z7 (hb j H)) r;unfold Zc0;rw [if_neg r];simp only [Xf4,decide_eq_true_eq,Xiy,Xix];have tt:(Zp N.vs v).c.toNat=t:=by omega
  rw [tt,hp] at V;refine ⟨?_,v,hv,by omega,J⟩;rw [D,Xf1,M];exact V
 have e:=(I ht).1 (fun j H r D=>Xgq fun hn=>q ⟨j,H,r,D,hn⟩);rw [e] at h1;simp [Zi2] at h1
end Go.Rm
