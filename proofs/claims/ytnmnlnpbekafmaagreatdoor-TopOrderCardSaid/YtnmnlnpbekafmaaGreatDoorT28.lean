import Derived.Test.YtnmnlnpbekafmaaGreatDoorT26
import Derived.Test.YtnmnlnpbekafmaaGreatDoorT27
/- Parts. -/
set_option linter.unusedSimpArgs false
set_option linter.unusedVariables false
namespace Go.Rm
section
variable {Y:Sys} {h h':Zk}
theorem Zd9 (O:Zdz Y) {op:Nat} {N:Zq} {L:Za} (v:Uz h op N L) {R:Ze} (r:R (Zg L.length) h):Zv Y 316 [Zh op] h R:=by
 obtain ⟨q,f,t,g,H,z,B,D,I,_,_⟩:=v;refine .of_has O.Levels rfl ?_;have G:=D.len;rw [G] at r;simp [Y316,Xn.wp,B.hc];exact r
theorem Q8 (O:Zdz Y) {op:Nat} {N:Zq} {L:Za} (v:Uz h op N L) {i:Nat} (M:i<L.length) (hb:L.length<=1000) {R:Ze} (G:R (Zg (Yh L i)) h):Zv Y 317 [Zh op,Zg ((i:Int)+1)] h R:=by
 obtain ⟨q,f,t,g,U,z,B,V,r,_,_⟩:=v;refine .of_has O.Cells rfl ?_;have lg:=r.len;obtain ⟨u,hu,H⟩:=Zgz r (i:=i) (by omega);have hu:=hu h (Mod.refl _);have X:IntKind.i64.wrap ((i:Int)+1-1)=(i:Int):=by rw [Zo (by omega)];omega
 have w0:IntKind.i64.wrap (i:Int)=(i:Int):=Zo (by omega);have c1:¬ (i:Int)+1<1:=by omega
 have I:¬ (g.n:Int)<(i:Int)+1:=by omega
 have J:(i:Int)<g.n:=by omega
 have D:=H.len;simp [Y317,Xn.wp,B.hc,c1,I,w0,Zm r.ok,J,hu,D];exact G
theorem Zfr (O:Zdz Y) {op:Nat} {N:Zq} {L:Za} (v:Uz h op N L) (r:L.length<=1000) (D:∀ i,i<L.length->(Zz L i).length<=1000000) {R:Ze}
  (X:∀ h' H,Ext h h'->(∀ k,Mod (fun j=>j<h.size) h' k->Qw k H L)->R (U5 H) h'):Zv Y 318 [Zh op] h R:=by
 obtain ⟨q,f,t,g,st,z,B,M,rg,_,_⟩:=v;refine .of_has O.Part rfl ?_;simp [Y318,Xn.wp];refine Zn ?_;intro C h1 g1 C1 I;have C1:Xa h1 C #[Zi]:=C1;have B1:=B.ext I;have J:rd h1 op 0 1=some [q.v]:=Zad (l:=[q.v]) fun i v G=>by
  rw [B1.hc]
  match i,G with
  | 0,G=>simpa using G
  | i+1,G=>simp at G
 simp [J];rw [show (Value.agg #[q.v])=U5 q from rfl];refine Zna O.T (M.ext I) (by rw [<-M.len];exact r) D ?_;intro h2 H e2 Z;have lC:=C1.lt;simp [U5];refine Zr (C1.ext e2) rfl rfl (by simp) ?_;intro h3 C3 U;simp;refine Xc rfl C3 rfl ?_;exact X h3 H (Mod.ext (I.trans e2) U (fun j V=>by omega)) (fun k mk=>Z k ((U.mono fun j _ V=>by omega).trans (mk.mono fun j _ V=>by omega)))
structure Z0p (Y:Sys):Prop where
 O:Zdz Y
 Made:Y.Has 307 Y307
 MF:Zws Y
 CT:Z1a Y
theorem Zrp (X:Z0p Y) {G H I s:Sl} {N:Zq} {L:Za} (r:Ul h G H I N) (q:Qw h s L) (hf:Zfk N=true) (U:Ym N) (J:Xf N.vs.length L) {R:Ze}
  (hr:∀ h' op,Ext h h'->h.size<=op->(∀ k,Mod (fun j=>j<h.size) h' k->Uz k op N L)->R (Zh op) h'):Zv Y 307 [Yx G H I,U5 s] h R:=by
 refine .of_has X.Made rfl ?_;have lL:=q.len;have bL:=J.bL;have bN:=J.bn;have D:∀ i,i<L.length->(Zz L i).length<=1000000:=fun i hi=>by
  have:=(Xx J hi).1;omega
 simp [Y307,Xn.wp,Yx,U5];refine Zn ?_;intro A h1 g1 A1 V;simp;refine Zn ?_;intro B h2 g2 B2 e2;have Z:=V.trans e2;have z1:=V.size;have z2:=e2.size;simp [Yj (A1.ext e2)];rw [show (Value.agg #[G.v,H.v,I.v])=Yx G H I from rfl];refine Zmn X.MF (r.ext Z) hf U ?_;intro h3 p S e3 g hS;have x3:=Z.trans e3;have B3:=B2.ext e3;simp [Yj B3];rw [show (Value.agg #[s.v])=U5 s from rfl];refine Zqi X.CT (q.ext x3) (by omega) D ?_;intro h4 s' M q4 _;have x4:=x3.trans M;have z3:=e3.size;have z4:=M.size;simp;refine Zn4 X.O (g.ext M) q4 U J ?_;intro h5 op e5 aa fo;simp;exact hr h5 op (x4.trans e5) (by omega) (fun k mk=>fo k (mk.mono fun j _ hj=>by omega))
end
def Zfj (L:Za) (T:Nat->Nat->Bool) (i:Nat):List Bool:=(List.range (Yh L i)).map (T i)
structure U3 (lo up:Nat) (h:Zk) (tb:Nat) (L:Za) (bt:Nat->Nat) (T:Nat->Nat->Bool):Prop where
 own:Yl h 1 (Sl.at tb L.length L.length) (Zfo L.length fun i=>Sl.at (bt i) (Yh L i) (Yh L i))
 row:∀ i,i<L.length->Yl h 1 (Sl.at (bt i) (Yh L i) (Yh L i)) (Vl (Zfj L T i))
 ft:lo<=tb/\tb<up
 fr:∀ i,i<L.length->lo<=bt i/\bt i<up/\bt i≠tb
 dj:∀ i j,i<L.length->j<L.length->i≠j->bt i≠bt j
def Zwo (L:Za) (T:Nat->Nat->Bool) (a b:Nat):Nat->Nat->Bool:=fun i c=>T i c || decide (Zl (Zz L i) a=(c:Int)/\Zl (Zz L i) b=(c:Int))
section
variable {Y:Sys} {h h':Zk} {lo up tb:Nat} {L:Za} {bt:Nat->Nat} {T:Nat->Nat->Bool}
theorem U3.mod {S:Zf} (t:U3 lo up h tb L bt T) (m:Mod S h h') (hs:∀ j,S j->j<lo\/up<=j):U3 lo up h' tb L bt T :=
 {t with
  own:=t.own.mod m (fun _ hb=>by have:=hs _ hb;have:=t.ft;simp at *;omega)
  row:=fun i r=>(t.row i r).mod m (fun _ hb=>by have:=hs _ hb;have:=(t.fr i r);simp at *;omega) }
theorem U3.ext (t:U3 lo up h tb L bt T) (m:Ext h h'):U3 lo up h' tb L bt T:=t.mod m fun _ h=>h.elim
theorem U3.congr {T':Nat->Nat->Bool} (t:U3 lo up h tb L bt T) (e:∀ i c,i<L.length->c<Yh L i->T i c=T' i c):U3 lo up h tb L bt T' :=
 {t with
  row:=fun i r=>by
   have:Zfj L T' i=Zfj L T i:=by
    apply Xf6;intro c hc;exact (e i c r (by simpa using hc)).symm
   rw [this];exact t.row i r }
theorem U3.set {K:Ze} (t:U3 lo up h tb L bt T) {i c:Nat} (D:i<L.length) (hc:c<Yh L i)
  (H:∀ h',U3 lo up h' tb L bt (fun j d=>T j d || decide (j=i/\d=c))->Mod (fun j=>lo<=j/\j<up) h h'->K undef h'):Xo h (bt i) c (.bool true) K:=by
 refine Zlt (t.row i D) (k:=c) (by rw [Zf5];simpa [Zfj] using hc) ?_;intro h' o m;refine H h' ?_ (m.mono fun j _ G=>by have:=t.fr i D;omega);refine ⟨t.own.mod m (fun _ hb=>by have:=(t.fr i D).2.2;simp at hb;omega),fun j G=>?_,t.ft,t.fr,t.dj⟩;by_cases e:j=i
 ·subst e;have:(Vl (Zfj L T j)).set c (.bool true)=Vl (Zfj L (fun r d=>T r d || decide (r=j/\d=c)) j):=by
   apply Xew
   ·simp [Vl,Zfj]
   intro k h1 I;simp [Vl,Zfj] at h1;rw [Xfm];simp only [Vl,Zfj,Xe7,Xgh,true_and];by_cases q:c=k
   ·subst q;simp
   have:¬ k=c:=fun e=>q e.symm;simp [q,this]
  rw [this] at o;exact o
 have:=(t.row j G).mod m (fun _ hb=>t.dj j i G D e hb);have e2:Zfj L (fun r d=>T r d || decide (r=i/\d=c)) j=Zfj L T j:=by
  apply Xf6;intro d _;simp [e]
 rw [e2];exact this
structure Zk6 (Y:Sys):Prop where
 A:Zwv Y
 O:Zdz Y
 Touched:Y.Has 308 Y308
 mark:Y.Has 319 Y319
 Wt:Y.Has 233 Y233
def MkI (tb:Nat) (u:Sl) (L:Za) (bt:Nat->Nat) (T:Nat->Nat->Bool) (a b lo up:Nat) (h0:Zk) (e:Zc) (h':Zk):Prop :=
 ∃ (i:Nat) (v4 v5 v6 v10 v11 v12:Value),e=[.slice (some ⟨tb,0,none⟩) L.length L.length,u.v,Zg a,Zg b,v4,v5,v6,u.v,Zg u.n,Zg i,v10,v11,v12]/\i<=L.length/\U3 lo up h' tb L bt (fun j c=>T j c || decide (j<i/\Zl (Zz L j) a=(c:Int)/\Zl (Zz L j) b=(c:Int)))/\Mod (fun j=>lo<=j/\j<up) h0 h'
theorem Zm5 (X:Zk6 Y) {u:Sl} {N:Zq} {a b:Nat} (td:U3 lo up h tb L bt T) (ru:Qw h u L) (J:Xf N.vs.length L) (Z:a<N.vs.length) (hb:b<N.vs.length)
  (D:∀ h',Mod (fun j=>lo<=j/\j<up) h h'->Qw h' u L) {R:Ze}
  (hr:∀ h',Mod (fun j=>lo<=j/\j<up) h h'->U3 lo up h' tb L bt (Zwo L T a b)->R (.tuple #[]) h') :
  Zv Y 319 [.slice (some ⟨tb,0,none⟩) L.length L.length,u.v,Zg a,Zg b] h R:=by
 have lL:=ru.len;have bL:=J.bL;refine .of_has X.mark rfl ?_;simp [Y319,Xn.wp];refine Zs (MkI tb u L bt T a b lo up h) (fun e _=>L.length-Zy e 9) ⟨0,_,_,_,_,_,_,rfl,by omega,td.congr (fun i c _ _=>by simp),Mod.refl _⟩ ?_;rintro e h1 ⟨i,v4,v5,v6,aa,ab,ac,rfl,hi,M,O⟩;by_cases c:i<L.length;rotate_left
 ·have c':¬ (i:Int)<u.n:=by omega
  obtain rfl:i=L.length:=by omega
  simp [c'];refine hr h1 O (M.congr (fun j d U hd=>?_));simp [Zwo,U]
 have c':(i:Int)<u.n:=by omega
 have c2:(i:Int)<L.length:=by omega
 have c3:¬ (L.length:Int)<=i:=by omega
 have w1:=Zj (i:=i) (by omega);have G:=D h1 O;obtain ⟨w,hw,r⟩:=G.val i c;have lw:=r.len;obtain ⟨y1,y2,_,_⟩:=Us (J.lv i c);have ya:=y2 a Z;have yb:=y2 b hb;have a1:(a:Int)<w.n:=by omega
 have a2:¬ (w.n:Int)<=a:=by omega
 have b1:(b:Int)<w.n:=by omega
 have b2:¬ (w.n:Int)<=b:=by omega
 have va:=r.val a (by omega);have vb:=r.val b (by omega);obtain ⟨x,hx⟩:∃ x:Nat,Zl (Zz L i) a=x:=⟨(Zl (Zz L i) a).toNat,by omega⟩
 rw [hx] at va;have a3:¬ L.length<=i:=by omega
 simp [c',Zm G.ok,hw,c3,a1,a2,b1,b2,Zm r.ok,va,vb];by_cases k:Zl (Zz L i) b=x;rotate_left
 ·have k':¬ (x:Int)=Zl (Zz L i) b:=fun e=>k e.symm;simp [k',w1];refine ⟨⟨i+1,_,_,_,_,_,_,rfl,by omega,M.congr (fun j d U hd=>?_),O⟩,by simp [Zy];omega⟩;by_cases e:j<i
  ·simp [e,show j<i+1 by omega]
  by_cases e2:j=i
  ·subst e2;have:¬ ((x:Int)=(d:Int)/\Zl (Zz L j) b=(d:Int)):=fun q=>k (by omega);simp [hx,this]
  have:¬ j<i+1:=by omega
  simp [e,this]
 have xg:x<Yh L i:=by
  obtain ⟨_,_,_,hv⟩:=Xx J c;obtain ⟨z,hz,ad⟩:=hv a Z;omega
 have ct:=M.own.cell (Zdb c);simp at ct;have H:=Vu (Y:=Y) (h:=h1) (b:=tb) (sz:=1) (show L.length<=9223372036854775807 by omega) c (Xel _);have gb:=(Xx J c).2.2.1;have I:=Vu (Y:=Y) (h:=h1) (b:=bt i) (sz:=1) (show Yh L i<=9223372036854775807 by omega) xg (Xel _);simp at H I;have V:(x:Int)<Yh L i:=by omega
 simp [k,H,ct,V,I];refine M.set c xg ?_;intro h2 t2 m2;simp [w1];refine ⟨⟨i+1,_,_,_,_,_,_,rfl,by omega,t2.congr (fun j d U hd=>?_),O.trans m2⟩,by simp [Zy];omega⟩;by_cases e:j<i
 ·simp [e,show j<i+1 by omega,show ¬ j=i by omega]
 by_cases e2:j=i
 ·subst e2;simp only [Nat.lt_irrefl,false_and,decide_false,Bool.or_false,true_and,Xg9,hx,k]
  congr 1
  rw [decide_eq_decide];omega
 have:¬ j<i+1:=by omega
 simp [e,e2,this]
end
def Zcp (N:Zq) (L:Za) (c:Yt) (i k:Nat):Bool :=
 if c.kd=1 then decide ((Zp N.as c.a.toNat).c≠c.w) && decide (Zl (Zz L i) (Zp N.as c.a.toNat).a.toNat=(k:Int)/\Zl (Zz L i) (Zp N.as c.a.toNat).b.toNat=(k:Int))
 else decide (atV (Zx N.ts c.a.toNat).i (Zx N.ts c.a.toNat).o (Zx N.ts c.a.toNat).cs c.i c.o≠c.w) && (List.range N.vs.length).any fun v=>decide ((Zp N.vs v).c=c.a) && decide (Zl (Zz L i) v=(k:Int))
def Q3 (N:Zq) (L:Za) (l:List Yt) (i k:Nat):Bool:=l.any fun c=>Zcp N L c i k
theorem Zr8 {N:Zq} {L:Za} {l:List Yt} {i j k:Nat} (r:i<l.length):Q3 N L (l.take (i+1)) j k=(Q3 N L (l.take i) j k || Zcp N L (Yn l i) j k):=by
 unfold Q3;rw [Xey r,List.any_append];simp [Yn,r]
def Za9 (L:Za) (bt:Nat->Nat) (i:Nat):Zc:=(List.range L.length).map fun k=>if k<i then (Sl.at (bt k) (Yh L k) (Yh L k)).v else Zi
structure Znp (lo:Nat) (h:Zk) (tb:Nat) (L:Za) (bt:Nat->Nat) (i:Nat):Prop where
 own:Yl h 1 (Sl.at tb L.length L.length) (Za9 L bt i)
 row:∀ k,k<i->Yl h 1 (Sl.at (bt k) (Yh L k) (Yh L k)) (Vl (Zfj L (fun _ _=>false) k))
 ft:lo<=tb/\tb<h.size
 fr:∀ k,k<i->lo<=bt k/\bt k<h.size/\bt k≠tb
 dj:∀ j k,j<i->k<i->j≠k->bt j≠bt k
theorem Z1s {L:Za} {i:Nat}:Vl (Zfj L (fun _ _=>false) i)=List.replicate (Yh L i) (.bool false):=by
 apply Xew
 ·simp [Vl,Zfj]
 intro k h1 r;simp [Vl,Zfj]
section
variable {Y:Sys} {h h':Zk} {lo up tb:Nat} {L:Za} {bt:Nat->Nat}
theorem Znp.step {i b:Nat} {h1:Zk} {K:Ze} (t:Znp lo h tb L bt i) (M:i<L.length) (U:h.size<=b) (o:Yl h1 1 (Sl.at b (Yh L i) (Yh L i)) (List.replicate (Yh L i) (.bool false))) (e:Ext h h1) (V:b<h1.size) (O:lo<=h.size)
  (G:∀ D,Znp lo D tb L (fun k=>if k=i then b else bt k) (i+1)->Mod (fun j=>j=tb) h1 D->K undef D):Xo h1 tb i (Sl.at b (Yh L i) (Yh L i)).v K:=by
 have R:=t.own.mod e (fun _ h=>h);refine Zlt R (k:=i) (by simpa [Za9] using M) ?_;intro D o2 H;have X:=e.size;have Z:=H.size;have ft:=t.ft;refine G D ⟨?_,fun k G=>?_,by omega,fun k G=>?_,fun j k hj G I=>?_⟩ H
 ·have:(Za9 L bt i).set i (Sl.at b (Yh L i) (Yh L i)).v=Za9 L (fun k=>if k=i then b else bt k) (i+1):=by
   apply Xew
   ·simp [Za9]
   intro k h1 D;simp [Za9] at h1;rw [Xfm];by_cases q:i=k
   ·subst q;simp [Za9]
   simp only [Za9,Xe7,Xgh,q,if_false];have q':¬ k=i:=fun e=>q e.symm;by_cases r:k<i
   ·simp [r,q',show k<i+1 by omega]
   simp [r,show ¬ k<i+1 by omega]
  rw [this] at o2;exact o2
 ·by_cases q:k=i
  ·subst q;simp only [if_true];rw [Z1s];exact o.mod H (fun _ hb=>by simp at hb;omega)
  simp only [q,if_false];have J:=t.fr k (by omega);exact ((t.row k (by omega)).mod e (fun _ h=>h)).mod H (fun _ hb=>by simp at hb;omega)
 ·by_cases q:k=i
  ·subst q;simp only [if_true];omega
  simp only [q,if_false];have J:=t.fr k (by omega);omega
 by_cases q:j=i
 ·by_cases r:k=i
  ·omega
  have J:=t.fr k (by omega);simp only [q,r,if_true,if_false];omega
 have fj:=t.fr j (by omega);by_cases r:k=i
 ·simp only [q,r,if_true,if_false];omega
 simp only [q,r,if_false];exact t.dj j k (by omega) (by omega) I
theorem Znp.told (t:Znp lo h tb L bt L.length):U3 lo h.size h tb L bt (fun _ _=>false):=by
 refine ⟨?_,t.row,t.ft,t.fr,t.dj⟩;have:Za9 L bt L.length=Zfo L.length fun i=>Sl.at (bt i) (Yh L i) (Yh L i):=by
  apply Xf6;intro k r;have r:k<L.length:=by simpa using r
  simp [r]
 rw [<-this];exact t.own
def Xcp (p op tb:Nat) (s:Sl) (L:Za) (h0:Zk) (e:Zc) (h':Zk):Prop :=
 ∃ (i:Nat) (bt:Nat->Nat) (v3 v4 v5 v7 v8 v9 v10 v11 v12 v13 v16 v17 v18 v19 v20 v21 v22 v23 v24 v25 v26 v27 v28 v29 v30 v31:Value),e=[Zh p,Zh op,s.v,v3,v4,v5,.slice (some ⟨tb,0,none⟩) L.length L.length,v7,v8,v9,v10,v11,v12,v13,Zg L.length,Zg i,v16,v17,v18,v19,v20,v21,v22,v23,v24,v25,v26,v27,v28,v29,v30,v31]/\i<=L.length/\Znp h0.size h' tb L bt i/\Ext h0 h'
def Xc9 (p op tb B:Nat) (v8:Value) (s:Sl) (N:Zq) (L:Za) (l:List Yt) (bt:Nat->Nat) (lo up:Nat) (h0:Zk) (e:Zc) (h':Zk):Prop :=
 ∃ (i:Nat) (v3 v4 v5 v7 v10 v11 v12 v13 v14 v15 v16 v17 v21 v22 v23 v24 v25 v26 v27 v28 v29 v30 v31:Value),e=[Zh p,Zh op,s.v,v3,v4,v5,.slice (some ⟨tb,0,none⟩) L.length L.length,v7,v8,Zh B,v10,v11,v12,v13,v14,v15,v16,v17,s.v,Zg s.n,Zg i,v21,v22,v23,v24,v25,v26,v27,v28,v29,v30,v31]/\i<=l.length/\U3 lo up h' tb L bt (Q3 N L (l.take i))/\Mod (fun j=>lo<=j/\j<up) h0 h'
def Xdz (p op tb B C i:Nat) (v8:Value) (s sv:Sl) (N:Zq) (L:Za) (a:Int) (T:Nat->Nat->Bool) (bt:Nat->Nat) (lo up:Nat) (h0:Zk) (e:Zc) (h':Zk):Prop :=
 ∃ (v:Nat) (v3 v4 v5 v7 v11 v12 v13 v14 v15 v16 v17 v21 v22 v23 v24 v25 v26 v30 v31:Value),e=[Zh p,Zh op,s.v,v3,v4,v5,.slice (some ⟨tb,0,none⟩) L.length L.length,v7,v8,Zh B,Zh C,v11,v12,v13,v14,v15,v16,v17,s.v,Zg s.n,Zg i,v21,v22,v23,v24,v25,v26,sv.v,Zg sv.n,Zg v,v30,v31]/\v<=N.vs.length/\U3 lo up h' tb L bt (fun j k=>T j k || (List.range v).any fun x=>decide ((Zp N.vs x).c=a) && decide (Zl (Zz L j) x=(k:Int)))/\Mod (fun j=>lo<=j/\j<up) h0 h'
set_option maxHeartbeats 2000000 in
theorem Zp0 (X:Zk6 Y) {p op:Nat} {N M:Zq} {S:Zf} {s:Sl} {l:List Yt} (g:Xg h p N S) (ok:Ym N) (ov:Uz h op M L) (pk:Xf N.vs.length L) (q:U9 h s l) {R:Ze}
  (ad:∀ h' v,(Xj N l).2≠0->Ext h h'->X6 Y h.size h' (Xj N l) v->R (.tuple #[Zi,v]) h')
  (hr:∀ h' up tb bt,(Xj N l).2=0->Ext h h'->U3 h.size up h' tb L bt (Q3 N L l)->R (.tuple #[.slice (some ⟨tb,0,none⟩) L.length L.length,.nilIface]) h') :
  Zv Y 308 [Zh p,Zh op,s.v] h R:=by
 have ll:=q.len;have bL:=pk.bL;have bn:=pk.bn;have D:=X.A;refine .of_has X.Touched rfl ?_;simp [Y308,Xn.wp];refine Zij D.C g ok q ?_;intro h1 v e1 fv;by_cases c0:(Xj N l).2=0;rotate_left
 ·obtain ⟨t,u,hv⟩:=fv.here.iface c0;subst hv;simp;exact ad h1 _ c0 e1 fv
 have hv:=Err.nil fv.here c0;subst hv;obtain ⟨hl,hb⟩:=Zda c0;have z1:=e1.size;simp;refine Zd9 X.O (ov.ext e1) ?_;simp;refine Znr (n:=L.length) (by omega) rfl ?_;intro tb h2 aX o2 e2 aY;simp;refine Zs (Xcp p op tb s L h1) (fun e _=>L.length-Zy e 15) ⟨0,fun _=>0,_,_,_,_,_,_,_,_,_,_,_,_,_,_,_,_,_,_,_,_,_,_,_,_,_,_,rfl,by omega,⟨?_,fun k hk=>by omega,by omega,fun k hk=>by omega,fun j k H=>by omega⟩,e2⟩ ?_
 ·have:Za9 L (fun _=>0) 0=List.replicate L.length (Zi):=by
   apply Xew
   ·simp [Za9]
   intro k h1 h2;simp [Za9]
  rw [this];exact o2
 rintro e U ⟨i,bt,v3,v4,v5,v7,v8,v9,az,ae,af,ag,ah,ai,aZ,a0,a1,aj,ak,al,am,an,ao,aA,aB,aC,ap,aq,rfl,hi,tp,e3⟩;have z3:=e3.size;have x3:=e1.trans e3;by_cases c:i<L.length
 ·have c':(i:Int)<L.length:=by omega
  have w1:=Zj (i:=i) (by omega);simp [c',w1];refine Q8 X.O (ov.ext x3) c (by omega) ?_;have gb:=(Xx pk c).2.2.1;simp;refine Zkp (n:=Yh L i) (by omega) rfl ?_;intro b h4 aD o4 e4 aE;have ar:=Vu (Y:=Y) (h:=h4) (b:=tb) (sz:=1) (show L.length<=9223372036854775807 by omega) c (Xel _);simp at ar;simp [ar];rw [show Value.slice (some ⟨b,0,none⟩) (Yh L i) (Yh L i)=(Sl.at b (Yh L i) (Yh L i)).v from rfl];refine tp.step c aD o4 e4 aE (by omega) ?_;intro h5 aF m5;simp [w1];refine ⟨⟨i+1,_,_,_,_,_,_,_,_,_,_,_,_,_,_,_,_,_,_,_,_,_,_,_,_,_,_,_,rfl,by omega,aF,?_⟩,by simp [Zy];omega⟩;exact Mod.ext (e3.trans e4) m5 (fun j H=>by omega)
 have c':¬ (i:Int)<L.length:=by omega
 obtain rfl:i=L.length:=by omega
 have td:=tp.told;have a2:=tp.ft;simp [c'];by_cases c1:s.n=0
 ·have aG:l=[]:=Xfb (by omega);subst aG;simp [c1];refine hr U U.size tb bt c0 x3 ?_;exact ⟨td.own,td.row,⟨by omega,by omega⟩,fun i hi=>by have:=td.fr i hi;omega,td.dj⟩
 simp [c1];have au:∀ i,i<L.length->(Zz L i).length<=1000000:=fun i hi=>by
  have:=(Xx pk hi).1;omega
 refine Zfr X.O (ov.ext x3) (by omega) au ?_;intro h4 u e4 fu;have z4:=e4.size;have x4:=x3.trans e4;simp [U5];refine Zhl D.C.Net D.C.Cl (g.ext x4) ok.small ?_;intro h5 s1 s2 s3 e5 fn;have z5:=e5.size;have x5:=x4.trans e5;simp [Yx];refine Xd (vs:=#[s1.v,s2.v,s3.v]) rfl rfl (by simp) ?_;intro B a3 gB aH aI stB;simp;refine stB _ ?_;intro h6 B6 e6;clear stB aH aI;have z6:=e6.size;have x6:=x5.trans e6;simp;refine Zs (Xc9 p op tb B u.v s N L l bt h1.size U.size h6) (fun e _=>l.length-Zy e 20) ⟨0,_,_,_,_,_,_,_,_,_,_,_,_,_,_,_,_,_,_,_,_,_,_,_,rfl,by omega,?_,Mod.refl _⟩ ?_
 ·refine U3.congr (((td.ext e4).ext e5).ext e6) ?_;intro i c _ _;simp [Q3]
 rintro e h7 ⟨i,v3,v4,v5,v7,az,ae,af,ag,aJ,aK,ah,ai,aj,ak,al,am,an,ao,aA,aB,aC,ap,aq,rfl,hi,t7,m7⟩;have z7:=m7.size;have x7:Ext h h7:=Mod.ext x6 m7 (fun j H=>by omega);by_cases c:i<l.length;rotate_left
 ·have c':¬ (i:Int)<s.n:=by omega
  obtain rfl:i=l.length:=by omega
  rw [Xf0] at t7;simp [c'];refine hr h7 U.size tb bt c0 x7 ?_;exact ⟨t7.own,t7.row,⟨by omega,t7.ft.2⟩,fun i hi=>by have:=t7.fr i hi;omega,t7.dj⟩
 have c':(i:Int)<s.n:=by omega
 have w1:=Zj (i:=i) (by omega);have rc:=(q.ext' x7).val i c;have one:Ww N (Yn l i)=0:=Z5 (hb i c);have I:∀ j k,Q3 N L (l.take (i+1)) j k=(Q3 N L (l.take i) j k || Zcp N L (Yn l i) j k):=fun j k=>Zr8 c;generalize Yn l i=cc at rc one I;obtain ⟨kd,a,ii,o,w⟩:=cc;simp only at rc;simp [c',Zm q.ok,rc];refine Xd (vs:=#[Zg kd,Zg a,Zg ii,Zg o,Zg w]) rfl rfl (by simp) ?_;intro C a4 gC aL aM stC;simp;refine stC _ ?_;intro h8 C8 e8;clear stC aL aM;have x8:=x7.trans e8;have t8:=t7.ext e8;have m8:Mod (fun j=>h1.size<=j/\j<U.size) h6 h8:=m7.trans (e8.mono fun _ _ h=>h.elim);have r:∀ k,Mod (fun j=>h1.size<=j/\j<U.size) h8 k->Qw k u L:=fun k mk=>by
  refine fu k ?_;refine (((e5.trans e6).mono fun _ _ h=>h.elim).trans (m8.mono fun j _ H=>?_)).trans (mk.mono fun j _ H=>?_) <;> omega
 simp [C8.hc];by_cases k1:kd=1
 ·obtain ⟨a',J,aN,hw,w0,sn⟩:=W8 one k1;simp only at J;have va:Ye N.as.length a=true:=by simp [Ye];omega
  have aO:Yc N a=(Zp N.as a').c:=by unfold Yc;rw [if_pos va,J];rfl
  have aP:Zc5 N a=(Zp N.as a').a:=by unfold Zc5;rw [if_pos va,J];rfl
  have aQ:toV N a=(Zp N.as a').b:=by unfold toV;rw [if_pos va,J];rfl
  simp [k1];refine Q7 X.Wt D.GS.arc (g.ext x8) ?_;rw [aO];simp [C8.hc];have h1t:∀ j k,Zcp N L ⟨kd,a,ii,o,w⟩ j k=(decide ((Zp N.as a').c≠w) && decide (Zl (Zz L j) (Zp N.as a').a.toNat=(k:Int)/\Zl (Zz L j) (Zp N.as a').b.toNat=(k:Int))):=fun j k=>by
   simp [Zcp,k1,J]
  by_cases k2:(Zp N.as a').c=w
  ·simp [k2,w1];refine ⟨⟨i+1,_,_,_,_,_,_,_,_,_,_,_,_,_,_,_,_,_,_,_,_,_,_,_,rfl,by omega,t8.congr (fun j d H hd=>?_),m8⟩,by simp [Zy];omega⟩;rw [I,h1t];simp [k2]
  simp [k2];refine Zb4 X.O.From D.GS.arc (g.ext x8) ?_;rw [aP];simp [C8.hc];refine Za2 X.O.GO.R.G.To D.GS.arc (g.ext x8) ?_;rw [aQ];obtain ⟨y1,y2⟩:=ok.arcs a' aN;simp only [Ye,decide_eq_true_eq] at y1 y2;obtain ⟨x,hx⟩:∃ x:Nat,(Zp N.as a').a=x:=⟨(Zp N.as a').a.toNat,by omega⟩
  obtain ⟨y,hy⟩:∃ y:Nat,(Zp N.as a').b=y:=⟨(Zp N.as a').b.toNat,by omega⟩
  simp [hx,hy];refine Zm5 X t8 (r h8 (Mod.refl _)) pk (by omega) (by omega) r ?_;intro h9 m9 t9;simp [w1];refine ⟨⟨i+1,_,_,_,_,_,_,_,_,_,_,_,_,_,_,_,_,_,_,_,_,_,_,_,rfl,by omega,t9.congr (fun j d H hd=>?_),m8.trans m9⟩,by simp [Zy];omega⟩;rw [I,h1t];simp [Zwo,k2,hx,hy]
 obtain ⟨k2,t,A,B',o',J,ei,eo,lt,ho,l1,l2,lp,hw,w0,sn⟩:=Um ok one k1;simp only at k2 J ei eo;have B8:=m8.blk B6 (by omega);have nh:∀ k,Mod (fun j=>h1.size<=j/\j<U.size) h8 k->Ul k s1 s2 s3 N:=fun k mk=>by
  refine fn k ?_;refine ((e6.mono fun _ _ h=>h.elim).trans (m8.mono fun j _ H=>?_)).trans (mk.mono fun j _ H=>?_) <;> omega
 have n8:=nh h8 (Mod.refl _);have a5:=n8.rt.len;obtain ⟨uu,aR,_,ru⟩:=n8.rt.rd (i:=t) lt;have la:(t:Int)<s3.n:=by omega
 simp [k2,C8.hc,B8.hc,J,Zm n8.rt.ok,la,aR];rw [show (Value.agg #[Zg (Zx N.ts t).i,Zg (Zx N.ts t).o,uu.v])=Zcc (Zx N.ts t).i (Zx N.ts t).o uu from rfl];refine Zwk D.T ru ?_;intro h9 e9;have t9:=t8.ext e9;have m9:Mod (fun j=>h1.size<=j/\j<U.size) h8 h9:=e9.mono fun _ _ h=>h.elim;have C9:=C8.ext e9;have B9:=B8.ext e9;have h1t:∀ j k,Zcp N L ⟨kd,a,ii,o,w⟩ j k=(decide (atV (Zx N.ts t).i (Zx N.ts t).o (Zx N.ts t).cs ii o≠w) && (List.range N.vs.length).any fun v=>decide ((Zp N.vs v).c=(t:Int)) && decide (Zl (Zz L j) v=(k:Int))):=fun j k=>by
  simp [Zcp,k1,J]
 simp [C9.hc];by_cases k3:atV (Zx N.ts t).i (Zx N.ts t).o (Zx N.ts t).cs ii o=w
 ·simp [k3,w1];refine ⟨⟨i+1,_,_,_,_,_,_,_,_,_,_,_,_,_,_,_,_,_,_,_,_,_,_,_,rfl,by omega,t9.congr (fun j d H hd=>?_),m8.trans m9⟩,by simp [Zy];omega⟩;rw [I,h1t];simp [k3]
 simp [k3,B9.hc];refine Zs (Xdz p op tb B C i u.v s s1 N L t (Q3 N L (l.take i)) bt h1.size U.size h9) (fun e _=>N.vs.length-Zy e 29) ⟨0,_,_,_,_,_,_,_,_,_,_,_,_,_,_,_,_,_,_,_,rfl,by omega,t9.congr (fun j d H hd=>by simp),Mod.refl _⟩ ?_;rintro e aS ⟨v,v3,v4,v5,v7,ae,af,ag,aJ,aK,ah,ai,aj,ak,al,am,an,ao,ap,aq,rfl,hv,av,Z⟩;have ab:=nh aS (m9.trans Z);have lv:=ab.rv.len;by_cases d:v<N.vs.length;rotate_left
 ·have d':¬ (v:Int)<s1.n:=by omega
  obtain rfl:v=N.vs.length:=by omega
  simp [d',w1];refine ⟨⟨i+1,_,_,_,_,_,_,_,_,_,_,_,_,_,_,_,_,_,_,_,_,_,_,_,rfl,by omega,av.congr (fun j d H hd=>?_),(m8.trans m9).trans Z⟩,by simp [Zy];omega⟩;rw [I,h1t];simp [k3]
 have d':(v:Int)<s1.n:=by omega
 have wv:=Zj (i:=v) (by omega);simp [d',Zm ab.rv.ok,ab.rv.rd d];refine Xd (vs:=#[Zg (Zp N.vs v).a,Zg (Zp N.vs v).b,Zg (Zp N.vs v).c]) rfl rfl (by simp) ?_;intro V a6 gV aT aU aw;simp;refine aw _ ?_;intro ax V11 ac;clear aw aT aU;have C11:=(Z.blk C9 (by omega)).ext ac;have ay:=av.ext ac;have aa:Mod (fun j=>h1.size<=j/\j<U.size) h9 ax:=Z.trans (ac.mono fun _ _ h=>h.elim);simp [V11.hc,C11.hc];by_cases k4:(Zp N.vs v).c=(t:Int)
 rotate_left
 ·simp [k4,wv,J];refine ⟨⟨v+1,_,_,_,_,_,_,_,_,_,_,_,_,_,_,_,_,_,_,_,rfl,by omega,ay.congr (fun j d H hd=>?_),aa⟩,by simp [Zy];omega⟩;simp [Xgt,k4]
 simp [k4,J];refine Zm5 X ay (r ax (m9.trans aa)) pk d d (fun k mk=>r k ((m9.trans aa).trans mk)) ?_;intro a7 aV aW;simp [wv];refine ⟨⟨v+1,_,_,_,_,_,_,_,_,_,_,_,_,_,_,_,_,_,_,_,rfl,by omega,aW.congr (fun j d H hd=>?_),aa.trans aV⟩,by simp [Zy];omega⟩;simp [Xgt,k4,Zwo,Bool.or_assoc]
end
def Z8a (N:Zq) (row:Zb) (c:Nat) (a:Nat):Bool:=decide (Zl row (Zp N.as a).a.toNat=(c:Int)) && decide (Zl row (Zp N.as a).b.toNat=(c:Int))
def Z8m (row:Zb) (c:Nat) (v:Nat):Bool:=decide (Zl row v=(c:Int))
def Zh7 (a b:Tab):Bool:=decide (a.i=b.i/\a.o=b.o/\a.cs=b.cs)
def Zo3 (N M:Zq) (L:Za) (i k:Nat):Bool :=
 ((List.range N.as.length).any fun a=>Z8a N (Zz L i) k a && decide ((Zp N.as a).c≠(Zp M.as a).c)) ||
 (List.range N.vs.length).any fun v=>Z8m (Zz L i) k v && !Zh7 (Zx N.ts (Zp N.vs v).c.toNat) (Zx M.ts (Zp N.vs v).c.toNat)
theorem Zvv {N:Zq} {l:List Yt} {i:Nat} (h:X2 N l i=0) {j:Nat} (r:j<i):Xu (Yn l j) (Yn l i)=false:=by
 unfold X2 at h
 split at h
 ·rename_i q;exact absurd h q
 split at h
 ·cases h
 ·rename_i q
  cases k:Xu (Yn l j) (Yn l i) with
  | false=>rfl
  | true=>exact absurd (Zbr.2 ⟨j,r,k⟩) q
theorem Zwm {N:Zq} {c:Yt} (h:Ww N c=0) (r:c.kd=1):c.i=0/\c.o=0:=by
 unfold Ww at h;rw [if_pos r] at h
 split at h
 ·cases h
 ·omega
theorem Zyb {N:Zq} (X:Ym N) {l:List Yt} (hb:∀ i,i<l.length->X2 N l i=0) {a:Nat} (ha:a<N.as.length):∀ i,i<=l.length ->
  ((∀ j,j<i->(Yn l j).kd=1->(Yn l j).a≠a)->(Zp (Yo N (l.take i)).as a).c=(Zp N.as a).c) /\
  (∀ j,j<i->(Yn l j).kd=1->(Yn l j).a=a->(Zp (Yo N (l.take i)).as a).c=(Yn l j).w):=by
 intro i
 induction i with
 | zero=>intro _;exact ⟨fun _=>rfl,fun j M=>by omega⟩
 | succ i ih =>
  intro hi;obtain ⟨Z,p2⟩:=ih (by omega);have J:i<l.length:=by omega
  have U:=Zbq (l:=l.take i) X;have O:∀ x,x∈l.take i->Ww N x=0:=fun x hx=>by
   obtain ⟨k,G,e⟩:=List.mem_iff_getElem.1 (Xha hx);have:=Z5 (hb k G);rwa [show Yn l k=x by simp [Yn,G,e]] at this
  have dm:=Z6 (l:=l.take i) X O;have I:=Z5 (hb i J);have one:Ww (Yo N (l.take i)) (Yn l i)=0:=by rw [dm.one];exact I
  rw [Zcm J];generalize hK:Yo N (l.take i)=K at *
  unfold Qs;by_cases G:(Yn l i).kd=1
  ·rw [if_pos G];obtain ⟨a',ea,V,_,_,e⟩:=W8 one G;rw [e];simp only;rw [Zca V];by_cases q:a=a'
   ·rw [if_pos q];refine ⟨fun R=>absurd (by rw [ea,q]) (R i (by omega) G),fun j M D H=>?_⟩;by_cases r:j=i
    ·rw [r]
    exfalso;have ks:=Zvv (hb i J) (j:=j) (by omega);have o1:=Zwm (Z5 (hb j (by omega))) D;have o2:=Zwm I G;simp only [Xu,decide_eq_false_iff_not] at ks;exact ks ⟨by omega,by omega,by omega,by omega⟩
   rw [if_neg q];refine ⟨fun R=>Z (fun j M=>R j (by omega)),fun j M D H=>?_⟩;by_cases r:j=i
   ·subst r;exact absurd (by omega) q
   exact p2 j (by omega) D H
  rw [if_neg G];obtain ⟨_,t,A,B,o,_,_,_,lt,_,_,_,_,_,_,e⟩:=Um U one G;rw [e];refine ⟨fun R=>Z (fun j M=>R j (by omega)),fun j M D H=>?_⟩;by_cases r:j=i
  ·subst r;exact absurd D G
  exact p2 j (by omega) D H
def Zs7 (N:Zq) (c:Yt):Nat:=(c.i * (Zx N.ts c.a.toNat).o+c.o).toNat
theorem Zhd {N:Zq} (J:Ym N) {c:Yt} (h:Ww N c=0) (O:c.kd≠1):∃ t A B o:Nat,c.a=t/\c.i=A/\c.o=B/\t<N.ts.length/\(Zx N.ts t).o=o/\B<o/\Zs7 N c=A * o+B/\A * o+B<(Zx N.ts t).cs.length/\Yu c.w=true /\
  Qu N c.a c.i c.o c.w = { N with ts:=N.ts.set t ⟨(Zx N.ts t).i,(Zx N.ts t).o,(Zx N.ts t).cs.set (A * o+B) c.w⟩ }/\atV (Zx N.ts t).i (Zx N.ts t).o (Zx N.ts t).cs c.i c.o=Zl (Zx N.ts t).cs (A * o+B):=by
 obtain ⟨X,t,A,B,o,M,D,G,lt,r,Z,R,U,V,w0,sn⟩:=Um J h O;have hp:((A:Int) * (o:Int)+(B:Int)).toNat=A * o+B:=by
  have:(A:Int) * (o:Int)+(B:Int)=((A * o+B:Nat):Int):=by simp
  rw [this];rfl
 refine ⟨t,A,B,o,M,D,G,lt,r,R,?_,U,V,sn,?_⟩
 ·unfold Zs7;rw [M,D,G,Xeo,r];exact hp
 have H:=J.tab t lt;rw [D,G];unfold atV;have s0:(Wo (Zx N.ts t).i (Zx N.ts t).o).2=0:=by
  unfold Z1 Uo at H
  split at H
  ·rename_i q;exact absurd H q
  rename_i q;exact Xfe q
 rw [if_neg (by rw [r];rintro (q | q | q | q | q) <;> first | omega | (rw [r] at s0;exact q s0))];have I:(A:Int) * (o:Int)+(B:Int)=((A * o+B:Nat):Int):=by simp
 rw [r,if_pos (by rw [I];omega)];rw [hp]
theorem Z1c {A B A' B' o:Nat} (h:A * o+B=A' * o+B') (D:B<o) (r:B'<o):A=A'/\B=B':=by
 rcases Xgi A A' with q | q | q
 ·have:=Xfi o (show A+1<=A' by omega);rw [Xe3] at this;omega
 ·subst q;omega
 have:=Xfi o (show A'+1<=A by omega);rw [Xe3] at this;omega
theorem Z2v {l:Zb} {i:Nat} {x:Int} (h:Zl l i=x):l.set i x=l:=by
 apply Xew
 ·simp
 intro k h1 r;rw [Xfm]
 split
 ·rename_i e;subst e;rw [<-h];simp [Zl,r]
 rfl
theorem Zyc {N:Zq} (R:Ym N) {l:List Yt} (hb:∀ i,i<l.length->X2 N l i=0) {t:Nat} (ht:t<N.ts.length):∀ i,i<=l.length ->
  ((∀ j,j<i->(Yn l j).kd≠1->(Yn l j).a=t->Zl (Zx N.ts t).cs (Zs7 N (Yn l j))=(Yn l j).w)->Zx (Yo N (l.take i)).ts t=Zx N.ts t) /\
  (∀ j,j<i->(Yn l j).kd≠1->(Yn l j).a=t->Zl (Zx (Yo N (l.take i)).ts t).cs (Zs7 N (Yn l j))=(Yn l j).w)/\(Zx (Yo N (l.take i)).ts t).cs.length=(Zx N.ts t).cs.length:=by
 intro i
 induction i with
 | zero=>intro _;exact ⟨fun _=>rfl,fun j M=>by omega,rfl⟩
 | succ i ih =>
  intro hi;obtain ⟨X,Z,p3⟩:=ih (by omega);have J:i<l.length:=by omega
  have aa:=Zbq (l:=l.take i) R;have U:∀ x,x∈l.take i->Ww N x=0:=fun x hx=>by
   obtain ⟨k,H,e⟩:=List.mem_iff_getElem.1 (Xha hx);have:=Z5 (hb k H);rwa [show Yn l k=x by simp [Yn,H,e]] at this
  have dm:=Z6 (l:=l.take i) R U;have I:=Z5 (hb i J);have one:Ww (Yo N (l.take i)) (Yn l i)=0:=by rw [dm.one];exact I
  rw [Zcm J];generalize hK:Yo N (l.take i)=K at *
  unfold Qs;by_cases H:(Yn l i).kd=1
  ·rw [if_pos H];obtain ⟨a',ea,ad,_,_,e⟩:=W8 one H;rw [e];refine ⟨fun O=>X (fun j M=>O j (by omega)),fun j M D G=>?_,p3⟩;by_cases r:j=i
   ·subst r;exact absurd H D
   exact Z j (by omega) D G
  rw [if_neg H];obtain ⟨t',A,B,o,ea,ei,eo,lt,ho,lB,hp,lp,_,e,_⟩:=Zhd aa one H;have V:Zs7 N (Yn l i)=A * o+B:=by
   rw [<-hp];unfold Zs7;rw [(dm.tb _).2]
  rw [e];simp only;rw [Zdc lt];by_cases q:t=t'
  ·rw [if_pos q];subst q;refine ⟨fun O=>?_,fun j M D G=>?_,by simpa using p3⟩
   ·have e1:=X (fun j M=>O j (by omega));have e2:=O i (by omega) H ea;rw [e1,Z2v (by rw [<-V];exact e2)]
   simp only;by_cases r:j=i
   ·subst r;rw [V,Ud lp,if_pos rfl]
   have ks:=Zvv (hb i J) (j:=j) (by omega);obtain ⟨t2,A2,B2,o2,ae,af,ag,ah,ai,ab,ac,aj,_,_,_⟩:=Zhd R (Z5 (hb j (by omega))) D;have:t2=t:=by omega
   subst this;have ak:=(dm.tb t2).2;have oo:o2=o:=by omega
   subst oo;rw [Ud lp,if_neg (fun e=>?_)]
   ·exact Z j (by omega) D G
   rw [ac] at e;obtain ⟨x1,x2⟩:=Z1c e ab lB;simp only [Xu,decide_eq_false_iff_not] at ks;have k1:(Yn l j).kd=2:=(Um R (Z5 (hb j (by omega))) D).1;have k2:(Yn l i).kd=2:=(Um R I H).1;exact ks ⟨by omega,by omega,by omega,by omega⟩
  rw [if_neg q];refine ⟨fun O=>X (fun j M=>O j (by omega)),fun j M D G=>?_,p3⟩;by_cases r:j=i
  ·subst r;exact absurd (by omega) q
  exact Z j (by omega) D G
theorem Zlh {l:List Yt} {c:Yt} (h:c∈l):∃ j,j<l.length/\Yn l j=c:=by
 obtain ⟨k,r,e⟩:=List.mem_iff_getElem.1 h;exact ⟨k,r,by simp [Yn,r,e]⟩
theorem Zky {l:List Yt} {j:Nat} (h:j<l.length):Yn l j∈l:=by
 rw [show Yn l j=l[j] by simp [Yn,h]];exact Xe4 h
theorem Z32 {N:Zq} (R:Ym N) {l:List Yt} (hz:(Xj N l).2=0) {L:Za} {i k:Nat}:Q3 N L l i k=Zo3 N (Yo N l) L i k:=by
 obtain ⟨_,hb⟩:=Zda hz;have G:=fun {a:Nat} (V:a<N.as.length)=>Zyb R hb V l.length (Xel _);have I:=fun {t:Nat} (ht:t<N.ts.length)=>Zyc R hb ht l.length (Xel _);rw [Xf0] at G I;rw [Xgc];unfold Q3 Zo3;simp only [Xhl,Bool.or_eq_true,Xer,Xhk,Z8a,Z8m,decide_eq_true_eq];constructor
 ·rintro ⟨c,hc,ht⟩;obtain ⟨j,H,rfl⟩:=Zlh hc;have one:=Z5 (hb j H);unfold Zcp at ht;by_cases r:(Yn l j).kd=1
  ·rw [if_pos r] at ht;simp only [Xer,decide_eq_true_eq] at ht;obtain ⟨h1,O,J⟩:=ht;obtain ⟨a,D,Z,_⟩:=W8 one r;rw [D,Xeo] at h1 O J;refine .inl ⟨a,Z,⟨O,J⟩,?_⟩;rw [(G Z).2 j H r D];exact h1
  rw [if_neg r] at ht;simp only [Xer,decide_eq_true_eq,Xhl,Xhk] at ht;obtain ⟨h1,v,hv,O,J⟩:=ht;obtain ⟨t,A,B,o,D,ei,eo,lt,ho,lB,hp,lp,_,_,M⟩:=Zhd R one r;rw [D,Xeo,M] at h1;refine .inr ⟨v,hv,J,?_⟩;rw [O,D,Xeo];simp only [Xf1,Zh7,decide_eq_false_iff_not];rintro ⟨_,_,e⟩;have:=(I lt).2.1 j H r D;rw [<-e,hp] at this;exact h1 this
 rintro (⟨a,V,⟨O,J⟩,h1⟩ | ⟨v,hv,J,h1⟩)
 ·by_cases q:∃ j,j<l.length/\(Yn l j).kd=1/\(Yn l j).a=a
  ·obtain ⟨j,H,r,D⟩:=q;refine ⟨Yn l j,Zky H,?_⟩;unfold Zcp;rw [if_pos r,D,Xeo];simp only [Xer,decide_eq_true_eq];refine ⟨?_,O,J⟩;rw [<-(G V).2 j H r D];exact h1
  exact absurd ((G V).1 (fun j H r D=>q ⟨j,H,r,D⟩)).symm h1
 have X:=R.vt v hv;simp only [Ye,decide_eq_true_eq] at X;have ht:(Zp N.vs v).c.toNat<N.ts.length:=by omega
 by_cases q:∃ j,j<l.length/\(Yn l j).kd≠1/\(Yn l j).a=(Zp N.vs v).c.toNat/\Zl (Zx N.ts (Zp N.vs v).c.toNat).cs (Zs7 N (Yn l j))≠(Yn l j).w
 ·obtain ⟨j,H,r,aa,U⟩:=q;refine ⟨Yn l j,Zky H,?_⟩;obtain ⟨t,A,B,o,D,ei,eo,lt,ho,lB,hp,lp,_,_,M⟩:=Zhd R (Z5 (hb j H)) r;unfold Zcp;rw [if_neg r];simp only [Xer,decide_eq_true_eq,Xhl,Xhk];have tt:(Zp N.vs v).c.toNat=t:=by omega
  rw [tt,hp] at U;refine ⟨?_,v,hv,by omega,J⟩;rw [D,Xeo,M];exact U
 have e:=(I ht).1 (fun j H r D=>Xfe fun hn=>q ⟨j,H,r,D,hn⟩);rw [e] at h1;simp [Zh7] at h1
end Go.Rm


