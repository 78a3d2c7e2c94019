import Derived.Test.YtmpamfkkaakbfaaGreatDoorT27
/- Parts RBatch9 RBatch10 RBatch11 RBatch12 -/
set_option linter.unusedSimpArgs false
set_option linter.unusedVariables false
namespace Go.Rm
def Ze8 (L:List (List Int)) (T:Nat->Nat->Bool) (i:Nat):List Bool:=(List.range (Zw L i)).map (T i)
structure X8 (lo up:Nat) (h:Za) (tb:Nat) (L:List (List Int)) (bt:Nat->Nat) (T:Nat->Nat->Bool):Prop where
 own:Yb h 1 (Sl.at tb L.length L.length) (Zfd L.length fun i=>Sl.at (bt i) (Zw L i) (Zw L i))
 row:∀ i,i<L.length->Yb h 1 (Sl.at (bt i) (Zw L i) (Zw L i)) (Va (Ze8 L T i))
 ft:lo<=tb/\tb<up
 fr:∀ i,i<L.length->lo<=bt i/\bt i<up/\bt i≠tb
 dj:∀ i j,i<L.length->j<L.length->i≠j->bt i≠bt j
def Zwi (L:List (List Int)) (T:Nat->Nat->Bool) (a b:Nat):Nat->Nat->Bool:=fun i c=>T i c || decide (Zc (Zq L i) a=(c:Int)/\Zc (Zq L i) b=(c:Int))
section
variable {Y:Sys} {h h':Za} {lo up tb:Nat} {L:List (List Int)} {bt:Nat->Nat} {T:Nat->Nat->Bool}
theorem X8.mod {S:Nat->Prop} (t:X8 lo up h tb L bt T) (m:Mod S h h') (hs:∀ j,S j->j<lo\/up<=j):X8 lo up h' tb L bt T :=
 {t with
  own:=t.own.mod m (fun _ hb=>by have:=hs _ hb; have:=t.ft; simp at *; omega)
  row:=fun i r=>(t.row i r).mod m (fun _ hb=>by have:=hs _ hb; have:=(t.fr i r); simp at *; omega) }
theorem X8.ext (t:X8 lo up h tb L bt T) (m:Ext h h'):X8 lo up h' tb L bt T:=t.mod m fun _ h=>h.elim
theorem X8.congr {T':Nat->Nat->Bool} (t:X8 lo up h tb L bt T) (e:∀ i c,i<L.length->c<Zw L i->T i c=T' i c):X8 lo up h tb L bt T' :=
 {t with
  row:=fun i r=>by
   have:Ze8 L T' i=Ze8 L T i:=by
    apply Xfr
    intro c hc
    exact (e i c r (by simpa using hc)).symm
   rw [this]
   exact t.row i r }
theorem X8.set {K:Value->Za->Prop} (t:X8 lo up h tb L bt T) {i c:Nat} (D:i<L.length) (hc:c<Zw L i)
  (H:∀ h',X8 lo up h' tb L bt (fun j d=>T j d || decide (j=i/\d=c))->Mod (fun j=>lo<=j/\j<up) h h'->K undef h'):Xg h (bt i) c (.bool true) K:=by
 refine Zlf (t.row i D) (k:=c) (by rw [Zfv]; simpa [Ze8] using hc) ?_
 intro h' o m
 refine H h' ?_ (m.mono fun j _ G=>by have:=t.fr i D; omega)
 refine ⟨t.own.mod m (fun _ hb=>by have:=(t.fr i D).2.2; simp at hb; omega),fun j G=>?_,t.ft,t.fr,t.dj⟩
 by_cases e:j=i
 ·subst e
  have:(Va (Ze8 L T j)).set c (.bool true)=Va (Ze8 L (fun r d=>T r d || decide (r=j/\d=c)) j):=by
   apply Xem
   ·simp [Va,Ze8]
   ·intro k h1 I
    simp [Va,Ze8] at h1
    rw [Xe9]
    simp only [Va,Ze8,Xev,Xf0,true_and]
    by_cases q:c=k
    ·subst q; simp
    ·have:¬ k=c:=fun e=>q e.symm
     simp [q,this]
  rw [this] at o
  exact o
 ·have:=(t.row j G).mod m (fun _ hb=>t.dj j i G D e hb)
  have e2:Ze8 L (fun r d=>T r d || decide (r=i/\d=c)) j=Ze8 L T j:=by
   apply Xfr
   intro d _
   simp [e]
  rw [e2]
  exact this
structure Zkw (Y:Sys):Prop where
 A:Zwp Y
 O:Zdi Y
 Touched:Y.Has 308 Y308
 mark:Y.Has 319 Y319
 Wt:Y.Has 233 Y233
def MkI (tb:Nat) (u:Sl) (L:List (List Int)) (bt:Nat->Nat) (T:Nat->Nat->Bool) (a b lo up:Nat) (h0:Za) (e:List Value) (h':Za):Prop :=
 ∃ (i:Nat) (v4 v5 v6 v10 v11 v12:Value),e=[.slice (some ⟨tb,0,none⟩) L.length L.length,u.v,.int .i64 a,.int .i64 b,v4,v5,v6,u.v,.int .i64 u.n,.int .i64 i,v10,v11,v12]/\i<=L.length/\X8 lo up h' tb L bt (fun j c=>T j c || decide (j<i/\Zc (Zq L j) a=(c:Int)/\Zc (Zq L j) b=(c:Int)))/\Mod (fun j=>lo<=j/\j<up) h0 h'
theorem Zms (X:Zkw Y) {u:Sl} {N:Zg} {a b:Nat} (td:X8 lo up h tb L bt T) (ru:Ql h u L) (D:Yx N.vs.length L) (ha:a<N.vs.length) (hb:b<N.vs.length)
  (G:∀ h',Mod (fun j=>lo<=j/\j<up) h h'->Ql h' u L) {R:Value->Za->Prop}
  (hr:∀ h',Mod (fun j=>lo<=j/\j<up) h h'->X8 lo up h' tb L bt (Zwi L T a b)->R (.tuple #[]) h') :
  Zm Y 319 [.slice (some ⟨tb,0,none⟩) L.length L.length,u.v,.int .i64 a,.int .i64 b] h R:=by
 have lL:=ru.len
 have bL:=D.bL
 have bn:=D.bn
 refine .of_has X.mark rfl ?_
 simp [Y319,Xa.wp]
 refine Zj (MkI tb u L bt T a b lo up h) (fun e _=>L.length-Zo e 9) ⟨0,_,_,_,_,_,_,rfl,by omega,td.congr (fun i c _ _=>by simp),Mod.refl _⟩ ?_
 rintro e h1 ⟨i,v4,v5,v6,aa,ab,ac,rfl,hi,M,O⟩
 by_cases c:i<L.length
 rotate_left
 ·have c':¬ (i:Int)<u.n:=by omega
  obtain rfl:i=L.length:=by omega
  simp [c']
  refine hr h1 O (M.congr (fun j d U hd=>?_))
  simp [Zwi,U]
 have c':(i:Int)<u.n:=by omega
 have c2:(i:Int)<L.length:=by omega
 have c3:¬ (L.length:Int)<=i:=by omega
 have w1:IntKind.i64.wrap ((i:Int)+1)=(i:Int)+1:=Ze (by omega)
 have H:=G h1 O
 obtain ⟨w,hw,r⟩:=H.val i c
 have lw:=r.len
 obtain ⟨y1,y2,_,_⟩:=Uh (D.lv i c)
 have ya:=y2 a ha
 have yb:=y2 b hb
 have a1:(a:Int)<w.n:=by omega
 have a2:¬ (w.n:Int)<=a:=by omega
 have b1:(b:Int)<w.n:=by omega
 have b2:¬ (w.n:Int)<=b:=by omega
 have va:=r.val a (by omega)
 have vb:=r.val b (by omega)
 obtain ⟨x,hx⟩:∃ x:Nat,Zc (Zq L i) a=x:=⟨(Zc (Zq L i) a).toNat,by omega⟩
 rw [hx] at va
 have a3:¬ L.length<=i:=by omega
 have a4:¬ w.n<=a:=by omega
 have b4:¬ w.n<=b:=by omega
 simp [c',Zb H.ok,hw,c2,c3,a1,a2,b1,b2,a3,a4,b4,Zb r.ok,va,vb]
 by_cases k:Zc (Zq L i) b=x
 rotate_left
 ·have k':¬ (x:Int)=Zc (Zq L i) b:=fun e=>k e.symm
  simp [k,k',w1]
  refine ⟨⟨i+1,_,_,_,_,_,_,rfl,by omega,M.congr (fun j d U hd=>?_),O⟩,by simp [Zo]; omega⟩
  by_cases e:j<i
  ·simp [e,show j<i+1 by omega]
  ·by_cases e2:j=i
   ·subst e2
    have:¬ ((x:Int)=(d:Int)/\Zc (Zq L j) b=(d:Int)):=fun q=>k (by omega)
    simp [hx,this]
   ·have:¬ j<i+1:=by omega
    simp [e,this]
 have V:x<Zw L i:=by
  obtain ⟨_,_,_,hv⟩:=Xi D c
  obtain ⟨z,hz,ad⟩:=hv a ha
  omega
 have ct:=M.own.cell (Zcv c)
 simp at ct
 have I:=Vt (Y:=Y) (h:=h1) (b:=tb) (sz:=1) (show L.length<=9223372036854775807 by omega) c (Xd6 _)
 have gb:=(Xi D c).2.2.1
 have J:=Vt (Y:=Y) (h:=h1) (b:=bt i) (sz:=1) (show Zw L i<=9223372036854775807 by omega) V (Xd6 _)
 simp at I J
 have Z:(x:Int)<Zw L i:=by omega
 simp [k,I,ct,V,Z,J]
 refine M.set c V ?_
 intro h2 t2 m2
 simp [w1]
 refine ⟨⟨i+1,_,_,_,_,_,_,rfl,by omega,t2.congr (fun j d U hd=>?_),O.trans m2⟩,by simp [Zo]; omega⟩
 by_cases e:j<i
 ·simp [e,show j<i+1 by omega,show ¬ j=i by omega]
 ·by_cases e2:j=i
  ·subst e2
   simp only [Nat.lt_irrefl,false_and,decide_false,Bool.or_false,true_and,Xgu,hx,k]
   congr 1
   rw [decide_eq_decide]
   omega
  ·have:¬ j<i+1:=by omega
   simp [e,e2,this]
end
def Zb8 (N:Zg) (L:List (List Int)) (c:Ym) (i k:Nat):Bool :=
 if c.kd=1 then decide ((Zf N.as c.a.toNat).c≠c.w) && decide (Zc (Zq L i) (Zf N.as c.a.toNat).a.toNat=(k:Int)/\Zc (Zq L i) (Zf N.as c.a.toNat).b.toNat=(k:Int))
 else decide (atV (Zp N.ts c.a.toNat).i (Zp N.ts c.a.toNat).o (Zp N.ts c.a.toNat).cs c.i c.o≠c.w) && (List.range N.vs.length).any fun v=>decide ((Zf N.vs v).c=c.a) && decide (Zc (Zq L i) v=(k:Int))
def V6 (N:Zg) (L:List (List Int)) (l:List Ym) (i k:Nat):Bool:=l.any fun c=>Zb8 N L c i k
theorem Zr1 {N:Zg} {L:List (List Int)} {l:List Ym} {i j k:Nat} (r:i<l.length):V6 N L (l.take (i+1)) j k=(V6 N L (l.take i) j k || Zb8 N L (Yf l i) j k):=by
 unfold V6
 rw [Xel r,List.any_append]
 simp [Yf,r]
def Zat (L:List (List Int)) (bt:Nat->Nat) (i:Nat):List Value:=(List.range L.length).map fun k=>if k<i then (Sl.at (bt k) (Zw L k) (Zw L k)).v else .slice none 0 0
structure Znb (lo:Nat) (h:Za) (tb:Nat) (L:List (List Int)) (bt:Nat->Nat) (i:Nat):Prop where
 own:Yb h 1 (Sl.at tb L.length L.length) (Zat L bt i)
 row:∀ k,k<i->Yb h 1 (Sl.at (bt k) (Zw L k) (Zw L k)) (Va (Ze8 L (fun _ _=>false) k))
 ft:lo<=tb/\tb<h.size
 fr:∀ k,k<i->lo<=bt k/\bt k<h.size/\bt k≠tb
 dj:∀ j k,j<i->k<i->j≠k->bt j≠bt k
theorem Z1g {L:List (List Int)} {i:Nat}:Va (Ze8 L (fun _ _=>false) i)=List.replicate (Zw L i) (.bool false):=by
 apply Xem
 ·simp [Va,Ze8]
 ·intro k h1 r
  simp [Va,Ze8]
section
variable {Y:Sys} {h h':Za} {lo up tb:Nat} {L:List (List Int)} {bt:Nat->Nat}
theorem Znb.step {i b:Nat} {h1:Za} {K:Value->Za->Prop} (t:Znb lo h tb L bt i) (M:i<L.length) (U:h.size<=b) (o:Yb h1 1 (Sl.at b (Zw L i) (Zw L i)) (List.replicate (Zw L i) (.bool false))) (e:Ext h h1) (V:b<h1.size) (O:lo<=h.size)
  (G:∀ D,Znb lo D tb L (fun k=>if k=i then b else bt k) (i+1)->Mod (fun j=>j=tb) h1 D->K undef D):Xg h1 tb i (Sl.at b (Zw L i) (Zw L i)).v K:=by
 have R:=t.own.mod e (fun _ h=>h)
 refine Zlf R (k:=i) (by simpa [Zat] using M) ?_
 intro D o2 H
 have X:=e.size
 have Z:=H.size
 have ft:=t.ft
 refine G D ⟨?_,fun k G=>?_,by omega,fun k G=>?_,fun j k hj G I=>?_⟩ H
 ·have:(Zat L bt i).set i (Sl.at b (Zw L i) (Zw L i)).v=Zat L (fun k=>if k=i then b else bt k) (i+1):=by
   apply Xem
   ·simp [Zat]
   ·intro k h1 D
    simp [Zat] at h1
    rw [Xe9]
    by_cases q:i=k
    ·subst q; simp [Zat]
    ·simp only [Zat,Xev,Xf0,q,if_false]
     have q':¬ k=i:=fun e=>q e.symm
     by_cases r:k<i
     ·simp [r,q',show k<i+1 by omega]
     ·simp [r,show ¬ k<i+1 by omega]
  rw [this] at o2
  exact o2
 ·by_cases q:k=i
  ·subst q
   simp only [if_true]
   rw [Z1g]
   exact o.mod H (fun _ hb=>by simp at hb; omega)
  ·simp only [q,if_false]
   have J:=t.fr k (by omega)
   exact ((t.row k (by omega)).mod e (fun _ h=>h)).mod H (fun _ hb=>by simp at hb; omega)
 ·by_cases q:k=i
  ·subst q
   simp only [if_true]
   omega
  ·simp only [q,if_false]
   have J:=t.fr k (by omega)
   omega
 ·by_cases q:j=i
  ·by_cases r:k=i
   ·omega
   ·have J:=t.fr k (by omega)
    simp only [q,r,if_true,if_false]
    omega
  ·have fj:=t.fr j (by omega)
   by_cases r:k=i
   ·simp only [q,r,if_true,if_false]
    omega
   ·simp only [q,r,if_false]
    exact t.dj j k (by omega) (by omega) I
theorem Znb.told (t:Znb lo h tb L bt L.length):X8 lo h.size h tb L bt (fun _ _=>false):=by
 refine ⟨?_,t.row,t.ft,t.fr,t.dj⟩
 have:Zat L bt L.length=Zfd L.length fun i=>Sl.at (bt i) (Zw L i) (Zw L i):=by
  apply Xfr
  intro k r
  have r:k<L.length:=by simpa using r
  simp [r]
 rw [<-this]
 exact t.own
def Xcc (p op tb:Nat) (s:Sl) (L:List (List Int)) (h0:Za) (e:List Value) (h':Za):Prop :=
 ∃ (i:Nat) (bt:Nat->Nat) (v3 v4 v5 v7 v8 v9 v10 v11 v12 v13 v16 v17 v18 v19 v20 v21 v22 v23 v24 v25 v26 v27 v28 v29 v30 v31:Value),e=[.pointer (some ⟨p,0,none⟩),.pointer (some ⟨op,0,none⟩),s.v,v3,v4,v5,.slice (some ⟨tb,0,none⟩) L.length L.length,v7,v8,v9,v10,v11,v12,v13,.int .i64 L.length,.int .i64 i,v16,v17,v18,v19,v20,v21,v22,v23,v24,v25,v26,v27,v28,v29,v30,v31]/\i<=L.length/\Znb h0.size h' tb L bt i/\Ext h0 h'
def Xct (p op tb B:Nat) (v8:Value) (s:Sl) (N:Zg) (L:List (List Int)) (l:List Ym) (bt:Nat->Nat) (lo up:Nat) (h0:Za) (e:List Value) (h':Za):Prop :=
 ∃ (i:Nat) (v3 v4 v5 v7 v10 v11 v12 v13 v14 v15 v16 v17 v21 v22 v23 v24 v25 v26 v27 v28 v29 v30 v31:Value),e=[.pointer (some ⟨p,0,none⟩),.pointer (some ⟨op,0,none⟩),s.v,v3,v4,v5,.slice (some ⟨tb,0,none⟩) L.length L.length,v7,v8,.pointer (some ⟨B,0,none⟩),v10,v11,v12,v13,v14,v15,v16,v17,s.v,.int .i64 s.n,.int .i64 i,v21,v22,v23,v24,v25,v26,v27,v28,v29,v30,v31]/\i<=l.length/\X8 lo up h' tb L bt (V6 N L (l.take i))/\Mod (fun j=>lo<=j/\j<up) h0 h'
def Xdi (p op tb B C i:Nat) (v8:Value) (s sv:Sl) (N:Zg) (L:List (List Int)) (a:Int) (T:Nat->Nat->Bool) (bt:Nat->Nat) (lo up:Nat) (h0:Za) (e:List Value) (h':Za):Prop :=
 ∃ (v:Nat) (v3 v4 v5 v7 v11 v12 v13 v14 v15 v16 v17 v21 v22 v23 v24 v25 v26 v30 v31:Value),e=[.pointer (some ⟨p,0,none⟩),.pointer (some ⟨op,0,none⟩),s.v,v3,v4,v5,.slice (some ⟨tb,0,none⟩) L.length L.length,v7,v8,.pointer (some ⟨B,0,none⟩),.pointer (some ⟨C,0,none⟩),v11,v12,v13,v14,v15,v16,v17,s.v,.int .i64 s.n,.int .i64 i,v21,v22,v23,v24,v25,v26,sv.v,.int .i64 sv.n,.int .i64 v,v30,v31]/\v<=N.vs.length/\X8 lo up h' tb L bt (fun j k=>T j k || (List.range v).any fun x=>decide ((Zf N.vs x).c=a) && decide (Zc (Zq L j) x=(k:Int)))/\Mod (fun j=>lo<=j/\j<up) h0 h'
set_option maxHeartbeats 2000000 in
theorem Zpo (X:Zkw Y) {p op:Nat} {N M:Zg} {S:Nat->Prop} {s:Sl} {l:List Ym} (g:Yv h p N S) (ok:Yd N) (ov:Up h op M L) (pk:Yx N.vs.length L) (q:Zbt h s l) {R:Value->Za->Prop}
  (ae:∀ h' v,(Xw N l).2≠0->Ext h h'->Z6 Y h.size h' (Xw N l) v->R (.tuple #[.slice none 0 0,v]) h')
  (hr:∀ h' up tb bt,(Xw N l).2=0->Ext h h'->X8 h.size up h' tb L bt (V6 N L l)->R (.tuple #[.slice (some ⟨tb,0,none⟩) L.length L.length,.nilIface]) h') :
  Zm Y 308 [.pointer (some ⟨p,0,none⟩),.pointer (some ⟨op,0,none⟩),s.v] h R:=by
 have ll:=q.len
 have bL:=pk.bL
 have bn:=pk.bn
 have D:=X.A
 refine .of_has X.Touched rfl ?_
 simp [Y308,Xa.wp]
 refine Zh9 D.C g ok q ?_
 intro h1 v e1 fv
 by_cases c0:(Xw N l).2=0
 rotate_left
 ·obtain ⟨t,u,hv⟩:=fv.here.iface c0
  subst hv
  simp
  exact ae h1 _ c0 e1 fv
 have hv:=Err.nil fv.here c0
 subst hv
 obtain ⟨hl,hb⟩:=Zed c0
 have z1:=e1.size
 simp
 refine Zdr X.O (ov.ext e1) ?_
 simp
 refine Znd (n:=L.length) (by omega) rfl ?_
 intro tb h2 a2 o2 e2 a3
 have z2:=e2.size
 have x2:=e1.trans e2
 simp
 refine Zj (Xcc p op tb s L h1) (fun e _=>L.length-Zo e 15) ⟨0,fun _=>0,_,_,_,_,_,_,_,_,_,_,_,_,_,_,_,_,_,_,_,_,_,_,_,_,_,_,rfl,by omega,⟨?_,fun k hk=>by omega,by omega,fun k hk=>by omega,fun j k H=>by omega⟩,e2⟩ ?_
 ·have:Zat L (fun _=>0) 0=List.replicate L.length (.slice none 0 0):=by
   apply Xem
   ·simp [Zat]
   ·intro k h1 h2
    simp [Zat]
  rw [this]
  exact o2
 rintro e Z ⟨i,bt,v3,v4,v5,v7,v8,v9,aA,af,ag,ah,ai,aj,a4,a5,a6,ak,al,am,an,ao,ap,aB,aC,aD,aq,ar,rfl,hi,tp,e3⟩
 have z3:=e3.size
 have x3:=e1.trans e3
 by_cases c:i<L.length
 ·have c':(i:Int)<L.length:=by omega
  have w1:IntKind.i64.wrap ((i:Int)+1)=(i:Int)+1:=Ze (by omega)
  simp [c,c',w1]
  refine U1 X.O (ov.ext x3) c (by omega) ?_
  have gb:=(Xi pk c).2.2.1
  simp
  refine Zkg (n:=Zw L i) (by omega) rfl ?_
  intro b h4 aE o4 e4 aF
  have au:=Vt (Y:=Y) (h:=h4) (b:=tb) (sz:=1) (show L.length<=9223372036854775807 by omega) c (Xd6 _)
  simp at au
  simp [au]
  rw [show Value.slice (some ⟨b,0,none⟩) (Zw L i) (Zw L i)=(Sl.at b (Zw L i) (Zw L i)).v from rfl]
  have aG:=tp.ft
  refine tp.step c aE o4 e4 aF (by omega) ?_
  intro h5 aH m5
  simp [w1]
  refine ⟨⟨i+1,_,_,_,_,_,_,_,_,_,_,_,_,_,_,_,_,_,_,_,_,_,_,_,_,_,_,_,rfl,by omega,aH,?_⟩,by simp [Zo]; omega⟩
  exact Mod.ext (e3.trans e4) m5 (fun j H=>by omega)
 have c':¬ (i:Int)<L.length:=by omega
 obtain rfl:i=L.length:=by omega
 have td:=tp.told
 have aG:=tp.ft
 simp [c']
 by_cases c1:s.n=0
 ·have aI:l=[]:=Xe3 (by omega)
  subst aI
  have a7:((s.n:Int)=0)=True:=by simp [c1]
  simp [c1]
  refine hr Z Z.size tb bt c0 x3 ?_
  exact ⟨td.own,td.row,⟨by omega,by omega⟩,fun i hi=>by have:=td.fr i hi; omega,td.dj⟩
 simp [c1]
 have av:∀ i,i<L.length->(Zq L i).length<=1000000:=fun i hi=>by
  have:=(Xi pk hi).1
  omega
 refine Zfg X.O (ov.ext x3) (by omega) av ?_
 intro h4 u e4 fu
 have z4:=e4.size
 have x4:=x3.trans e4
 simp [X0]
 refine Zly D.C.Net D.C.Cl (g.ext x4) ok.small ?_
 intro h5 s1 s2 s3 e5 fn
 have z5:=e5.size
 have x5:=x4.trans e5
 simp [Yo]
 refine Yr (vs:=#[s1.v,s2.v,s3.v]) rfl rfl (by simp) ?_
 intro B a8 gB aJ aK stB
 simp
 refine stB _ ?_
 intro h6 B6 e6
 clear stB aJ aK
 have z6:=e6.size
 have x6:=x5.trans e6
 simp
 refine Zj (Xct p op tb B u.v s N L l bt h1.size Z.size h6) (fun e _=>l.length-Zo e 20) ⟨0,_,_,_,_,_,_,_,_,_,_,_,_,_,_,_,_,_,_,_,_,_,_,_,rfl,by omega,?_,Mod.refl _⟩ ?_
 ·refine X8.congr (((td.ext e4).ext e5).ext e6) ?_
  intro i c _ _
  simp [V6]
 rintro e h7 ⟨i,v3,v4,v5,v7,aA,af,ag,ah,aL,aM,ai,aj,ak,al,am,an,ao,ap,aB,aC,aD,aq,ar,rfl,hi,t7,m7⟩
 have z7:=m7.size
 have x7:Ext h h7:=Mod.ext x6 m7 (fun j H=>by omega)
 by_cases c:i<l.length
 rotate_left
 ·have c':¬ (i:Int)<s.n:=by omega
  obtain rfl:i=l.length:=by omega
  rw [Xfl] at t7
  simp [c']
  refine hr h7 Z.size tb bt c0 x7 ?_
  exact ⟨t7.own,t7.row,⟨by omega,t7.ft.2⟩,fun i hi=>by have:=t7.fr i hi; omega,t7.dj⟩
 have c':(i:Int)<s.n:=by omega
 have aN:i<s.n:=by omega
 have w1:IntKind.i64.wrap ((i:Int)+1)=(i:Int)+1:=Ze (by omega)
 have rc:=(q.ext' x7).val i c
 have ab:Vs N (Yf l i)=0:=Qt (hb i c)
 have I:∀ j k,V6 N L (l.take (i+1)) j k=(V6 N L (l.take i) j k || Zb8 N L (Yf l i) j k):=fun j k=>Zr1 c
 generalize Yf l i=cc at rc ab I
 obtain ⟨kd,a,ii,o,w⟩:=cc
 simp only at rc
 simp [c',aN,Zb q.ok,rc]
 refine Yr (vs:=#[.int .i64 kd,.int .i64 a,.int .i64 ii,.int .i64 o,.int .i64 w]) rfl rfl (by simp) ?_
 intro C a9 gC aO aP stC
 simp
 refine stC _ ?_
 intro h8 C8 e8
 clear stC aO aP
 have z8:=e8.size
 have x8:=x7.trans e8
 have t8:=t7.ext e8
 have m8:Mod (fun j=>h1.size<=j/\j<Z.size) h6 h8:=m7.trans (e8.mono fun _ _ h=>h.elim)
 have r:∀ k,Mod (fun j=>h1.size<=j/\j<Z.size) h8 k->Ql k u L:=fun k mk=>by
  refine fu k ?_
  refine (((e5.trans e6).mono fun _ _ h=>h.elim).trans (m8.mono fun j _ H=>?_)).trans (mk.mono fun j _ H=>?_) <;> omega
 simp [C8.hc]
 by_cases k1:kd=1
 ·obtain ⟨a',J,aQ,hw,w0,sn⟩:=Zfl ab k1
  simp only at J
  have va:Zt N.as.length a=true:=by simp [Zt]; omega
  have aR:Zl N a=(Zf N.as a').c:=by unfold Zl; rw [if_pos va,J]; rfl
  have aS:Zcq N a=(Zf N.as a').a:=by unfold Zcq; rw [if_pos va,J]; rfl
  have aT:toV N a=(Zf N.as a').b:=by unfold toV; rw [if_pos va,J]; rfl
  simp [k1,C8.hc]
  refine U0 X.Wt D.GS.arc (g.ext x8) ?_
  rw [aR]
  simp [C8.hc]
  have h1t:∀ j k,Zb8 N L ⟨kd,a,ii,o,w⟩ j k=(decide ((Zf N.as a').c≠w) && decide (Zc (Zq L j) (Zf N.as a').a.toNat=(k:Int)/\Zc (Zq L j) (Zf N.as a').b.toNat=(k:Int))):=fun j k=>by
   simp [Zb8,k1,J]
  by_cases k2:(Zf N.as a').c=w
  ·simp [k2,w1]
   refine ⟨⟨i+1,_,_,_,_,_,_,_,_,_,_,_,_,_,_,_,_,_,_,_,_,_,_,_,rfl,by omega,t8.congr (fun j d H hd=>?_),m8⟩,by simp [Zo]; omega⟩
   rw [I,h1t]
   simp [k2]
  simp [k2,C8.hc]
  refine Zbm X.O.From D.GS.arc (g.ext x8) ?_
  rw [aS]
  simp [C8.hc]
  refine Zak X.O.GO.R.G.To D.GS.arc (g.ext x8) ?_
  rw [aT]
  obtain ⟨y1,y2⟩:=ok.arcs a' aQ
  simp only [Zt,decide_eq_true_eq] at y1 y2
  obtain ⟨x,hx⟩:∃ x:Nat,(Zf N.as a').a=x:=⟨(Zf N.as a').a.toNat,by omega⟩
  obtain ⟨y,hy⟩:∃ y:Nat,(Zf N.as a').b=y:=⟨(Zf N.as a').b.toNat,by omega⟩
  simp [hx,hy]
  refine Zms X t8 (r h8 (Mod.refl _)) pk (by omega) (by omega) r ?_
  intro h9 m9 t9
  simp [w1]
  refine ⟨⟨i+1,_,_,_,_,_,_,_,_,_,_,_,_,_,_,_,_,_,_,_,_,_,_,_,rfl,by omega,t9.congr (fun j d H hd=>?_),m8.trans m9⟩,by simp [Zo]; omega⟩
  rw [I,h1t]
  simp [Zwi,k2,hx,hy]
 ·obtain ⟨k2,t,A,B',o',J,ei,eo,lt,ho,l1,l2,lp,hw,w0,sn⟩:=Zby ok ab k1
  simp only at k2 J ei eo
  have B8:=m8.blk B6 (by omega)
  have nh:∀ k,Mod (fun j=>h1.size<=j/\j<Z.size) h8 k->Uo k s1 s2 s3 N:=fun k mk=>by
   refine fn k ?_
   refine ((e6.mono fun _ _ h=>h.elim).trans (m8.mono fun j _ H=>?_)).trans (mk.mono fun j _ H=>?_) <;> omega
  have n8:=nh h8 (Mod.refl _)
  have ba:=n8.rt.len
  obtain ⟨uu,aU,_,ru⟩:=n8.rt.rd (i:=t) lt
  have la:(t:Int)<s3.n:=by omega
  have aV:t<s3.n:=by omega
  simp [k1,k2,C8.hc,B8.hc,J,Zb n8.rt.ok,la,aV,aU]
  rw [show (Value.agg #[.int .i64 (Zp N.ts t).i,.int .i64 (Zp N.ts t).o,uu.v])=Zel (Zp N.ts t).i (Zp N.ts t).o uu from rfl]
  refine Zwe D.T ru ?_
  intro h9 e9
  have x9:=x8.trans e9
  have z9:=e9.size
  have t9:=t8.ext e9
  have m9:Mod (fun j=>h1.size<=j/\j<Z.size) h8 h9:=e9.mono fun _ _ h=>h.elim
  have C9:=C8.ext e9
  have B9:=B8.ext e9
  have h1t:∀ j k,Zb8 N L ⟨kd,a,ii,o,w⟩ j k=(decide (atV (Zp N.ts t).i (Zp N.ts t).o (Zp N.ts t).cs ii o≠w) && (List.range N.vs.length).any fun v=>decide ((Zf N.vs v).c=(t:Int)) && decide (Zc (Zq L j) v=(k:Int))):=fun j k=>by
   simp [Zb8,k1,J]
  simp [C9.hc]
  by_cases k3:atV (Zp N.ts t).i (Zp N.ts t).o (Zp N.ts t).cs ii o=w
  ·simp [k3,w1]
   refine ⟨⟨i+1,_,_,_,_,_,_,_,_,_,_,_,_,_,_,_,_,_,_,_,_,_,_,_,rfl,by omega,t9.congr (fun j d H hd=>?_),m8.trans m9⟩,by simp [Zo]; omega⟩
   rw [I,h1t]
   simp [k3]
  simp [k3,B9.hc]
  refine Zj (Xdi p op tb B C i u.v s s1 N L t (V6 N L (l.take i)) bt h1.size Z.size h9) (fun e _=>N.vs.length-Zo e 29) ⟨0,_,_,_,_,_,_,_,_,_,_,_,_,_,_,_,_,_,_,_,rfl,by omega,t9.congr (fun j d H hd=>by simp),Mod.refl _⟩ ?_
  rintro e aW ⟨v,v3,v4,v5,v7,af,ag,ah,aL,aM,ai,aj,ak,al,am,an,ao,ap,aq,ar,rfl,hv,aw,U⟩
  have ac:=nh aW (m9.trans U)
  have lv:=ac.rv.len
  by_cases d:v<N.vs.length
  rotate_left
  ·have d':¬ (v:Int)<s1.n:=by omega
   obtain rfl:v=N.vs.length:=by omega
   simp [d',w1]
   refine ⟨⟨i+1,_,_,_,_,_,_,_,_,_,_,_,_,_,_,_,_,_,_,_,_,_,_,_,rfl,by omega,aw.congr (fun j d H hd=>?_),(m8.trans m9).trans U⟩,by simp [Zo]; omega⟩
   rw [I,h1t]
   simp [k3]
  have d':(v:Int)<s1.n:=by omega
  have aX:v<s1.n:=by omega
  have wv:IntKind.i64.wrap ((v:Int)+1)=(v:Int)+1:=Ze (by omega)
  simp [d',aX,Zb ac.rv.ok,ac.rv.rd d]
  refine Yr (vs:=#[.int .i64 (Zf N.vs v).a,.int .i64 (Zf N.vs v).b,.int .i64 (Zf N.vs v).c]) rfl rfl (by simp) ?_
  intro V bb gV aY aZ ax
  simp
  refine ax _ ?_
  intro ay V11 ad
  clear ax aY aZ
  have bc:=U.size
  have C11:=(U.blk C9 (by omega)).ext ad
  have az:=aw.ext ad
  have aa:Mod (fun j=>h1.size<=j/\j<Z.size) h9 ay:=U.trans (ad.mono fun _ _ h=>h.elim)
  simp [V11.hc,C11.hc]
  by_cases k4:(Zf N.vs v).c=(t:Int)
  rotate_left
  ·simp [k4,wv,J]
   refine ⟨⟨v+1,_,_,_,_,_,_,_,_,_,_,_,_,_,_,_,_,_,_,_,rfl,by omega,az.congr (fun j d H hd=>?_),aa⟩,by simp [Zo]; omega⟩
   simp [Xf1,k4]
  simp [k4,J]
  refine Zms X az (r ay (m9.trans aa)) pk d d (fun k mk=>r k ((m9.trans aa).trans mk)) ?_
  intro bd a0 a1
  simp [wv]
  refine ⟨⟨v+1,_,_,_,_,_,_,_,_,_,_,_,_,_,_,_,_,_,_,_,rfl,by omega,a1.congr (fun j d H hd=>?_),aa.trans a0⟩,by simp [Zo]; omega⟩
  simp [Xf1,k4,Zwi,Bool.or_assoc]
end
def Z7t (N:Zg) (row:List Int) (c:Nat) (a:Nat):Bool:=decide (Zc row (Zf N.as a).a.toNat=(c:Int)) && decide (Zc row (Zf N.as a).b.toNat=(c:Int))
def Z74 (row:List Int) (c:Nat) (v:Nat):Bool:=decide (Zc row v=(c:Int))
def Zht (a b:Tab):Bool:=decide (a.i=b.i/\a.o=b.o/\a.cs=b.cs)
def Zoo (N M:Zg) (L:List (List Int)) (i k:Nat):Bool :=
 ((List.range N.as.length).any fun a=>Z7t N (Zq L i) k a && decide ((Zf N.as a).c≠(Zf M.as a).c)) ||
 (List.range N.vs.length).any fun v=>Z74 (Zq L i) k v && !Zht (Zp N.ts (Zf N.vs v).c.toNat) (Zp M.ts (Zf N.vs v).c.toNat)
theorem Zvm {N:Zg} {l:List Ym} {i:Nat} (h:W5 N l i=0) {j:Nat} (r:j<i):Wo (Yf l j) (Yf l i)=false:=by
 unfold W5 at h
 split at h
 ·rename_i q; exact absurd h q
 ·split at h
  ·cases h
  ·rename_i q
   cases k:Wo (Yf l j) (Yf l i) with
   | false=>rfl
   | true=>exact absurd (Ze4.2 ⟨j,r,k⟩) q
theorem Zwg {N:Zg} {c:Ym} (h:Vs N c=0) (r:c.kd=1):c.i=0/\c.o=0:=by
 unfold Vs at h
 rw [if_pos r] at h
 split at h
 ·cases h
 ·omega
theorem Zx3 {N:Zg} (Z:Yd N) {l:List Ym} (hb:∀ i,i<l.length->W5 N l i=0) {a:Nat} (ha:a<N.as.length):∀ i,i<=l.length ->
  ((∀ j,j<i->(Yf l j).kd=1->(Yf l j).a≠a)->(Zf (Yu N (l.take i)).as a).c=(Zf N.as a).c) /\
  (∀ j,j<i->(Yf l j).kd=1->(Yf l j).a=a->(Zf (Yu N (l.take i)).as a).c=(Yf l j).w):=by
 intro i
 induction i with
 | zero=>intro _; exact ⟨fun _=>rfl,fun j M=>by omega⟩
 | succ i ih =>
  intro hi
  obtain ⟨p1,p2⟩:=ih (by omega)
  have J:i<l.length:=by omega
  have V:=Za8 (l:=l.take i) Z
  have O:∀ x,x∈l.take i->Vs N x=0:=fun x hx=>by
   obtain ⟨k,G,e⟩:=List.mem_iff_getElem.1 (Xgv hx)
   have:=Qt (hb k G)
   rwa [show Yf l k=x by simp [Yf,G,e]] at this
  have dm:=Q6 (l:=l.take i) Z O
  have I:=Qt (hb i J)
  have R:Vs (Yu N (l.take i)) (Yf l i)=0:=by rw [dm.one]; exact I
  rw [Zb5 J]
  generalize hK:Yu N (l.take i)=K at *
  unfold chN
  by_cases G:(Yf l i).kd=1
  ·rw [if_pos G]
   obtain ⟨a',ea,X,_,_,e⟩:=Zfl R G
   rw [e]
   simp only
   rw [Zet X]
   by_cases q:a=a'
   ·rw [if_pos q]
    refine ⟨fun U=>absurd (by rw [ea,q]) (U i (by omega) G),fun j M D H=>?_⟩
    by_cases r:j=i
    ·rw [r]
    ·exfalso
     have ks:=Zvm (hb i J) (j:=j) (by omega)
     have o1:=Zwg (Qt (hb j (by omega))) D
     have o2:=Zwg I G
     simp only [Wo,decide_eq_false_iff_not] at ks
     exact ks ⟨by omega,by omega,by omega,by omega⟩
   ·rw [if_neg q]
    refine ⟨fun U=>p1 (fun j M=>U j (by omega)),fun j M D H=>?_⟩
    by_cases r:j=i
    ·subst r; exact absurd (by omega) q
    ·exact p2 j (by omega) D H
  ·rw [if_neg G]
   obtain ⟨_,t,A,B,o,_,_,_,lt,_,_,_,_,_,_,e⟩:=Zby V R G
   rw [e]
   refine ⟨fun U=>p1 (fun j M=>U j (by omega)),fun j M D H=>?_⟩
   by_cases r:j=i
   ·subst r; exact absurd D G
   ·exact p2 j (by omega) D H
def Zsx (N:Zg) (c:Ym):Nat:=(c.i * (Zp N.ts c.a.toNat).o+c.o).toNat
theorem Zg4 {N:Zg} (J:Yd N) {c:Ym} (h:Vs N c=0) (O:c.kd≠1):∃ t A B o:Nat,c.a=t/\c.i=A/\c.o=B/\t<N.ts.length/\(Zp N.ts t).o=o/\B<o/\Zsx N c=A * o+B/\A * o+B<(Zp N.ts t).cs.length/\Yi c.w=true /\
  Zaw N c.a c.i c.o c.w = { N with ts:=N.ts.set t ⟨(Zp N.ts t).i,(Zp N.ts t).o,(Zp N.ts t).cs.set (A * o+B) c.w⟩ }/\atV (Zp N.ts t).i (Zp N.ts t).o (Zp N.ts t).cs c.i c.o=Zc (Zp N.ts t).cs (A * o+B):=by
 obtain ⟨X,t,A,B,o,M,D,G,lt,r,Z,R,U,V,w0,sn⟩:=Zby J h O
 have hp:((A:Int) * (o:Int)+(B:Int)).toNat=A * o+B:=by
  have:(A:Int) * (o:Int)+(B:Int)=((A * o+B:Nat):Int):=by simp
  rw [this]; rfl
 refine ⟨t,A,B,o,M,D,G,lt,r,R,?_,U,V,sn,?_⟩
 ·unfold Zsx
  rw [M,D,G,Xd9,r]
  exact hp
 ·have H:=J.tab t lt
  rw [D,G]
  unfold atV
  have s0:(Xy (Zp N.ts t).i (Zp N.ts t).o).2=0:=by
   unfold Qr Uc at H
   split at H
   ·rename_i q; exact absurd H q
   ·rename_i q; exact Xey q
  rw [if_neg (by rw [r]; rintro (q | q | q | q | q) <;> first | omega | (rw [r] at s0; exact q s0))]
  have I:(A:Int) * (o:Int)+(B:Int)=((A * o+B:Nat):Int):=by simp
  rw [r,if_pos (by rw [I]; omega)]
  rw [hp]
theorem Z0z {A B A' B' o:Nat} (h:A * o+B=A' * o+B') (D:B<o) (r:B'<o):A=A'/\B=B':=by
 rcases Xgb A A' with q | q | q
 ·have:=Xe7 o (show A+1<=A' by omega)
  rw [Xet] at this
  omega
 ·subst q; omega
 ·have:=Xe7 o (show A'+1<=A by omega)
  rw [Xet] at this
  omega
theorem Z2j {l:List Int} {i:Nat} {x:Int} (h:Zc l i=x):l.set i x=l:=by
 apply Xem
 ·simp
 ·intro k h1 r
  rw [Xe9]
  split
  ·rename_i e; subst e; rw [<-h]; simp [Zc,r]
  ·rfl
theorem Zx4 {N:Zg} (R:Yd N) {l:List Ym} (hb:∀ i,i<l.length->W5 N l i=0) {t:Nat} (ht:t<N.ts.length):∀ i,i<=l.length ->
  ((∀ j,j<i->(Yf l j).kd≠1->(Yf l j).a=t->Zc (Zp N.ts t).cs (Zsx N (Yf l j))=(Yf l j).w)->Zp (Yu N (l.take i)).ts t=Zp N.ts t) /\
  (∀ j,j<i->(Yf l j).kd≠1->(Yf l j).a=t->Zc (Zp (Yu N (l.take i)).ts t).cs (Zsx N (Yf l j))=(Yf l j).w)/\(Zp (Yu N (l.take i)).ts t).cs.length=(Zp N.ts t).cs.length:=by
 intro i
 induction i with
 | zero=>intro _; exact ⟨fun _=>rfl,fun j M=>by omega,rfl⟩
 | succ i ih =>
  intro hi
  obtain ⟨Z,p2,p3⟩:=ih (by omega)
  have J:i<l.length:=by omega
  have aa:=Za8 (l:=l.take i) R
  have U:∀ x,x∈l.take i->Vs N x=0:=fun x hx=>by
   obtain ⟨k,H,e⟩:=List.mem_iff_getElem.1 (Xgv hx)
   have:=Qt (hb k H)
   rwa [show Yf l k=x by simp [Yf,H,e]] at this
  have dm:=Q6 (l:=l.take i) R U
  have I:=Qt (hb i J)
  have V:Vs (Yu N (l.take i)) (Yf l i)=0:=by rw [dm.one]; exact I
  rw [Zb5 J]
  generalize hK:Yu N (l.take i)=K at *
  unfold chN
  by_cases H:(Yf l i).kd=1
  ·rw [if_pos H]
   obtain ⟨a',ea,ad,_,_,e⟩:=Zfl V H
   rw [e]
   refine ⟨fun O=>Z (fun j M=>O j (by omega)),fun j M D G=>?_,p3⟩
   by_cases r:j=i
   ·subst r; exact absurd H D
   ·exact p2 j (by omega) D G
  ·rw [if_neg H]
   obtain ⟨t',A,B,o,ea,ei,eo,lt,ho,lB,hp,lp,_,e,_⟩:=Zg4 aa V H
   have X:Zsx N (Yf l i)=A * o+B:=by
    rw [<-hp]; unfold Zsx; rw [(dm.tb _).2]
   rw [e]
   simp only
   rw [Zgz lt]
   by_cases q:t=t'
   ·rw [if_pos q]
    subst q
    refine ⟨fun O=>?_,fun j M D G=>?_,by simpa using p3⟩
    ·have e1:=Z (fun j M=>O j (by omega))
     have e2:=O i (by omega) H ea
     rw [e1,Z2j (by rw [<-X]; exact e2)]
    ·simp only
     by_cases r:j=i
     ·subst r
      rw [X,Vr lp,if_pos rfl]
     ·have ks:=Zvm (hb i J) (j:=j) (by omega)
      obtain ⟨t2,A2,B2,o2,ae,af,ag,ah,ai,ab,ac,aj,_,_,_⟩:=Zg4 R (Qt (hb j (by omega))) D
      have:t2=t:=by omega
      subst this
      have ak:=(dm.tb t2).2
      have oo:o2=o:=by omega
      subst oo
      rw [Vr lp,if_neg (fun e=>?_)]
      ·exact p2 j (by omega) D G
      ·rw [ac] at e
       obtain ⟨x1,x2⟩:=Z0z e ab lB
       simp only [Wo,decide_eq_false_iff_not] at ks
       have k1:(Yf l j).kd=2:=(Zby R (Qt (hb j (by omega))) D).1
       have k2:(Yf l i).kd=2:=(Zby R I H).1
       exact ks ⟨by omega,by omega,by omega,by omega⟩
   ·rw [if_neg q]
    refine ⟨fun O=>Z (fun j M=>O j (by omega)),fun j M D G=>?_,p3⟩
    by_cases r:j=i
    ·subst r; exact absurd (by omega) q
    ·exact p2 j (by omega) D G
theorem Z3q {l:List Ym} {c:Ym} (h:c∈l):∃ j,j<l.length/\Yf l j=c:=by
 obtain ⟨k,r,e⟩:=List.mem_iff_getElem.1 h
 exact ⟨k,r,by simp [Yf,r,e]⟩
theorem Zru {l:List Ym} {j:Nat} (h:j<l.length):Yf l j∈l:=by
 rw [show Yf l j=l[j] by simp [Yf,h]]; exact Xeo h
theorem Z3o {N:Zg} (R:Yd N) {l:List Ym} (hz:(Xw N l).2=0) {L:List (List Int)} {i k:Nat}:V6 N L l i k=Zoo N (Yu N l) L i k:=by
 obtain ⟨_,hb⟩:=Zed hz
 have G:=fun {a:Nat} (X:a<N.as.length)=>Zx3 R hb X l.length (Xd6 _)
 have I:=fun {t:Nat} (ht:t<N.ts.length)=>Zx4 R hb ht l.length (Xd6 _)
 rw [Xfl] at G I
 rw [Xf5]
 unfold V6 Zoo
 simp only [Xg6,Bool.or_eq_true,Xec,Xg5,Z7t,Z74,decide_eq_true_eq]
 constructor
 ·rintro ⟨c,hc,ht⟩
  obtain ⟨j,H,rfl⟩:=Z3q hc
  have U:=Qt (hb j H)
  unfold Zb8 at ht
  by_cases r:(Yf l j).kd=1
  ·rw [if_pos r] at ht
   simp only [Xec,decide_eq_true_eq] at ht
   obtain ⟨h1,O,J⟩:=ht
   obtain ⟨a,D,la,_⟩:=Zfl U r
   rw [D,Xd9] at h1 O J
   refine .inl ⟨a,la,⟨O,J⟩,?_⟩
   rw [(G la).2 j H r D]
   exact h1
  ·rw [if_neg r] at ht
   simp only [Xec,decide_eq_true_eq,Xg6,Xg5] at ht
   obtain ⟨h1,v,hv,O,J⟩:=ht
   obtain ⟨t,A,B,o,D,ei,eo,lt,ho,lB,hp,lp,_,_,M⟩:=Zg4 R U r
   rw [D,Xd9,M] at h1
   refine .inr ⟨v,hv,J,?_⟩
   rw [O,D,Xd9]
   simp only [Xfm,Zht,decide_eq_false_iff_not]
   rintro ⟨_,_,e⟩
   have:=(I lt).2.1 j H r D
   rw [<-e,hp] at this
   exact h1 this
 ·rintro (⟨a,X,⟨O,J⟩,h1⟩ | ⟨v,hv,J,h1⟩)
  ·by_cases q:∃ j,j<l.length/\(Yf l j).kd=1/\(Yf l j).a=a
   ·obtain ⟨j,H,r,D⟩:=q
    refine ⟨Yf l j,Zru H,?_⟩
    unfold Zb8
    rw [if_pos r,D,Xd9]
    simp only [Xec,decide_eq_true_eq]
    refine ⟨?_,O,J⟩
    rw [<-(G X).2 j H r D]
    exact h1
   ·exact absurd ((G X).1 (fun j H r D=>q ⟨j,H,r,D⟩)).symm h1
  ·have Z:=R.vt v hv
   simp only [Zt,decide_eq_true_eq] at Z
   have ht:(Zf N.vs v).c.toNat<N.ts.length:=by omega
   by_cases q:∃ j,j<l.length/\(Yf l j).kd≠1/\(Yf l j).a=(Zf N.vs v).c.toNat/\Zc (Zp N.ts (Zf N.vs v).c.toNat).cs (Zsx N (Yf l j))≠(Yf l j).w
   ·obtain ⟨j,H,r,aa,V⟩:=q
    refine ⟨Yf l j,Zru H,?_⟩
    obtain ⟨t,A,B,o,D,ei,eo,lt,ho,lB,hp,lp,_,_,M⟩:=Zg4 R (Qt (hb j H)) r
    unfold Zb8
    rw [if_neg r]
    simp only [Xec,decide_eq_true_eq,Xg6,Xg5]
    have tt:(Zf N.vs v).c.toNat=t:=by omega
    rw [tt,hp] at V
    refine ⟨?_,v,hv,by omega,J⟩
    rw [D,Xd9,M]
    exact V
   ·have e:=(I ht).1 (fun j H r D=>Xey fun hn=>q ⟨j,H,r,D,hn⟩)
    rw [e] at h1
    simp [Zht] at h1
end Go.Rm
