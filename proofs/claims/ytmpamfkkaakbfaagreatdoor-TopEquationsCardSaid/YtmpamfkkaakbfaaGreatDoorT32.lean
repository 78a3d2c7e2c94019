import Derived.Test.YtmpamfkkaakbfaaGreatDoorT31
import Derived.Test.YtmpamfkkaakbfaaGreatDoorT27
import Derived.Test.YtmpamfkkaakbfaaGreatDoorT02
import Derived.Test.YtmpamfkkaakbfaaGreatDoorT22
/- Parts RFill1 RFill2 RFill3 RFill4 -/
set_option linter.unusedSimpArgs false
set_option linter.unusedVariables false
namespace Go.Rm
structure Zz7 (Y:Sys):Prop where
 H:Z69 Y
 C:Zit Y
 Clear:Y.Has 12 Y12
 tell:Y.Has 439 Y439
 least:Y.Has 397 Y397
def Z48 (x:Yp):Value:=.agg #[.int .i64 x.a,.int .i64 x.b,.int .i64 x.c]
structure LeJ where
 Br:Nat
 Bd:Nat
 Bh:Nat
 Bf:Nat
 db:Nat
 cb:Nat
 hp:Nat
 o:Nat
 outs:Nat
 n:Nat
 P:Nat
 lo:Nat
structure LeK (J:LeJ):Prop where
 l1:J.lo<=J.Br
 l3:J.lo<=J.Bd
 l4:J.lo<=J.Bh
 l5:J.lo<=J.db
 l6:J.lo<=J.cb
 l7:J.lo<=J.Bf
 c1:J.Br≠J.cb
 c3:J.Bd≠J.cb
 c4:J.Bh≠J.cb
 c5:J.db≠J.cb
 c7:J.Bf≠J.cb
 d1:J.Br≠J.db
 d3:J.Bd≠J.db
 d4:J.Bh≠J.db
 d7:J.Bf≠J.db
 on:J.o+J.outs<=J.n
 bn:J.n<=268435456
 bP:J.P<=16384
structure LeQ (h:Za) (J:LeJ) (vf:Array Value) (dn:List Bool) (L:List Int) (A:Uk) (S:Nat->Prop):Prop where
 br:Ys h J.Br #[.slice (some ⟨J.cb,J.o,none⟩) J.outs (J.n-J.o)]
 bd:Ys h J.Bd #[.slice (some ⟨J.db,0,none⟩) J.P J.P]
 bh:Ys h J.Bh #[.pointer (some ⟨J.hp,0,none⟩)]
 bf:Ys h J.Bf vf
 dn:Yb h 1 (Sl.at J.db J.P J.P) (Va dn)
 cs:Yb h 1 (Sl.at J.cb J.n J.n) (Zh L)
 hp:U4 h J.hp J.P A S
 dj:∀ b,S b->J.lo<=b/\b≠J.Br/\b≠J.Bd/\b≠J.Bh/\b≠J.Bf/\b≠J.db/\b≠J.cb
structure LeH (h:Za) (J:LeJ) (vf:Array Value) (Bs:Nat) (sum:Int) (dn:List Bool) (L:List Int) (A:Uk) (S:Nat->Prop):Prop where
 q:LeQ h J vf dn L A S
 bs:Ys h Bs #[.int .i64 sum]
 sb:J.lo<=Bs/\Bs≠J.cb
 ds:∀ b,S b->b≠Bs
section
variable {Y:Sys} {h h':Za} {J:LeJ} {vf:Array Value} {Bs:Nat} {sum:Int} {dn:List Bool} {L:List Int} {A:Uk} {S:Nat->Prop}
theorem LeQ.ext (k:LeQ h J vf dn L A S) (e:Ext h h'):LeQ h' J vf dn L A S :=
 ⟨k.br.ext e,k.bd.ext e,k.bh.ext e,k.bf.ext e,k.dn.ext' e,k.cs.ext' e,k.hp.mod e (fun _ _ h=>h),k.dj⟩
theorem LeH.ext (k:LeH h J vf Bs sum dn L A S) (e:Ext h h'):LeH h' J vf Bs sum dn L A S:=⟨k.q.ext e,k.bs.ext e,k.sb,k.ds⟩
theorem LeH.setC {L':List Int} (k:LeH h J vf Bs sum dn L A S) (j:LeK J) (m:Mod (fun i=>i=J.cb) h h') (o:Yb h' 1 (Sl.at J.cb J.n J.n) (Zh L')):LeH h' J vf Bs sum dn L' A S :=
 ⟨⟨m.blk k.q.br j.c1,m.blk k.q.bd j.c3,m.blk k.q.bh j.c4,m.blk k.q.bf j.c7,k.q.dn.mod m (fun _=>j.c5),o,k.q.hp.mod m (fun b hb e=>(k.q.dj b hb).2.2.2.2.2.2 e),k.q.dj⟩,m.blk k.bs k.sb.2,k.sb,k.ds⟩
theorem LeQ.mark {d:List Bool} (k:LeQ h J vf dn L A S) (j:LeK J) (m:Mod (fun i=>i=J.db) h h') (o:Yb h' 1 (Sl.at J.db J.P J.P) (Va d)):LeQ h' J vf d L A S :=
 ⟨m.blk k.br j.d1,m.blk k.bd j.d3,m.blk k.bh j.d4,m.blk k.bf j.d7,o,k.cs.mod m (fun _ e=>j.c5 e.symm),k.hp.mod m (fun b hb e=>(k.dj b hb).2.2.2.2.2.1 e),k.dj⟩
theorem LeQ.heap {A':Uk} {S':Nat->Prop} (k:LeQ h J vf dn L A S) (j:LeK J) (m:Mod S h h') (H:U4 h' J.hp J.P A' S') (f:∀ b,S' b->S b\/h.size<=b):LeQ h' J vf dn L A' S':=by
 have G:=k.br.lt
 have I:=k.bd.lt
 have M:=k.bh.lt
 have O:=k.bf.lt
 have r:=k.dn.lt rfl
 have D:=k.cs.lt rfl
 have R:=j.l1
 simp at r D
 refine ⟨m.blk k.br (fun q=>(k.dj _ q).2.1 rfl),m.blk k.bd (fun q=>(k.dj _ q).2.2.1 rfl),m.blk k.bh (fun q=>(k.dj _ q).2.2.2.1 rfl),m.blk k.bf (fun q=>(k.dj _ q).2.2.2.2.1 rfl),k.dn.mod m (fun _ q=>(k.dj _ q).2.2.2.2.2.1 rfl),k.cs.mod m (fun _ q=>(k.dj _ q).2.2.2.2.2.2 rfl),H,fun b hb=>?_⟩
 rcases f b hb with q | q
 ·exact k.dj b q
 ·exact ⟨by omega,by omega,by omega,by omega,by omega,by omega,by omega⟩
theorem LeH.heap {A':Uk} {S':Nat->Prop} (k:LeH h J vf Bs sum dn L A S) (j:LeK J) (m:Mod S h h') (H:U4 h' J.hp J.P A' S') (f:∀ b,S' b->S b\/h.size<=b):LeH h' J vf Bs sum dn L A' S' :=
 ⟨k.q.heap j m H f,m.blk k.bs (fun q=>k.ds _ q rfl),k.sb,fun b hb=>by
  have:=k.bs.lt
  rcases f b hb with q | q
  ·exact k.ds b q
  ·omega⟩
def Z1d (Y:Sys) (J:LeJ) (Bs:Nat):Value:=.func (.func (Y.fid 439)) #[] #[.pointer (some ⟨J.Br,0,none⟩),.pointer (some ⟨Bs,0,none⟩),.pointer (some ⟨J.Bd,0,none⟩),.pointer (some ⟨J.Bh,0,none⟩)]
theorem Zyu (X:Zz7 Y) (j:LeK J) (k:LeH h J vf Bs sum dn L A S) {x:Yp} (lL:L.length=J.n) (I:dn.length=J.P) (s0:0<=sum/\sum<=Xr) (c0:0<=x.c/\x.c<=2305843009213693952) (xo:x.b<J.outs) (xt:x.b<0->0<=x.a/\x.a<J.P)
  {R:Value->Za->Prop}
  (hO:∀ (o:Nat) h',x.b=(o:Int)->Mod (fun i=>J.lo<=i) h h'->LeH h' J vf Bs sum dn (L.set (J.o+o) (if sum+x.c<Zc L (J.o+o) then sum+x.c else Zc L (J.o+o))) A S->R (.tuple #[]) h')
  (hD:∀ (b:Nat) h',x.b<0->x.a=(b:Int)->b<J.P->Zdx dn b=true->Ext h h'->R (.tuple #[]) h')
  (hP:∀ (b:Nat) h' S',x.b<0->x.a=(b:Int)->b<J.P->Zdx dn b=false->Mod (fun i=>J.lo<=i) h h'->LeH h' J vf Bs sum dn L (Zbi J.P A b (Vc (sum+x.c))) S'->R (.tuple #[]) h') :
  Zn6 Y (Z1d Y J Bs) [Z48 x] h R:=by
 have hI:Xr=1152921504606846976:=rfl
 have bn:=j.bn
 have on:=j.on
 have bP:=j.bP
 have g1:=j.l1
 refine ⟨X.tell.1,?_⟩
 have:Zm Y 439 [Z48 x,.pointer (some ⟨J.Br,0,none⟩),.pointer (some ⟨Bs,0,none⟩),.pointer (some ⟨J.Bd,0,none⟩),.pointer (some ⟨J.Bh,0,none⟩)] h R:=by
  refine .of_has X.tell rfl ?_
  simp [Y439,Xa.wp,Z48]
  refine Zd ?_
  intro B h1 gB B1 r
  replace B1:Ys h1 B #[.int .i64 x.a,.int .i64 x.b,.int .i64 x.c]:=B1
  have z1:=r.size
  have k1:=k.ext r
  have U:IntKind.i64.wrap (sum+x.c)=sum+x.c:=Ze (by omega)
  simp [B1.hc]
  by_cases c:0<=x.b
  ·obtain ⟨o,V⟩:∃ o:Nat,x.b=o:=⟨x.b.toNat,by omega⟩
   have lo:o<J.outs:=by omega
   have Z:=k1.q.cs.row64.val (J.o+o) (by omega)
   simp at Z
   have hi:∀ g,Yg.sem Y g (.idxa 1) [.slice (some ⟨J.cb,J.o,none⟩) J.outs (J.n-J.o),.int .i64 o]=some (.pointer (some ⟨J.cb,J.o+o,none⟩)):=fun g=>by
    have:=Zb (Y:=Y) (h:=g) (s:=⟨J.cb,J.o,J.outs,J.n-J.o,false,none⟩) (sz:=1) (k:=.i64) (i:=(o:Int)) ⟨fun h=>(by cases h),by simp; omega,.inl rfl⟩ (by omega) (by simp; omega)
    simpa [Sl.v] using this
   simp [V,k1.q.br.hc,k1.bs.hc,B1.hc,lo,Z,U,hi]
   refine Zlf k1.q.cs (k:=J.o+o) (by simp; omega) ?_
   intro M o2 D
   rw [X4] at o2
   have k2:=k1.setC j D o2
   simp
   exact hO o M V ((r.mono fun _ _ h=>h.elim).trans (D.mono fun i _ q=>by have:=j.l6; omega)) k2
  ·have c':x.b<0:=by omega
   obtain ⟨q1,q2⟩:=xt c'
   obtain ⟨b,hb⟩:∃ b:Nat,x.a=b:=⟨x.a.toNat,by omega⟩
   have G:b<J.P:=by omega
   have O:∀ g z (x:Nat),x<J.P->Yg.sem Y g (.idxa 1) [.slice (some ⟨z,0,none⟩) J.P J.P,.int .i64 x]=some (.pointer (some ⟨z,x,none⟩)):=fun g z x lx=>by
    have:=Vt (Y:=Y) (h:=g) (b:=z) (sz:=1) (show J.P<=9223372036854775807 by omega) lx (Xd6 J.P)
    simpa using this
   have dv:hc h1 J.db b=some (.bool (Zdx dn b)):=by
    have:=k1.q.dn.cell (i:=b) (v:=.bool (Zdx dn b)) (by simp [Va,Zdx,I,G])
    simpa using this
   simp [c,c',k1.q.bd.hc,B1.hc,hb,O _ _ _ G,dv]
   cases hd:Zdx dn b with
   | true =>
    simp
    exact hD b h1 c' hb G hd r
   | false =>
    simp [k1.q.bh.hc,k1.bs.hc,B1.hc,U,hb]
    refine Zgc X.H.Put X.H.key X.C.Held X.H.up X.H.ahead X.H.swap k1.q.hp ?_
    intro M S2 H2 f2 D
    simp
    exact hP b M S2 c' hb G hd ((r.mono fun _ _ h=>h.elim).trans (D.mono fun i _ q=>(k1.q.dj i q).1)) (k1.heap j D H2 f2)
 exact this
end
theorem Zbd {h:Za} {K:Value->Za->Prop} {n:Nat} {m:Int} (G:n<=17592186044416) (r:m=n) (D:∀ (b:Nat) (h':Za),h.size<=b->Yb h' 1 (Sl.at b n n) (Zh (List.replicate n 0))->Ext h h'->b<h'.size->K (.slice (some ⟨b,0,none⟩) n n) h') :
  Ef.wp h K (.mkslice 1 8 #[.int .i64 0]) [.int .i64 m,.int .i64 m]:=by
 subst r
 rw [Wx]
 refine ⟨by omega,by omega,by omega,by omega,fun t=>?_⟩
 simp only [Xd9,Xej,Vp]
 exact D h.size _ (Xd6 _) (Zcr (by omega)) Mod.push (by simp)
def Zkm (Y:Sys) (h0:Za) (fv:Value) (P:Nat) (st:Nat->List Yp):Prop :=
 ∀ (a:Nat) (tv:Value) (I:Nat->Za->Prop) (h:Za) (R:Value->Za->Prop),a<P ->
  (∀ j h',I j h'->Ext h0 h')->(∀ j h' h'',I j h'->Ext h' h''->I j h'') ->
  (∀ j h',j<(st a).length->I j h'->∀ R':Value->Za->Prop,(∀ h'',I (j+1) h''->R' (.tuple #[]) h'')->Zn6 Y tv [Z48 (Zf (st a) j)] h' R') ->
  I 0 h->(∀ h',I (st a).length h'->R (.tuple #[]) h')->Zn6 Y fv [.int .i64 a,tv] h R
section
variable {Y:Sys} {h h':Za}
def Xb3 (v0 v1 v2 v3 v5 v6 v7 v8 v9 v10 v11 v12 v13 v17 v18 v19 v20 v21:Value) (n cb:Nat) (h0:Za) (e:List Value) (h':Za):Prop :=
 ∃ (i:Nat) (v5 v16:Value),e=[v0,v1,v2,v3,.slice (some ⟨cb,0,none⟩) n n,v5,v6,v7,v8,v9,v10,v11,v12,v13,.int .i64 n,.int .i64 i,v16,v17,v18,v19,v20,v21]/\i<=n/\Mod (fun j=>j=cb) h0 h'/\∃ l:List Int,l.length=n/\Yb h' 1 (Sl.at cb n n) (Zh l)/\∀ j,j<i->Zc l j=Xr
structure LeB (h0 h:Za) (cb n hp Bh Bf P:Nat) (vf:Array Value) (L:List Int) (S:Nat->Prop):Prop where
 bh:Ys h Bh #[.pointer (some ⟨hp,0,none⟩)]
 bf:Ys h Bf vf
 cs:Yb h 1 (Sl.at cb n n) (Zh L)
 hp:∃ A,U4 h hp P A S
 dj:∀ b,S b->h0.size<=b/\b≠Bh/\b≠Bf/\b≠cb
 ex:Ext h0 h
 lL:L.length=n
def Z9q (st:Nat->List Yp) (starts:List Int) (outs i:Nat) (L:List Int):Prop :=
 (∀ i',i'<i->∀ o,o<outs->Zas (GoF st (Zc starts i').toNat o) (Zc L (i' * outs+o)))/\∀ j,i * outs<=j->j<L.length->Zc L j=Xr
def LsI (v0 v1 v5:Value) (cb n hp Bh Bf P outs:Nat) (vf:Array Value) (ss:Sl) (st:Nat->List Yp) (starts:List Int) (h0:Za) (e:List Value) (h':Za):Prop :=
 ∃ (i:Nat) (L:List Int) (S:Nat->Prop) (v5 v7 v8 v9 v10 v11 v12 v13 v14 v15 v16 v20 v21:Value),e=[v0,v1,.pointer (some ⟨Bf,0,none⟩),.slice none 0 0,.slice (some ⟨cb,0,none⟩) n n,v5,.pointer (some ⟨Bh,0,none⟩),v7,v8,v9,v10,v11,v12,v13,v14,v15,v16,ss.v,.int .i64 ss.n,.int .i64 i,v20,v21]/\i<=starts.length /\
  LeB h0 h' cb n hp Bh Bf P vf L S/\Z9q st starts outs i L
def Zlb (J:LeJ) (L:List Int) (o:Nat):Int:=if o<J.outs then Zc L (J.o+o) else Xr
def LsP (v0 v1:Value) (J:LeJ) (vf:Array Value) (ss:Sl) (st:Nat->List Yp) (i s:Nat) (L0:List Int) (h0:Za) (mm:Nat) (e:List Value) (h':Za):Prop :=
 ∃ (ord:List Nat) (cost:Nat->Int) (A:Uk) (dn:List Bool) (L:List Int) (S:Nat->Prop) (v5 v7 v8 v11 v12 v13 v14 v15 v16 v20 v21:Value),
  e=[v0,v1,.pointer (some ⟨J.Bf,0,none⟩),.slice none 0 0,.slice (some ⟨J.cb,0,none⟩) J.n J.n,v5,.pointer (some ⟨J.Bh,0,none⟩),v7,v8,.pointer (some ⟨J.Br,0,none⟩),.pointer (some ⟨J.Bd,0,none⟩),v11,v12,v13,v14,v15,v16,ss.v,.int .i64 ss.n,.int .i64 i,v20,v21] /\
  Ext h0 h'/\LeQ h' J vf dn L A S/\dn.length=J.P/\L.length=J.n/\(∀ b,b<J.P->(Zdx dn b=true↔b∈ord))/\LeO J.P st s ord cost A (Zlb J L)/\(∀ j,j<J.o\/J.o+J.outs<=j->Zc L j=Zc L0 j)/\mm=J.P-ord.length
set_option maxHeartbeats 1000000 in
theorem Zki (X:Zz7 Y) {P outs:Nat} {I:Sl} {D:List Int} {V:Value} {st:Nat->List Yp} (ok:Zpi P outs st) (bP:P<=16384) (r:Zz h I D) (hs:∀ i,i<D.length->∃ s:Nat,Zc D i=s/\s<P) (h1o:0<outs)
  (bo:D.length * outs<=268435456) (nx:Zkm Y h V P st) (bR:V.oneCell'=true)
  {R:Value->Za->Prop} (hr:∀ h' M L,Ext h h'->h.size<=M->Yb h' 1 (Sl.at M (D.length * outs) (D.length * outs)) (Zh L)->L.length=D.length * outs ->
   (∀ i,i<D.length->∀ o,o<outs->Zas (GoF st (Zc D i).toNat o) (Zc L (i * outs+o)))->R (.slice (some ⟨M,0,none⟩) (D.length * outs) (D.length * outs)) h') :
  Zm Y 397 [.agg #[.int .i64 P,I.v,V],.int .i64 outs] h R:=by
 have hI:Xr=1152921504606846976:=rfl
 have a5:=r.len
 have bs:D.length<=268435456:=Xew (by have:=Nat.mul_le_mul_left D.length h1o; simpa using this) bo
 have bu:D.length=0\/outs<=268435456:=by
  rcases Xgf D.length with q | q
  ·exact .inl q
  ·right
   have:=Xe7 outs q
   omega
 refine .of_has X.least rfl ?_
 simp [Y397,Xa.wp]
 refine Zd ?_
 intro Bf h1 a6 Bf1 e1
 replace Bf1:Ys h1 Bf #[.int .i64 P,I.v,V]:=Bf1
 have z1:=e1.size
 have a7:=Bf1.lt
 have wm:IntKind.i64.wrap ((I.n:Int) * (outs:Int))=((D.length * outs:Nat):Int):=by
  have q1:((D.length * outs:Nat):Int)<=268435456:=by omega
  have q2:(0:Int)<=((D.length * outs:Nat):Int):=by omega
  rw [Int.natCast_mul] at q1 q2
  rw [<-a5,Ze (by omega)]
  simp
 generalize hn:D.length * outs=n at *
 simp [Bf1.hc,wm]
 refine Zbd (n:=n) (by omega) rfl ?_
 intro M h2 a8 o2 e2 a9
 have x2:=e1.trans e2
 have z2:=e2.size
 have Bf2:=Bf1.ext e2
 simp
 refine Zj (Xb3 (.agg #[.int .i64 P,I.v,V]) (.int .i64 outs) (.pointer (some ⟨Bf,0,none⟩)) (.slice none 0 0) undef undef undef undef undef undef undef undef undef undef undef undef undef undef n M h2) (fun e _=>n-Zo e 15) ⟨0,_,_,rfl,by omega,Mod.refl _,_,by simp,o2,fun j G=>by omega⟩ ?_
 rintro e h3 ⟨i,v5,aG,rfl,hi,m3,l,ll,o3,hl⟩
 by_cases c:i<n
 ·have c':(i:Int)<n:=by omega
  have w1:IntKind.i64.wrap ((i:Int)+1)=(i:Int)+1:=Ze (by omega)
  have aq:∀ g,Yg.sem Y g (.idxa 1) [.slice (some ⟨M,0,none⟩) n n,.int .i64 i]=some (.pointer (some ⟨M,i,none⟩)):=fun g=>by
   have:=Vt (Y:=Y) (h:=g) (b:=M) (sz:=1) (show n<=9223372036854775807 by omega) c (Xd6 n)
   simpa using this
  simp [c',c,aq]
  refine Zlf o3 (k:=i) (by simp [ll]; omega) ?_
  intro h4 o4 m4
  rw [X4] at o4
  simp [w1]
  refine ⟨⟨i+1,_,_,rfl,by omega,m3.trans m4,l.set i Xr,by simp [ll],o4,fun j G=>?_⟩,by simp [Zo]; omega⟩
  rw [Vr (by omega)]
  by_cases q:j=i
  ·simp [q]
  ·simp [q]; exact hl j (by omega)
 have c':¬ (i:Int)<n:=by omega
 have aH:∀ j,j<n->Zc l j=Xr:=fun j G=>hl j (by omega)
 have x3:Ext h h3:=Mod.ext x2 m3 (fun j G=>by omega)
 have Bf3:=m3.blk Bf2 (by omega)
 have z3:=m3.size
 clear hl hi m3 o2 Bf2
 simp [c',Bf3.hc]
 refine Zsp X.H.New ?_
 intro h4 hp S4 H4 f4 e4
 rw [Zqu bP] at H4
 have x4:=x3.trans e4
 have z4:=e4.size
 have Bf4:=Bf3.ext e4
 simp
 refine Zd ?_
 intro Bh h5 g5 Bh5 e5
 replace Bh5:Ys h5 Bh #[.pointer none]:=Bh5
 have l5:=Bh5.lt
 have z5:=e5.size
 simp
 refine stB Bh5 (by simp) ?_
 intro h6 Bh6 m6
 simp at Bh6
 have z6:=m6.size
 have e6:Ext h4 h6:=Mod.toExtF e5 m6 g5
 have x6:=x4.trans e6
 have Bf6:=Bf4.ext e6
 simp [Bf6.hc]
 have B6:LeB h h6 M n hp Bh Bf P #[.int .i64 P,I.v,V] l S4:=by
  refine ⟨Bh6,Bf6,(o3.ext' e4).ext' e6,⟨_,H4.mod e6 (fun _ _ h=>h)⟩,fun b hb=>?_,x6,ll⟩
  have:=f4 b hb
  have:=H4.lt hb
  exact ⟨by omega,by omega,by omega,by omega⟩
 refine Zj (LsI (.agg #[.int .i64 P,I.v,V]) (.int .i64 outs) v5 M n hp Bh Bf P outs #[.int .i64 P,I.v,V] I st D h) (fun e _=>D.length-Zo e 19) ⟨0,l,S4,_,_,_,_,_,_,_,_,_,_,_,_,_,rfl,by omega,B6,fun i' h=>by omega,fun j _ G=>aH j (by omega)⟩ ?_
 have ar:Bh≠M/\Bf≠M/\Bf≠Bh/\h.size<=M/\h.size<=Bh/\h.size<=Bf:=by omega
 clear B6 Bf6 x6 e6 m6 Bh6 Bh5 e5 Bf4 x4 f4 H4 e4 Bf3 x3 x2 aH o3 z1 z2 z3 z4 z5 z6 l5 a9 g5 a8 e1 e2 Bf1 a6 a7 ll c c' i l
 obtain ⟨n1,n2,n3,n4,n5,n6⟩:=ar
 rintro e h7 ⟨i,L,S,v5,v7,v8,v9,bS,ba,bb,bc,be,bg,aG,bi,bj,rfl,hi,B7,ae⟩
 have r7:=r.ext B7.ex
 by_cases c:i<D.length
 rotate_left
 ·have c':¬ (i:Int)<I.n:=by omega
  have:i=D.length:=by omega
  subst this
  simp [c']
  exact hr h7 M L B7.ex n4 B7.cs B7.lL ae.1
 have c1:(i:Int)<I.n:=by omega
 have c2:i<I.n:=by omega
 have w1:IntKind.i64.wrap ((i:Int)+1)=(i:Int)+1:=Ze (by omega)
 have io:i * outs+outs<=n:=by
  have:=Xe7 outs (show i+1<=D.length from c)
  rw [Xet,Xg7,hn] at this
  exact this
 have w2:IntKind.i64.wrap ((i:Int) * (outs:Int))=((i * outs:Nat):Int):=by
  rw [Ze (by rw [<-Int.natCast_mul]; omega),Int.natCast_mul]
 have w3:IntKind.i64.wrap (((i:Int)+1) * (outs:Int))=((i * outs+outs:Nat):Int):=by
  have:((i:Int)+1) * (outs:Int)=((i * outs+outs:Nat):Int):=by
   rw [Int.natCast_add,Int.natCast_mul,Int.add_mul,Int.one_mul]
  rw [this,Ze (by omega)]
 obtain ⟨s,es,ls⟩:=hs i c
 have rv:=r7.val i c
 rw [es] at rv
 have ao:Yg.sem Y h7 (.slc 1 true true) [.slice (some ⟨M,0,none⟩) n n,.int .i64 ((i * outs:Nat):Int),.int .i64 ((i * outs+outs:Nat):Int)]=some (.slice (some ⟨M,i * outs,none⟩) outs (n-i * outs)):=by
  have:=Zdj (Y:=Y) (h:=h7) (s:=Sl.at M n n) (sz:=1) (k:=.i64) (k':=.i64) (i:=((i * outs:Nat):Int)) (j:=((i * outs+outs:Nat):Int)) B7.cs.ok (by omega) (by omega) (by simp only [Sl.at_c]; omega)
  have ar:¬ n=i * outs:=by omega
  simpa [Sl.v,Sl.at,ar,-Int.natCast_mul,-Int.natCast_add] using this
 simp [c1,c2,Zb r7.ok,rv,w1,w2,w3,ao,-Int.natCast_mul,-Int.natCast_add]
 refine Zd ?_
 intro Br h8 g8 Br8 e8
 replace Br8:Ys h8 Br #[.slice none 0 0]:=Br8
 have l8:=Br8.lt
 have z8:=e8.size
 simp
 refine stB Br8 (by simp) ?_
 intro h9 Br9 m9
 simp at Br9
 have z9:=m9.size
 have e9:Ext h7 h9:=Mod.toExtF e8 m9 g8
 have Bf9:=B7.bf.ext e9
 simp [Bf9.hc]
 refine Zkg (n:=P) (by omega) rfl ?_
 intro db bk bT aI af bU
 have bV:=af.size
 simp
 refine Zd ?_
 intro Bd bm bn Bd11 au
 replace Bd11:Ys bm Bd #[.slice none 0 0]:=Bd11
 have bW:=Bd11.lt
 have bX:=au.size
 simp
 refine stB Bd11 (by simp) ?_
 intro av Bd12 aw
 simp at Bd12
 have bY:=aw.size
 have ag:Ext bk av:=Mod.toExtF au aw bn
 have Z:Ext h7 av:=(e9.trans af).trans ag
 have Bh12:=B7.bh.ext Z
 obtain ⟨A,HA⟩:=B7.hp
 simp [Bh12.hc]
 have k1:=B7.bh.lt
 have k2:=B7.bf.lt
 have k3:=B7.cs.lt rfl
 have bx:=B7.ex.size
 simp at k3
 refine Zuk X.Clear (HA.mod Z (fun _ _ h=>h)) ?_
 intro aJ H13 ah
 have bZ:=ah.size
 obtain ⟨J,U⟩:∃ J:LeJ,J=⟨Br,Bd,Bh,Bf,db,M,hp,i * outs,outs,n,P,h.size⟩:=⟨_,rfl⟩
 have jk:LeK J:=by
  subst U
  refine ⟨?_,?_,?_,?_,?_,?_,?_,?_,?_,?_,?_,?_,?_,?_,?_,?_,?_,?_⟩ <;> simp only [] <;> omega
 have aK:LeQ av J #[.int .i64 P,I.v,V] (List.replicate P false) L A S:=by
  subst U
  refine ⟨(Br9.ext af).ext ag,Bd12,Bh12,B7.bf.ext Z,by simpa [Va] using aI.ext' ag,B7.cs.ext' Z,HA.mod Z (fun _ _ h=>h),fun b hb=>?_⟩
  have:=B7.dj b hb
  have:=HA.lt hb
  simp only []
  exact ⟨by omega,by omega,by omega,by omega,by omega,by omega,by omega⟩
 have ai:LeQ aJ J #[.int .i64 P,I.v,V] (List.replicate P false) L (fun _=>none) S:=aK.heap jk ah (by rw [U]; exact H13) (fun b hb=>.inl hb)
 have aL:Ext h aJ:=Mod.ext (B7.ex.trans Z) ah (fun j G=>(B7.dj j G).1)
 have Bh13:=ai.bh
 rw [U] at Bh13
 simp at Bh13
 simp [Bh13.hc]
 have H13:=ai.hp
 rw [show J.hp=hp by rw [U]] at H13
 refine Zgc X.H.Put X.H.key X.C.Held X.H.up X.H.ahead X.H.swap H13 ?_
 intro aM S14 H14 aN ax
 rw [Zox (by omega) (by omega)] at H14
 have aO:LeQ aM J #[.int .i64 P,I.v,V] (List.replicate P false) L (Zbi P (fun _=>none) s 0) S14:=ai.heap jk ax (by rw [U] at H14 ⊢; exact H14) aN
 have aP:Ext h aM:=Mod.ext aL ax (fun j G=>(B7.dj j G).1)
 have jP:J.P=P:=by rw [U]
 have jo:J.o=i * outs:=by rw [U]
 have b0:J.outs=outs:=by rw [U]
 have jn:J.n=n:=by rw [U]
 have bp:J.lo=h.size:=by rw [U]
 have bq:J.hp=hp:=by rw [U]
 have d0:LeO J.P st s [] (fun _=>0) (Zbi P (fun _=>none) s 0) (Zlb J L):=by
  rw [jP]
  refine LeO.start ls (fun o=>?_)
  unfold Zlb
  split
  ·exact ae.2 _ (by omega) (by have:=B7.lL; omega)
  ·rfl
 have br:Br=J.Br:=by rw [U]
 have bv:Bd=J.Bd:=by rw [U]
 have bw:Bh=J.Bh:=by rw [U]
 have bz:Bf=J.Bf:=by rw [U]
 have bA:M=J.cb:=by rw [U]
 have lL:=B7.lL
 have bB:i * outs=J.o:=by rw [jo]
 clear U H14 ax aN H13 ah aK ai aL Bh13 Bh12 HA Z ag au Bd12 Bd11 aw af aI e9 Bf9 Br9 Br8 m9 e8 ao
 simp
 rw [br,bv,bw,bz,bA,<-jn]
 refine Zjr (LsP (.agg #[.int .i64 P,I.v,V]) (.int .i64 outs) J #[.int .i64 P,I.v,V] I st i s L h) _ ⟨[],_,_,_,L,S14,_,_,_,_,_,_,_,_,_,_,_,rfl,aP,aO,by simp [jP],by omega,fun b hb=>by simp [Zdx,show b<P from jP ▸ hb],d0,fun j _=>rfl,rfl⟩ ?_
 clear aO d0 aP
 rintro mm e bC ⟨aa,aQ,A,dn,L1,S1,v5,v7,v8,ba,bb,bc,be,bg,aG,bi,bj,rfl,aR,ab,aS,aT,aU,aV,ay,rfl⟩
 simp [ab.bh.hc]
 refine Zqe X.H.Pop X.H.down X.H.ahead X.H.swap ab.hp ?_ ?_
 ·intro h0
  simp
  refine Zd ?_
  intro Bs aj bD Bs16 aW
  replace Bs16:Ys aj Bs #[.int .i64 0]:=Bs16
  have bE:=aW.size
  simp
  refine stB Bs16 (by simp) ?_
  intro az Bs17 bF
  have ac:Ext bC az:=Mod.toExtF aW bF bD
  have ad:=ab.ext ac
  simp [w1]
  refine ⟨⟨i+1,L1,S1,_,_,_,_,_,_,_,_,_,_,_,_,_,rfl,by omega,?_,?_⟩,by simp [Zo]; omega⟩
  ·rw [<-bq,<-jP]
   exact ⟨ad.bh,by rw [jP]; exact ad.bf,ad.cs,⟨_,ad.hp⟩,fun b hb=>by have:=ad.dj b hb; rw [bp] at this; exact ⟨this.1,this.2.2.2.1,this.2.2.2.2.1,this.2.2.2.2.2.2⟩,aR.trans ac,aT⟩
  ·refine ⟨fun i' b1 o ho=>?_,fun j G b2=>?_⟩
   ·by_cases q:i'=i
    ·subst q
     have:=aV.least (by rw [jP]; exact ok) (by rw [jP]; exact ls) h0 o
     unfold Zlb at this
     rw [if_pos (by omega),<-bB] at this
     rw [es]
     exact this
    ·have b3:i' * outs+outs<=i * outs:=by
      have:=Xe7 outs (show i'+1<=i by omega)
      rw [Xet,Xg7] at this
      exact this
     rw [ay _ (.inl (by omega))]
     exact ae.1 i' (by omega) o ho
   ·have b4:i * outs+outs<=j:=by
     rw [Xet,Xg7] at G
     exact G
    rw [ay _ (.inr (by omega))]
    exact ae.2 j (by omega) (by omega)
 intro aj k c ap H16 aA
 have ak:=ab.heap jk aA H16 (fun b hb=>.inl hb)
 have aX:Ext h aj:=Mod.ext aR aA (fun j G=>by have:=(ab.dj j G).1; omega)
 obtain ⟨b5,aB,aY,aZ,b6⟩:=aV.pop ap
 have lk:=ap.1
 simp
 refine Zd ?_
 intro Bs az bG Bs17 ac
 replace Bs17:Ys az Bs #[.int .i64 0]:=Bs17
 have b7:=ac.size
 have bE:=aA.size
 have x16s:=aX.size
 have b8:=Bs17.lt
 simp
 refine stB Bs17 (by simp) ?_
 intro bH Bs18 a0
 simp at Bs18
 have b9:=a0.size
 have a1:Ext aj bH:=Mod.toExtF ac a0 bG
 have al:=ak.ext a1
 have bJ:=aX.trans a1
 have aq:∀ g z (x:Nat),x<J.P->Yg.sem Y g (.idxa 1) [.slice (some ⟨z,0,none⟩) J.P J.P,.int .i64 x]=some (.pointer (some ⟨z,x,none⟩)):=fun g z x lx=>by
  have:=Vt (Y:=Y) (h:=g) (b:=z) (sz:=1) (show J.P<=9223372036854775807 by omega) lx (Xd6 J.P)
  simpa using this
 simp [al.bd.hc,aq _ _ _ lk]
 refine Zlf al.dn (k:=k) (by rw [Zfv]; omega) ?_
 intro am a2 an
 rw [Zkb] at a2
 have ca:=an.size
 have a3:=al.mark jk an a2
 have bK:Ext h am:=Mod.ext bJ an (fun j G=>by have:=jk.l5; omega)
 have kk:=al.dn.lt rfl
 have bL:=ak.dn.lt rfl
 simp at kk bL
 have Bs19:Ys am Bs #[.int .i64 c]:=an.blk Bs18 (by omega)
 have bM:=ak.cs.lt rfl
 simp at bM
 have H19:LeH am J #[.int .i64 P,I.v,V] Bs c (dn.set k true) L1 (Zeq A k) S1:=⟨a3,Bs19,⟨by omega,by omega⟩,fun b hb=>by have:=ak.hp.lt hb; omega⟩
 have O:∀ y,y<J.P->(Zdx (dn.set k true) y=true↔y∈aa++[k]):=by
  intro y hy
  rw [Zsg (by omega)]
  by_cases e:y=k
  ·subst e; simp
  ·rw [if_neg e]; simp [e]; exact aU y hy
 have bN:∀ g,Yg.sem Y g (.mkf 439 0) [.pointer (some ⟨J.Br,0,none⟩),.pointer (some ⟨Bs,0,none⟩),.pointer (some ⟨J.Bd,0,none⟩),.pointer (some ⟨J.Bh,0,none⟩)]=some (Z1d Y J Bs):=fun g=>rfl
 simp [a3.bf.hc,bN]
 refine nx k (Z1d Y J Bs) (fun j g=>∃ L2 A2 S2,Ext h g/\LeH g J #[.int .i64 P,I.v,V] Bs c (dn.set k true) L2 A2 S2/\L2.length=J.n/\LeI J.P st s (aa++[k]) (X1 aQ k c) A2 (Zlb J L2) k j/\(∀ j,j<J.o\/J.o+J.outs<=j->Zc L2 j=Zc L j)) am _ (by omega) ?_ ?_ ?_ ?_ ?_
 ·rintro j g ⟨_,_,_,x,_⟩
  exact x
 ·rintro j g g' ⟨L2,A2,S2,x,k2,r2⟩ e
  exact ⟨L2,A2,S2,x.trans e,k2.ext e,r2⟩
 ·rintro j g G ⟨L2,A2,S2,x,k2,l2,d2,o2⟩ R' aC
  have hm:=Zd0 G
  have hc:=ok.c0 k _ hm
  have cc:=ok.to k _ hm
  have bQ:=ok.out k _ hm
  have aD:k∈aa++[k]:=by simp
  have aE:Zpi J.P outs st:=by rw [jP]; exact ok
  refine Zyu X jk k2 l2 (by simp [aS]) (by omega) hc (by omega) (by omega) ?_ ?_ ?_
  ·intro o g' ho m' k'
   refine aC g' ⟨_,A2,S2,Mod.ext x m' (fun j G=>by omega),k',by simp [l2],?_,fun j G=>?_⟩
   ·have:=d2.out aE G aD ho
    rw [aZ] at this
    have e:X1 (Zlb J L2) o (if c+(Zf (st k) j).c<Zlb J L2 o then c+(Zf (st k) j).c else Zlb J L2 o)=Zlb J (L2.set (J.o+o) (if c+(Zf (st k) j).c<Zc L2 (J.o+o) then c+(Zf (st k) j).c else Zc L2 (J.o+o))):=by
     funext y
     have lo:o<J.outs:=by omega
     have bO:=jk.on
     unfold X1 Zlb
     rw [if_pos lo,Vr (by omega)]
     by_cases q:y=o
     ·subst q; simp [lo]
     ·have:¬ J.o+y=J.o+o:=by omega
      simp [q,this]
    rw [e] at this
    exact this
   ·have bO:=jk.on
    have lo:o<J.outs:=by omega
    rw [Vr (by omega),if_neg (by omega)]
    exact o2 j G
  ·intro b g' hb aF lb hd e
   exact aC g' ⟨L2,A2,S2,x.trans e,k2.ext e,l2,d2.old aE G aD aY hb aF ((O b lb).1 hd),o2⟩
  ·intro b g' S' hb aF lb hd m' k'
   refine aC g' ⟨L2,_,S',Mod.ext x m' (fun j G=>by omega),k',l2,?_,o2⟩
   have:=d2.put aE G aD aY hb aF (fun h=>by rw [(O b lb).2 h] at hd; cases hd)
   rw [aZ] at this
   exact this
 ·exact ⟨L1,_,S1,bK,H19,aT,aB,ay⟩
 ·rintro g ⟨L2,A2,S2,x,k2,l2,d2,o2⟩
  simp
  refine Zt1 (m':=J.P-(aa++[k]).length) ⟨aa++[k],_,A2,_,L2,S2,_,_,_,_,_,_,_,_,_,_,_,rfl,x,k2.q,by simp [aS],l2,O,d2.fin,o2,rfl⟩ ?_
  have a4:=Ze5 aB.d.nd aB.d.lt
  simp at a4 ⊢
  omega
end
structure Z7j (h:Za) (B P:Nat) (st:Nat->List Yp):Prop where
 ex:∃ sv:Sl,Ys h B #[sv.v]/\sv.ok/\sv.n=P/\∀ k,k<P->∃ u:Sl,hc h sv.b (sv.o+k)=some u.v/\Z4 h u (st k)
 bl:∀ k,k<P->(st k).length<=16384
def stK (costs:List Int):Nat->List Yp->List Yp
 | _,[]=>[]
 | p,x::r=>if Zc costs p<Xr/\x.c<Xr then ⟨x.a,x.b,x.c+Zc costs p⟩::stK costs (p+1) r else stK costs (p+1) r
structure Z6v (h:Za) (Bs Bl Bc P:Nat) (costs:List Int) (fi:Nat->Int) (lk:Nat->Nat) (ls:Nat->List Yp) (n:Nat):Prop where
 ex:∃ sp sl sc:Sl,Ys h Bs #[sp.v]/\Ys h Bl #[sl.v]/\Ys h Bc #[sc.v]/\Zz h sc costs/\sp.ok/\sp.n=P/\sl.ok/\sl.n=n/\(∀ k,k<P->hc h sp.b (sp.o+k * 2)=some (.int .i64 (fi k))/\hc h sp.b (sp.o+k * 2+1)=some (.int .i64 (lk k))) /\
  ∀ i,i<n->∃ u:Sl,hc h sl.b (sl.o+i)=some u.v/\Z4 h u (ls i)
 ll:∀ k,k<P->lk k<n
 bl:∀ i,i<n->(ls i).length<=16384
 ff:∀ k,k<P->ls (lk k)≠[]->0<=fi k/\fi k+(ls (lk k)).length<=costs.length
 bc:costs.length<=17592186044416
 c0:∀ i,i<costs.length->0<=Zc costs i/\Zc costs i<=Xr
 x0:∀ i x,i<n->x∈ls i->0<=x.c/\x.c<=Xr
section
variable {Y:Sys} {h h':Za}
def NaI (Y:Sys) (a:Nat) (tv v2:Value) (u:Sl) (m:Nat) (I:Nat->Za->Prop) (h0:Za) (e:List Value) (h':Za):Prop :=
 ∃ (j:Nat) (v3 v7:Value),e=[.int .i64 a,tv,v2,v3,u.v,.int .i64 u.n,.int .i64 j,v7]/\j<=m/\I j h'/\Ext h0 h'
theorem Zyq (H:Y.Has 438 Y438) {h0:Za} {B P:Nat} {r:Nat->List Yp} (s:Z7j h0 B P r):Zkm Y h0 (.func (.func (Y.fid 438)) #[] #[.pointer (some ⟨B,0,none⟩)]) P r:=by
 intro a tv I h R ha G O U J hR
 refine ⟨H.1,?_⟩
 obtain ⟨sv,Bb,V,ns,M⟩:=s.ex
 have bl:=s.bl a ha
 obtain ⟨u,hu,X⟩:=M a ha
 have Z:=G _ _ J
 have B0:=Bb.ext Z
 have aa:=Z.hc hu (fun h=>h)
 have:Zm Y 438 [.int .i64 a,tv,.pointer (some ⟨B,0,none⟩)] h R:=by
  refine .of_has H rfl ?_
  have c1:(a:Int)<sv.n:=by omega
  have lu:=X.len
  simp [Y438,Xa.wp,B0.hc,Zb V,c1,aa]
  refine Zj (NaI Y a tv (.pointer (some ⟨B,0,none⟩)) u (r a).length I h0) (fun e _=>(r a).length-Zo e 6) ⟨0,_,_,rfl,by omega,J,Z⟩ ?_
  rintro e h1 ⟨j,v3,v7,rfl,hj,I1,x1⟩
  have r1:=X.ext x1
  by_cases c:j<(r a).length
  ·have c':(j:Int)<u.n:=by omega
   have c2:j<u.n:=by omega
   have w1:IntKind.i64.wrap ((j:Int)+1)=(j:Int)+1:=Ze (by omega)
   simp [c',c2,Zb X.ok,r1.rd c]
   refine Zd ?_
   intro D h2 gD D2 e2
   simp
   refine Zi (vs:=#[.int .i64 (Zf (r a) j).a,.int .i64 (Zf (r a) j).b,.int .i64 (Zf (r a) j).c]) D2 rfl rfl (by simp) ?_
   intro h3 D3 m3
   have e3:Ext h1 h3:=Mod.toExtF e2 m3 gD
   simp [Zy D3]
   refine U j h3 c (O _ _ _ I1 e3) _ ?_
   intro h4 I4
   simp [w1]
   exact ⟨⟨j+1,_,_,rfl,by omega,I4,G _ _ I4⟩,by simp [Zo]; omega⟩
  ·have c':¬ (j:Int)<u.n:=by omega
   have:j=(r a).length:=by omega
   subst this
   simp [c']
   exact hR h1 I1
 exact this
def NkI (Y:Sys) (a Bs Bl Bc:Nat) (tv:Value) (u:Sl) (costs:List Int) (f:Int) (l t:List Yp) (I:Nat->Za->Prop) (h0:Za) (e:List Value) (h':Za):Prop :=
 ∃ (j q:Nat) (v6 v7 v8 v12 v13 v14:Value),e=[.int .i64 a,tv,.pointer (some ⟨Bs,0,none⟩),.pointer (some ⟨Bl,0,none⟩),.pointer (some ⟨Bc,0,none⟩),.int .i64 f,v6,v7,v8,u.v,.int .i64 u.n,.int .i64 j,v12,v13,v14]/\j<=l.length/\q<=t.length/\t.drop q=stK costs (f.toNat+j) (l.drop j)/\I q h'/\Ext h0 h'
theorem Zv7 {l:List Yp} {j:Nat} (h:j<l.length):l.drop j=Zf l j::l.drop (j+1):=by rw [Wj h]; exact Xfk h
theorem Zxl (H:Y.Has 441 Y441) {h0:Za} {Bs Bl Bc P n:Nat} {r:List Int} {fi:Nat->Int} {lk:Nat->Nat} {ls st:Nat->List Yp} (s:Z6v h0 Bs Bl Bc P r fi lk ls n) (hst:∀ k,k<P->st k=stK r (fi k).toNat (ls (lk k))) :
  Zkm Y h0 (.func (.func (Y.fid 441)) #[] #[.pointer (some ⟨Bs,0,none⟩),.pointer (some ⟨Bl,0,none⟩),.pointer (some ⟨Bc,0,none⟩)]) P st:=by
 intro a tv I h R ha O M ad U hR
 refine ⟨H.1,?_⟩
 have hI:Xr=1152921504606846976:=rfl
 obtain ⟨sp,sl,sc,Bs0,Bl0,Bc0,rc,V,al,X,am,ae,af⟩:=s.ex
 have ln:=s.ll a ha
 have bl:=s.bl _ ln
 have ff:=s.ff a ha
 have bc:=s.bc
 obtain ⟨u,hu,ru⟩:=af _ ln
 obtain ⟨hf,hk⟩:=ae a ha
 have J:=O _ _ U
 have Bs1:=Bs0.ext J
 have Bl1:=Bl0.ext J
 have Bc1:=Bc0.ext J
 have Z:=J.hc hu (fun h=>h)
 have aa:=J.hc hf (fun h=>h)
 have ab:=J.hc hk (fun h=>h)
 have hs:=hst a ha
 have x0c:=fun x=>s.x0 (lk a) x ln
 have ag:=s.c0
 generalize an:fi a=f at *
 generalize ao:lk a=g at *
 generalize ap:ls g=l at *
 generalize aq:st a=t at *
 have:Zm Y 441 [.int .i64 a,tv,.pointer (some ⟨Bs,0,none⟩),.pointer (some ⟨Bl,0,none⟩),.pointer (some ⟨Bc,0,none⟩)] h R:=by
  refine .of_has H rfl ?_
  have c1:(a:Int)<sp.n:=by omega
  have c2:(g:Int)<sl.n:=by omega
  have ah:g<sl.n:=by omega
  have lu:=ru.len
  have lc:=rc.len
  simp [Y441,Xa.wp,Bs1.hc,Zb V,c1,aa,Bl1.hc,ab,Zb X,c2,ah,Z]
  refine Zj (NkI Y a Bs Bl Bc tv u r f l t I h0) (fun e _=>l.length-Zo e 11) ⟨0,0,_,_,_,_,_,_,rfl,by omega,by omega,by simpa using hs,U,J⟩ ?_
  clear hs J Bs1 Bl1 Bc1 Z aa ab
  rintro e h1 ⟨j,q,v6,v7,v8,ar,au,av,rfl,hj,hq,hd,I1,x1⟩
  have r1:=ru.ext x1
  have ac:=rc.ext x1
  have Bc1:=Bc0.ext x1
  by_cases c:j<l.length
  rotate_left
  ·have c':¬ (j:Int)<u.n:=by omega
   have e1:l.drop j=[]:=Xe0 (by omega)
   have e2:q=t.length:=by
    have:=congrArg List.length hd
    rw [e1] at this
    simp [stK] at this
    omega
   subst e2
   simp [c']
   exact hR h1 I1
  have c':(j:Int)<u.n:=by omega
  have c2:j<u.n:=by omega
  have w1:IntKind.i64.wrap ((j:Int)+1)=(j:Int)+1:=Ze (by omega)
  have hm:=Zd0 c
  obtain ⟨q0,q1⟩:=ff (fun e=>by rw [e] at c; simp at c)
  obtain ⟨aw,ax⟩:=x0c _ hm
  obtain ⟨k0,k1⟩:=ag (f.toNat+j) (by omega)
  obtain ⟨p,rfl⟩:∃ p:Nat,f=p:=⟨f.toNat,by omega⟩
  have w2:IntKind.i64.wrap ((p:Int)+(j:Int))=(((p+j):Nat):Int):=by rw [Ze (by omega)]; omega
  have vc:=ac.val (p+j) (by omega)
  have cl:¬ sc.n<=p+j:=by omega
  have ai:p+j<sc.n:=by omega
  rw [Zv7 c] at hd
  simp only [Xd9] at hd k0 k1
  simp [c',c2,Zb ru.ok,r1.rd c]
  refine Zd ?_
  intro D h2 gD D2 e2
  simp
  refine Zi (vs:=#[.int .i64 (Zf l j).a,.int .i64 (Zf l j).b,.int .i64 (Zf l j).c]) D2 rfl rfl (by simp) ?_
  intro h3 D3 m3
  have e3:Ext h1 h3:=Mod.toExtF e2 m3 gD
  have aj:=ac.ext e3
  have vc:=aj.val (p+j) (by omega)
  simp [(Bc1.ext e3).hc,w2,cl,ai,Zb rc.ok,vc,-Int.natCast_add]
  by_cases d1:Zc r (p+j)<1152921504606846976
  ·by_cases d2:(Zf l j).c<1152921504606846976
   ·have w3:IntKind.i64.wrap ((Zf l j).c+Zc r (p+j))=(Zf l j).c+Zc r (p+j):=Ze (by omega)
    have G:t.drop q=⟨(Zf l j).a,(Zf l j).b,(Zf l j).c+Zc r (p+j)⟩::stK r (p+j+1) (l.drop (j+1)):=by
     rw [hd]; show (if _ then _ else _)=_; rw [if_pos ⟨by omega,by omega⟩]
    have lq:q<t.length:=by
     have:=congrArg List.length G
     simp at this
     omega
    have e4:Zf t q=⟨(Zf l j).a,(Zf l j).b,(Zf l j).c+Zc r (p+j)⟩/\t.drop (q+1)=stK r (p+j+1) (l.drop (j+1)):=by
     rw [Zv7 lq] at G
     injection G with a b
     exact ⟨a,b⟩
    simp [d1,d2,D3.hc,w3]
    refine stB D3 (by simp) ?_
    intro h4 D4 m4
    have ak:Ext h1 h4:=Mod.toExtF e3 m4 gD
    simp at D4
    simp [Zy D4]
    have:=ad q h4 lq (M _ _ _ I1 ak)
    rw [e4.1] at this
    refine this _ ?_
    intro h5 I5
    simp [w1]
    exact ⟨⟨j+1,q+1,_,_,_,_,_,_,rfl,by omega,by omega,by rw [e4.2]; simp [Xe4],I5,O _ _ I5⟩,by simp [Zo]; omega⟩
   ·have G:t.drop q=stK r (p+j+1) (l.drop (j+1)):=by
     rw [hd]; show (if _ then _ else _)=_; rw [if_neg (fun h=>d2 (by have:=h.2; omega))]
    simp [d1,d2,D3.hc,w1]
    exact ⟨⟨j+1,q,_,_,_,_,_,_,rfl,by omega,hq,by rw [G]; simp [Xe4],M _ _ _ I1 e3,x1.trans e3⟩,by simp [Zo]; omega⟩
  ·have G:t.drop q=stK r (p+j+1) (l.drop (j+1)):=by
    rw [hd]; show (if _ then _ else _)=_; rw [if_neg (fun h=>d1 (by have:=h.1; omega))]
   simp [d1,w1]
   exact ⟨⟨j+1,q,_,_,_,_,_,_,rfl,by omega,hq,by rw [G]; simp [Xe4],M _ _ _ I1 e3,x1.trans e3⟩,by simp [Zo]; omega⟩
 exact this
end
def Zfb (l:List Int):Prop:=∀ i j,i<l.length->j<l.length->Zc l i=Zc l j->i=j
theorem Zbf.once {l:List Int} (h:Zbf l):Zfb l:=fun i j r D e=>by
 rcases Xgb i j with q | q | q
 ·have:=h i j q D; omega
 ·exact q
 ·have:=h j i q r; omega
theorem Vq {l r:List Int} {i:Nat} (h:i<l.length):Zc (l++r) i=Zc l i:=by simp [Zc,Xep h]
theorem Zcw {l:List Int} {x:Int}:Zc (l++[x]) l.length=x:=by simp [Zc]
theorem Zk {l:List Int} {a:Int}:a∈l↔∃ i,i<l.length/\Zc l i=a :=
 ⟨Zwf,fun ⟨i,h,e⟩=>by rw [<-e,show Zc l i=l[i] by simp [Zc,h]]; exact Xeo h⟩
theorem Zfb.snoc {l:List Int} {x:Int} (h:Zfb l) (hx:x ∉ l):Zfb (l++[x]):=fun i j r D e=>by
 simp at r D
 rcases Xd8 i l.length with q | q <;> rcases Xd8 j l.length with q' | q'
 ·rw [Vq q,Vq q'] at e; exact h i j q q' e
 ·have:j=l.length:=by omega
  subst this
  rw [Vq q,Zcw] at e
  exact absurd (Zk.2 ⟨i,q,e⟩) hx
 ·have:i=l.length:=by omega
  subst this
  rw [Vq q',Zcw] at e
  exact absurd (Zk.2 ⟨j,q',e.symm⟩) hx
 ·omega
theorem Xb {l:List Int} {i:Nat} (h:Zfb l) (r:i<l.length):Yc 0 l (Zc l i)=(i:Int):=by
 have:=Zmy (k:=0) r rfl (fun j D e=>by have:=h j i (by omega) r e; omega)
 simpa using this
theorem Zbh {l:List Int} {a:Int} (h:a ∉ l):Yc 0 l a = -1:=Zfp fun i r e=>h (Zk.2 ⟨i,r,e⟩)
section
variable {N:Zg} {outs As:List Int} {a:Nat} {l:List Int} {T:List Yp}
structure AOk (N:Zg) (outs As:List Int) (a:Nat) (l:List Int) (T:List Yp):Prop where
 s1:∀ x,x∈T->(∃ b o:Nat,(b:Int)∈l/\o<outs.length/\Zc outs o=b/\Ye N a b≠Xr/\x=⟨0,o,Ye N a b⟩) \/
  (∃ b k:Nat,(b:Int)∈l/\(b:Int) ∉ outs/\k<As.length/\Zc As k=b/\Ye N a b≠Xr/\Zl N b≠Xr/\x=⟨k,-1,Ye N a b+Zl N b⟩)
 s2:∀ b:Nat,(b:Int)∈l->Ye N a b≠Xr->(b:Int)∈outs->∃ o:Nat,o<outs.length/\Zc outs o=b/\(⟨0,o,Ye N a b⟩:Yp)∈T
 s3:∀ b:Nat,(b:Int)∈l->Ye N a b≠Xr->(b:Int) ∉ outs->Zl N b≠Xr->∃ k:Nat,k<As.length/\Zc As k=b/\(⟨k,-1,Ye N a b+Zl N b⟩:Yp)∈T
 len:T.length<=l.length
theorem AOk.nil:AOk N outs As a [] []:=⟨fun x h=>by simp at h,fun b h=>by simp at h,fun b h=>by simp at h,by simp⟩
theorem AOk.mono (h:AOk N outs As a l T) {x:Int}:AOk N outs (As++[x]) a l T :=
 ⟨fun y hy=>(h.s1 y hy).imp id fun ⟨b,k,h1,r,D,h4,G⟩=>⟨b,k,h1,r,by simp; omega,by rw [Vq D]; exact h4,G⟩,h.s2,fun b h1 r D h4=>by
  obtain ⟨k,H,I,J⟩:=h.s3 b h1 r D h4
  exact ⟨k,by simp; omega,by rw [Vq H]; exact I,J⟩,h.len⟩
theorem AOk.skip (h:AOk N outs As a l T) {b:Nat} (hb:Ye N a b=Xr\/((b:Int) ∉ outs/\Zl N b=Xr)):AOk N outs As a (l++[(b:Int)]) T:=by
 refine ⟨fun y hy=>(h.s1 y hy).imp (fun ⟨b,k,h1,r⟩=>⟨b,k,by simp [h1],r⟩) (fun ⟨b,k,h1,r⟩=>⟨b,k,by simp [h1],r⟩),fun c h1 r D=>?_,fun c h1 r D h4=>?_,by have:=h.len; simp; omega⟩
 ·rcases List.mem_append.1 h1 with q | q
  ·exact h.s2 c q r D
  ·have:c=b:=by simp at q; omega
   subst this
   rcases hb with q | q
   ·exact absurd q r
   ·exact absurd D q.1
 ·rcases List.mem_append.1 h1 with q | q
  ·exact h.s3 c q r D h4
  ·have:c=b:=by simp at q; omega
   subst this
   rcases hb with q | q
   ·exact absurd q r
   ·exact absurd q.2 h4
theorem AOk.out (h:AOk N outs As a l T) {b o:Nat} (G:o<outs.length) (hb:Zc outs o=b) (ht:Ye N a b≠Xr):AOk N outs As a (l++[(b:Int)]) (T++[⟨0,o,Ye N a b⟩]):=by
 refine ⟨fun y hy=>?_,fun c h1 r D=>?_,fun c h1 r D h4=>?_,by have:=h.len; simp; omega⟩
 ·rcases List.mem_append.1 hy with q | q
  ·exact (h.s1 y q).imp (fun ⟨b,k,h1,r⟩=>⟨b,k,by simp [h1],r⟩) (fun ⟨b,k,h1,r⟩=>⟨b,k,by simp [h1],r⟩)
  ·exact .inl ⟨b,o,by simp,G,hb,ht,by simpa using q⟩
 ·rcases List.mem_append.1 h1 with q | q
  ·obtain ⟨H,I,J,M⟩:=h.s2 c q r D
   exact ⟨H,I,J,by simp [M]⟩
  ·have:c=b:=by simp at q; omega
   subst this
   exact ⟨o,G,hb,by simp⟩
 ·rcases List.mem_append.1 h1 with q | q
  ·obtain ⟨H,I,J,M⟩:=h.s3 c q r D h4
   exact ⟨H,I,J,by simp [M]⟩
  ·have:c=b:=by simp at q; omega
   subst this
   exact absurd (Zk.2 ⟨o,G,hb⟩) D
theorem AOk.go (h:AOk N outs As a l T) {b k:Nat} (M:k<As.length) (hb:Zc As k=b) (O:(b:Int) ∉ outs) (ht:Ye N a b≠Xr) (R:Zl N b≠Xr):AOk N outs As a (l++[(b:Int)]) (T++[⟨k,-1,Ye N a b+Zl N b⟩]):=by
 refine ⟨fun y hy=>?_,fun c h1 r D=>?_,fun c h1 r D h4=>?_,by have:=h.len; simp; omega⟩
 ·rcases List.mem_append.1 hy with q | q
  ·exact (h.s1 y q).imp (fun ⟨b,k,h1,r⟩=>⟨b,k,by simp [h1],r⟩) (fun ⟨b,k,h1,r⟩=>⟨b,k,by simp [h1],r⟩)
  ·exact .inr ⟨b,k,by simp,O,M,hb,ht,R,by simpa using q⟩
 ·rcases List.mem_append.1 h1 with q | q
  ·obtain ⟨G,H,I,J⟩:=h.s2 c q r D
   exact ⟨G,H,I,by simp [J]⟩
  ·have:c=b:=by simp at q; omega
   subst this
   exact absurd D O
 ·rcases List.mem_append.1 h1 with q | q
  ·obtain ⟨G,H,I,J⟩:=h.s3 c q r D h4
   exact ⟨G,H,I,by simp [J]⟩
  ·have:c=b:=by simp at q; omega
   subst this
   exact ⟨k,M,hb,by simp⟩
end
structure Z29 (N:Zg) (outs As:List Int) (st:Nat->List Yp):Prop where
 once:Zfb As
 nat:∀ k,k<As.length->∃ a:Nat,Zc As k=a/\a<N.as.length
 row:∀ k,k<As.length->∃ l,(∀ b:Nat,Ye N (Zc As k).toNat b≠Xr->(b:Int)∈l)/\AOk N outs As (Zc As k).toNat l (st k)
 out:∀ k,As.length<=k->st k=[]
section
variable {N:Zg} {outs As:List Int} {st:Nat->List Yp}
theorem Z29.ok (B:Z29 N outs As st) (D:Yd N):Zpi As.length outs.length st:=by
 have key:∀ a x,x∈st a->a<As.length:=fun a x h=>Xey fun q=>by rw [B.out a (by omega)] at h; simp at h
 have row:∀ a x,x∈st a->(∃ b o:Nat,o<outs.length/\Ye N (Zc As a).toNat b≠Xr/\x=⟨0,o,Ye N (Zc As a).toNat b⟩)\/(∃ b k:Nat,k<As.length/\Ye N (Zc As a).toNat b≠Xr/\Zl N b≠Xr/\x=⟨k,-1,Ye N (Zc As a).toNat b+Zl N b⟩):=fun a x h=>by
  obtain ⟨l,_,r⟩:=B.row a (key a x h)
  exact (r.s1 x h).imp (fun ⟨b,o,_,H,_,h4,G⟩=>⟨b,o,H,h4,G⟩) (fun ⟨b,k,_,_,I,_,G,J,M⟩=>⟨b,k,I,G,J,M⟩)
 refine ⟨fun a x h O=>?_,fun a x h=>?_,fun a x h=>?_⟩
 ·rcases row a x h with ⟨b,o,_,_,rfl⟩ | ⟨b,k,q,_,_,rfl⟩
  ·simp at O; omega
  ·simp; omega
 ·rcases row a x h with ⟨b,o,q,_,rfl⟩ | ⟨b,k,q,_,_,rfl⟩
  ·simp; omega
  ·simp; omega
 ·rcases row a x h with ⟨b,o,q,ht,rfl⟩ | ⟨b,k,q,ht,R,rfl⟩
  ·have:=(Ws D (a:=((Zc As a).toNat:Int)) (b:=(b:Int))).resolve_left ht
   have U:Xr=1152921504606846976:=rfl
   dsimp only; omega
  ·have:=(Ws D (a:=((Zc As a).toNat:Int)) (b:=(b:Int))).resolve_left ht
   have:=(Vf D (a:=(b:Int))).resolve_left R
   dsimp only; omega
theorem Z29.thru (B:Z29 N outs As st) {ce:Nat->Int} {k:Int} (D:∀ b:Nat,(b:Int)∈outs↔b<N.as.length/\ce (Z0 N b)=k/\ce (Xd N b)≠k) (H:Zfb outs) {i o a b:Nat} (hi:i<As.length) (ha:Zc As i=a) (hc:ce (Xd N a)=k)
  (ho:o<outs.length) (hb:Zc outs o=b) {x:Int}:GoF st i o x↔Zk1 N ce k a b x:=by
 have Z:∀ j y,Xk (AtI i) (EdF st) j y->j<As.length/\Xk (AtI a) (EdC N ce k) (Zc As j).toNat y:=by
  intro j y w
  induction w with
  | init h=>obtain ⟨rfl,rfl⟩:=h; exact ⟨hi,by rw [ha]; exact .init ⟨rfl,rfl⟩⟩
  | step w h M =>
   rename_i u v c e
   obtain ⟨lu,M⟩:=M
   have R:=Zbx M hc
   obtain ⟨z,h1,G,h3,rfl⟩:=h
   obtain ⟨l,_,r⟩:=B.row u lu
   rcases r.s1 z h1 with ⟨b,o,_,_,_,_,rfl⟩ | ⟨b,k',_,O,q3,I,q5,q6,rfl⟩
   ·simp at G; omega
   ·have:k'=v:=by simp at h3; omega
    subst this
    refine ⟨q3,.step M ⟨⟨?_,?_,?_⟩,?_,?_⟩⟩
    ·rw [I]; simpa using q5
    ·rw [I]; simpa using q6
    ·rw [I]; simp
    ·rw [I]; simp only [Xd9]; rw [<-Zbb q5]; exact R
    ·rw [I]; simp only [Xd9]
     refine Xey fun q=>O ((D b).2 ⟨?_,?_,q⟩)
     ·obtain ⟨k,e,lk⟩:=Qa q6
      omega
     ·rw [<-Zbb q5]; exact R
 have U:∀ c y,Xk (AtI a) (EdC N ce k) c y->∃ j,j<As.length/\Zc As j=(c:Int)/\Xk (AtI i) (EdF st) j y:=by
  intro c y w
  induction w with
  | init h=>obtain ⟨rfl,rfl⟩:=h; exact ⟨i,hi,ha,.init ⟨rfl,rfl⟩⟩
  | step w h M =>
   rename_i u v c e
   obtain ⟨j,h1,G,h3⟩:=M
   obtain ⟨⟨V,O,rfl⟩,q3,I⟩:=h
   obtain ⟨l,J,r⟩:=B.row j h1
   rw [G] at J r
   simp only [Xd9] at J r
   obtain ⟨k',r1,r2,r3⟩:=r.s3 v (J v V) V (fun h=>((D v).1 h).2.2 I) O
   exact ⟨k',r1,r2,.step h3 ⟨_,r3,by simp,by simp,rfl⟩⟩
 constructor
 ·rintro ⟨j,y,w,h1,G,rfl⟩
  obtain ⟨lj,wj⟩:=Z j y h1
  obtain ⟨z,V,O,rfl⟩:=G
  obtain ⟨l,_,r⟩:=B.row j lj
  rcases r.s1 z V with ⟨b',X,_,p2,p3,p4,rfl⟩ | ⟨b',k',_,_,_,_,_,_,rfl⟩
  ·have:X=o:=by simp at O; omega
   subst this
   have:b'=b:=by omega
   subst this
   exact ⟨_,y,wj,p4,rfl⟩
  ·simp at O
 ·rintro ⟨c,y,h1,G,rfl⟩
  obtain ⟨j,lj,ej,wj⟩:=U c y h1
  obtain ⟨l,J,r⟩:=B.row j lj
  rw [ej] at J r
  simp only [Xd9] at J r
  obtain ⟨X,r1,r2,r3⟩:=r.s2 b (J b G) G (Zk.2 ⟨o,ho,hb⟩)
  have:X=o:=H X o r1 ho (by rw [r2,hb])
  subst this
  exact ⟨j,y,_,wj,⟨_,r3,rfl,rfl⟩,rfl⟩
end
end Go.Rm
