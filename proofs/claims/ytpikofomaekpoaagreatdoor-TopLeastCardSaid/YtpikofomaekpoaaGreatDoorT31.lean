import Derived.Test.YtpikofomaekpoaaGreatDoorT30
/- Parts. -/
set_option linter.unusedSimpArgs false
set_option linter.unusedVariables false
namespace Go.Rm
structure Z1w (Y:Sys):Prop where
 H:Z84 Y
 C:Zj3 Y
 Clear:Y.Has 12 Y12
 tell:Y.Has 439 Y439
 least:Y.Has 397 Y397
def Z60 (x:Xe):Value:=.agg #[Zg x.a,Zg x.b,Zg x.c]
structure LeJ where
 Br:Nat
 Bd:Nat
 Bh:Nat
 Bf:Nat
 db:Nat
 cb:Nat
 hp:Nat
 o:Nat
 outs:Nat
 n:Nat
 P:Nat
 lo:Nat
structure LeK (J:LeJ):Prop where
 l1:J.lo<=J.Br
 l3:J.lo<=J.Bd
 l4:J.lo<=J.Bh
 l5:J.lo<=J.db
 l6:J.lo<=J.cb
 l7:J.lo<=J.Bf
 c1:J.Br≠J.cb
 c3:J.Bd≠J.cb
 c4:J.Bh≠J.cb
 c5:J.db≠J.cb
 c7:J.Bf≠J.cb
 d1:J.Br≠J.db
 d3:J.Bd≠J.db
 d4:J.Bh≠J.db
 d7:J.Bf≠J.db
 on:J.o+J.outs<=J.n
 bn:J.n<=268435456
 bP:J.P<=16384
structure LeQ (h:Zk) (J:LeJ) (vf:Array Value) (dn:List Bool) (L:Zb) (A:Vk) (S:Zf):Prop where
 br:Xb h J.Br #[.slice (some ⟨J.cb,J.o,none⟩) J.outs (J.n-J.o)]
 bd:Xb h J.Bd #[.slice (some ⟨J.db,0,none⟩) J.P J.P]
 bh:Xb h J.Bh #[Zh J.hp]
 bf:Xb h J.Bf vf
 dn:Ym h 1 (Sl.at J.db J.P J.P) (Vt dn)
 cs:Ym h 1 (Sl.at J.cb J.n J.n) (Zq L)
 hp:X1 h J.hp J.P A S
 dj:∀ b,S b->J.lo<=b/\b≠J.Br/\b≠J.Bd/\b≠J.Bh/\b≠J.Bf/\b≠J.db/\b≠J.cb
structure LeH (h:Zk) (J:LeJ) (vf:Array Value) (Bs:Nat) (sum:Int) (dn:List Bool) (L:Zb) (A:Vk) (S:Zf):Prop where
 q:LeQ h J vf dn L A S
 bs:Xb h Bs #[Zg sum]
 sb:J.lo<=Bs/\Bs≠J.cb
 ds:∀ b,S b->b≠Bs
section
variable {Y:Sys} {h h':Zk} {J:LeJ} {vf:Array Value} {Bs:Nat} {sum:Int} {dn:List Bool} {L:Zb} {A:Vk} {S:Zf}
theorem LeQ.ext (k:LeQ h J vf dn L A S) (e:Ext h h'):LeQ h' J vf dn L A S :=
 ⟨k.br.ext e,k.bd.ext e,k.bh.ext e,k.bf.ext e,k.dn.ext' e,k.cs.ext' e,k.hp.mod e (fun _ _ h=>h),k.dj⟩
theorem LeH.ext (k:LeH h J vf Bs sum dn L A S) (e:Ext h h'):LeH h' J vf Bs sum dn L A S:=⟨k.q.ext e,k.bs.ext e,k.sb,k.ds⟩
theorem LeH.setC {L':Zb} (k:LeH h J vf Bs sum dn L A S) (j:LeK J) (m:Mod (fun i=>i=J.cb) h h') (o:Ym h' 1 (Sl.at J.cb J.n J.n) (Zq L')):LeH h' J vf Bs sum dn L' A S :=
 ⟨⟨m.blk k.q.br j.c1,m.blk k.q.bd j.c3,m.blk k.q.bh j.c4,m.blk k.q.bf j.c7,k.q.dn.mod m (fun _=>j.c5),o,k.q.hp.mod m (fun b hb e=>(k.q.dj b hb).2.2.2.2.2.2 e),k.q.dj⟩,m.blk k.bs k.sb.2,k.sb,k.ds⟩
theorem LeQ.mark {d:List Bool} (k:LeQ h J vf dn L A S) (j:LeK J) (m:Mod (fun i=>i=J.db) h h') (o:Ym h' 1 (Sl.at J.db J.P J.P) (Vt d)):LeQ h' J vf d L A S :=
 ⟨m.blk k.br j.d1,m.blk k.bd j.d3,m.blk k.bh j.d4,m.blk k.bf j.d7,o,k.cs.mod m (fun _ e=>j.c5 e.symm),k.hp.mod m (fun b hb e=>(k.dj b hb).2.2.2.2.2.1 e),k.dj⟩
theorem LeQ.heap {A':Vk} {S':Zf} (k:LeQ h J vf dn L A S) (j:LeK J) (m:Mod S h h') (H:X1 h' J.hp J.P A' S') (f:∀ b,S' b->S b\/h.size<=b):LeQ h' J vf dn L A' S':=by
 have G:=k.br.lt;have I:=k.bd.lt;have M:=k.bh.lt;have O:=k.bf.lt;have r:=k.dn.lt rfl;have D:=k.cs.lt rfl;have R:=j.l1;simp at r D;refine ⟨m.blk k.br (fun q=>(k.dj _ q).2.1 rfl),m.blk k.bd (fun q=>(k.dj _ q).2.2.1 rfl),m.blk k.bh (fun q=>(k.dj _ q).2.2.2.1 rfl),m.blk k.bf (fun q=>(k.dj _ q).2.2.2.2.1 rfl),k.dn.mod m (fun _ q=>(k.dj _ q).2.2.2.2.2.1 rfl),k.cs.mod m (fun _ q=>(k.dj _ q).2.2.2.2.2.2 rfl),H,fun b hb=>?_⟩;rcases f b hb with q | q
 ·exact k.dj b q
 exact ⟨by omega,by omega,by omega,by omega,by omega,by omega,by omega⟩
theorem LeH.heap {A':Vk} {S':Zf} (k:LeH h J vf Bs sum dn L A S) (j:LeK J) (m:Mod S h h') (H:X1 h' J.hp J.P A' S') (f:∀ b,S' b->S b\/h.size<=b):LeH h' J vf Bs sum dn L A' S' :=
 ⟨k.q.heap j m H f,m.blk k.bs (fun q=>k.ds _ q rfl),k.sb,fun b hb=>by
  have:=k.bs.lt;rcases f b hb with q | q
  ·exact k.ds b q
  omega⟩
def Z23 (Y:Sys) (J:LeJ) (Bs:Nat):Value:=.func (.func (Y.fid 439)) #[] #[Zh J.Br,Zh Bs,Zh J.Bd,Zh J.Bh]
theorem Z0n (X:Z1w Y) (j:LeK J) (k:LeH h J vf Bs sum dn L A S) {x:Xe} (lL:L.length=J.n) (I:dn.length=J.P) (s0:0<=sum/\sum<=Xq) (c0:0<=x.c/\x.c<=2305843009213693952) (xo:x.b<J.outs) (xt:x.b<0->0<=x.a/\x.a<J.P)
  {R:Ze}
  (hO:∀ (o:Nat) h',x.b=(o:Int)->Mod (fun i=>J.lo<=i) h h'->LeH h' J vf Bs sum dn (L.set (J.o+o) (if sum+x.c<Zl L (J.o+o) then sum+x.c else Zl L (J.o+o))) A S->R (.tuple #[]) h')
  (hD:∀ (b:Nat) h',x.b<0->x.a=(b:Int)->b<J.P->Zdn dn b=true->Ext h h'->R (.tuple #[]) h')
  (hP:∀ (b:Nat) h' S',x.b<0->x.a=(b:Int)->b<J.P->Zdn dn b=false->Mod (fun i=>J.lo<=i) h h'->LeH h' J vf Bs sum dn L (Zbq J.P A b (Ww (sum+x.c))) S'->R (.tuple #[]) h') :
  Zps Y (Z23 Y J Bs) [Z60 x] h R:=by
 have hI:Xq=1152921504606846976:=rfl;have on:=j.on;have bP:=j.bP;refine ⟨X.tell.1,?_⟩;have:Zv Y 439 [Z60 x,Zh J.Br,Zh Bs,Zh J.Bd,Zh J.Bh] h R:=by
  refine .of_has X.tell rfl ?_;simp [Y439,Xm.wp,Z60];refine Zn ?_;intro B h1 gB B1 D;replace B1:Xb h1 B #[Zg x.a,Zg x.b,Zg x.c]:=B1;have k1:=k.ext D;have U:IntKind.i64.wrap (sum+x.c)=sum+x.c:=Zo (by omega);simp [B1.hc];by_cases c:0<=x.b
  ·obtain ⟨o,V⟩:∃ o:Nat,x.b=o:=⟨x.b.toNat,by omega⟩
   have lo:o<J.outs:=by omega
   have Z:=k1.q.cs.row64.val (J.o+o) (by omega);simp at Z;have hi:∀ g,Yo.sem Y g (.idxa 1) [.slice (some ⟨J.cb,J.o,none⟩) J.outs (J.n-J.o),Zg o]=some (.pointer (some ⟨J.cb,J.o+o,none⟩)):=fun g=>by
    have:=Zm (Y:=Y) (h:=g) (s:=⟨J.cb,J.o,J.outs,J.n-J.o,false,none⟩) (sz:=1) (k:=.i64) (i:=(o:Int)) ⟨fun h=>(by cases h),by simp;omega,.inl rfl⟩ (by omega) (by simp;omega);simpa [Sl.v] using this
   simp [V,k1.q.br.hc,k1.bs.hc,B1.hc,Z,U,hi];refine Zir k1.q.cs (k:=J.o+o) (by simp;omega) ?_;intro M o2 r;rw [Vn] at o2;have k2:=k1.setC j r o2;simp;exact hO o M V ((D.mono fun _ _ h=>h.elim).trans (r.mono fun i _ q=>by have:=j.l6;omega)) k2
  have c':x.b<0:=by omega
  obtain ⟨q1,q2⟩:=xt c';obtain ⟨b,hb⟩:∃ b:Nat,x.a=b:=⟨x.a.toNat,by omega⟩
  have G:b<J.P:=by omega
  have O:∀ g z (x:Nat),x<J.P->Yo.sem Y g (.idxa 1) [.slice (some ⟨z,0,none⟩) J.P J.P,Zg x]=some (.pointer (some ⟨z,x,none⟩)):=fun g z x lx=>by
   have:=Vb (Y:=Y) (h:=g) (b:=z) (sz:=1) (show J.P<=9223372036854775807 by omega) lx (Xfy J.P);simpa using this
  have dv:hc h1 J.db b=some (.bool (Zdn dn b)):=by
   have:=k1.q.dn.cell (i:=b) (v:=.bool (Zdn dn b)) (by simp [Vt,Zdn,I,G]);simpa using this
  simp [c,k1.q.bd.hc,B1.hc,hb,O _ _ _ G,dv]
  cases hd:Zdn dn b with
  | true =>
   simp;exact hD b h1 c' hb G hd D
  | false =>
   simp [k1.q.bh.hc,k1.bs.hc,B1.hc,U,hb];refine Zdc X.H.Put X.H.key X.C.Held X.H.up X.H.ahead X.H.swap k1.q.hp ?_;intro M S2 H2 f2 r;simp;exact hP b M S2 c' hb G hd ((D.mono fun _ _ h=>h.elim).trans (r.mono fun i _ q=>(k1.q.dj i q).1)) (k1.heap j r H2 f2)
 exact this
end
theorem U1 {h:Zk} {K:Ze} {n:Nat} {m:Int} (G:n<=17592186044416) (r:m=n) (D:∀ (b:Nat) (h':Zk),h.size<=b->Ym h' 1 (Sl.at b n n) (Zq (List.replicate n 0))->Ext h h'->b<h'.size->K (.slice (some ⟨b,0,none⟩) n n) h') :
  Ef.wp h K (.mkslice 1 8 #[.int .i64 0]) [.int .i64 m,.int .i64 m]:=by
 subst r;rw [Vq];refine ⟨by omega,by omega,by omega,by omega,fun t=>?_⟩;simp only [Xf1,Xgd,Ui];exact D h.size _ (Xfy _) (Zdh (by omega)) Mod.push (by simp)
def Zl0 (Y:Sys) (h0:Zk) (fv:Value) (P:Nat) (st:Nat->List Xe):Prop :=
 ∀ (a:Nat) (tv:Value) (I:Nat->Zk->Prop) (h:Zk) (R:Ze),a<P ->
  (∀ j h',I j h'->Ext h0 h')->(∀ j h' h'',I j h'->Ext h' h''->I j h'') ->
  (∀ j h',j<(st a).length->I j h'->∀ R':Ze,(∀ h'',I (j+1) h''->R' (.tuple #[]) h'')->Zps Y tv [Z60 (Zp (st a) j)] h' R') ->
  I 0 h->(∀ h',I (st a).length h'->R (.tuple #[]) h')->Zps Y fv [.int .i64 a,tv] h R
section
variable {Y:Sys} {h h':Zk}
def Xdw (v0 v1 v2 v3 v5 v6 v7 v8 v9 v10 v11 v12 v13 v17 v18 v19 v20 v21:Value) (n cb:Nat) (h0:Zk) (e:Zc) (h':Zk):Prop :=
 ∃ (i:Nat) (v5 v16:Value),e=[v0,v1,v2,v3,.slice (some ⟨cb,0,none⟩) n n,v5,v6,v7,v8,v9,v10,v11,v12,v13,.int .i64 n,.int .i64 i,v16,v17,v18,v19,v20,v21]/\i<=n/\Mod (fun j=>j=cb) h0 h'/\∃ l:Zb,l.length=n/\Ym h' 1 (Sl.at cb n n) (Zq l)/\∀ j,j<i->Zl l j=Xq
structure LeB (h0 h:Zk) (cb n hp Bh Bf P:Nat) (vf:Array Value) (L:Zb) (S:Zf):Prop where
 bh:Xb h Bh #[.pointer (some ⟨hp,0,none⟩)]
 bf:Xb h Bf vf
 cs:Ym h 1 (Sl.at cb n n) (Zq L)
 hp:∃ A,X1 h hp P A S
 dj:∀ b,S b->h0.size<=b/\b≠Bh/\b≠Bf/\b≠cb
 ex:Ext h0 h
 lL:L.length=n
def Xbn (st:Nat->List Xe) (starts:Zb) (outs i:Nat) (L:Zb):Prop :=
 (∀ i',i'<i->∀ o,o<outs->Zao (GoF st (Zl starts i').toNat o) (Zl L (i' * outs+o)))/\∀ j,i * outs<=j->j<L.length->Zl L j=Xq
def LsI (v0 v1 v5:Value) (cb n hp Bh Bf P outs:Nat) (vf:Array Value) (ss:Sl) (st:Nat->List Xe) (starts:Zb) (h0:Zk) (e:Zc) (h':Zk):Prop :=
 ∃ (i:Nat) (L:Zb) (S:Zf) (v5 v7 v8 v9 v10 v11 v12 v13 v14 v15 v16 v20 v21:Value),e=[v0,v1,.pointer (some ⟨Bf,0,none⟩),.slice none 0 0,.slice (some ⟨cb,0,none⟩) n n,v5,.pointer (some ⟨Bh,0,none⟩),v7,v8,v9,v10,v11,v12,v13,v14,v15,v16,ss.v,.int .i64 ss.n,.int .i64 i,v20,v21]/\i<=starts.length /\
  LeB h0 h' cb n hp Bh Bf P vf L S/\Xbn st starts outs i L
def Zms (J:LeJ) (L:Zb) (o:Nat):Int:=if o<J.outs then Zl L (J.o+o) else Xq
def LsP (v0 v1:Value) (J:LeJ) (vf:Array Value) (ss:Sl) (st:Nat->List Xe) (i s:Nat) (L0:Zb) (h0:Zk) (mm:Nat) (e:Zc) (h':Zk):Prop :=
 ∃ (ord:Zd) (cost:Nat->Int) (A:Vk) (dn:List Bool) (L:Zb) (S:Zf) (v5 v7 v8 v11 v12 v13 v14 v15 v16 v20 v21:Value),
  e=[v0,v1,.pointer (some ⟨J.Bf,0,none⟩),.slice none 0 0,.slice (some ⟨J.cb,0,none⟩) J.n J.n,v5,.pointer (some ⟨J.Bh,0,none⟩),v7,v8,.pointer (some ⟨J.Br,0,none⟩),.pointer (some ⟨J.Bd,0,none⟩),v11,v12,v13,v14,v15,v16,ss.v,.int .i64 ss.n,.int .i64 i,v20,v21] /\
  Ext h0 h'/\LeQ h' J vf dn L A S/\dn.length=J.P/\L.length=J.n/\(∀ b,b<J.P->(Zdn dn b=true↔b∈ord))/\LeO J.P st s ord cost A (Zms J L)/\(∀ j,j<J.o\/J.o+J.outs<=j->Zl L j=Zl L0 j)/\mm=J.P-ord.length
set_option maxHeartbeats 1000000 in
theorem Zlu (X:Z1w Y) {P outs:Nat} {I:Sl} {D:Zb} {V:Value} {st:Nat->List Xe} (ok:Zq3 P outs st) (bP:P<=16384) (r:Yd h I D) (hs:∀ i,i<D.length->∃ s:Nat,Zl D i=s/\s<P) (h1o:0<outs)
  (bo:D.length * outs<=268435456) (nx:Zl0 Y h V P st) (bN:V.oneCell'=true)
  {R:Ze} (hr:∀ h' M L,Ext h h'->h.size<=M->Ym h' 1 (Sl.at M (D.length * outs) (D.length * outs)) (Zq L)->L.length=D.length * outs ->
   (∀ i,i<D.length->∀ o,o<outs->Zao (GoF st (Zl D i).toNat o) (Zl L (i * outs+o)))->R (.slice (some ⟨M,0,none⟩) (D.length * outs) (D.length * outs)) h') :
  Zv Y 397 [.agg #[.int .i64 P,I.v,V],.int .i64 outs] h R:=by
 have a2:=r.len;have bs:D.length<=268435456:=Xgk (by have:=Nat.mul_le_mul_left D.length h1o;simpa using this) bo;have bu:D.length=0\/outs<=268435456:=by
  rcases Xhj D.length with q | q
  ·exact .inl q
  right;have:=Xgi outs q;omega
 refine .of_has X.least rfl ?_;simp [Y397,Xm.wp];refine Zn ?_;intro Bf h1 a3 Bf1 e1;replace Bf1:Xb h1 Bf #[.int .i64 P,I.v,V]:=Bf1;have z1:=e1.size;have a4:=Bf1.lt;have wm:IntKind.i64.wrap ((I.n:Int) * (outs:Int))=((D.length * outs:Nat):Int):=by
  have q1:((D.length * outs:Nat):Int)<=268435456:=by omega
  have q2:(0:Int)<=((D.length * outs:Nat):Int):=by omega
  rw [Int.natCast_mul] at q1 q2;rw [<-a2,Zo (by omega)];simp
 generalize hn:D.length * outs=n at *
 simp [Bf1.hc,wm];refine U1 (n:=n) (by omega) rfl ?_;intro M h2 a5 o2 e2 a6;have x2:=e1.trans e2;have z2:=e2.size;have Bf2:=Bf1.ext e2;simp;refine Zt (Xdw (.agg #[.int .i64 P,I.v,V]) (.int .i64 outs) (.pointer (some ⟨Bf,0,none⟩)) (.slice none 0 0) undef undef undef undef undef undef undef undef undef undef undef undef undef undef n M h2) (fun e _=>n-Zy e 15) ⟨0,_,_,rfl,by omega,Mod.refl _,_,by simp,o2,fun j G=>by omega⟩ ?_;rintro e h3 ⟨i,v5,aD,rfl,hi,m3,l,ll,o3,hl⟩;by_cases c:i<n
 ·have c':(i:Int)<n:=by omega
  have w1:=Zj (i:=i) (by omega);have an:∀ g,Yo.sem Y g (.idxa 1) [.slice (some ⟨M,0,none⟩) n n,.int .i64 i]=some (.pointer (some ⟨M,i,none⟩)):=fun g=>by
   have:=Vb (Y:=Y) (h:=g) (b:=M) (sz:=1) (show n<=9223372036854775807 by omega) c (Xfy n);simpa using this
  simp [c',an];refine Zir o3 (k:=i) (by simp [ll];omega) ?_;intro h4 o4 m4;rw [Vn] at o4;simp [w1];refine ⟨⟨i+1,_,_,rfl,by omega,m3.trans m4,l.set i Xq,by simp [ll],o4,fun j G=>?_⟩,by simp [Zy];omega⟩;rw [Va (by omega)];by_cases q:j=i
  ·simp [q]
  simp [q];exact hl j (by omega)
 have c':¬ (i:Int)<n:=by omega
 have aE:∀ j,j<n->Zl l j=Xq:=fun j G=>hl j (by omega);have x3:Ext h h3:=Mod.ext x2 m3 (fun j G=>by omega);have Bf3:=m3.blk Bf2 (by omega);have z3:=m3.size;clear hl hi m3 o2 Bf2;simp [c',Bf3.hc];refine Zmq X.H.New ?_;intro h4 hp S4 H4 f4 e4;rw [Zk8 bP] at H4;have x4:=x3.trans e4;have z4:=e4.size;have Bf4:=Bf3.ext e4;simp;refine Zn ?_;intro Bh h5 g5 Bh5 e5;replace Bh5:Xb h5 Bh #[.pointer none]:=Bh5;have l5:=Bh5.lt;have z5:=e5.size;simp;refine stB Bh5 (by simp) ?_;intro h6 Bh6 m6;simp at Bh6;have z6:=m6.size;have e6:Ext h4 h6:=Mod.toExtF e5 m6 g5;have x6:=x4.trans e6;have Bf6:=Bf4.ext e6;simp [Bf6.hc];have B6:LeB h h6 M n hp Bh Bf P #[.int .i64 P,I.v,V] l S4:=by
  refine ⟨Bh6,Bf6,(o3.ext' e4).ext' e6,⟨_,H4.mod e6 (fun _ _ h=>h)⟩,fun b hb=>?_,x6,ll⟩;have:=f4 b hb;have:=H4.lt hb;exact ⟨by omega,by omega,by omega,by omega⟩
 refine Zt (LsI (.agg #[.int .i64 P,I.v,V]) (.int .i64 outs) v5 M n hp Bh Bf P outs #[.int .i64 P,I.v,V] I st D h) (fun e _=>D.length-Zy e 19) ⟨0,l,S4,_,_,_,_,_,_,_,_,_,_,_,_,_,rfl,by omega,B6,fun i' h=>by omega,fun j _ G=>aE j (by omega)⟩ ?_;have ao:Bh≠M/\Bf≠M/\Bf≠Bh/\h.size<=M/\h.size<=Bh/\h.size<=Bf:=by omega
 clear B6 Bf6 x6 e6 m6 Bh6 Bh5 e5 Bf4 x4 f4 H4 e4 Bf3 x3 x2 aE o3 z1 z2 z3 z4 z5 z6 l5 a6 g5 a5 e1 e2 Bf1 a3 a4 ll c c' i l;obtain ⟨n1,n2,n3,n4,n5,n6⟩:=ao;rintro e h7 ⟨i,L,S,v5,v7,v8,v9,bO,a7,a8,a9,ba,bb,aD,bc,be,rfl,hi,B7,ad⟩;have r7:=r.ext B7.ex;by_cases c:i<D.length;rotate_left
 ·have c':¬ (i:Int)<I.n:=by omega
  have:i=D.length:=by omega
  subst this;simp [c'];exact hr h7 M L B7.ex n4 B7.cs B7.lL ad.1
 have c1:(i:Int)<I.n:=by omega
 have c2:i<I.n:=by omega
 have w1:=Zj (i:=i) (by omega);have io:i * outs+outs<=n:=by
  have:=Xgi outs (show i+1<=D.length from c);rw [Xgm,Xiz,hn] at this;exact this
 have w2:IntKind.i64.wrap ((i:Int) * (outs:Int))=((i * outs:Nat):Int):=by
  rw [Zo (by rw [<-Int.natCast_mul];omega),Int.natCast_mul]
 have w3:IntKind.i64.wrap (((i:Int)+1) * (outs:Int))=((i * outs+outs:Nat):Int):=by
  have:((i:Int)+1) * (outs:Int)=((i * outs+outs:Nat):Int):=by
   rw [Int.natCast_add,Int.natCast_mul,Int.add_mul,Int.one_mul]
  rw [this,Zo (by omega)]
 obtain ⟨s,es,ls⟩:=hs i c;have rv:=r7.val i c;rw [es] at rv;have al:Yo.sem Y h7 (.slc 1 true true) [.slice (some ⟨M,0,none⟩) n n,.int .i64 ((i * outs:Nat):Int),.int .i64 ((i * outs+outs:Nat):Int)]=some (.slice (some ⟨M,i * outs,none⟩) outs (n-i * outs)):=by
  have:=Zia (Y:=Y) (h:=h7) (s:=Sl.at M n n) (sz:=1) (k:=.i64) (k':=.i64) (i:=((i * outs:Nat):Int)) (j:=((i * outs+outs:Nat):Int)) B7.cs.ok (by omega) (by omega) (by simp only [Sl.at_c];omega);have ao:¬ n=i * outs:=by omega
  simpa [Sl.v,Sl.at,ao,-Int.natCast_mul,-Int.natCast_add] using this
 simp [c1,Zm r7.ok,rv,w1,w2,w3,al,-Int.natCast_mul,-Int.natCast_add];refine Zn ?_;intro Br h8 g8 Br8 e8;replace Br8:Xb h8 Br #[.slice none 0 0]:=Br8;have l8:=Br8.lt;simp;refine stB Br8 (by simp) ?_;intro h9 Br9 m9;simp at Br9;have z9:=m9.size;have e9:Ext h7 h9:=Mod.toExtF e8 m9 g8;have Bf9:=B7.bf.ext e9;simp [Bf9.hc];refine Zls (n:=P) (by omega) rfl ?_;intro db bg bQ aF ap bR;simp;refine Zn ?_;intro Bd bi bj Bd11 aG;replace Bd11:Xb bi Bd #[.slice none 0 0]:=Bd11;simp;refine stB Bd11 (by simp) ?_;intro aq Bd12 aH;simp at Bd12;have ae:Ext bg aq:=Mod.toExtF aG aH bj;have Z:Ext h7 aq:=(e9.trans ap).trans ae;have Bh12:=B7.bh.ext Z;obtain ⟨A,HA⟩:=B7.hp;simp [Bh12.hc];have k1:=B7.bh.lt;have k2:=B7.bf.lt;have k3:=B7.cs.lt rfl;simp at k3;refine Zl2 X.Clear (HA.mod Z (fun _ _ h=>h)) ?_;intro aI H13 ar;obtain ⟨J,U⟩:∃ J:LeJ,J=⟨Br,Bd,Bh,Bf,db,M,hp,i * outs,outs,n,P,h.size⟩:=⟨_,rfl⟩
 have jk:LeK J:=by
  subst U;refine ⟨?_,?_,?_,?_,?_,?_,?_,?_,?_,?_,?_,?_,?_,?_,?_,?_,?_,?_⟩ <;> simp only [] <;> omega
 have aJ:LeQ aq J #[.int .i64 P,I.v,V] (List.replicate P false) L A S:=by
  subst U;refine ⟨(Br9.ext ap).ext ae,Bd12,Bh12,B7.bf.ext Z,by simpa [Vt] using aF.ext' ae,B7.cs.ext' Z,HA.mod Z (fun _ _ h=>h),fun b hb=>?_⟩;have:=B7.dj b hb;have:=HA.lt hb;simp only [];exact ⟨by omega,by omega,by omega,by omega,by omega,by omega,by omega⟩
 have af:LeQ aI J #[.int .i64 P,I.v,V] (List.replicate P false) L (fun _=>none) S:=aJ.heap jk ar (by rw [U];exact H13) (fun b hb=>.inl hb);have aK:Ext h aI:=Mod.ext (B7.ex.trans Z) ar (fun j G=>(B7.dj j G).1);have Bh13:=af.bh;rw [U] at Bh13;simp at Bh13;simp [Bh13.hc];have H13:=af.hp;rw [show J.hp=hp by rw [U]] at H13;refine Zdc X.H.Put X.H.key X.C.Held X.H.up X.H.ahead X.H.swap H13 ?_;intro aL S14 H14 aM au;rw [Zbv (by omega) (by omega)] at H14;have aN:LeQ aL J #[.int .i64 P,I.v,V] (List.replicate P false) L (Zbq P (fun _=>none) s 0) S14:=af.heap jk au (by rw [U] at H14 ⊢;exact H14) aM;have aO:Ext h aL:=Mod.ext aK au (fun j G=>(B7.dj j G).1);have jP:J.P=P:=by rw [U]
 have jo:J.o=i * outs:=by rw [U]
 have bS:J.outs=outs:=by rw [U]
 have jn:J.n=n:=by rw [U]
 have bk:J.lo=h.size:=by rw [U]
 have bm:J.hp=hp:=by rw [U]
 have d0:LeO J.P st s [] (fun _=>0) (Zbq P (fun _=>none) s 0) (Zms J L):=by
  rw [jP];refine LeO.start ls (fun o=>?_);unfold Zms
  split
  ·exact ad.2 _ (by omega) (by have:=B7.lL;omega)
  rfl
 have bn:Br=J.Br:=by rw [U]
 have bp:Bd=J.Bd:=by rw [U]
 have bq:Bh=J.Bh:=by rw [U]
 have br:Bf=J.Bf:=by rw [U]
 have bv:M=J.cb:=by rw [U]
 have lL:=B7.lL;have bw:i * outs=J.o:=by rw [jo]
 clear U H14 au aM H13 ar aJ af aK Bh13 Bh12 HA Z ae aG Bd12 Bd11 aH ap aF e9 Bf9 Br9 Br8 m9 e8 al;simp;rw [bn,bp,bq,br,bv,<-jn];refine Zey (LsP (.agg #[.int .i64 P,I.v,V]) (.int .i64 outs) J #[.int .i64 P,I.v,V] I st i s L h) _ ⟨[],_,_,_,L,S14,_,_,_,_,_,_,_,_,_,_,_,rfl,aO,aN,by simp [jP],by omega,fun b hb=>by simp [Zdn,show b<P from jP ▸ hb],d0,fun j _=>rfl,rfl⟩ ?_;clear aN d0 aO;rintro mm e bx ⟨aa,aP,A,dn,L1,S1,v5,v7,v8,a7,a8,a9,ba,bb,aD,bc,be,rfl,aQ,ab,aR,aS,aT,aU,av,rfl⟩;simp [ab.bh.hc];refine Zky X.H.Pop X.H.down X.H.ahead X.H.swap ab.hp ?_ ?_
 ·intro h0;simp;refine Zn ?_;intro Bs ag bz Bs16 bA;replace Bs16:Xb ag Bs #[.int .i64 0]:=Bs16;simp;refine stB Bs16 (by simp) ?_;intro aw Bs17 bB;have ah:Ext bx aw:=Mod.toExtF bA bB bz;have ac:=ab.ext ah;simp [w1];refine ⟨⟨i+1,L1,S1,_,_,_,_,_,_,_,_,_,_,_,_,_,rfl,by omega,?_,?_⟩,by simp [Zy];omega⟩
  ·rw [<-bm,<-jP];exact ⟨ac.bh,by rw [jP];exact ac.bf,ac.cs,⟨_,ac.hp⟩,fun b hb=>by have:=ac.dj b hb;rw [bk] at this;exact ⟨this.1,this.2.2.2.1,this.2.2.2.2.1,this.2.2.2.2.2.2⟩,aQ.trans ah,aS⟩
  refine ⟨fun i' bT o ho=>?_,fun j G bU=>?_⟩
  ·by_cases q:i'=i
   ·subst q;have:=aU.least (by rw [jP];exact ok) (by rw [jP];exact ls) h0 o;unfold Zms at this;rw [if_pos (by omega),<-bw] at this;rw [es];exact this
   have bV:i' * outs+outs<=i * outs:=by
    have:=Xgi outs (show i'+1<=i by omega);rw [Xgm,Xiz] at this;exact this
   rw [av _ (.inl (by omega))];exact ad.1 i' (by omega) o ho
  have bW:i * outs+outs<=j:=by
   rw [Xgm,Xiz] at G;exact G
  rw [av _ (.inr (by omega))];exact ad.2 j (by omega) (by omega)
 intro ag k c am H16 aV;have ai:=ab.heap jk aV H16 (fun b hb=>.inl hb);have bC:Ext h ag:=Mod.ext aQ aV (fun j G=>by have:=(ab.dj j G).1;omega);obtain ⟨bX,ax,aW,aX,bY⟩:=aU.pop am;have lk:=am.1;simp;refine Zn ?_;intro Bs aw bD Bs17 ah;replace Bs17:Xb aw Bs #[.int .i64 0]:=Bs17;simp;refine stB Bs17 (by simp) ?_;intro bE Bs18 bF;simp at Bs18;have aY:Ext ag bE:=Mod.toExtF ah bF bD;have aj:=ai.ext aY;have bG:=bC.trans aY;have an:∀ g z (x:Nat),x<J.P->Yo.sem Y g (.idxa 1) [.slice (some ⟨z,0,none⟩) J.P J.P,.int .i64 x]=some (.pointer (some ⟨z,x,none⟩)):=fun g z x lx=>by
  have:=Vb (Y:=Y) (h:=g) (b:=z) (sz:=1) (show J.P<=9223372036854775807 by omega) lx (Xfy J.P);simpa using this
 simp [aj.bd.hc,an _ _ _ lk];refine Zir aj.dn (k:=k) (by rw [Zgx];omega) ?_;intro ak aZ ay;rw [Zln] at aZ;have a0:=aj.mark jk ay aZ;have bH:Ext h ak:=Mod.ext bG ay (fun j G=>by have:=jk.l5;omega);have kk:=aj.dn.lt rfl;have bJ:=ai.dn.lt rfl;simp at kk bJ;have Bs19:Xb ak Bs #[.int .i64 c]:=ay.blk Bs18 (by omega);have bK:=ai.cs.lt rfl;simp at bK;have H19:LeH ak J #[.int .i64 P,I.v,V] Bs c (dn.set k true) L1 (Zfi A k) S1:=⟨a0,Bs19,⟨by omega,by omega⟩,fun b hb=>by have:=ai.hp.lt hb;omega⟩
 have O:∀ y,y<J.P->(Zdn (dn.set k true) y=true↔y∈aa++[k]):=by
  intro y hy;rw [Zt3 (by omega)];by_cases e:y=k
  ·subst e;simp
  rw [if_neg e];simp [e];exact aT y hy
 have bL:∀ g,Yo.sem Y g (.mkf 439 0) [.pointer (some ⟨J.Br,0,none⟩),.pointer (some ⟨Bs,0,none⟩),.pointer (some ⟨J.Bd,0,none⟩),.pointer (some ⟨J.Bh,0,none⟩)]=some (Z23 Y J Bs):=fun g=>rfl;simp [a0.bf.hc,bL];refine nx k (Z23 Y J Bs) (fun j g=>∃ L2 A2 S2,Ext h g/\LeH g J #[.int .i64 P,I.v,V] Bs c (dn.set k true) L2 A2 S2/\L2.length=J.n/\LeI J.P st s (aa++[k]) (X4 aP k c) A2 (Zms J L2) k j/\(∀ j,j<J.o\/J.o+J.outs<=j->Zl L2 j=Zl L j)) ak _ (by omega) ?_ ?_ ?_ ?_ ?_
 ·rintro j g ⟨_,_,_,x,_⟩;exact x
 ·rintro j g g' ⟨L2,A2,S2,x,k2,r2⟩ e;exact ⟨L2,A2,S2,x.trans e,k2.ext e,r2⟩
 ·rintro j g G ⟨L2,A2,S2,x,k2,l2,d2,o2⟩ R' az;have hm:=Zeq G;have hc:=ok.c0 k _ hm;have bZ:=ok.to k _ hm;have bM:=ok.out k _ hm;have aA:k∈aa++[k]:=by simp
  have aB:Zq3 J.P outs st:=by rw [jP];exact ok
  refine Z0n X jk k2 l2 (by simp [aR]) (by omega) hc (by omega) (by omega) ?_ ?_ ?_
  ·intro o g' ho m' k';refine az g' ⟨_,A2,S2,Mod.ext x m' (fun j G=>by omega),k',by simp [l2],?_,fun j G=>?_⟩
   ·have:=d2.out aB G aA ho;rw [aX] at this;have e:X4 (Zms J L2) o (if c+(Zp (st k) j).c<Zms J L2 o then c+(Zp (st k) j).c else Zms J L2 o)=Zms J (L2.set (J.o+o) (if c+(Zp (st k) j).c<Zl L2 (J.o+o) then c+(Zp (st k) j).c else Zl L2 (J.o+o))):=by
     funext y
     have lo:o<J.outs:=by omega
     unfold X4 Zms;rw [if_pos lo,Va (by omega)];by_cases q:y=o
     ·subst q;simp [lo]
     have:¬ J.o+y=J.o+o:=by omega
     simp [q]
    rw [e] at this;exact this
   have b0:=jk.on;rw [Va (by omega),if_neg (by omega)];exact o2 j G
  ·intro b g' hb aC lb hd e;exact az g' ⟨L2,A2,S2,x.trans e,k2.ext e,l2,d2.old aB G aA aW hb aC ((O b lb).1 hd),o2⟩
  intro b g' S' hb aC lb hd m' k';refine az g' ⟨L2,_,S',Mod.ext x m' (fun j G=>by omega),k',l2,?_,o2⟩;have:=d2.put aB G aA aW hb aC (fun h=>by rw [(O b lb).2 h] at hd;cases hd);rw [aX] at this;exact this
 ·exact ⟨L1,_,S1,bH,H19,aS,ax,av⟩
 rintro g ⟨L2,A2,S2,x,k2,l2,d2,o2⟩;simp;refine Zlj (m':=J.P-(aa++[k]).length) ⟨aa++[k],_,A2,_,L2,S2,_,_,_,_,_,_,_,_,_,_,_,rfl,x,k2.q,by simp [aR],l2,O,d2.fin,o2,rfl⟩ ?_;have a1:=Zb5 ax.d.nd ax.d.lt;simp at a1 ⊢;omega
structure Z9f (h:Zk) (B P:Nat) (st:Nat->List Xe):Prop where
 ex:∃ sv:Sl,Xb h B #[sv.v]/\sv.ok/\sv.n=P/\∀ k,k<P->∃ u:Sl,hc h sv.b (sv.o+k)=some u.v/\Z6 h u (st k)
 bl:∀ k,k<P->(st k).length<=16384
def stK (costs:Zb):Nat->List Xe->List Xe
 | _,[]=>[]
 | p,x::r=>if Zl costs p<Xq/\x.c<Xq then ⟨x.a,x.b,x.c+Zl costs p⟩::stK costs (p+1) r else stK costs (p+1) r
structure Z8q (h:Zk) (Bs Bl Bc P:Nat) (costs:Zb) (fi:Nat->Int) (lk:Nat->Nat) (ls:Nat->List Xe) (n:Nat):Prop where
 ex:∃ sp sl sc:Sl,Xb h Bs #[sp.v]/\Xb h Bl #[sl.v]/\Xb h Bc #[sc.v]/\Yd h sc costs/\sp.ok/\sp.n=P/\sl.ok/\sl.n=n/\(∀ k,k<P->hc h sp.b (sp.o+k * 2)=some (Zg (fi k))/\hc h sp.b (sp.o+k * 2+1)=some (Zg (lk k))) /\
  ∀ i,i<n->∃ u:Sl,hc h sl.b (sl.o+i)=some u.v/\Z6 h u (ls i)
 ll:∀ k,k<P->lk k<n
 bl:∀ i,i<n->(ls i).length<=16384
 ff:∀ k,k<P->ls (lk k)≠[]->0<=fi k/\fi k+(ls (lk k)).length<=costs.length
 bc:costs.length<=17592186044416
 c0:∀ i,i<costs.length->0<=Zl costs i/\Zl costs i<=Xq
 x0:∀ i x,i<n->x∈ls i->0<=x.c/\x.c<=Xq
def NaI (Y:Sys) (a:Nat) (tv v2:Value) (u:Sl) (m:Nat) (I:Nat->Zk->Prop) (h0:Zk) (e:Zc) (h':Zk):Prop :=
 ∃ (j:Nat) (v3 v7:Value),e=[Zg a,tv,v2,v3,u.v,Zg u.n,Zg j,v7]/\j<=m/\I j h'/\Ext h0 h'
theorem Z0j (H:Y.Has 438 Y438) {h0:Zk} {B P:Nat} {r:Nat->List Xe} (s:Z9f h0 B P r):Zl0 Y h0 (.func (.func (Y.fid 438)) #[] #[Zh B]) P r:=by
 intro a tv I h R ha G O U J hR;refine ⟨H.1,?_⟩;obtain ⟨sv,Bb,V,ns,M⟩:=s.ex;have bl:=s.bl a ha;obtain ⟨u,hu,X⟩:=M a ha;have Z:=G _ _ J;have B0:=Bb.ext Z;have aa:=Z.hc hu (fun h=>h);have:Zv Y 438 [Zg a,tv,Zh B] h R:=by
  refine .of_has H rfl ?_;have c1:(a:Int)<sv.n:=by omega
  have lu:=X.len;simp [Y438,Xm.wp,B0.hc,Zm V,c1,aa];refine Zt (NaI Y a tv (Zh B) u (r a).length I h0) (fun e _=>(r a).length-Zy e 6) ⟨0,_,_,rfl,by omega,J,Z⟩ ?_;rintro e h1 ⟨j,v3,v7,rfl,hj,I1,x1⟩;have r1:=X.ext x1;by_cases c:j<(r a).length
  ·have c':(j:Int)<u.n:=by omega
   have w1:=Zj (i:=j) (by omega);simp [c',Zm X.ok,r1.rd c];refine Zn ?_;intro D h2 gD D2 e2;simp;refine Zs (vs:=#[Zg (Zp (r a) j).a,Zg (Zp (r a) j).b,Zg (Zp (r a) j).c]) D2 rfl rfl (by simp) ?_;intro h3 D3 m3;have e3:Ext h1 h3:=Mod.toExtF e2 m3 gD;simp [Yj D3];refine U j h3 c (O _ _ _ I1 e3) _ ?_;intro h4 I4;simp [w1];exact ⟨⟨j+1,_,_,rfl,by omega,I4,G _ _ I4⟩,by simp [Zy];omega⟩
  have c':¬ (j:Int)<u.n:=by omega
  have:j=(r a).length:=by omega
  subst this;simp [c'];exact hR h1 I1
 exact this
def NkI (Y:Sys) (a Bs Bl Bc:Nat) (tv:Value) (u:Sl) (costs:Zb) (f:Int) (l t:List Xe) (I:Nat->Zk->Prop) (h0:Zk) (e:Zc) (h':Zk):Prop :=
 ∃ (j q:Nat) (v6 v7 v8 v12 v13 v14:Value),e=[Zg a,tv,Zh Bs,Zh Bl,Zh Bc,Zg f,v6,v7,v8,u.v,Zg u.n,Zg j,v12,v13,v14]/\j<=l.length/\q<=t.length/\t.drop q=stK costs (f.toNat+j) (l.drop j)/\I q h'/\Ext h0 h'
theorem Zxy {l:List Xe} {j:Nat} (h:j<l.length):l.drop j=Zp l j::l.drop (j+1):=by rw [Wy h];exact Xhc h
theorem Zze (H:Y.Has 441 Y441) {h0:Zk} {Bs Bl Bc P n:Nat} {costs:Zb} {fi:Nat->Int} {lk:Nat->Nat} {ls st:Nat->List Xe} (s:Z8q h0 Bs Bl Bc P costs fi lk ls n) (hst:∀ k,k<P->st k=stK costs (fi k).toNat (ls (lk k))) :
  Zl0 Y h0 (.func (.func (Y.fid 441)) #[] #[Zh Bs,Zh Bl,Zh Bc]) P st:=by
 intro a tv I h R ha M J ac O hR;refine ⟨H.1,?_⟩;have hI:Xq=1152921504606846976:=rfl;obtain ⟨sp,sl,sc,Bs0,Bl0,Bc0,rc,U,aj,V,ak,ad,ae⟩:=s.ex;have ln:=s.ll a ha;have bl:=s.bl _ ln;have ff:=s.ff a ha;have bc:=s.bc;obtain ⟨u,hu,ru⟩:=ae _ ln;obtain ⟨hf,hk⟩:=ad a ha;have G:=M _ _ O;have Bs1:=Bs0.ext G;have Bl1:=Bl0.ext G;have Bc1:=Bc0.ext G;have X:=G.hc hu (fun h=>h);have Z:=G.hc hf (fun h=>h);have aa:=G.hc hk (fun h=>h);have hs:=hst a ha;have x0c:=fun x=>s.x0 (lk a) x ln;have af:=s.c0;generalize al:fi a=f at *
 generalize am:lk a=g at *
 generalize an:ls g=l at *
 generalize ao:st a=t at *
 have:Zv Y 441 [Zg a,tv,Zh Bs,Zh Bl,Zh Bc] h R:=by
  refine .of_has H rfl ?_;have c1:(a:Int)<sp.n:=by omega
  have c2:(g:Int)<sl.n:=by omega
  have lu:=ru.len;have lc:=rc.len;simp [Y441,Xm.wp,Bs1.hc,Zm U,c1,Z,Bl1.hc,aa,Zm V,c2,X];refine Zt (NkI Y a Bs Bl Bc tv u costs f l t I h0) (fun e _=>l.length-Zy e 11) ⟨0,0,_,_,_,_,_,_,rfl,by omega,by omega,by simpa using hs,O,G⟩ ?_;clear hs G Bs1 Bl1 Bc1 X Z aa;rintro e h1 ⟨j,q,v6,v7,v8,ap,aq,ar,rfl,hj,hq,hd,I1,x1⟩;have r1:=ru.ext x1;have ab:=rc.ext x1;have Bc1:=Bc0.ext x1;by_cases c:j<l.length;rotate_left
  ·have c':¬ (j:Int)<u.n:=by omega
   have e1:l.drop j=[]:=Xgs (by omega);have e2:q=t.length:=by
    have:=congrArg List.length hd;rw [e1] at this;simp [stK] at this;omega
   subst e2;simp [c'];exact hR h1 I1
  have c':(j:Int)<u.n:=by omega
  have c2:j<u.n:=by omega
  have w1:=Zj (i:=j) (by omega);have hm:=Zeq c;obtain ⟨q0,q1⟩:=ff (fun e=>by rw [e] at c;simp at c);obtain ⟨au,av⟩:=x0c _ hm;obtain ⟨k0,k1⟩:=af (f.toNat+j) (by omega);obtain ⟨p,rfl⟩:∃ p:Nat,f=p:=⟨f.toNat,by omega⟩
  have w2:IntKind.i64.wrap ((p:Int)+(j:Int))=(((p+j):Nat):Int):=by rw [Zo (by omega)];omega
  have vc:=ab.val (p+j) (by omega);have cl:¬ sc.n<=p+j:=by omega
  have ag:p+j<sc.n:=by omega
  rw [Zxy c] at hd;simp only [Xf1] at hd k0 k1;simp [c',Zm ru.ok,r1.rd c];refine Zn ?_;intro D h2 gD D2 e2;simp;refine Zs (vs:=#[Zg (Zp l j).a,Zg (Zp l j).b,Zg (Zp l j).c]) D2 rfl rfl (by simp) ?_;intro h3 D3 m3;have e3:Ext h1 h3:=Mod.toExtF e2 m3 gD;have ah:=ab.ext e3;have vc:=ah.val (p+j) (by omega);simp [(Bc1.ext e3).hc,w2,cl,ag,Zm rc.ok,vc,-Int.natCast_add];by_cases d1:Zl costs (p+j)<1152921504606846976
  ·by_cases d2:(Zp l j).c<1152921504606846976
   ·have w3:IntKind.i64.wrap ((Zp l j).c+Zl costs (p+j))=(Zp l j).c+Zl costs (p+j):=Zo (by omega);have r:t.drop q=⟨(Zp l j).a,(Zp l j).b,(Zp l j).c+Zl costs (p+j)⟩::stK costs (p+j+1) (l.drop (j+1)):=by
     rw [hd];show (if _ then _ else _)=_;rw [if_pos ⟨by omega,by omega⟩]
    have lq:q<t.length:=by
     have:=congrArg List.length r;simp at this;omega
    have e4:Zp t q=⟨(Zp l j).a,(Zp l j).b,(Zp l j).c+Zl costs (p+j)⟩/\t.drop (q+1)=stK costs (p+j+1) (l.drop (j+1)):=by
     rw [Zxy lq] at r;injection r with a b
     exact ⟨a,b⟩
    simp [d1,d2,D3.hc,w3];refine stB D3 (by simp) ?_;intro h4 D4 m4;have ai:Ext h1 h4:=Mod.toExtF e3 m4 gD;simp at D4;simp [Yj D4];have:=ac q h4 lq (J _ _ _ I1 ai);rw [e4.1] at this;refine this _ ?_;intro h5 I5;simp [w1];exact ⟨⟨j+1,q+1,_,_,_,_,_,_,rfl,by omega,by omega,by rw [e4.2];simp [Xg1],I5,M _ _ I5⟩,by simp [Zy];omega⟩
   have r:t.drop q=stK costs (p+j+1) (l.drop (j+1)):=by
    rw [hd];show (if _ then _ else _)=_;rw [if_neg (fun h=>d2 (by have:=h.2;omega))]
   simp [d1,d2,D3.hc,w1];exact ⟨⟨j+1,q,_,_,_,_,_,_,rfl,by omega,hq,by rw [r];simp [Xg1],J _ _ _ I1 e3,x1.trans e3⟩,by simp [Zy];omega⟩
  have r:t.drop q=stK costs (p+j+1) (l.drop (j+1)):=by
   rw [hd];show (if _ then _ else _)=_;rw [if_neg (fun h=>d1 (by have:=h.1;omega))]
  simp [d1,w1];exact ⟨⟨j+1,q,_,_,_,_,_,_,rfl,by omega,hq,by rw [r];simp [Xg1],J _ _ _ I1 e3,x1.trans e3⟩,by simp [Zy];omega⟩
 exact this
end
def Zf3 (l:Zb):Prop:=∀ i j,i<l.length->j<l.length->Zl l i=Zl l j->i=j
theorem Zcb.once {l:Zb} (h:Zcb l):Zf3 l:=fun i j r D e=>by
 rcases Xh6 i j with q | q | q
 ·have:=h i j q D;omega
 ·exact q
 have:=h j i q r;omega
theorem Uj {l r:Zb} {i:Nat} (h:i<l.length):Zl (l++r) i=Zl l i:=by simp [Zl,Xgh h]
theorem Zdo {l:Zb} {x:Int}:Zl (l++[x]) l.length=x:=by simp [Zl]
theorem Zw {l:Zb} {a:Int}:a∈l↔∃ i,i<l.length/\Zl l i=a :=
 ⟨Zx6,fun ⟨i,h,e⟩=>by rw [<-e,show Zl l i=l[i] by simp [Zl,h]];exact Xgf h⟩
theorem Zf3.snoc {l:Zb} {x:Int} (h:Zf3 l) (hx:x ∉ l):Zf3 (l++[x]):=fun i j r D e=>by
 simp at r D;rcases Xf0 i l.length with q | q <;> rcases Xf0 j l.length with q' | q'
 ·rw [Uj q,Uj q'] at e;exact h i j q q' e
 ·have:j=l.length:=by omega
  subst this;rw [Uj q,Zdo] at e;exact absurd (Zw.2 ⟨i,q,e⟩) hx
 ·have:i=l.length:=by omega
  subst this;rw [Uj q',Zdo] at e;exact absurd (Zw.2 ⟨j,q',e.symm⟩) hx
 omega
theorem Xv {l:Zb} {i:Nat} (h:Zf3 l) (r:i<l.length):Yg 0 l (Zl l i)=(i:Int):=by
 have:=Zoe (k:=0) r rfl (fun j D e=>by have:=h j i (by omega) r e;omega);simpa using this
theorem Zd0 {l:Zb} {a:Int} (h:a ∉ l):Yg 0 l a = -1:=Zgn fun i r e=>h (Zw.2 ⟨i,r,e⟩)
section
variable {N:Zr} {outs As:Zb} {a:Nat} {l:Zb} {T:List Xe}
structure AOk (N:Zr) (outs As:Zb) (a:Nat) (l:Zb) (T:List Xe):Prop where
 s1:∀ x,x∈T->(∃ b o:Nat,(b:Int)∈l/\o<outs.length/\Zl outs o=b/\Yr N a b≠Xq/\x=⟨0,o,Yr N a b⟩) \/
  (∃ b k:Nat,(b:Int)∈l/\(b:Int) ∉ outs/\k<As.length/\Zl As k=b/\Yr N a b≠Xq/\Zu N b≠Xq/\x=⟨k,-1,Yr N a b+Zu N b⟩)
 s2:∀ b:Nat,(b:Int)∈l->Yr N a b≠Xq->(b:Int)∈outs->∃ o:Nat,o<outs.length/\Zl outs o=b/\(⟨0,o,Yr N a b⟩:Xe)∈T
 s3:∀ b:Nat,(b:Int)∈l->Yr N a b≠Xq->(b:Int) ∉ outs->Zu N b≠Xq->∃ k:Nat,k<As.length/\Zl As k=b/\(⟨k,-1,Yr N a b+Zu N b⟩:Xe)∈T
 len:T.length<=l.length
theorem AOk.nil:AOk N outs As a [] []:=⟨fun x h=>by simp at h,fun b h=>by simp at h,fun b h=>by simp at h,by simp⟩
theorem AOk.mono (h:AOk N outs As a l T) {x:Int}:AOk N outs (As++[x]) a l T :=
 ⟨fun y hy=>(h.s1 y hy).imp id fun ⟨b,k,h1,r,D,h4,G⟩=>⟨b,k,h1,r,by simp;omega,by rw [Uj D];exact h4,G⟩,h.s2,fun b h1 r D h4=>by
  obtain ⟨k,H,I,J⟩:=h.s3 b h1 r D h4;exact ⟨k,by simp;omega,by rw [Uj H];exact I,J⟩,h.len⟩
theorem AOk.skip (h:AOk N outs As a l T) {b:Nat} (hb:Yr N a b=Xq\/((b:Int) ∉ outs/\Zu N b=Xq)):AOk N outs As a (l++[(b:Int)]) T:=by
 refine ⟨fun y hy=>(h.s1 y hy).imp (fun ⟨b,k,h1,r⟩=>⟨b,k,by simp [h1],r⟩) (fun ⟨b,k,h1,r⟩=>⟨b,k,by simp [h1],r⟩),fun c h1 r D=>?_,fun c h1 r D h4=>?_,by have:=h.len;simp;omega⟩
 ·rcases List.mem_append.1 h1 with q | q
  ·exact h.s2 c q r D
  have:c=b:=by simp at q;omega
  subst this;rcases hb with q | q
  ·exact absurd q r
  exact absurd D q.1
 rcases List.mem_append.1 h1 with q | q
 ·exact h.s3 c q r D h4
 have:c=b:=by simp at q;omega
 subst this;rcases hb with q | q
 ·exact absurd q r
 exact absurd q.2 h4
theorem AOk.out (h:AOk N outs As a l T) {b o:Nat} (G:o<outs.length) (hb:Zl outs o=b) (ht:Yr N a b≠Xq):AOk N outs As a (l++[(b:Int)]) (T++[⟨0,o,Yr N a b⟩]):=by
 refine ⟨fun y hy=>?_,fun c h1 r D=>?_,fun c h1 r D h4=>?_,by have:=h.len;simp;omega⟩
 ·rcases List.mem_append.1 hy with q | q
  ·exact (h.s1 y q).imp (fun ⟨b,k,h1,r⟩=>⟨b,k,by simp [h1],r⟩) (fun ⟨b,k,h1,r⟩=>⟨b,k,by simp [h1],r⟩)
  exact .inl ⟨b,o,by simp,G,hb,ht,by simpa using q⟩
 ·rcases List.mem_append.1 h1 with q | q
  ·obtain ⟨H,I,J,M⟩:=h.s2 c q r D;exact ⟨H,I,J,by simp [M]⟩
  have:c=b:=by simp at q;omega
  subst this;exact ⟨o,G,hb,by simp⟩
 rcases List.mem_append.1 h1 with q | q
 ·obtain ⟨H,I,J,M⟩:=h.s3 c q r D h4;exact ⟨H,I,J,by simp [M]⟩
 have:c=b:=by simp at q;omega
 subst this;exact absurd (Zw.2 ⟨o,G,hb⟩) D
theorem AOk.go (h:AOk N outs As a l T) {b k:Nat} (M:k<As.length) (hb:Zl As k=b) (O:(b:Int) ∉ outs) (ht:Yr N a b≠Xq) (R:Zu N b≠Xq):AOk N outs As a (l++[(b:Int)]) (T++[⟨k,-1,Yr N a b+Zu N b⟩]):=by
 refine ⟨fun y hy=>?_,fun c h1 r D=>?_,fun c h1 r D h4=>?_,by have:=h.len;simp;omega⟩
 ·rcases List.mem_append.1 hy with q | q
  ·exact (h.s1 y q).imp (fun ⟨b,k,h1,r⟩=>⟨b,k,by simp [h1],r⟩) (fun ⟨b,k,h1,r⟩=>⟨b,k,by simp [h1],r⟩)
  exact .inr ⟨b,k,by simp,O,M,hb,ht,R,by simpa using q⟩
 ·rcases List.mem_append.1 h1 with q | q
  ·obtain ⟨G,H,I,J⟩:=h.s2 c q r D;exact ⟨G,H,I,by simp [J]⟩
  have:c=b:=by simp at q;omega
  subst this;exact absurd D O
 rcases List.mem_append.1 h1 with q | q
 ·obtain ⟨G,H,I,J⟩:=h.s3 c q r D h4;exact ⟨G,H,I,by simp [J]⟩
 have:c=b:=by simp at q;omega
 subst this;exact ⟨k,M,hb,by simp⟩
end
structure Z41 (N:Zr) (outs As:Zb) (st:Nat->List Xe):Prop where
 once:Zf3 As
 nat:∀ k,k<As.length->∃ a:Nat,Zl As k=a/\a<N.as.length
 row:∀ k,k<As.length->∃ l,(∀ b:Nat,Yr N (Zl As k).toNat b≠Xq->(b:Int)∈l)/\AOk N outs As (Zl As k).toNat l (st k)
 out:∀ k,As.length<=k->st k=[]
section
variable {N:Zr} {outs As:Zb} {st:Nat->List Xe}
theorem Z41.ok (B:Z41 N outs As st) (D:Yl N):Zq3 As.length outs.length st:=by
 have key:∀ a x,x∈st a->a<As.length:=fun a x h=>Xgq fun q=>by rw [B.out a (by omega)] at h;simp at h
 have row:∀ a x,x∈st a->(∃ b o:Nat,o<outs.length/\Yr N (Zl As a).toNat b≠Xq/\x=⟨0,o,Yr N (Zl As a).toNat b⟩)\/(∃ b k:Nat,k<As.length/\Yr N (Zl As a).toNat b≠Xq/\Zu N b≠Xq/\x=⟨k,-1,Yr N (Zl As a).toNat b+Zu N b⟩):=fun a x h=>by
  obtain ⟨l,_,r⟩:=B.row a (key a x h);exact (r.s1 x h).imp (fun ⟨b,o,_,H,_,h4,G⟩=>⟨b,o,H,h4,G⟩) (fun ⟨b,k,_,_,I,_,G,J,M⟩=>⟨b,k,I,G,J,M⟩)
 refine ⟨fun a x h O=>?_,fun a x h=>?_,fun a x h=>?_⟩
 ·rcases row a x h with ⟨b,o,_,_,rfl⟩ | ⟨b,k,q,_,_,rfl⟩
  ·simp at O;omega
  simp;omega
 ·rcases row a x h with ⟨b,o,q,_,rfl⟩ | ⟨b,k,q,_,_,rfl⟩
  ·simp;omega
  simp;omega
 rcases row a x h with ⟨b,o,q,ht,rfl⟩ | ⟨b,k,q,ht,R,rfl⟩
 ·have:=(Wq D (a:=((Zl As a).toNat:Int)) (b:=(b:Int))).resolve_left ht;dsimp only;omega
 have:=(Wq D (a:=((Zl As a).toNat:Int)) (b:=(b:Int))).resolve_left ht;have:=(Ve D (a:=(b:Int))).resolve_left R;dsimp only;omega
theorem Z41.thru (B:Z41 N outs As st) {ce:Nat->Int} {k:Int} (D:∀ b:Nat,(b:Int)∈outs↔b<N.as.length/\ce (Qe N b)=k/\ce (Xd N b)≠k) (H:Zf3 outs) {i o a b:Nat} (hi:i<As.length) (ha:Zl As i=a) (hc:ce (Xd N a)=k)
  (ho:o<outs.length) (hb:Zl outs o=b) {x:Int}:GoF st i o x↔Zmf N ce k a b x:=by
 have X:∀ j y,Xg (AtI i) (EdF st) j y->j<As.length/\Xg (AtI a) (EdC N ce k) (Zl As j).toNat y:=by
  intro j y w
  induction w with
  | init h=>obtain ⟨rfl,rfl⟩:=h;exact ⟨hi,by rw [ha];exact .init ⟨rfl,rfl⟩⟩
  | step w h ih =>
   rename_i u v c e;obtain ⟨lu,ih⟩:=ih;have O:=Zbo ih hc;obtain ⟨z,h1,G,Z,rfl⟩:=h;obtain ⟨l,_,r⟩:=B.row u lu;rcases r.s1 z h1 with ⟨b,o,_,_,_,_,rfl⟩ | ⟨b,k',_,M,q3,I,q5,q6,rfl⟩
   ·simp at G;omega
   have:k'=v:=by simp at Z;omega
   subst this;refine ⟨q3,.step ih ⟨⟨?_,?_,?_⟩,?_,?_⟩⟩
   ·rw [I];simpa using q5
   ·rw [I];simpa using q6
   ·rw [I];simp
   ·rw [I];simp only [Xf1];rw [<-Zb8 q5];exact O
   rw [I];simp only [Xf1];refine Xgq fun q=>M ((D b).2 ⟨?_,?_,q⟩)
   ·obtain ⟨k,e,lk⟩:=Uw q6;omega
   rw [<-Zb8 q5];exact O
 have R:∀ c y,Xg (AtI a) (EdC N ce k) c y->∃ j,j<As.length/\Zl As j=(c:Int)/\Xg (AtI i) (EdF st) j y:=by
  intro c y w
  induction w with
  | init h=>obtain ⟨rfl,rfl⟩:=h;exact ⟨i,hi,ha,.init ⟨rfl,rfl⟩⟩
  | step w h ih =>
   rename_i u v c e;obtain ⟨j,h1,G,Z⟩:=ih;obtain ⟨⟨U,M,rfl⟩,q3,I⟩:=h;obtain ⟨l,J,r⟩:=B.row j h1;rw [G] at J r;simp only [Xf1] at J r;obtain ⟨k',r1,r2,r3⟩:=r.s3 v (J v U) U (fun h=>((D v).1 h).2.2 I) M;exact ⟨k',r1,r2,.step Z ⟨_,r3,by simp,by simp,rfl⟩⟩
 constructor
 ·rintro ⟨j,y,w,h1,G,rfl⟩;obtain ⟨lj,wj⟩:=X j y h1;obtain ⟨z,U,M,rfl⟩:=G;obtain ⟨l,_,r⟩:=B.row j lj;rcases r.s1 z U with ⟨b',V,_,p2,p3,p4,rfl⟩ | ⟨b',k',_,_,_,_,_,_,rfl⟩
  ·have:V=o:=by simp at M;omega
   subst this;have:b'=b:=by omega
   subst this;exact ⟨_,y,wj,p4,rfl⟩
  simp at M
 rintro ⟨c,y,h1,G,rfl⟩;obtain ⟨j,lj,ej,wj⟩:=R c y h1;obtain ⟨l,J,r⟩:=B.row j lj;rw [ej] at J r;simp only [Xf1] at J r;obtain ⟨V,r1,r2,r3⟩:=r.s2 b (J b G) G (Zw.2 ⟨o,ho,hb⟩);have:V=o:=H V o r1 ho (by rw [r2,hb]);subst this;exact ⟨j,y,_,wj,⟨_,r3,rfl,rfl⟩,rfl⟩
end
end Go.Rm
