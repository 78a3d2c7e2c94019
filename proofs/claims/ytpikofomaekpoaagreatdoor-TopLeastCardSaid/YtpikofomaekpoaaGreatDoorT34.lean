import Derived.Sort.OwnSortedInts
import Derived.Test.YtpikofomaekpoaaGreatDoorT31
import Derived.Test.YtpikofomaekpoaaGreatDoorT32
/- Parts. -/
set_option linter.unusedSimpArgs false
set_option linter.unusedVariables false
namespace Go.Rm
def Uu (l:Zb):Zb:=l.mergeSort fun x y=>decide (x<=y)
theorem Xbk {P:Program} {f:FuncId} (hS:∀ (blk D cap:Nat) (O:Zb) (w:World),Sort.Holds (Value.int .i64) w blk D O.toArray->blk<w.heap.size->O.length<4611686018427387904 ->
   Calls P f #[.slice (some ⟨blk,D,none⟩) O.length cap] w fun e w'=>e = .returned (.tuple #[])/\∃ n os,w'=Sort.grow (Sort.putRow (Value.int .i64) (Sort.ahead w n) blk D (O.mergeSort fun x y=>decide (x<=y)).toArray) os)
  {h:Zk} {s:Sl} {l:Zb} (o:Ym h 1 s (Zq l)) (U:s.nl=false) (hl:l.length<=1000000) {R:Ze} (hr:∀ h',Ym h' 1 s (Zq (Uu l))->Mod (fun j=>j=s.b) h h'->R (.tuple #[]) h'):Zpe P f [s.v] h R:=by
 intro w hw;subst hw;obtain ⟨o1,o2⟩:=o;rcases o2 with ⟨rfl,_⟩ | ⟨_,ho,I,h1,V,J,hb,ha,ht⟩
 ·cases U
 have r:l.length=s.n:=by simpa using o1
 have hv:s.v = .slice (some ⟨s.b,0,none⟩) l.length s.c:=by
  unfold Sl.v;rw [U,ho,I,r]
  rfl
 rw [hv];have X:=hb.lt;obtain ⟨t,M⟩:=hb;have Z:J.toList.take l.length=l.map (Value.int .i64):=by
  rw [r,<-Xgd s.n,ht]
  rfl
 have H:=hS s.b 0 s.c l w (holds_of_blockI M Z) X (by omega);refine H.mono ?_;rintro e w' ⟨rfl,n,os,rfl⟩;have G:(Uu l).length=l.length:=by simp [Uu]
 have hg:=grownBy_sortedI (w:=w) (g:=s.b) (n:=n) (os:=os) (Uu l).toArray;have hc:=heap_sortedI (n:=n) (os:=os) (Uu l).toArray M;refine ⟨_,rfl,hr _ ⟨by simp [G,r],.inr ⟨U,ho,I,h1,V,_,⟨t,hc⟩,by simp [Sort.putCells,ha],?_⟩⟩ ⟨?_,fun b h1 V=>?_⟩,⟨rfl,rfl,rfl⟩⟩
 ·have:=take_putCellsI J (Uu l) (by rw [G,r];omega);rw [G,r] at this;rw [Xgd,this]
  rfl
 ·exact hg.size
 exact hg.block b h1 (fun e=>V (by cases e;rfl))
def UpL (l:Zb):Prop:=∀ i j,i<=j->j<l.length->Zl l i<=Zl l j
theorem Zv4 {l:Zb}:UpL (Uu l):=by
 have h:=List.pairwise_mergeSort (le:=fun (x y:Int)=>decide (x<=y)) (by intro a b c;simp;omega) (by intro a b;simp;omega) l;intro i j D r;rcases Xf0 i j with q | q
 ·rw [Xif] at h;have:=h i j (by simp [Uu] at r ⊢;omega) r q;simp at this;have G:Zl (Uu l) i=(Uu l)[i]'(by omega):=by simp [Zl,show i<(Uu l).length by omega]
  have e2:Zl (Uu l) j=(Uu l)[j]:=by simp [Zl,r]
  rw [G,e2];exact this
 have:i=j:=by omega
 subst this;exact Xht _
theorem Zsu {l:Zb} {x:Int}:x∈Uu l↔x∈l:=List.mem_mergeSort
structure CpK (l c:Zb) (k m:Nat):Prop where
 len:c.length=l.length
 km:k<=m
 k1:1<=k
 ml:m<=l.length
 ris:∀ i j,i<j->j<k->Zl c i<Zl c j
 mem:∀ x,(∃ i,i<k/\Zl c i=x)↔∃ i,i<m/\Zl l i=x
 last:Zl c (k-1)=Zl l (m-1)
 rest:∀ j,m-1<=j->j<l.length->k<=j->Zl c j=Zl l j
theorem CpK.same {l c:Zb} {k m:Nat} (h:CpK l c k m) (G:m<l.length) (D:Zl l m=Zl l (m-1)):CpK l c k (m+1):=by
 refine ⟨h.len,by have:=h.km;omega,h.k1,G,h.ris,fun x=>?_,by rw [h.last];simp [D],fun j h1 r H=>h.rest j (by omega) r H⟩;rw [h.mem];constructor
 ·rintro ⟨i,h1,r⟩;exact ⟨i,by omega,r⟩
 rintro ⟨i,h1,r⟩;by_cases q:i=m
 ·subst q;exact ⟨i-1,by have:=h.k1;have:=h.km;omega,by rw [<-D];exact r⟩
 exact ⟨i,by omega,r⟩
theorem CpK.new {l c:Zb} {k m:Nat} (h:CpK l c k m) (hu:UpL l) (H:m<l.length) (J:Zl l m≠Zl l (m-1)):CpK l (c.set k (Zl l m)) (k+1) (m+1):=by
 have M:=h.km;have k1:=h.k1;have len:=h.len;have hs:∀ j,Zl (c.set k (Zl l m)) j=if j=k then Zl l m else Zl c j:=fun j=>Va (by omega)
 have D:Zl l (m-1)<Zl l m:=by
  have:=hu (m-1) m (by omega) H;omega
 refine ⟨by simp [len],by omega,by omega,H,fun i j G O=>?_,fun x=>?_,?_,fun j h1 r I=>?_⟩
 ·rw [hs,hs,if_neg (by omega)];by_cases q:j=k
  ·rw [if_pos q];by_cases q':i=k-1
   ·rw [q',h.last];exact D
   have:=h.ris i (k-1) (by omega) (by omega);rw [h.last] at this;omega
  rw [if_neg q];exact h.ris i j G (by omega)
 ·constructor
  ·rintro ⟨i,h1,r⟩;rw [hs] at r;by_cases q:i=k
   ·rw [if_pos q] at r;exact ⟨m,by omega,r⟩
   rw [if_neg q] at r;obtain ⟨j,I,h4⟩:=(h.mem x).1 ⟨i,by omega,r⟩;exact ⟨j,by omega,h4⟩
  rintro ⟨i,h1,r⟩;by_cases q:i=m
  ·exact ⟨k,by omega,by rw [hs,if_pos rfl,<-q];exact r⟩
  obtain ⟨j,I,h4⟩:=(h.mem x).2 ⟨i,by omega,r⟩;exact ⟨j,by omega,by rw [hs,if_neg (by omega)];exact h4⟩
 ·rw [hs];simp
 rw [hs,if_neg (by omega)];exact h.rest j (by omega) r (by omega)
theorem CpK.fin {l c:Zb} {k:Nat} (h:CpK l c k l.length):Zcb (c.take k)/\∀ x,x∈c.take k↔x∈l:=by
 have H:=h.km;have len:=h.len;have ht:∀ i,i<k->Zl (c.take k) i=Zl c i:=fun i G=>by simp [Zl,G]
 have lt:(c.take k).length=k:=by simp;omega
 refine ⟨fun i j r I=>?_,fun x=>?_⟩
 ·rw [ht i (by omega),ht j (by omega)];exact h.ris i j r (by omega)
 rw [Zw,Zw,<-h.mem x];constructor
 ·rintro ⟨i,h1,D⟩;exact ⟨i,by omega,by rw [<-ht i (by omega)];exact D⟩
 rintro ⟨i,h1,D⟩;exact ⟨i,by omega,by rw [ht i h1];exact D⟩
section
variable {Y:Sys} {h h':Zk}
theorem Zu2 {K:Ze} {s s2:Sl} {c:Zb} {k:Nat} (o:Ym h 1 s (Zq c)) (D:s.nl=false) (G:k<=s.n) (O:s2 = { s with o:=if s.c=k then s.o else s.o+k * 1,n:=s.n-k,c:=s.c-k })
  (H:∀ h',Ym h' 1 { s with n:=k } (Zq (c.take k))->Mod (fun j=>j=s.b) h h'->K undef h'):Ef.wp h K (.clr 1 #[.int .i64 0]) [s2.v]:=by
 subst O;have I:=o.take G;have Z:=o.1;rcases o.2 with ⟨rfl,_⟩ | ⟨_,J,r,h1,R,U,hb,ha,ht⟩
 ·cases D
 have hv:(Sl.v { s with o:=if s.c=k then s.o else s.o+k * 1,n:=s.n-k,c:=s.c-k }) = .slice (some ⟨s.b,if s.c=k then s.o else s.o+k * 1,none⟩) (s.n-k) (s.c-k):=by
  simp [Sl.v,D,r]
 rw [hv];show (if s.n-k=0 then K undef h else _);have M:(Zq c).take (k * 1)=Zq (c.take k):=by simp [Zq,Xi6]
 rw [M] at I;by_cases q:s.n-k=0
 ·rw [if_pos q];exact H h I (Mod.refl _)
 rw [if_neg q,if_neg (by omega)];have z:(Builtin.zeroCells #[.int .i64 0] (s.n-k)).toList=List.replicate (s.n-k) (.int .i64 0):=by
  apply Xgb
  ·simp [Builtin.zeroCells]
  intro i a b;simp [Builtin.zeroCells,Nat.mod_one]
 rw [z];obtain ⟨h',V,g2,X,_⟩:=Zfm (vs:=List.replicate (s.n-k) (.int .i64 0)) (o:=s.o+k * 1) hb (by simp;omega) (fun v hv=>by rw [List.mem_replicate] at hv;rw [hv.2];rfl);rw [V];refine H h' ⟨by have:=o.1;simp at this ⊢;omega,.inr ⟨D,J,r,by simp only [];omega,R,_,g2,by simp;omega,?_⟩⟩ X;rw [J,<-M,<-ht];simp [Xiq,Xg8 G];rw [List.take_append_of_le_length (by simp;omega)];simp [Xiq]
def Xd2 (s:Sl) (v1:Value) (l:Zb) (h0:Zk) (e:Zc) (h':Zk):Prop :=
 ∃ (i:Nat) (v3 v4 v5 v6 v7 v8 v9:Value),e=[s.v,v1,.int .i64 i,v3,v4,v5,v6,v7,v8,v9]/\CpK l l i i/\h'=h0
def Xee (s s2:Sl) (v1:Value) (l:Zb) (i:Nat) (h0:Zk) (e:Zc) (h':Zk):Prop :=
 ∃ (q k:Nat) (c:Zb) (v5 v6 v7 v8 v9:Value),e=[s.v,v1,.int .i64 k,s2.v,.int .i64 q,v5,v6,v7,v8,v9]/\1<=q/\i<=k/\k<=i+q-1/\CpK l c k (i+q)/\Ym h' 1 s (Zq c)/\Mod (fun j=>j=s.b) h0 h'
theorem Zpp (H:Y.Has 498 Y498) {s:Sl} {l:Zb} (o:Ym h 1 s (Zq l)) (hn:s.nl=false) (hu:UpL l) (hl:l.length<=1000000) {R:Ze}
  (hr:∀ h' V c,Ym h' 1 V (Zq c)->V.b=s.b->V.nl=s.nl->Zcb c->(∀ x,x∈c↔x∈l)->Mod (fun j=>j=s.b) h h'->R V.v h'):Zv Y 498 [s.v] h R:=by
 refine .of_has H rfl ?_;have ls:=o.row64.len;simp [Y498,Xm.wp];by_cases c0:s.n<2
 ·have M:(s.n:Int)<2:=by omega
  simp [M];exact hr h s l o rfl rfl (fun i j aa hj=>by omega) (fun x=>Iff.rfl) (Mod.refl _)
 have k1:CpK l l 1 1:=⟨rfl,by omega,by omega,by omega,fun i j aa hj=>by omega,fun x=>Iff.rfl,rfl,fun j _ _ _=>rfl⟩
 have M:¬ (s.n:Int)<2:=by omega
 simp [M];refine Zt (Xd2 s (.slice none 0 0) l h) (fun e _=>l.length-Zy e 2) ⟨1,_,_,_,_,_,_,_,rfl,k1,rfl⟩ ?_;rintro e h1 ⟨i,v3,v4,v5,v6,v7,v8,v9,rfl,U,rfl⟩;have i1:=U.k1;by_cases c:i<l.length;rotate_left
 ·have c':¬ (i:Int)<s.n:=by omega
  have:i=l.length:=by have:=U.ml;omega
  subst this;simp [c'];obtain ⟨r1,r2⟩:=U.fin;rw [Xf7 (Xfy _)] at r1 r2;exact hr h1 s l o rfl rfl r1 r2 (Mod.refl _)
 have c':(i:Int)<s.n:=by omega
 have X:=Zj (i:=i) (by omega);have w2:IntKind.i64.wrap ((i:Int)-1)=((i-1:Nat):Int):=by rw [Zo (by omega)];omega
 have c3:i-1<s.n:=by omega
 have Z:=o.row64.val i c;have vb:=o.row64.val (i-1) (by omega);simp [c',Zm o.ok,Z,w2,c3,vb];by_cases d:Zl l i=Zl l (i-1);rotate_left
 ·have kn:=U.new hu c d;have Vd:l.set i (Zl l i)=l:=by
   apply Xgb (by simp);intro j a b;rw [Xg3]
   split
   ·rename_i e;subst e;simp [Zl,c]
   rfl
  rw [Vd] at kn;simp [d,X];exact ⟨⟨i+1,_,_,_,_,_,_,_,rfl,kn,rfl⟩,by simp [Zy];omega⟩
 have kd:=U.same c d;have af:s.n<=s.c:=o.ok.le;have r:=Zdw (Y:=Y) (h:=h1) (s:=s) (sz:=1) (k:=.i64) (j:=(i:Int)) o.ok (by omega) (by omega);rw [if_neg (by omega)] at r;simp only [Xf1,Xgd] at r;generalize I:({ s with o:=s.o+i,n:=s.n-i,c:=s.c-i }:Sl)=s2 at r;have ab:s2.ok:=by rw [<-I];exact ⟨fun h=>(by rw [show _=s.nl from rfl,hn] at h;cases h),by show s.n-i<=s.c-i;omega,.inl (by rcases o.ok.spot with q | q;exact q;omega)⟩
 have n2:s2.n=s.n-i:=by rw [<-I]
 have b2:s2.b=s.b:=by rw [<-I]
 have o2:s2.o=s.o+i:=by rw [<-I]
 simp [d,r];refine Zt (Xee s s2 (.slice none 0 0) l i h1) (fun e _=>l.length-Zy e 4) ⟨1,i,l,_,_,_,_,_,rfl,by omega,by omega,by omega,kd,o,Mod.refl _⟩ ?_;rintro e h2 ⟨q,k,cc,w5,w6,w7,w8,w9,rfl,hq,ac,ag,J,oo,m2⟩;have ah:=J.len;by_cases cq:i+q<l.length
 ·have O:(q:Int)<s2.n:=by omega
  have X:=Zj (i:=q) (by omega);have w2:IntKind.i64.wrap ((q:Int)-1)=((q-1:Nat):Int):=by rw [Zo (by omega)];omega
  have w3:=Zj (i:=k) (by omega);have c4:q-1<s2.n:=by omega
  have Z:=oo.row64.val (i+q) (by omega);have vb:=oo.row64.val (i+(q-1)) (by omega);rw [J.rest (i+q) (by omega) (by omega) (by omega)] at Z;rw [J.rest (i+(q-1)) (by omega) (by omega) (by omega)] at vb;have ad:hc h2 s2.b (s2.o+q)=some (.int .i64 (Zl l (i+q))):=by rw [b2,o2,Xg1];exact Z
  have ae:hc h2 s2.b (s2.o+(q-1))=some (.int .i64 (Zl l (i+(q-1)))):=by rw [b2,o2,Xg1];exact vb
  have ei:i+q-1=i+(q-1):=by omega
  simp [O,Zm ab,ad,w2,c4,ae];by_cases dq:Zl l (i+q)=Zl l (i+(q-1))
  ·simp [dq,X];exact ⟨⟨q+1,k,cc,_,_,_,_,_,rfl,by omega,ac,by omega,J.same cq (by rw [ei];exact dq),oo,m2⟩,by simp [Zy];omega⟩
  have ck:(k:Int)<s.n:=by omega
  simp [dq,Zm oo.ok,ck];refine Xcb oo (k:=k) (by omega) ?_;intro h3 o3 m3;simp [X,w3];exact ⟨⟨q+1,k+1,_,_,_,_,_,_,rfl,by omega,by omega,by omega,J.new hu cq (by rw [ei];exact dq),o3,m2.trans m3⟩,by simp [Zy];omega⟩
 have O:¬ (q:Int)<s2.n:=by omega
 have ai:¬ q<s2.n:=by omega
 have hm:i+q=l.length:=by have:=J.ml;omega
 rw [hm] at J;obtain ⟨f1,f2⟩:=J.fin;have D:=Zdw (Y:=Y) (h:=h2) (s:=s) (sz:=1) (k:=.i64) (j:=(k:Int)) oo.ok (by omega) (by omega);simp only [Xf1] at D;simp [O,D];refine Zu2 oo hn (k:=k) (by omega) (by simp) ?_;intro h3 o3 m3;have G:=Zch (Y:=Y) (h:=h3) (s:=s) (sz:=1) (k:=.i64) (j:=(k:Int)) oo.ok (by omega) (by omega);simp only [Xf1] at G;simp [G];exact hr h3 _ _ o3 rfl rfl f1 f2 (m2.trans m3)
def Z9y (Y:Sys):Prop:=∀ {h:Zk} {s:Sl} {l:Zb} {R:Ze},Ym h 1 s (Zq l)->s.nl=false->l.length<=1000000->(∀ h',Ym h' 1 s (Zq (Uu l))->Mod (fun j=>j=s.b) h h'->R (.tuple #[]) h')->Zv Y 497 [s.v] h R
structure Zu9 (Y:Sys):Prop where
 P:Zhh Y
 Kids:Y.Has 470 Y470
 OKids:Y.Has 440 Y440
 Compact:Y.Has 498 Y498
 sort:Z9y Y
def Zht (row below:Zb) (c:Int) (i:Nat):Zb:=((List.range i).filter fun v=>decide (Zl row v=c)).map fun v=>Zl below v
theorem Zvr {row below:Zb} {c:Int} {i:Nat}:Zht row below c (i+1)=Zht row below c i++if Zl row i=c then [Zl below i] else []:=by
 unfold Zht;rw [Xh4,Xh3];by_cases q:Zl row i=c
 ·simp [q]
 simp [q]
theorem Znt {row below:Zb} {c x:Int} {i:Nat}:x∈Zht row below c i↔∃ v,v<i/\Zl row v=c/\Zl below v=x:=by
 simp only [Zht,Xis,Xhi,Xix,decide_eq_true_eq];exact ⟨fun ⟨v,⟨a,b⟩,c⟩=>⟨v,a,b,c⟩,fun ⟨v,a,b,c⟩=>⟨v,⟨a,b⟩,c⟩⟩
theorem Z0m {row below:Zb} {c:Int} {i:Nat}:(Zht row below c i).length<=i:=by
 simp only [Zht,Xf2];exact Xgk (Xgz ..) (by simp)
def KdI (B:Nat) (v0 v1:Value) (u1 u2:Sl) (row below:Zb) (c:Int) (h0:Zk) (e:Zc) (h':Zk):Prop :=
 ∃ (i:Nat) (t:Sl) (v4 v7 v8 v13 v14:Value),e=[v0,v1,Zg c,Zh B,v4,u1.v,t.v,v7,v8,.bool false,u2.v,Zg u2.n,Zg i,v13,v14]/\i<=row.length/\Ym h' 1 t (Zq (Zht row below c i))/\(t.nl=false->h0.size<=t.b)/\Ext h0 h'
theorem Zzp (K:Zu9 Y) {s:Sl} {L:Za} {n:Nat} (r:Qn h s L) (U:Yv n L) {k c:Nat} (hk:k<L.length) (k1:1<=k) (hc:c<Yi L k) {R:Ze}
  (hr:∀ h' t ks,Ext h h'->Ym h' 1 t (Zq ks)->t.nl=false->h.size<=t.b->Zcb ks->(∀ x,x∈ks↔∃ v,v<n/\Zl (Ya L k) v=c/\Zl (Ya L (k-1)) v=x)->R t.v h'):Zv Y 470 [Q1 s,Zg ((k:Int)+1),Zg c] h R:=by
 have bL:=U.bL;have bn:=U.bn;have lL:=r.len;obtain ⟨z1,z2,z3,_⟩:=Uy (U.lv k hk);obtain ⟨y1,_,_,_⟩:=Uy (U.lv (k-1) (by omega));have lk:lvl L ((k:Int)+1)=Ya L k:=by
  unfold lvl Zg1;rw [if_pos (by simp;omega)]
  congr 1
  omega
 have V:lvl L (k:Int)=Ya L (k-1):=by
  unfold lvl Zg1;rw [if_pos (by simp;omega)]
  congr 1
  omega
 refine .of_has K.Kids rfl ?_;have w1:IntKind.i64.wrap ((k:Int)+1-1)=(k:Int):=by rw [Zo (by omega)];omega
 have w0:IntKind.i64.wrap (k:Int)=(k:Int):=Zo (by omega);have c1:¬ (k:Int)+1<2:=by omega
 simp [Y470,Xm.wp];refine Zn ?_;intro B h1 g1 B1 e1;replace B1:Xb h1 B #[s.v]:=by simpa [Q1] using B1
 simp [c1,Yj B1,w0];rw [show (Value.agg #[s.v])=Q1 s from rfl];refine Zdz K.P (r.ext e1) (by omega) (by omega) ?_;intro h2 X e2 r2;rw [V] at r2;have B2:=B1.ext e2;have x2:=e1.trans e2;simp [Yj B2];rw [show (Value.agg #[s.v])=Q1 s from rfl];refine Zdz K.P (r.ext x2) (by omega) (by omega) ?_;intro h3 u2 e3 I;rw [lk] at I;have x3:=x2.trans e3;have G:=r2.ext (e2.trans e3);replace I:=I.ext e3;have l2:=G.len;have l3:=I.len;generalize M:Ya L k=row at *
 generalize af:Ya L (k-1)=below at *
 simp;refine Zt (KdI B (Q1 s) (Zg ((k:Int)+1)) X u2 row below c h3) (fun e _=>row.length-Zy e 12) ⟨0,Sl.nil,_,_,_,_,_,rfl,by omega,Ym.nil,fun h=>(by cases h),Mod.refl _⟩ ?_;rintro e h4 ⟨i,t,v4,v7,v8,ag,ah,rfl,hi,O,nt,J⟩;have lt:=O.1;have ai:=Z0m (row:=row) (below:=below) (c:=(c:Int)) (i:=i);simp at lt;by_cases ci:i<row.length;rotate_left
 ·have H:¬ (i:Int)<u2.n:=by omega
  have aj:¬ i<u2.n:=by omega
  have:i=n:=by omega
  subst this;have Z:Zht row below (c:Int) i≠[]:=by
   have h0:=z3 c (by unfold Yi at hc;rw [M] at hc;exact hc);have:∃ v,v<i/\Zl row v=(c:Int):=by
    refine Xgq fun q=>h0 ?_;unfold Zbt;rw [Xi9,Xja];intro x hx;obtain ⟨v,a,b⟩:=Zw.1 hx;simp;intro e;exact q ⟨v,by omega,by rw [b];exact e⟩
   obtain ⟨v,h1,h2⟩:=this;exact List.ne_nil_of_mem (Znt.2 ⟨v,h1,h2,rfl⟩)
  have D:t.nl=false:=by
   cases D:t.nl with
   | false=>rfl
   | true=>have:=(O.ok.nil D).1;exact absurd (List.length_eq_zero_iff.1 (by omega)) Z
  have ak:=nt D;simp [H];refine K.sort O D (by omega) ?_;intro h5 o5 m5;simp;refine Zpp K.Compact o5 D Zv4 (by simp [Uu];omega) ?_;intro h6 t' ks o6 b6 n6 aa ab m6;simp;have al:=x3.size;refine hr h6 t' ks (Mod.ext (x3.trans J) (m5.trans m6) (fun j hj=>by omega)) o6 (by rw [n6];exact D) (by omega) aa (fun x=>?_);rw [ab,Zsu,Znt]
 have H:(i:Int)<u2.n:=by omega
 have ac:i<X.n:=by omega
 have ad:(i:Int)<X.n:=by omega
 have w2:=Zj (i:=i) (by omega);have v2:=(I.ext J).val i ci;have v1:=(G.ext J).val i (by omega);have hs:=Zvr (row:=row) (below:=below) (c:=(c:Int)) (i:=i);simp [H,Zm I.ok,v2];by_cases d:Zl row i=(c:Int)
 ·rw [if_pos d] at hs;simp [d,ad,ac,Zm G.ok,v1];refine Xp rfl ?_;intro b h5 g5 B5 e5;simp;refine Wg rfl (O.ext' e5) B5 (by omega) (by omega) ?_;intro t' h6 o6 n6 m6 ae;simp [w2];refine ⟨⟨i+1,t',_,_,_,_,_,rfl,by omega,by rw [hs];simpa [Zq] using o6,fun hn=>?_,Mod.ext (J.trans e5) m6 (fun j hj=>by have:=nt hj.1;omega)⟩,by simp [Zy];omega⟩;rcases ae with ⟨a,b⟩ | ⟨a,b⟩
  ·rw [a];exact nt (by rw [<-b];exact hn)
  have:=J.size;have:=e5.size;omega
 rw [if_neg d] at hs;simp [d,w2];exact ⟨⟨i+1,t,_,_,_,_,_,rfl,by omega,by rw [hs];simpa using O,nt,J⟩,by simp [Zy];omega⟩
theorem Zm1 (K:Zu9 Y) {op:Nat} {N:Zr} {L:Za} (v:Vw h op N L) (G:Yv N.vs.length L) {k c:Nat} (H:k<L.length) (k1:1<=k) (hc:c<Yi L k) {R:Ze}
  (I:∀ h' t ks,Ext h h'->Ym h' 1 t (Zq ks)->t.nl=false->h.size<=t.b->Zcb ks->(∀ x,x∈ks↔∃ v,v<N.vs.length/\Zl (Ya L k) v=c/\Zl (Ya L (k-1)) v=x)->R t.v h'):Zv Y 440 [Zh op,Zg ((k:Int)+1),Zg c] h R:=by
 obtain ⟨q,f,t,g,M,z,B,J,O,_,_,_,hz⟩:=v;refine .of_has K.OKids rfl ?_;have D:rd h op 0 1=some [q.v]:=by
  have:=Zba (h:=h) (b:=op) (l:=[q.v]) (o:=0) (fun i v hv=>by
   cases i with
   | zero=>simp at hv;subst hv;rw [B.hc];rfl
   | succ i=>simp at hv)
  simpa using this
 simp [Y440,Xm.wp,D];rw [show (Value.agg #[q.v])=Q1 q from rfl];refine Zzp K J G H k1 hc ?_;intro h' t ks e o n1 n2 r m;simp;exact I h' t ks e o n1 n2 r m
end
end Go.Rm
