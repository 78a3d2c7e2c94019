import Derived.Test.YtnmnlnpbekafmaaGreatDoorT32
import Derived.Test.YtnmnlnpbekafmaaGreatDoorT29
/- Parts. -/
set_option linter.unusedSimpArgs false
set_option linter.unusedVariables false
namespace Go.Rm
def Vc (L:Za) (k v:Nat):Int:=Zl (Zz L (k-1)) v
section
variable {Y:Sys} {h h':Zk}
def LvI (s:Sl) (L:Za) (v a b:Nat) (h0:Zk) (e:Zc) (h':Zk):Prop :=
 ∃ (k:Nat) (v6 v7 v8 v9 v10 v11 v12 v13:Value),e=[s.v,Zg v,Zg a,Zg b,Zg 0,Zg k,v6,v7,v8,v9,v10,v11,v12,v13]/\k<=L.length/\Ub (Vc L) v a b L.length=Ub (Vc L) v a b k/\h'=h0
def LvJ (s u:Sl) (v a b k:Nat) (h0:Zk) (e:Zc) (h':Zk):Prop :=
 ∃ (j:Nat) (v7 v8 v11 v12 v13:Value),e=[s.v,Zg v,Zg a,Zg b,Zg 0,Zg ((k:Int)+1),u.v,v7,v8,.agg #[Zg v,Zg a,Zg b],Zg j,v11,v12,v13]/\j<=3/\h'=h0
theorem Zpj (H:Y.Has 401 Y401) {s:Sl} {L:Za} (r:Qw h s L) (aa:L.length<=1000) {v a b n:Nat} (J:∀ i,i<L.length->(Zz L i).length=n) (hv:v<n) (ha:a<n) (hb:b<n) (hn:n<=1000000)
  {R:Ze} (O:R (Zg (Ub (Vc L) v a b L.length:Nat)) h):Zv Y 401 [s.v,Zg v,Zg a,Zg b] h R:=by
 refine .of_has H rfl ?_;have ls:=r.len;simp [Y401,Xn.wp];rw [<-ls];refine Zs (LvI s L v a b h) (fun e _=>Zy e 5) ⟨L.length,_,_,_,_,_,_,_,_,rfl,Xel _,rfl,rfl⟩ ?_;rintro e h1 ⟨k,v6,v7,v8,v9,ab,ac,ad,ae,rfl,hk,U,rfl⟩
 cases k with
 | zero =>
  simp;rw [U] at O;exact O
 | succ k =>
  obtain ⟨u,hu,G⟩:=r.at (i:=k) (by omega)
  have V:k<s.n:=by omega
  have c1:(1:Int)<=(k:Int)+1:=by omega
  have w1:IntKind.i64.wrap ((k:Int)+1-1)=(k:Int):=by rw [Zo (by omega)];omega
  have w0:IntKind.i64.wrap (k:Int)=(k:Int):=Zo (by omega);have X:Ys.sem Y h1 (.buildA 1 #[Zg 0,Zg 0,Zg 0] [0,1,2]) [Zg (v:Int),Zg (a:Int),Zg (b:Int)]=some (.agg #[Zg v,Zg a,Zg b]):=by
   simp [Ys.sem,Instr.fill,Value.cells]
  simp [c1,w0,Zm r.ok,V,hu,X];have lu:=G.len;rw [J k (by omega)] at lu;refine Zs (LvJ s u v a b k h1) (fun e _=>3-Zy e 10) ⟨0,_,_,_,_,_,rfl,by omega,rfl⟩ ?_;rintro e h2 ⟨j,y7,y8,af,ag,ah,rfl,hj,rfl⟩;by_cases c:j<3
  ·have c':(j:Int)<3:=by omega
   have w2:=Zj (i:=j) (by omega);obtain ⟨x,hx,ai⟩:∃ x:Nat,(#[Value.int .i64 v,Zg a,Zg b])[j]? = some (Zg x)/\x<n:=by
    match j,c with
    | 0,_=>exact ⟨v,rfl,hv⟩
    | 1,_=>exact ⟨a,rfl,ha⟩
    | 2,_=>exact ⟨b,rfl,hb⟩
   have hp:Ys.sem Y h2 (.idxV 3 1 false) [.agg #[Zg v,Zg a,Zg b],Zg (j:Int)]=some (Zg x):=by
    simp only [Ys.sem];rw [if_pos ⟨by omega,by omega⟩];simp only [Zae,Xez,if_false];rw [show (j:Int).toNat * 1=j by omega];exact hx
   have d1:¬ (x:Int)<0:=by omega
   have d2:¬ (u.n:Int)<=(x:Int):=by omega
   simp [c',hp,d1,d2,w2];exact ⟨⟨j+1,_,_,_,_,_,rfl,by omega,rfl⟩,by simp [Zy];omega⟩
  have c':¬ (j:Int)<3:=by omega
  have Z:=G.at (i:=v) (by omega)
  have va:=G.at (i:=a) (by omega)
  have vb:=G.at (i:=b) (by omega)
  have lv:v<u.n:=by omega
  have la:a<u.n:=by omega
  have lb:b<u.n:=by omega
  have cv:∀ x,Vc L (k+1) x=Zl (Zz L k) x:=fun x=>rfl;have D:Ub (Vc L) v a b (k+1)=if Vc L (k+1) v≠Vc L (k+1) a/\Vc L (k+1) v≠Vc L (k+1) b then k+1 else Ub (Vc L) v a b k:=rfl
  by_cases I:Zl (Zz L k) v=Zl (Zz L k) a
  ·rw [if_neg (by simp [cv,I])] at D;simp [c',Zm G.ok,lv,la,Z,va,I,w0];exact ⟨⟨k,_,_,_,_,_,_,_,_,rfl,by omega,by rw [U,D],rfl⟩,by simp [Zy]⟩
  by_cases M:Zl (Zz L k) v=Zl (Zz L k) b
  ·rw [if_neg (by simp [cv,M])] at D;rw [M] at I;simp [c',Zm G.ok,lv,la,lb,Z,va,vb,I,M,w0];exact ⟨⟨k,_,_,_,_,_,_,_,_,rfl,by omega,by rw [U,D],rfl⟩,by simp [Zy]⟩
  rw [if_pos (by simp [cv,I,M])] at D;rw [U,D] at O;simp [c',Zm G.ok,lv,la,lb,Z,va,vb,I,M];simpa using O
structure Z7q (Y:Sys):Prop where
 X:Zfv Y
 Arcs:Y.Has 209 Y209
 check:Y.Has 342 Y342
theorem Zl2 (C:Z7q Y) {p op:Nat} {N:Zq} {S:Zf} {L:Za} {c:Sl} (g:Xg h p N S) (v:Uz h op N L) (hc:(c.n:Int)=(levelS N L L.length:Nat)) {s t:Nat} (hs:s<N.as.length) (ht:t<N.as.length)
  {R:Ze} (r:R .nilIface h):Zv Y 342 [Zh p,Zh op,c.v,Zg (s:Int),Zg (t:Int)] h R:=by
 refine .of_has C.check rfl ?_;simp [Y342,Xn.wp];refine Zb6 C.Arcs g ?_;have D:¬ (s:Int)<0:=by omega
 have G:¬ (N.as.length:Int)<=(s:Int):=by omega
 have H:¬ (t:Int)<0:=by omega
 have I:¬ (N.as.length:Int)<=(t:Int):=by omega
 simp [D,G,H,I];refine Zcn C.X v ?_;simp [hc];exact r
end
def EdF (st:Nat->List Xe) (a b:Nat) (w:Int):Prop:=∃ x,x∈st a/\x.b<0/\x.a=(b:Int)/\w=x.c
def OuF (st:Nat->List Xe) (a o:Nat) (w:Int):Prop:=∃ x,x∈st a/\x.b=(o:Int)/\w=x.c
def GoF (st:Nat->List Xe) (s o:Nat) (x:Int):Prop:=∃ a y w,Xy (AtI s) (EdF st) a y/\OuF st a o w/\x=y+w
structure Zpv (P outs:Nat) (st:Nat->List Xe):Prop where
 to:∀ a x,x∈st a->x.b<0->0<=x.a/\x.a<P
 out:∀ a x,x∈st a->x.b<outs
 c0:∀ a x,x∈st a->0<=x.c/\x.c<=2305843009213693952
section
variable {P outs s:Nat} {st:Nat->List Xe}
theorem Z5v (r:Zpv P outs st) (hs:s<P):Zjx P (AtI s) (EdF st) :=
 ⟨fun b c h=>by obtain ⟨rfl,rfl⟩:=h;exact ⟨hs,by omega⟩,fun a b w h=>by
  obtain ⟨x,h1,D,G,h4⟩:=h;have:=r.to a x h1 D;have:=r.c0 a x h1;exact ⟨by omega,by omega⟩⟩
def Xdl (st:Nat->List Xe) (k j a b:Nat) (w:Int):Prop:=a=k/\∃ i,j<=i/\i<(st k).length/\(Zp (st k) i).b<0/\(Zp (st k) i).a=(b:Int)/\w=(Zp (st k) i).c
structure LeI (P:Nat) (st:Nat->List Xe) (s:Nat) (ord:Zd) (cost:Nat->Int) (A:Uw) (R:Nat->Int) (k j:Nat):Prop where
 d:Zbg P (AtI s) (EdF st) ord cost A (fun _=>False) (Xdl st k j)
 r1:∀ o,R o<=Wm/\(R o=Wm\/GoF st s o (R o))
 r2:∀ a,a∈ord->∀ o w,OuF st a o w->(a=k/\∃ i,j<=i/\i<(st k).length/\(Zp (st k) i).b=(o:Int)/\w=(Zp (st k) i).c)\/R o<=cost a+w
theorem Zeh {l:List Xe} {i:Nat} (h:i<l.length):Zp l i∈l:=by rw [Wn h];exact Xe4 h
theorem Zqh {l:List Xe} {x:Xe} (h:x∈l):∃ i,i<l.length/\Zp l i=x:=by
 obtain ⟨i,h1,r⟩:=Xfs h;exact ⟨i,h1,by rw [Wn h1];exact r⟩
theorem Zw4 {x:Int} (h:0<=x):Qi x<=x/\0<=Qi x/\Qi x<=Wm/\(Qi x=Wm\/Qi x=x):=by
 unfold Qi Wm
 split
 ·omega
 split <;> omega
theorem Z5q {x y:Int} (h:y<=x) (hy:y<=Wm) (h0:0<=x):y<=Qi x:=by
 unfold Qi Wm at *
 split
 ·omega
 split <;> omega
theorem LeI.out {G:Zd} {r:Nat->Int} {A:Uw} {R:Nat->Int} {k j o:Nat} (U:Zpv P outs st) (d:LeI P st s G r A R k j) (V:j<(st k).length) (X:k∈G) (Z:(Zp (st k) j).b=(o:Int)) :
  LeI P st s G r A (W9 R o (if r k+(Zp (st k) j).c<R o then r k+(Zp (st k) j).c else R o)) k (j+1):=by
 have M:=Zeh V;have hc:=U.c0 k _ M;refine ⟨d.d.less (fun _ _ _ h=>h.elim) (fun a O b w he hp=>?_),fun D=>?_,fun a O D w hw=>?_⟩
 ·obtain ⟨rfl,i,q1,I,J,H,q5⟩:=hp;by_cases e:i=j
  ·subst e;omega
  exact .inl ⟨rfl,i,by omega,I,J,H,q5⟩
 ·unfold W9;by_cases e:D=o
  ·subst e;rw [if_pos rfl];have:=d.r1 D
   split
   ·rename_i h;refine ⟨by omega,.inr ?_⟩;rcases d.d.wS k X with q | q
    ·exfalso;unfold Wm at this;omega
    exact ⟨k,r k,_,q,⟨_,M,Z,rfl⟩,rfl⟩
   exact this
  rw [if_neg e];exact d.r1 D
 have mono:∀ z,R D<=z->W9 R o (if r k+(Zp (st k) j).c<R o then r k+(Zp (st k) j).c else R o) D<=z:=fun z hz=>by
  unfold W9
  split
  ·rename_i e;subst e;split <;> omega
  exact hz
 rcases d.r2 a O D w hw with ⟨rfl,i,q1,I,J,H⟩ | q
 ·by_cases e:i=j
  ·subst e;right;have:D=o:=by omega
   subst this;subst H;unfold W9;rw [if_pos rfl]
   split <;> omega
  exact .inl ⟨rfl,i,by omega,I,J,H⟩
 exact .inr (mono _ q)
theorem LeI.old {D:Zd} {r:Nat->Int} {A:Uw} {R:Nat->Int} {k j b:Nat} (O:Zpv P outs st) (d:LeI P st s D r A R k j) (U:j<(st k).length) (hk:k∈D) (G:∀ a,a∈D->r a<=r k)
  (ho:(Zp (st k) j).b<0) (hb:(Zp (st k) j).a=(b:Int)) (hd:b∈D):LeI P st s D r A R k (j+1):=by
 have V:=Zeh U;have hc:=O.c0 k _ V;refine ⟨d.d.less (fun _ _ _ h=>h.elim) (fun a M y w he hp=>?_),d.r1,fun a M X w Z=>?_⟩
 ·obtain ⟨rfl,i,q1,H,I,J,q5⟩:=hp;by_cases e:i=j
  ·subst e;have:y=b:=by omega
   subst this;have:=G y hd;exact .inr (.inr (.inl ⟨hd,by omega⟩))
  exact .inl ⟨rfl,i,by omega,H,I,J,q5⟩
 rcases d.r2 a M X w Z with ⟨rfl,i,q1,H,I,J⟩ | q
 ·by_cases e:i=j
  ·subst e;omega
  exact .inl ⟨rfl,i,by omega,H,I,J⟩
 exact .inr q
theorem LeI.put {D:Zd} {r:Nat->Int} {A:Uw} {R:Nat->Int} {k j b:Nat} (U:Zpv P outs st) (d:LeI P st s D r A R k j) (hj:j<(st k).length) (V:k∈D) (H:∀ a,a∈D->r a<=r k)
  (X:(Zp (st k) j).b<0) (hb:(Zp (st k) j).a=(b:Int)) (hd:b ∉ D):LeI P st s D r (Zb1 P A b (Qi (r k+(Zp (st k) j).c))) R k (j+1):=by
 have I:=Zeh hj;have hc:=U.c0 k _ I;have bk:=d.d.bS k V;have lb:=U.to k _ I X;obtain ⟨h1,h2,h3,h4⟩:=Zw4 (x:=r k+(Zp (st k) j).c) (by omega);have hI:Wm=1152921504606846976:=rfl;obtain ⟨p1,Z⟩:=d.d.put (b:=b) (x:=Qi (r k+(Zp (st k) j).c)) (by omega) hd (by
  rcases h4 with q | q
  ·exact .inl q
  rcases d.d.wS k V with w | w
  ·left;omega
  right;rw [q];exact .step w ⟨_,I,X,hb,rfl⟩) ⟨h2,h3⟩ (fun a G=>Z5q (by have:=H a G;omega) (by have:=d.d.bS a G;omega) (by omega))
 refine ⟨p1.less (fun _ _ _ h=>h.elim) (fun a G y w he hp=>?_),d.r1,fun a G o' w hw=>?_⟩
 ·obtain ⟨rfl,i,q1,J,M,O,q5⟩:=hp;by_cases e:i=j
  ·subst e;have:y=b:=by omega
   subst this;subst q5;right;rcases h4 with q | q
   ·left;omega
   rw [q] at Z ⊢;exact .inr Z
  exact .inl ⟨rfl,i,by omega,J,M,O,q5⟩
 rcases d.r2 a G o' w hw with ⟨rfl,i,q1,J,M,O⟩ | q
 ·by_cases e:i=j
  ·subst e;omega
  exact .inl ⟨rfl,i,by omega,J,M,O⟩
 exact .inr q
structure LeO (P:Nat) (st:Nat->List Xe) (s:Nat) (ord:Zd) (cost:Nat->Int) (A:Uw) (R:Nat->Int):Prop where
 d:Zbg P (AtI s) (EdF st) ord cost A (fun _=>False) (fun _ _ _=>False)
 r1:∀ o,R o<=Wm/\(R o=Wm\/GoF st s o (R o))
 r2:∀ a,a∈ord->∀ o w,OuF st a o w->R o<=cost a+w
theorem LeI.fin {D:Zd} {r:Nat->Int} {A:Uw} {R:Nat->Int} {k:Nat} (d:LeI P st s D r A R k (st k).length):LeO P st s D r A R :=
 ⟨d.d.less (fun _ _ _ h=>h.elim) (fun a G b w M hp=>by obtain ⟨_,i,H,I,_⟩:=hp;omega),d.r1,fun a G o w J=>by
  rcases d.r2 a G o w J with ⟨_,i,H,I,_⟩ | q
  ·omega
  exact q⟩
theorem LeO.pop {D:Zd} {r:Nat->Int} {A:Uw} {R:Nat->Int} (d:LeO P st s D r A R) {k:Nat} {c:Int} (m:Zr3 P A k c) :
  k ∉ D/\LeI P st s (D++[k]) (W9 r k c) (Ze0 A k) R k 0/\(∀ a,a∈D++[k]->W9 r k c a<=W9 r k c k)/\W9 r k c k=c/\(0<=c/\c<=Wm):=by
 obtain ⟨h1,X,Z,h4,_⟩:=d.d.pop m;have O:W9 r k c k=c:=by simp [W9]
 refine ⟨h1,⟨X.less (fun _ _ _ h=>h.elim) (fun a U b w he hp=>?_),d.r1,fun a U o w V=>?_⟩,by rw [O];exact Z,O,h4⟩
 ·subst hp;obtain ⟨x,H,I,J,q4⟩:=he;obtain ⟨i,M,G⟩:=Zqh H;exact .inl ⟨rfl,i,by omega,M,by rw [G];exact I,by rw [G];exact J,by rw [G];exact q4⟩
 rcases List.mem_append.1 U with q | q
 ·right;have:a≠k:=fun e=>h1 (e ▸ q);unfold W9;rw [if_neg this];exact d.r2 a q o w V
 simp at q;subst q;obtain ⟨x,H,I,J⟩:=V;obtain ⟨i,M,G⟩:=Zqh H;exact .inl ⟨rfl,i,by omega,M,by rw [G];exact I,by rw [G];exact J⟩
theorem LeO.start (hs:s<P) {r:Nat->Int} {R:Nat->Int} (D:∀ o,R o=Wm):LeO P st s [] r (Zb1 P (fun _=>none) s 0) R:=by
 have G:Zbg P (AtI s) (EdF st) [] r (fun _=>none) (fun _=>True) (fun _ _ _=>False):=Zbg.start (fun _ _ _=>trivial);obtain ⟨H,I⟩:=G.put (b:=s) (x:=0) hs (by simp) (.inr (.init ⟨rfl,rfl⟩)) (by omega) (fun a h=>by simp at h);exact ⟨H.less (fun b c h _=>by obtain ⟨rfl,rfl⟩:=h;exact .inr (.inr I)) (fun a h=>by simp at h),fun o=>⟨by rw [D];exact Xgz _,.inl (D o)⟩,fun a h=>by simp at h⟩
theorem LeO.least (G:Zpv P outs st) (hs:s<P) {D:Zd} {r:Nat->Int} {A:Uw} {R:Nat->Int} (d:LeO P st s D r A R) (h0:∀ k,k<P->A k=none) (o:Nat):U1 (GoF st s o) (R o):=by
 refine ⟨(d.r1 o).1,fun x hx=>?_,(d.r1 o).2⟩;obtain ⟨a,y,w,h1,H,rfl⟩:=hx;obtain ⟨x,I,J,rfl⟩:=id H;have M:=G.c0 a x I;have:=(d.r1 o).1;have O:Wm=1152921504606846976:=rfl;rcases d.d.walk (Z5v G hs) h1 with q | ⟨q,q'⟩ | ⟨k,z,q,q',_⟩
 ·omega
 ·have:=d.r2 a q o _ H;omega
 rw [h0 k q] at q';cases q'
end
end Go.Rm


namespace Go.Rm
section
variable {Y:Sys} {h h':Zk}
theorem Zkc {P:Zf} (h:∃ n,P n):∃ n,P n/\∀ m,P m->n<=m:=by
 obtain ⟨n,r⟩:=h
 induction n using Nat.strongRecOn with
 | _ n D =>
  by_cases c:∃ m,m<n/\P m
  ·obtain ⟨m,G,hp⟩:=c;exact D m G hp
  exact ⟨n,r,fun m hp=>Nat.le_of_not_lt fun H=>c ⟨m,H,hp⟩⟩
def Zwa (I:Nat->Zc->Zk->Prop) (e:Zc) (h:Zk):Prop:=∃ m,I m e h
open Classical in
noncomputable def muI (I:Nat->Zc->Zk->Prop) (e:Zc) (h:Zk):Nat:=if c:∃ m,I m e h then Classical.choose (Zkc c) else 0
theorem Z8l {I:Nat->Zc->Zk->Prop} {e:Zc} {h:Zk} (c:Zwa I e h):I (muI I e h) e h:=by
 have c':∃ m,I m e h:=c;unfold muI;rw [dif_pos c'];exact (Classical.choose_spec (Zkc c')).1
theorem Z80 {I:Nat->Zc->Zk->Prop} {m:Nat} {e:Zc} {h:Zk} (c:I m e h):muI I e h<=m:=by
 have c':∃ m,I m e h:=⟨m,c⟩
 unfold muI;rw [dif_pos c'];exact (Classical.choose_spec (Zkc c')).2 m c
theorem Zj0 {s:Stmt} {e:Zc} {H:Zc->Zk->Prop} {r:Nat->Zc->Zk->Prop} {D:Zc->Zk->Prop} (I:Nat->Zc->Zk->Prop) (G:Nat) (h0:I G e h)
  (hs:∀ m e h,I m e h->s.wp Y (Zwg (Zwa I) (muI I) m) r D e h):Stmt.wp Y (.loop s) H r D e h :=
 Zs (Zwa I) (muI I) ⟨G,h0⟩ fun e h c=>hs _ e h (Z8l c)
theorem Zub {I:Nat->Zc->Zk->Prop} {m m':Nat} {e:Zc} {h:Zk} (c:I m' e h) (r:m'<m):Zwg (Zwa I) (muI I) m e h :=
 ⟨⟨m',c⟩,Nat.lt_of_le_of_lt (Z80 c) r⟩
end
end Go.Rm

namespace Go.Rm
section
variable {Y:Sys} {h h':Zk}
theorem Zkl {l:List Bool} {i:Nat} {x:Bool}:(Vl l).set i (.bool x)=Vl (l.set i x):=by simp [Vl,Xfn]
theorem Zsp {l:List Bool} {i j:Nat} {x:Bool} (r:i<l.length):Zee (l.set i x) j=if j=i then x else Zee l j:=by
 simp only [Zee,Xet,Xf7];by_cases e:i=j
 ·subst e;simp [r]
 simp [e,Ne.symm e]
end
theorem Zpc {c:Int} (h0:0<=c) (h1:c<=1152921504606846976):Qi c=c:=by unfold Qi;rw [if_neg (by omega),if_neg (by omega)]
structure Z7p (Y:Sys):Prop where
 New:Y.Has 6 Y6
 Put:Y.Has 8 Y8
 Pop:Y.Has 10 Y10
 key:Y.Has 18 Y18
 up:Y.Has 20 Y20
 down:Y.Has 22 Y22
 ahead:Y.Has 25 Y25
 swap:Y.Has 21 Y21
structure WkG (Y:Sys):Prop where
 arc:Y.Has 211 Y211
 vert:Y.Has 244 Y244
 Arcs:Y.Has 209 Y209
 From:Y.Has 193 Y193
 To:Y.Has 192 Y192
 Weight:Y.Has 233 Y233
 Outs:Y.Has 239 Y239
 Turn:Y.Has 231 Y231
 CI:Y.Has 245 Y245
 T:Zce Y
theorem Zq4 {n:Nat} (h:n<=16384):Zif (n:Int)=n:=by unfold Zif;rw [if_neg (by omega),if_neg (by omega)];simp
end Go.Rm



namespace Go.Rm
structure InJ where
 Bg:Nat
 Bt:Nat
 Bb:Nat
 Bd:Nat
 Bm:Nat
 Bh:Nat
 Bi:Nat
 db:Nat
 hp:Nat
 p:Nat
 n:Nat
 lo:Nat
 t:Int
end Go.Rm

namespace Go.Rm
theorem Zq6 {h:Zk} {K:Ze} {b o:Nat} {f:Fn} {x y:Array Value}:Ef.wp h K (.store 1) [.pointer (some ⟨b,o,none⟩),.func f x y]=Xo h b o (.func f x y) K:=Qb rfl
end Go.Rm
