import Derived.Test.YtpikofomaekpoaaGreatDoorT29
import Derived.Test.YtpikofomaekpoaaGreatDoorT26
/- Parts. -/
set_option linter.unusedSimpArgs false
set_option linter.unusedVariables false
namespace Go.Rm
def Ys (L:Za) (k v:Nat):Int:=Zl (Ya L (k-1)) v
section
variable {Y:Sys} {h h':Zk}
def LvI (s:Sl) (L:Za) (v a b:Nat) (h0:Zk) (e:Zc) (h':Zk):Prop :=
 ∃ (k:Nat) (v6 v7 v8 v9 v10 v11 v12 v13:Value),e=[s.v,Zg v,Zg a,Zg b,Zg 0,Zg k,v6,v7,v8,v9,v10,v11,v12,v13]/\k<=L.length/\Uk (Ys L) v a b L.length=Uk (Ys L) v a b k/\h'=h0
def LvJ (s u:Sl) (v a b k:Nat) (h0:Zk) (e:Zc) (h':Zk):Prop :=
 ∃ (j:Nat) (v7 v8 v11 v12 v13:Value),e=[s.v,Zg v,Zg a,Zg b,Zg 0,Zg ((k:Int)+1),u.v,v7,v8,.agg #[Zg v,Zg a,Zg b],Zg j,v11,v12,v13]/\j<=3/\h'=h0
theorem Zqr (H:Y.Has 401 Y401) {s:Sl} {L:Za} (r:Qn h s L) (aa:L.length<=1000) {v a b n:Nat} (J:∀ i,i<L.length->(Ya L i).length=n) (hv:v<n) (ha:a<n) (hb:b<n) (hn:n<=1000000)
  {R:Ze} (O:R (Zg (Uk (Ys L) v a b L.length:Nat)) h):Zv Y 401 [s.v,Zg v,Zg a,Zg b] h R:=by
 refine .of_has H rfl ?_;have ls:=r.len;simp [Y401,Xm.wp];rw [<-ls];refine Zt (LvI s L v a b h) (fun e _=>Zy e 5) ⟨L.length,_,_,_,_,_,_,_,_,rfl,Xfy _,rfl,rfl⟩ ?_;rintro e h1 ⟨k,v6,v7,v8,v9,ab,ac,ad,ae,rfl,hk,U,rfl⟩
 cases k with
 | zero =>
  simp;rw [U] at O;exact O
 | succ k =>
  obtain ⟨u,hu,G⟩:=r.at (i:=k) (by omega)
  have V:k<s.n:=by omega
  have c1:(1:Int)<=(k:Int)+1:=by omega
  have w1:IntKind.i64.wrap ((k:Int)+1-1)=(k:Int):=by rw [Zo (by omega)];omega
  have w0:IntKind.i64.wrap (k:Int)=(k:Int):=Zo (by omega);have X:Yo.sem Y h1 (.buildA 1 #[Zg 0,Zg 0,Zg 0] [0,1,2]) [Zg (v:Int),Zg (a:Int),Zg (b:Int)]=some (.agg #[Zg v,Zg a,Zg b]):=by
   simp [Yo.sem,Instr.fill,Value.cells]
  simp [c1,w0,Zm r.ok,V,hu,X];have lu:=G.len;rw [J k (by omega)] at lu;refine Zt (LvJ s u v a b k h1) (fun e _=>3-Zy e 10) ⟨0,_,_,_,_,_,rfl,by omega,rfl⟩ ?_;rintro e h2 ⟨j,y7,y8,af,ag,ah,rfl,hj,rfl⟩;by_cases c:j<3
  ·have c':(j:Int)<3:=by omega
   have w2:=Zj (i:=j) (by omega);obtain ⟨x,hx,ai⟩:∃ x:Nat,(#[Value.int .i64 v,Zg a,Zg b])[j]? = some (Zg x)/\x<n:=by
    match j,c with
    | 0,_=>exact ⟨v,rfl,hv⟩
    | 1,_=>exact ⟨a,rfl,ha⟩
    | 2,_=>exact ⟨b,rfl,hb⟩
   have hp:Yo.sem Y h2 (.idxV 3 1 false) [.agg #[Zg v,Zg a,Zg b],Zg (j:Int)]=some (Zg x):=by
    simp only [Yo.sem];rw [if_pos ⟨by omega,by omega⟩];simp only [Zah,Xga,if_false];rw [show (j:Int).toNat * 1=j by omega];exact hx
   have d1:¬ (x:Int)<0:=by omega
   have d2:¬ (u.n:Int)<=(x:Int):=by omega
   simp [c',hp,d1,d2,w2];exact ⟨⟨j+1,_,_,_,_,_,rfl,by omega,rfl⟩,by simp [Zy];omega⟩
  have c':¬ (j:Int)<3:=by omega
  have Z:=G.at (i:=v) (by omega)
  have va:=G.at (i:=a) (by omega)
  have vb:=G.at (i:=b) (by omega)
  have lv:v<u.n:=by omega
  have la:a<u.n:=by omega
  have lb:b<u.n:=by omega
  have cv:∀ x,Ys L (k+1) x=Zl (Ya L k) x:=fun x=>rfl;have D:Uk (Ys L) v a b (k+1)=if Ys L (k+1) v≠Ys L (k+1) a/\Ys L (k+1) v≠Ys L (k+1) b then k+1 else Uk (Ys L) v a b k:=rfl
  by_cases I:Zl (Ya L k) v=Zl (Ya L k) a
  ·rw [if_neg (by simp [cv,I])] at D;simp [c',Zm G.ok,lv,la,Z,va,I,w0];exact ⟨⟨k,_,_,_,_,_,_,_,_,rfl,by omega,by rw [U,D],rfl⟩,by simp [Zy]⟩
  by_cases M:Zl (Ya L k) v=Zl (Ya L k) b
  ·rw [if_neg (by simp [cv,M])] at D;rw [M] at I;simp [c',Zm G.ok,lv,la,lb,Z,va,vb,I,M,w0];exact ⟨⟨k,_,_,_,_,_,_,_,_,rfl,by omega,by rw [U,D],rfl⟩,by simp [Zy]⟩
  rw [if_pos (by simp [cv,I,M])] at D;rw [U,D] at O;simp [c',Zm G.ok,lv,la,lb,Z,va,vb,I,M];simpa using O
structure Z85 (Y:Sys):Prop where
 X:Zgi Y
 Arcs:Y.Has 209 Y209
 check:Y.Has 342 Y342
theorem Zge (C:Z85 Y) {p op:Nat} {N:Zr} {S:Zf} {L:Za} {c:Sl} (g:Xc h p N S) (v:Vw h op N L) (hc:(c.n:Int)=(levelS N L L.length:Nat)) {s t:Nat} (hs:s<N.as.length) (ht:t<N.as.length)
  {R:Ze} (r:R .nilIface h):Zv Y 342 [Zh p,Zh op,c.v,Zg (s:Int),Zg (t:Int)] h R:=by
 refine .of_has C.check rfl ?_;simp [Y342,Xm.wp];refine Zat C.Arcs g ?_;have D:¬ (s:Int)<0:=by omega
 have G:¬ (N.as.length:Int)<=(s:Int):=by omega
 have H:¬ (t:Int)<0:=by omega
 have I:¬ (N.as.length:Int)<=(t:Int):=by omega
 simp [D,G,H,I];refine Zcy C.X v ?_;simp [hc];exact r
end
def EdF (st:Nat->List Xe) (a b:Nat) (w:Int):Prop:=∃ x,x∈st a/\x.b<0/\x.a=(b:Int)/\w=x.c
def OuF (st:Nat->List Xe) (a o:Nat) (w:Int):Prop:=∃ x,x∈st a/\x.b=(o:Int)/\w=x.c
def GoF (st:Nat->List Xe) (s o:Nat) (x:Int):Prop:=∃ a y w,Xg (AtI s) (EdF st) a y/\OuF st a o w/\x=y+w
structure Zq3 (P outs:Nat) (st:Nat->List Xe):Prop where
 to:∀ a x,x∈st a->x.b<0->0<=x.a/\x.a<P
 out:∀ a x,x∈st a->x.b<outs
 c0:∀ a x,x∈st a->0<=x.c/\x.c<=2305843009213693952
section
variable {P outs s:Nat} {st:Nat->List Xe}
theorem Z69 (r:Zq3 P outs st) (hs:s<P):Zik P (AtI s) (EdF st) :=
 ⟨fun b c h=>by obtain ⟨rfl,rfl⟩:=h;exact ⟨hs,by omega⟩,fun a b w h=>by
  obtain ⟨x,h1,D,G,h4⟩:=h;have:=r.to a x h1 D;have:=r.c0 a x h1;exact ⟨by omega,by omega⟩⟩
def Xew (st:Nat->List Xe) (k j a b:Nat) (w:Int):Prop:=a=k/\∃ i,j<=i/\i<(st k).length/\(Zp (st k) i).b<0/\(Zp (st k) i).a=(b:Int)/\w=(Zp (st k) i).c
structure LeI (P:Nat) (st:Nat->List Xe) (s:Nat) (ord:Zd) (cost:Nat->Int) (A:Vk) (R:Nat->Int) (k j:Nat):Prop where
 d:Zbr P (AtI s) (EdF st) ord cost A (fun _=>False) (Xew st k j)
 r1:∀ o,R o<=Xq/\(R o=Xq\/GoF st s o (R o))
 r2:∀ a,a∈ord->∀ o w,OuF st a o w->(a=k/\∃ i,j<=i/\i<(st k).length/\(Zp (st k) i).b=(o:Int)/\w=(Zp (st k) i).c)\/R o<=cost a+w
theorem Zeq {l:List Xe} {i:Nat} (h:i<l.length):Zp l i∈l:=by rw [Wy h];exact Xgf h
theorem Zrr {l:List Xe} {x:Xe} (h:x∈l):∃ i,i<l.length/\Zp l i=x:=by
 obtain ⟨i,h1,r⟩:=Xgx h;exact ⟨i,h1,by rw [Wy h1];exact r⟩
theorem Zj9 {x:Int} (h:0<=x):Ww x<=x/\0<=Ww x/\Ww x<=Xq/\(Ww x=Xq\/Ww x=x):=by
 unfold Ww Xq
 split
 ·omega
 split <;> omega
theorem Z64 {x y:Int} (h:y<=x) (hy:y<=Xq) (h0:0<=x):y<=Ww x:=by
 unfold Ww Xq at *
 split
 ·omega
 split <;> omega
theorem LeI.out {G:Zd} {r:Nat->Int} {A:Vk} {R:Nat->Int} {k j o:Nat} (U:Zq3 P outs st) (d:LeI P st s G r A R k j) (V:j<(st k).length) (X:k∈G) (Z:(Zp (st k) j).b=(o:Int)) :
  LeI P st s G r A (X4 R o (if r k+(Zp (st k) j).c<R o then r k+(Zp (st k) j).c else R o)) k (j+1):=by
 have M:=Zeq V;have hc:=U.c0 k _ M;refine ⟨d.d.less (fun _ _ _ h=>h.elim) (fun a O b w he hp=>?_),fun D=>?_,fun a O D w hw=>?_⟩
 ·obtain ⟨rfl,i,q1,I,J,H,q5⟩:=hp;by_cases e:i=j
  ·subst e;omega
  exact .inl ⟨rfl,i,by omega,I,J,H,q5⟩
 ·unfold X4;by_cases e:D=o
  ·subst e;rw [if_pos rfl];have:=d.r1 D
   split
   ·rename_i h;refine ⟨by omega,.inr ?_⟩;rcases d.d.wS k X with q | q
    ·exfalso;unfold Xq at this;omega
    exact ⟨k,r k,_,q,⟨_,M,Z,rfl⟩,rfl⟩
   exact this
  rw [if_neg e];exact d.r1 D
 have mono:∀ z,R D<=z->X4 R o (if r k+(Zp (st k) j).c<R o then r k+(Zp (st k) j).c else R o) D<=z:=fun z hz=>by
  unfold X4
  split
  ·rename_i e;subst e;split <;> omega
  exact hz
 rcases d.r2 a O D w hw with ⟨rfl,i,q1,I,J,H⟩ | q
 ·by_cases e:i=j
  ·subst e;right;have:D=o:=by omega
   subst this;subst H;unfold X4;rw [if_pos rfl]
   split <;> omega
  exact .inl ⟨rfl,i,by omega,I,J,H⟩
 exact .inr (mono _ q)
theorem LeI.old {D:Zd} {r:Nat->Int} {A:Vk} {R:Nat->Int} {k j b:Nat} (O:Zq3 P outs st) (d:LeI P st s D r A R k j) (U:j<(st k).length) (hk:k∈D) (G:∀ a,a∈D->r a<=r k)
  (ho:(Zp (st k) j).b<0) (hb:(Zp (st k) j).a=(b:Int)) (hd:b∈D):LeI P st s D r A R k (j+1):=by
 have V:=Zeq U;have hc:=O.c0 k _ V;refine ⟨d.d.less (fun _ _ _ h=>h.elim) (fun a M y w he hp=>?_),d.r1,fun a M X w Z=>?_⟩
 ·obtain ⟨rfl,i,q1,H,I,J,q5⟩:=hp;by_cases e:i=j
  ·subst e;have:y=b:=by omega
   subst this;have:=G y hd;exact .inr (.inr (.inl ⟨hd,by omega⟩))
  exact .inl ⟨rfl,i,by omega,H,I,J,q5⟩
 rcases d.r2 a M X w Z with ⟨rfl,i,q1,H,I,J⟩ | q
 ·by_cases e:i=j
  ·subst e;omega
  exact .inl ⟨rfl,i,by omega,H,I,J⟩
 exact .inr q
theorem LeI.put {D:Zd} {r:Nat->Int} {A:Vk} {R:Nat->Int} {k j b:Nat} (U:Zq3 P outs st) (d:LeI P st s D r A R k j) (hj:j<(st k).length) (V:k∈D) (H:∀ a,a∈D->r a<=r k)
  (X:(Zp (st k) j).b<0) (hb:(Zp (st k) j).a=(b:Int)) (hd:b ∉ D):LeI P st s D r (Zbq P A b (Ww (r k+(Zp (st k) j).c))) R k (j+1):=by
 have I:=Zeq hj;have hc:=U.c0 k _ I;have bk:=d.d.bS k V;have lb:=U.to k _ I X;obtain ⟨h1,h2,h3,h4⟩:=Zj9 (x:=r k+(Zp (st k) j).c) (by omega);have hI:Xq=1152921504606846976:=rfl;obtain ⟨p1,Z⟩:=d.d.put (b:=b) (x:=Ww (r k+(Zp (st k) j).c)) (by omega) hd (by
  rcases h4 with q | q
  ·exact .inl q
  rcases d.d.wS k V with w | w
  ·left;omega
  right;rw [q];exact .step w ⟨_,I,X,hb,rfl⟩) ⟨h2,h3⟩ (fun a G=>Z64 (by have:=H a G;omega) (by have:=d.d.bS a G;omega) (by omega))
 refine ⟨p1.less (fun _ _ _ h=>h.elim) (fun a G y w he hp=>?_),d.r1,fun a G o' w hw=>?_⟩
 ·obtain ⟨rfl,i,q1,J,M,O,q5⟩:=hp;by_cases e:i=j
  ·subst e;have:y=b:=by omega
   subst this;subst q5;right;rcases h4 with q | q
   ·left;omega
   rw [q] at Z ⊢;exact .inr Z
  exact .inl ⟨rfl,i,by omega,J,M,O,q5⟩
 rcases d.r2 a G o' w hw with ⟨rfl,i,q1,J,M,O⟩ | q
 ·by_cases e:i=j
  ·subst e;omega
  exact .inl ⟨rfl,i,by omega,J,M,O⟩
 exact .inr q
structure LeO (P:Nat) (st:Nat->List Xe) (s:Nat) (ord:Zd) (cost:Nat->Int) (A:Vk) (R:Nat->Int):Prop where
 d:Zbr P (AtI s) (EdF st) ord cost A (fun _=>False) (fun _ _ _=>False)
 r1:∀ o,R o<=Xq/\(R o=Xq\/GoF st s o (R o))
 r2:∀ a,a∈ord->∀ o w,OuF st a o w->R o<=cost a+w
theorem LeI.fin {D:Zd} {r:Nat->Int} {A:Vk} {R:Nat->Int} {k:Nat} (d:LeI P st s D r A R k (st k).length):LeO P st s D r A R :=
 ⟨d.d.less (fun _ _ _ h=>h.elim) (fun a G b w M hp=>by obtain ⟨_,i,H,I,_⟩:=hp;omega),d.r1,fun a G o w J=>by
  rcases d.r2 a G o w J with ⟨_,i,H,I,_⟩ | q
  ·omega
  exact q⟩
theorem LeO.pop {D:Zd} {r:Nat->Int} {A:Vk} {R:Nat->Int} (d:LeO P st s D r A R) {k:Nat} {c:Int} (m:Zti P A k c) :
  k ∉ D/\LeI P st s (D++[k]) (X4 r k c) (Zfi A k) R k 0/\(∀ a,a∈D++[k]->X4 r k c a<=X4 r k c k)/\X4 r k c k=c/\(0<=c/\c<=Xq):=by
 obtain ⟨h1,X,Z,h4,_⟩:=d.d.pop m;have O:X4 r k c k=c:=by simp [X4]
 refine ⟨h1,⟨X.less (fun _ _ _ h=>h.elim) (fun a U b w he hp=>?_),d.r1,fun a U o w V=>?_⟩,by rw [O];exact Z,O,h4⟩
 ·subst hp;obtain ⟨x,H,I,J,q4⟩:=he;obtain ⟨i,M,G⟩:=Zrr H;exact .inl ⟨rfl,i,by omega,M,by rw [G];exact I,by rw [G];exact J,by rw [G];exact q4⟩
 rcases List.mem_append.1 U with q | q
 ·right;have:a≠k:=fun e=>h1 (e ▸ q);unfold X4;rw [if_neg this];exact d.r2 a q o w V
 simp at q;subst q;obtain ⟨x,H,I,J⟩:=V;obtain ⟨i,M,G⟩:=Zrr H;exact .inl ⟨rfl,i,by omega,M,by rw [G];exact I,by rw [G];exact J⟩
theorem LeO.start (hs:s<P) {r:Nat->Int} {R:Nat->Int} (D:∀ o,R o=Xq):LeO P st s [] r (Zbq P (fun _=>none) s 0) R:=by
 have G:Zbr P (AtI s) (EdF st) [] r (fun _=>none) (fun _=>True) (fun _ _ _=>False):=Zbr.start (fun _ _ _=>trivial);obtain ⟨H,I⟩:=G.put (b:=s) (x:=0) hs (by simp) (.inr (.init ⟨rfl,rfl⟩)) (by omega) (fun a h=>by simp at h);exact ⟨H.less (fun b c h _=>by obtain ⟨rfl,rfl⟩:=h;exact .inr (.inr I)) (fun a h=>by simp at h),fun o=>⟨by rw [D];exact Xht _,.inl (D o)⟩,fun a h=>by simp at h⟩
theorem LeO.least (G:Zq3 P outs st) (hs:s<P) {D:Zd} {r:Nat->Int} {A:Vk} {R:Nat->Int} (d:LeO P st s D r A R) (h0:∀ k,k<P->A k=none) (o:Nat):Zao (GoF st s o) (R o):=by
 refine ⟨(d.r1 o).1,fun x hx=>?_,(d.r1 o).2⟩;obtain ⟨a,y,w,h1,H,rfl⟩:=hx;obtain ⟨x,I,J,rfl⟩:=id H;have M:=G.c0 a x I;have:=(d.r1 o).1;have O:Xq=1152921504606846976:=rfl;rcases d.d.walk (Z69 G hs) h1 with q | ⟨q,q'⟩ | ⟨k,z,q,q',_⟩
 ·omega
 ·have:=d.r2 a q o _ H;omega
 rw [h0 k q] at q';cases q'
end
end Go.Rm


namespace Go.Rm
section
variable {Y:Sys} {h h':Zk}
theorem Zlf {P:Zf} (h:∃ n,P n):∃ n,P n/\∀ m,P m->n<=m:=by
 obtain ⟨n,r⟩:=h
 induction n using Nat.strongRecOn with
 | _ n ih =>
  by_cases c:∃ m,m<n/\P m
  ·obtain ⟨m,D,hp⟩:=c;exact ih m D hp
  exact ⟨n,r,fun m hp=>Nat.le_of_not_lt fun G=>c ⟨m,G,hp⟩⟩
def Zxu (I:Nat->Zc->Zk->Prop) (e:Zc) (h:Zk):Prop:=∃ m,I m e h
open Classical in
noncomputable def muI (I:Nat->Zc->Zk->Prop) (e:Zc) (h:Zk):Nat:=if c:∃ m,I m e h then Classical.choose (Zlf c) else 0
theorem Z9z {I:Nat->Zc->Zk->Prop} {e:Zc} {h:Zk} (c:Zxu I e h):I (muI I e h) e h:=by
 have c':∃ m,I m e h:=c;unfold muI;rw [dif_pos c'];exact (Classical.choose_spec (Zlf c')).1
theorem Xag {I:Nat->Zc->Zk->Prop} {m:Nat} {e:Zc} {h:Zk} (c:I m e h):muI I e h<=m:=by
 have c':∃ m,I m e h:=⟨m,c⟩
 unfold muI;rw [dif_pos c'];exact (Classical.choose_spec (Zlf c')).2 m c
theorem Zey {s:Stmt} {e:Zc} {H:Zc->Zk->Prop} {r:Nat->Zc->Zk->Prop} {D:Zc->Zk->Prop} (I:Nat->Zc->Zk->Prop) (G:Nat) (h0:I G e h)
  (hs:∀ m e h,I m e h->s.wp Y (Zx0 (Zxu I) (muI I) m) r D e h):Stmt.wp Y (.loop s) H r D e h :=
 Zt (Zxu I) (muI I) ⟨G,h0⟩ fun e h c=>hs _ e h (Z9z c)
theorem Zlj {I:Nat->Zc->Zk->Prop} {m m':Nat} {e:Zc} {h:Zk} (c:I m' e h) (r:m'<m):Zx0 (Zxu I) (muI I) m e h :=
 ⟨⟨m',c⟩,Nat.lt_of_le_of_lt (Xag c) r⟩
end
end Go.Rm

namespace Go.Rm
section
variable {Y:Sys} {h h':Zk}
theorem Zln {l:List Bool} {i:Nat} {x:Bool}:(Vt l).set i (.bool x)=Vt (l.set i x):=by simp [Vt,Xg2]
theorem Zt3 {l:List Bool} {i j:Nat} {x:Bool} (r:i<l.length):Zdn (l.set i x) j=if j=i then x else Zdn l j:=by
 simp only [Zdn,Xf5,Xhp];by_cases e:i=j
 ·subst e;simp [r]
 simp [e,Ne.symm e]
end
theorem Zbv {c:Int} (h0:0<=c) (h1:c<=1152921504606846976):Ww c=c:=by unfold Ww;rw [if_neg (by omega),if_neg (by omega)]
structure Z84 (Y:Sys):Prop where
 New:Y.Has 6 Y6
 Put:Y.Has 8 Y8
 Pop:Y.Has 10 Y10
 key:Y.Has 18 Y18
 up:Y.Has 20 Y20
 down:Y.Has 22 Y22
 ahead:Y.Has 25 Y25
 swap:Y.Has 21 Y21
structure WkG (Y:Sys):Prop where
 arc:Y.Has 211 Y211
 vert:Y.Has 244 Y244
 Arcs:Y.Has 209 Y209
 From:Y.Has 193 Y193
 To:Y.Has 192 Y192
 Weight:Y.Has 233 Y233
 Outs:Y.Has 239 Y239
 Turn:Y.Has 231 Y231
 CI:Y.Has 245 Y245
 T:Zco Y
theorem Zk8 {n:Nat} (h:n<=16384):Zje (n:Int)=n:=by unfold Zje;rw [if_neg (by omega),if_neg (by omega)];simp
end Go.Rm

namespace Go.Rm
def Xu (l:Zd):Zb:=l.map fun (k:Nat)=>(k:Int)
section
variable {Y:Sys} {h h':Zk} {p:Nat} {N:Zr} {S:Zf}
def RvI (s:Sl) (l:Zb) (h0:Zk) (e:Zc) (h':Zk):Prop :=
 ∃ (i:Nat) (v3:Value),e=[s.v,Zg i,Zg ((l.length:Int)-1-i),v3]/\i<=l.length/\Mod (fun j=>j=s.b) h0 h'/\∃ c:Zb,c.length=l.length/\Ym h' 1 s (Zq c)/\∀ k,k<l.length->Zl c k=if k<i\/l.length-1-k<i then Zl l (l.length-1-k) else Zl l k
theorem Z5r (H:Y.Has 265 Y265) {s:Sl} {l:Zb} (o:Ym h 1 s (Zq l)) (V:l.length<=1000000)
  {R:Ze} (hr:∀ h',Mod (fun j=>j=s.b) h h'->Ym h' 1 s (Zq l.reverse)->R (.tuple #[]) h'):Zv Y 265 [s.v] h R:=by
 have sl:=o.row64.len;have ok:=o.ok;have w0:IntKind.i64.wrap ((s.n:Int)-1)=(l.length:Int)-1:=by rw [Zo (by omega)];omega
 refine .of_has H rfl ?_;simp [Y265,Xm.wp,w0];refine Zt (RvI s l h) (fun e _=>l.length-Zy e 1) ⟨0,_,by simp;rfl,by omega,Mod.refl _,l,rfl,o,fun k G=>by rw [if_neg (by omega)]⟩ ?_;rintro e h2 ⟨i,v3,rfl,hi,X,c,hc,o2,r⟩;by_cases q:(i:Int)<(l.length:Int)-1-i
 ·obtain ⟨j,hj⟩:∃ j:Nat,(l.length:Int)-1-i=j:=⟨l.length-1-i,by omega⟩
  have aa:i<j:=by omega
  have D:j<l.length:=by omega
  have q':(i:Int)<(j:Int):=by omega
  have J:∀ g (z:Nat),z<l.length->Yo.sem Y g (.idxa 1) [s.v,Zg z]=some (.pointer (some ⟨s.b,s.o+z,none⟩)):=fun g z lz=>by
   rw [Zm ok (by omega) (by omega)];simp
  have k1:=o2.row64.val i (by omega);have k2:=o2.row64.val j (by omega);have w1:=Zj (i:=i) (by omega);have w2:IntKind.i64.wrap ((j:Int)-1)=(j:Int)-1:=Zo (by omega);rw [hj];simp [q',J _ _ D,J _ i (by omega),k1,k2];refine stN o2 (k:=i) (by simp;omega) ?_;intro h3 o3 m3;rw [Vn] at o3;simp [J _ _ D];refine stN o3 (k:=j) (by simp;omega) ?_;intro h4 Z m4;rw [Vn] at Z;simp [w1,w2];refine ⟨⟨i+1,.bool true,?_,by omega,(X.trans m3).trans m4,_,by simp [hc],Z,fun k G=>?_⟩,?_⟩
  ·have:(j:Int)-1=(l.length:Int)-1-((i+1:Nat):Int):=by omega
   rw [this];rfl
  ·rw [Va (by simp;omega),Va (by omega)];have M:j=l.length-1-i:=by omega
   have I:=r i (by omega);have O:=r j (by omega);rw [if_neg (by omega)] at I;rw [if_neg (by omega)] at O;by_cases U:k=j
   ·subst U;rw [if_pos rfl,if_pos (.inr (by omega)),I]
    congr 1;omega
   by_cases e2:k=i
   ·subst e2;rw [if_neg U,if_pos rfl,if_pos (.inl (by omega)),O,M]
   rw [if_neg U,if_neg e2,r k G];by_cases e3:k<i\/l.length-1-k<i
   ·rw [if_pos e3,if_pos (by omega)]
   rw [if_neg e3,if_neg (by omega)]
  simp [Zy];omega
 simp [q];have:c=l.reverse:=by
  apply Xgb (by simp [hc]);intro k I O;have G:k<l.length:=by omega
  have:=r k G;rw [Zqk I] at this;rw [this,List.getElem_reverse,<-Zqk (by omega)]
  split
  ·rfl
  congr 1;omega
 subst this;exact hr h2 X o2
end
end Go.Rm

namespace Go.Rm
structure InJ where
 Bg:Nat
 Bt:Nat
 Bb:Nat
 Bd:Nat
 Bm:Nat
 Bh:Nat
 Bi:Nat
 db:Nat
 hp:Nat
 p:Nat
 n:Nat
 lo:Nat
 t:Int
end Go.Rm

namespace Go.Rm
theorem Zsg {h:Zk} {K:Ze} {b o:Nat} {f:Fn} {x y:Array Value}:Ef.wp h K (.store 1) [.pointer (some ⟨b,o,none⟩),.func f x y]=Xt h b o (.func f x y) K:=Qh rfl
end Go.Rm
