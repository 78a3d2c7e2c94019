import Derived.Test.YtmpamfkkaakbfaaGreatDoorT30
import Derived.Test.YtmpamfkkaakbfaaGreatDoorT27
import Derived.Test.YtmpamfkkaakbfaaGreatDoorT02
import Derived.Test.YtmpamfkkaakbfaaGreatDoorT29
/- Parts RAsk1 RAsk2 RFill0 RFlow2 RFlow3 RFlow4 RFlow5 RFlow6 RWalk2 RWalk3 RWalk4 RWalk5 RWalk6 RWalk7 RWalk8 RWalk9 -/
set_option linter.unusedSimpArgs false
set_option linter.unusedVariables false
namespace Go.Rm
def Uq (L:List (List Int)) (k v:Nat):Int:=Zc (Zq L (k-1)) v
section
variable {Y:Sys} {h h':Za}
def LvI (s:Sl) (L:List (List Int)) (v a b:Nat) (h0:Za) (e:List Value) (h':Za):Prop :=
 ∃ (k:Nat) (v6 v7 v8 v9 v10 v11 v12 v13:Value),e=[s.v,.int .i64 v,.int .i64 a,.int .i64 b,.int .i64 0,.int .i64 k,v6,v7,v8,v9,v10,v11,v12,v13]/\k<=L.length/\Vw (Uq L) v a b L.length=Vw (Uq L) v a b k/\h'=h0
def LvJ (s u:Sl) (v a b k:Nat) (h0:Za) (e:List Value) (h':Za):Prop :=
 ∃ (j:Nat) (v7 v8 v11 v12 v13:Value),e=[s.v,.int .i64 v,.int .i64 a,.int .i64 b,.int .i64 0,.int .i64 ((k:Int)+1),u.v,v7,v8,.agg #[.int .i64 v,.int .i64 a,.int .i64 b],.int .i64 j,v11,v12,v13]/\j<=3/\h'=h0
theorem Zo5 (H:Y.Has 401 Y401) {s:Sl} {L:List (List Int)} (r:Ql h s L) (aa:L.length<=1000) {v a b n:Nat} (J:∀ i,i<L.length->(Zq L i).length=n) (hv:v<n) (ha:a<n) (hb:b<n) (hn:n<=1000000)
  {R:Value->Za->Prop} (O:R (.int .i64 (Vw (Uq L) v a b L.length:Nat)) h):Zm Y 401 [s.v,.int .i64 v,.int .i64 a,.int .i64 b] h R:=by
 refine .of_has H rfl ?_
 have ls:=r.len
 simp [Y401,Xa.wp]
 rw [<-ls]
 refine Zj (LvI s L v a b h) (fun e _=>Zo e 5) ⟨L.length,_,_,_,_,_,_,_,_,rfl,Xd6 _,rfl,rfl⟩ ?_
 rintro e h1 ⟨k,v6,v7,v8,v9,ab,ac,ad,ae,rfl,hk,U,rfl⟩
 cases k with
 | zero =>
  simp
  rw [U] at O
  exact O
 | succ k =>
  obtain ⟨u,hu,G⟩:=r.at (i:=k) (by omega)
  have X:k<s.n:=by omega
  have c1:(1:Int)<=(k:Int)+1:=by omega
  have V:IntKind.i64.wrap ((k:Int)+1-1)=(k:Int):=by rw [Ze (by omega)]; omega
  have w0:IntKind.i64.wrap (k:Int)=(k:Int):=Ze (by omega)
  have Z:Yg.sem Y h1 (.buildA 1 #[.int .i64 0,.int .i64 0,.int .i64 0] [0,1,2]) [.int .i64 (v:Int),.int .i64 (a:Int),.int .i64 (b:Int)]=some (.agg #[.int .i64 v,.int .i64 a,.int .i64 b]):=by
   simp [Yg.sem,Instr.fill,Value.cells]
  simp [c1,w0,V,Zb r.ok,X,hu,Z]
  have lu:=G.len
  rw [J k (by omega)] at lu
  refine Zj (LvJ s u v a b k h1) (fun e _=>3-Zo e 10) ⟨0,_,_,_,_,_,rfl,by omega,rfl⟩ ?_
  rintro e h2 ⟨j,y7,y8,af,ag,ah,rfl,hj,rfl⟩
  by_cases c:j<3
  ·have c':(j:Int)<3:=by omega
   have w2:IntKind.i64.wrap ((j:Int)+1)=(j:Int)+1:=Ze (by omega)
   obtain ⟨x,hx,ai⟩:∃ x:Nat,(#[Value.int .i64 v,.int .i64 a,.int .i64 b])[j]? = some (.int .i64 x)/\x<n:=by
    match j,c with
    | 0,_=>exact ⟨v,rfl,hv⟩
    | 1,_=>exact ⟨a,rfl,ha⟩
    | 2,_=>exact ⟨b,rfl,hb⟩
   have hp:Yg.sem Y h2 (.idxV 3 1 false) [.agg #[.int .i64 v,.int .i64 a,.int .i64 b],.int .i64 (j:Int)]=some (.int .i64 x):=by
    simp only [Yg.sem]
    rw [if_pos ⟨by omega,by omega⟩]
    simp only [U5,Xeh,if_false]
    rw [show (j:Int).toNat * 1=j by omega]
    exact hx
   have d1:¬ (x:Int)<0:=by omega
   have d2:¬ (u.n:Int)<=(x:Int):=by omega
   simp [c',hp,d1,d2,w2]
   exact ⟨⟨j+1,_,_,_,_,_,rfl,by omega,rfl⟩,by simp [Zo]; omega⟩
  ·have c':¬ (j:Int)<3:=by omega
   have vv:=G.at (i:=v) (by omega)
   have va:=G.at (i:=a) (by omega)
   have vb:=G.at (i:=b) (by omega)
   have lv:v<u.n:=by omega
   have la:a<u.n:=by omega
   have lb:b<u.n:=by omega
   have cv:∀ x,Uq L (k+1) x=Zc (Zq L k) x:=fun x=>rfl
   have D:Vw (Uq L) v a b (k+1)=if Uq L (k+1) v≠Uq L (k+1) a/\Uq L (k+1) v≠Uq L (k+1) b then k+1 else Vw (Uq L) v a b k:=rfl
   by_cases I:Zc (Zq L k) v=Zc (Zq L k) a
   ·rw [if_neg (by simp [cv,I])] at D
    simp [c',Zb G.ok,lv,la,lb,vv,va,vb,I,w0,V]
    exact ⟨⟨k,_,_,_,_,_,_,_,_,rfl,by omega,by rw [U,D],rfl⟩,by simp [Zo]⟩
   ·by_cases M:Zc (Zq L k) v=Zc (Zq L k) b
    ·rw [if_neg (by simp [cv,M])] at D
     rw [M] at I
     simp [c',Zb G.ok,lv,la,lb,vv,va,vb,I,M,w0,V]
     exact ⟨⟨k,_,_,_,_,_,_,_,_,rfl,by omega,by rw [U,D],rfl⟩,by simp [Zo]⟩
    ·rw [if_pos (by simp [cv,I,M])] at D
     rw [U,D] at O
     simp [c',Zb G.ok,lv,la,lb,vv,va,vb,I,M,w0,V]
     simpa using O
end
structure Z7b (Y:Sys):Prop where
 X:Zfk Y
 Arcs:Y.Has 209 Y209
 check:Y.Has 342 Y342
section
variable {Y:Sys} {h h':Za}
theorem Zlo (C:Z7b Y) {p op:Nat} {N:Zg} {S:Nat->Prop} {L:List (List Int)} {c:Sl} (g:Yv h p N S) (v:Up h op N L) (hc:(c.n:Int)=(levelS N L L.length:Nat)) {s t:Nat} (hs:s<N.as.length) (ht:t<N.as.length)
  {R:Value->Za->Prop} (r:R .nilIface h):Zm Y 342 [.pointer (some ⟨p,0,none⟩),.pointer (some ⟨op,0,none⟩),c.v,.int .i64 (s:Int),.int .i64 (t:Int)] h R:=by
 refine .of_has C.check rfl ?_
 simp [Y342,Xa.wp]
 refine Zbp C.Arcs g ?_
 have D:¬ (s:Int)<0:=by omega
 have G:¬ (N.as.length:Int)<=(s:Int):=by omega
 have H:¬ (t:Int)<0:=by omega
 have I:¬ (N.as.length:Int)<=(t:Int):=by omega
 simp [D,G,H,I]
 refine Zb6 C.X v ?_
 simp [hc]
 exact r
end
def EdF (st:Nat->List Yp) (a b:Nat) (w:Int):Prop:=∃ x,x∈st a/\x.b<0/\x.a=(b:Int)/\w=x.c
def OuF (st:Nat->List Yp) (a o:Nat) (w:Int):Prop:=∃ x,x∈st a/\x.b=(o:Int)/\w=x.c
def GoF (st:Nat->List Yp) (s o:Nat) (x:Int):Prop:=∃ a y w,Xk (AtI s) (EdF st) a y/\OuF st a o w/\x=y+w
structure Zpi (P outs:Nat) (st:Nat->List Yp):Prop where
 to:∀ a x,x∈st a->x.b<0->0<=x.a/\x.a<P
 out:∀ a x,x∈st a->x.b<outs
 c0:∀ a x,x∈st a->0<=x.c/\x.c<=2305843009213693952
section
variable {P outs s:Nat} {st:Nat->List Yp}
theorem Z5g (r:Zpi P outs st) (hs:s<P):Zjp P (AtI s) (EdF st) :=
 ⟨fun b c h=>by obtain ⟨rfl,rfl⟩:=h; exact ⟨hs,by omega⟩,fun a b w h=>by
  obtain ⟨x,h1,D,G,h4⟩:=h
  have:=r.to a x h1 D
  have:=r.c0 a x h1
  exact ⟨by omega,by omega⟩⟩
def Xc4 (st:Nat->List Yp) (k j a b:Nat) (w:Int):Prop:=a=k/\∃ i,j<=i/\i<(st k).length/\(Zf (st k) i).b<0/\(Zf (st k) i).a=(b:Int)/\w=(Zf (st k) i).c
structure LeI (P:Nat) (st:Nat->List Yp) (s:Nat) (ord:List Nat) (cost:Nat->Int) (A:Uk) (R:Nat->Int) (k j:Nat):Prop where
 d:Zaz P (AtI s) (EdF st) ord cost A (fun _=>False) (Xc4 st k j)
 r1:∀ o,R o<=Xr/\(R o=Xr\/GoF st s o (R o))
 r2:∀ a,a∈ord->∀ o w,OuF st a o w->(a=k/\∃ i,j<=i/\i<(st k).length/\(Zf (st k) i).b=(o:Int)/\w=(Zf (st k) i).c)\/R o<=cost a+w
theorem Zd0 {l:List Yp} {i:Nat} (h:i<l.length):Zf l i∈l:=by rw [Wj h]; exact Xeo h
theorem Zp6 {l:List Yp} {x:Yp} (h:x∈l):∃ i,i<l.length/\Zf l i=x:=by
 obtain ⟨i,h1,r⟩:=Xfa h
 exact ⟨i,h1,by rw [Wj h1]; exact r⟩
theorem Zha {x:Int} (h:0<=x):Vc x<=x/\0<=Vc x/\Vc x<=Xr/\(Vc x=Xr\/Vc x=x):=by
 unfold Vc Xr
 split
 ·omega
 ·split <;> omega
theorem Zvz {x y:Int} (h:y<=x) (hy:y<=Xr) (h0:0<=x):y<=Vc x:=by
 unfold Vc Xr at *
 split
 ·omega
 ·split <;> omega
theorem LeI.out {G:List Nat} {r:Nat->Int} {A:Uk} {R:Nat->Int} {k j o:Nat} (V:Zpi P outs st) (d:LeI P st s G r A R k j) (X:j<(st k).length) (M:k∈G) (Z:(Zf (st k) j).b=(o:Int)) :
  LeI P st s G r A (X1 R o (if r k+(Zf (st k) j).c<R o then r k+(Zf (st k) j).c else R o)) k (j+1):=by
 have O:=Zd0 X
 have hc:=V.c0 k _ O
 refine ⟨d.d.less (fun _ _ _ h=>h.elim) (fun a U b w he hp=>?_),fun D=>?_,fun a U D w hw=>?_⟩
 ·obtain ⟨rfl,i,q1,I,J,H,q5⟩:=hp
  by_cases e:i=j
  ·subst e; omega
  ·exact .inl ⟨rfl,i,by omega,I,J,H,q5⟩
 ·unfold X1
  by_cases e:D=o
  ·subst e
   rw [if_pos rfl]
   have:=d.r1 D
   split
   ·rename_i h
    refine ⟨by omega,.inr ?_⟩
    have bk:=d.d.bS k M
    rcases d.d.wS k M with q | q
    ·exfalso; unfold Xr at this; omega
    ·exact ⟨k,r k,_,q,⟨_,O,Z,rfl⟩,rfl⟩
   ·exact this
  ·rw [if_neg e]; exact d.r1 D
 ·have mono:∀ z,R D<=z->X1 R o (if r k+(Zf (st k) j).c<R o then r k+(Zf (st k) j).c else R o) D<=z:=fun z hz=>by
   unfold X1
   split
   ·rename_i e; subst e; split <;> omega
   ·exact hz
  rcases d.r2 a U D w hw with ⟨rfl,i,q1,I,J,H⟩ | q
  ·by_cases e:i=j
   ·subst e
    right
    have:D=o:=by omega
    subst this
    subst H
    unfold X1
    rw [if_pos rfl]
    split <;> omega
   ·exact .inl ⟨rfl,i,by omega,I,J,H⟩
  ·exact .inr (mono _ q)
theorem LeI.old {D:List Nat} {r:Nat->Int} {A:Uk} {R:Nat->Int} {k j b:Nat} (O:Zpi P outs st) (d:LeI P st s D r A R k j) (U:j<(st k).length) (hk:k∈D) (G:∀ a,a∈D->r a<=r k)
  (ho:(Zf (st k) j).b<0) (hb:(Zf (st k) j).a=(b:Int)) (hd:b∈D):LeI P st s D r A R k (j+1):=by
 have V:=Zd0 U
 have hc:=O.c0 k _ V
 refine ⟨d.d.less (fun _ _ _ h=>h.elim) (fun a M y w he hp=>?_),d.r1,fun a M X w Z=>?_⟩
 ·obtain ⟨rfl,i,q1,H,I,J,q5⟩:=hp
  by_cases e:i=j
  ·subst e
   have:y=b:=by omega
   subst this
   have:=G y hd
   exact .inr (.inr (.inl ⟨hd,by omega⟩))
  ·exact .inl ⟨rfl,i,by omega,H,I,J,q5⟩
 ·rcases d.r2 a M X w Z with ⟨rfl,i,q1,H,I,J⟩ | q
  ·by_cases e:i=j
   ·subst e; omega
   ·exact .inl ⟨rfl,i,by omega,H,I,J⟩
  ·exact .inr q
theorem LeI.put {D:List Nat} {r:Nat->Int} {A:Uk} {R:Nat->Int} {k j b:Nat} (U:Zpi P outs st) (d:LeI P st s D r A R k j) (hj:j<(st k).length) (V:k∈D) (H:∀ a,a∈D->r a<=r k)
  (X:(Zf (st k) j).b<0) (hb:(Zf (st k) j).a=(b:Int)) (hd:b ∉ D):LeI P st s D r (Zbi P A b (Vc (r k+(Zf (st k) j).c))) R k (j+1):=by
 have I:=Zd0 hj
 have hc:=U.c0 k _ I
 have bk:=d.d.bS k V
 have lb:=U.to k _ I X
 obtain ⟨h1,h2,h3,h4⟩:=Zha (x:=r k+(Zf (st k) j).c) (by omega)
 have hI:Xr=1152921504606846976:=rfl
 obtain ⟨p1,Z⟩:=d.d.put (b:=b) (x:=Vc (r k+(Zf (st k) j).c)) (by omega) hd (by
  rcases h4 with q | q
  ·exact .inl q
  ·rcases d.d.wS k V with w | w
   ·left; omega
   ·right; rw [q]; exact .step w ⟨_,I,X,hb,rfl⟩) ⟨h2,h3⟩ (fun a G=>Zvz (by have:=H a G; omega) (by have:=d.d.bS a G; omega) (by omega))
 refine ⟨p1.less (fun _ _ _ h=>h.elim) (fun a G y w he hp=>?_),d.r1,fun a G o' w hw=>?_⟩
 ·obtain ⟨rfl,i,q1,J,M,O,q5⟩:=hp
  by_cases e:i=j
  ·subst e
   have:y=b:=by omega
   subst this
   subst q5
   right
   rcases h4 with q | q
   ·left; omega
   ·rw [q] at Z ⊢
    exact .inr Z
  ·exact .inl ⟨rfl,i,by omega,J,M,O,q5⟩
 ·rcases d.r2 a G o' w hw with ⟨rfl,i,q1,J,M,O⟩ | q
  ·by_cases e:i=j
   ·subst e; omega
   ·exact .inl ⟨rfl,i,by omega,J,M,O⟩
  ·exact .inr q
structure LeO (P:Nat) (st:Nat->List Yp) (s:Nat) (ord:List Nat) (cost:Nat->Int) (A:Uk) (R:Nat->Int):Prop where
 d:Zaz P (AtI s) (EdF st) ord cost A (fun _=>False) (fun _ _ _=>False)
 r1:∀ o,R o<=Xr/\(R o=Xr\/GoF st s o (R o))
 r2:∀ a,a∈ord->∀ o w,OuF st a o w->R o<=cost a+w
theorem LeI.fin {D:List Nat} {r:Nat->Int} {A:Uk} {R:Nat->Int} {k:Nat} (d:LeI P st s D r A R k (st k).length):LeO P st s D r A R :=
 ⟨d.d.less (fun _ _ _ h=>h.elim) (fun a G b w M hp=>by obtain ⟨_,i,H,I,_⟩:=hp; omega),d.r1,fun a G o w J=>by
  rcases d.r2 a G o w J with ⟨_,i,H,I,_⟩ | q
  ·omega
  ·exact q⟩
theorem LeO.pop {D:List Nat} {r:Nat->Int} {A:Uk} {R:Nat->Int} (d:LeO P st s D r A R) {k:Nat} {c:Int} (m:Zrw P A k c) :
  k ∉ D/\LeI P st s (D++[k]) (X1 r k c) (Zeq A k) R k 0/\(∀ a,a∈D++[k]->X1 r k c a<=X1 r k c k)/\X1 r k c k=c/\(0<=c/\c<=Xr):=by
 obtain ⟨h1,X,Z,h4,_⟩:=d.d.pop m
 have O:X1 r k c k=c:=by simp [X1]
 refine ⟨h1,⟨X.less (fun _ _ _ h=>h.elim) (fun a U b w he hp=>?_),d.r1,fun a U o w V=>?_⟩,by rw [O]; exact Z,O,h4⟩
 ·subst hp
  obtain ⟨x,H,I,J,q4⟩:=he
  obtain ⟨i,M,G⟩:=Zp6 H
  exact .inl ⟨rfl,i,by omega,M,by rw [G]; exact I,by rw [G]; exact J,by rw [G]; exact q4⟩
 ·rcases List.mem_append.1 U with q | q
  ·right
   have:a≠k:=fun e=>h1 (e ▸ q)
   unfold X1
   rw [if_neg this]
   exact d.r2 a q o w V
  ·simp at q
   subst q
   obtain ⟨x,H,I,J⟩:=V
   obtain ⟨i,M,G⟩:=Zp6 H
   exact .inl ⟨rfl,i,by omega,M,by rw [G]; exact I,by rw [G]; exact J⟩
theorem LeO.start (hs:s<P) {r:Nat->Int} {R:Nat->Int} (D:∀ o,R o=Xr):LeO P st s [] r (Zbi P (fun _=>none) s 0) R:=by
 have G:Zaz P (AtI s) (EdF st) [] r (fun _=>none) (fun _=>True) (fun _ _ _=>False):=Zaz.start (fun _ _ _=>trivial)
 obtain ⟨H,I⟩:=G.put (b:=s) (x:=0) hs (by simp) (.inr (.init ⟨rfl,rfl⟩)) (by omega) (fun a h=>by simp at h)
 exact ⟨H.less (fun b c h _=>by obtain ⟨rfl,rfl⟩:=h; exact .inr (.inr I)) (fun a h=>by simp at h),fun o=>⟨by rw [D]; exact Xfz _,.inl (D o)⟩,fun a h=>by simp at h⟩
theorem LeO.least (D:Zpi P outs st) (hs:s<P) {G:List Nat} {r:Nat->Int} {A:Uk} {R:Nat->Int} (d:LeO P st s G r A R) (h0:∀ k,k<P->A k=none) (o:Nat):Zas (GoF st s o) (R o):=by
 refine ⟨(d.r1 o).1,fun x hx=>?_,(d.r1 o).2⟩
 obtain ⟨a,y,w,h1,H,rfl⟩:=hx
 have J:=(fun x h=>D.c0 a x h:_)
 obtain ⟨x,I,M,rfl⟩:=id H
 have O:=D.c0 a x I
 have:=(d.r1 o).1
 have U:Xr=1152921504606846976:=rfl
 rcases d.d.walk (Z5g D hs) h1 with q | ⟨q,q'⟩ | ⟨k,z,q,q',_⟩
 ·omega
 ·have:=d.r2 a q o _ H
  omega
 ·rw [h0 k q] at q'; cases q'
end
end Go.Rm


namespace Go.Rm
section
variable {Y:Sys} {h h':Za}
theorem Zj3 {P:Nat->Prop} (h:∃ n,P n):∃ n,P n/\∀ m,P m->n<=m:=by
 obtain ⟨n,r⟩:=h
 induction n using Nat.strongRecOn with
 | _ n D =>
  by_cases c:∃ m,m<n/\P m
  ·obtain ⟨m,G,hp⟩:=c
   exact D m G hp
  ·exact ⟨n,r,fun m hp=>Nat.le_of_not_lt fun H=>c ⟨m,H,hp⟩⟩
def Zv3 (I:Nat->List Value->Za->Prop) (e:List Value) (h:Za):Prop:=∃ m,I m e h
open Classical in
noncomputable def muI (I:Nat->List Value->Za->Prop) (e:List Value) (h:Za):Nat:=if c:∃ m,I m e h then Classical.choose (Zj3 c) else 0
theorem Z73 {I:Nat->List Value->Za->Prop} {e:List Value} {h:Za} (c:Zv3 I e h):I (muI I e h) e h:=by
 have c':∃ m,I m e h:=c
 unfold muI
 rw [dif_pos c']
 exact (Classical.choose_spec (Zj3 c')).1
theorem Z8k {I:Nat->List Value->Za->Prop} {m:Nat} {e:List Value} {h:Za} (c:I m e h):muI I e h<=m:=by
 have c':∃ m,I m e h:=⟨m,c⟩
 unfold muI
 rw [dif_pos c']
 exact (Classical.choose_spec (Zj3 c')).2 m c
theorem Zjr {s:Stmt} {e:List Value} {H:List Value->Za->Prop} {r:Nat->List Value->Za->Prop} {D:List Value->Za->Prop} (I:Nat->List Value->Za->Prop) (G:Nat) (h0:I G e h)
  (hs:∀ m e h,I m e h->s.wp Y (Zwa (Zv3 I) (muI I) m) r D e h):Stmt.wp Y (.loop s) H r D e h :=
 Zj (Zv3 I) (muI I) ⟨G,h0⟩ fun e h c=>hs _ e h (Z73 c)
theorem Zt1 {I:Nat->List Value->Za->Prop} {m m':Nat} {e:List Value} {h:Za} (c:I m' e h) (r:m'<m):Zwa (Zv3 I) (muI I) m e h :=
 ⟨⟨m',c⟩,Nat.lt_of_le_of_lt (Z8k c) r⟩
end
end Go.Rm

namespace Go.Rm
section
variable {Y:Sys} {h h':Za}
theorem Zkb {l:List Bool} {i:Nat} {x:Bool}:(Va l).set i (.bool x)=Va (l.set i x):=by simp [Va,Xfb]
theorem Zsg {l:List Bool} {i j:Nat} {x:Bool} (r:i<l.length):Zdx (l.set i x) j=if j=i then x else Zdx l j:=by
 simp only [Zdx,Xee,Xfs]
 by_cases e:i=j
 ·subst e; simp [r]
 ·simp [e,Ne.symm e]
end
theorem Zox {c:Int} (h0:0<=c) (h1:c<=1152921504606846976):Vc c=c:=by unfold Vc; rw [if_neg (by omega),if_neg (by omega)]
structure Z69 (Y:Sys):Prop where
 New:Y.Has 6 Y6
 Put:Y.Has 8 Y8
 Pop:Y.Has 10 Y10
 key:Y.Has 18 Y18
 up:Y.Has 20 Y20
 down:Y.Has 22 Y22
 ahead:Y.Has 25 Y25
 swap:Y.Has 21 Y21
structure WkG (Y:Sys):Prop where
 arc:Y.Has 211 Y211
 vert:Y.Has 244 Y244
 Arcs:Y.Has 209 Y209
 From:Y.Has 193 Y193
 To:Y.Has 192 Y192
 Weight:Y.Has 233 Y233
 Outs:Y.Has 239 Y239
 Turn:Y.Has 231 Y231
 CI:Y.Has 245 Y245
 T:Zbw Y
theorem Zqu {n:Nat} (h:n<=16384):Zh5 (n:Int)=n:=by unfold Zh5; rw [if_neg (by omega),if_neg (by omega)]; simp
end Go.Rm



namespace Go.Rm
structure InJ where
 Bg:Nat
 Bt:Nat
 Bb:Nat
 Bd:Nat
 Bm:Nat
 Bh:Nat
 Bi:Nat
 db:Nat
 hp:Nat
 p:Nat
 n:Nat
 lo:Nat
 t:Int
end Go.Rm

namespace Go.Rm
theorem Zqw {h:Za} {K:Value->Za->Prop} {b o:Nat} {f:Fn} {x y:Array Value}:Ef.wp h K (.store 1) [.pointer (some ⟨b,o,none⟩),.func f x y]=Xg h b o (.func f x y) K:=Us rfl
end Go.Rm
