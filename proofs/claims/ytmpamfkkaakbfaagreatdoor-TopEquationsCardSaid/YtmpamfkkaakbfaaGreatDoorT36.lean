import Derived.Test.YtmpamfkkaakbfaaGreatDoorT35
import Derived.Test.YtmpamfkkaakbfaaGreatDoorT32
import Derived.Test.YtmpamfkkaakbfaaGreatDoorT33
import Derived.Test.YtmpamfkkaakbfaaGreatDoorT02
import Derived.Test.YtmpamfkkaakbfaaGreatDoorT27
/- Parts RKids RKids2 -/
set_option linter.unusedSimpArgs false
set_option linter.unusedVariables false
namespace Go.Rm
def UpL (l:List Int):Prop:=∀ i j,i<=j->j<l.length->Zc l i<=Zc l j
theorem Zue {l:List Int}:UpL (Ue l):=by
 have h:=List.pairwise_mergeSort (le:=fun (x y:Int)=>decide (x<=y)) (by intro a b c; simp; omega) (by intro a b; simp; omega) l
 intro i j D r
 rcases Xd8 i j with q | q
 ·rw [Xgm] at h
  have:=h i j (by simp [Ue] at r ⊢; omega) r q
  simp at this
  have G:Zc (Ue l) i=(Ue l)[i]'(by omega):=by simp [Zc,show i<(Ue l).length by omega]
  have e2:Zc (Ue l) j=(Ue l)[j]:=by simp [Zc,r]
  rw [G,e2]
  exact this
 ·have:i=j:=by omega
  subst this
  exact Xfz _
theorem Zrb {l:List Int} {x:Int}:x∈Ue l↔x∈l:=List.mem_mergeSort
structure CpK (l c:List Int) (k m:Nat):Prop where
 len:c.length=l.length
 km:k<=m
 k1:1<=k
 ml:m<=l.length
 ris:∀ i j,i<j->j<k->Zc c i<Zc c j
 mem:∀ x,(∃ i,i<k/\Zc c i=x)↔∃ i,i<m/\Zc l i=x
 last:Zc c (k-1)=Zc l (m-1)
 rest:∀ j,m-1<=j->j<l.length->k<=j->Zc c j=Zc l j
theorem CpK.same {l c:List Int} {k m:Nat} (h:CpK l c k m) (G:m<l.length) (D:Zc l m=Zc l (m-1)):CpK l c k (m+1):=by
 refine ⟨h.len,by have:=h.km; omega,h.k1,G,h.ris,fun x=>?_,by rw [h.last]; simp [D],fun j h1 r H=>h.rest j (by omega) r H⟩
 rw [h.mem]
 constructor
 ·rintro ⟨i,h1,r⟩; exact ⟨i,by omega,r⟩
 ·rintro ⟨i,h1,r⟩
  by_cases q:i=m
  ·subst q
   exact ⟨i-1,by have:=h.k1; have:=h.km; omega,by rw [<-D]; exact r⟩
  ·exact ⟨i,by omega,r⟩
theorem CpK.new {l c:List Int} {k m:Nat} (h:CpK l c k m) (hu:UpL l) (H:m<l.length) (J:Zc l m≠Zc l (m-1)):CpK l (c.set k (Zc l m)) (k+1) (m+1):=by
 have M:=h.km
 have k1:=h.k1
 have len:=h.len
 have hs:∀ j,Zc (c.set k (Zc l m)) j=if j=k then Zc l m else Zc c j:=fun j=>Vr (by omega)
 have D:Zc l (m-1)<Zc l m:=by
  have:=hu (m-1) m (by omega) H
  omega
 refine ⟨by simp [len],by omega,by omega,H,fun i j G O=>?_,fun x=>?_,?_,fun j h1 r I=>?_⟩
 ·rw [hs,hs,if_neg (by omega)]
  by_cases q:j=k
  ·rw [if_pos q]
   by_cases q':i=k-1
   ·rw [q',h.last]; exact D
   ·have:=h.ris i (k-1) (by omega) (by omega)
    rw [h.last] at this
    omega
  ·rw [if_neg q]; exact h.ris i j G (by omega)
 ·constructor
  ·rintro ⟨i,h1,r⟩
   rw [hs] at r
   by_cases q:i=k
   ·rw [if_pos q] at r; exact ⟨m,by omega,r⟩
   ·rw [if_neg q] at r
    obtain ⟨j,I,h4⟩:=(h.mem x).1 ⟨i,by omega,r⟩
    exact ⟨j,by omega,h4⟩
  ·rintro ⟨i,h1,r⟩
   by_cases q:i=m
   ·exact ⟨k,by omega,by rw [hs,if_pos rfl,<-q]; exact r⟩
   ·obtain ⟨j,I,h4⟩:=(h.mem x).2 ⟨i,by omega,r⟩
    exact ⟨j,by omega,by rw [hs,if_neg (by omega)]; exact h4⟩
 ·rw [hs]; simp
 ·rw [hs,if_neg (by omega)]; exact h.rest j (by omega) r (by omega)
theorem CpK.fin {l c:List Int} {k:Nat} (h:CpK l c k l.length):Zbf (c.take k)/\∀ x,x∈c.take k↔x∈l:=by
 have H:=h.km
 have len:=h.len
 have ht:∀ i,i<k->Zc (c.take k) i=Zc c i:=fun i G=>by simp [Zc,Xen,G]
 have lt:(c.take k).length=k:=by simp; omega
 refine ⟨fun i j r I=>?_,fun x=>?_⟩
 ·rw [ht i (by omega),ht j (by omega)]; exact h.ris i j r (by omega)
 ·rw [Zk,Zk,<-h.mem x]
  constructor
  ·rintro ⟨i,h1,D⟩; exact ⟨i,by omega,by rw [<-ht i (by omega)]; exact D⟩
  ·rintro ⟨i,h1,D⟩; exact ⟨i,by omega,by rw [ht i h1]; exact D⟩
section
variable {Y:Sys} {h h':Za}
theorem Zte {K:Value->Za->Prop} {s s2:Sl} {c:List Int} {k:Nat} (o:Yb h 1 s (Zh c)) (D:s.nl=false) (H:k<=s.n) (R:s2 = { s with o:=if s.c=k then s.o else s.o+k * 1,n:=s.n-k,c:=s.c-k })
  (I:∀ h',Yb h' 1 { s with n:=k } (Zh (c.take k))->Mod (fun j=>j=s.b) h h'->K undef h'):Ef.wp h K (.clr 1 #[.int .i64 0]) [s2.v]:=by
 subst R
 have J:=o.take H
 have hl:=o.1
 rcases o.2 with ⟨rfl,_⟩ | ⟨_,M,r,h1,U,G,hb,ha,ht⟩
 ·cases D
 have hv:(Sl.v { s with o:=if s.c=k then s.o else s.o+k * 1,n:=s.n-k,c:=s.c-k }) = .slice (some ⟨s.b,if s.c=k then s.o else s.o+k * 1,none⟩) (s.n-k) (s.c-k):=by
  simp [Sl.v,D,r]
 rw [hv]
 show (if s.n-k=0 then K undef h else _)
 have O:(Zh c).take (k * 1)=Zh (c.take k):=by simp [Zh,Xhe]
 rw [O] at J
 by_cases q:s.n-k=0
 ·rw [if_pos q]
  exact I h J (Mod.refl _)
 ·rw [if_neg q,if_neg (by omega)]
  have z:(Builtin.zeroCells #[.int .i64 0] (s.n-k)).toList=List.replicate (s.n-k) (.int .i64 0):=by
   apply Xem
   ·simp [Builtin.zeroCells]
   ·intro i a b
    simp [Builtin.zeroCells,Nat.mod_one]
  rw [z]
  obtain ⟨h',V,g2,X,_⟩:=Zeu (vs:=List.replicate (s.n-k) (.int .i64 0)) (o:=s.o+k * 1) hb (by simp; omega) (fun v hv=>by rw [List.mem_replicate] at hv; rw [hv.2]; rfl)
  rw [V]
  refine I h' ⟨by have:=o.1; simp at this ⊢; omega,.inr ⟨D,M,r,by simp only []; omega,U,_,g2,by simp; omega,?_⟩⟩ X
  have Z:k<=G.toList.length:=by simp; omega
  rw [M,<-O,<-ht]
  simp [Xgy,Xff H]
  rw [List.take_append_of_le_length (by simp; omega)]
  simp [Xgy]
def Xb9 (s:Sl) (v1:Value) (l:List Int) (h0:Za) (e:List Value) (h':Za):Prop :=
 ∃ (i:Nat) (v3 v4 v5 v6 v7 v8 v9:Value),e=[s.v,v1,.int .i64 i,v3,v4,v5,v6,v7,v8,v9]/\CpK l l i i/\h'=h0
def Xcm (s s2:Sl) (v1:Value) (l:List Int) (i:Nat) (h0:Za) (e:List Value) (h':Za):Prop :=
 ∃ (q k:Nat) (c:List Int) (v5 v6 v7 v8 v9:Value),e=[s.v,v1,.int .i64 k,s2.v,.int .i64 q,v5,v6,v7,v8,v9]/\1<=q/\i<=k/\k<=i+q-1/\CpK l c k (i+q)/\Yb h' 1 s (Zh c)/\Mod (fun j=>j=s.b) h0 h'
theorem Zn3 (H:Y.Has 498 Y498) {s:Sl} {l:List Int} (o:Yb h 1 s (Zh l)) (hn:s.nl=false) (hu:UpL l) (hl:l.length<=1000000) {R:Value->Za->Prop}
  (hr:∀ h' s' c,Yb h' 1 s' (Zh c)->s'.b=s.b->s'.nl=s.nl->Zbf c->(∀ x,x∈c↔x∈l)->Mod (fun j=>j=s.b) h h'->R s'.v h'):Zm Y 498 [s.v] h R:=by
 refine .of_has H rfl ?_
 have ls:=o.row64.len
 simp [Y498,Xa.wp]
 by_cases c0:s.n<2
 ·have O:(s.n:Int)<2:=by omega
  simp [c0,O]
  exact hr h s l o rfl rfl (fun i j aa hj=>by omega) (fun x=>Iff.rfl) (Mod.refl _)
 have k1:CpK l l 1 1:=⟨rfl,by omega,by omega,by omega,fun i j aa hj=>by omega,fun x=>Iff.rfl,rfl,fun j _ _ _=>rfl⟩
 have O:¬ (s.n:Int)<2:=by omega
 simp [c0,O]
 refine Zj (Xb9 s (.slice none 0 0) l h) (fun e _=>l.length-Zo e 2) ⟨1,_,_,_,_,_,_,_,rfl,k1,rfl⟩ ?_
 rintro e h1 ⟨i,v3,v4,v5,v6,v7,v8,v9,rfl,V,rfl⟩
 have i1:=V.k1
 by_cases c:i<l.length
 rotate_left
 ·have c':¬ (i:Int)<s.n:=by omega
  have:i=l.length:=by have:=V.ml; omega
  subst this
  simp [c']
  obtain ⟨r1,r2⟩:=V.fin
  rw [Xef (Xd6 _)] at r1 r2
  exact hr h1 s l o rfl rfl r1 r2 (Mod.refl _)
 have c':(i:Int)<s.n:=by omega
 have c2:i<s.n:=by omega
 have w1:IntKind.i64.wrap ((i:Int)+1)=(i:Int)+1:=Ze (by omega)
 have w2:IntKind.i64.wrap ((i:Int)-1)=((i-1:Nat):Int):=by rw [Ze (by omega)]; omega
 have c3:i-1<s.n:=by omega
 have va:=o.row64.val i c
 have vb:=o.row64.val (i-1) (by omega)
 simp [c',c2,Zb o.ok,va,w2,c3,vb]
 by_cases d:Zc l i=Zc l (i-1)
 rotate_left
 ·have kn:=V.new hu c d
  have Wm:l.set i (Zc l i)=l:=by
   apply Xem (by simp)
   intro j a b
   rw [Xe9]
   split
   ·rename_i e; subst e; simp [Zc,c]
   ·rfl
  rw [Wm] at kn
  simp [d,w1]
  exact ⟨⟨i+1,_,_,_,_,_,_,_,rfl,kn,rfl⟩,by simp [Zo]; omega⟩
 have kd:=V.same c d
 have ae:s.n<=s.c:=o.ok.le
 have r:=Zc5 (Y:=Y) (h:=h1) (s:=s) (sz:=1) (k:=.i64) (j:=(i:Int)) o.ok (by omega) (by omega)
 rw [if_neg (by omega)] at r
 simp only [Xd9,Xej] at r
 generalize I:({ s with o:=s.o+i,n:=s.n-i,c:=s.c-i }:Sl)=s2 at r
 have X:s2.ok:=by rw [<-I]; exact ⟨fun h=>(by rw [show _=s.nl from rfl,hn] at h; cases h),by show s.n-i<=s.c-i; omega,.inl (by rcases o.ok.spot with q | q; exact q; omega)⟩
 have n2:s2.n=s.n-i:=by rw [<-I]
 have b2:s2.b=s.b:=by rw [<-I]
 have o2:s2.o=s.o+i:=by rw [<-I]
 simp [d,r]
 refine Zj (Xcm s s2 (.slice none 0 0) l i h1) (fun e _=>l.length-Zo e 4) ⟨1,i,l,_,_,_,_,_,rfl,by omega,by omega,by omega,kd,o,Mod.refl _⟩ ?_
 rintro e h2 ⟨q,k,cc,w5,w6,w7,w8,w9,rfl,hq,ab,af,M,oo,m2⟩
 have ag:=M.len
 by_cases cq:i+q<l.length
 ·have U:(q:Int)<s2.n:=by omega
  have J:q<s2.n:=by omega
  have w1:IntKind.i64.wrap ((q:Int)+1)=(q:Int)+1:=Ze (by omega)
  have w2:IntKind.i64.wrap ((q:Int)-1)=((q-1:Nat):Int):=by rw [Ze (by omega)]; omega
  have w3:IntKind.i64.wrap ((k:Int)+1)=(k:Int)+1:=Ze (by omega)
  have c4:q-1<s2.n:=by omega
  have va:=oo.row64.val (i+q) (by omega)
  have vb:=oo.row64.val (i+(q-1)) (by omega)
  rw [M.rest (i+q) (by omega) (by omega) (by omega)] at va
  rw [M.rest (i+(q-1)) (by omega) (by omega) (by omega)] at vb
  have Z:hc h2 s2.b (s2.o+q)=some (.int .i64 (Zc l (i+q))):=by rw [b2,o2,Xe4]; exact va
  have ac:hc h2 s2.b (s2.o+(q-1))=some (.int .i64 (Zc l (i+(q-1)))):=by rw [b2,o2,Xe4]; exact vb
  have ei:i+q-1=i+(q-1):=by omega
  simp [U,J,Zb X,Z,w2,c4,ac]
  by_cases dq:Zc l (i+q)=Zc l (i+(q-1))
  ·simp [dq,w1]
   exact ⟨⟨q+1,k,cc,_,_,_,_,_,rfl,by omega,ab,by omega,M.same cq (by rw [ei]; exact dq),oo,m2⟩,by simp [Zo]; omega⟩
  ·have ck:(k:Int)<s.n:=by omega
   have ad:k<s.n:=by omega
   simp [dq,Zb oo.ok,ck,ad,Zb X,J,Z]
   refine Xac oo (k:=k) (by omega) ?_
   intro h3 o3 m3
   simp [w1,w3]
   exact ⟨⟨q+1,k+1,_,_,_,_,_,_,rfl,by omega,by omega,by omega,M.new hu cq (by rw [ei]; exact dq),o3,m2.trans m3⟩,by simp [Zo]; omega⟩
 have U:¬ (q:Int)<s2.n:=by omega
 have J:¬ q<s2.n:=by omega
 have hm:i+q=l.length:=by have:=M.ml; omega
 rw [hm] at M
 obtain ⟨f1,f2⟩:=M.fin
 have D:=Zc5 (Y:=Y) (h:=h2) (s:=s) (sz:=1) (k:=.i64) (j:=(k:Int)) oo.ok (by omega) (by omega)
 simp only [Xd9] at D
 simp [U,J,D]
 refine Zte oo hn (k:=k) (by omega) (by simp) ?_
 intro h3 o3 m3
 have G:=Zbq (Y:=Y) (h:=h3) (s:=s) (sz:=1) (k:=.i64) (j:=(k:Int)) oo.ok (by omega) (by omega)
 simp only [Xd9] at G
 simp [G]
 exact hr h3 _ _ o3 rfl rfl f1 f2 (m2.trans m3)
end
def Z72 (Y:Sys):Prop:=∀ {h:Za} {s:Sl} {l:List Int} {R:Value->Za->Prop},Yb h 1 s (Zh l)->s.nl=false->l.length<=1000000->(∀ h',Yb h' 1 s (Zh (Ue l))->Mod (fun j=>j=s.b) h h'->R (.tuple #[]) h')->Zm Y 497 [s.v] h R
structure Ztl (Y:Sys):Prop where
 P:Zgh Y
 Kids:Y.Has 470 Y470
 OKids:Y.Has 440 Y440
 Compact:Y.Has 498 Y498
 sort:Z72 Y
def Zgt (row below:List Int) (c:Int) (i:Nat):List Int:=((List.range i).filter fun v=>decide (Zc row v=c)).map fun v=>Zc below v
theorem Zt2 {row below:List Int} {c:Int} {i:Nat}:Zgt row below c (i+1)=Zgt row below c i++if Zc row i=c then [Zc below i] else []:=by
 unfold Zgt
 rw [Xf1,Xf9]
 by_cases q:Zc row i=c
 ·simp [q]
 ·simp [q]
theorem Zmf {row below:List Int} {c x:Int} {i:Nat}:x∈Zgt row below c i↔∃ v,v<i/\Zc row v=c/\Zc below v=x:=by
 simp only [Zgt,Xg0,Xfo,Xg5,decide_eq_true_eq]
 exact ⟨fun ⟨v,⟨a,b⟩,c⟩=>⟨v,a,b,c⟩,fun ⟨v,a,b,c⟩=>⟨v,⟨a,b⟩,c⟩⟩
theorem Zyt {row below:List Int} {c:Int} {i:Nat}:(Zgt row below c i).length<=i:=by
 simp only [Zgt,Xea]
 exact Xew (Xe8 ..) (by simp)
section
variable {Y:Sys} {h h':Za}
def KdI (B:Nat) (v0 v1:Value) (u1 u2:Sl) (row below:List Int) (c:Int) (h0:Za) (e:List Value) (h':Za):Prop :=
 ∃ (i:Nat) (t:Sl) (v4 v7 v8 v13 v14:Value),e=[v0,v1,.int .i64 c,.pointer (some ⟨B,0,none⟩),v4,u1.v,t.v,v7,v8,.bool false,u2.v,.int .i64 u2.n,.int .i64 i,v13,v14]/\i<=row.length/\Yb h' 1 t (Zh (Zgt row below c i))/\(t.nl=false->h0.size<=t.b)/\Ext h0 h'
theorem Zxv (K:Ztl Y) {s:Sl} {L:List (List Int)} {n:Nat} (r:Ql h s L) (V:Yx n L) {k c:Nat} (hk:k<L.length) (k1:1<=k) (hc:c<Zw L k) {R:Value->Za->Prop}
  (hr:∀ h' t ks,Ext h h'->Yb h' 1 t (Zh ks)->t.nl=false->h.size<=t.b->Zbf ks->(∀ x,x∈ks↔∃ v,v<n/\Zc (Zq L k) v=c/\Zc (Zq L (k-1)) v=x)->R t.v h'):Zm Y 470 [X0 s,.int .i64 ((k:Int)+1),.int .i64 c] h R:=by
 have bL:=V.bL
 have bn:=V.bn
 have lL:=r.len
 obtain ⟨z1,z2,z3,_⟩:=Uh (V.lv k hk)
 obtain ⟨y1,_,_,_⟩:=Uh (V.lv (k-1) (by omega))
 have lk:lvl L ((k:Int)+1)=Zq L k:=by
  unfold lvl Zfz
  rw [if_pos (by simp; omega)]
  congr 1
  omega
 have X:lvl L (k:Int)=Zq L (k-1):=by
  unfold lvl Zfz
  rw [if_pos (by simp; omega)]
  congr 1
  omega
 refine .of_has K.Kids rfl ?_
 have w1:IntKind.i64.wrap ((k:Int)+1-1)=(k:Int):=by rw [Ze (by omega)]; omega
 have w0:IntKind.i64.wrap (k:Int)=(k:Int):=Ze (by omega)
 have c1:¬ (k:Int)+1<2:=by omega
 simp [Y470,Xa.wp]
 refine Zd ?_
 intro B h1 g1 B1 e1
 replace B1:Ys h1 B #[s.v]:=by simpa [X0] using B1
 simp [c1,Zy B1,w1,w0]
 rw [show (Value.agg #[s.v])=X0 s from rfl]
 refine Zc7 K.P (r.ext e1) (by omega) (by omega) ?_
 intro h2 Z e2 r2
 rw [X] at r2
 have B2:=B1.ext e2
 have x2:=e1.trans e2
 simp [Zy B2]
 rw [show (Value.agg #[s.v])=X0 s from rfl]
 refine Zc7 K.P (r.ext x2) (by omega) (by omega) ?_
 intro h3 u2 e3 I
 rw [lk] at I
 have x3:=x2.trans e3
 have G:=r2.ext (e2.trans e3)
 replace I:=I.ext e3
 have l2:=G.len
 have l3:=I.len
 generalize M:Zq L k=row at *
 generalize ag:Zq L (k-1)=below at *
 simp
 refine Zj (KdI B (X0 s) (.int .i64 ((k:Int)+1)) Z u2 row below c h3) (fun e _=>row.length-Zo e 12) ⟨0,Sl.nil,_,_,_,_,_,rfl,by omega,Yb.nil,fun h=>(by cases h),Mod.refl _⟩ ?_
 rintro e h4 ⟨i,t,v4,v7,v8,ah,ai,rfl,hi,O,nt,J⟩
 have lt:=O.1
 have aj:=Zyt (row:=row) (below:=below) (c:=(c:Int)) (i:=i)
 simp at lt
 by_cases ci:i<row.length
 rotate_left
 ·have H:¬ (i:Int)<u2.n:=by omega
  have U:¬ i<u2.n:=by omega
  have:i=n:=by omega
  subst this
  have aa:Zgt row below (c:Int) i≠[]:=by
   have h0:=z3 c (by unfold Zw at hc; rw [M] at hc; exact hc)
   have:∃ v,v<i/\Zc row v=(c:Int):=by
    refine Xey fun q=>h0 ?_
    unfold Za0
    rw [Xhu,Xhv]
    intro x hx
    obtain ⟨v,a,b⟩:=Zk.1 hx
    simp
    intro e
    exact q ⟨v,by omega,by rw [b]; exact e⟩
   obtain ⟨v,h1,h2⟩:=this
   exact List.ne_nil_of_mem (Zmf.2 ⟨v,h1,h2,rfl⟩)
  have D:t.nl=false:=by
   cases D:t.nl with
   | false=>rfl
   | true=>have:=(O.ok.nil D).1; exact absurd (List.length_eq_zero_iff.1 (by omega)) aa
  have ak:=nt D
  simp [H]
  refine K.sort O D (by omega) ?_
  intro h5 o5 m5
  simp
  refine Zn3 K.Compact o5 D Zue (by simp [Ue]; omega) ?_
  intro h6 t' ks o6 b6 n6 ab ac m6
  simp
  have al:=x3.size
  refine hr h6 t' ks (Mod.ext (x3.trans J) (m5.trans m6) (fun j hj=>by omega)) o6 (by rw [n6]; exact D) (by omega) ab (fun x=>?_)
  rw [ac,Zrb,Zmf]
 have H:(i:Int)<u2.n:=by omega
 have U:i<u2.n:=by omega
 have ad:i<Z.n:=by omega
 have ae:(i:Int)<Z.n:=by omega
 have w2:IntKind.i64.wrap ((i:Int)+1)=(i:Int)+1:=Ze (by omega)
 have v2:=(I.ext J).val i ci
 have v1:=(G.ext J).val i (by omega)
 have hs:=Zt2 (row:=row) (below:=below) (c:=(c:Int)) (i:=i)
 simp [H,U,Zb I.ok,v2]
 by_cases d:Zc row i=(c:Int)
 ·rw [if_pos d] at hs
  simp [d,ae,ad,Zb G.ok,v1]
  refine Xe rfl ?_
  intro b h5 g5 B5 e5
  simp
  refine Wc rfl (O.ext' e5) B5 (by omega) (by omega) ?_
  intro t' h6 o6 n6 m6 af
  simp [w2]
  refine ⟨⟨i+1,t',_,_,_,_,_,rfl,by omega,by rw [hs]; simpa [Zh] using o6,fun hn=>?_,Mod.ext (J.trans e5) m6 (fun j hj=>by have:=nt hj.1; omega)⟩,by simp [Zo]; omega⟩
  rcases af with ⟨a,b⟩ | ⟨a,b⟩
  ·rw [a]; exact nt (by rw [<-b]; exact hn)
  ·have:=J.size; have:=e5.size; omega
 ·rw [if_neg d] at hs
  simp [d,w2]
  exact ⟨⟨i+1,t,_,_,_,_,_,rfl,by omega,by rw [hs]; simpa using O,nt,J⟩,by simp [Zo]; omega⟩
theorem Zlm (K:Ztl Y) {op:Nat} {N:Zg} {L:List (List Int)} (v:Up h op N L) (G:Yx N.vs.length L) {k c:Nat} (H:k<L.length) (k1:1<=k) (hc:c<Zw L k) {R:Value->Za->Prop}
  (I:∀ h' t ks,Ext h h'->Yb h' 1 t (Zh ks)->t.nl=false->h.size<=t.b->Zbf ks->(∀ x,x∈ks↔∃ v,v<N.vs.length/\Zc (Zq L k) v=c/\Zc (Zq L (k-1)) v=x)->R t.v h'):Zm Y 440 [.pointer (some ⟨op,0,none⟩),.int .i64 ((k:Int)+1),.int .i64 c] h R:=by
 obtain ⟨q,f,t,g,M,z,B,J,O,_,_,_,hz⟩:=v
 refine .of_has K.OKids rfl ?_
 have D:rd h op 0 1=some [q.v]:=by
  have:=Zal (h:=h) (b:=op) (l:=[q.v]) (o:=0) (fun i v hv=>by
   cases i with
   | zero=>simp at hv; subst hv; rw [B.hc]; rfl
   | succ i=>simp at hv)
  simpa using this
 simp [Y440,Xa.wp,D]
 rw [show (Value.agg #[q.v])=X0 q from rfl]
 refine Zxv K J G H k1 hc ?_
 intro h' t ks e o n1 n2 r m
 simp
 exact I h' t ks e o n1 n2 r m
end
end Go.Rm
