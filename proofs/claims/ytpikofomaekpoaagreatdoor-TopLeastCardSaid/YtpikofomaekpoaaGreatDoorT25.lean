import Derived.Test.YtpikofomaekpoaaGreatDoorT23
import Derived.Test.YtpikofomaekpoaaGreatDoorT24
/- Parts. -/
set_option linter.unusedSimpArgs false
set_option linter.unusedVariables false
namespace Go.Rm
def chN (N:Zr) (c:Yz):Zr:=if c.kd=1 then setN N c.a c.w else Zbk N c.a c.i c.o c.w
def Xk (N:Zr) (l:List Yz):Zr:=l.foldl chN N
theorem Zcx {N:Zr} {l:List Yz} {i:Nat} (r:i<l.length):Xk N (l.take (i+1))=chN (Xk N (l.take i)) (Yp l i):=by
 unfold Xk;rw [Xgc r,Xi7];simp [Yp,r]
theorem Z4w {N:Zr} (r:Yl N) {c:Yz}:Yl (chN N c):=by
 unfold chN
 split
 ·exact Z66 r
 exact Z33 r
theorem Zb3 {l:List Yz}:∀ {N:Zr},Yl N->Yl (Xk N l):=by
 induction l with
 | nil=>intro N D;exact D
 | cons t r ih=>intro N D;exact ih (Z4w D)
structure Wb (N M:Zr):Prop where
 vs:M.vs=N.vs
 al:M.as.length=N.as.length
 ab:∀ a,(Zp M.as a).a=(Zp N.as a).a/\(Zp M.as a).b=(Zp N.as a).b
 tl:M.ts.length=N.ts.length
 tb:∀ t,(Zz M.ts t).i=(Zz N.ts t).i/\(Zz M.ts t).o=(Zz N.ts t).o
theorem Wb.refl {N:Zr}:Wb N N:=⟨rfl,rfl,fun _=>⟨rfl,rfl⟩,rfl,fun _=>⟨rfl,rfl⟩⟩
theorem Wb.trans {N M K:Zr} (h:Wb N M) (k:Wb M K):Wb N K :=
 ⟨k.vs.trans h.vs,k.al.trans h.al,fun a=>⟨(k.ab a).1.trans (h.ab a).1,(k.ab a).2.trans (h.ab a).2⟩,k.tl.trans h.tl,fun t=>⟨(k.tb t).1.trans (h.tb t).1,(k.tb t).2.trans (h.tb t).2⟩⟩
theorem Wb.one {N M:Zr} (h:Wb N M) (c:Yz):Ul M c=Ul N c:=by
 unfold Ul Vu;rw [h.al,h.tl,(h.tb _).1,(h.tb _).2]
theorem Zgj {N:Zr} {c:Yz} (h:Ul N c=0) (H:c.kd=1):∃ a:Nat,c.a=a/\a<N.as.length/\Yt c.w=true/\Zig N c.a c.w=Qg/\setN N c.a c.w = { N with as:=N.as.set a ⟨(Zp N.as a).a,(Zp N.as a).b,c.w⟩ }:=by
 unfold Ul at h;rw [if_pos H] at h
 split at h
 ·cases h
 split at h
 ·cases h
 split at h
 ·rename_i h1 r D;have r:Yf N.as.length c.a=true:=by simpa using r
  simp [Yf] at r;obtain ⟨G,e2⟩:=Z63 (N:=N) (a:=c.a.toNat) (w:=c.w) (by omega) D;have e:(c.a.toNat:Int)=c.a:=by omega
  rw [e] at G e2;exact ⟨c.a.toNat,by omega,by omega,D,G,e2⟩
 cases h
theorem Zcq {N:Zr} (R:Yl N) {c:Yz} (h:Ul N c=0) (hk:c.kd≠1):c.kd=2/\∃ t A B o:Nat,c.a=t/\c.i=A/\c.o=B/\t<N.ts.length/\(Zz N.ts t).o=o/\(A:Int)<(Zz N.ts t).i/\B<o/\A * o+B<(Zz N.ts t).cs.length/\Yt c.w=true /\
  Zcv N c.a c.i c.o c.w=Qg/\Zbk N c.a c.i c.o c.w = { N with ts:=N.ts.set t ⟨(Zz N.ts t).i,(Zz N.ts t).o,(Zz N.ts t).cs.set (A * o+B) c.w⟩ }:=by
 unfold Ul at h;rw [if_neg hk] at h
 split at h
 rotate_left
 ·cases h
 rename_i I
 split at h
 ·cases h
 split at h
 rotate_left
 ·cases h
 rename_i h1 U;refine ⟨I,?_⟩;have h1:Vu N c=true:=by simpa using h1
 simp only [Vu,decide_eq_true_eq] at h1;obtain ⟨b1,b2,b3,r,b5,H⟩:=h1;have J:=R.tab c.a.toNat (by omega)
 obtain ⟨V,a2,X,a4,D,a6,a7⟩:=Zg0 J;obtain ⟨z,hz⟩:∃ z:Nat,c.a=z:=⟨c.a.toNat,by omega⟩
 obtain ⟨A,Z⟩:∃ z:Nat,c.i=z:=⟨c.i.toNat,by omega⟩
 obtain ⟨B,hB⟩:∃ z:Nat,c.o=z:=⟨c.o.toNat,by omega⟩
 rw [hz] at b1 b2 r H V X D J;rw [Z] at b3 r;rw [hB] at b5 H;simp only [Xf1] at r H V X D J;obtain ⟨i,M⟩:∃ x:Nat,(Zz N.ts z).i=x:=⟨(Zz N.ts z).i.toNat,by omega⟩
 obtain ⟨o,O⟩:∃ x:Nat,(Zz N.ts z).o=x:=⟨(Zz N.ts z).o.toNat,by omega⟩
 rw [M] at r D;rw [O] at H D;have G:(Zz N.ts z).cs.length=i * o:=by
  have:((Zz N.ts z).cs.length:Int)=((i * o:Nat):Int):=by rw [D];simp
  omega
 obtain ⟨e1,e2⟩:=Z24 (p:=A * o+B) R (t:=z) (by omega) M O (A:=A) (B:=B) (by omega) (by omega) rfl U;have hp:A * o+B<i * o:=by
  have:(A+1) * o<=i * o:=Xgi o (by omega);rw [Xgm] at this;omega
 rw [hz,Z,hB];exact ⟨z,A,B,o,rfl,rfl,rfl,by omega,O,by rw [M];exact r,by omega,by rw [G];exact hp,U,e1,e2⟩
theorem Z91 {N:Zr} (D:Yl N) {c:Yz} (h:Ul N c=0):Wb N (chN N c):=by
 unfold chN
 split
 ·rename_i r;obtain ⟨a,_,G,_,_,e⟩:=Zgj h r;rw [e];exact ⟨rfl,by simp,fun j=>Qz G,rfl,fun _=>⟨rfl,rfl⟩⟩
 rename_i r;obtain ⟨_,t,A,B,o,_,_,_,lt,_,_,_,_,_,_,e⟩:=Zcq D h r;rw [e];refine ⟨rfl,rfl,fun _=>⟨rfl,rfl⟩,by simp,fun j=>?_⟩;simp only [Zhz lt]
 split
 ·rename_i q;subst q;exact ⟨rfl,rfl⟩
 exact ⟨rfl,rfl⟩
theorem Zau {l:List Yz}:∀ {N:Zr},Yl N->(∀ c,c∈l->Ul N c=0)->Wb N (Xk N l):=by
 induction l with
 | nil=>intro N _ _;exact Wb.refl
 | cons c r ih =>
  intro N G D;have d:=Z91 G (D c (by simp));exact d.trans (ih (Z4w G) (fun x hx=>by rw [d.one];exact D x (by simp [hx])))
theorem Z0d {N:Zr} {l:List Yz}:∀ {m k:Nat},(Ug N l k m).2=0->∀ i,k<=i->i<k+m->Q7 N l i=0:=by
 intro m
 induction m with
 | zero=>intro k _ i h1 r;omega
 | succ m ih =>
  intro k h i h1 r;rw [Ug] at h
  split at h
  ·rename_i q;exact absurd h q
  rename_i q;by_cases e:i=k
  ·subst e;exact Xgq q
  exact ih h i (by omega) (by omega)
theorem Ze3 {N:Zr} {l:List Yz} (h:(Wj N l).2=0):l.length<=256/\∀ i,i<l.length->Q7 N l i=0:=by
 unfold Wj at h
 split at h
 ·cases h
 ·exact ⟨by omega,fun i r=>Z0d h i (by omega) (by omega)⟩
theorem Z7 {N:Zr} {l:List Yz} {i:Nat} (h:Q7 N l i=0):Ul N (Yp l i)=0:=by
 unfold Q7 at h
 split at h
 ·assumption
 rename_i q;exact Xgq q
theorem Zdb {N:Zr} {l:List Yz} (h:(Wj N l).2=0) {c:Yz} (hc:c∈l):Ul N c=0:=by
 obtain ⟨k,r,e⟩:=List.mem_iff_getElem.1 hc;have:=Z7 ((Ze3 h).2 k r);rwa [show Yp l k=c by simp [Yp,r,e]] at this
structure Zyg (Y:Sys):Prop where
 C:Zj2 Y
 Apply:Y.Has 305 Y305
 GS:Z8v Y
 GB:Z4p Y
 T:Zco Y
section
variable {Y:Sys} {h h':Zk}
def Xfk (p:Nat) (s:Sl) (N:Zr) (l:List Yz) (S0:Zf) (h0:Zk) (e:Zc) (h':Zk):Prop :=
 ∃ (i:Nat) (S:Zf) (v2 v4 v5 v10 v11 v12 v13 v14:Value),e=[Zh p,s.v,v2,.nilIface,v4,v5,.bool false,s.v,Zg s.n,Zg i,v10,v11,v12,v13,v14]/\i<=l.length/\Xc h' p (Xk N (l.take i)) S/\(∀ b,S b->S0 b\/h0.size<=b)/\(∀ b,S0 b->S b)/\Mod S0 h0 h'
set_option maxHeartbeats 1000000 in
theorem Zta (D:Zyg Y) {p:Nat} {N:Zr} {S:Zf} (g:Xc h p N S) (ok:Yl N) {s:Sl} {l:List Yz} (q:Zcm h s l) (hS:s.nl=false->¬ S s.b) {R:Ze}
  (O:∀ h' v,(Wj N l).2≠0->Ext h h'->W9 Y h.size h' (Wj N l) v->R v h')
  (hr:∀ h' S',(Wj N l).2=0->Mod S h h'->Xc h' p (Xk N l) S'->(∀ b,S' b->S b\/h.size<=b)->R .nilIface h'):Zv Y 305 [Zh p,s.v] h R:=by
 have ll:=q.len;refine .of_has D.Apply rfl ?_;simp [Y305,Xm.wp];refine Zji D.C g ok q ?_;intro h1 v U fv;by_cases M:(Wj N l).2=0;rotate_left
 ·obtain ⟨t,u,hv⟩:=fv.here.iface M;subst hv;simp;exact O h1 _ M U fv
 have hv:=Err.nil fv.here M;subst hv;obtain ⟨hl,hb⟩:=Ze3 M;simp;have z1:=U.size;refine Zt (Xfk p s N l S h1) (fun e _=>l.length-Zy e 9) ⟨0,S,_,_,_,_,_,_,_,_,rfl,by omega,g.ext U,fun b hb=>.inl hb,fun b hb=>hb,Mod.refl _⟩ ?_;rintro e h2 ⟨i,S2,v2,v4,v5,ah,ai,aj,ak,al,rfl,hi,g2,r,G,V⟩;have z2:=V.size;by_cases c:i<l.length;rotate_left
 ·have c':¬ (i:Int)<s.n:=by omega
  obtain rfl:i=l.length:=by omega
  rw [Xhf] at g2;simp [c'];exact hr h2 S2 M ((U.mono fun _ _ h=>h.elim).then V (fun j hj hb=>hb)) g2 (fun b hb=>by rcases r b hb with k | k;exact .inl k;right;omega)
 have c':(i:Int)<s.n:=by omega
 have w1:=Zj (i:=i) (by omega);have ab:s.nl=false:=by
  cases k:s.nl with
  | false=>rfl
  | true=>have:=(q.ok.nil k).1;omega
 have ac:Mod S h h2:=(U.mono fun _ _ h=>h.elim).then V (fun j hj hb=>hb);have rc:=ac.rd (q.val i c) (hS ab);have ad:=Zb3 (l:=l.take i) ok;have dm:=Zau (l:=l.take i) ok (fun x hx=>Zdb M (Xin hx));have H:Ul (Xk N (l.take i)) (Yp l i)=0:=by rw [dm.one];exact Z7 (hb i c)
 have I:=Zcx (N:=N) c;generalize Yp l i=cc at rc H I;obtain ⟨kd,a,ii,o,w⟩:=cc;simp only at rc;simp [c',Zm q.ok,rc];refine Xh (vs:=#[Zg kd,Zg a,Zg ii,Zg o,Zg w]) rfl rfl (by simp) ?_;intro C am gC ae af stC;simp;refine stC _ ?_;intro h4 C4 e4;clear stC ae af;have z4:=e4.size;have g4:=g2.ext e4;simp [C4.hc];by_cases k1:kd=1
 ·obtain ⟨a',ea,an,hw,w0,sn⟩:=Zgj H k1;simp only at ea hw w0 sn;simp [k1];refine Z0g D.GS g4 ?_;intro v6 h6 X Z f6;rw [w0] at f6;have v6n:=Err.nil f6.here rfl;subst v6n;have z6:=X.size;have J:Xk N (l.take (i+1))=setN (Xk N (l.take i)) a w:=by rw [I];simp [chN,k1]
  rw [<-J] at Z;simp [w1];refine ⟨⟨i+1,S2,_,_,_,_,_,_,_,_,rfl,by omega,Z,r,G,?_⟩,by simp [Zy];omega⟩;exact (V.trans (e4.mono fun _ _ h=>h.elim)).then X (fun j hj hb=>by rcases r j hb with k | k;exact k;omega)
 obtain ⟨k2,t,A,B,o',ea,ei,eo,lt,ho,l1,l2,lp,hw,w0,sn⟩:=Zcq ad H k1;simp only at k2 ea ei eo hw w0 sn;simp [k2];refine Zuf D.GB D.T g4 ?_;intro v6 h6 S6 X ag aa Z f6;rw [w0] at f6;have v6n:=Err.nil f6.here rfl;subst v6n;have z6:=X.size;have J:Xk N (l.take (i+1))=Zbk (Xk N (l.take i)) a ii o w:=by rw [I];simp [chN,k1]
 rw [<-J] at Z;simp [w1];refine ⟨⟨i+1,S6,_,_,_,_,_,_,_,_,rfl,by omega,Z,fun b hb=>?_,fun b hb=>aa b (G b hb),?_⟩,by simp [Zy];omega⟩
 ·rcases ag b hb with k | k
  ·exact r b k
  right;omega
 exact (V.trans (e4.mono fun _ _ h=>h.elim)).then X (fun j hj hb=>by rcases r j hb with k | k;exact k;omega)
end
structure Zea (lo up:Nat) (h:Zk) (s1 s2 s3:Sl) (P:List (Tab × Sl)) (M:Zr):Prop where
 o1:Ym h 3 s1 (Ye (M.vs.map Xz))
 o2:Ym h 3 s2 (Ye (M.as.map Xz))
 o3:Ym h 3 s3 (Ye (P.map X5))
 hP:P.map Prod.fst=M.ts
 pw:P.Pairwise (fun p q=>p.2.b≠q.2.b)
 px:∀ p,p∈P->(Ym h 1 p.2 (Zq p.1.cs)/\p.2.nl=false)/\lo<=p.2.b/\p.2.b≠s1.b/\p.2.b≠s2.b/\(s3.nl=false->p.2.b≠s3.b)/\p.2.b<up
 u2:s2.b<up
 f1:lo<=s1.b
 f2:lo<=s2.b
 d12:s1.b≠s2.b
 f3:s3.nl=false->lo<=s3.b/\s3.b≠s1.b/\s3.b≠s2.b
section
variable {Y:Sys} {h h':Zk} {lo up:Nat} {s1 s2 s3:Sl} {P:List (Tab × Sl)} {M:Zr}
theorem Zea.netH (n:Zea lo up h s1 s2 s3 P M):Ut h s1 s2 s3 M:=⟨n.o1.row3,n.o2.row3,n.o3.rowT n.hP (fun q hq=>(n.px q hq).1.1.row64)⟩
theorem Zea.mod {S:Zf} (n:Zea lo up h s1 s2 s3 P M) (m:Mod S h h') (hs:∀ j,S j->j<lo):Zea lo up h' s1 s2 s3 P M :=
 {n with
  o1:=n.o1.mod m (fun _ hb=>by have:=hs _ hb;have:=n.f1;omega)
  o2:=n.o2.mod m (fun _ hb=>by have:=hs _ hb;have:=n.f2;omega)
  o3:=n.o3.mod m (fun r hb=>by have:=hs _ hb;have:=(n.f3 r).1;omega)
  px:=fun p hp=>⟨⟨(n.px p hp).1.1.mod m (fun _ hb=>by have:=hs _ hb;have:=(n.px p hp).2.1;omega),(n.px p hp).1.2⟩,(n.px p hp).2⟩ }
theorem Zea.ext (n:Zea lo up h s1 s2 s3 P M) (m:Ext h h'):Zea lo up h' s1 s2 s3 P M:=n.mod m fun _ h=>h.elim
theorem Zea.setA {K : Value → Zk → Prop} (n : Zea lo up h s1 s2 s3 P M) {a : Nat} {w : Int} (r : a < M.as.length)
    (D : ∀ h', Zea lo up h' s1 s2 s3 P { M with as := M.as.set a ⟨(Zp M.as a).a, (Zp M.as a).b, w⟩ } → Mod (fun j => j = s2.b) h h' → K undef h') : Xt h s2.b (s2.o + (a * 3 + 2)) (Zg w) K := by
  refine stN n.o2 (k := a * 3 + 2) (by rw [Yk]; simp; omega) ?_;intro h' o2 m;rw [(Zyk r).2.2] at o2;refine D h' ?_ m
  exact { o1 := n.o1.mod m (fun _ hb => n.d12 hb)
          o2 := o2
          o3 := n.o3.mod m (fun G hb => (n.f3 G).2.2 hb)
          hP := n.hP
          pw := n.pw
          px := fun p hp => ⟨⟨(n.px p hp).1.1.mod m (fun _ hb => (n.px p hp).2.2.2.1 hb), (n.px p hp).1.2⟩, (n.px p hp).2⟩
          u2 := n.u2
          f1 := n.f1
          f2 := n.f2
          d12 := n.d12
          f3 := n.f3 }
theorem Zea.stC (n : Zea lo up h s1 s2 s3 P M) {t : Nat} (ht : t < M.ts.length) (hp : t < P.length) {K : Value → Zk → Prop} {k : Nat} {w : Int} (J : k < (Zz M.ts t).cs.length)
    (O : ∀ h' P', Zea lo up h' s1 s2 s3 P' { M with ts := M.ts.set t ⟨(Zz M.ts t).i, (Zz M.ts t).o, (Zz M.ts t).cs.set k w⟩ } → Mod (fun j => j = P[t].2.b) h h' → K undef h') : Xt h P[t].2.b (P[t].2.o + k) (Zg w) K := by
  have e : Zz M.ts t = P[t].1 := by
    rw [Zbu ht];simp only [← n.hP, Xgo]
  have hm : P[t] ∈ P := Xgf hp;obtain ⟨⟨o, nl⟩, g2, R, U, V, g6⟩ := n.px _ hm;rw [e] at J O;refine stN o (k := k) (by rw [Vm]; exact J) ?_;intro h' X m;rw [Vn] at X;refine O h' (P.set t (⟨P[t].1.i, P[t].1.o, P[t].1.cs.set k w⟩, P[t].2)) ?_ m;have H : ∀ p, p ∈ P.set t (⟨P[t].1.i, P[t].1.o, P[t].1.cs.set k w⟩, P[t].2) → p = (⟨P[t].1.i, P[t].1.o, P[t].1.cs.set k w⟩, P[t].2) ∨ (p ∈ P ∧ p.2.b ≠ P[t].2.b) := fun p r => by
    obtain ⟨j, D, G⟩ := List.mem_iff_getElem.1 r;rw [Xg3] at G
    split at G
    · exact .inl G.symm
    rename_i q;right;subst G;simp at D;refine ⟨Xgf D, ?_⟩;have := List.pairwise_iff_getElem.1 n.pw;rcases Xf0 j t with k1 | k1
    · exact this j t D hp k1
    exact (this t j hp D (by omega)).symm
  exact { o1 := n.o1.mod m (fun _ hb => R hb.symm)
          o2 := n.o2.mod m (fun _ hb => U hb.symm)
          o3 := by
            have : (P.set t (⟨P[t].1.i, P[t].1.o, P[t].1.cs.set k w⟩, P[t].2)).map X5 = P.map X5 := by
              rw [Xg2];apply Xgb (by simp);intro j a1 a2;rw [Xg3]
              split
              · rename_i q; subst q; simp [X5]
              rfl
            rw [this];exact n.o3.mod m (fun hn hb => V hn hb.symm)
          hP := by rw [Xg2, n.hP]
          pw := by
            rw [Xif];intro i j Z D I;simp at Z D;have q := List.pairwise_iff_getElem.1 n.pw i j Z D I;rw [Xg3, Xg3]
            split <;> split <;> simp_all
          px := fun p r => by
            rcases H p r with rfl | ⟨h1, h2⟩
            · exact ⟨⟨X, nl⟩, g2, R, U, V, g6⟩
            exact ⟨⟨(n.px p h1).1.1.mod m (fun _ hb => h2 hb), (n.px p h1).1.2⟩, (n.px p h1).2⟩
          u2 := n.u2
          f1 := n.f1
          f2 := n.f2
          d12 := n.d12
          f3 := n.f3 }
theorem Zea.at (n:Zea lo up h s1 s2 s3 P M) {t:Nat} (ht:t<M.ts.length):∃ u:Sl,rd h s3.b (s3.o+t * 3) 3=some [Zg (Zz M.ts t).i,Zg (Zz M.ts t).o,u.v]/\Ym h 1 u (Zq (Zz M.ts t).cs)/\lo<=u.b/\u.b<up /\
  ∀ g,Ext h g->∀ (K:Ze) (k:Nat) (w:Int),k<(Zz M.ts t).cs.length->(∀ h' P',Zea lo up h' s1 s2 s3 P' { M with ts:=M.ts.set t ⟨(Zz M.ts t).i,(Zz M.ts t).o,(Zz M.ts t).cs.set k w⟩ }->Mod (fun j=>j=u.b) g h'->K undef h')->Xt g u.b (u.o+k) (Zg w) K:=by
 have O:P.length=M.ts.length:=by have:=congrArg List.length n.hP;simpa using this
 have hp:t<P.length:=by omega
 have e:Zz M.ts t=P[t].1:=by
  rw [Zbu ht];simp only [<-n.hP,Xgo]
 have D:P[t]∈P:=Xgf hp;obtain ⟨⟨o,R⟩,g2,U,V,X,G⟩:=n.px _ D;refine ⟨P[t].2,?_,by rw [e];exact o,g2,G,fun g H K k w I J=>(n.ext H).stC ht hp I J⟩;have g:=n.o3.get3 (i:=t) (by simpa using hp);rw [Xgo] at g;rw [e];refine Zba (l:=[_,_,_]) (fun j v r=>?_)
 match j with
 | 0=>simp at r;subst r;exact g.1
 | 1=>simp at r;subst r;exact g.2.1
 | 2=>simp at r;subst r;exact g.2.2
 | j+3=>simp at r
structure Z8h (Y:Sys):Prop where
 Apply:Y.Has 306 Y306
 Copy:Y.Has 117 Y117
def Xd8 (D C:Nat) (v0 v2:Value) (s s1 s2 s3:Sl) (N:Zr) (l:List Yz) (lo up:Nat) (h0:Zk) (e:Zc) (h':Zk):Prop :=
 ∃ (i:Nat) (P:List (Tab × Sl)) (v6 v7 v8 v9:Value),e=[v0,s.v,v2,Zh C,Zh D,Zg i,v6,v7,v8,v9]/\i<=l.length/\Zea lo up h' s1 s2 s3 P (Xk N (l.take i))/\Xb h' D #[s1.v,s2.v,s3.v]/\Xb h' C #[Zi,Zi,Zi]/\Ext h0 h'
set_option maxHeartbeats 1000000 in
theorem Zr7 (X:Z8h Y) {V Z st s:Sl} {N:Zr} {l:List Yz} (r:Ut h V Z st N) (ok:Yl N) (q:Zcm h s l) (h0:(Wj N l).2=0) {R:Ze}
  (hr:∀ h' s1 s2 s3,Ext h h'->(∀ k,Mod (fun j=>j<h.size) h' k->Ut k s1 s2 s3 (Xk N l))->R (Yy s1 s2 s3) h'):Zv Y 306 [Yy V Z st,s.v] h R:=by
 have ll:=q.len;obtain ⟨hl,hb⟩:=Ze3 h0;refine .of_has X.Apply rfl ?_;simp [Y306,Xm.wp,Yy];refine Zn ?_;intro A hA gA bA eA;simp;refine Zn ?_;intro C hC gC bC eC;have bC:Xb hC C #[Zi,Zi,Zi]:=bC;have xC:=eA.trans eC;have zA:=eA.size;have lC:=bC.lt;simp [Yj (bA.ext eC)];rw [show (Value.agg #[V.v,Z.v,st.v])=Yy V Z st from rfl];refine Zk4 X.Copy (r.ext xC) ok.small ?_;intro h1 s1 s2 s3 P e1 o1 o2 o3 hP pw px f1 f2 d12 f3;have z1:=e1.size;have ah:s2.nl=false:=by
  cases k:s2.nl with
  | false=>rfl
  | true =>
   rcases o2.2 with ⟨e,_⟩ | ⟨e,_⟩
   ·rw [e] at f2;have:Sl.nil.b=0:=rfl;omega
   rw [e] at k;cases k
 have n1:Zea hC.size h1.size h1 s1 s2 s3 P N:=⟨o1,o2,o3,hP,pw,fun p hp=>⟨(px p hp).1,(px p hp).2.1,(px p hp).2.2.1,(px p hp).2.2.2.1,(px p hp).2.2.2.2,(px p hp).1.1.lt (px p hp).1.2⟩,o2.lt ah,f1,f2,d12,f3⟩
 clear o1 o2 o3 hP pw px f1 f2 d12 f3;have x1:=xC.trans e1;simp [Yy];refine Xh (vs:=#[s1.v,s2.v,s3.v]) rfl rfl (by simp) ?_;intro D ar gD ai aj aa;simp;refine aa _ ?_;intro h2 D2 e2;clear aa ai aj;have x2:=x1.trans e2;simp;refine Zt (Xd8 D C (.agg #[V.v,Z.v,st.v]) (Zh A) s s1 s2 s3 N l hC.size h1.size h) (fun e _=>l.length-Zy e 5) ⟨0,P,_,_,_,_,rfl,by omega,n1.ext e2,D2,(bC.ext e1).ext e2,x2⟩ ?_;rintro e h3 ⟨i,P3,v6,v7,v8,v9,rfl,hi,n3,D3,C3,x3⟩;by_cases c:i<l.length;rotate_left
 ·have c':¬ (i:Int)<s.n:=by omega
  obtain rfl:i=l.length:=by omega
  rw [Xhf] at n3;simp [c',Yj D3];refine Zs C3 rfl rfl (by simp) ?_;intro h4 C4 m4;simp;refine Xj rfl C4 rfl ?_;exact hr h4 s1 s2 s3 (Mod.ext x3 m4 (fun j hj=>by omega)) (fun k mk=>((n3.mod m4 (fun j hj=>by omega)).mod mk (fun j hj=>by omega)).netH)
 have c':(i:Int)<s.n:=by omega
 have w1:=Zj (i:=i) (by omega);have rc:=x3.rd (q.val i c) (fun h=>h);have ab:=Zb3 (l:=l.take i) ok;have dm:=Zau (l:=l.take i) ok (fun x hx=>Zdb h0 (Xin hx));have H:Ul (Xk N (l.take i)) (Yp l i)=0:=by rw [dm.one];exact Z7 (hb i c)
 have I:=Zcx (N:=N) c;generalize Yp l i=cc at rc H I;obtain ⟨kd,a,ii,o,w⟩:=cc;simp only at rc;simp [c',Zm q.ok,rc];refine Xh (vs:=#[Zg kd,Zg a,Zg ii,Zg o,Zg w]) rfl rfl (by simp) ?_;intro K au gK ak al stK;simp;refine stK _ ?_;intro h4 K4 e4;clear stK ak al;have G:=n3.ext e4;have D4:=D3.ext e4;have x4:=x3.trans e4;simp [K4.hc];by_cases k1:kd=1
 ·obtain ⟨a',ea,am,hw,w0,sn⟩:=Zgj H k1;simp only at ea hw w0 sn;subst ea;have ln:=G.netH.ra.len;have an:(a':Int)<s2.n:=by omega
  simp [k1,D4.hc,K4.hc,Zm G.o2.ok,an];refine G.setA am ?_;intro h5 n5 m5;have z5:=m5.size;have u2:=G.u2;have f2:=G.f2;have J:Xk N (l.take (i+1))=setN (Xk N (l.take i)) a' w:=by rw [I];simp [chN,k1]
  rw [<-sn,<-J] at n5;simp [w1];exact ⟨⟨i+1,P3,_,_,_,_,rfl,by omega,n5,m5.blk D4 (by omega),m5.blk (C3.ext e4) (by omega),Mod.ext x4 m5 (fun j hj=>by omega)⟩,by simp [Zy];omega⟩
 obtain ⟨k2,t,A',B',o',ea,ei,eo,lt,ho,l1,l2,lp,hw,w0,sn⟩:=Zcq ab H k1;simp only at k2 ea ei eo hw w0 sn;subst ea ei eo;have ln:=G.netH.rt.len;have ao:(t:Int)<s3.n:=by omega
 obtain ⟨u,ac,ou,fu,lu,hst⟩:=G.at lt;obtain ⟨a1,a2,a3,a4,a5,_,_⟩:=Zg0 (ab.tab t lt);obtain ⟨ti,ad⟩:∃ x:Nat,(Zz (Xk N (l.take i)).ts t).i=x:=⟨(Zz (Xk N (l.take i)).ts t).i.toNat,by omega⟩
 rw [ho,ad] at ac;rw [ad] at a1 a2 l1;rw [ho] at a3 a4;simp [k1,D4.hc,K4.hc,Zm G.o3.ok,ao,ac];refine Xh (vs:=#[Zg ti,Zg o',u.v]) rfl rfl (by simp) ?_;intro T av gT ap aq ae;simp;refine ae _ ?_;intro h5 T5 U;clear ae ap aq;have K5:=K4.ext U;have x5:=x4.trans U;have af:=ou.ext' U;have aw:=af.row64.len;have hz:A' * o'<=16 * 16:=Xhe (by omega) (by omega);obtain ⟨z,ag⟩:∃ z:Nat,A' * o'=z:=⟨_,rfl⟩
 have ez:(A':Int) * (o':Int)=z:=by rw [<-ag];simp
 rw [ag] at lp hz sn;have wm:IntKind.i64.wrap ((A':Int) * o')=(z:Int):=by
  rw [ez,Zo (by omega)]
 have wp:IntKind.i64.wrap ((z:Int)+B')=((z+B':Nat):Int):=by
  rw [Zo (by omega)];simp
 have ax:((z+B':Nat):Int)<u.n:=by omega
 have O:=Zm (Y:=Y) (h:=h5) (s:=u) (sz:=1) (k:=.i64) (i:=((z+B':Nat):Int)) af.ok (by omega) (by omega);simp only [Xf1,Xgd] at O;rw [show ((z+B':Nat):Int)=(z:Int)+(B':Int) by simp] at O;simp [T5.hc,K5.hc,wm,wp,O];refine hst h5 U _ (z+B') w lp ?_;intro h6 P6 n6 m6;have J:Xk N (l.take (i+1))=Zbk (Xk N (l.take i)) t A' B' w:=by rw [I];simp [chN,k1]
 rw [<-sn,<-J] at n6;simp [w1];exact ⟨⟨i+1,P6,_,_,_,_,rfl,by omega,n6,m6.blk (D4.ext U) (by omega),m6.blk ((C3.ext e4).ext U) (by omega),Mod.ext x5 m6 (fun j hj=>by omega)⟩,by simp [Zy];omega⟩
end
def chL (c:Yz):Zc:=[Zg c.kd,Zg c.a,Zg c.i,Zg c.o,Zg c.w]
def X6 (l:List Yz):Zc:=l.flatMap chL
theorem Zlo {l:List Yz}:(X6 l).length=l.length * 5:=by
 induction l with
 | nil=>rfl
 | cons a r ih=>simp only [X6,Xic,Xf9,Xg5] at ih ⊢;rw [ih];simp [chL];omega
theorem Zwv {l m:List Yz}:X6 (l++m)=X6 l++X6 m:=by simp [X6]
theorem Zy6 {l:List Yz}:∀ {i k:Nat},i<l.length->k<5->(X6 l)[i * 5+k]? = (chL (Yp l i))[k]? := by
 induction l with
 | nil=>intro i k h;simp at h
 | cons a r ih =>
  intro i k h D;have e:X6 (a::r)=chL a++X6 r:=by simp [X6]
  rw [e]
  cases i with
  | zero=>rw [Xgh (by simp [chL];omega)];simp [Yp]
  | succ i =>
   rw [Xgv (by simp [chL];omega)];have:=ih (i:=i) (k:=k) (by simpa using h) D;rw [show (i+1) * 5+k-(chL a).length=i * 5+k by simp [chL];omega,this];simp [Yp]
section
variable {Y:Sys} {h h':Zk}
theorem Ym.row5 {s:Sl} {l:List Yz} (o:Ym h 5 s (X6 l)):Zcm h s l:=by
 have G:=o.1;rw [Zlo] at G;refine ⟨o.ok,by omega,fun i H=>?_⟩;refine Zba (l:=chL (Yp l i)) (fun j v r=>?_);have D:j<5:=by
  rcases Xf0 j 5 with k | k
  ·exact k
  rw [Xgn (by simp [chL];omega)] at r;cases r
 have:=o.cell (i:=i * 5+j) (v:=v) (by rw [Zy6 H D];exact r);rwa [Xg1]
theorem Zw4 {K:Ze} {z:Array Value} {c:Yz} (r:∀ (b:Nat) (h':Zk),h.size<=b->Xb h' b (chL c).toArray->Ext h h'->K (.slice (some ⟨b,0,none⟩) 1 1) h') :
  Ef.wp h K (.bslice 1 5 z [0]) [.agg #[Zg c.kd,Zg c.a,Zg c.i,Zg c.o,Zg c.w]]:=by
 refine Za0 rfl rfl rfl ?_ (by omega);intro b h' g B e _;exact r b h' g (by simpa [chL] using B) e
theorem Zwp {K:Ze} {bytes b:Nat} {z:Array Value} {s:Sl} {l:List Yz} {c:Yz} (hz:z.size=5) (o:Ym h 5 s (X6 l)) (hb:Xb h b (chL c).toArray) (D:(s.n+1) * bytes<=140737488355328) (G:s.n+1<=9223372036854775807)
  (H:∀ (r:Sl) (h':Zk),Ym h' 5 r (X6 (l++[c]))->r.n=s.n+1->Mod (fun j=>s.nl=false/\j=s.b) h h'->((r.b=s.b/\r.nl=s.nl)\/(h.size<=r.b/\r.nl=false))->K r.v h') :
  Ef.wp h K (.append 5 bytes z) [s.v,.slice (some ⟨b,0,none⟩) 1 1]:=by
 have hs:Vl h 5 1 (.slice (some ⟨b,0,none⟩) 1 1)=some (chL c):=by
  rw [Zfj];have:=Yj hb (n:=5) rfl;simpa using this
 refine Vg o (m:=1) (nw:=chL c) rfl hs rfl (fun v hv=>?_) hz D G ?_
 ·simp only [chL,Xh2,Xid,or_false] at hv;rcases hv with rfl | rfl | rfl | rfl | rfl <;> rfl
 intro r h' I J m' hs';refine H r h' ?_ J m' hs';rw [Zwv];simpa [X6] using I
def Xca (s:Sl) (l:List Yz) (h0:Zk) (e:Zc) (h':Zk):Prop :=
 ∃ (i:Nat) (u:Sl) (v1 v4:Value),e=[s.v,v1,u.v,Zg i,v4]/\i<=l.length/\Ym h' 5 u (X6 (l.take i))/\(u.nl=false->h0.size<=u.b)/\Ext h0 h'
theorem Z08 (H:Y.Has 304 Y304) {s:Sl} {l:List Yz} (q:Zcm h s l) (V:l.length<=1000) {R:Ze}
  (Z:∀ h' u,Ext h h'->Ym h' 5 u (X6 l)->(u.nl=false->h.size<=u.b)->R u.v h'):Zv Y 304 [s.v] h R:=by
 have ll:=q.len;refine .of_has H rfl ?_;simp [Y304,Xm.wp];refine Zt (Xca s l h) (fun e _=>l.length-Zy e 3) ⟨0,Sl.nil,_,_,rfl,by omega,Ym.nil,fun h=>(by cases h),Mod.refl _⟩ ?_;rintro e h1 ⟨i,u,v1,v4,rfl,hi,o1,f1,r⟩;by_cases c:i<l.length;rotate_left
 ·have c':¬ (i:Int)<s.n:=by omega
  obtain rfl:i=l.length:=by omega
  rw [Xhf] at o1;simp [c'];exact Z h1 u r o1 f1
 have c':(i:Int)<s.n:=by omega
 have w1:=Zj (i:=i) (by omega);obtain ⟨a0,a1,a2,a3,a4⟩:=(q.ext' r).cell c;have hb:∀ (g:Zk) (G I J M O:Int),Yo.sem Y g (.build #[Zg 0,Zg 0,Zg 0,Zg 0,Zg 0] [(0,1),(1,1),(2,1),(3,1),(4,1)] [0,1,2,3,4]) [Zg G,Zg I,Zg J,Zg M,Zg O]=some (.agg #[Zg G,Zg I,Zg J,Zg M,Zg O]):=fun g G I J M O=>by simp [Yo.sem,Instr.fill]
 simp [c',Zm q.ok,a0,a1,a2,a3,a4,hb];refine Zw4 ?_;intro b h2 g2 B2 e2;simp;have D:=o1.1;rw [Zlo] at D;simp at D;refine Zwp rfl (o1.ext' e2) B2 (by omega) (by omega) ?_;intro u' h3 o3 n3 m3 U;have z1:=r.size;have z2:=e2.size;simp [w1];have ht:l.take (i+1)=l.take i++[Yp l i]:=by rw [Xgc c];simp [Yp,c]
 rw [<-ht] at o3;refine ⟨⟨i+1,u',_,_,rfl,by omega,o3,fun D=>?_,Mod.ext (r.trans e2) m3 (fun j X=>by have:=f1 X.1;have:=X.2;omega)⟩,by simp [Zy];omega⟩;rcases U with ⟨k1,k2⟩ | ⟨k1,_⟩
 ·rw [k1];exact f1 (by rw [<-k2];exact D)
 omega
structure Zqs (Y:Sys):Prop where
 fresh:Y.Has 324 Y324
 twin:Y.Has 323 Y323
theorem Zg3 (T:Zqs Y) {s:Sl} {l:Zb} (r:Yd h s l) (D:l.length<=1000000) {R:Ze}
  (G:∀ h' u,Ext h h'->Ym h' 1 u (Zq l)->(u.nl=true\/h.size<=u.b)->R u.v h'):Zv Y 324 [s.v] h R:=by
 refine .of_has T.fresh rfl ?_;simp [Y324,Xm.wp];rw [show (Value.slice none 0 0)=Sl.nil.v from rfl];refine Zdv (s0:=Sl.nil) r (by rw [<-r.len];omega) Ym.nil (.inl rfl) (Mod.refl _) ?_;intro u h1 o1 hu H;simp;exact G h1 u H o1 hu
def Xfl (B rb M:Nat) (v0:Value) (s:Sl) (L:Za) (h0:Zk) (e:Zc) (h':Zk):Prop :=
 ∃ (i:Nat) (s1:Sl) (P:List (Zb × Sl)) (v4 v8:Value),e=[v0,Zh B,Zh rb,Zh M,v4,s.v,Zg s.n,Zg i,v8]/\i<=L.length/\Xb h' M #[s1.v]/\Ym h' 1 s1 (P.map fun p=>p.2.v)/\P.map Prod.fst=L.take i/\Zqo h0.size h' s1 P/\(s1.nl=true\/h0.size<=s1.b)/\Mod (fun j=>j=M) h0 h'
theorem Zod (T:Zqs Y) {s:Sl} {L:Za} (r:Qn h s L) (ak:s.n<=1000) (ac:∀ i,i<L.length->(Ya L i).length<=1000000) {R:Ze}
  (hr:∀ h' s',Ext h h'->(∀ g,Mod (fun j=>j<h.size) h' g->Qn g s' L)->R (Q1 s') h'):Zv Y 323 [Q1 s] h R:=by
 refine .of_has T.twin rfl ?_;have lL:=r.len;simp [Y323,Xm.wp,Q1];refine Zn ?_;intro B h1 g1 B1 e1;simp;refine Zn ?_;intro rb h2 g2 R2 e2;have R2:Xb h2 rb #[Zi]:=R2;simp;refine Zn ?_;intro M U X M3 e3;have M3:Xb U M #[Zi]:=M3;have x3:=(e1.trans e2).trans e3;have lM:=M3.lt;have lR:=R2.lt;have lB:=B1.lt;have B3:=(B1.ext e2).ext e3;have R3:=R2.ext e3;simp [B3.hc];refine Zt (Xfl B rb M (.agg #[s.v]) s L U) (fun e _=>L.length-Zy e 7) ⟨0,Sl.nil,[],_,_,rfl,by omega,M3,by simpa using Ym.nil,by simp,by intro q hq;simp at hq,.inl rfl,Mod.refl _⟩ ?_;rintro e h4 ⟨i,O,P,v4,v8,rfl,hi,M4,o4,hP,hT,ag,m4⟩;have B4:=m4.blk B3 (by omega);have R4:=m4.blk R3 (by omega);have x4:Ext h h4:=Mod.ext x3 m4 (fun j hj=>by omega);have n4:=o4.1;simp at n4;have al:P.length=i:=by
  have:=congrArg List.length hP;simp at this;omega
 have G:O.nl=false->U.size<=O.b:=fun D=>ag.resolve_left (by rw [D];simp);have l1:O.nl=false->O.b<h4.size:=fun D=>o4.lt D;have z4:=m4.size;by_cases c:i<s.n;rotate_left
 ·have c':¬ (i:Int)<s.n:=by omega
  simp [c',Yj M4];refine Zs R4 rfl rfl (by simp) ?_;intro h5 R5 m5;simp;refine Xj rfl R5 rfl ?_;rw [Xf7 (by omega)] at hP;refine hr h5 O (Mod.ext x4 m5 (fun j hj=>by omega)) (fun g mg=>?_);refine Ym.rowL ((o4.mod m5 (fun D=>by have:=G D;omega)).mod mg (fun D hb=>by have:=G D;omega)) hP ?_;intro q hq;obtain ⟨a,b⟩:=hT q hq;exact (a.mod m5 (fun D=>by have:=(b D).1;omega)).mod mg (fun D hb=>by have:=(b D).1;omega)
 have c':(i:Int)<s.n:=by omega
 have w1:=Zj (i:=i) (by omega);obtain ⟨u,hu,ru⟩:=r.at (i:=i) c;have am:=ac i (by omega);simp [M4.hc,c',Zm r.ok,hu,x4];refine Zg3 T (ru.ext x4) (by omega) ?_;intro h6 I H o6 ah;have M6:=M4.ext H;simp [M6.hc];refine Xp rfl ?_;intro b7 h7 g7 V7 e7;have M7:=M6.ext e7;have o7:=(o4.ext' H).ext' e7;have z7:=e7.size;simp [M7.hc];refine Wg (bytes:=24) rfl o7 V7 (by omega) (by omega) ?_;intro J h8 o8 an m8 ad;have M8:=m8.blk M7 (fun hq=>by have:=G hq.1;omega);have z6:=H.size;have z8:=m8.size;have V:J.nl=false->U.size<=J.b:=by
  intro hq;rcases ad with ⟨Z,q2⟩ | ⟨Z,q2⟩
  ·rw [Z];exact G (by rw [<-q2];exact hq)
  omega
 simp;refine stB M8 (by simp) ?_;intro h9 M9 m9;have z9:=m9.size;simp [w1];have aa:Ya L i≠[]->I.nl=false/\I.b<h6.size:=fun ab=>by
  obtain ⟨_,hb,_,ae⟩:=o6.blk (i:=0) (by have:=List.length_pos_iff.2 ab;simpa [Zq] using this);exact ⟨ae,o6.lt ae⟩
 have ub:Ya L i≠[]->h4.size<=I.b:=fun ab=>ah.resolve_left (by rw [(aa ab).1];simp);have af:∀ k,k<h6.size->(O.nl=false->k≠O.b)->J.nl=false->k≠J.b:=by
  intro k hk h1 hq;rcases ad with ⟨Z,q2⟩ | ⟨Z,q2⟩
  ·rw [Z];exact h1 (by rw [<-q2];exact hq)
  omega
 have o9:Ym h9 1 J ((P++[(Ya L i,I)]).map fun p=>p.2.v):=by
  have:=o8.mod m9 (fun hq=>by have:=V hq;omega);simpa using this
 have ai:Zqo U.size h9 J (P++[(Ya L i,I)]):=by
  intro q hq;rcases List.mem_append.1 hq with g | g
  ·obtain ⟨g1,X⟩:=hT q g;refine ⟨(((g1.ext H).ext e7).mod m8 (fun D hq=>(X D).2.1 hq.1 hq.2)).mod m9 (fun D=>by have:=(X D).1;omega),fun D=>⟨(X D).1,?_,by have:=(X D).2.2;omega⟩⟩;exact af _ (by have:=(X D).2.2;omega) (X D).2.1
  simp only [Xiv] at g;subst g;refine ⟨((o6.row64.ext e7).mod m8 (fun D hq=>by have:=ub D;have:=l1 hq.1;have:=hq.2;omega)).mod m9 (fun D=>by have:=ub D;omega),fun D=>⟨?_,?_,?_⟩⟩
  ·have:=ub D;show U.size<=I.b;omega
  ·exact af I.b (aa D).2 (fun hq=>by have:=ub D;have:=l1 hq;omega)
  have:=(aa D).2;show I.b<h9.size;omega
 have aj:(P++[(Ya L i,I)]).map Prod.fst=L.take (i+1):=by
  rw [Xgc (by omega),Xgt,hP,Zo7 (by omega)];simp
 have hN:J.nl=true\/U.size<=J.b:=by
  cases hq:J.nl with
  | true=>exact .inl rfl
  | false=>exact .inr (V hq)
 have mm:Mod (fun j=>j=M) U h9:=by
  have Z:Mod (fun j=>j=M\/(O.nl=false/\j=O.b)) h4 h9 :=
   (((H.trans e7).mono (fun _ _ h=>h.elim)).trans (m8.mono (fun _ _ h=>.inr h))).trans (m9.mono (fun _ _ h=>.inl h))
  refine Mod.then m4 Z ?_;intro k hk hq;rcases hq with hq | hq
  ·exact hq
  have:=G hq.1;omega
 refine ⟨⟨i+1,J,P++[(Ya L i,I)],_,_,rfl,by omega,by simpa using M9,o9,aj,ai,hN,mm⟩,by simp [Zy];omega⟩
def entN (N:Zr) (L:Za) (k c:Nat):Nat:=(Zx N L k false c).length * (Zx N L k true c).length
def cellS (N:Zr) (L:Za) (k:Nat):Nat->Nat
 | 0=>0
 | c+1=>cellS N L k c+entN N L k c
def levelS (N:Zr) (L:Za):Nat->Nat
 | 0=>0
 | k+1=>levelS N L k+cellS N L k (Yi L k)
def V8 (N:Zr) (L:Za) (k:Nat):Zb:=(List.range (Yi L k)).map fun c=>((levelS N L k+cellS N L k c:Nat):Int)
theorem Wi {N:Zr} {L:Za} {k c:Nat} {x:Bool}:(Zx N L k x c).length<=N.as.length:=Xgk (Xgz ..) Zks
theorem Zqh {N:Zr} {L:Za} {k c:Nat} (r:Yl N):entN N L k c<=268435456:=by
 have h1:=r.ba;have D:=Wi (N:=N) (L:=L) (k:=k) (c:=c) (x:=false);have G:=Wi (N:=N) (L:=L) (k:=k) (c:=c) (x:=true);exact Xgk (Xhe (Xgk D h1) (Xgk G h1)) (by decide)
theorem Zk5 {N:Zr} {L:Za} {k:Nat} (r:Yl N):∀ {c:Nat},cellS N L k c<=c * 268435456:=by
 intro c
 induction c with
 | zero=>exact Xfy _
 | succ c ih =>
  have:=Zqh (L:=L) (k:=k) (c:=c) r;simp only [cellS];omega
theorem Zar {N:Zr} {L:Za} (r:Yl N) (D:Yv N.vs.length L):∀ {k:Nat},k<=L.length->levelS N L k<=k * 1099511627776:=by
 intro k
 induction k with
 | zero=>intro _;exact Xfy _
 | succ k ih =>
  intro G;have h1:=ih (by omega);have H:=Zk5 (L:=L) (k:=k) (c:=Yi L k) r;have I:=(Xs D (i:=k) (by omega)).2.2.1;simp only [levelS];omega
structure Zj8 (h:Zk) (s:Sl) (N:Zr) (L:Za):Prop where
 ok:s.ok
 len:L.length=s.n
 val:∀ i,i<L.length->∃ u:Sl,hc h s.b (s.o+i)=some u.v/\Yd h u (V8 N L i)
theorem Zj8.ext {h h':Zk} {s:Sl} {N:Zr} {L:Za} (g:Zj8 h s N L) (e:Ext h h'):Zj8 h' s N L :=
 ⟨g.ok,g.len,fun i r=>by
  obtain ⟨u,a,b⟩:=g.val i r;exact ⟨u,e.hc a (fun h=>h),b.ext e⟩⟩
def Vw (h:Zk) (op:Nat) (N:Zr) (L:Za):Prop :=
 ∃ (q f t g st:Sl) (z:Int),Xb h op #[q.v,f.v,t.v,g.v,st.v,Zg z]/\Qn h q L/\Ziu h g N L/\Yd h f (N.as.map fun t=>t.a)/\Yd h t (N.as.map fun t=>t.b)/\Zj8 h st N L/\z=(levelS N L L.length:Nat)
theorem Vw.ext {h h':Zk} {op:Nat} {N:Zr} {L:Za} (v:Vw h op N L) (e:Ext h h'):Vw h' op N L:=by
 obtain ⟨q,f,t,g,r,z,B,D,G,H,rt,I,J⟩:=v;exact ⟨q,f,t,g,r,z,B.ext e,D.ext e,G.ext e,H.ext e,rt.ext e,I.ext e,J⟩
structure Zeb (Y:Sys):Prop where
 New:Y.Has 315 Y315
 Part:Y.Has 318 Y318
 Levels:Y.Has 316 Y316
 Cells:Y.Has 317 Y317
 T:Zqs Y
 GO:Z42 Y
 From:Y.Has 193 Y193
 Arcs:Y.Has 209 Y209
def Xd1 (p B op:Nat) (v1:Value) (q g:Sl) (N:Zr) (h0:Zk) (e:Zc) (h':Zk):Prop :=
 ∃ (i:Nat) (f t:Sl) (v7 v8 v9 v10 v11 v12 v15 v16 v17 v18 v19 v20 v21 v22 v23:Value),e=[Zh p,v1,Zh B,.pointer none,.nilIface,.nilIface,Zh op,v7,v8,v9,v10,v11,v12,Zg N.as.length,Zg i,v15,v16,v17,v18,v19,v20,v21,v22,v23]/\i<=N.as.length /\
  Xb h' op #[q.v,f.v,t.v,g.v,Zi,Zg 0]/\Ym h' 1 f (Zq ((N.as.take i).map fun t=>t.a))/\Ym h' 1 t (Zq ((N.as.take i).map fun t=>t.b))/\(f.nl=false->h0.size<=f.b)/\(t.nl=false->h0.size<=t.b)/\(f.nl=false->t.nl=false->f.b≠t.b)/\Mod (fun j=>j=op) h0 h'
def Xfm (p B op:Nat) (v1:Value) (q f t g:Sl) (N:Zr) (L:Za) (h0:Zk) (e:Zc) (h':Zk):Prop :=
 ∃ (i:Nat) (st:Sl) (cs:Zc) (z:Int) (v7 v8 v9 v10 v11 v12 v13 v14 v15 v19 v20 v21 v22 v23:Value),e=[Zh p,v1,Zh B,.pointer none,.nilIface,.nilIface,Zh op,v7,v8,v9,v10,v11,v12,v13,v14,v15,g.v,Zg g.n,Zg i,v19,v20,v21,v22,v23]/\i<=g.n /\
  Xb h' op #[q.v,f.v,t.v,g.v,st.v,Zg z]/\Ym h' 1 st cs/\cs.length=i/\(st.nl=false->h0.size<=st.b)/\Mod (fun j=>j=op) h0 h'/\z=(levelS N L i:Nat)/\∀ k,k<i->∃ b,cs[k]? = some (Sl.at b (Yi L k) (Yi L k)).v/\h0.size<=b/\(st.nl=false->b≠st.b)/\Ym h' 1 (Sl.at b (Yi L k) (Yi L k)) (Zq (V8 N L k))
def Xfh (p B op W n i:Nat) (v1:Value) (q f t g st u:Sl) (N:Zr) (L:Za) (h0:Zk) (e:Zc) (h':Zk):Prop :=
 ∃ (j:Nat) (vs:Zc) (z:Int) (v7 v10 v11 v12 v13 v14 v15 v19 v23:Value),e=[Zh p,v1,Zh B,.pointer none,.nilIface,.nilIface,Zh op,v7,u.v,.slice (some ⟨W,0,none⟩) n n,v10,v11,v12,v13,v14,v15,g.v,Zg g.n,Zg i,v19,u.v,Zg n,Zg j,v23]/\j<=n /\
  Xb h' op #[q.v,f.v,t.v,g.v,st.v,Zg z]/\Ym h' 1 (Sl.at W n n) vs/\Mod (fun k=>k=op\/k=W) h0 h'/\z=(levelS N L i+cellS N L i j:Nat)/\∀ c,c<j->vs[c]? = some (Zg ((levelS N L i+cellS N L i c:Nat):Int))
set_option maxHeartbeats 2000000 in
theorem Zpd (O:Zeb Y) {p:Nat} {N:Zr} {S:Zf} {L:Za} {s:Sl} (g:Xc h p N S) (r:Qn h s L) (ok:Yl N) (pk:Yv N.vs.length L) {R:Ze}
  (hr:∀ h' op,Ext h h'->h.size<=op->(∀ k,Mod (fun j=>j<h.size) h' k->Vw k op N L)->R (.tuple #[Zh op,.nilIface]) h'):Zv Y 315 [Zh p,Q1 s] h R:=by
 refine .of_has O.New rfl ?_;have lL:=r.len;have bL:=pk.bL;have bN:=pk.bn;have bA:=ok.ba;have am:∀ i,i<L.length->(Ya L i).length<=1000000:=fun i hi=>by
  have:=(Xs pk hi).1;omega
 simp [Y315,Xm.wp,Q1];refine Zn ?_;intro B h1 g1 B1 e1;have z1:=e1.size;simp [Yj B1];refine Zjd O.GO.R.G.Verts (g.ext e1) ?_;simp [Yj B1];refine Zjn O.GO.P (r.ext e1) pk ?_;intro h2 e2;have x2:=e1.trans e2;have B2:=B1.ext e2;have z2:=e2.size;simp [Yj B2];refine Zod O.T (r.ext x2) (by omega) am ?_;intro h3 q e3 fq;have x3:=x2.trans e3;have B3:=B2.ext e3;have z3:=e3.size;simp [Yj B3];rw [show (Value.agg #[s.v])=Q1 s from rfl];refine Zpx O.GO (g.ext x3) (r.ext x3) ok pk ?_;intro h4 Z e4 fg;have x4:=x3.trans e4;have z4:=e4.size;have a5:=(fg h4 (Mod.refl _)).len;have hb:Yo.sem Y h4 (.build #[Zi,Zi,Zi,Zi,Zi,Zg 0] [(0,1),(1,1),(2,1),(3,1),(4,1),(5,1)] [0,3]) [Q1 q,Z.v]=some (.agg #[q.v,Zi,Zi,Z.v,Zi,Zg 0]):=by
  simp [Yo.sem,Instr.fill,Q1,Value.cells,Sl.v]
 simp [hb];refine Zn ?_;intro op h5 g5 O5 e5;have O5:Xb h5 op #[q.v,Zi,Zi,Z.v,Zi,Zg 0]:=O5;have x5:=x4.trans e5;have lO:=O5.lt;simp;refine Zat O.Arcs (g.ext x5) ?_;simp;refine Zt (Xd1 p B op (.agg #[s.v]) q Z N h5) (fun e _=>N.as.length-Zy e 14) ⟨0,Sl.nil,Sl.nil,_,_,_,_,_,_,_,_,_,_,_,_,_,_,_,rfl,by omega,O5,Ym.nil,Ym.nil,fun h=>(by cases h),fun h=>(by cases h),fun h=>(by cases h),Mod.refl _⟩ ?_;rintro e h6 ⟨i,f,t,v7,v8,v9,a6,a7,a8,a9,bb,bc,bd,be,bg,bh,bi,bk,rfl,hi,O6,of,ot,ff,ft,an,m6⟩;have x6:Ext h h6:=Mod.ext x5 m6 (fun j J=>by omega);have z6:=m6.size;have lf:=of.1;have lt:=ot.1;simp at lf lt;by_cases c:i<N.as.length
 ·have c':(i:Int)<N.as.length:=by omega
  have w1:=Zj (i:=i) (by omega);have hv:Yf N.as.length (i:Int)=true:=by simp [Yf];omega
  have aH:Zdg N (i:Int)=(Zp N.as i).a:=by simp [Zdg,hv]
  have aI:toV N (i:Int)=(Zp N.as i).b:=by simp [toV,hv]
  have ao:N.as.take (i+1)=N.as.take i++[Zp N.as i]:=by rw [Xgc c,Wy c]
  simp [c',O6.hc];refine Zap O.From O.GO.R.G.arc (g.ext x6) ?_;rw [aH];simp [O6.hc];refine Xp rfl ?_;intro b7 h7 g7 V7 e7;have O7:=O6.ext e7;have z7:=e7.size;simp [O7.hc];refine Wg rfl (of.ext' e7) V7 (by omega) (by omega) ?_;intro f' h8 aJ bm m8 ap;have z8:=m8.size;have O8:=m8.blk O7 (fun J=>by have:=ff J.1;have:=J.2;omega);have ag:f'.nl=false->h5.size<=f'.b:=fun H=>by
   rcases ap with ⟨k1,k2⟩ | ⟨k1,_⟩
   ·rw [k1];exact ff (by rw [<-k2];exact H)
   omega
  have aK:=(ot.ext' e7).mod m8 (fun H J=>an J.1 H J.2.symm);have d8:f'.nl=false->t.nl=false->f'.b≠t.b:=fun H ht=>by
   rcases ap with ⟨k1,k2⟩ | ⟨k1,_⟩
   ·rw [k1];exact an (by rw [<-k2];exact H) ht
   have:=ot.lt ht;omega
  simp;refine stB O8 (o:=1) (by simp) ?_;intro h9 O9 m9;have O9:Xb h9 op #[q.v,f'.v,t.v,Z.v,Zi,Zg 0]:=O9;have z9:=m9.size;have aq:=aJ.mod m9 (fun H J=>by have:=ag H;omega);have aL:=aK.mod m9 (fun H J=>by have:=ft H;omega);have ar:Mod (fun j=>j=op) h5 h9:=((m6.trans (e7.mono fun _ _ h=>h.elim)).then m8 (fun j J hb=>by have:=ff hb.1;have:=hb.2;omega)).trans m9;have x9:Ext h h9:=Mod.ext x5 ar (fun j J=>by omega);simp [O9.hc];refine Z2 O.GO.R.G.To O.GO.R.G.arc (g.ext x9) ?_;rw [aI];simp [O9.hc];refine Xp rfl ?_;intro bo ah bp V10 I;have O10:=O9.ext I;have aM:=I.size;simp [O10.hc];refine Wg rfl (aL.ext' I) V10 (by omega) (by omega) ?_;intro t' au av a3 M X;have O11:=M.blk O10 (fun J=>by have:=ft J.1;have:=J.2;omega);have ac:t'.nl=false->h5.size<=t'.b:=fun H=>by
   rcases X with ⟨k1,k2⟩ | ⟨k1,_⟩
   ·rw [k1];exact ft (by rw [<-k2];exact H)
   omega
  have aw:=(aq.ext' I).mod M (fun H J=>d8 H J.1 J.2);have aN:f'.nl=false->t'.nl=false->f'.b≠t'.b:=fun H ht=>by
   rcases X with ⟨k1,k2⟩ | ⟨k1,_⟩
   ·rw [k1];exact d8 H (by rw [<-k2];exact ht)
   have:=aq.lt H;omega
  simp;refine stB O11 (o:=2) (by simp) ?_;intro aa O12 U;have O12:Xb aa op #[q.v,f'.v,t'.v,Z.v,Zi,Zg 0]:=O12;simp [w1];have ax:Mod (fun j=>j=op) h5 aa:=((ar.trans (I.mono fun _ _ h=>h.elim)).then M (fun j J hb=>by have:=ft hb.1;have:=hb.2;omega)).trans U;refine ⟨⟨i+1,f',t',_,_,_,_,_,_,_,_,_,_,_,_,_,_,_,rfl,by omega,O12,?_,?_,ag,ac,aN,ax⟩,by simp [Zy];omega⟩
  ·have:=aw.mod U (fun H J=>by have:=ag H;omega);rw [ao];simpa [Zq] using this
  have:=av.mod U (fun H J=>by have:=ac H;omega);rw [ao];simpa [Zq] using this
 have c':¬ (i:Int)<N.as.length:=by omega
 obtain rfl:i=N.as.length:=by omega
 rw [Xhf] at of ot;simp [c',O6.hc];refine Zt (Xfm p B op (.agg #[s.v]) q f t Z N L h6) (fun e _=>Z.n-Zy e 18) ⟨0,Sl.nil,[],0,_,_,_,_,_,_,_,_,_,_,_,_,_,_,rfl,by omega,O6,Ym.nil,rfl,fun h=>(by cases h),Mod.refl _,rfl,fun k hk=>(by omega)⟩ ?_;rintro e h7 ⟨k,st,cs,z,w7,w8,w9,bq,br,bs,bv,bw,bx,bz,bB,bC,bD,bF,rfl,hk,O7,os,ay,fs,m7,az,aA⟩;have z7:=m7.size;have aO:=os.1;simp at aO;have aP:Mod (fun j=>j=op) h5 h7:=m6.trans m7;have ab:Ext h4 h7:=Mod.ext e5 aP (fun j J=>by omega);have x7:Ext h h7:=x4.trans ab;by_cases d:k<Z.n;rotate_left
 ·have d':¬ (k:Int)<Z.n:=by omega
  simp [d'];refine hr h7 op x7 (by omega) (fun y my=>⟨q,f,t,Z,st,z,my.blk O7 (by omega),?_,?_,?_,?_,⟨os.ok,by omega,fun i hi=>?_⟩,by rw [az,show k=L.length by omega]⟩)
  ·exact fq y (((e4.trans ab).mono fun _ _ h=>h.elim).trans (my.mono fun j _ J=>by omega))
  ·exact fg y ((ab.mono fun _ _ h=>h.elim).trans (my.mono fun j _ J=>by omega))
  ·exact ((of.mod m7 (fun H J=>by have:=ff H;omega)).mod my (fun H J=>by have:=ff H;omega)).row64
  ·exact ((ot.mod m7 (fun H J=>by have:=ft H;omega)).mod my (fun H J=>by have:=ft H;omega)).row64
  obtain ⟨b,b1,b2,b3,b4⟩:=aA i (by omega);exact ⟨Sl.at b (Yi L i) (Yi L i),Ym.cell (os.mod my (fun H J=>by have:=fs H;omega)) b1,(b4.mod my (fun H J=>by simp at J;omega)).row64⟩
 have d':(k:Int)<Z.n:=by omega
 have w1:=Zj (i:=k) (by omega);obtain ⟨u,hu,cu⟩:=Zho (fg h4 (Mod.refl _)) d;have aQ:=hu h7 ab;have aR:=(fg h4 (Mod.refl _)).ok;obtain ⟨_,_,gb,_⟩:=Xs pk (i:=k) (by omega);have ai:=cu.len;obtain ⟨n,H⟩:∃ n,Yi L k=n:=⟨_,rfl⟩
 rw [H] at cu ai gb;simp [d',Zm aR,aQ,ai];refine Zfw (n:=n) (by omega) rfl ?_;intro W h8 g8 oW e8 lW;have O8:=O7.ext e8;have bG:=O7.lt;simp [ai];refine Zt (Xfh p B op W n k (.agg #[s.v]) q f t Z st u N L h8) (fun e _=>n-Zy e 22) ⟨0,_,z,_,_,_,_,_,_,_,_,_,rfl,by omega,O8,oW,Mod.refl _,by rw [az];rfl,fun c hc=>(by omega)⟩ ?_;clear O8 oW;rintro e h9 ⟨j,vs,z,y7,bH,bJ,bK,bM,bO,bP,bQ,bR,rfl,J,O9,oW,m9,aj,aB⟩;have z9:=m9.size;have aS:=oW.1;simp at aS;have aT:Ext h4 h9:=Mod.ext (ab.trans e8) m9 (fun j J=>by omega);by_cases b:j<n
 ·have b':(j:Int)<n:=by omega
  have w2:=Zj (i:=j) (by omega);obtain ⟨a1,a2,ha,aU,aV⟩:=Zk7 cu b;have aW:=aU.len;have aX:=aV.len;obtain ⟨_,_,ra⟩:=ha h9 aT;have bu:(j:Int)<u.n:=by omega
  simp [b',Zm cu.ok,bu,ra];refine Xh (vs:=#[a1.v,a2.v]) rfl rfl (by simp) ?_;intro D bT gD aY aZ aC;simp;refine aC _ ?_;intro ah D10 I;clear aC aY aZ;have O10:=O9.ext I;have ad:=oW.ext' I;have aD:=Zm (Y:=Y) (h:=ah) (s:=Sl.at W n n) (sz:=1) (k:=.i64) (i:=(j:Int)) ad.ok (by omega) (by simp;omega);simp at aD;simp [O10.hc,aD];have ae:=fun K v=>stN (v:=v) (K:=K) ad (k:=j) (by omega);simp only [Sl.at_b,Sl.at_o,Xgl] at ae;refine ae _ _ ?_;intro au aE M;have O11:=M.blk O10 (by omega);have D11:=M.blk D10 (by omega);simp [O11.hc,D11.hc];refine stB O11 (o:=5) (by simp) ?_;intro aa O12 U;simp at O12;simp [w2];refine ⟨⟨j+1,_,_,_,_,_,_,_,_,_,_,_,rfl,by omega,O12,aE.mod U (fun _ hb=>by simp at hb;omega),?_,?_,?_⟩,by simp [Zy];omega⟩;rotate_left
  ·have hE:entN N L k j=a1.n * a2.n:=by unfold entN;rw [aW,aX]
   have bE:=Zqh (L:=L) (k:=k) (c:=j) ok;have bS:=Zk5 (L:=L) (k:=k) (c:=j) ok;have bV:=Zar ok pk (k:=k) (by omega);have bj:j * 268435456<=4096 * 268435456:=Xgi _ (by omega);rw [show ((a1.n:Int) * a2.n)=((entN N L k j:Nat):Int) by rw [hE];exact (Int.natCast_mul ..).symm];have w3:IntKind.i64.wrap ((entN N L k j:Nat):Int)=((entN N L k j:Nat):Int):=Zo (by omega);rw [w3,aj,Zo (by omega)];simp only [cellS];omega
  ·intro c hc;rw [Xhp];by_cases q:j=c
   ·subst q;rw [if_pos rfl,if_pos (by omega),aj]
   rw [if_neg q];exact aB c (by omega)
  exact ((m9.trans (I.mono fun _ _ h=>h.elim)).trans (M.mono fun _ _ h=>.inr h)).trans (U.mono fun _ _ h=>.inl h)
 have b':¬ (j:Int)<n:=by omega
 simp [b',O9.hc];refine Xp rfl ?_;intro V ah gV V10 I;have aM:=I.size;have O10:=O9.ext I;have ak:Mod (fun k=>k=op\/k=W) h7 h9:=(e8.mono fun _ _ h=>h.elim).trans m9;have a0:=os.mod ak (fun H hb=>by have:=fs H;have:=os.lt H;omega);simp;refine Wg rfl (a0.ext' I) V10 (by omega) (by omega) ?_;intro al au aF a4 M X;have O11:=M.blk O10 (fun hb=>by have:=fs hb.1;have:=hb.2;omega);have af:al.nl=false->h6.size<=al.b:=fun H=>by
  rcases X with ⟨k1,k2⟩ | ⟨k1,_⟩
  ·rw [k1];exact fs (by rw [<-k2];exact H)
  omega
 simp;refine stB O11 (o:=4) (by simp) ?_;intro aa O12 U;simp at O12;simp [w1];refine ⟨⟨k+1,al,_,z,_,_,_,_,_,_,_,_,_,_,_,_,_,_,rfl,by omega,O12,aF.mod U (fun H hb=>by have:=af H;omega),by simp [ay],af,?_,?_,?_⟩,by simp [Zy];omega⟩;rotate_left
 ·rw [aj,show j=n by omega,<-H]
  rfl
 ·intro k1 bU;by_cases q:k1=k
  ·subst q;rw [H];refine ⟨W,by rw [Xgv (by omega),ay];simp,by omega,fun hs=>?_,?_⟩
   ·rcases X with ⟨k1,k2⟩ | ⟨k1,_⟩
    ·rw [k1];have:=os.lt (by rw [<-k2];exact hs);omega
    omega
   have hv:vs=Zq (V8 N L k1):=by
    refine Xia fun c=>?_;by_cases d:c<n
    ·rw [aB c (by omega)];simp [Zq,V8,H,d]
    rw [Xgn (by omega),Xgn (by simp [V8,H];omega)]
   rw [<-hv];exact ((oW.ext' I).mod M (fun _ hb=>by have:=os.lt hb.1;have:=hb.2;simp at this;omega)).mod U (fun _ hb=>by simp at hb;omega)
  obtain ⟨b,b1,b2,b3,b4⟩:=aA k1 (by omega);have lb:=b4.lt rfl;simp at lb;refine ⟨b,by rw [Xgh (by omega)];exact b1,b2,fun hs=>?_,?_⟩
  ·rcases X with ⟨k1,k2⟩ | ⟨k1,_⟩
   ·rw [k1];exact b3 (by rw [<-k2];exact hs)
   omega
  exact (((b4.mod ak (fun _ hb=>by simp at hb;omega)).ext' I).mod M (fun _ hb=>b3 hb.1 (by have:=hb.2;simpa using this))).mod U (fun _ hb=>by simp at hb;omega)
 have aG:Mod (fun k=>(k=op\/k=W)\/(st.nl=false/\k=st.b)) h7 aa :=
  (((ak.mono fun _ _ h=>.inl h).trans (I.mono fun _ _ h=>h.elim)).trans (M.mono fun _ _ h=>.inr h)).trans (U.mono fun _ _ h=>.inl (.inl h))
 refine m7.then aG (fun j J hb=>?_);rcases hb with (hb | hb) | hb
 ·exact hb
 ·omega
 have:=fs hb.1;have:=hb.2;omega
end
end Go.Rm
