import Derived.Test.YtnmnlnpbekafmaaGreatDoorT24
import Derived.Test.YtnmnlnpbekafmaaGreatDoorT25
/- Parts. -/
set_option linter.unusedSimpArgs false
set_option linter.unusedVariables false
namespace Go.Rm
def Qs (N:Zq) (c:Yt):Zq:=if c.kd=1 then setN N c.a c.w else Qu N c.a c.i c.o c.w
def Yo (N:Zq) (l:List Yt):Zq:=l.foldl Qs N
theorem Zcm {N:Zq} {l:List Yt} {i:Nat} (r:i<l.length):Yo N (l.take (i+1))=Qs (Yo N (l.take i)) (Yn l i):=by
 unfold Yo;rw [Xey r,Xht];simp [Yn,r]
theorem Zh2 {N:Zq} (r:Ym N) {c:Yt}:Ym (Qs N c):=by
 unfold Qs
 split
 ·exact Z5s r
 exact Z2o r
theorem Zbq {l:List Yt}:∀ {N:Zq},Ym N->Ym (Yo N l):=by
 induction l with
 | nil=>intro N D;exact D
 | cons t r G=>intro N D;exact G (Zh2 D)
structure Xz (N M:Zq):Prop where
 vs:M.vs=N.vs
 al:M.as.length=N.as.length
 ab:∀ a,(Zp M.as a).a=(Zp N.as a).a/\(Zp M.as a).b=(Zp N.as a).b
 tl:M.ts.length=N.ts.length
 tb:∀ t,(Zx M.ts t).i=(Zx N.ts t).i/\(Zx M.ts t).o=(Zx N.ts t).o
theorem Xz.refl {N:Zq}:Xz N N:=⟨rfl,rfl,fun _=>⟨rfl,rfl⟩,rfl,fun _=>⟨rfl,rfl⟩⟩
theorem Xz.trans {N M K:Zq} (h:Xz N M) (k:Xz M K):Xz N K :=
 ⟨k.vs.trans h.vs,k.al.trans h.al,fun a=>⟨(k.ab a).1.trans (h.ab a).1,(k.ab a).2.trans (h.ab a).2⟩,k.tl.trans h.tl,fun t=>⟨(k.tb t).1.trans (h.tb t).1,(k.tb t).2.trans (h.tb t).2⟩⟩
theorem Xz.one {N M:Zq} (h:Xz N M) (c:Yt):Ww M c=Ww N c:=by
 unfold Ww Vm;rw [h.al,h.tl,(h.tb _).1,(h.tb _).2]
theorem W8 {N:Zq} {c:Yt} (h:Ww N c=0) (H:c.kd=1):∃ a:Nat,c.a=a/\a<N.as.length/\Yu c.w=true/\Zhn N c.a c.w=Qa/\setN N c.a c.w = { N with as:=N.as.set a ⟨(Zp N.as a).a,(Zp N.as a).b,c.w⟩ }:=by
 unfold Ww at h;rw [if_pos H] at h
 split at h
 ·cases h
 split at h
 ·cases h
 split at h
 ·rename_i h1 r D;have r:Ye N.as.length c.a=true:=by simpa using r
  simp [Ye] at r;obtain ⟨G,e2⟩:=Z5p (N:=N) (a:=c.a.toNat) (w:=c.w) (by omega) D;have e:(c.a.toNat:Int)=c.a:=by omega
  rw [e] at G e2;exact ⟨c.a.toNat,by omega,by omega,D,G,e2⟩
 cases h
theorem Um {N:Zq} (R:Ym N) {c:Yt} (h:Ww N c=0) (hk:c.kd≠1):c.kd=2/\∃ t A B o:Nat,c.a=t/\c.i=A/\c.o=B/\t<N.ts.length/\(Zx N.ts t).o=o/\(A:Int)<(Zx N.ts t).i/\B<o/\A * o+B<(Zx N.ts t).cs.length/\Yu c.w=true /\
  Zck N c.a c.i c.o c.w=Qa/\Qu N c.a c.i c.o c.w = { N with ts:=N.ts.set t ⟨(Zx N.ts t).i,(Zx N.ts t).o,(Zx N.ts t).cs.set (A * o+B) c.w⟩ }:=by
 unfold Ww at h;rw [if_neg hk] at h
 split at h
 rotate_left
 ·cases h
 rename_i I
 split at h
 ·cases h
 split at h
 rotate_left
 ·cases h
 rename_i h1 U;refine ⟨I,?_⟩;have h1:Vm N c=true:=by simpa using h1
 simp only [Vm,decide_eq_true_eq] at h1;obtain ⟨b1,b2,b3,r,b5,H⟩:=h1;have J:=R.tab c.a.toNat (by omega)
 obtain ⟨V,a2,X,a4,D,a6,a7⟩:=Zhx J;obtain ⟨z,hz⟩:∃ z:Nat,c.a=z:=⟨c.a.toNat,by omega⟩
 obtain ⟨A,Z⟩:∃ z:Nat,c.i=z:=⟨c.i.toNat,by omega⟩
 obtain ⟨B,hB⟩:∃ z:Nat,c.o=z:=⟨c.o.toNat,by omega⟩
 rw [hz] at b1 b2 r H V X D J;rw [Z] at b3 r;rw [hB] at b5 H;simp only [Xeo] at r H V X D J;obtain ⟨i,M⟩:∃ x:Nat,(Zx N.ts z).i=x:=⟨(Zx N.ts z).i.toNat,by omega⟩
 obtain ⟨o,O⟩:∃ x:Nat,(Zx N.ts z).o=x:=⟨(Zx N.ts z).o.toNat,by omega⟩
 rw [M] at r D;rw [O] at H D;have G:(Zx N.ts z).cs.length=i * o:=by
  have:((Zx N.ts z).cs.length:Int)=((i * o:Nat):Int):=by rw [D];simp
  omega
 obtain ⟨e1,e2⟩:=Z1q (p:=A * o+B) R (t:=z) (by omega) M O (A:=A) (B:=B) (by omega) (by omega) rfl U;have hp:A * o+B<i * o:=by
  have:(A+1) * o<=i * o:=Xfi o (by omega);rw [Xe3] at this;omega
 rw [hz,Z,hB];exact ⟨z,A,B,o,rfl,rfl,rfl,by omega,O,by rw [M];exact r,by omega,by rw [G];exact hp,U,e1,e2⟩
theorem Zdt {N:Zq} (D:Ym N) {c:Yt} (h:Ww N c=0):Xz N (Qs N c):=by
 unfold Qs
 split
 ·rename_i r;obtain ⟨a,_,G,_,_,e⟩:=W8 h r;rw [e];exact ⟨rfl,by simp,fun j=>Qx G,rfl,fun _=>⟨rfl,rfl⟩⟩
 rename_i r;obtain ⟨_,t,A,B,o,_,_,_,lt,_,_,_,_,_,_,e⟩:=Um D h r;rw [e];refine ⟨rfl,rfl,fun _=>⟨rfl,rfl⟩,by simp,fun j=>?_⟩;simp only [Zdc lt]
 split
 ·rename_i q;subst q;exact ⟨rfl,rfl⟩
 exact ⟨rfl,rfl⟩
theorem Z6 {l:List Yt}:∀ {N:Zq},Ym N->(∀ c,c∈l->Ww N c=0)->Xz N (Yo N l):=by
 induction l with
 | nil=>intro N _ _;exact Xz.refl
 | cons c r H =>
  intro N G D;have d:=Zdt G (D c (by simp));exact d.trans (H (Zh2 G) (fun x hx=>by rw [d.one];exact D x (by simp [hx])))
theorem Zyt {N:Zq} {l:List Yt}:∀ {m k:Nat},(Vn N l k m).2=0->∀ i,k<=i->i<k+m->X2 N l i=0:=by
 intro m
 induction m with
 | zero=>intro k _ i h1 r;omega
 | succ m D =>
  intro k h i h1 r;rw [Vn] at h
  split at h
  ·rename_i q;exact absurd h q
  rename_i q;by_cases e:i=k
  ·subst e;exact Xfe q
  exact D h i (by omega) (by omega)
theorem Zda {N:Zq} {l:List Yt} (h:(Xj N l).2=0):l.length<=256/\∀ i,i<l.length->X2 N l i=0:=by
 unfold Xj at h
 split at h
 ·cases h
 ·exact ⟨by omega,fun i r=>Zyt h i (by omega) (by omega)⟩
theorem Z5 {N:Zq} {l:List Yt} {i:Nat} (h:X2 N l i=0):Ww N (Yn l i)=0:=by
 unfold X2 at h
 split at h
 ·assumption
 rename_i q;exact Xfe q
theorem Zbm {N:Zq} {l:List Yt} (h:(Xj N l).2=0) {c:Yt} (hc:c∈l):Ww N c=0:=by
 obtain ⟨k,r,e⟩:=List.mem_iff_getElem.1 hc;have:=Z5 ((Zda h).2 k r);rwa [show Yn l k=c by simp [Yn,r,e]] at this
structure Zwv (Y:Sys):Prop where
 C:Zi2 Y
 Apply:Y.Has 305 Y305
 GS:Z7g Y
 GB:Z3c Y
 T:Zce Y
section
variable {Y:Sys} {h h':Zk}
def Xd7 (p:Nat) (s:Sl) (N:Zq) (l:List Yt) (S0:Zf) (h0:Zk) (e:Zc) (h':Zk):Prop :=
 ∃ (i:Nat) (S:Zf) (v2 v4 v5 v10 v11 v12 v13 v14:Value),e=[Zh p,s.v,v2,.nilIface,v4,v5,.bool false,s.v,Zg s.n,Zg i,v10,v11,v12,v13,v14]/\i<=l.length/\Xg h' p (Yo N (l.take i)) S/\(∀ b,S b->S0 b\/h0.size<=b)/\(∀ b,S0 b->S b)/\Mod S0 h0 h'
set_option maxHeartbeats 1000000 in
theorem Zrx (D:Zwv Y) {p:Nat} {N:Zq} {S:Zf} (g:Xg h p N S) (ok:Ym N) {s:Sl} {l:List Yt} (q:U9 h s l) (hS:s.nl=false->¬ S s.b) {R:Ze}
  (M:∀ h' v,(Xj N l).2≠0->Ext h h'->X6 Y h.size h' (Xj N l) v->R v h')
  (hr:∀ h' S',(Xj N l).2=0->Mod S h h'->Xg h' p (Yo N l) S'->(∀ b,S' b->S b\/h.size<=b)->R .nilIface h'):Zv Y 305 [Zh p,s.v] h R:=by
 have ll:=q.len;refine .of_has D.Apply rfl ?_;simp [Y305,Xn.wp];refine Zij D.C g ok q ?_;intro h1 v O fv;by_cases J:(Xj N l).2=0;rotate_left
 ·obtain ⟨t,u,hv⟩:=fv.here.iface J;subst hv;simp;exact M h1 _ J O fv
 have hv:=Err.nil fv.here J;subst hv;obtain ⟨hl,hb⟩:=Zda J;simp;have z1:=O.size;refine Zs (Xd7 p s N l S h1) (fun e _=>l.length-Zy e 9) ⟨0,S,_,_,_,_,_,_,_,_,rfl,by omega,g.ext O,fun b hb=>.inl hb,fun b hb=>hb,Mod.refl _⟩ ?_;rintro e h2 ⟨i,S2,v2,v4,v5,ah,ai,aj,ak,al,rfl,hi,g2,r,G,U⟩;have z2:=U.size;by_cases c:i<l.length;rotate_left
 ·have c':¬ (i:Int)<s.n:=by omega
  obtain rfl:i=l.length:=by omega
  rw [Xf0] at g2;simp [c'];exact hr h2 S2 J ((O.mono fun _ _ h=>h.elim).then U (fun j hj hb=>hb)) g2 (fun b hb=>by rcases r b hb with k | k;exact .inl k;right;omega)
 have c':(i:Int)<s.n:=by omega
 have w1:=Zj (i:=i) (by omega);have ab:s.nl=false:=by
  cases k:s.nl with
  | false=>rfl
  | true=>have:=(q.ok.nil k).1;omega
 have ac:Mod S h h2:=(O.mono fun _ _ h=>h.elim).then U (fun j hj hb=>hb);have rc:=ac.rd (q.val i c) (hS ab);have ad:=Zbq (l:=l.take i) ok;have dm:=Z6 (l:=l.take i) ok (fun x hx=>Zbm J (Xha hx));have one:Ww (Yo N (l.take i)) (Yn l i)=0:=by rw [dm.one];exact Z5 (hb i c)
 have H:=Zcm (N:=N) c;generalize Yn l i=cc at rc one H;obtain ⟨kd,a,ii,o,w⟩:=cc;simp only at rc;simp [c',Zm q.ok,rc];refine Xd (vs:=#[Zg kd,Zg a,Zg ii,Zg o,Zg w]) rfl rfl (by simp) ?_;intro C am gC ae af stC;simp;refine stC _ ?_;intro h4 C4 e4;clear stC ae af;have z4:=e4.size;have g4:=g2.ext e4;simp [C4.hc];by_cases k1:kd=1
 ·obtain ⟨a',ea,an,hw,w0,sn⟩:=W8 one k1;simp only at ea hw w0 sn;simp [k1];refine Zyw D.GS g4 ?_;intro v6 h6 V X Z;rw [w0] at Z;have v6n:=Err.nil Z.here rfl;subst v6n;have z6:=V.size;have I:Yo N (l.take (i+1))=setN (Yo N (l.take i)) a w:=by rw [H];simp [Qs,k1]
  rw [<-I] at X;simp [w1];refine ⟨⟨i+1,S2,_,_,_,_,_,_,_,_,rfl,by omega,X,r,G,?_⟩,by simp [Zy];omega⟩;exact (U.trans (e4.mono fun _ _ h=>h.elim)).then V (fun j hj hb=>by rcases r j hb with k | k;exact k;omega)
 obtain ⟨k2,t,A,B,o',ea,ei,eo,lt,ho,l1,l2,lp,hw,w0,sn⟩:=Um ad one k1;simp only at k2 ea ei eo hw w0 sn;simp [k2];refine Zs3 D.GB D.T g4 ?_;intro v6 h6 S6 V ag aa X Z;rw [w0] at Z;have v6n:=Err.nil Z.here rfl;subst v6n;have z6:=V.size;have I:Yo N (l.take (i+1))=Qu (Yo N (l.take i)) a ii o w:=by rw [H];simp [Qs,k1]
 rw [<-I] at X;simp [w1];refine ⟨⟨i+1,S6,_,_,_,_,_,_,_,_,rfl,by omega,X,fun b hb=>?_,fun b hb=>aa b (G b hb),?_⟩,by simp [Zy];omega⟩
 ·rcases ag b hb with k | k
  ·exact r b k
  right;omega
 exact (U.trans (e4.mono fun _ _ h=>h.elim)).then V (fun j hj hb=>by rcases r j hb with k | k;exact k;omega)
end
structure Zdy (lo up:Nat) (h:Zk) (s1 s2 s3:Sl) (P:List (Tab × Sl)) (M:Zq):Prop where
 o1:Yl h 3 s1 (Yb (M.vs.map Xv))
 o2:Yl h 3 s2 (Yb (M.as.map Xv))
 o3:Yl h 3 s3 (Yb (P.map Qv))
 hP:P.map Prod.fst=M.ts
 pw:P.Pairwise (fun p q=>p.2.b≠q.2.b)
 px:∀ p,p∈P->(Yl h 1 p.2 (Zt p.1.cs)/\p.2.nl=false)/\lo<=p.2.b/\p.2.b≠s1.b/\p.2.b≠s2.b/\(s3.nl=false->p.2.b≠s3.b)/\p.2.b<up
 u2:s2.b<up
 f1:lo<=s1.b
 f2:lo<=s2.b
 d12:s1.b≠s2.b
 f3:s3.nl=false->lo<=s3.b/\s3.b≠s1.b/\s3.b≠s2.b
section
variable {Y:Sys} {h h':Zk} {lo up:Nat} {s1 s2 s3:Sl} {P:List (Tab × Sl)} {M:Zq}
theorem Zdy.netH (n:Zdy lo up h s1 s2 s3 P M):Ul h s1 s2 s3 M:=⟨n.o1.row3,n.o2.row3,n.o3.rowT n.hP (fun q hq=>(n.px q hq).1.1.row64)⟩
theorem Zdy.mod {S:Zf} (n:Zdy lo up h s1 s2 s3 P M) (m:Mod S h h') (hs:∀ j,S j->j<lo):Zdy lo up h' s1 s2 s3 P M :=
 {n with
  o1:=n.o1.mod m (fun _ hb=>by have:=hs _ hb;have:=n.f1;omega)
  o2:=n.o2.mod m (fun _ hb=>by have:=hs _ hb;have:=n.f2;omega)
  o3:=n.o3.mod m (fun r hb=>by have:=hs _ hb;have:=(n.f3 r).1;omega)
  px:=fun p hp=>⟨⟨(n.px p hp).1.1.mod m (fun _ hb=>by have:=hs _ hb;have:=(n.px p hp).2.1;omega),(n.px p hp).1.2⟩,(n.px p hp).2⟩ }
theorem Zdy.ext (n:Zdy lo up h s1 s2 s3 P M) (m:Ext h h'):Zdy lo up h' s1 s2 s3 P M:=n.mod m fun _ h=>h.elim
theorem Zdy.setA {K : Value → Zk → Prop} (n : Zdy lo up h s1 s2 s3 P M) {a : Nat} {w : Int} (r : a < M.as.length)
    (D : ∀ h', Zdy lo up h' s1 s2 s3 P { M with as := M.as.set a ⟨(Zp M.as a).a, (Zp M.as a).b, w⟩ } → Mod (fun j => j = s2.b) h h' → K undef h') : Xo h s2.b (s2.o + (a * 3 + 2)) (Zg w) K := by
  refine stN n.o2 (k := a * 3 + 2) (by rw [Yg]; simp; omega) ?_;intro h' o2 m;rw [(Zwz r).2.2] at o2;refine D h' ?_ m
  exact { o1 := n.o1.mod m (fun _ hb => n.d12 hb)
          o2 := o2
          o3 := n.o3.mod m (fun G hb => (n.f3 G).2.2 hb)
          hP := n.hP
          pw := n.pw
          px := fun p hp => ⟨⟨(n.px p hp).1.1.mod m (fun _ hb => (n.px p hp).2.2.2.1 hb), (n.px p hp).1.2⟩, (n.px p hp).2⟩
          u2 := n.u2
          f1 := n.f1
          f2 := n.f2
          d12 := n.d12
          f3 := n.f3 }
theorem Zdy.stC (n : Zdy lo up h s1 s2 s3 P M) {t : Nat} (ht : t < M.ts.length) (hp : t < P.length) {K : Value → Zk → Prop} {k : Nat} {w : Int} (J : k < (Zx M.ts t).cs.length)
    (O : ∀ h' P', Zdy lo up h' s1 s2 s3 P' { M with ts := M.ts.set t ⟨(Zx M.ts t).i, (Zx M.ts t).o, (Zx M.ts t).cs.set k w⟩ } → Mod (fun j => j = P[t].2.b) h h' → K undef h') : Xo h P[t].2.b (P[t].2.o + k) (Zg w) K := by
  have e : Zx M.ts t = P[t].1 := by
    rw [W5 ht];simp only [← n.hP, Xe7]
  have hm : P[t] ∈ P := Xe4 hp;obtain ⟨⟨o, nl⟩, g2, R, U, V, g6⟩ := n.px _ hm;rw [e] at J O;refine stN o (k := k) (by rw [Vr]; exact J) ?_;intro h' X m;rw [V8] at X;refine O h' (P.set t (⟨P[t].1.i, P[t].1.o, P[t].1.cs.set k w⟩, P[t].2)) ?_ m;have H : ∀ p, p ∈ P.set t (⟨P[t].1.i, P[t].1.o, P[t].1.cs.set k w⟩, P[t].2) → p = (⟨P[t].1.i, P[t].1.o, P[t].1.cs.set k w⟩, P[t].2) ∨ (p ∈ P ∧ p.2.b ≠ P[t].2.b) := fun p r => by
    obtain ⟨j, D, G⟩ := List.mem_iff_getElem.1 r;rw [Xfm] at G
    split at G
    · exact .inl G.symm
    rename_i q;right;subst G;simp at D;refine ⟨Xe4 D, ?_⟩;have := List.pairwise_iff_getElem.1 n.pw;rcases Xen j t with k1 | k1
    · exact this j t D hp k1
    exact (this t j hp D (by omega)).symm
  exact { o1 := n.o1.mod m (fun _ hb => R hb.symm)
          o2 := n.o2.mod m (fun _ hb => U hb.symm)
          o3 := by
            have : (P.set t (⟨P[t].1.i, P[t].1.o, P[t].1.cs.set k w⟩, P[t].2)).map Qv = P.map Qv := by
              rw [Xfn];apply Xew (by simp);intro j a1 a2;rw [Xfm]
              split
              · rename_i q; subst q; simp [Qv]
              rfl
            rw [this];exact n.o3.mod m (fun hn hb => V hn hb.symm)
          hP := by rw [Xfn, n.hP]
          pw := by
            rw [Xg2];intro i j Z D I;simp at Z D;have q := List.pairwise_iff_getElem.1 n.pw i j Z D I;rw [Xfm, Xfm]
            split <;> split <;> simp_all
          px := fun p r => by
            rcases H p r with rfl | ⟨h1, h2⟩
            · exact ⟨⟨X, nl⟩, g2, R, U, V, g6⟩
            exact ⟨⟨(n.px p h1).1.1.mod m (fun _ hb => h2 hb), (n.px p h1).1.2⟩, (n.px p h1).2⟩
          u2 := n.u2
          f1 := n.f1
          f2 := n.f2
          d12 := n.d12
          f3 := n.f3 }
theorem Zdy.at (n:Zdy lo up h s1 s2 s3 P M) {t:Nat} (ht:t<M.ts.length):∃ u:Sl,rd h s3.b (s3.o+t * 3) 3=some [Zg (Zx M.ts t).i,Zg (Zx M.ts t).o,u.v]/\Yl h 1 u (Zt (Zx M.ts t).cs)/\lo<=u.b/\u.b<up /\
  ∀ g,Ext h g->∀ (K:Ze) (k:Nat) (w:Int),k<(Zx M.ts t).cs.length->(∀ h' P',Zdy lo up h' s1 s2 s3 P' { M with ts:=M.ts.set t ⟨(Zx M.ts t).i,(Zx M.ts t).o,(Zx M.ts t).cs.set k w⟩ }->Mod (fun j=>j=u.b) g h'->K undef h')->Xo g u.b (u.o+k) (Zg w) K:=by
 have O:P.length=M.ts.length:=by have:=congrArg List.length n.hP;simpa using this
 have hp:t<P.length:=by omega
 have e:Zx M.ts t=P[t].1:=by
  rw [W5 ht];simp only [<-n.hP,Xe7]
 have D:P[t]∈P:=Xe4 hp;obtain ⟨⟨o,R⟩,g2,U,V,X,G⟩:=n.px _ D;refine ⟨P[t].2,?_,by rw [e];exact o,g2,G,fun g H K k w I J=>(n.ext H).stC ht hp I J⟩;have g:=n.o3.get3 (i:=t) (by simpa using hp);rw [Xe7] at g;rw [e];refine Zad (l:=[_,_,_]) (fun j v r=>?_)
 match j with
 | 0=>simp at r;subst r;exact g.1
 | 1=>simp at r;subst r;exact g.2.1
 | 2=>simp at r;subst r;exact g.2.2
 | j+3=>simp at r
structure Z62 (Y:Sys):Prop where
 Apply:Y.Has 306 Y306
 Copy:Y.Has 117 Y117
def Xct (D C:Nat) (v0 v2:Value) (s s1 s2 s3:Sl) (N:Zq) (l:List Yt) (lo up:Nat) (h0:Zk) (e:Zc) (h':Zk):Prop :=
 ∃ (i:Nat) (P:List (Tab × Sl)) (v6 v7 v8 v9:Value),e=[v0,s.v,v2,Zh C,Zh D,Zg i,v6,v7,v8,v9]/\i<=l.length/\Zdy lo up h' s1 s2 s3 P (Yo N (l.take i))/\Xa h' D #[s1.v,s2.v,s3.v]/\Xa h' C #[Zi,Zi,Zi]/\Ext h0 h'
set_option maxHeartbeats 1000000 in
theorem Zqx (X:Z62 Y) {U V Z s:Sl} {N:Zq} {l:List Yt} (r:Ul h U V Z N) (ok:Ym N) (q:U9 h s l) (h0:(Xj N l).2=0) {R:Ze}
  (hr:∀ h' s1 s2 s3,Ext h h'->(∀ k,Mod (fun j=>j<h.size) h' k->Ul k s1 s2 s3 (Yo N l))->R (Yx s1 s2 s3) h'):Zv Y 306 [Yx U V Z,s.v] h R:=by
 have ll:=q.len;obtain ⟨hl,hb⟩:=Zda h0;refine .of_has X.Apply rfl ?_;simp [Y306,Xn.wp,Yx];refine Zn ?_;intro A hA gA bA eA;simp;refine Zn ?_;intro C hC gC bC eC;have bC:Xa hC C #[Zi,Zi,Zi]:=bC;have xC:=eA.trans eC;have zA:=eA.size;have lC:=bC.lt;simp [Yj (bA.ext eC)];rw [show (Value.agg #[U.v,V.v,Z.v])=Yx U V Z from rfl];refine Zj1 X.Copy (r.ext xC) ok.small ?_;intro h1 s1 s2 s3 P e1 o1 o2 o3 hP pw px f1 f2 d12 f3;have z1:=e1.size;have ah:s2.nl=false:=by
  cases k:s2.nl with
  | false=>rfl
  | true =>
   rcases o2.2 with ⟨e,_⟩ | ⟨e,_⟩
   ·rw [e] at f2;have:Sl.nil.b=0:=rfl;omega
   rw [e] at k;cases k
 have n1:Zdy hC.size h1.size h1 s1 s2 s3 P N:=⟨o1,o2,o3,hP,pw,fun p hp=>⟨(px p hp).1,(px p hp).2.1,(px p hp).2.2.1,(px p hp).2.2.2.1,(px p hp).2.2.2.2,(px p hp).1.1.lt (px p hp).1.2⟩,o2.lt ah,f1,f2,d12,f3⟩
 clear o1 o2 o3 hP pw px f1 f2 d12 f3;have x1:=xC.trans e1;simp [Yx];refine Xd (vs:=#[s1.v,s2.v,s3.v]) rfl rfl (by simp) ?_;intro D ar gD ai aj aa;simp;refine aa _ ?_;intro h2 D2 e2;clear aa ai aj;have x2:=x1.trans e2;simp;refine Zs (Xct D C (.agg #[U.v,V.v,Z.v]) (Zh A) s s1 s2 s3 N l hC.size h1.size h) (fun e _=>l.length-Zy e 5) ⟨0,P,_,_,_,_,rfl,by omega,n1.ext e2,D2,(bC.ext e1).ext e2,x2⟩ ?_;rintro e h3 ⟨i,P3,v6,v7,v8,v9,rfl,hi,n3,D3,C3,x3⟩;by_cases c:i<l.length;rotate_left
 ·have c':¬ (i:Int)<s.n:=by omega
  obtain rfl:i=l.length:=by omega
  rw [Xf0] at n3;simp [c',Yj D3];refine Zr C3 rfl rfl (by simp) ?_;intro h4 C4 m4;simp;refine Xc rfl C4 rfl ?_;exact hr h4 s1 s2 s3 (Mod.ext x3 m4 (fun j hj=>by omega)) (fun k mk=>((n3.mod m4 (fun j hj=>by omega)).mod mk (fun j hj=>by omega)).netH)
 have c':(i:Int)<s.n:=by omega
 have w1:=Zj (i:=i) (by omega);have rc:=x3.rd (q.val i c) (fun h=>h);have ab:=Zbq (l:=l.take i) ok;have dm:=Z6 (l:=l.take i) ok (fun x hx=>Zbm h0 (Xha hx));have one:Ww (Yo N (l.take i)) (Yn l i)=0:=by rw [dm.one];exact Z5 (hb i c)
 have H:=Zcm (N:=N) c;generalize Yn l i=cc at rc one H;obtain ⟨kd,a,ii,o,w⟩:=cc;simp only at rc;simp [c',Zm q.ok,rc];refine Xd (vs:=#[Zg kd,Zg a,Zg ii,Zg o,Zg w]) rfl rfl (by simp) ?_;intro K au gK ak al stK;simp;refine stK _ ?_;intro h4 K4 e4;clear stK ak al;have G:=n3.ext e4;have D4:=D3.ext e4;have x4:=x3.trans e4;simp [K4.hc];by_cases k1:kd=1
 ·obtain ⟨a',ea,am,hw,w0,sn⟩:=W8 one k1;simp only at ea hw w0 sn;subst ea;have ln:=G.netH.ra.len;have an:(a':Int)<s2.n:=by omega
  simp [k1,D4.hc,K4.hc,Zm G.o2.ok,an];refine G.setA am ?_;intro h5 n5 m5;have z5:=m5.size;have u2:=G.u2;have f2:=G.f2;have I:Yo N (l.take (i+1))=setN (Yo N (l.take i)) a' w:=by rw [H];simp [Qs,k1]
  rw [<-sn,<-I] at n5;simp [w1];exact ⟨⟨i+1,P3,_,_,_,_,rfl,by omega,n5,m5.blk D4 (by omega),m5.blk (C3.ext e4) (by omega),Mod.ext x4 m5 (fun j hj=>by omega)⟩,by simp [Zy];omega⟩
 obtain ⟨k2,t,A',B',o',ea,ei,eo,lt,ho,l1,l2,lp,hw,w0,sn⟩:=Um ab one k1;simp only at k2 ea ei eo hw w0 sn;subst ea ei eo;have ln:=G.netH.rt.len;have ao:(t:Int)<s3.n:=by omega
 obtain ⟨u,ac,ou,fu,lu,hst⟩:=G.at lt;obtain ⟨a1,a2,a3,a4,a5,_,_⟩:=Zhx (ab.tab t lt);obtain ⟨ti,ad⟩:∃ x:Nat,(Zx (Yo N (l.take i)).ts t).i=x:=⟨(Zx (Yo N (l.take i)).ts t).i.toNat,by omega⟩
 rw [ho,ad] at ac;rw [ad] at a1 a2 l1;rw [ho] at a3 a4;simp [k1,D4.hc,K4.hc,Zm G.o3.ok,ao,ac];refine Xd (vs:=#[Zg ti,Zg o',u.v]) rfl rfl (by simp) ?_;intro T av gT ap aq ae;simp;refine ae _ ?_;intro h5 T5 O;clear ae ap aq;have K5:=K4.ext O;have x5:=x4.trans O;have af:=ou.ext' O;have aw:=af.row64.len;have hz:A' * o'<=16 * 16:=Xhg (by omega) (by omega);obtain ⟨z,ag⟩:∃ z:Nat,A' * o'=z:=⟨_,rfl⟩
 have ez:(A':Int) * (o':Int)=z:=by rw [<-ag];simp
 rw [ag] at lp hz sn;have wm:IntKind.i64.wrap ((A':Int) * o')=(z:Int):=by
  rw [ez,Zo (by omega)]
 have wp:IntKind.i64.wrap ((z:Int)+B')=((z+B':Nat):Int):=by
  rw [Zo (by omega)];simp
 have ax:((z+B':Nat):Int)<u.n:=by omega
 have J:=Zm (Y:=Y) (h:=h5) (s:=u) (sz:=1) (k:=.i64) (i:=((z+B':Nat):Int)) af.ok (by omega) (by omega);simp only [Xeo,Xe1] at J;rw [show ((z+B':Nat):Int)=(z:Int)+(B':Int) by simp] at J;simp [T5.hc,K5.hc,wm,wp,J];refine hst h5 O _ (z+B') w lp ?_;intro h6 P6 n6 m6;have I:Yo N (l.take (i+1))=Qu (Yo N (l.take i)) t A' B' w:=by rw [H];simp [Qs,k1]
 rw [<-sn,<-I] at n6;simp [w1];exact ⟨⟨i+1,P6,_,_,_,_,rfl,by omega,n6,m6.blk (D4.ext O) (by omega),m6.blk ((C3.ext e4).ext O) (by omega),Mod.ext x5 m6 (fun j hj=>by omega)⟩,by simp [Zy];omega⟩
end
def chL (c:Yt):Zc:=[Zg c.kd,Zg c.a,Zg c.i,Zg c.o,Zg c.w]
def Vz (l:List Yt):Zc:=l.flatMap chL
theorem Zai {l:List Yt}:(Vz l).length=l.length * 5:=by
 induction l with
 | nil=>rfl
 | cons a r D=>simp only [Vz,Xg0,Xex,Xfp] at D ⊢;rw [D];simp [chL];omega
theorem Zlc {l m:List Yt}:Vz (l++m)=Vz l++Vz m:=by simp [Vz]
theorem Zmj {l:List Yt}:∀ {i k:Nat},i<l.length->k<5->(Vz l)[i * 5+k]? = (chL (Yn l i))[k]? := by
 induction l with
 | nil=>intro i k h;simp at h
 | cons a r D =>
  intro i k h G;have e:Vz (a::r)=chL a++Vz r:=by simp [Vz]
  rw [e]
  cases i with
  | zero=>rw [Xe2 (by simp [chL];omega)];simp [Yn]
  | succ i =>
   rw [Xfa (by simp [chL];omega)];have:=D (i:=i) (k:=k) (by simpa using h) G;rw [show (i+1) * 5+k-(chL a).length=i * 5+k by simp [chL];omega,this];simp [Yn]
section
variable {Y:Sys} {h h':Zk}
theorem Yl.row5 {s:Sl} {l:List Yt} (o:Yl h 5 s (Vz l)):U9 h s l:=by
 have G:=o.1;rw [Zai] at G;refine ⟨o.ok,by omega,fun i H=>?_⟩;refine Zad (l:=chL (Yn l i)) (fun j v r=>?_);have D:j<5:=by
  rcases Xen j 5 with k | k
  ·exact k
  rw [Xe8 (by simp [chL];omega)] at r;cases r
 have:=o.cell (i:=i * 5+j) (v:=v) (by rw [Zmj H D];exact r);rwa [Xfl]
theorem Zvn {K:Ze} {z:Array Value} {c:Yt} (r:∀ (b:Nat) (h':Zk),h.size<=b->Xa h' b (chL c).toArray->Ext h h'->K (.slice (some ⟨b,0,none⟩) 1 1) h') :
  Ef.wp h K (.bslice 1 5 z [0]) [.agg #[Zg c.kd,Zg c.a,Zg c.i,Zg c.o,Zg c.w]]:=by
 refine Ui rfl rfl rfl ?_ (by omega);intro b h' g B e _;exact r b h' g (by simpa [chL] using B) e
theorem Zva {K:Ze} {bytes b:Nat} {z:Array Value} {s:Sl} {l:List Yt} {c:Yt} (hz:z.size=5) (o:Yl h 5 s (Vz l)) (hb:Xa h b (chL c).toArray) (D:(s.n+1) * bytes<=140737488355328) (G:s.n+1<=9223372036854775807)
  (H:∀ (r:Sl) (h':Zk),Yl h' 5 r (Vz (l++[c]))->r.n=s.n+1->Mod (fun j=>s.nl=false/\j=s.b) h h'->((r.b=s.b/\r.nl=s.nl)\/(h.size<=r.b/\r.nl=false))->K r.v h') :
  Ef.wp h K (.append 5 bytes z) [s.v,.slice (some ⟨b,0,none⟩) 1 1]:=by
 have hs:Wv h 5 1 (.slice (some ⟨b,0,none⟩) 1 1)=some (chL c):=by
  rw [Ze1];have:=Yj hb (n:=5) rfl;simpa using this
 refine Vp o (m:=1) (nw:=chL c) rfl hs rfl (fun v hv=>?_) hz D G ?_
 ·simp only [chL,Xgg,Xgq,or_false] at hv;rcases hv with rfl | rfl | rfl | rfl | rfl <;> rfl
 intro r h' I J m' hs';refine H r h' ?_ J m' hs';rw [Zlc];simpa [Vz] using I
def Xar (s:Sl) (l:List Yt) (h0:Zk) (e:Zc) (h':Zk):Prop :=
 ∃ (i:Nat) (u:Sl) (v1 v4:Value),e=[s.v,v1,u.v,Zg i,v4]/\i<=l.length/\Yl h' 5 u (Vz (l.take i))/\(u.nl=false->h0.size<=u.b)/\Ext h0 h'
theorem Zzr (H:Y.Has 304 Y304) {s:Sl} {l:List Yt} (q:U9 h s l) (V:l.length<=1000) {R:Ze}
  (Z:∀ h' u,Ext h h'->Yl h' 5 u (Vz l)->(u.nl=false->h.size<=u.b)->R u.v h'):Zv Y 304 [s.v] h R:=by
 have ll:=q.len;refine .of_has H rfl ?_;simp [Y304,Xn.wp];refine Zs (Xar s l h) (fun e _=>l.length-Zy e 3) ⟨0,Sl.nil,_,_,rfl,by omega,Yl.nil,fun h=>(by cases h),Mod.refl _⟩ ?_;rintro e h1 ⟨i,u,v1,v4,rfl,hi,o1,f1,r⟩;by_cases c:i<l.length;rotate_left
 ·have c':¬ (i:Int)<s.n:=by omega
  obtain rfl:i=l.length:=by omega
  rw [Xf0] at o1;simp [c'];exact Z h1 u r o1 f1
 have c':(i:Int)<s.n:=by omega
 have w1:=Zj (i:=i) (by omega);obtain ⟨a0,a1,a2,a3,a4⟩:=(q.ext' r).cell c;have hb:∀ (g:Zk) (G I J M O:Int),Ys.sem Y g (.build #[Zg 0,Zg 0,Zg 0,Zg 0,Zg 0] [(0,1),(1,1),(2,1),(3,1),(4,1)] [0,1,2,3,4]) [Zg G,Zg I,Zg J,Zg M,Zg O]=some (.agg #[Zg G,Zg I,Zg J,Zg M,Zg O]):=fun g G I J M O=>by simp [Ys.sem,Instr.fill]
 simp [c',Zm q.ok,a0,a1,a2,a3,a4,hb];refine Zvn ?_;intro b h2 g2 B2 e2;simp;have D:=o1.1;rw [Zai] at D;simp at D;refine Zva rfl (o1.ext' e2) B2 (by omega) (by omega) ?_;intro u' h3 o3 n3 m3 U;have z1:=r.size;have z2:=e2.size;simp [w1];have ht:l.take (i+1)=l.take i++[Yn l i]:=by rw [Xey c];simp [Yn,c]
 rw [<-ht] at o3;refine ⟨⟨i+1,u',_,_,rfl,by omega,o3,fun D=>?_,Mod.ext (r.trans e2) m3 (fun j X=>by have:=f1 X.1;have:=X.2;omega)⟩,by simp [Zy];omega⟩;rcases U with ⟨k1,k2⟩ | ⟨k1,_⟩
 ·rw [k1];exact f1 (by rw [<-k2];exact D)
 omega
structure Zpk (Y:Sys):Prop where
 fresh:Y.Has 324 Y324
 twin:Y.Has 323 Y323
theorem Zf9 (T:Zpk Y) {s:Sl} {l:Zb} (r:Yf h s l) (D:l.length<=1000000) {R:Ze}
  (G:∀ h' u,Ext h h'->Yl h' 1 u (Zt l)->(u.nl=true\/h.size<=u.b)->R u.v h'):Zv Y 324 [s.v] h R:=by
 refine .of_has T.fresh rfl ?_;simp [Y324,Xn.wp];rw [show (Value.slice none 0 0)=Sl.nil.v from rfl];refine Zdk (s0:=Sl.nil) r (by rw [<-r.len];omega) Yl.nil (.inl rfl) (Mod.refl _) ?_;intro u h1 o1 hu H;simp;exact G h1 u H o1 hu
def Xd8 (B rb M:Nat) (v0:Value) (s:Sl) (L:Za) (h0:Zk) (e:Zc) (h':Zk):Prop :=
 ∃ (i:Nat) (s1:Sl) (P:List (Zb × Sl)) (v4 v8:Value),e=[v0,Zh B,Zh rb,Zh M,v4,s.v,Zg s.n,Zg i,v8]/\i<=L.length/\Xa h' M #[s1.v]/\Yl h' 1 s1 (P.map fun p=>p.2.v)/\P.map Prod.fst=L.take i/\Zpg h0.size h' s1 P/\(s1.nl=true\/h0.size<=s1.b)/\Mod (fun j=>j=M) h0 h'
theorem Zna (T:Zpk Y) {s:Sl} {L:Za} (r:Qw h s L) (ak:s.n<=1000) (ac:∀ i,i<L.length->(Zz L i).length<=1000000) {R:Ze}
  (hr:∀ h' s',Ext h h'->(∀ g,Mod (fun j=>j<h.size) h' g->Qw g s' L)->R (U5 s') h'):Zv Y 323 [U5 s] h R:=by
 refine .of_has T.twin rfl ?_;have lL:=r.len;simp [Y323,Xn.wp,U5];refine Zn ?_;intro B h1 g1 B1 e1;simp;refine Zn ?_;intro rb h2 g2 R2 e2;have R2:Xa h2 rb #[Zi]:=R2;simp;refine Zn ?_;intro M U X M3 e3;have M3:Xa U M #[Zi]:=M3;have x3:=(e1.trans e2).trans e3;have lM:=M3.lt;have lR:=R2.lt;have lB:=B1.lt;have B3:=(B1.ext e2).ext e3;have R3:=R2.ext e3;simp [B3.hc];refine Zs (Xd8 B rb M (.agg #[s.v]) s L U) (fun e _=>L.length-Zy e 7) ⟨0,Sl.nil,[],_,_,rfl,by omega,M3,by simpa using Yl.nil,by simp,by intro q hq;simp at hq,.inl rfl,Mod.refl _⟩ ?_;rintro e h4 ⟨i,O,P,v4,v8,rfl,hi,M4,o4,hP,hT,ag,m4⟩;have B4:=m4.blk B3 (by omega);have R4:=m4.blk R3 (by omega);have x4:Ext h h4:=Mod.ext x3 m4 (fun j hj=>by omega);have n4:=o4.1;simp at n4;have al:P.length=i:=by
  have:=congrArg List.length hP;simp at this;omega
 have G:O.nl=false->U.size<=O.b:=fun D=>ag.resolve_left (by rw [D];simp);have l1:O.nl=false->O.b<h4.size:=fun D=>o4.lt D;have z4:=m4.size;by_cases c:i<s.n;rotate_left
 ·have c':¬ (i:Int)<s.n:=by omega
  simp [c',Yj M4];refine Zr R4 rfl rfl (by simp) ?_;intro h5 R5 m5;simp;refine Xc rfl R5 rfl ?_;rw [Xeu (by omega)] at hP;refine hr h5 O (Mod.ext x4 m5 (fun j hj=>by omega)) (fun g mg=>?_);refine Yl.rowL ((o4.mod m5 (fun D=>by have:=G D;omega)).mod mg (fun D hb=>by have:=G D;omega)) hP ?_;intro q hq;obtain ⟨a,b⟩:=hT q hq;exact (a.mod m5 (fun D=>by have:=(b D).1;omega)).mod mg (fun D hb=>by have:=(b D).1;omega)
 have c':(i:Int)<s.n:=by omega
 have w1:=Zj (i:=i) (by omega);obtain ⟨u,hu,ru⟩:=r.at (i:=i) c;have am:=ac i (by omega);simp [M4.hc,c',Zm r.ok,hu,x4];refine Zf9 T (ru.ext x4) (by omega) ?_;intro h6 I H o6 ah;have M6:=M4.ext H;simp [M6.hc];refine Xm rfl ?_;intro b7 h7 g7 V7 e7;have M7:=M6.ext e7;have o7:=(o4.ext' H).ext' e7;have z7:=e7.size;simp [M7.hc];refine Wj (bytes:=24) rfl o7 V7 (by omega) (by omega) ?_;intro J h8 o8 an m8 ad;have M8:=m8.blk M7 (fun hq=>by have:=G hq.1;omega);have z6:=H.size;have z8:=m8.size;have V:J.nl=false->U.size<=J.b:=by
  intro hq;rcases ad with ⟨Z,q2⟩ | ⟨Z,q2⟩
  ·rw [Z];exact G (by rw [<-q2];exact hq)
  omega
 simp;refine stB M8 (by simp) ?_;intro h9 M9 m9;have z9:=m9.size;simp [w1];have aa:Zz L i≠[]->I.nl=false/\I.b<h6.size:=fun ab=>by
  obtain ⟨_,hb,_,ae⟩:=o6.blk (i:=0) (by have:=List.length_pos_iff.2 ab;simpa [Zt] using this);exact ⟨ae,o6.lt ae⟩
 have ub:Zz L i≠[]->h4.size<=I.b:=fun ab=>ah.resolve_left (by rw [(aa ab).1];simp);have af:∀ k,k<h6.size->(O.nl=false->k≠O.b)->J.nl=false->k≠J.b:=by
  intro k hk h1 hq;rcases ad with ⟨Z,q2⟩ | ⟨Z,q2⟩
  ·rw [Z];exact h1 (by rw [<-q2];exact hq)
  omega
 have o9:Yl h9 1 J ((P++[(Zz L i,I)]).map fun p=>p.2.v):=by
  have:=o8.mod m9 (fun hq=>by have:=V hq;omega);simpa using this
 have ai:Zpg U.size h9 J (P++[(Zz L i,I)]):=by
  intro q hq;rcases List.mem_append.1 hq with g | g
  ·obtain ⟨g1,X⟩:=hT q g;refine ⟨(((g1.ext H).ext e7).mod m8 (fun D hq=>(X D).2.1 hq.1 hq.2)).mod m9 (fun D=>by have:=(X D).1;omega),fun D=>⟨(X D).1,?_,by have:=(X D).2.2;omega⟩⟩;exact af _ (by have:=(X D).2.2;omega) (X D).2.1
  simp only [Xg1] at g;subst g;refine ⟨((o6.row64.ext e7).mod m8 (fun D hq=>by have:=ub D;have:=l1 hq.1;have:=hq.2;omega)).mod m9 (fun D=>by have:=ub D;omega),fun D=>⟨?_,?_,?_⟩⟩
  ·have:=ub D;show U.size<=I.b;omega
  ·exact af I.b (aa D).2 (fun hq=>by have:=ub D;have:=l1 hq;omega)
  have:=(aa D).2;show I.b<h9.size;omega
 have aj:(P++[(Zz L i,I)]).map Prod.fst=L.take (i+1):=by
  rw [Xey (by omega),Xe9,hP,Zny (by omega)];simp
 have hN:J.nl=true\/U.size<=J.b:=by
  cases hq:J.nl with
  | true=>exact .inl rfl
  | false=>exact .inr (V hq)
 have mm:Mod (fun j=>j=M) U h9:=by
  have Z:Mod (fun j=>j=M\/(O.nl=false/\j=O.b)) h4 h9 :=
   (((H.trans e7).mono (fun _ _ h=>h.elim)).trans (m8.mono (fun _ _ h=>.inr h))).trans (m9.mono (fun _ _ h=>.inl h))
  refine Mod.then m4 Z ?_;intro k hk hq;rcases hq with hq | hq
  ·exact hq
  have:=G hq.1;omega
 refine ⟨⟨i+1,J,P++[(Zz L i,I)],_,_,rfl,by omega,by simpa using M9,o9,aj,ai,hN,mm⟩,by simp [Zy];omega⟩
def entN (N:Zq) (L:Za) (k c:Nat):Nat:=(Zw N L k false c).length * (Zw N L k true c).length
def cellS (N:Zq) (L:Za) (k:Nat):Nat->Nat
 | 0=>0
 | c+1=>cellS N L k c+entN N L k c
def levelS (N:Zq) (L:Za):Nat->Nat
 | 0=>0
 | k+1=>levelS N L k+cellS N L k (Yh L k)
def W0 (N:Zq) (L:Za) (k:Nat):Zb:=(List.range (Yh L k)).map fun c=>((levelS N L k+cellS N L k c:Nat):Int)
theorem Wu {N:Zq} {L:Za} {k c:Nat} {x:Bool}:(Zw N L k x c).length<=N.as.length:=Xfc (Xfx ..) Zjr
theorem Zpa {N:Zq} {L:Za} {k c:Nat} (r:Ym N):entN N L k c<=268435456:=by
 have h1:=r.ba;have D:=Wu (N:=N) (L:=L) (k:=k) (c:=c) (x:=false);have G:=Wu (N:=N) (L:=L) (k:=k) (c:=c) (x:=true);exact Xfc (Xhg (Xfc D h1) (Xfc G h1)) (by decide)
theorem Zj2 {N:Zq} {L:Za} {k:Nat} (r:Ym N):∀ {c:Nat},cellS N L k c<=c * 268435456:=by
 intro c
 induction c with
 | zero=>exact Xel _
 | succ c D =>
  have:=Zpa (L:=L) (k:=k) (c:=c) r;simp only [cellS];omega
theorem Zal {N:Zq} {L:Za} (r:Ym N) (D:Xf N.vs.length L):∀ {k:Nat},k<=L.length->levelS N L k<=k * 1099511627776:=by
 intro k
 induction k with
 | zero=>intro _;exact Xel _
 | succ k G =>
  intro H;have h1:=G (by omega);have I:=Zj2 (L:=L) (k:=k) (c:=Yh L k) r;have J:=(Xx D (i:=k) (by omega)).2.2.1;simp only [levelS];omega
structure Zi9 (h:Zk) (s:Sl) (N:Zq) (L:Za):Prop where
 ok:s.ok
 len:L.length=s.n
 val:∀ i,i<L.length->∃ u:Sl,hc h s.b (s.o+i)=some u.v/\Yf h u (W0 N L i)
theorem Zi9.ext {h h':Zk} {s:Sl} {N:Zq} {L:Za} (g:Zi9 h s N L) (e:Ext h h'):Zi9 h' s N L :=
 ⟨g.ok,g.len,fun i r=>by
  obtain ⟨u,a,b⟩:=g.val i r;exact ⟨u,e.hc a (fun h=>h),b.ext e⟩⟩
def Uz (h:Zk) (op:Nat) (N:Zq) (L:Za):Prop :=
 ∃ (q f t g st:Sl) (z:Int),Xa h op #[q.v,f.v,t.v,g.v,st.v,Zg z]/\Qw h q L/\Zhz h g N L/\Yf h f (N.as.map fun t=>t.a)/\Yf h t (N.as.map fun t=>t.b)/\Zi9 h st N L/\z=(levelS N L L.length:Nat)
theorem Uz.ext {h h':Zk} {op:Nat} {N:Zq} {L:Za} (v:Uz h op N L) (e:Ext h h'):Uz h' op N L:=by
 obtain ⟨q,f,t,g,r,z,B,D,G,H,rt,I,J⟩:=v;exact ⟨q,f,t,g,r,z,B.ext e,D.ext e,G.ext e,H.ext e,rt.ext e,I.ext e,J⟩
structure Zdz (Y:Sys):Prop where
 New:Y.Has 315 Y315
 Part:Y.Has 318 Y318
 Levels:Y.Has 316 Y316
 Cells:Y.Has 317 Y317
 T:Zpk Y
 GO:Z3o Y
 From:Y.Has 193 Y193
 Arcs:Y.Has 209 Y209
def Xcm (p B op:Nat) (v1:Value) (q g:Sl) (N:Zq) (h0:Zk) (e:Zc) (h':Zk):Prop :=
 ∃ (i:Nat) (f t:Sl) (v7 v8 v9 v10 v11 v12 v15 v16 v17 v18 v19 v20 v21 v22 v23:Value),e=[Zh p,v1,Zh B,.pointer none,.nilIface,.nilIface,Zh op,v7,v8,v9,v10,v11,v12,Zg N.as.length,Zg i,v15,v16,v17,v18,v19,v20,v21,v22,v23]/\i<=N.as.length /\
  Xa h' op #[q.v,f.v,t.v,g.v,Zi,Zg 0]/\Yl h' 1 f (Zt ((N.as.take i).map fun t=>t.a))/\Yl h' 1 t (Zt ((N.as.take i).map fun t=>t.b))/\(f.nl=false->h0.size<=f.b)/\(t.nl=false->h0.size<=t.b)/\(f.nl=false->t.nl=false->f.b≠t.b)/\Mod (fun j=>j=op) h0 h'
def Xd9 (p B op:Nat) (v1:Value) (q f t g:Sl) (N:Zq) (L:Za) (h0:Zk) (e:Zc) (h':Zk):Prop :=
 ∃ (i:Nat) (st:Sl) (cs:Zc) (z:Int) (v7 v8 v9 v10 v11 v12 v13 v14 v15 v19 v20 v21 v22 v23:Value),e=[Zh p,v1,Zh B,.pointer none,.nilIface,.nilIface,Zh op,v7,v8,v9,v10,v11,v12,v13,v14,v15,g.v,Zg g.n,Zg i,v19,v20,v21,v22,v23]/\i<=g.n /\
  Xa h' op #[q.v,f.v,t.v,g.v,st.v,Zg z]/\Yl h' 1 st cs/\cs.length=i/\(st.nl=false->h0.size<=st.b)/\Mod (fun j=>j=op) h0 h'/\z=(levelS N L i:Nat)/\∀ k,k<i->∃ b,cs[k]? = some (Sl.at b (Yh L k) (Yh L k)).v/\h0.size<=b/\(st.nl=false->b≠st.b)/\Yl h' 1 (Sl.at b (Yh L k) (Yh L k)) (Zt (W0 N L k))
def Xd4 (p B op W n i:Nat) (v1:Value) (q f t g st u:Sl) (N:Zq) (L:Za) (h0:Zk) (e:Zc) (h':Zk):Prop :=
 ∃ (j:Nat) (vs:Zc) (z:Int) (v7 v10 v11 v12 v13 v14 v15 v19 v23:Value),e=[Zh p,v1,Zh B,.pointer none,.nilIface,.nilIface,Zh op,v7,u.v,.slice (some ⟨W,0,none⟩) n n,v10,v11,v12,v13,v14,v15,g.v,Zg g.n,Zg i,v19,u.v,Zg n,Zg j,v23]/\j<=n /\
  Xa h' op #[q.v,f.v,t.v,g.v,st.v,Zg z]/\Yl h' 1 (Sl.at W n n) vs/\Mod (fun k=>k=op\/k=W) h0 h'/\z=(levelS N L i+cellS N L i j:Nat)/\∀ c,c<j->vs[c]? = some (Zg ((levelS N L i+cellS N L i c:Nat):Int))
set_option maxHeartbeats 2000000 in
theorem Zn4 (O:Zdz Y) {p:Nat} {N:Zq} {S:Zf} {L:Za} {s:Sl} (g:Xg h p N S) (r:Qw h s L) (ok:Ym N) (pk:Xf N.vs.length L) {R:Ze}
  (hr:∀ h' op,Ext h h'->h.size<=op->(∀ k,Mod (fun j=>j<h.size) h' k->Uz k op N L)->R (.tuple #[Zh op,.nilIface]) h'):Zv Y 315 [Zh p,U5 s] h R:=by
 refine .of_has O.New rfl ?_;have lL:=r.len;have bL:=pk.bL;have bN:=pk.bn;have bA:=ok.ba;have am:∀ i,i<L.length->(Zz L i).length<=1000000:=fun i hi=>by
  have:=(Xx pk hi).1;omega
 simp [Y315,Xn.wp,U5];refine Zn ?_;intro B h1 g1 B1 e1;have z1:=e1.size;simp [Yj B1];refine Zie O.GO.R.G.Verts (g.ext e1) ?_;simp [Yj B1];refine Zio O.GO.P (r.ext e1) pk ?_;intro h2 e2;have x2:=e1.trans e2;have B2:=B1.ext e2;have z2:=e2.size;simp [Yj B2];refine Zna O.T (r.ext x2) (by omega) am ?_;intro h3 q e3 fq;have x3:=x2.trans e3;have B3:=B2.ext e3;have z3:=e3.size;simp [Yj B3];rw [show (Value.agg #[s.v])=U5 s from rfl];refine Zoq O.GO (g.ext x3) (r.ext x3) ok pk ?_;intro h4 Z e4 fg;have x4:=x3.trans e4;have z4:=e4.size;have a5:=(fg h4 (Mod.refl _)).len;have hb:Ys.sem Y h4 (.build #[Zi,Zi,Zi,Zi,Zi,Zg 0] [(0,1),(1,1),(2,1),(3,1),(4,1),(5,1)] [0,3]) [U5 q,Z.v]=some (.agg #[q.v,Zi,Zi,Z.v,Zi,Zg 0]):=by
  simp [Ys.sem,Instr.fill,U5,Value.cells,Sl.v]
 simp [hb];refine Zn ?_;intro op h5 g5 O5 e5;have O5:Xa h5 op #[q.v,Zi,Zi,Z.v,Zi,Zg 0]:=O5;have x5:=x4.trans e5;have lO:=O5.lt;simp;refine Zb6 O.Arcs (g.ext x5) ?_;simp;refine Zs (Xcm p B op (.agg #[s.v]) q Z N h5) (fun e _=>N.as.length-Zy e 14) ⟨0,Sl.nil,Sl.nil,_,_,_,_,_,_,_,_,_,_,_,_,_,_,_,rfl,by omega,O5,Yl.nil,Yl.nil,fun h=>(by cases h),fun h=>(by cases h),fun h=>(by cases h),Mod.refl _⟩ ?_;rintro e h6 ⟨i,f,t,v7,v8,v9,a6,a7,a8,a9,bb,bc,bd,be,bg,bh,bi,bk,rfl,hi,O6,of,ot,ff,ft,an,m6⟩;have x6:Ext h h6:=Mod.ext x5 m6 (fun j J=>by omega);have z6:=m6.size;have lf:=of.1;have lt:=ot.1;simp at lf lt;by_cases c:i<N.as.length
 ·have c':(i:Int)<N.as.length:=by omega
  have w1:=Zj (i:=i) (by omega);have hv:Ye N.as.length (i:Int)=true:=by simp [Ye];omega
  have aH:Zc5 N (i:Int)=(Zp N.as i).a:=by simp [Zc5,hv]
  have aI:toV N (i:Int)=(Zp N.as i).b:=by simp [toV,hv]
  have ao:N.as.take (i+1)=N.as.take i++[Zp N.as i]:=by rw [Xey c,Wn c]
  simp [c',O6.hc];refine Zb4 O.From O.GO.R.G.arc (g.ext x6) ?_;rw [aH];simp [O6.hc];refine Xm rfl ?_;intro b7 h7 g7 V7 e7;have O7:=O6.ext e7;have z7:=e7.size;simp [O7.hc];refine Wj rfl (of.ext' e7) V7 (by omega) (by omega) ?_;intro f' h8 aJ bm m8 ap;have z8:=m8.size;have O8:=m8.blk O7 (fun J=>by have:=ff J.1;have:=J.2;omega);have ag:f'.nl=false->h5.size<=f'.b:=fun H=>by
   rcases ap with ⟨k1,k2⟩ | ⟨k1,_⟩
   ·rw [k1];exact ff (by rw [<-k2];exact H)
   omega
  have aK:=(ot.ext' e7).mod m8 (fun H J=>an J.1 H J.2.symm);have d8:f'.nl=false->t.nl=false->f'.b≠t.b:=fun H ht=>by
   rcases ap with ⟨k1,k2⟩ | ⟨k1,_⟩
   ·rw [k1];exact an (by rw [<-k2];exact H) ht
   have:=ot.lt ht;omega
  simp;refine stB O8 (o:=1) (by simp) ?_;intro h9 O9 m9;have O9:Xa h9 op #[q.v,f'.v,t.v,Z.v,Zi,Zg 0]:=O9;have z9:=m9.size;have aq:=aJ.mod m9 (fun H J=>by have:=ag H;omega);have aL:=aK.mod m9 (fun H J=>by have:=ft H;omega);have ar:Mod (fun j=>j=op) h5 h9:=((m6.trans (e7.mono fun _ _ h=>h.elim)).then m8 (fun j J hb=>by have:=ff hb.1;have:=hb.2;omega)).trans m9;have x9:Ext h h9:=Mod.ext x5 ar (fun j J=>by omega);simp [O9.hc];refine Za2 O.GO.R.G.To O.GO.R.G.arc (g.ext x9) ?_;rw [aI];simp [O9.hc];refine Xm rfl ?_;intro bo ah bp V10 I;have O10:=O9.ext I;have aM:=I.size;simp [O10.hc];refine Wj rfl (aL.ext' I) V10 (by omega) (by omega) ?_;intro t' au av a3 M X;have O11:=M.blk O10 (fun J=>by have:=ft J.1;have:=J.2;omega);have ac:t'.nl=false->h5.size<=t'.b:=fun H=>by
   rcases X with ⟨k1,k2⟩ | ⟨k1,_⟩
   ·rw [k1];exact ft (by rw [<-k2];exact H)
   omega
  have aw:=(aq.ext' I).mod M (fun H J=>d8 H J.1 J.2);have aN:f'.nl=false->t'.nl=false->f'.b≠t'.b:=fun H ht=>by
   rcases X with ⟨k1,k2⟩ | ⟨k1,_⟩
   ·rw [k1];exact d8 H (by rw [<-k2];exact ht)
   have:=aq.lt H;omega
  simp;refine stB O11 (o:=2) (by simp) ?_;intro aa O12 U;have O12:Xa aa op #[q.v,f'.v,t'.v,Z.v,Zi,Zg 0]:=O12;simp [w1];have ax:Mod (fun j=>j=op) h5 aa:=((ar.trans (I.mono fun _ _ h=>h.elim)).then M (fun j J hb=>by have:=ft hb.1;have:=hb.2;omega)).trans U;refine ⟨⟨i+1,f',t',_,_,_,_,_,_,_,_,_,_,_,_,_,_,_,rfl,by omega,O12,?_,?_,ag,ac,aN,ax⟩,by simp [Zy];omega⟩
  ·have:=aw.mod U (fun H J=>by have:=ag H;omega);rw [ao];simpa [Zt] using this
  have:=av.mod U (fun H J=>by have:=ac H;omega);rw [ao];simpa [Zt] using this
 have c':¬ (i:Int)<N.as.length:=by omega
 obtain rfl:i=N.as.length:=by omega
 rw [Xf0] at of ot;simp [c',O6.hc];refine Zs (Xd9 p B op (.agg #[s.v]) q f t Z N L h6) (fun e _=>Z.n-Zy e 18) ⟨0,Sl.nil,[],0,_,_,_,_,_,_,_,_,_,_,_,_,_,_,rfl,by omega,O6,Yl.nil,rfl,fun h=>(by cases h),Mod.refl _,rfl,fun k hk=>(by omega)⟩ ?_;rintro e h7 ⟨k,st,cs,z,w7,w8,w9,bq,br,bs,bv,bw,bx,bz,bB,bC,bD,bF,rfl,hk,O7,os,ay,fs,m7,az,aA⟩;have z7:=m7.size;have aO:=os.1;simp at aO;have aP:Mod (fun j=>j=op) h5 h7:=m6.trans m7;have ab:Ext h4 h7:=Mod.ext e5 aP (fun j J=>by omega);have x7:Ext h h7:=x4.trans ab;by_cases d:k<Z.n;rotate_left
 ·have d':¬ (k:Int)<Z.n:=by omega
  simp [d'];refine hr h7 op x7 (by omega) (fun y my=>⟨q,f,t,Z,st,z,my.blk O7 (by omega),?_,?_,?_,?_,⟨os.ok,by omega,fun i hi=>?_⟩,by rw [az,show k=L.length by omega]⟩)
  ·exact fq y (((e4.trans ab).mono fun _ _ h=>h.elim).trans (my.mono fun j _ J=>by omega))
  ·exact fg y ((ab.mono fun _ _ h=>h.elim).trans (my.mono fun j _ J=>by omega))
  ·exact ((of.mod m7 (fun H J=>by have:=ff H;omega)).mod my (fun H J=>by have:=ff H;omega)).row64
  ·exact ((ot.mod m7 (fun H J=>by have:=ft H;omega)).mod my (fun H J=>by have:=ft H;omega)).row64
  obtain ⟨b,b1,b2,b3,b4⟩:=aA i (by omega);exact ⟨Sl.at b (Yh L i) (Yh L i),Yl.cell (os.mod my (fun H J=>by have:=fs H;omega)) b1,(b4.mod my (fun H J=>by simp at J;omega)).row64⟩
 have d':(k:Int)<Z.n:=by omega
 have w1:=Zj (i:=k) (by omega);obtain ⟨u,hu,cu⟩:=Zgz (fg h4 (Mod.refl _)) d;have aQ:=hu h7 ab;have aR:=(fg h4 (Mod.refl _)).ok;obtain ⟨_,_,gb,_⟩:=Xx pk (i:=k) (by omega);have ai:=cu.len;obtain ⟨n,H⟩:∃ n,Yh L k=n:=⟨_,rfl⟩
 rw [H] at cu ai gb;simp [d',Zm aR,aQ,ai];refine Zff (n:=n) (by omega) rfl ?_;intro W h8 g8 oW e8 lW;have O8:=O7.ext e8;have bG:=O7.lt;simp [ai];refine Zs (Xd4 p B op W n k (.agg #[s.v]) q f t Z st u N L h8) (fun e _=>n-Zy e 22) ⟨0,_,z,_,_,_,_,_,_,_,_,_,rfl,by omega,O8,oW,Mod.refl _,by rw [az];rfl,fun c hc=>(by omega)⟩ ?_;clear O8 oW;rintro e h9 ⟨j,vs,z,y7,bH,bJ,bK,bM,bO,bP,bQ,bR,rfl,J,O9,oW,m9,aj,aB⟩;have z9:=m9.size;have aS:=oW.1;simp at aS;have aT:Ext h4 h9:=Mod.ext (ab.trans e8) m9 (fun j J=>by omega);by_cases b:j<n
 ·have b':(j:Int)<n:=by omega
  have w2:=Zj (i:=j) (by omega);obtain ⟨a1,a2,ha,aU,aV⟩:=Zj4 cu b;have aW:=aU.len;have aX:=aV.len;obtain ⟨_,_,ra⟩:=ha h9 aT;have bu:(j:Int)<u.n:=by omega
  simp [b',Zm cu.ok,bu,ra];refine Xd (vs:=#[a1.v,a2.v]) rfl rfl (by simp) ?_;intro D bT gD aY aZ aC;simp;refine aC _ ?_;intro ah D10 I;clear aC aY aZ;have O10:=O9.ext I;have ad:=oW.ext' I;have aD:=Zm (Y:=Y) (h:=ah) (s:=Sl.at W n n) (sz:=1) (k:=.i64) (i:=(j:Int)) ad.ok (by omega) (by simp;omega);simp at aD;simp [O10.hc,aD];have ae:=fun K v=>stN (v:=v) (K:=K) ad (k:=j) (by omega);simp only [Sl.at_b,Sl.at_o,Xfg] at ae;refine ae _ _ ?_;intro au aE M;have O11:=M.blk O10 (by omega);have D11:=M.blk D10 (by omega);simp [O11.hc,D11.hc];refine stB O11 (o:=5) (by simp) ?_;intro aa O12 U;simp at O12;simp [w2];refine ⟨⟨j+1,_,_,_,_,_,_,_,_,_,_,_,rfl,by omega,O12,aE.mod U (fun _ hb=>by simp at hb;omega),?_,?_,?_⟩,by simp [Zy];omega⟩;rotate_left
  ·have hE:entN N L k j=a1.n * a2.n:=by unfold entN;rw [aW,aX]
   have bE:=Zpa (L:=L) (k:=k) (c:=j) ok;have bS:=Zj2 (L:=L) (k:=k) (c:=j) ok;have bV:=Zal ok pk (k:=k) (by omega);have bj:j * 268435456<=4096 * 268435456:=Xfi _ (by omega);rw [show ((a1.n:Int) * a2.n)=((entN N L k j:Nat):Int) by rw [hE];exact (Int.natCast_mul ..).symm];have w3:IntKind.i64.wrap ((entN N L k j:Nat):Int)=((entN N L k j:Nat):Int):=Zo (by omega);rw [w3,aj,Zo (by omega)];simp only [cellS];omega
  ·intro c hc;rw [Xf7];by_cases q:j=c
   ·subst q;rw [if_pos rfl,if_pos (by omega),aj]
   rw [if_neg q];exact aB c (by omega)
  exact ((m9.trans (I.mono fun _ _ h=>h.elim)).trans (M.mono fun _ _ h=>.inr h)).trans (U.mono fun _ _ h=>.inl h)
 have b':¬ (j:Int)<n:=by omega
 simp [b',O9.hc];refine Xm rfl ?_;intro V ah gV V10 I;have aM:=I.size;have O10:=O9.ext I;have ak:Mod (fun k=>k=op\/k=W) h7 h9:=(e8.mono fun _ _ h=>h.elim).trans m9;have a0:=os.mod ak (fun H hb=>by have:=fs H;have:=os.lt H;omega);simp;refine Wj rfl (a0.ext' I) V10 (by omega) (by omega) ?_;intro al au aF a4 M X;have O11:=M.blk O10 (fun hb=>by have:=fs hb.1;have:=hb.2;omega);have af:al.nl=false->h6.size<=al.b:=fun H=>by
  rcases X with ⟨k1,k2⟩ | ⟨k1,_⟩
  ·rw [k1];exact fs (by rw [<-k2];exact H)
  omega
 simp;refine stB O11 (o:=4) (by simp) ?_;intro aa O12 U;simp at O12;simp [w1];refine ⟨⟨k+1,al,_,z,_,_,_,_,_,_,_,_,_,_,_,_,_,_,rfl,by omega,O12,aF.mod U (fun H hb=>by have:=af H;omega),by simp [ay],af,?_,?_,?_⟩,by simp [Zy];omega⟩;rotate_left
 ·rw [aj,show j=n by omega,<-H]
  rfl
 ·intro k1 bU;by_cases q:k1=k
  ·subst q;rw [H];refine ⟨W,by rw [Xfa (by omega),ay];simp,by omega,fun hs=>?_,?_⟩
   ·rcases X with ⟨k1,k2⟩ | ⟨k1,_⟩
    ·rw [k1];have:=os.lt (by rw [<-k2];exact hs);omega
    omega
   have hv:vs=Zt (W0 N L k1):=by
    refine Xgy fun c=>?_;by_cases d:c<n
    ·rw [aB c (by omega)];simp [Zt,W0,H,d]
    rw [Xe8 (by omega),Xe8 (by simp [W0,H];omega)]
   rw [<-hv];exact ((oW.ext' I).mod M (fun _ hb=>by have:=os.lt hb.1;have:=hb.2;simp at this;omega)).mod U (fun _ hb=>by simp at hb;omega)
  obtain ⟨b,b1,b2,b3,b4⟩:=aA k1 (by omega);have lb:=b4.lt rfl;simp at lb;refine ⟨b,by rw [Xe2 (by omega)];exact b1,b2,fun hs=>?_,?_⟩
  ·rcases X with ⟨k1,k2⟩ | ⟨k1,_⟩
   ·rw [k1];exact b3 (by rw [<-k2];exact hs)
   omega
  exact (((b4.mod ak (fun _ hb=>by simp at hb;omega)).ext' I).mod M (fun _ hb=>b3 hb.1 (by have:=hb.2;simpa using this))).mod U (fun _ hb=>by simp at hb;omega)
 have aG:Mod (fun k=>(k=op\/k=W)\/(st.nl=false/\k=st.b)) h7 aa :=
  (((ak.mono fun _ _ h=>.inl h).trans (I.mono fun _ _ h=>h.elim)).trans (M.mono fun _ _ h=>.inr h)).trans (U.mono fun _ _ h=>.inl (.inl h))
 refine m7.then aG (fun j J hb=>?_);rcases hb with (hb | hb) | hb
 ·exact hb
 ·omega
 have:=fs hb.1;have:=hb.2;omega
end
end Go.Rm
