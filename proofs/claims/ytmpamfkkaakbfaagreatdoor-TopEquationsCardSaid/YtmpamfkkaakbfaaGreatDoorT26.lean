import Derived.Test.YtmpamfkkaakbfaaGreatDoorT24
import Derived.Test.YtmpamfkkaakbfaaGreatDoorT25
import Derived.Test.YtmpamfkkaakbfaaGreatDoorT02
/- Parts RBatch3 RBatch4 RBatch5 RBatch6 RBatch7 -/
set_option linter.unusedSimpArgs false
set_option linter.unusedVariables false
namespace Go.Rm
def chN (N:Zg) (c:Ym):Zg:=if c.kd=1 then setN N c.a c.w else Zaw N c.a c.i c.o c.w
def Yu (N:Zg) (l:List Ym):Zg:=l.foldl chN N
theorem Zb5 {N:Zg} {l:List Ym} {i:Nat} (r:i<l.length):Yu N (l.take (i+1))=chN (Yu N (l.take i)) (Yf l i):=by
 unfold Yu
 rw [Xel r,Xhf]
 simp [Yf,r]
theorem Z24 {N:Zg} (r:Yd N) {c:Ym}:Yd (chN N c):=by
 unfold chN
 split
 ·exact Z5d r
 ·exact Z2c r
theorem Za8 {l:List Ym}:∀ {N:Zg},Yd N->Yd (Yu N l):=by
 induction l with
 | nil=>intro N D; exact D
 | cons t r G=>intro N D; exact G (Z24 D)
structure Xq (N M:Zg):Prop where
 vs:M.vs=N.vs
 al:M.as.length=N.as.length
 ab:∀ a,(Zf M.as a).a=(Zf N.as a).a/\(Zf M.as a).b=(Zf N.as a).b
 tl:M.ts.length=N.ts.length
 tb:∀ t,(Zp M.ts t).i=(Zp N.ts t).i/\(Zp M.ts t).o=(Zp N.ts t).o
theorem Xq.refl {N:Zg}:Xq N N:=⟨rfl,rfl,fun _=>⟨rfl,rfl⟩,rfl,fun _=>⟨rfl,rfl⟩⟩
theorem Xq.trans {N M K:Zg} (h:Xq N M) (k:Xq M K):Xq N K :=
 ⟨k.vs.trans h.vs,k.al.trans h.al,fun a=>⟨(k.ab a).1.trans (h.ab a).1,(k.ab a).2.trans (h.ab a).2⟩,k.tl.trans h.tl,fun t=>⟨(k.tb t).1.trans (h.tb t).1,(k.tb t).2.trans (h.tb t).2⟩⟩
theorem Xq.one {N M:Zg} (h:Xq N M) (c:Ym):Vs M c=Vs N c:=by
 unfold Vs Vb
 rw [h.al,h.tl,(h.tb _).1,(h.tb _).2]
theorem Zfl {N:Zg} {c:Ym} (h:Vs N c=0) (H:c.kd=1):∃ a:Nat,c.a=a/\a<N.as.length/\Yi c.w=true/\Zhd N c.a c.w=Ur/\setN N c.a c.w = { N with as:=N.as.set a ⟨(Zf N.as a).a,(Zf N.as a).b,c.w⟩ }:=by
 unfold Vs at h
 rw [if_pos H] at h
 split at h
 ·cases h
 split at h
 ·cases h
 split at h
 ·rename_i h1 r D
  have r:Zt N.as.length c.a=true:=by simpa using r
  simp [Zt] at r
  obtain ⟨G,e2⟩:=Z5b (N:=N) (a:=c.a.toNat) (w:=c.w) (by omega) D
  have e:(c.a.toNat:Int)=c.a:=by omega
  rw [e] at G e2
  exact ⟨c.a.toNat,by omega,by omega,D,G,e2⟩
 ·cases h
theorem Zby {N:Zg} (R:Yd N) {c:Ym} (h:Vs N c=0) (hk:c.kd≠1):c.kd=2/\∃ t A B o:Nat,c.a=t/\c.i=A/\c.o=B/\t<N.ts.length/\(Zp N.ts t).o=o/\(A:Int)<(Zp N.ts t).i/\B<o/\A * o+B<(Zp N.ts t).cs.length/\Yi c.w=true /\
  Zb3 N c.a c.i c.o c.w=Ur/\Zaw N c.a c.i c.o c.w = { N with ts:=N.ts.set t ⟨(Zp N.ts t).i,(Zp N.ts t).o,(Zp N.ts t).cs.set (A * o+B) c.w⟩ }:=by
 unfold Vs at h
 rw [if_neg hk] at h
 split at h
 rotate_left
 ·cases h
 rename_i I
 split at h
 ·cases h
 split at h
 rotate_left
 ·cases h
 rename_i h1 U
 refine ⟨I,?_⟩
 have h1:Vb N c=true:=by simpa using h1
 simp only [Vb,decide_eq_true_eq] at h1
 obtain ⟨b1,b2,b3,r,b5,H⟩:=h1
 have J:=R.tab c.a.toNat (by omega)
 obtain ⟨V,a2,X,a4,D,a6,a7⟩:=Zfy J
 obtain ⟨z,hz⟩:∃ z:Nat,c.a=z:=⟨c.a.toNat,by omega⟩
 obtain ⟨A,Z⟩:∃ z:Nat,c.i=z:=⟨c.i.toNat,by omega⟩
 obtain ⟨B,hB⟩:∃ z:Nat,c.o=z:=⟨c.o.toNat,by omega⟩
 rw [hz] at b1 b2 r H V X D J
 rw [Z] at b3 r
 rw [hB] at b5 H
 simp only [Xd9] at r H V X D J
 obtain ⟨i,M⟩:∃ x:Nat,(Zp N.ts z).i=x:=⟨(Zp N.ts z).i.toNat,by omega⟩
 obtain ⟨o,O⟩:∃ x:Nat,(Zp N.ts z).o=x:=⟨(Zp N.ts z).o.toNat,by omega⟩
 rw [M] at r D
 rw [O] at H D
 have G:(Zp N.ts z).cs.length=i * o:=by
  have:((Zp N.ts z).cs.length:Int)=((i * o:Nat):Int):=by rw [D]; simp
  omega
 obtain ⟨e1,e2⟩:=Z1e (p:=A * o+B) R (t:=z) (by omega) M O (A:=A) (B:=B) (by omega) (by omega) rfl U
 have hp:A * o+B<i * o:=by
  have:(A+1) * o<=i * o:=Xe7 o (by omega)
  rw [Xet] at this
  omega
 rw [hz,Z,hB]
 exact ⟨z,A,B,o,rfl,rfl,rfl,by omega,O,by rw [M]; exact r,by omega,by rw [G]; exact hp,U,e1,e2⟩
theorem Z75 {N:Zg} (D:Yd N) {c:Ym} (h:Vs N c=0):Xq N (chN N c):=by
 unfold chN
 split
 ·rename_i r
  obtain ⟨a,_,G,_,_,e⟩:=Zfl h r
  rw [e]
  exact ⟨rfl,by simp,fun j=>Qn G,rfl,fun _=>⟨rfl,rfl⟩⟩
 ·rename_i r
  obtain ⟨_,t,A,B,o,_,_,_,lt,_,_,_,_,_,_,e⟩:=Zby D h r
  rw [e]
  refine ⟨rfl,rfl,fun _=>⟨rfl,rfl⟩,by simp,fun j=>?_⟩
  simp only [Zgz lt]
  split
  ·rename_i q; subst q; exact ⟨rfl,rfl⟩
  ·exact ⟨rfl,rfl⟩
theorem Q6 {l:List Ym}:∀ {N:Zg},Yd N->(∀ c,c∈l->Vs N c=0)->Xq N (Yu N l):=by
 induction l with
 | nil=>intro N _ _; exact Xq.refl
 | cons c r H =>
  intro N G D
  have d:=Z75 G (D c (by simp))
  exact d.trans (H (Z24 G) (fun x hx=>by rw [d.one]; exact D x (by simp [hx])))
theorem Zyk {N:Zg} {l:List Ym}:∀ {m k:Nat},(Vo N l k m).2=0->∀ i,k<=i->i<k+m->W5 N l i=0:=by
 intro m
 induction m with
 | zero=>intro k _ i h1 r; omega
 | succ m D =>
  intro k h i h1 r
  rw [Vo] at h
  split at h
  ·rename_i q; exact absurd h q
  ·rename_i q
   by_cases e:i=k
   ·subst e; exact Xey q
   ·exact D h i (by omega) (by omega)
theorem Zed {N:Zg} {l:List Ym} (h:(Xw N l).2=0):l.length<=256/\∀ i,i<l.length->W5 N l i=0:=by
 unfold Xw at h
 split at h
 ·cases h
 ·exact ⟨by omega,fun i r=>Zyk h i (by omega) (by omega)⟩
theorem Qt {N:Zg} {l:List Ym} {i:Nat} (h:W5 N l i=0):Vs N (Yf l i)=0:=by
 unfold W5 at h
 split at h
 ·assumption
 ·rename_i q; exact Xey q
theorem Zcl {N:Zg} {l:List Ym} (h:(Xw N l).2=0) {c:Ym} (hc:c∈l):Vs N c=0:=by
 obtain ⟨k,r,e⟩:=List.mem_iff_getElem.1 hc
 have:=Qt ((Zed h).2 k r)
 rwa [show Yf l k=c by simp [Yf,r,e]] at this
structure Zwp (Y:Sys):Prop where
 C:Zis Y
 Apply:Y.Has 305 Y305
 GS:Z60 Y
 GB:Z2y Y
 T:Zbw Y
section
variable {Y:Sys} {h h':Za}
def Xds (p:Nat) (s:Sl) (N:Zg) (l:List Ym) (S0:Nat->Prop) (h0:Za) (e:List Value) (h':Za):Prop :=
 ∃ (i:Nat) (S:Nat->Prop) (v2 v4 v5 v10 v11 v12 v13 v14:Value),e=[.pointer (some ⟨p,0,none⟩),s.v,v2,.nilIface,v4,v5,.bool false,s.v,.int .i64 s.n,.int .i64 i,v10,v11,v12,v13,v14]/\i<=l.length/\Yv h' p (Yu N (l.take i)) S/\(∀ b,S b->S0 b\/h0.size<=b)/\(∀ b,S0 b->S b)/\Mod S0 h0 h'
set_option maxHeartbeats 1000000 in
theorem Zrp (D:Zwp Y) {p:Nat} {N:Zg} {S:Nat->Prop} (g:Yv h p N S) (ok:Yd N) {s:Sl} {l:List Ym} (q:Zbt h s l) (hS:s.nl=false->¬ S s.b) {R:Value->Za->Prop}
  (O:∀ h' v,(Xw N l).2≠0->Ext h h'->Z6 Y h.size h' (Xw N l) v->R v h')
  (hr:∀ h' S',(Xw N l).2=0->Mod S h h'->Yv h' p (Yu N l) S'->(∀ b,S' b->S b\/h.size<=b)->R .nilIface h'):Zm Y 305 [.pointer (some ⟨p,0,none⟩),s.v] h R:=by
 have ll:=q.len
 refine .of_has D.Apply rfl ?_
 simp [Y305,Xa.wp]
 refine Zh9 D.C g ok q ?_
 intro h1 v U fv
 by_cases M:(Xw N l).2=0
 rotate_left
 ·obtain ⟨t,u,hv⟩:=fv.here.iface M
  subst hv
  simp
  exact O h1 _ M U fv
 have hv:=Err.nil fv.here M
 subst hv
 obtain ⟨hl,hb⟩:=Zed M
 simp
 have z1:=U.size
 refine Zj (Xds p s N l S h1) (fun e _=>l.length-Zo e 9) ⟨0,S,_,_,_,_,_,_,_,_,rfl,by omega,g.ext U,fun b hb=>.inl hb,fun b hb=>hb,Mod.refl _⟩ ?_
 rintro e h2 ⟨i,S2,v2,v4,v5,ai,aj,ak,al,am,rfl,hi,g2,r,G,V⟩
 have z2:=V.size
 by_cases c:i<l.length
 rotate_left
 ·have c':¬ (i:Int)<s.n:=by omega
  obtain rfl:i=l.length:=by omega
  rw [Xfl] at g2
  simp [c']
  exact hr h2 S2 M ((U.mono fun _ _ h=>h.elim).then V (fun j hj hb=>hb)) g2 (fun b hb=>by rcases r b hb with k | k; exact .inl k; right; omega)
 have c':(i:Int)<s.n:=by omega
 have ab:i<s.n:=by omega
 have w1:IntKind.i64.wrap ((i:Int)+1)=(i:Int)+1:=Ze (by omega)
 have ac:s.nl=false:=by
  cases k:s.nl with
  | false=>rfl
  | true=>have:=(q.ok.nil k).1; omega
 have ad:Mod S h h2:=(U.mono fun _ _ h=>h.elim).then V (fun j hj hb=>hb)
 have rc:=ad.rd (q.val i c) (hS ac)
 have an:=Xao (n:=4) (q.val i c)
 have ae:=Za8 (l:=l.take i) ok
 have dm:=Q6 (l:=l.take i) ok (fun x hx=>Zcl M (Xgv hx))
 have H:Vs (Yu N (l.take i)) (Yf l i)=0:=by rw [dm.one]; exact Qt (hb i c)
 have I:=Zb5 (N:=N) c
 generalize Yf l i=cc at rc H I
 obtain ⟨kd,a,ii,o,w⟩:=cc
 simp only at rc
 simp [c',ab,Zb q.ok,rc]
 refine Yr (vs:=#[.int .i64 kd,.int .i64 a,.int .i64 ii,.int .i64 o,.int .i64 w]) rfl rfl (by simp) ?_
 intro C ao gC af ag stC
 simp
 refine stC _ ?_
 intro h4 C4 e4
 clear stC af ag
 have z4:=e4.size
 have g4:=g2.ext e4
 simp [C4.hc]
 by_cases k1:kd=1
 ·obtain ⟨a',ea,ap,hw,w0,sn⟩:=Zfl H k1
  simp only at ea hw w0 sn
  simp [k1,C4.hc]
  refine Zyn D.GS g4 ?_
  intro v6 h6 X Z f6
  rw [w0] at f6
  have v6n:=Err.nil f6.here rfl
  subst v6n
  have z6:=X.size
  have J:Yu N (l.take (i+1))=setN (Yu N (l.take i)) a w:=by rw [I]; simp [chN,k1]
  rw [<-J] at Z
  simp [w1]
  refine ⟨⟨i+1,S2,_,_,_,_,_,_,_,_,rfl,by omega,Z,r,G,?_⟩,by simp [Zo]; omega⟩
  exact (V.trans (e4.mono fun _ _ h=>h.elim)).then X (fun j hj hb=>by rcases r j hb with k | k; exact k; omega)
 ·obtain ⟨k2,t,A,B,o',ea,ei,eo,lt,ho,l1,l2,lp,hw,w0,sn⟩:=Zby ae H k1
  simp only at k2 ea ei eo hw w0 sn
  simp [k1,k2,C4.hc]
  refine Zst D.GB D.T g4 ?_
  intro v6 h6 S6 X ah aa Z f6
  rw [w0] at f6
  have v6n:=Err.nil f6.here rfl
  subst v6n
  have z6:=X.size
  have J:Yu N (l.take (i+1))=Zaw (Yu N (l.take i)) a ii o w:=by rw [I]; simp [chN,k1]
  rw [<-J] at Z
  simp [w1]
  refine ⟨⟨i+1,S6,_,_,_,_,_,_,_,_,rfl,by omega,Z,fun b hb=>?_,fun b hb=>aa b (G b hb),?_⟩,by simp [Zo]; omega⟩
  ·rcases ah b hb with k | k
   ·exact r b k
   ·right; omega
  ·exact (V.trans (e4.mono fun _ _ h=>h.elim)).then X (fun j hj hb=>by rcases r j hb with k | k; exact k; omega)
end
structure Zdh (lo up:Nat) (h:Za) (s1 s2 s3:Sl) (P:List (Tab × Sl)) (M:Zg):Prop where
 o1:Yb h 3 s1 (Zs (M.vs.map Xm))
 o2:Yb h 3 s2 (Zs (M.as.map Xm))
 o3:Yb h 3 s3 (Zs (P.map Qy))
 hP:P.map Prod.fst=M.ts
 pw:P.Pairwise (fun p q=>p.2.b≠q.2.b)
 px:∀ p,p∈P->(Yb h 1 p.2 (Zh p.1.cs)/\p.2.nl=false)/\lo<=p.2.b/\p.2.b≠s1.b/\p.2.b≠s2.b/\(s3.nl=false->p.2.b≠s3.b)/\p.2.b<up
 u2:s2.b<up
 f1:lo<=s1.b
 f2:lo<=s2.b
 d12:s1.b≠s2.b
 f3:s3.nl=false->lo<=s3.b/\s3.b≠s1.b/\s3.b≠s2.b
section
variable {Y:Sys} {h h':Za} {lo up:Nat} {s1 s2 s3:Sl} {P:List (Tab × Sl)} {M:Zg}
theorem Zdh.netH (n:Zdh lo up h s1 s2 s3 P M):Uo h s1 s2 s3 M:=⟨n.o1.row3,n.o2.row3,n.o3.rowT n.hP (fun q hq=>(n.px q hq).1.1.row64)⟩
theorem Zdh.mod {S:Nat->Prop} (n:Zdh lo up h s1 s2 s3 P M) (m:Mod S h h') (hs:∀ j,S j->j<lo):Zdh lo up h' s1 s2 s3 P M :=
 {n with
  o1:=n.o1.mod m (fun _ hb=>by have:=hs _ hb; have:=n.f1; omega)
  o2:=n.o2.mod m (fun _ hb=>by have:=hs _ hb; have:=n.f2; omega)
  o3:=n.o3.mod m (fun r hb=>by have:=hs _ hb; have:=(n.f3 r).1; omega)
  px:=fun p hp=>⟨⟨(n.px p hp).1.1.mod m (fun _ hb=>by have:=hs _ hb; have:=(n.px p hp).2.1; omega),(n.px p hp).1.2⟩,(n.px p hp).2⟩ }
theorem Zdh.ext (n:Zdh lo up h s1 s2 s3 P M) (m:Ext h h'):Zdh lo up h' s1 s2 s3 P M:=n.mod m fun _ h=>h.elim
theorem Zdh.setA {K : Value → Za → Prop} (n : Zdh lo up h s1 s2 s3 P M) {a : Nat} {w : Int} (r : a < M.as.length)
    (D : ∀ h', Zdh lo up h' s1 s2 s3 P { M with as := M.as.set a ⟨(Zf M.as a).a, (Zf M.as a).b, w⟩ } → Mod (fun j => j = s2.b) h h' → K undef h') : Xg h s2.b (s2.o + (a * 3 + 2)) (.int .i64 w) K := by
  refine stN n.o2 (k := a * 3 + 2) (by rw [Zx]; simp; omega) ?_
  intro h' o2 m
  rw [(Zwt r).2.2] at o2
  have f2 := n.f2
  refine D h' ?_ m
  exact { o1 := n.o1.mod m (fun _ hb => n.d12 hb)
          o2 := o2
          o3 := n.o3.mod m (fun G hb => (n.f3 G).2.2 hb)
          hP := n.hP
          pw := n.pw
          px := fun p hp => ⟨⟨(n.px p hp).1.1.mod m (fun _ hb => (n.px p hp).2.2.2.1 hb), (n.px p hp).1.2⟩, (n.px p hp).2⟩
          u2 := n.u2
          f1 := n.f1
          f2 := n.f2
          d12 := n.d12
          f3 := n.f3 }
theorem Zdh.stC (n : Zdh lo up h s1 s2 s3 P M) {t : Nat} (ht : t < M.ts.length) (hp : t < P.length) {K : Value → Za → Prop} {k : Nat} {w : Int} (J : k < (Zp M.ts t).cs.length)
    (O : ∀ h' P', Zdh lo up h' s1 s2 s3 P' { M with ts := M.ts.set t ⟨(Zp M.ts t).i, (Zp M.ts t).o, (Zp M.ts t).cs.set k w⟩ } → Mod (fun j => j = P[t].2.b) h h' → K undef h') : Xg h P[t].2.b (P[t].2.o + k) (.int .i64 w) K := by
  have e : Zp M.ts t = P[t].1 := by
    rw [Za1 ht]
    simp only [← n.hP, Xev]
  have hm : P[t] ∈ P := Xeo hp
  obtain ⟨⟨o, nl⟩, g2, R, U, V, g6⟩ := n.px _ hm
  rw [e] at J O
  refine stN o (k := k) (by rw [Wu]; exact J) ?_
  intro h' X m
  rw [X4] at X
  refine O h' (P.set t (⟨P[t].1.i, P[t].1.o, P[t].1.cs.set k w⟩, P[t].2)) ?_ m
  have H : ∀ p, p ∈ P.set t (⟨P[t].1.i, P[t].1.o, P[t].1.cs.set k w⟩, P[t].2) → p = (⟨P[t].1.i, P[t].1.o, P[t].1.cs.set k w⟩, P[t].2) ∨ (p ∈ P ∧ p.2.b ≠ P[t].2.b) := fun p r => by
    obtain ⟨j, D, G⟩ := List.mem_iff_getElem.1 r
    rw [Xe9] at G
    split at G
    · exact .inl G.symm
    · rename_i q
      right
      subst G
      simp at D
      refine ⟨Xeo D, ?_⟩
      have := List.pairwise_iff_getElem.1 n.pw
      rcases Xd8 j t with k1 | k1
      · exact this j t D hp k1
      · exact (this t j hp D (by omega)).symm
  exact { o1 := n.o1.mod m (fun _ hb => R hb.symm)
          o2 := n.o2.mod m (fun _ hb => U hb.symm)
          o3 := by
            have : (P.set t (⟨P[t].1.i, P[t].1.o, P[t].1.cs.set k w⟩, P[t].2)).map Qy = P.map Qy := by
              rw [Xfb]
              apply Xem (by simp)
              intro j a1 a2
              rw [Xe9]
              split
              · rename_i q; subst q; simp [Qy]
              · rfl
            rw [this]
            exact n.o3.mod m (fun hn hb => V hn hb.symm)
          hP := by rw [Xfb, n.hP]
          pw := by
            rw [Xgm]
            intro i j Z D I
            simp at Z D
            have q := List.pairwise_iff_getElem.1 n.pw i j Z D I
            rw [Xe9, Xe9]
            split <;> split <;> simp_all
          px := fun p r => by
            rcases H p r with rfl | ⟨h1, h2⟩
            · exact ⟨⟨X, nl⟩, g2, R, U, V, g6⟩
            · exact ⟨⟨(n.px p h1).1.1.mod m (fun _ hb => h2 hb), (n.px p h1).1.2⟩, (n.px p h1).2⟩
          u2 := n.u2
          f1 := n.f1
          f2 := n.f2
          d12 := n.d12
          f3 := n.f3 }
theorem Zdh.at (n:Zdh lo up h s1 s2 s3 P M) {t:Nat} (ht:t<M.ts.length):∃ u:Sl,rd h s3.b (s3.o+t * 3) 3=some [.int .i64 (Zp M.ts t).i,.int .i64 (Zp M.ts t).o,u.v]/\Yb h 1 u (Zh (Zp M.ts t).cs)/\lo<=u.b/\u.b<up /\
  ∀ g,Ext h g->∀ (K:Value->Za->Prop) (k:Nat) (w:Int),k<(Zp M.ts t).cs.length->(∀ h' P',Zdh lo up h' s1 s2 s3 P' { M with ts:=M.ts.set t ⟨(Zp M.ts t).i,(Zp M.ts t).o,(Zp M.ts t).cs.set k w⟩ }->Mod (fun j=>j=u.b) g h'->K undef h')->Xg g u.b (u.o+k) (.int .i64 w) K:=by
 have O:P.length=M.ts.length:=by have:=congrArg List.length n.hP; simpa using this
 have hp:t<P.length:=by omega
 have e:Zp M.ts t=P[t].1:=by
  rw [Za1 ht]
  simp only [<-n.hP,Xev]
 have D:P[t]∈P:=Xeo hp
 obtain ⟨⟨o,R⟩,g2,U,V,X,G⟩:=n.px _ D
 refine ⟨P[t].2,?_,by rw [e]; exact o,g2,G,fun g H K k w I J=>(n.ext H).stC ht hp I J⟩
 have g:=n.o3.get3 (i:=t) (by simpa using hp)
 rw [Xev] at g
 rw [e]
 refine Zal (l:=[_,_,_]) (fun j v r=>?_)
 match j with
 | 0=>simp at r; subst r; exact g.1
 | 1=>simp at r; subst r; exact g.2.1
 | 2=>simp at r; subst r; exact g.2.2
 | j+3=>simp at r
structure Z6m (Y:Sys):Prop where
 Apply:Y.Has 306 Y306
 Copy:Y.Has 117 Y117
def Xcg (D C:Nat) (v0 v2:Value) (s s1 s2 s3:Sl) (N:Zg) (l:List Ym) (lo up:Nat) (h0:Za) (e:List Value) (h':Za):Prop :=
 ∃ (i:Nat) (P:List (Tab × Sl)) (v6 v7 v8 v9:Value),e=[v0,s.v,v2,.pointer (some ⟨C,0,none⟩),.pointer (some ⟨D,0,none⟩),.int .i64 i,v6,v7,v8,v9]/\i<=l.length/\Zdh lo up h' s1 s2 s3 P (Yu N (l.take i))/\Ys h' D #[s1.v,s2.v,s3.v]/\Ys h' C #[.slice none 0 0,.slice none 0 0,.slice none 0 0]/\Ext h0 h'
set_option maxHeartbeats 1000000 in
theorem Zqn (X:Z6m Y) {Z sa st s:Sl} {N:Zg} {l:List Ym} (r:Uo h Z sa st N) (ok:Yd N) (q:Zbt h s l) (h0:(Xw N l).2=0) {R:Value->Za->Prop}
  (hr:∀ h' s1 s2 s3,Ext h h'->(∀ k,Mod (fun j=>j<h.size) h' k->Uo k s1 s2 s3 (Yu N l))->R (Yo s1 s2 s3) h'):Zm Y 306 [Yo Z sa st,s.v] h R:=by
 have ll:=q.len
 obtain ⟨hl,hb⟩:=Zed h0
 refine .of_has X.Apply rfl ?_
 simp [Y306,Xa.wp,Yo]
 refine Zd ?_
 intro A hA gA bA eA
 simp
 refine Zd ?_
 intro C hC gC bC eC
 have bC:Ys hC C #[.slice none 0 0,.slice none 0 0,.slice none 0 0]:=bC
 have xC:=eA.trans eC
 have zA:=eA.size
 have zC:=eC.size
 have lC:=bC.lt
 simp [Zy (bA.ext eC)]
 rw [show (Value.agg #[Z.v,sa.v,st.v])=Yo Z sa st from rfl]
 refine Zjs X.Copy (r.ext xC) ok.small ?_
 intro h1 s1 s2 s3 P e1 o1 o2 o3 hP pw px f1 f2 d12 f3
 have z1:=e1.size
 have ah:s2.nl=false:=by
  cases k:s2.nl with
  | false=>rfl
  | true =>
   rcases o2.2 with ⟨e,_⟩ | ⟨e,_⟩
   ·rw [e] at f2
    have:Sl.nil.b=0:=rfl
    omega
   ·rw [e] at k; cases k
 have n1:Zdh hC.size h1.size h1 s1 s2 s3 P N:=⟨o1,o2,o3,hP,pw,fun p hp=>⟨(px p hp).1,(px p hp).2.1,(px p hp).2.2.1,(px p hp).2.2.2.1,(px p hp).2.2.2.2,(px p hp).1.1.lt (px p hp).1.2⟩,o2.lt ah,f1,f2,d12,f3⟩
 clear o1 o2 o3 hP pw px f1 f2 d12 f3
 have x1:=xC.trans e1
 simp [Yo]
 refine Yr (vs:=#[s1.v,s2.v,s3.v]) rfl rfl (by simp) ?_
 intro D au gD ai aj aa
 simp
 refine aa _ ?_
 intro h2 D2 e2
 clear aa ai aj
 have z2:=e2.size
 have x2:=x1.trans e2
 have lD:=D2.lt
 simp
 refine Zj (Xcg D C (.agg #[Z.v,sa.v,st.v]) (.pointer (some ⟨A,0,none⟩)) s s1 s2 s3 N l hC.size h1.size h) (fun e _=>l.length-Zo e 5) ⟨0,P,_,_,_,_,rfl,by omega,n1.ext e2,D2,(bC.ext e1).ext e2,x2⟩ ?_
 rintro e h3 ⟨i,P3,v6,v7,v8,v9,rfl,hi,n3,D3,C3,x3⟩
 by_cases c:i<l.length
 rotate_left
 ·have c':¬ (i:Int)<s.n:=by omega
  obtain rfl:i=l.length:=by omega
  rw [Xfl] at n3
  simp [c',Zy D3]
  refine Zi C3 rfl rfl (by simp) ?_
  intro h4 C4 m4
  simp
  refine Yt rfl C4 rfl ?_
  exact hr h4 s1 s2 s3 (Mod.ext x3 m4 (fun j hj=>by omega)) (fun k mk=>((n3.mod m4 (fun j hj=>by omega)).mod mk (fun j hj=>by omega)).netH)
 have c':(i:Int)<s.n:=by omega
 have ak:i<s.n:=by omega
 have w1:IntKind.i64.wrap ((i:Int)+1)=(i:Int)+1:=Ze (by omega)
 have rc:=x3.rd (q.val i c) (fun h=>h)
 have ab:=Za8 (l:=l.take i) ok
 have dm:=Q6 (l:=l.take i) ok (fun x hx=>Zcl h0 (Xgv hx))
 have H:Vs (Yu N (l.take i)) (Yf l i)=0:=by rw [dm.one]; exact Qt (hb i c)
 have I:=Zb5 (N:=N) c
 generalize Yf l i=cc at rc H I
 obtain ⟨kd,a,ii,o,w⟩:=cc
 simp only at rc
 simp [c',ak,Zb q.ok,rc]
 refine Yr (vs:=#[.int .i64 kd,.int .i64 a,.int .i64 ii,.int .i64 o,.int .i64 w]) rfl rfl (by simp) ?_
 intro K av gK al am stK
 simp
 refine stK _ ?_
 intro h4 K4 V
 clear stK al am
 have z3:=x3.size
 have z4:=V.size
 have G:=n3.ext V
 have D4:=D3.ext V
 have x4:=x3.trans V
 simp [K4.hc]
 by_cases k1:kd=1
 ·obtain ⟨a',ea,an,hw,w0,sn⟩:=Zfl H k1
  simp only at ea hw w0 sn
  subst ea
  have ln:=G.netH.ra.len
  have ao:(a':Int)<s2.n:=by omega
  simp [k1,D4.hc,K4.hc,Zb G.o2.ok,ao]
  refine G.setA an ?_
  intro h5 n5 m5
  have z5:=m5.size
  have u2:=G.u2
  have f2:=G.f2
  have J:Yu N (l.take (i+1))=setN (Yu N (l.take i)) a' w:=by rw [I]; simp [chN,k1]
  rw [<-sn,<-J] at n5
  simp [w1]
  exact ⟨⟨i+1,P3,_,_,_,_,rfl,by omega,n5,m5.blk D4 (by omega),m5.blk (C3.ext V) (by omega),Mod.ext x4 m5 (fun j hj=>by omega)⟩,by simp [Zo]; omega⟩
 ·obtain ⟨k2,t,A',B',o',ea,ei,eo,lt,ho,l1,l2,lp,hw,w0,sn⟩:=Zby ab H k1
  simp only at k2 ea ei eo hw w0 sn
  subst ea ei eo
  have ln:=G.netH.rt.len
  have ap:(t:Int)<s3.n:=by omega
  obtain ⟨u,ac,ou,fu,lu,hst⟩:=G.at lt
  obtain ⟨a1,a2,a3,a4,a5,_,_⟩:=Zfy (ab.tab t lt)
  obtain ⟨ti,ad⟩:∃ x:Nat,(Zp (Yu N (l.take i)).ts t).i=x:=⟨(Zp (Yu N (l.take i)).ts t).i.toNat,by omega⟩
  rw [ho,ad] at ac
  rw [ad] at a1 a2 l1
  rw [ho] at a3 a4
  simp [k1,D4.hc,K4.hc,Zb G.o3.ok,ap,ac]
  refine Yr (vs:=#[.int .i64 ti,.int .i64 o',u.v]) rfl rfl (by simp) ?_
  intro T aw gT aq ar ae
  simp
  refine ae _ ?_
  intro h5 T5 O
  clear ae aq ar
  have z5:=O.size
  have K5:=K4.ext O
  have x5:=x4.trans O
  have af:=ou.ext' O
  have ax:=af.row64.len
  have hz:A' * o'<=16 * 16:=Xg1 (by omega) (by omega)
  obtain ⟨z,ag⟩:∃ z:Nat,A' * o'=z:=⟨_,rfl⟩
  have ez:(A':Int) * (o':Int)=z:=by rw [<-ag]; simp
  rw [ag] at lp hz sn
  have wm:IntKind.i64.wrap ((A':Int) * o')=(z:Int):=by
   rw [ez,Ze (by omega)]
  have wp:IntKind.i64.wrap ((z:Int)+B')=((z+B':Nat):Int):=by
   rw [Ze (by omega)]
   simp
  have ay:((z+B':Nat):Int)<u.n:=by omega
  have U:=Zb (Y:=Y) (h:=h5) (s:=u) (sz:=1) (k:=.i64) (i:=((z+B':Nat):Int)) af.ok (by omega) (by omega)
  simp only [Xd9,Xej] at U
  rw [show ((z+B':Nat):Int)=(z:Int)+(B':Int) by simp] at U
  simp [T5.hc,K5.hc,wm,wp,U]
  refine hst h5 O _ (z+B') w lp ?_
  intro h6 P6 n6 m6
  have J:Yu N (l.take (i+1))=Zaw (Yu N (l.take i)) t A' B' w:=by rw [I]; simp [chN,k1]
  rw [<-sn,<-J] at n6
  simp [w1]
  exact ⟨⟨i+1,P6,_,_,_,_,rfl,by omega,n6,m6.blk (D4.ext O) (by omega),m6.blk ((C3.ext V).ext O) (by omega),Mod.ext x5 m6 (fun j hj=>by omega)⟩,by simp [Zo]; omega⟩
end
def chL (c:Ym):List Value:=[.int .i64 c.kd,.int .i64 c.a,.int .i64 c.i,.int .i64 c.o,.int .i64 c.w]
def Qz (l:List Ym):List Value:=l.flatMap chL
theorem Zkc {l:List Ym}:(Qz l).length=l.length * 5:=by
 induction l with
 | nil=>rfl
 | cons a r D=>simp only [Qz,Xgj,Xei,Xfd] at D ⊢; rw [D]; simp [chL]; omega
theorem Zu4 {l m:List Ym}:Qz (l++m)=Qz l++Qz m:=by simp [Qz]
theorem Zxc {l:List Ym}:∀ {i k:Nat},i<l.length->k<5->(Qz l)[i * 5+k]? = (chL (Yf l i))[k]? := by
 induction l with
 | nil=>intro i k h; simp at h
 | cons a r D =>
  intro i k h G
  have e:Qz (a::r)=chL a++Qz r:=by simp [Qz]
  rw [e]
  cases i with
  | zero=>rw [Xep (by simp [chL]; omega)]; simp [Yf]
  | succ i =>
   rw [Xe2 (by simp [chL]; omega)]
   have:=D (i:=i) (k:=k) (by simpa using h) G
   rw [show (i+1) * 5+k-(chL a).length=i * 5+k by simp [chL]; omega,this]
   simp [Yf]
section
variable {Y:Sys} {h h':Za}
theorem Yb.row5 {s:Sl} {l:List Ym} (o:Yb h 5 s (Qz l)):Zbt h s l:=by
 have G:=o.1
 rw [Zkc] at G
 refine ⟨o.ok,by omega,fun i H=>?_⟩
 refine Zal (l:=chL (Yf l i)) (fun j v r=>?_)
 have D:j<5:=by
  rcases Xd8 j 5 with k | k
  ·exact k
  ·rw [Xeu (by simp [chL]; omega)] at r; cases r
 have:=o.cell (i:=i * 5+j) (v:=v) (by rw [Zxc H D]; exact r)
 rwa [Xe4]
theorem Zvd {K:Value->Za->Prop} {z:Array Value} {c:Ym} (r:∀ (b:Nat) (h':Za),h.size<=b->Ys h' b (chL c).toArray->Ext h h'->K (.slice (some ⟨b,0,none⟩) 1 1) h') :
  Ef.wp h K (.bslice 1 5 z [0]) [.agg #[.int .i64 c.kd,.int .i64 c.a,.int .i64 c.i,.int .i64 c.o,.int .i64 c.w]]:=by
 refine Zch rfl rfl rfl ?_ (by omega)
 intro b h' g B e _
 exact r b h' g (by simpa [chL] using B) e
theorem Zuy {K:Value->Za->Prop} {bytes b:Nat} {z:Array Value} {s:Sl} {l:List Ym} {c:Ym} (hz:z.size=5) (o:Yb h 5 s (Qz l)) (hb:Ys h b (chL c).toArray) (D:(s.n+1) * bytes<=140737488355328) (G:s.n+1<=9223372036854775807)
  (H:∀ (r:Sl) (h':Za),Yb h' 5 r (Qz (l++[c]))->r.n=s.n+1->Mod (fun j=>s.nl=false/\j=s.b) h h'->((r.b=s.b/\r.nl=s.nl)\/(h.size<=r.b/\r.nl=false))->K r.v h') :
  Ef.wp h K (.append 5 bytes z) [s.v,.slice (some ⟨b,0,none⟩) 1 1]:=by
 have hs:Wq h 5 1 (.slice (some ⟨b,0,none⟩) 1 1)=some (chL c):=by
  rw [Zer]
  have:=Zy hb (n:=5) rfl
  simpa using this
 refine Vx o (m:=1) (nw:=chL c) rfl hs rfl (fun v hv=>?_) hz D G ?_
 ·simp only [chL,Xf8,Xgk,or_false] at hv
  rcases hv with rfl | rfl | rfl | rfl | rfl <;> rfl
 ·intro r h' I J m' hs'
  refine H r h' ?_ J m' hs'
  rw [Zu4]
  simpa [Qz] using I
def Xab (s:Sl) (l:List Ym) (h0:Za) (e:List Value) (h':Za):Prop :=
 ∃ (i:Nat) (u:Sl) (v1 v4:Value),e=[s.v,v1,u.v,.int .i64 i,v4]/\i<=l.length/\Yb h' 5 u (Qz (l.take i))/\(u.nl=false->h0.size<=u.b)/\Ext h0 h'
theorem Zzh (H:Y.Has 304 Y304) {s:Sl} {l:List Ym} (q:Zbt h s l) (V:l.length<=1000) {R:Value->Za->Prop}
  (Z:∀ h' u,Ext h h'->Yb h' 5 u (Qz l)->(u.nl=false->h.size<=u.b)->R u.v h'):Zm Y 304 [s.v] h R:=by
 have ll:=q.len
 refine .of_has H rfl ?_
 simp [Y304,Xa.wp]
 refine Zj (Xab s l h) (fun e _=>l.length-Zo e 3) ⟨0,Sl.nil,_,_,rfl,by omega,Yb.nil,fun h=>(by cases h),Mod.refl _⟩ ?_
 rintro e h1 ⟨i,u,v1,v4,rfl,hi,o1,f1,r⟩
 by_cases c:i<l.length
 rotate_left
 ·have c':¬ (i:Int)<s.n:=by omega
  obtain rfl:i=l.length:=by omega
  rw [Xfl] at o1
  simp [c']
  exact Z h1 u r o1 f1
 have c':(i:Int)<s.n:=by omega
 have w1:IntKind.i64.wrap ((i:Int)+1)=(i:Int)+1:=Ze (by omega)
 obtain ⟨a0,a1,a2,a3,a4⟩:=(q.ext' r).cell c
 have hb:∀ (g:Za) (G I J M O:Int),Yg.sem Y g (.build #[.int .i64 0,.int .i64 0,.int .i64 0,.int .i64 0,.int .i64 0] [(0,1),(1,1),(2,1),(3,1),(4,1)] [0,1,2,3,4]) [.int .i64 G,.int .i64 I,.int .i64 J,.int .i64 M,.int .i64 O]=some (.agg #[.int .i64 G,.int .i64 I,.int .i64 J,.int .i64 M,.int .i64 O]):=fun g G I J M O=>by simp [Yg.sem,Instr.fill]
 simp [c',Zb q.ok,a0,a1,a2,a3,a4,hb]
 refine Zvd ?_
 intro b h2 g2 B2 e2
 simp
 have D:=o1.1
 rw [Zkc] at D
 simp at D
 refine Zuy rfl (o1.ext' e2) B2 (by omega) (by omega) ?_
 intro u' h3 o3 n3 m3 U
 have z1:=r.size
 have z2:=e2.size
 simp [w1]
 have ht:l.take (i+1)=l.take i++[Yf l i]:=by rw [Xel c]; simp [Yf,c]
 rw [<-ht] at o3
 refine ⟨⟨i+1,u',_,_,rfl,by omega,o3,fun D=>?_,Mod.ext (r.trans e2) m3 (fun j X=>by have:=f1 X.1; have:=X.2; omega)⟩,by simp [Zo]; omega⟩
 rcases U with ⟨k1,k2⟩ | ⟨k1,_⟩
 ·rw [k1]; exact f1 (by rw [<-k2]; exact D)
 ·omega
end
structure Zo6 (Y:Sys):Prop where
 fresh:Y.Has 324 Y324
 twin:Y.Has 323 Y323
section
variable {Y:Sys} {h h':Za}
theorem Zf1 (T:Zo6 Y) {s:Sl} {l:List Int} (r:Zz h s l) (D:l.length<=1000000) {R:Value->Za->Prop}
  (G:∀ h' u,Ext h h'->Yb h' 1 u (Zh l)->(u.nl=true\/h.size<=u.b)->R u.v h'):Zm Y 324 [s.v] h R:=by
 refine .of_has T.fresh rfl ?_
 simp [Y324,Xa.wp]
 rw [show (Value.slice none 0 0)=Sl.nil.v from rfl]
 refine Zc4 (s0:=Sl.nil) r (by rw [<-r.len]; omega) Yb.nil (.inl rfl) (Mod.refl _) ?_
 intro u h1 o1 hu H
 simp
 exact G h1 u H o1 hu
def Xdt (B rb M:Nat) (v0:Value) (s:Sl) (L:List (List Int)) (h0:Za) (e:List Value) (h':Za):Prop :=
 ∃ (i:Nat) (s1:Sl) (P:List (List Int × Sl)) (v4 v8:Value),e=[v0,.pointer (some ⟨B,0,none⟩),.pointer (some ⟨rb,0,none⟩),.pointer (some ⟨M,0,none⟩),v4,s.v,.int .i64 s.n,.int .i64 i,v8]/\i<=L.length/\Ys h' M #[s1.v]/\Yb h' 1 s1 (P.map fun p=>p.2.v)/\P.map Prod.fst=L.take i/\Zo1 h0.size h' s1 P/\(s1.nl=true\/h0.size<=s1.b)/\Mod (fun j=>j=M) h0 h'
theorem Zmx (T:Zo6 Y) {s:Sl} {L:List (List Int)} (r:Ql h s L) (ak:s.n<=1000) (ac:∀ i,i<L.length->(Zq L i).length<=1000000) {R:Value->Za->Prop}
  (hr:∀ h' s',Ext h h'->(∀ g,Mod (fun j=>j<h.size) h' g->Ql g s' L)->R (X0 s') h'):Zm Y 323 [X0 s] h R:=by
 refine .of_has T.twin rfl ?_
 have lL:=r.len
 simp [Y323,Xa.wp,X0]
 refine Zd ?_
 intro B h1 g1 B1 e1
 simp
 refine Zd ?_
 intro rb h2 g2 R2 e2
 have R2:Ys h2 rb #[.slice none 0 0]:=R2
 simp
 refine Zd ?_
 intro M U X M3 e3
 have M3:Ys U M #[.slice none 0 0]:=M3
 have x3:=(e1.trans e2).trans e3
 have lM:=M3.lt
 have lR:=R2.lt
 have lB:=B1.lt
 have z1:=e1.size
 have z2:=e2.size
 have z3:=e3.size
 have B3:=(B1.ext e2).ext e3
 have R3:=R2.ext e3
 simp [B3.hc]
 refine Zj (Xdt B rb M (.agg #[s.v]) s L U) (fun e _=>L.length-Zo e 7) ⟨0,Sl.nil,[],_,_,rfl,by omega,M3,by simpa using Yb.nil,by simp,by intro q hq; simp at hq,.inl rfl,Mod.refl _⟩ ?_
 rintro e h4 ⟨i,O,P,v4,v8,rfl,hi,M4,o4,hP,hT,ag,m4⟩
 have B4:=m4.blk B3 (by omega)
 have R4:=m4.blk R3 (by omega)
 have x4:Ext h h4:=Mod.ext x3 m4 (fun j hj=>by omega)
 have n4:=o4.1
 simp at n4
 have al:P.length=i:=by
  have:=congrArg List.length hP
  simp at this
  omega
 have G:O.nl=false->U.size<=O.b:=fun D=>ag.resolve_left (by rw [D]; simp)
 have l1:O.nl=false->O.b<h4.size:=fun D=>o4.lt D
 have z4:=m4.size
 by_cases c:i<s.n
 rotate_left
 ·have c':¬ (i:Int)<s.n:=by omega
  simp [B4.hc,c',Zy M4]
  refine Zi R4 rfl rfl (by simp) ?_
  intro h5 R5 m5
  simp
  refine Yt rfl R5 rfl ?_
  rw [Xef (by omega)] at hP
  refine hr h5 O (Mod.ext x4 m5 (fun j hj=>by omega)) (fun g mg=>?_)
  refine Yb.rowL ((o4.mod m5 (fun D=>by have:=G D; omega)).mod mg (fun D hb=>by have:=G D; omega)) hP ?_
  intro q hq
  obtain ⟨a,b⟩:=hT q hq
  exact (a.mod m5 (fun D=>by have:=(b D).1; omega)).mod mg (fun D hb=>by have:=(b D).1; omega)
 have c':(i:Int)<s.n:=by omega
 have w1:IntKind.i64.wrap ((i:Int)+1)=(i:Int)+1:=Ze (by omega)
 obtain ⟨u,hu,ru⟩:=r.at (i:=i) c
 have lu:=ru.len
 have am:=ac i (by omega)
 simp [B4.hc,M4.hc,c',c,Zb r.ok,hu,x4]
 refine Zf1 T (ru.ext x4) (by omega) ?_
 intro h6 I H o6 ah
 have M6:=M4.ext H
 simp [M6.hc]
 refine Xe rfl ?_
 intro b7 h7 g7 V7 e7
 have M7:=M6.ext e7
 have o7:=(o4.ext' H).ext' e7
 have z7:=e7.size
 simp [M7.hc]
 refine Wc (bytes:=24) rfl o7 V7 (by omega) (by omega) ?_
 intro J h8 o8 an m8 ad
 have M8:=m8.blk M7 (fun hq=>by have:=G hq.1; omega)
 have z6:=H.size
 have z8:=m8.size
 have V:J.nl=false->U.size<=J.b:=by
  intro hq
  rcases ad with ⟨Z,q2⟩ | ⟨Z,q2⟩
  ·rw [Z]; exact G (by rw [<-q2]; exact hq)
  ·omega
 simp
 refine stB M8 (by simp) ?_
 intro h9 M9 m9
 have z9:=m9.size
 simp [w1]
 have aa:Zq L i≠[]->I.nl=false/\I.b<h6.size:=fun ab=>by
  obtain ⟨_,hb,_,ae⟩:=o6.blk (i:=0) (by have:=List.length_pos_iff.2 ab; simpa [Zh] using this)
  exact ⟨ae,o6.lt ae⟩
 have ub:Zq L i≠[]->h4.size<=I.b:=fun ab=>ah.resolve_left (by rw [(aa ab).1]; simp)
 have af:∀ k,k<h6.size->(O.nl=false->k≠O.b)->J.nl=false->k≠J.b:=by
  intro k hk h1 hq
  rcases ad with ⟨Z,q2⟩ | ⟨Z,q2⟩
  ·rw [Z]; exact h1 (by rw [<-q2]; exact hq)
  ·omega
 have o9:Yb h9 1 J ((P++[(Zq L i,I)]).map fun p=>p.2.v):=by
  have:=o8.mod m9 (fun hq=>by have:=V hq; omega)
  simpa using this
 have ai:Zo1 U.size h9 J (P++[(Zq L i,I)]):=by
  intro q hq
  rcases List.mem_append.1 hq with g | g
  ·obtain ⟨g1,X⟩:=hT q g
   refine ⟨(((g1.ext H).ext e7).mod m8 (fun D hq=>(X D).2.1 hq.1 hq.2)).mod m9 (fun D=>by have:=(X D).1; omega),fun D=>⟨(X D).1,?_,by have:=(X D).2.2; omega⟩⟩
   exact af _ (by have:=(X D).2.2; omega) (X D).2.1
  ·simp only [Xg3] at g
   subst g
   refine ⟨((o6.row64.ext e7).mod m8 (fun D hq=>by have:=ub D; have:=l1 hq.1; have:=hq.2; omega)).mod m9 (fun D=>by have:=ub D; omega),fun D=>⟨?_,?_,?_⟩⟩
   ·have:=ub D; show U.size<=I.b; omega
   ·exact af I.b (aa D).2 (fun hq=>by have:=ub D; have:=l1 hq; omega)
   ·have:=(aa D).2; show I.b<h9.size; omega
 have aj:(P++[(Zq L i,I)]).map Prod.fst=L.take (i+1):=by
  rw [Xel (by omega),Xe1,hP,Znk (by omega)]; simp
 have hN:J.nl=true\/U.size<=J.b:=by
  cases hq:J.nl with
  | true=>exact .inl rfl
  | false=>exact .inr (V hq)
 have mm:Mod (fun j=>j=M) U h9:=by
  have Z:Mod (fun j=>j=M\/(O.nl=false/\j=O.b)) h4 h9 :=
   (((H.trans e7).mono (fun _ _ h=>h.elim)).trans (m8.mono (fun _ _ h=>.inr h))).trans (m9.mono (fun _ _ h=>.inl h))
  refine Mod.then m4 Z ?_
  intro k hk hq
  rcases hq with hq | hq
  ·exact hq
  ·have:=G hq.1; omega
 refine ⟨⟨i+1,J,P++[(Zq L i,I)],_,_,rfl,by omega,by simpa using M9,o9,aj,ai,hN,mm⟩,by simp [Zo]; omega⟩
end
def entN (N:Zg) (L:List (List Int)) (k c:Nat):Nat:=(Zn N L k false c).length * (Zn N L k true c).length
def cellS (N:Zg) (L:List (List Int)) (k:Nat):Nat->Nat
 | 0=>0
 | c+1=>cellS N L k c+entN N L k c
def levelS (N:Zg) (L:List (List Int)):Nat->Nat
 | 0=>0
 | k+1=>levelS N L k+cellS N L k (Zw L k)
def Z9 (N:Zg) (L:List (List Int)) (k:Nat):List Int:=(List.range (Zw L k)).map fun c=>((levelS N L k+cellS N L k c:Nat):Int)
theorem Wb {N:Zg} {L:List (List Int)} {k c:Nat} {x:Bool}:(Zn N L k x c).length<=N.as.length:=Xew (Xe8 ..) Zji
theorem Zov {N:Zg} {L:List (List Int)} {k c:Nat} (r:Yd N):entN N L k c<=268435456:=by
 have h1:=r.ba
 have D:=Wb (N:=N) (L:=L) (k:=k) (c:=c) (x:=false)
 have G:=Wb (N:=N) (L:=L) (k:=k) (c:=c) (x:=true)
 exact Xew (Xg1 (Xew D h1) (Xew G h1)) (by decide)
theorem Zjt {N:Zg} {L:List (List Int)} {k:Nat} (r:Yd N):∀ {c:Nat},cellS N L k c<=c * 268435456:=by
 intro c
 induction c with
 | zero=>exact Xd6 _
 | succ c D =>
  have:=Zov (L:=L) (k:=k) (c:=c) r
  simp only [cellS]
  omega
theorem Q2 {N:Zg} {L:List (List Int)} (r:Yd N) (D:Yx N.vs.length L):∀ {k:Nat},k<=L.length->levelS N L k<=k * 1099511627776:=by
 intro k
 induction k with
 | zero=>intro _; exact Xd6 _
 | succ k G =>
  intro H
  have h1:=G (by omega)
  have I:=Zjt (L:=L) (k:=k) (c:=Zw L k) r
  have J:=(Xi D (i:=k) (by omega)).2.2.1
  simp only [levelS]
  omega
structure Ziz (h:Za) (s:Sl) (N:Zg) (L:List (List Int)):Prop where
 ok:s.ok
 len:L.length=s.n
 val:∀ i,i<L.length->∃ u:Sl,hc h s.b (s.o+i)=some u.v/\Zz h u (Z9 N L i)
theorem Ziz.ext {h h':Za} {s:Sl} {N:Zg} {L:List (List Int)} (g:Ziz h s N L) (e:Ext h h'):Ziz h' s N L :=
 ⟨g.ok,g.len,fun i r=>by
  obtain ⟨u,a,b⟩:=g.val i r
  exact ⟨u,e.hc a (fun h=>h),b.ext e⟩⟩
def Up (h:Za) (op:Nat) (N:Zg) (L:List (List Int)):Prop :=
 ∃ (q f t g st:Sl) (z:Int),Ys h op #[q.v,f.v,t.v,g.v,st.v,.int .i64 z]/\Ql h q L/\Zho h g N L/\Zz h f (N.as.map fun t=>t.a)/\Zz h t (N.as.map fun t=>t.b)/\Ziz h st N L/\z=(levelS N L L.length:Nat)
theorem Up.ext {h h':Za} {op:Nat} {N:Zg} {L:List (List Int)} (v:Up h op N L) (e:Ext h h'):Up h' op N L:=by
 obtain ⟨q,f,t,g,r,z,B,D,G,H,rt,I,J⟩:=v
 exact ⟨q,f,t,g,r,z,B.ext e,D.ext e,G.ext e,H.ext e,rt.ext e,I.ext e,J⟩
structure Zdi (Y:Sys):Prop where
 New:Y.Has 315 Y315
 Part:Y.Has 318 Y318
 Levels:Y.Has 316 Y316
 Cells:Y.Has 317 Y317
 T:Zo6 Y
 GO:Z3a Y
 From:Y.Has 193 Y193
 Arcs:Y.Has 209 Y209
section
variable {Y:Sys} {h h':Za}
def Xb8 (p B op:Nat) (v1:Value) (q g:Sl) (N:Zg) (h0:Za) (e:List Value) (h':Za):Prop :=
 ∃ (i:Nat) (f t:Sl) (v7 v8 v9 v10 v11 v12 v15 v16 v17 v18 v19 v20 v21 v22 v23:Value),e=[.pointer (some ⟨p,0,none⟩),v1,.pointer (some ⟨B,0,none⟩),.pointer none,.nilIface,.nilIface,.pointer (some ⟨op,0,none⟩),v7,v8,v9,v10,v11,v12,.int .i64 N.as.length,.int .i64 i,v15,v16,v17,v18,v19,v20,v21,v22,v23]/\i<=N.as.length /\
  Ys h' op #[q.v,f.v,t.v,g.v,.slice none 0 0,.int .i64 0]/\Yb h' 1 f (Zh ((N.as.take i).map fun t=>t.a))/\Yb h' 1 t (Zh ((N.as.take i).map fun t=>t.b))/\(f.nl=false->h0.size<=f.b)/\(t.nl=false->h0.size<=t.b)/\(f.nl=false->t.nl=false->f.b≠t.b)/\Mod (fun j=>j=op) h0 h'
def Xdu (p B op:Nat) (v1:Value) (q f t g:Sl) (N:Zg) (L:List (List Int)) (h0:Za) (e:List Value) (h':Za):Prop :=
 ∃ (i:Nat) (st:Sl) (cs:List Value) (z:Int) (v7 v8 v9 v10 v11 v12 v13 v14 v15 v19 v20 v21 v22 v23:Value),e=[.pointer (some ⟨p,0,none⟩),v1,.pointer (some ⟨B,0,none⟩),.pointer none,.nilIface,.nilIface,.pointer (some ⟨op,0,none⟩),v7,v8,v9,v10,v11,v12,v13,v14,v15,g.v,.int .i64 g.n,.int .i64 i,v19,v20,v21,v22,v23]/\i<=g.n /\
  Ys h' op #[q.v,f.v,t.v,g.v,st.v,.int .i64 z]/\Yb h' 1 st cs/\cs.length=i/\(st.nl=false->h0.size<=st.b)/\Mod (fun j=>j=op) h0 h'/\z=(levelS N L i:Nat)/\∀ k,k<i->∃ b,cs[k]? = some (Sl.at b (Zw L k) (Zw L k)).v/\h0.size<=b/\(st.nl=false->b≠st.b)/\Yb h' 1 (Sl.at b (Zw L k) (Zw L k)) (Zh (Z9 N L k))
def Xdp (p B op W n i:Nat) (v1:Value) (q f t g st u:Sl) (N:Zg) (L:List (List Int)) (h0:Za) (e:List Value) (h':Za):Prop :=
 ∃ (j:Nat) (vs:List Value) (z:Int) (v7 v10 v11 v12 v13 v14 v15 v19 v23:Value),e=[.pointer (some ⟨p,0,none⟩),v1,.pointer (some ⟨B,0,none⟩),.pointer none,.nilIface,.nilIface,.pointer (some ⟨op,0,none⟩),v7,u.v,.slice (some ⟨W,0,none⟩) n n,v10,v11,v12,v13,v14,v15,g.v,.int .i64 g.n,.int .i64 i,v19,u.v,.int .i64 n,.int .i64 j,v23]/\j<=n /\
  Ys h' op #[q.v,f.v,t.v,g.v,st.v,.int .i64 z]/\Yb h' 1 (Sl.at W n n) vs/\Mod (fun k=>k=op\/k=W) h0 h'/\z=(levelS N L i+cellS N L i j:Nat)/\∀ c,c<j->vs[c]? = some (.int .i64 ((levelS N L i+cellS N L i c:Nat):Int))
set_option maxHeartbeats 2000000 in
theorem Znq (O:Zdi Y) {p:Nat} {N:Zg} {S:Nat->Prop} {L:List (List Int)} {s:Sl} (g:Yv h p N S) (r:Ql h s L) (ok:Yd N) (pk:Yx N.vs.length L) {R:Value->Za->Prop}
  (hr:∀ h' op,Ext h h'->h.size<=op->(∀ k,Mod (fun j=>j<h.size) h' k->Up k op N L)->R (.tuple #[.pointer (some ⟨op,0,none⟩),.nilIface]) h'):Zm Y 315 [.pointer (some ⟨p,0,none⟩),X0 s] h R:=by
 refine .of_has O.New rfl ?_
 have lL:=r.len
 have bL:=pk.bL
 have bN:=pk.bn
 have bA:=ok.ba
 have am:∀ i,i<L.length->(Zq L i).length<=1000000:=fun i hi=>by
  have:=(Xi pk hi).1
  omega
 simp [Y315,Xa.wp,X0]
 refine Zd ?_
 intro B h1 g1 B1 e1
 have z1:=e1.size
 simp [Zy B1]
 refine Zh4 O.GO.R.G.Verts (g.ext e1) ?_
 simp [Zy B1]
 refine Zie O.GO.P (r.ext e1) pk ?_
 intro h2 e2
 have x2:=e1.trans e2
 have B2:=B1.ext e2
 have z2:=e2.size
 simp [Zy B2]
 refine Zmx O.T (r.ext x2) (by omega) am ?_
 intro h3 q e3 fq
 have x3:=x2.trans e3
 have B3:=B2.ext e3
 have z3:=e3.size
 simp [Zy B3]
 rw [show (Value.agg #[s.v])=X0 s from rfl]
 refine Zob O.GO (g.ext x3) (r.ext x3) ok pk ?_
 intro h4 Z e4 fg
 have x4:=x3.trans e4
 have z4:=e4.size
 have a6:=(fg h4 (Mod.refl _)).len
 have hb:Yg.sem Y h4 (.build #[.slice none 0 0,.slice none 0 0,.slice none 0 0,.slice none 0 0,.slice none 0 0,.int .i64 0] [(0,1),(1,1),(2,1),(3,1),(4,1),(5,1)] [0,3]) [X0 q,Z.v]=some (.agg #[q.v,.slice none 0 0,.slice none 0 0,Z.v,.slice none 0 0,.int .i64 0]):=by
  simp [Yg.sem,Instr.fill,X0,Value.cells,Sl.v]
 simp [hb]
 refine Zd ?_
 intro op h5 g5 O5 e5
 have O5:Ys h5 op #[q.v,.slice none 0 0,.slice none 0 0,Z.v,.slice none 0 0,.int .i64 0]:=O5
 have x5:=x4.trans e5
 have z5:=e5.size
 have lO:=O5.lt
 simp
 refine Zbp O.Arcs (g.ext x5) ?_
 simp
 refine Zj (Xb8 p B op (.agg #[s.v]) q Z N h5) (fun e _=>N.as.length-Zo e 14) ⟨0,Sl.nil,Sl.nil,_,_,_,_,_,_,_,_,_,_,_,_,_,_,_,rfl,by omega,O5,Yb.nil,Yb.nil,fun h=>(by cases h),fun h=>(by cases h),fun h=>(by cases h),Mod.refl _⟩ ?_
 rintro e h6 ⟨i,f,t,v7,v8,v9,a7,a8,a9,bb,bc,bd,be,bg,bh,bi,bk,bm,rfl,hi,O6,of,ot,ff,ft,an,m6⟩
 have x6:Ext h h6:=Mod.ext x5 m6 (fun j J=>by omega)
 have z6:=m6.size
 have lf:=of.1
 have lt:=ot.1
 simp at lf lt
 by_cases c:i<N.as.length
 ·have c':(i:Int)<N.as.length:=by omega
  have w1:IntKind.i64.wrap ((i:Int)+1)=(i:Int)+1:=Ze (by omega)
  have hv:Zt N.as.length (i:Int)=true:=by simp [Zt]; omega
  have aJ:Zcq N (i:Int)=(Zf N.as i).a:=by simp [Zcq,hv]
  have aK:toV N (i:Int)=(Zf N.as i).b:=by simp [toV,hv]
  have ao:N.as.take (i+1)=N.as.take i++[Zf N.as i]:=by rw [Xel c,Wj c]
  simp [c',O6.hc]
  refine Zbm O.From O.GO.R.G.arc (g.ext x6) ?_
  rw [aJ]
  simp [O6.hc]
  refine Xe rfl ?_
  intro b7 h7 g7 V7 e7
  have O7:=O6.ext e7
  have z7:=e7.size
  simp [O7.hc]
  refine Wc rfl (of.ext' e7) V7 (by omega) (by omega) ?_
  intro f' h8 aL bo m8 ap
  have z8:=m8.size
  have O8:=m8.blk O7 (fun J=>by have:=ff J.1; have:=J.2; omega)
  have ag:f'.nl=false->h5.size<=f'.b:=fun H=>by
   rcases ap with ⟨k1,k2⟩ | ⟨k1,_⟩
   ·rw [k1]; exact ff (by rw [<-k2]; exact H)
   ·omega
  have aM:=(ot.ext' e7).mod m8 (fun H J=>an J.1 H J.2.symm)
  have d8:f'.nl=false->t.nl=false->f'.b≠t.b:=fun H ht=>by
   rcases ap with ⟨k1,k2⟩ | ⟨k1,_⟩
   ·rw [k1]; exact an (by rw [<-k2]; exact H) ht
   ·have:=ot.lt ht; omega
  simp
  refine stB O8 (o:=1) (by simp) ?_
  intro h9 O9 m9
  have O9:Ys h9 op #[q.v,f'.v,t.v,Z.v,.slice none 0 0,.int .i64 0]:=O9
  have z9:=m9.size
  have aq:=aL.mod m9 (fun H J=>by have:=ag H; omega)
  have aN:=aM.mod m9 (fun H J=>by have:=ft H; omega)
  have ar:Mod (fun j=>j=op) h5 h9:=((m6.trans (e7.mono fun _ _ h=>h.elim)).then m8 (fun j J hb=>by have:=ff hb.1; have:=hb.2; omega)).trans m9
  have x9:Ext h h9:=Mod.ext x5 ar (fun j J=>by omega)
  simp [O9.hc]
  refine Zak O.GO.R.G.To O.GO.R.G.arc (g.ext x9) ?_
  rw [aK]
  simp [O9.hc]
  refine Xe rfl ?_
  intro bp ah bq V10 I
  have O10:=O9.ext I
  have au:=I.size
  simp [O10.hc]
  refine Wc rfl (aN.ext' I) V10 (by omega) (by omega) ?_
  intro t' av aw a4 M X
  have ax:=M.size
  have O11:=M.blk O10 (fun J=>by have:=ft J.1; have:=J.2; omega)
  have ac:t'.nl=false->h5.size<=t'.b:=fun H=>by
   rcases X with ⟨k1,k2⟩ | ⟨k1,_⟩
   ·rw [k1]; exact ft (by rw [<-k2]; exact H)
   ·omega
  have ay:=(aq.ext' I).mod M (fun H J=>d8 H J.1 J.2)
  have aO:f'.nl=false->t'.nl=false->f'.b≠t'.b:=fun H ht=>by
   rcases X with ⟨k1,k2⟩ | ⟨k1,_⟩
   ·rw [k1]; exact d8 H (by rw [<-k2]; exact ht)
   ·have:=aq.lt H; omega
  simp
  refine stB O11 (o:=2) (by simp) ?_
  intro aa O12 U
  have O12:Ys aa op #[q.v,f'.v,t'.v,Z.v,.slice none 0 0,.int .i64 0]:=O12
  simp [w1]
  have az:Mod (fun j=>j=op) h5 aa:=((ar.trans (I.mono fun _ _ h=>h.elim)).then M (fun j J hb=>by have:=ft hb.1; have:=hb.2; omega)).trans U
  refine ⟨⟨i+1,f',t',_,_,_,_,_,_,_,_,_,_,_,_,_,_,_,rfl,by omega,O12,?_,?_,ag,ac,aO,az⟩,by simp [Zo]; omega⟩
  ·have:=ay.mod U (fun H J=>by have:=ag H; omega)
   rw [ao]
   simpa [Zh] using this
  ·have:=aw.mod U (fun H J=>by have:=ac H; omega)
   rw [ao]
   simpa [Zh] using this
 have c':¬ (i:Int)<N.as.length:=by omega
 obtain rfl:i=N.as.length:=by omega
 rw [Xfl] at of ot
 simp [c',O6.hc]
 have br:=of.row64
 have bs:=ot.row64
 have bv:f.nl=false->f.b<h6.size:=fun H=>of.lt H
 have bw:t.nl=false->t.b<h6.size:=fun H=>ot.lt H
 refine Zj (Xdu p B op (.agg #[s.v]) q f t Z N L h6) (fun e _=>Z.n-Zo e 18) ⟨0,Sl.nil,[],0,_,_,_,_,_,_,_,_,_,_,_,_,_,_,rfl,by omega,O6,Yb.nil,rfl,fun h=>(by cases h),Mod.refl _,rfl,fun k hk=>(by omega)⟩ ?_
 rintro e h7 ⟨k,st,cs,z,w7,w8,w9,bx,bz,bB,bC,bD,bF,bG,bH,bJ,bK,bM,rfl,hk,O7,os,aA,fs,m7,aB,aC⟩
 have z7:=m7.size
 have aP:=os.1
 simp at aP
 have aQ:Mod (fun j=>j=op) h5 h7:=m6.trans m7
 have ab:Ext h4 h7:=Mod.ext e5 aQ (fun j J=>by omega)
 have x7:Ext h h7:=x4.trans ab
 by_cases d:k<Z.n
 rotate_left
 ·have d':¬ (k:Int)<Z.n:=by omega
  simp [d']
  refine hr h7 op x7 (by omega) (fun y my=>⟨q,f,t,Z,st,z,my.blk O7 (by omega),?_,?_,?_,?_,⟨os.ok,by omega,fun i hi=>?_⟩,by rw [aB,show k=L.length by omega]⟩)
  ·exact fq y (((e4.trans ab).mono fun _ _ h=>h.elim).trans (my.mono fun j _ J=>by omega))
  ·exact fg y ((ab.mono fun _ _ h=>h.elim).trans (my.mono fun j _ J=>by omega))
  ·exact ((of.mod m7 (fun H J=>by have:=ff H; omega)).mod my (fun H J=>by have:=ff H; omega)).row64
  ·exact ((ot.mod m7 (fun H J=>by have:=ft H; omega)).mod my (fun H J=>by have:=ft H; omega)).row64
  ·obtain ⟨b,b1,b2,b3,b4⟩:=aC i (by omega)
   exact ⟨Sl.at b (Zw L i) (Zw L i),Yb.cell (os.mod my (fun H J=>by have:=fs H; omega)) b1,(b4.mod my (fun H J=>by simp at J; omega)).row64⟩
 have d':(k:Int)<Z.n:=by omega
 have w1:IntKind.i64.wrap ((k:Int)+1)=(k:Int)+1:=Ze (by omega)
 obtain ⟨u,hu,cu⟩:=Zgo (fg h4 (Mod.refl _)) d
 have aR:=hu h7 ab
 have aS:=(fg h4 (Mod.refl _)).ok
 obtain ⟨_,_,gb,_⟩:=Xi pk (i:=k) (by omega)
 have ai:=cu.len
 obtain ⟨n,H⟩:∃ n,Zw L k=n:=⟨_,rfl⟩
 rw [H] at cu ai gb
 simp [d',Zb aS,aR,ai]
 refine Ze3 (n:=n) (by omega) rfl ?_
 intro W h8 g8 oW e8 lW
 have O8:=O7.ext e8
 have z8:=e8.size
 have bO:=O7.lt
 simp [ai]
 refine Zj (Xdp p B op W n k (.agg #[s.v]) q f t Z st u N L h8) (fun e _=>n-Zo e 22) ⟨0,_,z,_,_,_,_,_,_,_,_,_,rfl,by omega,O8,oW,Mod.refl _,by rw [aB]; rfl,fun c hc=>(by omega)⟩ ?_
 clear O8 oW
 rintro e h9 ⟨j,vs,z,y7,bP,bQ,bR,bT,bU,bW,bX,bY,rfl,J,O9,oW,m9,aj,aD⟩
 have z9:=m9.size
 have aT:=oW.1
 simp at aT
 have aU:Ext h4 h9:=Mod.ext (ab.trans e8) m9 (fun j J=>by omega)
 by_cases b:j<n
 ·have b':(j:Int)<n:=by omega
  have w2:IntKind.i64.wrap ((j:Int)+1)=(j:Int)+1:=Ze (by omega)
  obtain ⟨a1,a2,ha,aV,aW⟩:=Zjv cu b
  have aX:=aV.len
  have aY:=aW.len
  obtain ⟨_,_,ra⟩:=ha h9 aU
  have bu:(j:Int)<u.n:=by omega
  simp [b',Zb cu.ok,bu,ra]
  refine Yr (vs:=#[a1.v,a2.v]) rfl rfl (by simp) ?_
  intro D bZ gD aZ a0 aE
  simp
  refine aE _ ?_
  intro ah D10 I
  clear aE aZ a0
  have au:=I.size
  have O10:=O9.ext I
  have ad:=oW.ext' I
  have aF:=Zb (Y:=Y) (h:=ah) (s:=Sl.at W n n) (sz:=1) (k:=.i64) (i:=(j:Int)) ad.ok (by omega) (by simp; omega)
  simp at aF
  simp [O10.hc,aF]
  have ae:=fun K v=>stN (v:=v) (K:=K) ad (k:=j) (by omega)
  simp only [Sl.at_b,Sl.at_o,Xes] at ae
  refine ae _ _ ?_
  intro av aG M
  have ax:=M.size
  have O11:=M.blk O10 (by omega)
  have D11:=M.blk D10 (by omega)
  simp [O11.hc,D11.hc]
  refine stB O11 (o:=5) (by simp) ?_
  intro aa O12 U
  simp at O12
  simp [w2]
  refine ⟨⟨j+1,_,_,_,_,_,_,_,_,_,_,_,rfl,by omega,O12,aG.mod U (fun _ hb=>by simp at hb; omega),?_,?_,?_⟩,by simp [Zo]; omega⟩
  rotate_left
  ·have hE:entN N L k j=a1.n * a2.n:=by unfold entN; rw [aX,aY]
   have bE:=Zov (L:=L) (k:=k) (c:=j) ok
   have bS:=Zjt (L:=L) (k:=k) (c:=j) ok
   have bV:=Q2 ok pk (k:=k) (by omega)
   have bj:j * 268435456<=4096 * 268435456:=Xe7 _ (by omega)
   rw [show ((a1.n:Int) * a2.n)=((entN N L k j:Nat):Int) by rw [hE]; exact (Int.natCast_mul ..).symm]
   have w3:IntKind.i64.wrap ((entN N L k j:Nat):Int)=((entN N L k j:Nat):Int):=Ze (by omega)
   rw [w3,aj,Ze (by omega)]
   simp only [cellS]
   omega
  ·intro c hc
   rw [Xfs]
   by_cases q:j=c
   ·subst q
    rw [if_pos rfl,if_pos (by omega),aj]
   ·rw [if_neg q]
    exact aD c (by omega)
  exact ((m9.trans (I.mono fun _ _ h=>h.elim)).trans (M.mono fun _ _ h=>.inr h)).trans (U.mono fun _ _ h=>.inl h)
 have b':¬ (j:Int)<n:=by omega
 simp [b',O9.hc]
 refine Xe rfl ?_
 intro V ah gV V10 I
 have au:=I.size
 have O10:=O9.ext I
 have ak:Mod (fun k=>k=op\/k=W) h7 h9:=(e8.mono fun _ _ h=>h.elim).trans m9
 have a3:=os.mod ak (fun H hb=>by have:=fs H; have:=os.lt H; omega)
 simp [O10.hc]
 refine Wc rfl (a3.ext' I) V10 (by omega) (by omega) ?_
 intro al av aH a5 M X
 have ax:=M.size
 have O11:=M.blk O10 (fun hb=>by have:=fs hb.1; have:=hb.2; omega)
 have af:al.nl=false->h6.size<=al.b:=fun H=>by
  rcases X with ⟨k1,k2⟩ | ⟨k1,_⟩
  ·rw [k1]; exact fs (by rw [<-k2]; exact H)
  ·omega
 simp
 refine stB O11 (o:=4) (by simp) ?_
 intro aa O12 U
 simp at O12
 simp [w1]
 refine ⟨⟨k+1,al,_,z,_,_,_,_,_,_,_,_,_,_,_,_,_,_,rfl,by omega,O12,aH.mod U (fun H hb=>by have:=af H; omega),by simp [aA],af,?_,?_,?_⟩,by simp [Zo]; omega⟩
 rotate_left
 ·rw [aj,show j=n by omega,<-H]
  rfl
 ·intro k1 b0
  by_cases q:k1=k
  ·subst q
   rw [H]
   refine ⟨W,by rw [Xe2 (by omega),aA]; simp,by omega,fun hs=>?_,?_⟩
   ·rcases X with ⟨k1,k2⟩ | ⟨k1,_⟩
    ·rw [k1]; have:=os.lt (by rw [<-k2]; exact hs); omega
    ·omega
   ·have hv:vs=Zh (Z9 N L k1):=by
     refine Xgg fun c=>?_
     by_cases d:c<n
     ·rw [aD c (by omega)]
      simp [Zh,Z9,H,d]
     ·rw [Xeu (by omega),Xeu (by simp [Z9,H]; omega)]
    rw [<-hv]
    exact ((oW.ext' I).mod M (fun _ hb=>by have:=os.lt hb.1; have:=hb.2; simp at this; omega)).mod U (fun _ hb=>by simp at hb; omega)
  ·obtain ⟨b,b1,b2,b3,b4⟩:=aC k1 (by omega)
   have lb:=b4.lt rfl
   simp at lb
   refine ⟨b,by rw [Xep (by omega)]; exact b1,b2,fun hs=>?_,?_⟩
   ·rcases X with ⟨k1,k2⟩ | ⟨k1,_⟩
    ·rw [k1]; exact b3 (by rw [<-k2]; exact hs)
    ·omega
   ·exact (((b4.mod ak (fun _ hb=>by simp at hb; omega)).ext' I).mod M (fun _ hb=>b3 hb.1 (by have:=hb.2; simpa using this))).mod U (fun _ hb=>by simp at hb; omega)
 have aI:Mod (fun k=>(k=op\/k=W)\/(st.nl=false/\k=st.b)) h7 aa :=
  (((ak.mono fun _ _ h=>.inl h).trans (I.mono fun _ _ h=>h.elim)).trans (M.mono fun _ _ h=>.inr h)).trans (U.mono fun _ _ h=>.inl (.inl h))
 refine m7.then aI (fun j J hb=>?_)
 rcases hb with (hb | hb) | hb
 ·exact hb
 ·omega
 ·have:=fs hb.1; have:=hb.2; omega
end
end Go.Rm
