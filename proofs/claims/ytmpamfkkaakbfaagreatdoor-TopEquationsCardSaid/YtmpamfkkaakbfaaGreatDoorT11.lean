import Derived.Test.YtmpamfkkaakbfaaGreatDoorT10
import Derived.Test.YtmpamfkkaakbfaaGreatDoorT02
/- Parts RNet RNet2 RNet3 RNet4 RNet5 RNet6 RNet7 RNet8 -/
set_option linter.unusedSimpArgs false
set_option linter.unusedVariables false
namespace Go.Rm
structure Yp where
 a:Int
 b:Int
 c:Int
deriving DecidableEq
structure Tab where
 i:Int
 o:Int
 cs:List Int
deriving DecidableEq
structure Zg where
 vs:List Yp
 as:List Yp
 ts:List Tab
deriving DecidableEq
def Zf (l:List Yp) (i:Nat):Yp:=l.getD i ⟨0,0,0⟩
def Zp (l:List Tab) (i:Nat):Tab:=l.getD i ⟨0,0,[]⟩
theorem Wj {l:List Yp} {i:Nat} (r:i<l.length):Zf l i=l[i]:=by simp [Zf,r]
theorem Za1 {l:List Tab} {i:Nat} (r:i<l.length):Zp l i=l[i]:=by simp [Zp,r]
structure Z4 (h:Za) (s:Sl) (l:List Yp):Prop where
 ok:s.ok
 len:l.length=s.n
 v0:∀ i,i<l.length->hc h s.b (s.o+i * 3)=some (.int .i64 (Zf l i).a)
 v1:∀ i,i<l.length->hc h s.b (s.o+i * 3+1)=some (.int .i64 (Zf l i).b)
 v2:∀ i,i<l.length->hc h s.b (s.o+i * 3+2)=some (.int .i64 (Zf l i).c)
structure Zj6 (h:Za) (s:Sl) (l:List Tab):Prop where
 ok:s.ok
 len:l.length=s.n
 val:∀ i,i<l.length->∃ u:Sl,hc h s.b (s.o+i * 3)=some (.int .i64 (Zp l i).i)/\hc h s.b (s.o+i * 3+1)=some (.int .i64 (Zp l i).o)/\hc h s.b (s.o+i * 3+2)=some u.v/\Zz h u (Zp l i).cs
def Yo (sv sa st:Sl):Value:=.agg #[sv.v,sa.v,st.v]
structure Uo (h:Za) (sv sa st:Sl) (N:Zg):Prop where
 rv:Z4 h sv N.vs
 ra:Z4 h sa N.as
 rt:Zj6 h st N.ts
section
variable {Y:Sys} {h h':Za}
theorem Z4.ext {s:Sl} {l:List Yp} (r:Z4 h s l) (e:Ext h h'):Z4 h' s l :=
 ⟨r.ok,r.len,fun i D=>e.hc (r.v0 i D) (fun h=>h),fun i D=>e.hc (r.v1 i D) (fun h=>h),fun i D=>e.hc (r.v2 i D) (fun h=>h)⟩
theorem Zj6.ext {s:Sl} {l:List Tab} (r:Zj6 h s l) (e:Ext h h'):Zj6 h' s l :=
 ⟨r.ok,r.len,fun i D=>by
  obtain ⟨u,h0,h1,G,H⟩:=r.val i D
  exact ⟨u,e.hc h0 (fun h=>h),e.hc h1 (fun h=>h),e.hc G (fun h=>h),H.ext e⟩⟩
theorem Uo.ext {D G H:Sl} {N:Zg} (r:Uo h D G H N) (e:Ext h h'):Uo h' D G H N:=⟨r.rv.ext e,r.ra.ext e,r.rt.ext e⟩
theorem Z4.rd {s:Sl} {l:List Yp} (r:Z4 h s l) {i:Nat} (G:i<l.length):rd h s.b (s.o+i * 3) 3=some [.int .i64 (Zf l i).a,.int .i64 (Zf l i).b,.int .i64 (Zf l i).c]:=by
 refine Zal (l:=[.int .i64 (Zf l i).a,.int .i64 (Zf l i).b,.int .i64 (Zf l i).c]) (fun j v D=>?_)
 match j with
 | 0=>simp at D; subst D; exact r.v0 i G
 | 1=>simp at D; subst D; exact r.v1 i G
 | 2=>simp at D; subst D; exact r.v2 i G
 | j+3=>simp at D
theorem Zj6.rd {s:Sl} {l:List Tab} (r:Zj6 h s l) {i:Nat} (H:i<l.length):∃ u:Sl,rd h s.b (s.o+i * 3) 3=some [.int .i64 (Zp l i).i,.int .i64 (Zp l i).o,u.v]/\hc h s.b (s.o+i * 3+2)=some u.v/\Zz h u (Zp l i).cs:=by
 obtain ⟨u,h0,h1,G,I⟩:=r.val i H
 refine ⟨u,Zal (l:=[.int .i64 (Zp l i).i,.int .i64 (Zp l i).o,u.v]) (fun j v D=>?_),G,I⟩
 match j with
 | 0=>simp at D; subst D; exact h0
 | 1=>simp at D; subst D; exact h1
 | 2=>simp at D; subst D; exact G
 | j+3=>simp at D
def Ze9 (N:Zg):Bool:=decide (N.vs.length<=80/\N.as.length<=300/\N.ts.length<=80/\∀ t∈N.ts,t.cs.length<=300)
theorem Zco {N:Zg}:Ze9 N=true↔N.vs.length<=80/\N.as.length<=300/\N.ts.length<=80/\∀ i,i<N.ts.length->(Zp N.ts i).cs.length<=300:=by
 simp only [Ze9,decide_eq_true_eq]
 constructor
 ·rintro ⟨a,b,c,d⟩
  exact ⟨a,b,c,fun i r=>by rw [Za1 r]; exact d _ (Xeo r)⟩
 ·rintro ⟨a,b,c,d⟩
  refine ⟨a,b,c,fun t ht=>?_⟩
  obtain ⟨i,r,rfl⟩:=Xfa ht
  have:=d i r
  rwa [Za1 r] at this
def Xdg (B:Nat) (v0:Value) (st:Sl) (N:Zg) (h0:Za) (e:List Value) (h':Za):Prop :=
 ∃ (i:Nat) (v4 v5 v6:Value),e=[v0,.pointer (some ⟨B,0,none⟩),.bool false,.int .i64 i,v4,v5,v6]/\i<=st.n/\(∀ j,j<i->(Zp N.ts j).cs.length<=300)/\h'=h0
theorem Z0c (HF:Y.Has 98 Y98) {H J D:Sl} {N:Zg} (r:Uo h H J D N) {R:Value->Za->Prop} (I:∀ h',Ext h h'->R (.bool (Ze9 N)) h'):Zm Y 98 [Yo H J D] h R:=by
 have lv:=r.rv.len
 have la:=r.ra.len
 have lt:=r.rt.len
 refine .of_has HF rfl ?_
 simp [Y98,Xa.wp,Yo]
 refine Zd ?_
 intro B h1 g1 B1 X
 have r1:=r.ext X
 simp [B1.hc]
 by_cases c1:80<H.n
 ·have G:(80:Int)<H.n:=by omega
  have hf:Ze9 N=false:=by
   rw [Xfx]; intro h; have:=Zco.1 h; omega
  rw [hf] at I
  have U:¬ (H.n:Int)<=80:=by omega
  simp [G,U]
  exact I _ X
 have G:¬ (80:Int)<H.n:=by omega
 by_cases c2:300<J.n
 ·have M:(300:Int)<J.n:=by omega
  have hf:Ze9 N=false:=by
   rw [Xfx]; intro h; have:=Zco.1 h; omega
  rw [hf] at I
  have U:(H.n:Int)<=80:=by omega
  have Z:¬ (J.n:Int)<=300:=by omega
  simp [G,M,U,Z,B1.hc]
  exact I _ X
 have M:¬ (300:Int)<J.n:=by omega
 by_cases c3:80<D.n
 ·have V:(80:Int)<D.n:=by omega
  have hf:Ze9 N=false:=by
   rw [Xfx]; intro h; have:=Zco.1 h; omega
  rw [hf] at I
  have U:(H.n:Int)<=80:=by omega
  have Z:(J.n:Int)<=300:=by omega
  have p3:¬ (D.n:Int)<=80:=by omega
  simp [G,M,V,U,Z,p3,B1.hc]
  exact I _ X
 have V:¬ (80:Int)<D.n:=by omega
 have U:(H.n:Int)<=80:=by omega
 have Z:(J.n:Int)<=300:=by omega
 have p3:(D.n:Int)<=80:=by omega
 simp [G,M,V,U,Z,p3,B1.hc]
 refine Zj (Xdg B (Yo H J D) D N h1) (fun e _=>D.n-Zo e 3) ⟨0,_,_,_,rfl,by omega,fun j hj=>by omega,rfl⟩ ?_
 rintro e h2 ⟨i,v4,v5,v6,rfl,hi,O,rfl⟩
 by_cases c:i<D.n
 ·have c':(i:Int)<D.n:=by omega
  have w1:IntKind.i64.wrap ((i:Int)+1)=(i:Int)+1:=Ze (by omega)
  obtain ⟨u,_,hu,ru⟩:=r1.rt.rd (i:=i) (by omega)
  have lu:=ru.len
  simp [B1.hc,c',Zb r1.rt.ok,hu]
  by_cases g:300<u.n
  ·have g':(300:Int)<u.n:=by omega
   have hf:Ze9 N=false:=by
    rw [Xfx]; intro h; have:=(Zco.1 h).2.2.2 i (by omega); omega
   rw [hf] at I
   simp [g']
   exact I _ X
  ·have g':¬ (300:Int)<u.n:=by omega
   simp [g',w1]
   refine ⟨⟨i+1,_,_,_,rfl,by omega,fun j hj=>?_,rfl⟩,by simp [Zo]; omega⟩
   rcases Xd8 j i with q | q
   ·exact O j q
   ·obtain rfl:j=i:=by omega
    omega
 ·have c':¬ (i:Int)<D.n:=by omega
  have hf:Ze9 N=true:=Zco.2 ⟨by omega,by omega,by omega,fun j hj=>O j (by omega)⟩
  rw [hf] at I
  simp [B1.hc,c']
  exact I _ X
end
def Zs (l:List (Value × Value × Value)):List Value:=l.flatMap fun t=>[t.1,t.2.1,t.2.2]
theorem Zx {l:List (Value × Value × Value)}:(Zs l).length=l.length * 3:=by
 induction l with
 | nil=>rfl
 | cons t r D=>simp only [Zs,Xgj,Xei,Xfd,Xf4] at D ⊢; omega
theorem Zr4 {l:List (Value × Value × Value)} {x y z:Value}:Zs (l++[(x,y,z)])=Zs l++[x,y,z]:=by simp [Zs]
theorem Zfo {l:List (Value × Value × Value)}:∀ {i:Nat} (D:i<l.length),(Zs l)[i * 3]? = some l[i].1/\(Zs l)[i * 3+1]? = some l[i].2.1/\(Zs l)[i * 3+2]? = some l[i].2.2:=by
 induction l with
 | nil=>intro i D; simp at D
 | cons t r G =>
  intro i D
  have e:Zs (t::r)=t.1::t.2.1::t.2.2::Zs r:=rfl
  rw [e]
  cases i with
  | zero=>simp
  | succ i =>
   have:=G (i:=i) (by simpa using D)
   have H:(i+1) * 3=i * 3+1+1+1:=by omega
   have I:(i+1) * 3+1=i * 3+1+1+1+1:=by omega
   have J:(i+1) * 3+2=i * 3+2+1+1+1:=by omega
   rw [I,J,H]
   simp only [Xhs,List.getElem_cons_succ]
   exact this
def Xm (t:Yp):Value × Value × Value:=(.int .i64 t.a,.int .i64 t.b,.int .i64 t.c)
def Qy (p:Tab × Sl):Value × Value × Value:=(.int .i64 p.1.i,.int .i64 p.1.o,p.2.v)
section
variable {Y:Sys} {h h':Za}
theorem Yb.get3 {s:Sl} {l:List (Value × Value × Value)} (o:Yb h 3 s (Zs l)) {i:Nat} (r:i<l.length) :
  hc h s.b (s.o+i * 3)=some l[i].1/\hc h s.b (s.o+i * 3+1)=some l[i].2.1/\hc h s.b (s.o+i * 3+2)=some l[i].2.2:=by
 obtain ⟨a,b,c⟩:=Zfo r
 exact ⟨o.cell a,o.cell b,o.cell c⟩
theorem Yb.n3 {s:Sl} {l:List (Value × Value × Value)} (o:Yb h 3 s (Zs l)):l.length=s.n:=by
 have:=o.1
 rw [Zx] at this
 omega
theorem Yb.row3 {s:Sl} {l:List Yp} (o:Yb h 3 s (Zs (l.map Xm))):Z4 h s l:=by
 have D:=o.n3
 have g:∀ i (r:i<l.length),hc h s.b (s.o+i * 3)=some (Xm l[i]).1/\hc h s.b (s.o+i * 3+1)=some (Xm l[i]).2.1/\hc h s.b (s.o+i * 3+2)=some (Xm l[i]).2.2:=fun i r=>by
  have g:=o.get3 (i:=i) (by simpa using r)
  rw [Xev] at g
  exact g
 refine ⟨o.ok,by simpa using D,fun i r=>?_,fun i r=>?_,fun i r=>?_⟩
 ·rw [Wj r]; exact (g i r).1
 ·rw [Wj r]; exact (g i r).2.1
 ·rw [Wj r]; exact (g i r).2.2
theorem Z4.mod {S:Nat->Prop} {s:Sl} {l:List Yp} (r:Z4 h s l) (e:Mod S h h') (hs:l≠[]->¬ S s.b):Z4 h' s l :=
 ⟨r.ok,r.len,fun i D=>e.hc (r.v0 i D) (hs (by intro e; rw [e] at D; simp at D)),fun i D=>e.hc (r.v1 i D) (hs (by intro e; rw [e] at D; simp at D)),fun i D=>e.hc (r.v2 i D) (hs (by intro e; rw [e] at D; simp at D))⟩
theorem Yb.rowT {s:Sl} {P:List (Tab × Sl)} {l:List Tab} (o:Yb h 3 s (Zs (P.map Qy))) (D:P.map Prod.fst=l) (hP:∀ p∈P,Zz h p.2 p.1.cs):Zj6 h s l:=by
 have G:=o.n3
 subst D
 refine ⟨o.ok,by simpa using G,fun i r=>?_⟩
 have r:i<P.length:=by simpa using r
 have e:Zp (P.map Prod.fst) i=P[i].1:=by rw [Za1 (by simpa using r)]; simp
 have g:=o.get3 (i:=i) (by simpa using r)
 rw [e]
 exact ⟨P[i].2,by simpa [Qy] using g.1,by simpa [Qy] using g.2.1,by simpa [Qy] using g.2.2,hP _ (Xeo r)⟩
theorem Zdt {r D G:Value} {k j l:IntKind} {a b c:Int}:Yg.sem Y h (.build #[r,D,G] [(0,1),(1,1),(2,1)] [0,1,2]) [.int k a,.int j b,.int l c]=some (.agg #[.int k a,.int j b,.int l c]):=Zbe rfl rfl rfl
theorem Zdc {K:Value->Za->Prop} {D G H x y z:Value} :
  Ef.wp h K (.bslice 1 3 #[D,G,H] [0]) [.agg #[x,y,z]] = ∀ t:TypeId,K (.slice (some ⟨h.size,0,none⟩) 1 1) (h.push (.cells #[x,y,z] t)):=by
 have e:Instr.fill (fun i=>some (i * 3,3)) (Xj #[D,G,H] (1 * 3)) ([0].zip [.agg #[x,y,z]])=some #[x,y,z]:=by
  simp [Instr.fill,Xj]
  apply Xfp
  ·simp
  ·intro i h1 r
   match i,r with
   | 0,_=>simp
   | 1,_=>simp
   | 2,_=>simp
   | i+3,r=>exact absurd r (by simp)
 simp only [Ef.wp,e]
theorem Vz {K:Value->Za->Prop} {bytes b:Nat} {zero:Array Value} {s:Sl} {l:List (Value × Value × Value)} {x y z:Value} (hz:zero.size=3) (o:Yb h 3 s (Zs l)) (hb:Ys h b #[x,y,z])
  (hx:x.oneCell'=true) (hy:y.oneCell'=true) (H:z.oneCell'=true) (D:(s.n+1) * bytes<=140737488355328) (G:s.n+1<=9223372036854775807)
  (I:∀ (r:Sl) (h':Za),Yb h' 3 r (Zs (l++[(x,y,z)]))->Mod (fun j=>s.nl=false/\j=s.b) h h'->((r.b=s.b/\r.nl=s.nl)\/(h.size<=r.b/\r.nl=false))->K r.v h') :
  Ef.wp h K (.append 3 bytes zero) [s.v,.slice (some ⟨b,0,none⟩) 1 1]:=by
 have hs:Wq h 3 1 (.slice (some ⟨b,0,none⟩) 1 1)=some [x,y,z]:=by
  rw [Zer]
  exact Zy hb rfl
 refine Vx o (m:=1) (nw:=[x,y,z]) rfl hs rfl (fun v hv=>?_) hz D G (fun r h' J O M hs'=>?_)
 ·simp only [Xf8,Xgk,or_false] at hv
  rcases hv with rfl | rfl | rfl <;> assumption
 ·exact I r h' (by rw [Zr4]; exact J) M hs'
theorem Zzx (HT:Y.Has 35 Y35) {ins outs:Int} {s:Sl} {cs:List Int} (r:Zz h s cs) (M:s.n<=1000000) {R:Value->Za->Prop}
  (Z:∀ h' D,Ext h h'->Zz h' D cs->(cs≠[]->h.size<=D.b/\D.b<h'.size)->R (Zel ins outs D) h'):Zm Y 35 [Zel ins outs s] h R:=by
 refine .of_has HT rfl ?_
 simp [Y35,Xa.wp,Zel]
 refine Zd ?_
 intro b h1 g1 B1 O
 simp
 refine Zd ?_
 intro rb U g2 B2 e2
 have B1':=B1.ext e2
 have G:=O.trans e2
 have z1:=O.size
 have z2:=e2.size
 have B2lt:=B2.lt
 simp [B1'.hc,Zfr]
 intro t
 have e3:Ext U (U.push (.cells #[] t)):=Mod.push
 have B3:=B1'.ext e3
 simp [B3.hc]
 refine Zc4 ((r.ext G).ext e3) (by omega) Zhk (.inr (Xd6 _)) e3 ?_
 intro D h4 o4 hs' H
 have B4:=B1'.ext H
 simp [B4.hc]
 refine Zi (B2.ext H) rfl rfl (by simp) ?_
 intro h5 B5 V
 simp
 refine Yt rfl B5 rfl ?_
 have X:=o4.mod V (fun hn h=>by
  rcases hs' with hs' | hs'
  ·rw [hn] at hs'; cases hs'
  ·omega)
 refine Z h5 D (Mod.ext (G.trans H) V (fun j hj=>by omega)) X.row64 (fun I=>?_)
 obtain ⟨aa,hb,_,J⟩:=X.blk (i:=0) (by rw [Wu]; exact List.length_pos_iff.2 I)
 have:=hs'.resolve_left (by rw [J]; simp)
 exact ⟨by omega,hb.lt⟩
end
section
variable {Y:Sys} {h h':Za}
def Xdk (v0:Value) (B rb M n:Nat) (l:List Yp) (hA:Za) (e:List Value) (h':Za):Prop :=
 ∃ (i:Nat) (s1:Sl) (v5 v6 v7 v8 v9:Value),e=[v0,.pointer (some ⟨B,0,none⟩),.pointer (some ⟨rb,0,none⟩),.pointer (some ⟨M,0,none⟩),.int .i64 i,v5,v6,v7,v8,v9]/\i<=n /\
  Ys h' M #[s1.v,.slice none 0 0,.slice none 0 0]/\Yb h' 3 s1 (Zs ((l.take i).map Xm))/\(s1.nl=true\/hA.size<=s1.b)/\Mod (fun j=>j=M) hA h'
def Xdj (v0:Value) (B rb M n:Nat) (s1:Sl) (l:List Yp) (hA:Za) (e:List Value) (h':Za):Prop :=
 ∃ (i:Nat) (s2:Sl) (v4 v6 v7 v8 v9:Value),e=[v0,.pointer (some ⟨B,0,none⟩),.pointer (some ⟨rb,0,none⟩),.pointer (some ⟨M,0,none⟩),v4,.int .i64 i,v6,v7,v8,v9]/\i<=n /\
  Ys h' M #[s1.v,s2.v,.slice none 0 0]/\Yb h' 3 s2 (Zs ((l.take i).map Xm))/\(s2.nl=true\/hA.size<=s2.b)/\Mod (fun j=>j=M) hA h'
def Xcn (v0:Value) (B rb M n:Nat) (s1 s2:Sl) (l:List Tab) (hA:Za) (e:List Value) (h':Za):Prop :=
 ∃ (i:Nat) (s3:Sl) (P:List (Tab × Sl)) (v4 v5 v7 v8 v9:Value),e=[v0,.pointer (some ⟨B,0,none⟩),.pointer (some ⟨rb,0,none⟩),.pointer (some ⟨M,0,none⟩),v4,v5,.int .i64 i,v7,v8,v9]/\i<=n /\
  Ys h' M #[s1.v,s2.v,s3.v]/\Yb h' 3 s3 (Zs (P.map Qy))/\P.map Prod.fst=l.take i/\(∀ p∈P,Zz h' p.2 p.1.cs/\(p.1.cs≠[]->hA.size<=p.2.b/\(s3.nl=false->p.2.b≠s3.b)/\p.2.b<h'.size))/\(s3.nl=true\/hA.size<=s3.b)/\Mod (fun j=>j=M) hA h'
theorem Zmm {l:List Yp} {i:Nat} (r:i<l.length):(l.take (i+1)).map Xm=(l.take i).map Xm++[(.int .i64 (Zf l i).a,.int .i64 (Zf l i).b,.int .i64 (Zf l i).c)]:=by
 rw [Xel r,Xe1,Wj r]
 rfl
theorem Zw7 (HT3:Y.Has 100 Y100) (HT:Y.Has 35 Y35) {X Z st:Sl} {N:Zg} (r:Uo h X Z st N) (bv:N.vs.length<=1000) (ba:N.as.length<=1000) (bt:N.ts.length<=1000) (bc:∀ i,i<N.ts.length->(Zp N.ts i).cs.length<=1000000)
  {R:Value->Za->Prop} (hr:∀ h' s1 s2 s3,Ext h h'->Uo h' s1 s2 s3 N->Yb h' 3 s2 (Zs (N.as.map Xm))->(s2.nl=true\/h.size<=s2.b)->R (Yo s1 s2 s3) h'):Zm Y 100 [Yo X Z st] h R:=by
 have lv:=r.rv.len
 have la:=r.ra.len
 have lt:=r.rt.len
 refine .of_has HT3 rfl ?_
 simp [Y100,Xa.wp,Yo]
 refine Zd ?_
 intro B h1 g1 B1 e1
 simp
 refine Zd ?_
 intro rb h2 g2 B2 e2
 simp
 refine Zd ?_
 intro M h3 g3 B3 e3
 have z1:=e1.size
 have z2:=e2.size
 have l1:=B1.lt
 have l2:=B2.lt
 have l3:=B3.lt
 have ag:B≠M:=by omega
 have ah:rb≠M:=by omega
 have x3:=(e1.trans e2).trans e3
 have A3:=(B1.ext e2).ext e3
 have C3:=B2.ext e3
 simp
 refine Zj (Xdk (Yo X Z st) B rb M X.n N.vs h3) (fun e _=>X.n-Zo e 4) ⟨0,Sl.nil,_,_,_,_,_,rfl,by omega,B3,Yb.nil,.inl rfl,Mod.refl h3⟩ ?_
 rintro e h4 ⟨i,s1,v5,v6,v7,v8,v9,rfl,hi,B4,o4,ac,m4⟩
 have A4:=m4.blk A3 ag
 have r4:=r.rv.ext (Mod.ext x3 m4 (fun j H=>by omega))
 by_cases c:i<X.n
 ·have c':(i:Int)<X.n:=by omega
  have w1:IntKind.i64.wrap ((i:Int)+1)=(i:Int)+1:=Ze (by omega)
  have n4:=o4.n3
  have aw:s1.n=i:=by rw [<-n4]; simp; omega
  simp [A4.hc,B4.hc,c',Zb r4.ok,r4.v0 i (by omega),r4.v1 i (by omega),r4.v2 i (by omega),Zdt,Zdc]
  intro t
  have e5:Ext h4 (h4.push (.cells #[.int .i64 (Zf N.vs i).a,.int .i64 (Zf N.vs i).b,.int .i64 (Zf N.vs i).c] t)):=Mod.push
  have B5:=B4.ext e5
  have o5:=o4.mod e5 (fun _ h=>h)
  simp [B5.hc]
  refine Vz rfl o5 Ys.new rfl rfl rfl (by omega) (by omega) ?_
  intro G h6 o6 m6 U
  rw [<-Zmm (by omega)] at o6
  have ad:G.nl=true\/h3.size<=G.b:=by
   have:=m4.size
   have:=e5.size
   rcases U with ⟨J,V⟩ | ⟨J,V⟩
   ·rw [J,V]; exact ac
   ·exact .inr (by omega)
  have B6:=m6.blk B5 (fun ⟨J,V⟩=>by have:=ac.resolve_left (by rw [J]; simp); omega)
  simp [Xg.open,B6.hc,B6.hfz,w1]
  have B7:=B6.set (o:=0) (v:=G.v)
  have o7:=o6.mod (Mod.set (S:=fun j=>j=M) (h:=h6) (o:=0) (v:=G.v) rfl) (fun I H=>by have:=ad.resolve_left (by rw [I]; simp); omega)
  refine ⟨⟨i+1,G,_,_,_,_,_,rfl,by omega,by simpa using B7,o7,ad,?_⟩,by simp [Zo]; omega⟩
  refine (m4.then ((e5.mono fun _ _ h=>h.elim).trans m6) (fun j H q=>?_)).trans (Mod.set rfl)
  have:=ac.resolve_left (by rw [q.1]; simp)
  omega
 have c':¬ (i:Int)<X.n:=by omega
 obtain rfl:i=X.n:=by omega
 rw [Xef (by omega)] at o4
 have R4:=o4.row3
 have x4:Ext h h4:=Mod.ext x3 m4 (fun j H=>by omega)
 have C4:=m4.blk C3 ah
 have ai:N.vs≠[]->s1.b≠M/\s1.b<h4.size/\h3.size<=s1.b:=fun D=>by
  obtain ⟨an,hb,_,aj⟩:=o4.blk (i:=0) (by rw [Zx,Xea]; have:=List.length_pos_iff.2 D; omega)
  have:=ac.resolve_left (by rw [aj]; simp)
  exact ⟨by omega,hb.lt,by omega⟩
 have k4:=m4.size
 simp [A4.hc]
 refine Zj (Xdj (Yo X Z st) B rb M Z.n s1 N.as h4) (fun e _=>Z.n-Zo e 5) ⟨0,Sl.nil,_,_,_,_,_,rfl,by omega,B4,Yb.nil,.inl rfl,Mod.refl h4⟩ ?_
 clear r4 c c' hi v5 v6 v7 v8 v9
 rintro e h5 ⟨i,s2,v4,v6,v7,v8,v9,rfl,hi,B5,o5,O,m5⟩
 have A5:=m5.blk A4 ag
 have r5:=r.ra.ext (Mod.ext x4 m5 (fun j H=>by omega))
 by_cases c:i<Z.n
 ·have c':(i:Int)<Z.n:=by omega
  have w1:IntKind.i64.wrap ((i:Int)+1)=(i:Int)+1:=Ze (by omega)
  have n5:=o5.n3
  have ax:s2.n=i:=by rw [<-n5]; simp; omega
  simp [A5.hc,B5.hc,c',Zb r5.ok,r5.v0 i (by omega),r5.v1 i (by omega),r5.v2 i (by omega),Zdt,Zdc]
  intro t
  have e6:Ext h5 (h5.push (.cells #[.int .i64 (Zf N.as i).a,.int .i64 (Zf N.as i).b,.int .i64 (Zf N.as i).c] t)):=Mod.push
  have B6:=B5.ext e6
  have o6:=o5.mod e6 (fun _ h=>h)
  simp [B6.hc]
  refine Vz rfl o6 Ys.new rfl rfl rfl (by omega) (by omega) ?_
  intro G h7 o7 m7 ao
  rw [<-Zmm (by omega)] at o7
  have ae:G.nl=true\/h4.size<=G.b:=by
   have:=m5.size
   have:=e6.size
   rcases ao with ⟨J,V⟩ | ⟨J,V⟩
   ·rw [J,V]; exact O
   ·exact .inr (by omega)
  have B7:=m7.blk B6 (fun ⟨J,V⟩=>by have:=O.resolve_left (by rw [J]; simp); omega)
  simp [Xg.open,B7.hc,B7.hfz,w1]
  have B8:=B7.set (o:=1) (v:=G.v)
  have o8:=o7.mod (Mod.set (S:=fun j=>j=M) (h:=h7) (o:=1) (v:=G.v) rfl) (fun I H=>by have:=ae.resolve_left (by rw [I]; simp); omega)
  refine ⟨⟨i+1,G,_,_,_,_,_,rfl,by omega,by simpa using B8,o8,ae,?_⟩,by simp [Zo]; omega⟩
  refine (m5.then ((e6.mono fun _ _ h=>h.elim).trans m7) (fun j H q=>?_)).trans (Mod.set rfl)
  have:=O.resolve_left (by rw [q.1]; simp)
  omega
 have c':¬ (i:Int)<Z.n:=by omega
 obtain rfl:i=Z.n:=by omega
 rw [Xef (by omega)] at o5
 have R5:=o5.row3
 have R45:=R4.mod m5 (fun D=>(ai D).1)
 have x5:Ext h h5:=Mod.ext x4 m5 (fun j H=>by omega)
 have C5:=m5.blk C4 ah
 have am:N.as≠[]->s2.b≠M/\s2.b<h5.size/\h4.size<=s2.b:=fun D=>by
  obtain ⟨an,hb,_,aj⟩:=o5.blk (i:=0) (by rw [Zx,Xea]; have:=List.length_pos_iff.2 D; omega)
  have:=O.resolve_left (by rw [aj]; simp)
  exact ⟨by omega,hb.lt,by omega⟩
 have k5:=m5.size
 simp [A5.hc]
 refine Zj (Xcn (Yo X Z st) B rb M st.n s1 s2 N.ts h5) (fun e _=>st.n-Zo e 6) ⟨0,Sl.nil,[],_,_,_,_,_,rfl,by omega,B5,Yb.nil,rfl,fun p hp=>by simp at hp,.inl rfl,Mod.refl h5⟩ ?_
 clear r5 c c' hi v4 v6 v7 v8 v9
 rintro e h6 ⟨i,s3,P,v4,v5,v7,v8,v9,rfl,hi,B6,o6,hP,aa,U,m6⟩
 have A6:=m6.blk A5 ag
 have x6:Ext h h6:=Mod.ext x5 m6 (fun j H=>by omega)
 have r6:=r.rt.ext x6
 have k6:=m6.size
 by_cases c:i<st.n
 ·have c':(i:Int)<st.n:=by omega
  have w1:IntKind.i64.wrap ((i:Int)+1)=(i:Int)+1:=Ze (by omega)
  have n6:=o6.n3
  have ap:P.length=i:=by have:=congrArg List.length hP; simp at this; omega
  have ay:s3.n=i:=by rw [<-n6]; simpa using ap
  obtain ⟨u,aq,hu,ru⟩:=r6.rd (i:=i) (by omega)
  have az:=ru.len
  have aA:=bc i (by omega)
  simp [A6.hc,B6.hc,c',Zb r6.ok,aq]
  refine Zzx HT ru (by omega) ?_
  intro h7 u' e7 ar ak
  have B7:=B6.ext e7
  have k7:=e7.size
  simp [B7.hc,Zel,Zdc]
  intro t
  have e8:Ext h7 (h7.push (.cells #[.int .i64 (Zp N.ts i).i,.int .i64 (Zp N.ts i).o,u'.v] t)):=Mod.push
  have k8:=e8.size
  have B8:=B7.ext e8
  have o8:=(o6.mod e7 (fun _ h=>h)).mod e8 (fun _ h=>h)
  simp [B8.hc]
  refine Vz rfl o8 Ys.new rfl rfl (by simp) (by omega) (by omega) ?_
  intro G h9 o9 m9 al
  have k9:=m9.size
  have au:Yb h9 3 G (Zs ((P++[(Zp N.ts i,u')]).map Qy)):=by simpa [Qy] using o9
  have af:G.nl=true\/h5.size<=G.b:=by
   rcases al with ⟨J,V⟩ | ⟨J,V⟩
   ·rw [J,V]; exact U
   ·exact .inr (by omega)
  have B9:=m9.blk B8 (fun ⟨J,V⟩=>by have:=U.resolve_left (by rw [J]; simp); omega)
  simp [Xg.open,B9.hc,B9.hfz,w1]
  have B10:=B9.set (o:=2) (v:=G.v)
  have ab:Mod (fun j=>j=M) h9 (Wm h9 M 2 G.v):=Mod.set rfl
  have av:=au.mod ab (fun I H=>by have:=af.resolve_left (by rw [I]; simp); omega)
  have aB:=ab.size
  have s3lt:s3.nl=false->s3.b<h6.size:=fun I=>o6.lt I
  refine ⟨⟨i+1,G,P++[(Zp N.ts i,u')],_,_,_,_,_,rfl,by omega,by simpa using B10,av,?_,?_,af,?_⟩,by simp [Zo]; omega⟩
  ·rw [Xe1,hP,Xel (by omega),Za1 (by omega)]
   rfl
  ·intro p hp
   rcases List.mem_append.1 hp with g | g
   ·obtain ⟨g1,g2⟩:=aa p g
    have g3:p.1.cs≠[]->¬ (s3.nl=false/\p.2.b=s3.b):=fun D q=>(g2 D).2.1 q.1 q.2
    refine ⟨(((g1.ext e7).ext e8).mod m9 g3).mod ab (fun D H=>by have:=(g2 D).1; omega),fun D=>?_⟩
    obtain ⟨q0,J,V⟩:=g2 D
    refine ⟨q0,fun I=>?_,by omega⟩
    rcases al with ⟨w1,w2⟩ | ⟨w1,w2⟩
    ·rw [w1]; exact J (by rw [<-w2]; exact I)
    ·omega
   ·simp only [Xg3] at g
    subst g
    refine ⟨((ar.ext e8).mod m9 (fun D q=>?_)).mod ab (fun D H=>?_),fun D=>?_⟩
    ·have:=ak D
     have:=s3lt q.1
     have:=q.2
     omega
    ·have:=ak D
     omega
    ·have q:h6.size<=u'.b/\u'.b<h7.size:=ak D
     refine ⟨show h5.size<=u'.b by omega,fun I=>?_,show u'.b<(Wm h9 M 2 G.v).size by omega⟩
     show u'.b≠G.b
     rcases al with ⟨w1,w2⟩ | ⟨w1,w2⟩
     ·have:=s3lt (by rw [<-w2]; exact I)
      omega
     ·omega
  ·refine (m6.then (((e7.trans e8).mono fun _ _ h=>h.elim).trans m9) (fun j H q=>?_)).trans ab
   have:=U.resolve_left (by rw [q.1]; simp)
   omega
 have c':¬ (i:Int)<st.n:=by omega
 obtain rfl:i=st.n:=by omega
 rw [Xef (by omega)] at hP
 have R6:Zj6 h6 s3 N.ts:=o6.rowT hP (fun p hp=>(aa p hp).1)
 have hH:Uo h6 s1 s2 s3 N:=⟨R45.mod m6 (fun D=>(ai D).1),R5.mod m6 (fun D=>(am D).1),R6⟩
 have C6:=m6.blk C5 ah
 simp [A6.hc,Zy B6]
 refine Zi C6 rfl rfl (by simp) ?_
 intro h7 B7 m7
 simp
 refine Yt rfl B7 rfl ?_
 have o7:=o6.mod m7 (fun I H=>by have:=U.resolve_left (by rw [I]; simp); omega)
 refine hr h7 s1 s2 s3 (Mod.ext x6 m7 (fun j H=>by omega)) ⟨hH.rv.mod m7 (fun D H=>by have:=ai D; omega),hH.ra.mod m7 (fun D H=>by have:=am D; omega),o7.rowT hP (fun p hp=>?_)⟩ ((o5.mod m6 (fun I H=>by have:=O.resolve_left (by rw [I]; simp); omega)).mod m7 (fun I H=>by have:=O.resolve_left (by rw [I]; simp); omega)) (O.imp_right fun q=>by have:=x4.size; omega)
 obtain ⟨g1,g2⟩:=aa p hp
 exact g1.mod m7 (fun D H=>by have:=(g2 D).1; omega)
theorem Z2s (HT3:Y.Has 100 Y100) (HT:Y.Has 35 Y35) {H I J:Sl} {N:Zg} (r:Uo h H I J N) (bv:N.vs.length<=1000) (ba:N.as.length<=1000) (bt:N.ts.length<=1000) (M:∀ i,i<N.ts.length->(Zp N.ts i).cs.length<=1000000)
  {R:Value->Za->Prop} (O:∀ h' D s2 G,Ext h h'->Uo h' D s2 G N->R (Yo D s2 G) h'):Zm Y 100 [Yo H I J] h R :=
 Zw7 HT3 HT r bv ba bt M fun h' D s2 G e n _ _=>O h' D s2 G e n
end
abbrev Zpp:ByteArray:=⟨#[110,101,116]⟩
abbrev Zne:ByteArray:=⟨#[116,121,112,101]⟩
abbrev Qv:ByteArray:=⟨#[118,101,114,116]⟩
abbrev Zll:ByteArray:=⟨#[97,114,99]⟩
def Wi (p:ByteArray) (k:Int) (w:Wr):Wr:=if w.2=0 then Ur else ((p,k)::w.1,w.2)
def Wy (p:ByteArray) (k:Int) (e:Int):Wr:=([(p,k)],e)
def Za3 (x:Int):Bool:=decide (x < -1048576\/1048576<x)
def Zt (nv:Nat) (v:Int):Bool:=decide (0<=v/\v<nv)
def Qr (t:Tab):Wr:=Uc t.i t.o t.cs
def Uu:Nat->List Tab->Wr
 | _,[]=>Ur
 | k,t::r=>if (Qr t).2≠0 then Wi Zne k (Qr t) else Uu (k+1) r
def Ub (nt:Nat) (k:Int) (v:Yp):Wr:=if Za3 v.a || Za3 v.b then Wy Qv k 1 else if Zt nt v.c then Ur else Wy Qv k 5
def Vv (nt:Nat):Nat->List Yp->Wr
 | _,[]=>Ur
 | k,v::r=>if (Ub nt k v).2≠0 then Ub nt k v else Vv nt (k+1) r
def W0 (nv:Nat) (k:Int) (a:Yp):Wr:=if Zt nv a.a && Zt nv a.b then (if Yi a.c then Ur else Wy Zll k 8) else Wy Zll k 5
def Qo (nv:Nat):Nat->List Yp->Wr
 | _,[]=>Ur
 | k,a::r=>if (W0 nv k a).2≠0 then W0 nv k a else Qo nv (k+1) r
def Qc (as:List Yp) (v:Nat):Nat:=(as.filter fun a=>a.b=(v:Int)).length
def Wk (as:List Yp) (v:Nat):Nat:=(as.filter fun a=>a.a=(v:Int)).length
def Zdv (N:Zg) (k:Nat) (v:Yp):Wr :=
 if 16<Qc N.as k\/16<Wk N.as k then Wy Qv k 4
 else if (Zp N.ts v.c.toNat).i≠Qc N.as k\/(Zp N.ts v.c.toNat).o≠Wk N.as k then Wy Qv k 9 else Ur
def Ua (N:Zg):Nat->List Yp->Wr
 | _,[]=>Ur
 | k,v::r=>if (Zdv N k v).2≠0 then Zdv N k v else Ua N (k+1) r
def orW (a b:Wr):Wr:=if a.2≠0 then a else b
def Zck (N:Zg):Wr:=if 4096<N.vs.length then Wy Zpp 0 4 else if 16384<N.as.length then Wy Zpp 1 4 else if 256<N.ts.length then Wy Zpp 2 4 else Ur
def Vk (N:Zg):Wr:=orW (Zck N) (orW (Uu 0 N.ts) (orW (Vv N.ts.length 0 N.vs) (orW (Qo N.vs.length 0 N.as) (Ua N 0 N.vs))))
theorem Zih {l:List Tab} {i:Nat} (r:i<l.length):Uu i (l.drop i)=if (Qr (Zp l i)).2≠0 then Wi Zne i (Qr (Zp l i)) else Uu (i+1) (l.drop (i+1)):=by
 rw [Xfk r,Uu,Za1 r]
theorem Zh3 {nt:Nat} {l:List Yp} {i:Nat} (r:i<l.length):Vv nt i (l.drop i)=if (Ub nt i (Zf l i)).2≠0 then Ub nt i (Zf l i) else Vv nt (i+1) (l.drop (i+1)):=by
 rw [Xfk r,Vv,Wj r]
theorem Zk6 {nt:Nat} {l:List Yp} {i:Nat} (r:i<l.length):Qo nt i (l.drop i)=if (W0 nt i (Zf l i)).2≠0 then W0 nt i (Zf l i) else Qo nt (i+1) (l.drop (i+1)):=by
 rw [Xfk r,Qo,Wj r]
theorem Zkk {N:Zg} {l:List Yp} {i:Nat} (r:i<l.length):Ua N i (l.drop i)=if (Zdv N i (Zf l i)).2≠0 then Zdv N i (Zf l i) else Ua N (i+1) (l.drop (i+1)):=by
 rw [Xfk r,Ua,Wj r]
theorem Zw3 {t:Tab}:(Qr t).1.length<=1/\((Qr t).2≠0->0<(Qr t).1.length):=by
 have hs:(Xy t.i t.o).1.length<=1/\((Xy t.i t.o).2≠0->0<(Xy t.i t.o).1.length):=by
  unfold Xy
  split
  ·simp [Xu]
  ·split <;> simp [Xu,Ur]
 unfold Qr Uc
 split
 ·exact hs
 ·split
  ·simp [Xu]
  ·split <;> simp [Xu,Ur]
section
variable {Y:Sys} {h:Za}
theorem Zpt (H:Y.Has 121 Y121) {x:Int} {R:Value->Za->Prop} (r:R (.bool (Za3 x)) h):Zm Y 121 [.int .i64 x] h R:=by
 refine .of_has H rfl ?_
 simp [Y121,Xa.wp]
 by_cases c1:x < -1048576
 ·have:Za3 x=true:=by simp [Za3,c1]
  rw [this] at r
  simp [c1,r]
 ·have:Za3 x=decide (1048576<x):=by simp [Za3,c1]
  rw [this] at r
  simp [c1,r]
theorem Zkp (H:Y.Has 124 Y124) {x:Int} {R:Value->Za->Prop} (r:R (.bool !(Za3 x)) h):Zm Y 124 [.int .i64 x] h R:=by
 refine .of_has H rfl ?_
 simp [Y124,Xa.wp]
 by_cases c1:x < -1048576
 ·have D:¬ (-1048576<=x):=by omega
  have:Za3 x=true:=by simp [Za3,c1]
  rw [this] at r
  simp [c1,D]
  simpa using r
 ·have D : -1048576<=x:=by omega
  have:Za3 x=decide (1048576<x):=by simp [Za3,c1]
  rw [this] at r
  have e:(!decide (1048576<x))=decide (x<=1048576):=by
   by_cases q:x<=1048576
   ·have:¬ 1048576<x:=by omega
    simp [q,this]
   ·have:1048576<x:=by omega
    simp [q,this]
  rw [e] at r
  simp [c1,D]
  simpa using r
theorem Zij (H:Y.Has 122 Y122) {r I J:Sl} {N:Zg} (M:N.vs.length=r.n) {v:Int} {R:Value->Za->Prop} (D:∀ h',Ext h h'->R (.bool (Zt N.vs.length v)) h'):Zm Y 122 [Yo r I J,.int .i64 v] h R:=by
 refine .of_has H rfl ?_
 simp [Y122,Xa.wp,Yo]
 refine Zd ?_
 intro b h1 O B1 G
 rw [M] at D
 by_cases c:0<=v
 ·have:Zt r.n v=decide (v<r.n):=by simp [Zt,c]
  rw [this] at D
  simp [c,B1.hc]
  exact D _ G
 ·have:Zt r.n v=false:=by simp [Zt,c]
  rw [this] at D
  simp [c]
  exact D _ G
theorem Zeo (H:Y.Has 120 Y120) {p:ByteArray} {a c:Int} (hc:c≠0) {R:Value->Za->Prop} (r:∀ v h',Ext h h'->Z6 Y h.size h' (Wy p a c) v->(∃ t u,v = .iface t u)->R v h') :
  Zm Y 120 [.string p,.int .i64 a,.iface (Y.tid 49) (.int .i64 c)] h R:=by
 refine .of_has H rfl ?_
 simp [Y120,Xa.wp]
 refine Zd ?_
 intro b h1 G B D
 simp
 exact r _ _ D (fun h' m=>Zek (m.blk B (by omega)) hc) ⟨_,_,rfl⟩
theorem Zn7 (H:Y.Has 120 Y120) {p:ByteArray} {a:Int} {w:Wr} {v:Value} {lo:Nat} (G:lo<=h.size) (hv:Z6 Y lo h w v) (h0:w.2≠0) {R:Value->Za->Prop}
  (I:∀ v h',Ext h h'->Z6 Y lo h' (Wi p a w) v->(∃ t u,v = .iface t u)->R v h') :
  Zm Y 120 [.string p,.int .i64 a,v] h R:=by
 obtain ⟨t,u,rfl⟩:=hv.here.iface h0
 refine .of_has H rfl ?_
 simp [Y120,Xa.wp]
 refine Zd ?_
 intro b h1 J B D
 simp
 refine I _ _ D (fun h' m=>?_) ⟨_,_,rfl⟩
 have hb:=m.blk B (by omega)
 have r:=hv.ext D h' m
 rcases r with ⟨q,_⟩ | ⟨_,r⟩
 ·exact absurd q h0
 ·unfold Wi
  rw [if_neg h0]
  exact .inr ⟨h0,b,_,rfl,by rw [hb.hc]; rfl,by rw [hb.hc]; rfl,by rw [hb.hc]; rfl,r⟩
end
def Zjz (n:Nat) (as:List Yp):List Int:=(List.range n).map fun v=>(Qc as v:Int)
def Zee (n:Nat) (as:List Yp):List Int:=(List.range n).map fun v=>(Wk as v:Int)
@[simp] theorem Xah {n:Nat} {as:List Yp}:(Zjz n as).length=n:=by simp [Zjz]
@[simp] theorem Z9e {n:Nat} {as:List Yp}:(Zee n as).length=n:=by simp [Zee]
theorem Ziq {n v:Nat} {as:List Yp} (hv:v<n):Zc (Zjz n as) v=Qc as v:=by simp [Zc,Zjz,hv]
theorem Zg3 {n v:Nat} {as:List Yp} (hv:v<n):Zc (Zee n as) v=Wk as v:=by simp [Zc,Zee,hv]
theorem Zwy {as:List Yp} {v:Nat}:Qc as v<=as.length:=Xe8 ..
theorem Zqs {as:List Yp} {v:Nat}:Wk as v<=as.length:=Xe8 ..
theorem Zw1 {as:List Yp} {i v:Nat} (r:i<as.length):Qc (as.take (i+1)) v=Qc (as.take i) v+if (Zf as i).b=(v:Int) then 1 else 0:=by
 rw [Xel r,Wj r]
 unfold Qc
 rw [Xf9,Xei]
 congr 1
 by_cases c:as[i].b=(v:Int) <;> simp [c]
theorem Zut {as:List Yp} {i v:Nat} (r:i<as.length):Wk (as.take (i+1)) v=Wk (as.take i) v+if (Zf as i).a=(v:Int) then 1 else 0:=by
 rw [Xel r,Wj r]
 unfold Wk
 rw [Xf9,Xei]
 congr 1
 by_cases c:as[i].a=(v:Int) <;> simp [c]
theorem Zmj {n i t:Nat} {as:List Yp} (r:i<as.length) (ht:(Zf as i).b=(t:Int)) (D:t<n) :
  (Zjz n (as.take i)).set t ((Qc (as.take i) t:Int)+1)=Zjz n (as.take (i+1)):=by
 apply Xem (by simp)
 intro v h1 G
 have hv:v<n:=by simpa using G
 rw [Xe9]
 simp only [Zjz,Xev,Xf0]
 rw [Zw1 r,ht]
 by_cases c:t=v
 ·subst c; simp
 ·have:¬ (t:Int)=(v:Int):=by omega
  simp [c,this]
theorem Zka {n i t:Nat} {as:List Yp} (r:i<as.length) (ht:(Zf as i).a=(t:Int)) (D:t<n) :
  (Zee n (as.take i)).set t ((Wk (as.take i) t:Int)+1)=Zee n (as.take (i+1)):=by
 apply Xem (by simp)
 intro v h1 G
 have hv:v<n:=by simpa using G
 rw [Xe9]
 simp only [Zee,Xev,Xf0]
 rw [Zut r,ht]
 by_cases c:t=v
 ·subst c; simp
 ·have:¬ (t:Int)=(v:Int):=by omega
  simp [c,this]
theorem Zsj {n:Nat}:Zjz n []=List.replicate n 0:=by
 apply Xem (by simp)
 intro v h1 r
 simp [Zjz,Qc]
theorem Zm9 {n:Nat}:Zee n []=List.replicate n 0:=by
 apply Xem (by simp)
 intro v h1 r
 simp [Zee,Wk]
section
variable {Y:Sys} {h:Za}
theorem Zcy {s:Sl} {cs:List Int} (o:Yb h 1 s (Zh cs)) {k:Nat} {y:Int} (G:k<cs.length) :
  Yb (Wm h s.b (s.o+k) (.int .i64 y)) 1 s (Zh (cs.set k y))/\(hc h s.b (s.o+k)).isSome=true/\hfz h s.b (s.o+k)=false/\Mod (fun j=>j=s.b) h (Wm h s.b (s.o+k) (.int .i64 y))/\s.nl=false:=by
 have h1:=o.set (i:=k) (v:=.int .i64 y) (by simpa using G)
 rw [X4] at h1
 obtain ⟨H,hb,r,D⟩:=o.blk (i:=k) (by simpa using G)
 refine ⟨h1,?_,hb.hfz,Mod.set rfl,D⟩
 rw [hb.hc]
 simp [r]
def Z82 (v0:Value) (B n:Nat) (sI sO sa:Sl) (as:List Yp) (h0:Za) (e:List Value) (h':Za):Prop :=
 ∃ (i:Nat) (v5 v6 v7 v8 v12 v13 v14 v15 v16 v17 v18:Value),e=[v0,.pointer (some ⟨B,0,none⟩),.nilIface,sI.v,sO.v,v5,v6,v7,v8,sa.v,.int .i64 sa.n,.int .i64 i,v12,v13,v14,v15,v16,v17,v18]/\i<=sa.n /\
  Yb h' 1 sI (Zh (Zjz n (as.take i)))/\Yb h' 1 sO (Zh (Zee n (as.take i)))/\Ext h0 h'
def Z7s (v0:Value) (B:Nat) (sI sO sv:Sl) (N:Zg) (h0:Za) (e:List Value) (h':Za):Prop :=
 ∃ (i:Nat) (v5 v6 v7 v8 v9 v10 v11 v12 v16 v17 v18:Value),e=[v0,.pointer (some ⟨B,0,none⟩),.nilIface,sI.v,sO.v,v5,v6,v7,v8,v9,v10,v11,v12,sv.v,.int .i64 sv.n,.int .i64 i,v16,v17,v18]/\i<=sv.n /\
  Ua N 0 N.vs=Ua N i (N.vs.drop i)/\Ext h0 h'
theorem Zw4 (H:Y.Has 123 Y123) (HF:Y.Has 120 Y120) {D sa st:Sl} {N:Zg} (r:Uo h D sa st N) (bv:N.vs.length<=4096) (ba:N.as.length<=16384)
  (hA:∀ i,i<N.as.length->Zt N.vs.length (Zf N.as i).a=true/\Zt N.vs.length (Zf N.as i).b=true) (hV:∀ i,i<N.vs.length->Zt N.ts.length (Zf N.vs i).c=true)
  {R:Value->Za->Prop} (hr:∀ v h',Ext h h'->Z6 Y h.size h' (Ua N 0 N.vs) v->R v h'):Zm Y 123 [Yo D sa st] h R:=by
 have lv:=r.rv.len
 have la:=r.ra.len
 have lt:=r.rt.len
 refine .of_has H rfl ?_
 simp [Y123,Xa.wp,Yo]
 refine Zd ?_
 intro B h1 g1 B1 e1
 have q1:(D.n:Int)<=9223372036854775807:=by omega
 have q2:8 * (D.n:Int)<=281474976710656:=by omega
 simp [B1.hc,Wx,Vp,q1,q2]
 intro t
 have o2:Yb (h1.push (.cells (Array.replicate D.n (.int .i64 0)) t)) 1 (Sl.at h1.size D.n D.n) (Zh (List.replicate D.n 0)):=Zcr (by omega)
 have e2:Ext h1 (h1.push (.cells (Array.replicate D.n (.int .i64 0)) t)):=Mod.push
 have k2:(h1.push (.cells (Array.replicate D.n (.int .i64 0)) t)).size=h1.size+1:=by simp
 generalize h1.push (.cells (Array.replicate D.n (.int .i64 0)) t)=h2 at *
 have B2:=B1.ext e2
 simp [B2.hc,Wx,Vp,q1,q2]
 intro t'
 have o3:Yb (h2.push (.cells (Array.replicate D.n (.int .i64 0)) t')) 1 (Sl.at h2.size D.n D.n) (Zh (List.replicate D.n 0)):=Zcr (by omega)
 have e3:Ext h2 (h2.push (.cells (Array.replicate D.n (.int .i64 0)) t')):=Mod.push
 have an:=o2.mod e3 (fun _ h=>h)
 have k3:(h2.push (.cells (Array.replicate D.n (.int .i64 0)) t')).size=h2.size+1:=by simp
 generalize h2.push (.cells (Array.replicate D.n (.int .i64 0)) t')=h3 at *
 have B3:=B2.ext e3
 have z1:=e1.size
 have lB:=B1.lt
 obtain ⟨J,O⟩:∃ J,J=Sl.at h1.size D.n D.n:=⟨_,rfl⟩
 obtain ⟨U,ab⟩:∃ U,U=Sl.at h2.size D.n D.n:=⟨_,rfl⟩
 have bI:J.b=h1.size:=by rw [O]; rfl
 have bO:U.b=h2.size:=by rw [ab]; rfl
 have nI:J.n=D.n:=by rw [O]; rfl
 have nO:U.n=D.n:=by rw [ab]; rfl
 have vI:(Value.slice (some ⟨h1.size,0,none⟩) D.n D.n)=J.v:=by rw [O]; rfl
 have vO:(Value.slice (some ⟨h2.size,0,none⟩) D.n D.n)=U.v:=by rw [ab]; rfl
 rw [<-O] at an
 rw [<-ab] at o3
 have x3:=(e1.trans e2).trans e3
 simp [B3.hc,vI,vO]
 refine Zj (Z82 (Yo D sa st) B D.n J U sa N.as h1) (fun e _=>sa.n-Zo e 11) ⟨0,_,_,_,_,_,_,_,_,_,_,_,rfl,by omega,by simpa [Zsj] using an,by simpa [Zm9] using o3,e2.trans e3⟩ ?_
 rintro e h4 ⟨i,v5,v6,v7,v8,ao,az,aA,aB,ap,aq,ar,rfl,hi,oI,oO,x4⟩
 have B4:=B1.ext x4
 have r4:=r.ext (e1.trans x4)
 by_cases c:i<sa.n
 ·have c':(i:Int)<sa.n:=by omega
  have w1:IntKind.i64.wrap ((i:Int)+1)=(i:Int)+1:=Ze (by omega)
  obtain ⟨hf,ht⟩:=hA i (by omega)
  simp only [Zt,decide_eq_true_eq] at hf ht
  obtain ⟨f,hf'⟩:∃ f:Nat,(Zf N.as i).a=f:=⟨(Zf N.as i).a.toNat,by omega⟩
  obtain ⟨g,ag⟩:∃ g:Nat,(Zf N.as i).b=g:=⟨(Zf N.as i).b.toNat,by omega⟩
  have au:=r4.ra.rd (i:=i) (by omega)
  have aC:=Zmj (n:=D.n) (t:=g) (by omega:i<N.as.length) ag (by omega)
  have aD:=Zka (n:=D.n) (t:=f) (by omega:i<N.as.length) hf' (by omega)
  rw [hf',ag] at au
  rw [hf'] at hf
  rw [ag] at ht
  simp [c',Zb r4.ra.ok,au]
  refine Yr (vs:=#[.int .i64 f,.int .i64 g,.int .i64 (Zf N.as i).c]) rfl rfl (by simp) ?_
  intro b5 aQ g5 B5' aE st
  simp
  refine st _ ?_
  intro h5 B5 e5
  clear st B5' aE
  have aF:(g:Int)<J.n:=by omega
  have aG:(f:Int)<U.n:=by omega
  have V:=oI.mod e5 (fun _ h=>h)
  have ah:=oO.mod e5 (fun _ h=>h)
  have cI:=V.row64.at (i:=g) (by omega)
  rw [Ziq (by omega)] at cI
  have aR:=Zwy (as:=N.as.take i) (v:=g)
  have aS:=Zqs (as:=N.as.take i) (v:=f)
  have aT:(N.as.take i).length<=16384:=by rw [Xex]; omega
  have wI:IntKind.i64.wrap ((Qc (N.as.take i) g:Int)+1)=(Qc (N.as.take i) g:Int)+1:=Ze (by omega)
  have wO:IntKind.i64.wrap ((Wk (N.as.take i) f:Int)+1)=(Wk (N.as.take i) f:Int)+1:=Ze (by omega)
  obtain ⟨av,aH,aI,m6,_⟩:=Zcy V (k:=g) (y:=(Qc (N.as.take i) g:Int)+1) (by simp; omega)
  rw [aC] at av
  simp [B5.hc,Zb V.ok,aF,cI,wI,Xg.open,aH,aI]
  have aU:=oI.lt (by rw [O]; rfl)
  have aJ:b5≠J.b:=by omega
  have B6:=m6.blk B5 aJ
  have ai:=ah.mod m6 (fun _ hj=>by omega)
  have x6:Ext h1 (Wm h5 J.b (J.o+g) (.int .i64 ((Qc (N.as.take i) g:Int)+1))):=Mod.ext (x4.trans e5) m6 (fun j hj=>by omega)
  generalize Wm h5 J.b (J.o+g) (.int .i64 ((Qc (N.as.take i) g:Int)+1))=h6 at *
  have cO:=ai.row64.at (i:=f) (by omega)
  rw [Zg3 (by omega)] at cO
  obtain ⟨G,aK,aL,m7,_⟩:=Zcy ai (k:=f) (y:=(Wk (N.as.take i) f:Int)+1) (by simp; omega)
  rw [aD] at G
  simp [B6.hc,Zb ai.ok,aG,cO,wO,Xg.open,aK,aL,w1]
  have I:=av.mod m7 (fun _ hj=>by omega)
  have x7:Ext h1 (Wm h6 U.b (U.o+f) (.int .i64 ((Wk (N.as.take i) f:Int)+1))):=Mod.ext x6 m7 (fun j hj=>by omega)
  exact ⟨⟨i+1,_,_,_,_,_,_,_,_,_,_,_,rfl,by omega,I,G,x7⟩,by simp [Zo]; omega⟩
 have c':¬ (i:Int)<sa.n:=by omega
 obtain rfl:i=sa.n:=by omega
 rw [Xef (by omega)] at oI oO
 simp [B4.hc]
 refine Zj (Z7s (Yo D sa st) B J U D N h4) (fun e _=>D.n-Zo e 15) ⟨0,_,_,_,_,_,_,_,_,_,_,_,rfl,by omega,by simp,Mod.refl h4⟩ ?_
 clear c c' hi v5 v6 v7 v8 ao az aA aB ap aq ar
 rintro e h5 ⟨i,v5,v6,v7,v8,v9,aV,aW,ao,ap,aq,ar,rfl,hi,hm,x5⟩
 have B5:=B4.ext x5
 have r5:=r4.ext x5
 have V:=oI.mod x5 (fun _ h=>h)
 have ah:=oO.mod x5 (fun _ h=>h)
 have y5:=(e1.trans x4).trans x5
 by_cases c:i<D.n
 ·have c':(i:Int)<D.n:=by omega
  have w1:IntKind.i64.wrap ((i:Int)+1)=(i:Int)+1:=Ze (by omega)
  rw [Zkk (by omega)] at hm
  have ht:=hV i (by omega)
  simp only [Zt,decide_eq_true_eq] at ht
  obtain ⟨f,hf'⟩:∃ f:Nat,(Zf N.vs i).c=f:=⟨(Zf N.vs i).c.toNat,by omega⟩
  have aw:=r5.rv.rd (i:=i) (by omega)
  rw [hf'] at aw ht
  simp [c',Zb r5.rv.ok,aw]
  refine Yr (vs:=#[.int .i64 (Zf N.vs i).a,.int .i64 (Zf N.vs i).b,.int .i64 f]) rfl rfl (by simp) ?_
  intro b6 aX g6 B6' aM X
  simp
  refine X _ ?_
  intro h6 B6 e6
  clear X B6' aM
  have r6:=r5.ext e6
  have B56:=B5.ext e6
  obtain ⟨u,aN,_,ru⟩:=r6.rt.rd (i:=f) (by omega)
  have aO:(f:Int)<st.n:=by omega
  simp [B56.hc,B6.hc,Zb r6.rt.ok,aO,aN]
  refine Yr (vs:=#[.int .i64 (Zp N.ts f).i,.int .i64 (Zp N.ts f).o,u.v]) rfl rfl (by simp) ?_
  intro b7 aY g7 B7' aP X
  simp
  refine X _ ?_
  intro h7 B7 e7
  clear X B7' aP
  have I:=(V.mod e6 (fun _ h=>h)).mod e7 (fun _ h=>h)
  have G:=(ah.mod e6 (fun _ h=>h)).mod e7 (fun _ h=>h)
  have cI:=I.row64.at (i:=i) (by omega)
  rw [Ziq (by omega)] at cI
  have cO:=G.row64.at (i:=i) (by omega)
  rw [Zg3 (by omega)] at cO
  have Z:(i:Int)<J.n:=by omega
  have ac:(i:Int)<U.n:=by omega
  have y7:=(y5.trans e6).trans e7
  have aj:Zdv N i (Zf N.vs i)=if 16<Qc N.as i\/16<Wk N.as i then Wy Qv i 4
    else if (Zp N.ts f).i≠Qc N.as i\/(Zp N.ts f).o≠Wk N.as i then Wy Qv i 9 else Ur:=by
   simp [Zdv,hf']
  generalize Qc N.as i=a at *
  generalize Wk N.as i=b at *
  have ae:(16<a\/16<b)->∀ {K:Value->Za->Prop},(∀ v h',Ext h h'->Z6 Y h.size h' (Ua N 0 N.vs) v->K v h')->Zm Y 120 [.string Qv,.int .i64 i,.iface (Y.tid 49) (.int .i64 4)] h7 K:=by
   intro ak K hK
   refine Zeo HF (by omega) ?_
   intro v h8 e8 hv _
   refine hK v h8 (y7.trans e8) ?_
   rw [hm,aj,if_pos ak]
   simp only [Wy]
   exact hv.mono y7.size
  have af:¬ (16<a\/16<b)->((Zp N.ts f).i≠a\/(Zp N.ts f).o≠b)->∀ {K:Value->Za->Prop},(∀ v h',Ext h h'->Z6 Y h.size h' (Ua N 0 N.vs) v->K v h')->Zm Y 120 [.string Qv,.int .i64 i,.iface (Y.tid 49) (.int .i64 9)] h7 K:=by
   intro ak ax K hK
   refine Zeo HF (by omega) ?_
   intro v h8 e8 hv _
   refine hK v h8 (y7.trans e8) ?_
   rw [hm,aj,if_neg ak,if_pos ax]
   simp only [Wy]
   exact hv.mono y7.size
  by_cases ca:16<a
  ·have M:(16:Int)<a:=by omega
   simp [B6.ext e7 |>.hc,B7.hc,Zb I.ok,Z,cI,M]
   refine ae (.inl ca) ?_
   intro v h8 e8 hv
   simp
   exact hr _ _ e8 hv
  have M:¬ (16:Int)<a:=by omega
  by_cases cb:16<b
  ·have aa:(16:Int)<b:=by omega
   simp [B7.hc,Zb I.ok,Zb G.ok,Z,ac,cI,cO,M,aa]
   refine ae (.inr cb) ?_
   intro v h8 e8 hv
   simp
   exact hr _ _ e8 hv
  have aa:¬ (16:Int)<b:=by omega
  have al:¬ (16<a\/16<b):=by omega
  by_cases cc:(Zp N.ts f).i=a
  rotate_left
  ·have ad:((Zp N.ts f).i=(a:Int))=False:=by simp [cc]
   simp [B7.hc,Zb I.ok,Zb G.ok,Z,ac,cI,cO,M,aa,ad]
   refine af al (.inl cc) ?_
   intro v h8 e8 hv
   simp
   exact hr _ _ e8 hv
  have ad:((Zp N.ts f).i=(a:Int))=True:=by simp [cc]
  by_cases cd:(Zp N.ts f).o=b
  rotate_left
  ·have am:((Zp N.ts f).o=(b:Int))=False:=by simp [cd]
   simp [B7.hc,Zb I.ok,Zb G.ok,Z,ac,cI,cO,M,aa,ad,am]
   refine af al (.inr cd) ?_
   intro v h8 e8 hv
   simp
   exact hr _ _ e8 hv
  have am:((Zp N.ts f).o=(b:Int))=True:=by simp [cd]
  simp [B7.hc,Zb I.ok,Zb G.ok,Z,ac,cI,cO,M,aa,ad,am,w1]
  refine ⟨⟨i+1,_,_,_,_,_,_,_,_,_,_,_,rfl,by omega,?_,(x5.trans e6).trans e7⟩,by simp [Zo]; omega⟩
  have ay:Zdv N i (Zf N.vs i)=Ur:=by
   rw [aj,if_neg al]
   simp [cc,cd]
  rw [hm,ay,if_neg (by simp [Ur])]
 have c':¬ (i:Int)<D.n:=by omega
 rw [Xe0 (by omega),Ua] at hm
 simp [c']
 refine hr _ _ y5 ?_
 rw [hm]
 exact Z6.ok
end
def Xb5 (v0:Value) (B:Nat) (st:Sl) (ts:List Tab) (h0:Za) (e:List Value) (h':Za):Prop :=
 ∃ (i:Nat) (v3 v4 v5 v6 v7 v8 v9 v10 v11 v12 v16 v17 v18 v19 v20 v21 v22 v23 v24 v25 v26 v27 v28 v29:Value),
  e=[v0,.pointer (some ⟨B,0,none⟩),.nilIface,v3,v4,v5,v6,v7,v8,v9,v10,v11,v12,st.v,.int .i64 st.n,.int .i64 i,v16,v17,v18,v19,v20,v21,v22,v23,v24,v25,v26,v27,v28,v29]/\i<=st.n/\Uu 0 ts=Uu i (ts.drop i)/\Ext h0 h'
def Xc8 (v0:Value) (B nt:Nat) (sv:Sl) (vs:List Yp) (h0:Za) (e:List Value) (h':Za):Prop :=
 ∃ (i:Nat) (v3 v4 v5 v6 v7 v8 v9 v10 v11 v12 v13 v14 v15 v16 v17 v21 v22 v23 v24 v25 v26 v27 v28 v29:Value),
  e=[v0,.pointer (some ⟨B,0,none⟩),.nilIface,v3,v4,v5,v6,v7,v8,v9,v10,v11,v12,v13,v14,v15,v16,v17,sv.v,.int .i64 sv.n,.int .i64 i,v21,v22,v23,v24,v25,v26,v27,v28,v29]/\i<=sv.n/\Vv nt 0 vs=Vv nt i (vs.drop i)/\(∀ j,j<i->Zt nt (Zf vs j).c=true)/\Ext h0 h'
def Xdm (v0:Value) (B nv:Nat) (sa:Sl) (as:List Yp) (h0:Za) (e:List Value) (h':Za):Prop :=
 ∃ (i:Nat) (v3 v4 v5 v6 v7 v8 v9 v10 v11 v12 v13 v14 v15 v16 v17 v18 v19 v20 v21 v22 v23 v27 v28 v29:Value),
  e=[v0,.pointer (some ⟨B,0,none⟩),.nilIface,v3,v4,v5,v6,v7,v8,v9,v10,v11,v12,v13,v14,v15,v16,v17,v18,v19,v20,v21,v22,v23,sa.v,.int .i64 sa.n,.int .i64 i,v27,v28,v29]/\i<=sa.n/\Qo nv 0 as=Qo nv i (as.drop i)/\(∀ j,j<i->Zt nv (Zf as j).a=true/\Zt nv (Zf as j).b=true)/\Ext h0 h'
structure Zzz (Y:Sys):Prop where
 Check:Y.Has 99 Y99
 fault:Y.Has 120 Y120
 meet:Y.Has 123 Y123
 far:Y.Has 121 Y121
 vertex:Y.Has 122 Y122
theorem Zdp {a b:Wr} (h:a.2≠0):orW a b=a:=if_pos h
theorem Zdn {a b:Wr} (h:a.2=0):orW a b=b:=if_neg (by simp [h])
section
variable {Y:Sys} {h:Za}
theorem Zq4 (NF:Zzz Y) (T:TurnCk Y) {O U V:Sl} {N:Zg} (r:Uo h O U V N)
  {R:Value->Za->Prop} (Z:∀ v h',Ext h h'->Z6 Y h.size h' (Vk N) v->R v h'):Zm Y 99 [Yo O U V] h R:=by
 have lv:=r.rv.len
 have la:=r.ra.len
 have lt:=r.rt.len
 refine .of_has NF.Check rfl ?_
 simp [Y99,Xa.wp,Yo]
 refine Zd ?_
 intro B h1 g1 B1 e1
 have z1:=e1.size
 have lB:=B1.lt
 have H:∀ {h2:Za} {p:ByteArray} {k e:Int} {K:Value->Za->Prop},Ext h h2->e≠0->Vk N=Wy p k e->(∀ v h',Ext h h'->Z6 Y h.size h' (Vk N) v->K v h') ->
   Zm Y 120 [.string p,.int .i64 k,.iface (Y.tid 49) (.int .i64 e)] h2 K:=by
  intro h2 p k e K x he hw hK
  refine Zeo NF.fault he ?_
  intro v h3 e3 hv _
  refine hK v h3 (x.trans e3) ?_
  rw [hw]
  exact hv.mono x.size
 simp [B1.hc]
 by_cases c1:4096<O.n
 ·have aa:(4096:Int)<O.n:=by omega
  have hw:Vk N=Wy Zpp 0 4:=by
   unfold Vk; rw [Zdp] <;> simp [Zck,lv,c1,Wy]
  simp [aa]
  refine H e1 (by omega) hw ?_
  intro v h2 x2 hv
  simp
  exact Z _ _ x2 hv
 have aa:¬ (4096:Int)<O.n:=by omega
 by_cases c2:16384<U.n
 ·have ac:(16384:Int)<U.n:=by omega
  have hw:Vk N=Wy Zpp 1 4:=by
   unfold Vk; rw [Zdp] <;> simp [Zck,lv,la,c1,c2,Wy]
  simp [aa,ac]
  refine H e1 (by omega) hw ?_
  intro v h2 x2 hv
  simp
  exact Z _ _ x2 hv
 have ac:¬ (16384:Int)<U.n:=by omega
 by_cases c3:256<V.n
 ·have aq:(256:Int)<V.n:=by omega
  have hw:Vk N=Wy Zpp 2 4:=by
   unfold Vk; rw [Zdp] <;> simp [Zck,lv,la,lt,c1,c2,c3,Wy]
  simp [aa,ac,aq]
  refine H e1 (by omega) hw ?_
  intro v h2 x2 hv
  simp
  exact Z _ _ x2 hv
 have aq:¬ (256:Int)<V.n:=by omega
 have ay:Vk N=orW (Uu 0 N.ts) (orW (Vv N.ts.length 0 N.vs) (orW (Qo N.vs.length 0 N.as) (Ua N 0 N.vs))):=by
  unfold Vk; rw [Zdn]; simp [Zck,lv,la,lt,c1,c2,c3,Ur]
 simp [aa,ac,aq,B1.hc]
 refine Zj (Xb5 (Yo O U V) B V N.ts h1) (fun e _=>V.n-Zo e 15) ⟨0,_,_,_,_,_,_,_,_,_,_,_,_,_,_,_,_,_,_,_,_,_,_,_,_,rfl,by omega,by simp,Mod.refl h1⟩ ?_
 rintro e h2 ⟨i,v3,v4,v5,v6,v7,v8,v9,ad,ae,af,ag,ah,az,aA,aB,ai,aj,ak,ar,au,av,al,am,an,rfl,hi,G,x2⟩
 have y2:=e1.trans x2
 have B2:=B1.ext x2
 by_cases c:i<V.n
 ·have c':(i:Int)<V.n:=by omega
  have w1:IntKind.i64.wrap ((i:Int)+1)=(i:Int)+1:=Ze (by omega)
  rw [Zih (by omega)] at G
  obtain ⟨q,aH,_,rq⟩:=(r.ext y2).rt.rd (i:=i) (by omega)
  simp [c',Zb (r.ext y2).rt.ok,aH]
  refine Yr (vs:=#[.int .i64 (Zp N.ts i).i,.int .i64 (Zp N.ts i).o,q.v]) rfl rfl (by simp) ?_
  intro b3 aP g3 B3' aI M
  simp
  refine M _ ?_
  intro h3 B3 e3
  clear M B3' aI
  have y3:=y2.trans e3
  simp [Zy B3]
  refine Zjm T (rq.ext e3) ?_
  intro v4 h4 e4 ao
  have X:=y3.trans e4
  rw [show Uc (Zp N.ts i).i (Zp N.ts i).o (Zp N.ts i).cs=Qr (Zp N.ts i) from rfl] at ao
  by_cases h0:(Qr (Zp N.ts i)).2=0
  ·have:=ao.here.nil h0
   subst this
   rw [if_neg (by simp [h0])] at G
   simp [w1]
   exact ⟨⟨i+1,_,_,_,_,_,_,_,_,_,_,_,_,_,_,_,_,_,_,_,_,_,_,_,_,rfl,by omega,G,(x2.trans e3).trans e4⟩,by simp [Zo]; omega⟩
  ·rw [if_pos h0] at G
   have ap:(Wi Zne i (Qr (Zp N.ts i))).2≠0:=by unfold Wi; rw [if_neg h0]; exact h0
   have hw:Vk N=Wi Zne i (Qr (Zp N.ts i)):=by rw [ay,G,Zdp ap]
   obtain ⟨t4,u4,rfl⟩:=ao.here.iface h0
   simp
   refine Zn7 NF.fault (lo:=h.size) (by have:=X.size; omega) (ao.mono (by have:=y3.size; omega)) h0 ?_
   intro v5 h5 e5 J _
   simp
   refine Z _ _ (X.trans e5) ?_
   rw [hw]
   exact J
 have c':¬ (i:Int)<V.n:=by omega
 rw [Xe0 (by omega),Uu] at G
 have aC:Vk N=orW (Vv N.ts.length 0 N.vs) (orW (Qo N.vs.length 0 N.as) (Ua N 0 N.vs)):=by rw [ay,G,Zdn rfl]
 simp [c',B2.hc]
 refine Zj (Xc8 (Yo O U V) B N.ts.length O N.vs h2) (fun e _=>O.n-Zo e 20) ⟨0,_,_,_,_,_,_,_,_,_,_,_,_,_,_,_,_,_,_,_,_,_,_,_,_,rfl,by omega,by simp,fun j hj=>by omega,Mod.refl h2⟩ ?_
 clear c c' hi G v3 v4 v5 v6 v7 v8 v9 ad ae af ag ah az aA aB ai aj ak ar au av al am an
 rintro e h3 ⟨i,v3,v4,v5,v6,v7,v8,v9,ad,ae,af,aD,aE,aF,ag,ah,ai,aj,ak,ar,au,av,al,am,an,rfl,hi,G,I,x3⟩
 have y3:=y2.trans x3
 have B3:=B2.ext x3
 by_cases c:i<O.n
 ·have c':(i:Int)<O.n:=by omega
  have w1:IntKind.i64.wrap ((i:Int)+1)=(i:Int)+1:=Ze (by omega)
  rw [Zh3 (by omega)] at G
  have aJ:=(r.ext y3).rv.rd (i:=i) (by omega)
  simp [c',Zb (r.ext y3).rv.ok,aJ]
  refine Yr (vs:=#[.int .i64 (Zf N.vs i).a,.int .i64 (Zf N.vs i).b,.int .i64 (Zf N.vs i).c]) rfl rfl (by simp) ?_
  intro b4 aQ g4 B4' aK M
  simp
  refine M _ ?_
  intro h4 B4 e4
  clear M B4' aK
  have X:=y3.trans e4
  have B14:=B3.ext e4
  have D:(Ub N.ts.length i (Zf N.vs i)).2≠0->Vk N=Ub N.ts.length i (Zf N.vs i):=by
   intro ab
   rw [if_pos ab] at G
   rw [aC,G,Zdp ab]
  simp [B4.hc]
  refine Zpt NF.far ?_
  by_cases f1:Za3 (Zf N.vs i).a=true
  ·have hv:Ub N.ts.length i (Zf N.vs i)=Wy Qv i 1:=by simp [Ub,f1]
   simp [f1]
   refine H X (by omega) (by rw [D (by rw [hv]; simp [Wy]),hv]) ?_
   intro v h5 x5 J
   simp
   exact Z _ _ x5 J
  simp [f1,B4.hc]
  refine Zpt NF.far ?_
  by_cases f2:Za3 (Zf N.vs i).b=true
  ·have hv:Ub N.ts.length i (Zf N.vs i)=Wy Qv i 1:=by simp [Ub,f2]
   simp [f2]
   refine H X (by omega) (by rw [D (by rw [hv]; simp [Wy]),hv]) ?_
   intro v h5 x5 J
   simp
   exact Z _ _ x5 J
  have aw:Ub N.ts.length i (Zf N.vs i)=if Zt N.ts.length (Zf N.vs i).c then Ur else Wy Qv i 5:=by simp [Ub,f1,f2]
  by_cases f3:(Zf N.vs i).c<0
  ·have hv:Ub N.ts.length i (Zf N.vs i)=Wy Qv i 5:=by
    rw [aw,if_neg]; simp [Zt]; omega
   simp [f2,B4.hc,f3]
   refine H X (by omega) (by rw [D (by rw [hv]; simp [Wy]),hv]) ?_
   intro v h5 x5 J
   simp
   exact Z _ _ x5 J
  by_cases f4:(V.n:Int)<=(Zf N.vs i).c
  ·have hv:Ub N.ts.length i (Zf N.vs i)=Wy Qv i 5:=by
    rw [aw,if_neg]; simp [Zt]; omega
   simp [f2,B4.hc,B14.hc,f3,f4]
   refine H X (by omega) (by rw [D (by rw [hv]; simp [Wy]),hv]) ?_
   intro v h5 x5 J
   simp
   exact Z _ _ x5 J
  have aG:Zt N.ts.length (Zf N.vs i).c=true:=by simp [Zt]; omega
  have hv:Ub N.ts.length i (Zf N.vs i)=Ur:=by rw [aw,if_pos aG]
  rw [hv,if_neg (by simp [Ur])] at G
  simp [f2,B4.hc,B14.hc,f3,f4,w1]
  refine ⟨⟨i+1,_,_,_,_,_,_,_,_,_,_,_,_,_,_,_,_,_,_,_,_,_,_,_,_,rfl,by omega,G,fun j hj=>?_,x3.trans e4⟩,by simp [Zo]; omega⟩
  rcases Xd8 j i with q | q
  ·exact I j q
  ·obtain rfl:j=i:=by omega
   exact aG
 have c':¬ (i:Int)<O.n:=by omega
 obtain rfl:i=O.n:=by omega
 rw [Xe0 (by omega),Vv] at G
 have ap:Vk N=orW (Qo N.vs.length 0 N.as) (Ua N 0 N.vs):=by rw [aC,G,Zdn rfl]
 have hV:∀ i,i<N.vs.length->Zt N.ts.length (Zf N.vs i).c=true:=fun i hi=>I i (by omega)
 simp [B3.hc]
 refine Zj (Xdm (Yo O U V) B N.vs.length U N.as h3) (fun e _=>U.n-Zo e 26) ⟨0,_,_,_,_,_,_,_,_,_,_,_,_,_,_,_,_,_,_,_,_,_,_,_,_,rfl,by omega,by simp,fun j hj=>by omega,Mod.refl h3⟩ ?_
 clear c c' hi G I v3 v4 v5 v6 v7 v8 v9 ad ae af aD aE aF ag ah ai aj ak ar au av al am an
 rintro e h4 ⟨i,v3,v4,v5,v6,v7,v8,v9,ad,ae,af,aD,aE,aF,ag,ah,az,aA,aB,ai,aj,ak,al,am,an,rfl,hi,G,I,x4⟩
 have X:=y3.trans x4
 have B4:=B3.ext x4
 by_cases c:i<U.n
 ·have c':(i:Int)<U.n:=by omega
  have w1:IntKind.i64.wrap ((i:Int)+1)=(i:Int)+1:=Ze (by omega)
  rw [Zk6 (by omega)] at G
  have aL:=(r.ext X).ra.rd (i:=i) (by omega)
  simp [c',Zb (r.ext X).ra.ok,aL]
  refine Yr (vs:=#[.int .i64 (Zf N.as i).a,.int .i64 (Zf N.as i).b,.int .i64 (Zf N.as i).c]) rfl rfl (by simp) ?_
  intro b5 aR g5 B5' aM M
  simp
  refine M _ ?_
  intro h5 B5 e5
  clear M B5' aM
  have y5:=X.trans e5
  have B15:=B4.ext e5
  have D:(W0 N.vs.length i (Zf N.as i)).2≠0->Vk N=W0 N.vs.length i (Zf N.as i):=by
   intro ab
   rw [if_pos ab] at G
   rw [ap,G,Zdp ab]
  simp [Zy B15,B5.hc]
  refine Zij NF.vertex lv ?_
  intro h6 e6
  have y6:=y5.trans e6
  have B16:=B15.ext e6
  have B6:=B5.ext e6
  by_cases f1:Zt N.vs.length (Zf N.as i).a=true
  rotate_left
  ·have hv:W0 N.vs.length i (Zf N.as i)=Wy Zll i 5:=by simp [W0,f1]
   simp [f1]
   refine H y6 (by omega) (by rw [D (by rw [hv]; simp [Wy]),hv]) ?_
   intro v h7 x7 aN
   simp
   exact Z _ _ x7 aN
  simp [f1,Zy B16,B6.hc]
  refine Zij NF.vertex lv ?_
  intro h7 e7
  have y7:=y6.trans e7
  have B7:=B6.ext e7
  by_cases f2:Zt N.vs.length (Zf N.as i).b=true
  rotate_left
  ·have hv:W0 N.vs.length i (Zf N.as i)=Wy Zll i 5:=by simp [W0,f1,f2]
   simp [f2]
   refine H y7 (by omega) (by rw [D (by rw [hv]; simp [Wy]),hv]) ?_
   intro v h8 x8 ax
   simp
   exact Z _ _ x8 ax
  simp [f2,B7.hc]
  refine X9 T.Weight ?_
  by_cases f3:Yi (Zf N.as i).c=true
  rotate_left
  ·have hv:W0 N.vs.length i (Zf N.as i)=Wy Zll i 8:=by simp [W0,f1,f2,f3]
   simp [f3]
   refine H y7 (by omega) (by rw [D (by rw [hv]; simp [Wy]),hv]) ?_
   intro v h8 x8 ax
   simp
   exact Z _ _ x8 ax
  have hv:W0 N.vs.length i (Zf N.as i)=Ur:=by simp [W0,f1,f2,f3]
  rw [hv,if_neg (by simp [Ur])] at G
  simp [f3,w1]
  refine ⟨⟨i+1,_,_,_,_,_,_,_,_,_,_,_,_,_,_,_,_,_,_,_,_,_,_,_,_,rfl,by omega,G,fun j hj=>?_,((x4.trans e5).trans e6).trans e7⟩,by simp [Zo]; omega⟩
  rcases Xd8 j i with q | q
  ·exact I j q
  ·obtain rfl:j=i:=by omega
   exact ⟨f1,f2⟩
 have c':¬ (i:Int)<U.n:=by omega
 obtain rfl:i=U.n:=by omega
 rw [Xe0 (by omega),Qo] at G
 have aO:Vk N=Ua N 0 N.vs:=by rw [ap,G,Zdn rfl]
 simp [Zy B4]
 refine Zw4 NF.meet NF.fault (r.ext X) (by omega) (by omega) (fun i hi=>I i (by omega)) hV ?_
 intro v h5 e5 hv
 simp
 refine Z _ _ (X.trans e5) ?_
 rw [aO]
 exact hv.mono X.size
end
def Yc:Nat->List Int->Int->Int
 | _,[],_=>-1
 | k,x::r,a=>if x=a then k else Yc (k+1) r a
theorem Zhy {l:List Int} {i:Nat} {a:Int} (r:i<l.length):Yc i (l.drop i) a=if Zc l i=a then (i:Int) else Yc (i+1) (l.drop (i+1)) a:=by
 rw [Xfk r,Yc]
 simp [Zc,r]
section
variable {Y:Sys} {h:Za}
theorem Zfw (H:Y.Has 130 Y130) {I r J:Sl} {N:Zg} (M:N.as.length=r.n) {v:Int} {R:Value->Za->Prop} (D:∀ h',Ext h h'->R (.bool (Zt N.as.length v)) h'):Zm Y 130 [Yo I r J,.int .i64 v] h R:=by
 refine .of_has H rfl ?_
 simp [Y130,Xa.wp,Yo]
 refine Zd ?_
 intro b h1 O B1 G
 rw [M] at D
 by_cases c:0<=v
 ·have:Zt r.n v=decide (v<r.n):=by simp [Zt,c]
  rw [this] at D
  simp [c,B1.hc]
  exact D _ G
 ·have:Zt r.n v=false:=by simp [Zt,c]
  rw [this] at D
  simp [c]
  exact D _ G
def Z8f (s:Sl) (cs:List Int) (a:Int) (h0:Za) (e:List Value) (h':Za):Prop :=
 ∃ (i:Nat) (v4 v5:Value),e=[s.v,.int .i64 a,.int .i64 0,.int .i64 i,v4,v5]/\i<=s.n/\Yc 0 cs a=Yc i (cs.drop i) a/\h'=h0
theorem Zhx (H:Y.Has 131 Y131) {s:Sl} {cs:List Int} (r:Zz h s cs) (G:s.n<=1000000) {a:Int} {R:Value->Za->Prop} (D:R (.int .i64 (Yc 0 cs a)) h):Zm Y 131 [s.v,.int .i64 a] h R:=by
 have J:=r.len
 refine .of_has H rfl ?_
 simp [Y131,Xa.wp]
 refine Zj (Z8f s cs a h) (fun e _=>s.n-Zo e 3) ⟨0,_,_,rfl,by omega,by simp,rfl⟩ ?_
 rintro e h1 ⟨i,M,O,rfl,U,hp,rfl⟩
 by_cases c:i<s.n
 ·have c':(i:Int)<s.n:=by omega
  have I:IntKind.i64.wrap ((i:Int)+1)=(i:Int)+1:=Ze (by omega)
  rw [Zhy (by omega)] at hp
  by_cases q:Zc cs i=a
  ·have q':(Zc cs i=a)=True:=by simp [q]
   rw [if_pos q] at hp
   rw [hp] at D
   simp [c',Zb r.ok,r.at c,q']
   exact D
  ·rw [if_neg q] at hp
   simp [c',Zb r.ok,r.at c,q,I]
   exact ⟨⟨i+1,_,_,rfl,by omega,hp,rfl⟩,by simp [Zo]; omega⟩
 ·have c':¬ (i:Int)<s.n:=by omega
  rw [Xe0 (by omega),Yc] at hp
  rw [hp] at D
  simp [c']
  exact D
end
section
variable {Y:Sys} {h:Za}
def Qd (ps:List (ByteArray × Int)):List Value:=ps.flatMap fun p=>[.string p.1,.int .i64 p.2]
theorem Zc6 {ps:List (ByteArray × Int)}:(Qd ps).length=ps.length * 2:=by
 induction ps with
 | nil=>rfl
 | cons t r D=>simp only [Qd,Xgj,Xei,Xfd,Xf4] at D ⊢; omega
theorem Zk4 {ps:List (ByteArray × Int)}:∀ {i:Nat} {x:ByteArray × Int},ps[i]? = some x->(Qd ps)[i * 2]? = some (.string x.1)/\(Qd ps)[i * 2+1]? = some (.int .i64 x.2):=by
 induction ps with
 | nil=>intro i x hx; simp at hx
 | cons t r D =>
  intro i x hx
  have e:Qd (t::r) = .string t.1 :: .int .i64 t.2::Qd r:=rfl
  rw [e]
  cases i with
  | zero=>simp at hx; subst hx; simp
  | succ i =>
   have:=D (i:=i) (x:=x) (by simpa using hx)
   have G:(i+1) * 2=i * 2+1+1:=by omega
   have H:(i+1) * 2+1=i * 2+1+1+1:=by omega
   rw [H,G]
   simp only [Xhs]
   exact this
theorem Zb4.rd {s:Sl} {ps:List (ByteArray × Int)} (p:Zb4 h s ps):rd h s.b s.o (ps.length * 2)=some (Qd ps):=by
 have:=Zal (h:=h) (b:=s.b) (l:=Qd ps) (o:=s.o) fun j v r=>by
  have I:j<ps.length * 2:=by
   have:=(List.getElem?_eq_some_iff.1 r).1
   rwa [Zc6] at this
  have hx:ps[j / 2]? = some ps[j / 2]:=Xfe (by omega)
  obtain ⟨D,G⟩:=Zk4 hx
  obtain ⟨H,k1⟩:=p.p _ _ hx
  rcases Nat.mod_two_eq_zero_or_one j with m | m
  ·have e:j=j / 2 * 2:=by omega
   rw [<-e] at D H
   rw [r] at D
   cases D
   exact H
  ·have e:j=j / 2 * 2+1:=by omega
   rw [<-e] at G
   rw [r] at G
   cases G
   rw [show s.o+j=s.o+j / 2 * 2+1 by omega]
   exact k1
 rwa [Zc6] at this
theorem Yb.partsAt {s:Sl} {ps:List (ByteArray × Int)} (o:Yb h 2 s (Qd ps)):Zb4 h s ps:=by
 have r:=o.1
 rw [Zc6] at r
 refine ⟨o.ok,by omega,fun i x hx=>?_⟩
 obtain ⟨a,b⟩:=Zk4 hx
 exact ⟨o.cell a,o.cell b⟩
theorem Zr7 {s:Sl} {ps:List (ByteArray × Int)} (p:Zb4 h s ps):Wq h 2 s.n s.v=some (Qd ps):=by
 have G:=p.rd
 rw [p.len] at G
 unfold Sl.v
 cases r:s.nl with
 | true =>
  have:ps=[]:=Xe3 (by rw [p.len]; exact (p.ok.nil r).1)
  subst this
  rfl
 | false =>
  cases D:s.sp with
  | none=>simp only [Xeh,if_false,Wq]; exact G
  | some q =>
   have h0:s.n=0:=by
    have:=p.ok.spot.resolve_left (by rw [D]; simp)
    have:=p.ok.le; omega
   have:ps=[]:=Xe3 (by rw [p.len]; exact h0)
   subst this
   simp [Wq,h0,Qd]
theorem Zui {ps:List (ByteArray × Int)}:∀ v∈Qd ps,v.oneCell'=true:=by
 intro v hv
 simp only [Qd,List.mem_flatMap,Xf8,Xgk,or_false] at hv
 obtain ⟨q,_,rfl | rfl⟩:=hv <;> rfl
theorem Zpb (HW:Y.Has 118 Y118) {p:ByteArray} {a:Int} {w:Wr} {v:Value} (hv:Zfq h w.1 w.2 v) (h0:w.2≠0) (O:w.1.length<=4) {R:Value->Za->Prop}
  (Z:∀ h' U,Ext h h'->FWr h.size h' (Wi p a w) U->R U h'):Zm Y 118 [.string p,.int .i64 a,v] h R:=by
 obtain ⟨s,rfl,hp⟩:=hv
 have hn:=hp.len
 refine .of_has HW rfl ?_
 simp [Y118,Xa.wp]
 refine Zd ?_
 intro b h1 g1 B1 G
 simp
 refine Zd ?_
 intro rb r g2 B2 e2
 have B12:=B1.ext e2
 have z1:=G.size
 have z2:=e2.size
 have lB:=B2.lt
 simp [B12.hc,h0,Zes]
 intro t
 have e3:Ext r (r.push (.cells #[.string p,.int .i64 a] t)):=Mod.push
 have B13:=B12.ext e3
 have B23:=B2.ext e3
 have p3:=((hp.ext G).ext e2).ext e3
 have o3:Yb (r.push (.cells #[.string p,.int .i64 a] t)) 2 (Sl.at r.size 1 1) (Qd [(p,a)]) :=
  ⟨by simp [Qd],.inr ⟨rfl,rfl,rfl,Xd6 _,by simp,_,Ys.new,by simp,by simp [Qd]⟩⟩
 simp [B13.hc]
 rw [<-Sl.at_v]
 refine Vx o3 (m:=s.n) (nw:=Qd w.1) Yq (Zr7 p3) (by rw [Zc6,hn]) Zui rfl (by simp; omega) (by simp; omega) ?_
 intro H h4 o4 aa m4 I
 have J:Ext r h4:=Mod.ext e3 m4 (fun j D=>by have:=D.2; simp at this; omega)
 have B14:=B12.ext J
 have B24:=B2.ext J
 simp [B14.hc]
 refine Zi B24 rfl rfl (by simp) ?_
 intro h5 B5 V
 simp
 refine Yt rfl B5 rfl ?_
 have ab:H.nl=false/\r.size<=H.b:=by
  rcases I with ⟨X,M⟩ | ⟨X,M⟩
  ·rw [X,M]; exact ⟨rfl,Xd6 _⟩
  ·exact ⟨M,by have:=e3.size; omega⟩
 have o5:=o4.mod V (fun _ D=>by omega)
 refine Z h5 _ (Mod.ext ((G.trans e2).trans J) V (fun j D=>by omega)) (fun h6 m6=>?_)
 have o6:=o5.mod m6 (fun _ D=>by omega)
 unfold Wi
 rw [if_neg h0]
 refine ⟨H,rfl,Yb.partsAt (ps:=(p,a)::w.1) ?_⟩
 simpa [Qd] using o6
end
end Go.Rm
