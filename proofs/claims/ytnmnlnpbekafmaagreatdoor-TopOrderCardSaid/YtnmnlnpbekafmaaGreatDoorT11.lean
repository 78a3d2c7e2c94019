import Derived.Test.YtnmnlnpbekafmaaGreatDoorT10
/- Parts. -/
set_option linter.unusedSimpArgs false
set_option linter.unusedVariables false
namespace Go.Rm
structure Xe where
 a:Int
 b:Int
 c:Int
deriving DecidableEq
structure Tab where
 i:Int
 o:Int
 cs:Zb
deriving DecidableEq
structure Zq where
 vs:List Xe
 as:List Xe
 ts:List Tab
deriving DecidableEq
def Zp (l:List Xe) (i:Nat):Xe:=l.getD i ⟨0,0,0⟩
def Zx (l:List Tab) (i:Nat):Tab:=l.getD i ⟨0,0,[]⟩
theorem Wn {l:List Xe} {i:Nat} (r:i<l.length):Zp l i=l[i]:=by simp [Zp,r]
theorem W5 {l:List Tab} {i:Nat} (r:i<l.length):Zx l i=l[i]:=by simp [Zx,r]
structure Zaz (h:Zk) (s:Sl) (l:List Xe):Prop where
 ok:s.ok
 len:l.length=s.n
 v0:∀ i,i<l.length->hc h s.b (s.o+i * 3)=some (.int .i64 (Zp l i).a)
 v1:∀ i,i<l.length->hc h s.b (s.o+i * 3+1)=some (.int .i64 (Zp l i).b)
 v2:∀ i,i<l.length->hc h s.b (s.o+i * 3+2)=some (.int .i64 (Zp l i).c)
structure Zix (h:Zk) (s:Sl) (l:List Tab):Prop where
 ok:s.ok
 len:l.length=s.n
 val:∀ i,i<l.length->∃ u:Sl,hc h s.b (s.o+i * 3)=some (.int .i64 (Zx l i).i)/\hc h s.b (s.o+i * 3+1)=some (.int .i64 (Zx l i).o)/\hc h s.b (s.o+i * 3+2)=some u.v/\Yf h u (Zx l i).cs
def Yx (sv sa st:Sl):Value:=.agg #[sv.v,sa.v,st.v]
structure Ul (h:Zk) (sv sa st:Sl) (N:Zq):Prop where
 rv:Zaz h sv N.vs
 ra:Zaz h sa N.as
 rt:Zix h st N.ts
section
variable {Y:Sys} {h h':Zk}
theorem Zaz.ext {s:Sl} {l:List Xe} (r:Zaz h s l) (e:Ext h h'):Zaz h' s l :=
 ⟨r.ok,r.len,fun i D=>e.hc (r.v0 i D) (fun h=>h),fun i D=>e.hc (r.v1 i D) (fun h=>h),fun i D=>e.hc (r.v2 i D) (fun h=>h)⟩
theorem Zix.ext {s:Sl} {l:List Tab} (r:Zix h s l) (e:Ext h h'):Zix h' s l :=
 ⟨r.ok,r.len,fun i D=>by
  obtain ⟨u,h0,h1,G,H⟩:=r.val i D;exact ⟨u,e.hc h0 (fun h=>h),e.hc h1 (fun h=>h),e.hc G (fun h=>h),H.ext e⟩⟩
theorem Ul.ext {D G H:Sl} {N:Zq} (r:Ul h D G H N) (e:Ext h h'):Ul h' D G H N:=⟨r.rv.ext e,r.ra.ext e,r.rt.ext e⟩
theorem Zaz.rd {s:Sl} {l:List Xe} (r:Zaz h s l) {i:Nat} (G:i<l.length):rd h s.b (s.o+i * 3) 3=some [.int .i64 (Zp l i).a,.int .i64 (Zp l i).b,.int .i64 (Zp l i).c]:=by
 refine Zad (l:=[.int .i64 (Zp l i).a,.int .i64 (Zp l i).b,.int .i64 (Zp l i).c]) (fun j v D=>?_)
 match j with
 | 0=>simp at D;subst D;exact r.v0 i G
 | 1=>simp at D;subst D;exact r.v1 i G
 | 2=>simp at D;subst D;exact r.v2 i G
 | j+3=>simp at D
theorem Zix.rd {s:Sl} {l:List Tab} (r:Zix h s l) {i:Nat} (H:i<l.length):∃ u:Sl,rd h s.b (s.o+i * 3) 3=some [.int .i64 (Zx l i).i,.int .i64 (Zx l i).o,u.v]/\hc h s.b (s.o+i * 3+2)=some u.v/\Yf h u (Zx l i).cs:=by
 obtain ⟨u,h0,h1,G,I⟩:=r.val i H;refine ⟨u,Zad (l:=[.int .i64 (Zx l i).i,.int .i64 (Zx l i).o,u.v]) (fun j v D=>?_),G,I⟩
 match j with
 | 0=>simp at D;subst D;exact h0
 | 1=>simp at D;subst D;exact h1
 | 2=>simp at D;subst D;exact G
 | j+3=>simp at D
def Zfk (N:Zq):Bool:=decide (N.vs.length<=80/\N.as.length<=300/\N.ts.length<=80/\∀ t∈N.ts,t.cs.length<=300)
theorem Zc2 {N:Zq}:Zfk N=true↔N.vs.length<=80/\N.as.length<=300/\N.ts.length<=80/\∀ i,i<N.ts.length->(Zx N.ts i).cs.length<=300:=by
 simp only [Zfk,decide_eq_true_eq];constructor
 ·rintro ⟨a,b,c,d⟩;exact ⟨a,b,c,fun i r=>by rw [W5 r];exact d _ (Xe4 r)⟩
 rintro ⟨a,b,c,d⟩;refine ⟨a,b,c,fun t ht=>?_⟩;obtain ⟨i,r,rfl⟩:=Xfs ht;have:=d i r;rwa [W5 r] at this
def Xdx (B:Nat) (v0:Value) (st:Sl) (N:Zq) (h0:Zk) (e:Zc) (h':Zk):Prop :=
 ∃ (i:Nat) (v4 v5 v6:Value),e=[v0,.pointer (some ⟨B,0,none⟩),.bool false,.int .i64 i,v4,v5,v6]/\i<=st.n/\(∀ j,j<i->(Zx N.ts j).cs.length<=300)/\h'=h0
theorem Z0n (HF:Y.Has 98 Y98) {H J D:Sl} {N:Zq} (r:Ul h H J D N) {R:Ze} (I:∀ h',Ext h h'->R (.bool (Zfk N)) h'):Zv Y 98 [Yx H J D] h R:=by
 have lv:=r.rv.len;have la:=r.ra.len;have lt:=r.rt.len;refine .of_has HF rfl ?_;simp [Y98,Xn.wp,Yx];refine Zn ?_;intro B h1 g1 B1 X;have r1:=r.ext X;simp [B1.hc];by_cases c1:80<H.n
 ·have G:(80:Int)<H.n:=by omega
  have hf:Zfk N=false:=by
   rw [Xgd];intro h;have:=Zc2.1 h;omega
  rw [hf] at I;have U:¬ (H.n:Int)<=80:=by omega
  simp [G,U];exact I _ X
 have G:¬ (80:Int)<H.n:=by omega
 by_cases c2:300<J.n
 ·have M:(300:Int)<J.n:=by omega
  have hf:Zfk N=false:=by
   rw [Xgd];intro h;have:=Zc2.1 h;omega
  rw [hf] at I;have U:(H.n:Int)<=80:=by omega
  have Z:¬ (J.n:Int)<=300:=by omega
  simp [G,M,U,Z];exact I _ X
 have M:¬ (300:Int)<J.n:=by omega
 by_cases c3:80<D.n
 ·have V:(80:Int)<D.n:=by omega
  have hf:Zfk N=false:=by
   rw [Xgd];intro h;have:=Zc2.1 h;omega
  rw [hf] at I;have U:(H.n:Int)<=80:=by omega
  have Z:(J.n:Int)<=300:=by omega
  simp [G,M,V,U,Z];exact I _ X
 have V:¬ (80:Int)<D.n:=by omega
 have U:(H.n:Int)<=80:=by omega
 have Z:(J.n:Int)<=300:=by omega
 have p3:(D.n:Int)<=80:=by omega
 simp [G,M,V,U,Z];refine Zs (Xdx B (Yx H J D) D N h1) (fun e _=>D.n-Zy e 3) ⟨0,_,_,_,rfl,by omega,fun j hj=>by omega,rfl⟩ ?_;rintro e h2 ⟨i,v4,v5,v6,rfl,hi,O,rfl⟩;by_cases c:i<D.n
 ·have c':(i:Int)<D.n:=by omega
  have w1:=Zj (i:=i) (by omega);obtain ⟨u,_,hu,ru⟩:=r1.rt.rd (i:=i) (by omega);have lu:=ru.len;simp [B1.hc,c',Zm r1.rt.ok,hu];by_cases g:300<u.n
  ·have g':(300:Int)<u.n:=by omega
   have hf:Zfk N=false:=by
    rw [Xgd];intro h;have:=(Zc2.1 h).2.2.2 i (by omega);omega
   rw [hf] at I;simp [g'];exact I _ X
  have g':¬ (300:Int)<u.n:=by omega
  simp [g',w1];refine ⟨⟨i+1,_,_,_,rfl,by omega,fun j hj=>?_,rfl⟩,by simp [Zy];omega⟩;rcases Xen j i with q | q
  ·exact O j q
  obtain rfl:j=i:=by omega
  omega
 have c':¬ (i:Int)<D.n:=by omega
 have hf:Zfk N=true:=Zc2.2 ⟨by omega,by omega,by omega,fun j hj=>O j (by omega)⟩;rw [hf] at I;simp [B1.hc,c'];exact I _ X
def Yb (l:List (Value × Value × Value)):Zc:=l.flatMap fun t=>[t.1,t.2.1,t.2.2]
theorem Yg {l:List (Value × Value × Value)}:(Yb l).length=l.length * 3:=by
 induction l with
 | nil=>rfl
 | cons t r D=>simp only [Yb,Xg0,Xex,Xfp,Xgn] at D ⊢;omega
theorem Zsc {l:List (Value × Value × Value)} {x y z:Value}:Yb (l++[(x,y,z)])=Yb l++[x,y,z]:=by simp [Yb]
theorem Zfz {l:List (Value × Value × Value)}:∀ {i:Nat} (D:i<l.length),(Yb l)[i * 3]? = some l[i].1/\(Yb l)[i * 3+1]? = some l[i].2.1/\(Yb l)[i * 3+2]? = some l[i].2.2:=by
 induction l with
 | nil=>intro i D;simp at D
 | cons t r G =>
  intro i D;have e:Yb (t::r)=t.1::t.2.1::t.2.2::Yb r:=rfl;rw [e]
  cases i with
  | zero=>simp
  | succ i =>
   have:=G (i:=i) (by simpa using D);have H:(i+1) * 3=i * 3+1+1+1:=by omega
   have I:(i+1) * 3+1=i * 3+1+1+1+1:=by omega
   have J:(i+1) * 3+2=i * 3+2+1+1+1:=by omega
   rw [I,J,H];simp only [Xh5,List.getElem_cons_succ];exact this
def Xv (t:Xe):Value × Value × Value:=(.int .i64 t.a,.int .i64 t.b,.int .i64 t.c)
def Qv (p:Tab × Sl):Value × Value × Value:=(.int .i64 p.1.i,.int .i64 p.1.o,p.2.v)
theorem Yl.get3 {s:Sl} {l:List (Value × Value × Value)} (o:Yl h 3 s (Yb l)) {i:Nat} (r:i<l.length) :
  hc h s.b (s.o+i * 3)=some l[i].1/\hc h s.b (s.o+i * 3+1)=some l[i].2.1/\hc h s.b (s.o+i * 3+2)=some l[i].2.2:=by
 obtain ⟨a,b,c⟩:=Zfz r;exact ⟨o.cell a,o.cell b,o.cell c⟩
theorem Yl.n3 {s:Sl} {l:List (Value × Value × Value)} (o:Yl h 3 s (Yb l)):l.length=s.n:=by
 have:=o.1;rw [Yg] at this;omega
theorem Yl.row3 {s:Sl} {l:List Xe} (o:Yl h 3 s (Yb (l.map Xv))):Zaz h s l:=by
 have D:=o.n3;have g:∀ i (r:i<l.length),hc h s.b (s.o+i * 3)=some (Xv l[i]).1/\hc h s.b (s.o+i * 3+1)=some (Xv l[i]).2.1/\hc h s.b (s.o+i * 3+2)=some (Xv l[i]).2.2:=fun i r=>by
  have g:=o.get3 (i:=i) (by simpa using r);rw [Xe7] at g;exact g
 refine ⟨o.ok,by simpa using D,fun i r=>?_,fun i r=>?_,fun i r=>?_⟩
 ·rw [Wn r];exact (g i r).1
 ·rw [Wn r];exact (g i r).2.1
 rw [Wn r];exact (g i r).2.2
theorem Zaz.mod {S:Zf} {s:Sl} {l:List Xe} (r:Zaz h s l) (e:Mod S h h') (hs:l≠[]->¬ S s.b):Zaz h' s l :=
 ⟨r.ok,r.len,fun i D=>e.hc (r.v0 i D) (hs (by intro e;rw [e] at D;simp at D)),fun i D=>e.hc (r.v1 i D) (hs (by intro e;rw [e] at D;simp at D)),fun i D=>e.hc (r.v2 i D) (hs (by intro e;rw [e] at D;simp at D))⟩
theorem Yl.rowT {s:Sl} {P:List (Tab × Sl)} {l:List Tab} (o:Yl h 3 s (Yb (P.map Qv))) (D:P.map Prod.fst=l) (hP:∀ p∈P,Yf h p.2 p.1.cs):Zix h s l:=by
 have G:=o.n3;subst D;refine ⟨o.ok,by simpa using G,fun i r=>?_⟩;have r:i<P.length:=by simpa using r
 have e:Zx (P.map Prod.fst) i=P[i].1:=by rw [W5 (by simpa using r)];simp
 have g:=o.get3 (i:=i) (by simpa using r);rw [e];exact ⟨P[i].2,by simpa [Qv] using g.1,by simpa [Qv] using g.2.1,by simpa [Qv] using g.2.2,hP _ (Xe4 r)⟩
theorem W1 {r D G:Value} {k j l:IntKind} {a b c:Int}:Ys.sem Y h (.build #[r,D,G] [(0,1),(1,1),(2,1)] [0,1,2]) [.int k a,.int j b,.int l c]=some (.agg #[.int k a,.int j b,.int l c]):=Zdn rfl rfl rfl
theorem V6 {K:Ze} {D G H x y z:Value} :
  Ef.wp h K (.bslice 1 3 #[D,G,H] [0]) [.agg #[x,y,z]] = ∀ t:TypeId,K (.slice (some ⟨h.size,0,none⟩) 1 1) (h.push (.cells #[x,y,z] t)):=by
 have e:Instr.fill (fun i=>some (i * 3,3)) (Xt #[D,G,H] (1 * 3)) ([0].zip [.agg #[x,y,z]])=some #[x,y,z]:=by
  simp [Instr.fill,Xt];apply Xf4
  ·simp
  intro i h1 r
  match i,r with
  | 0,_=>simp
  | 1,_=>simp
  | 2,_=>simp
  | i+3,r=>exact absurd r (by simp)
 simp only [Ef.wp,e]
theorem Vb {K:Ze} {bytes b:Nat} {zero:Array Value} {s:Sl} {l:List (Value × Value × Value)} {x y z:Value} (hz:zero.size=3) (o:Yl h 3 s (Yb l)) (hb:Xa h b #[x,y,z])
  (hx:x.oneCell'=true) (hy:y.oneCell'=true) (H:z.oneCell'=true) (D:(s.n+1) * bytes<=140737488355328) (G:s.n+1<=9223372036854775807)
  (I:∀ (r:Sl) (h':Zk),Yl h' 3 r (Yb (l++[(x,y,z)]))->Mod (fun j=>s.nl=false/\j=s.b) h h'->((r.b=s.b/\r.nl=s.nl)\/(h.size<=r.b/\r.nl=false))->K r.v h') :
  Ef.wp h K (.append 3 bytes zero) [s.v,.slice (some ⟨b,0,none⟩) 1 1]:=by
 have hs:Wv h 3 1 (.slice (some ⟨b,0,none⟩) 1 1)=some [x,y,z]:=by
  rw [Ze1];exact Yj hb rfl
 refine Vp o (m:=1) (nw:=[x,y,z]) rfl hs rfl (fun v hv=>?_) hz D G (fun r h' J O M hs'=>?_)
 ·simp only [Xgg,Xgq,or_false] at hv;rcases hv with rfl | rfl | rfl <;> assumption
 exact I r h' (by rw [Zsc];exact J) M hs'
theorem Zz7 (HT:Y.Has 35 Y35) {ins outs:Int} {s:Sl} {cs:Zb} (r:Yf h s cs) (M:s.n<=1000000) {R:Ze}
  (Z:∀ h' D,Ext h h'->Yf h' D cs->(cs≠[]->h.size<=D.b/\D.b<h'.size)->R (Zcc ins outs D) h'):Zv Y 35 [Zcc ins outs s] h R:=by
 refine .of_has HT rfl ?_;simp [Y35,Xn.wp,Zcc];refine Zn ?_;intro b h1 g1 B1 O;simp;refine Zn ?_;intro rb U g2 B2 e2;have B1':=B1.ext e2;have G:=O.trans e2;have z1:=O.size;have B2lt:=B2.lt;simp [B1'.hc,Zf2];intro t;have e3:Ext U (U.push (.cells #[] t)):=Mod.push;have B3:=B1'.ext e3;simp [B3.hc];refine Zdk ((r.ext G).ext e3) (by omega) Zhu (.inr (Xel _)) e3 ?_;intro D h4 o4 hs' H;have B4:=B1'.ext H;simp [B4.hc];refine Zr (B2.ext H) rfl rfl (by simp) ?_;intro h5 B5 V;simp;refine Xc rfl B5 rfl ?_;have X:=o4.mod V (fun hn h=>by
  rcases hs' with hs' | hs'
  ·rw [hn] at hs';cases hs'
  omega)
 refine Z h5 D (Mod.ext (G.trans H) V (fun j hj=>by omega)) X.row64 (fun I=>?_);obtain ⟨aa,hb,_,J⟩:=X.blk (i:=0) (by rw [Vr];exact List.length_pos_iff.2 I);have:=hs'.resolve_left (by rw [J];simp);exact ⟨by omega,hb.lt⟩
def Xbl (v0:Value) (B rb M n:Nat) (l:List Xe) (hA:Zk) (e:Zc) (h':Zk):Prop :=
 ∃ (i:Nat) (s1:Sl) (v5 v6 v7 v8 v9:Value),e=[v0,.pointer (some ⟨B,0,none⟩),.pointer (some ⟨rb,0,none⟩),.pointer (some ⟨M,0,none⟩),.int .i64 i,v5,v6,v7,v8,v9]/\i<=n /\
  Xa h' M #[s1.v,.slice none 0 0,.slice none 0 0]/\Yl h' 3 s1 (Yb ((l.take i).map Xv))/\(s1.nl=true\/hA.size<=s1.b)/\Mod (fun j=>j=M) hA h'
def Xbk (v0:Value) (B rb M n:Nat) (s1:Sl) (l:List Xe) (hA:Zk) (e:Zc) (h':Zk):Prop :=
 ∃ (i:Nat) (s2:Sl) (v4 v6 v7 v8 v9:Value),e=[v0,.pointer (some ⟨B,0,none⟩),.pointer (some ⟨rb,0,none⟩),.pointer (some ⟨M,0,none⟩),v4,.int .i64 i,v6,v7,v8,v9]/\i<=n /\
  Xa h' M #[s1.v,s2.v,.slice none 0 0]/\Yl h' 3 s2 (Yb ((l.take i).map Xv))/\(s2.nl=true\/hA.size<=s2.b)/\Mod (fun j=>j=M) hA h'
def Xc3 (v0:Value) (B rb M n:Nat) (s1 s2:Sl) (l:List Tab) (hA:Zk) (e:Zc) (h':Zk):Prop :=
 ∃ (i:Nat) (s3:Sl) (P:List (Tab × Sl)) (v4 v5 v7 v8 v9:Value),e=[v0,.pointer (some ⟨B,0,none⟩),.pointer (some ⟨rb,0,none⟩),.pointer (some ⟨M,0,none⟩),v4,v5,.int .i64 i,v7,v8,v9]/\i<=n /\
  Xa h' M #[s1.v,s2.v,s3.v]/\Yl h' 3 s3 (Yb (P.map Qv))/\P.map Prod.fst=l.take i/\(∀ p∈P,Yf h' p.2 p.1.cs/\(p.1.cs≠[]->hA.size<=p.2.b/\(s3.nl=false->p.2.b≠s3.b)/\p.2.b<h'.size))/\(s3.nl=true\/hA.size<=s3.b)/\Mod (fun j=>j=M) hA h'
theorem Ze8 {l:List Xe} {i:Nat} (r:i<l.length):(l.take (i+1)).map Xv=(l.take i).map Xv++[(.int .i64 (Zp l i).a,.int .i64 (Zp l i).b,.int .i64 (Zp l i).c)]:=by
 rw [Xey r,Xe9,Wn r]
 rfl
theorem Zxg (HT3:Y.Has 100 Y100) (HT:Y.Has 35 Y35) {X Z st:Sl} {N:Zq} (r:Ul h X Z st N) (bv:N.vs.length<=1000) (ba:N.as.length<=1000) (bt:N.ts.length<=1000) (bc:∀ i,i<N.ts.length->(Zx N.ts i).cs.length<=1000000)
  {R:Ze} (hr:∀ h' s1 s2 s3,Ext h h'->Ul h' s1 s2 s3 N->Yl h' 3 s2 (Yb (N.as.map Xv))->(s2.nl=true\/h.size<=s2.b)->R (Yx s1 s2 s3) h'):Zv Y 100 [Yx X Z st] h R:=by
 have lv:=r.rv.len;have la:=r.ra.len;have lt:=r.rt.len;refine .of_has HT3 rfl ?_;simp [Y100,Xn.wp,Yx];refine Zn ?_;intro B h1 g1 B1 e1;simp;refine Zn ?_;intro rb h2 g2 B2 e2;simp;refine Zn ?_;intro M h3 g3 B3 e3;have l1:=B1.lt;have l2:=B2.lt;have l3:=B3.lt;have ag:B≠M:=by omega
 have ah:rb≠M:=by omega
 have x3:=(e1.trans e2).trans e3;have A3:=(B1.ext e2).ext e3;have C3:=B2.ext e3;simp;refine Zs (Xbl (Yx X Z st) B rb M X.n N.vs h3) (fun e _=>X.n-Zy e 4) ⟨0,Sl.nil,_,_,_,_,_,rfl,by omega,B3,Yl.nil,.inl rfl,Mod.refl h3⟩ ?_;rintro e h4 ⟨i,s1,v5,v6,v7,v8,v9,rfl,hi,B4,o4,ac,m4⟩;have A4:=m4.blk A3 ag;have r4:=r.rv.ext (Mod.ext x3 m4 (fun j H=>by omega));by_cases c:i<X.n
 ·have c':(i:Int)<X.n:=by omega
  have w1:=Zj (i:=i) (by omega);have n4:=o4.n3;have aw:s1.n=i:=by rw [<-n4];simp;omega
  simp [A4.hc,B4.hc,c',Zm r4.ok,r4.v0 i (by omega),r4.v1 i (by omega),r4.v2 i (by omega),W1,V6];intro t;have e5:Ext h4 (h4.push (.cells #[.int .i64 (Zp N.vs i).a,.int .i64 (Zp N.vs i).b,.int .i64 (Zp N.vs i).c] t)):=Mod.push;have B5:=B4.ext e5;have o5:=o4.mod e5 (fun _ h=>h);simp [B5.hc];refine Vb rfl o5 Xa.new rfl rfl rfl (by omega) (by omega) ?_;intro G h6 o6 m6 U;rw [<-Ze8 (by omega)] at o6;have ad:G.nl=true\/h3.size<=G.b:=by
   have:=m4.size;have:=e5.size;rcases U with ⟨J,V⟩ | ⟨J,V⟩
   ·rw [J,V];exact ac
   exact .inr (by omega)
  have B6:=m6.blk B5 (fun ⟨J,V⟩=>by have:=ac.resolve_left (by rw [J];simp);omega);simp [Xo.open,B6.hc,B6.hfz,w1];have B7:=B6.set (o:=0) (v:=G.v);have o7:=o6.mod (Mod.set (S:=fun j=>j=M) (h:=h6) (o:=0) (v:=G.v) rfl) (fun I H=>by have:=ad.resolve_left (by rw [I];simp);omega);refine ⟨⟨i+1,G,_,_,_,_,_,rfl,by omega,by simpa using B7,o7,ad,?_⟩,by simp [Zy];omega⟩;refine (m4.then ((e5.mono fun _ _ h=>h.elim).trans m6) (fun j H q=>?_)).trans (Mod.set rfl);have:=ac.resolve_left (by rw [q.1];simp);omega
 have c':¬ (i:Int)<X.n:=by omega
 obtain rfl:i=X.n:=by omega
 rw [Xeu (by omega)] at o4;have R4:=o4.row3;have x4:Ext h h4:=Mod.ext x3 m4 (fun j H=>by omega);have C4:=m4.blk C3 ah;have ai:N.vs≠[]->s1.b≠M/\s1.b<h4.size/\h3.size<=s1.b:=fun D=>by
  obtain ⟨an,hb,_,aj⟩:=o4.blk (i:=0) (by rw [Yg,Xep];have:=List.length_pos_iff.2 D;omega);have:=ac.resolve_left (by rw [aj];simp);exact ⟨by omega,hb.lt,by omega⟩
 have k4:=m4.size;simp [A4.hc];refine Zs (Xbk (Yx X Z st) B rb M Z.n s1 N.as h4) (fun e _=>Z.n-Zy e 5) ⟨0,Sl.nil,_,_,_,_,_,rfl,by omega,B4,Yl.nil,.inl rfl,Mod.refl h4⟩ ?_;clear r4 c c' hi v5 v6 v7 v8 v9;rintro e h5 ⟨i,s2,v4,v6,v7,v8,v9,rfl,hi,B5,o5,O,m5⟩;have A5:=m5.blk A4 ag;have r5:=r.ra.ext (Mod.ext x4 m5 (fun j H=>by omega));by_cases c:i<Z.n
 ·have c':(i:Int)<Z.n:=by omega
  have w1:=Zj (i:=i) (by omega);have n5:=o5.n3;have ax:s2.n=i:=by rw [<-n5];simp;omega
  simp [A5.hc,B5.hc,c',Zm r5.ok,r5.v0 i (by omega),r5.v1 i (by omega),r5.v2 i (by omega),W1,V6];intro t;have e6:Ext h5 (h5.push (.cells #[.int .i64 (Zp N.as i).a,.int .i64 (Zp N.as i).b,.int .i64 (Zp N.as i).c] t)):=Mod.push;have B6:=B5.ext e6;have o6:=o5.mod e6 (fun _ h=>h);simp [B6.hc];refine Vb rfl o6 Xa.new rfl rfl rfl (by omega) (by omega) ?_;intro G h7 o7 m7 ao;rw [<-Ze8 (by omega)] at o7;have ae:G.nl=true\/h4.size<=G.b:=by
   have:=m5.size;have:=e6.size;rcases ao with ⟨J,V⟩ | ⟨J,V⟩
   ·rw [J,V];exact O
   exact .inr (by omega)
  have B7:=m7.blk B6 (fun ⟨J,V⟩=>by have:=O.resolve_left (by rw [J];simp);omega);simp [Xo.open,B7.hc,B7.hfz,w1];have B8:=B7.set (o:=1) (v:=G.v);have o8:=o7.mod (Mod.set (S:=fun j=>j=M) (h:=h7) (o:=1) (v:=G.v) rfl) (fun I H=>by have:=ae.resolve_left (by rw [I];simp);omega);refine ⟨⟨i+1,G,_,_,_,_,_,rfl,by omega,by simpa using B8,o8,ae,?_⟩,by simp [Zy];omega⟩;refine (m5.then ((e6.mono fun _ _ h=>h.elim).trans m7) (fun j H q=>?_)).trans (Mod.set rfl);have:=O.resolve_left (by rw [q.1];simp);omega
 have c':¬ (i:Int)<Z.n:=by omega
 obtain rfl:i=Z.n:=by omega
 rw [Xeu (by omega)] at o5;have R5:=o5.row3;have R45:=R4.mod m5 (fun D=>(ai D).1);have x5:Ext h h5:=Mod.ext x4 m5 (fun j H=>by omega);have C5:=m5.blk C4 ah;have am:N.as≠[]->s2.b≠M/\s2.b<h5.size/\h4.size<=s2.b:=fun D=>by
  obtain ⟨an,hb,_,aj⟩:=o5.blk (i:=0) (by rw [Yg,Xep];have:=List.length_pos_iff.2 D;omega);have:=O.resolve_left (by rw [aj];simp);exact ⟨by omega,hb.lt,by omega⟩
 have k5:=m5.size;simp [A5.hc];refine Zs (Xc3 (Yx X Z st) B rb M st.n s1 s2 N.ts h5) (fun e _=>st.n-Zy e 6) ⟨0,Sl.nil,[],_,_,_,_,_,rfl,by omega,B5,Yl.nil,rfl,fun p hp=>by simp at hp,.inl rfl,Mod.refl h5⟩ ?_;clear r5 c c' hi v4 v6 v7 v8 v9;rintro e h6 ⟨i,s3,P,v4,v5,v7,v8,v9,rfl,hi,B6,o6,hP,aa,U,m6⟩;have A6:=m6.blk A5 ag;have x6:Ext h h6:=Mod.ext x5 m6 (fun j H=>by omega);have r6:=r.rt.ext x6;have k6:=m6.size;by_cases c:i<st.n
 ·have c':(i:Int)<st.n:=by omega
  have w1:=Zj (i:=i) (by omega);have n6:=o6.n3;have ap:P.length=i:=by have:=congrArg List.length hP;simp at this;omega
  have ay:s3.n=i:=by rw [<-n6];simpa using ap
  obtain ⟨u,aq,hu,ru⟩:=r6.rd (i:=i) (by omega);have az:=ru.len;have aA:=bc i (by omega);simp [A6.hc,B6.hc,c',Zm r6.ok,aq];refine Zz7 HT ru (by omega) ?_;intro h7 u' e7 ar ak;have B7:=B6.ext e7;have k7:=e7.size;simp [B7.hc,Zcc,V6];intro t;have e8:Ext h7 (h7.push (.cells #[.int .i64 (Zx N.ts i).i,.int .i64 (Zx N.ts i).o,u'.v] t)):=Mod.push;have k8:=e8.size;have B8:=B7.ext e8;have o8:=(o6.mod e7 (fun _ h=>h)).mod e8 (fun _ h=>h);simp [B8.hc];refine Vb rfl o8 Xa.new rfl rfl (by simp) (by omega) (by omega) ?_;intro G h9 o9 m9 al;have k9:=m9.size;have au:Yl h9 3 G (Yb ((P++[(Zx N.ts i,u')]).map Qv)):=by simpa [Qv] using o9
  have af:G.nl=true\/h5.size<=G.b:=by
   rcases al with ⟨J,V⟩ | ⟨J,V⟩
   ·rw [J,V];exact U
   exact .inr (by omega)
  have B9:=m9.blk B8 (fun ⟨J,V⟩=>by have:=U.resolve_left (by rw [J];simp);omega);simp [Xo.open,B9.hc,B9.hfz,w1];have B10:=B9.set (o:=2) (v:=G.v);have ab:Mod (fun j=>j=M) h9 (Wy h9 M 2 G.v):=Mod.set rfl;have av:=au.mod ab (fun I H=>by have:=af.resolve_left (by rw [I];simp);omega);have aB:=ab.size;have s3lt:s3.nl=false->s3.b<h6.size:=fun I=>o6.lt I;refine ⟨⟨i+1,G,P++[(Zx N.ts i,u')],_,_,_,_,_,rfl,by omega,by simpa using B10,av,?_,?_,af,?_⟩,by simp [Zy];omega⟩
  ·rw [Xe9,hP,Xey (by omega),W5 (by omega)]
   rfl
  ·intro p hp;rcases List.mem_append.1 hp with g | g
   ·obtain ⟨g1,g2⟩:=aa p g;have g3:p.1.cs≠[]->¬ (s3.nl=false/\p.2.b=s3.b):=fun D q=>(g2 D).2.1 q.1 q.2;refine ⟨(((g1.ext e7).ext e8).mod m9 g3).mod ab (fun D H=>by have:=(g2 D).1;omega),fun D=>?_⟩;obtain ⟨q0,J,V⟩:=g2 D;refine ⟨q0,fun I=>?_,by omega⟩;rcases al with ⟨w1,w2⟩ | ⟨w1,w2⟩
    ·rw [w1];exact J (by rw [<-w2];exact I)
    omega
   simp only [Xg1] at g;subst g;refine ⟨((ar.ext e8).mod m9 (fun D q=>?_)).mod ab (fun D H=>?_),fun D=>?_⟩
   ·have:=ak D;have:=s3lt q.1;have:=q.2;omega
   ·have:=ak D;omega
   have q:h6.size<=u'.b/\u'.b<h7.size:=ak D;refine ⟨show h5.size<=u'.b by omega,fun I=>?_,show u'.b<(Wy h9 M 2 G.v).size by omega⟩;show u'.b≠G.b;rcases al with ⟨w1,w2⟩ | ⟨w1,w2⟩
   ·have:=s3lt (by rw [<-w2];exact I);omega
   omega
  refine (m6.then (((e7.trans e8).mono fun _ _ h=>h.elim).trans m9) (fun j H q=>?_)).trans ab;have:=U.resolve_left (by rw [q.1];simp);omega
 have c':¬ (i:Int)<st.n:=by omega
 obtain rfl:i=st.n:=by omega
 rw [Xeu (by omega)] at hP;have R6:Zix h6 s3 N.ts:=o6.rowT hP (fun p hp=>(aa p hp).1);have hH:Ul h6 s1 s2 s3 N:=⟨R45.mod m6 (fun D=>(ai D).1),R5.mod m6 (fun D=>(am D).1),R6⟩
 have C6:=m6.blk C5 ah;simp [A6.hc,Yj B6];refine Zr C6 rfl rfl (by simp) ?_;intro h7 B7 m7;simp;refine Xc rfl B7 rfl ?_;have o7:=o6.mod m7 (fun I H=>by have:=U.resolve_left (by rw [I];simp);omega);refine hr h7 s1 s2 s3 (Mod.ext x6 m7 (fun j H=>by omega)) ⟨hH.rv.mod m7 (fun D H=>by have:=ai D;omega),hH.ra.mod m7 (fun D H=>by have:=am D;omega),o7.rowT hP (fun p hp=>?_)⟩ ((o5.mod m6 (fun I H=>by have:=O.resolve_left (by rw [I];simp);omega)).mod m7 (fun I H=>by have:=O.resolve_left (by rw [I];simp);omega)) (O.imp_right fun q=>by have:=x4.size;omega);obtain ⟨g1,g2⟩:=aa p hp;exact g1.mod m7 (fun D H=>by have:=(g2 D).1;omega)
theorem Z25 (HT3:Y.Has 100 Y100) (HT:Y.Has 35 Y35) {H I J:Sl} {N:Zq} (r:Ul h H I J N) (bv:N.vs.length<=1000) (ba:N.as.length<=1000) (bt:N.ts.length<=1000) (M:∀ i,i<N.ts.length->(Zx N.ts i).cs.length<=1000000)
  {R:Ze} (O:∀ h' D s2 G,Ext h h'->Ul h' D s2 G N->R (Yx D s2 G) h'):Zv Y 100 [Yx H I J] h R :=
 Zxg HT3 HT r bv ba bt M fun h' D s2 G e n _ _=>O h' D s2 G e n
end
abbrev Zp1:ByteArray:=⟨#[110,101,116]⟩
abbrev Zns:ByteArray:=⟨#[116,121,112,101]⟩
abbrev Z8:ByteArray:=⟨#[118,101,114,116]⟩
abbrev Zlz:ByteArray:=⟨#[97,114,99]⟩
def Wx (p:ByteArray) (k:Int) (w:Wr):Wr:=if w.2=0 then Qa else ((p,k)::w.1,w.2)
def Vj (p:ByteArray) (k:Int) (e:Int):Wr:=([(p,k)],e)
def Zbj (x:Int):Bool:=decide (x < -1048576\/1048576<x)
def Ye (nv:Nat) (v:Int):Bool:=decide (0<=v/\v<nv)
def Z1 (t:Tab):Wr:=Uo t.i t.o t.cs
def Qe:Nat->List Tab->Wr
 | _,[]=>Qa
 | k,t::r=>if (Z1 t).2≠0 then Wx Zns k (Z1 t) else Qe (k+1) r
def Uk (nt:Nat) (k:Int) (v:Xe):Wr:=if Zbj v.a || Zbj v.b then Vj Z8 k 1 else if Ye nt v.c then Qa else Vj Z8 k 5
def Uf (nt:Nat):Nat->List Xe->Wr
 | _,[]=>Qa
 | k,v::r=>if (Uk nt k v).2≠0 then Uk nt k v else Uf nt (k+1) r
def U7 (nv:Nat) (k:Int) (a:Xe):Wr:=if Ye nv a.a && Ye nv a.b then (if Yu a.c then Qa else Vj Zlz k 8) else Vj Zlz k 5
def Qy (nv:Nat):Nat->List Xe->Wr
 | _,[]=>Qa
 | k,a::r=>if (U7 nv k a).2≠0 then U7 nv k a else Qy nv (k+1) r
def Qn (as:List Xe) (v:Nat):Nat:=(as.filter fun a=>a.b=(v:Int)).length
def Wz (as:List Xe) (v:Nat):Nat:=(as.filter fun a=>a.a=(v:Int)).length
def Zec (N:Zq) (k:Nat) (v:Xe):Wr :=
 if 16<Qn N.as k\/16<Wz N.as k then Vj Z8 k 4
 else if (Zx N.ts v.c.toNat).i≠Qn N.as k\/(Zx N.ts v.c.toNat).o≠Wz N.as k then Vj Z8 k 9 else Qa
def Uj (N:Zq):Nat->List Xe->Wr
 | _,[]=>Qa
 | k,v::r=>if (Zec N k v).2≠0 then Zec N k v else Uj N (k+1) r
def orW (a b:Wr):Wr:=if a.2≠0 then a else b
def Zcz (N:Zq):Wr:=if 4096<N.vs.length then Vj Zp1 0 4 else if 16384<N.as.length then Vj Zp1 1 4 else if 256<N.ts.length then Vj Zp1 2 4 else Qa
def Vw (N:Zq):Wr:=orW (Zcz N) (orW (Qe 0 N.ts) (orW (Uf N.ts.length 0 N.vs) (orW (Qy N.vs.length 0 N.as) (Uj N 0 N.vs))))
theorem Zis {l:List Tab} {i:Nat} (r:i<l.length):Qe i (l.drop i)=if (Z1 (Zx l i)).2≠0 then Wx Zns i (Z1 (Zx l i)) else Qe (i+1) (l.drop (i+1)):=by
 rw [Xfy r,Qe,W5 r]
theorem Zid {nt:Nat} {l:List Xe} {i:Nat} (r:i<l.length):Uf nt i (l.drop i)=if (Uk nt i (Zp l i)).2≠0 then Uk nt i (Zp l i) else Uf nt (i+1) (l.drop (i+1)):=by
 rw [Xfy r,Uf,Wn r]
theorem Zlj {nt:Nat} {l:List Xe} {i:Nat} (r:i<l.length):Qy nt i (l.drop i)=if (U7 nt i (Zp l i)).2≠0 then U7 nt i (Zp l i) else Qy nt (i+1) (l.drop (i+1)):=by
 rw [Xfy r,Qy,Wn r]
theorem Zkt {N:Zq} {l:List Xe} {i:Nat} (r:i<l.length):Uj N i (l.drop i)=if (Zec N i (Zp l i)).2≠0 then Zec N i (Zp l i) else Uj N (i+1) (l.drop (i+1)):=by
 rw [Xfy r,Uj,Wn r]
theorem Zxc {t:Tab}:(Z1 t).1.length<=1/\((Z1 t).2≠0->0<(Z1 t).1.length):=by
 have hs:(Wo t.i t.o).1.length<=1/\((Wo t.i t.o).2≠0->0<(Wo t.i t.o).1.length):=by
  unfold Wo
  split
  ·simp [Wc]
  split <;> simp [Wc,Qa]
 unfold Z1 Uo
 split
 ·exact hs
 split
 ·simp [Wc]
 split <;> simp [Wc,Qa]
section
variable {Y:Sys} {h:Zk}
theorem Zp7 (H:Y.Has 121 Y121) {x:Int} {R:Ze} (r:R (.bool (Zbj x)) h):Zv Y 121 [.int .i64 x] h R:=by
 refine .of_has H rfl ?_;simp [Y121,Xn.wp];by_cases c1:x < -1048576
 ·have:Zbj x=true:=by simp [Zbj,c1]
  rw [this] at r;simp [c1,r]
 have:Zbj x=decide (1048576<x):=by simp [Zbj,c1]
 rw [this] at r;simp [c1,r]
theorem Zkz (H:Y.Has 124 Y124) {x:Int} {R:Ze} (r:R (.bool !(Zbj x)) h):Zv Y 124 [.int .i64 x] h R:=by
 refine .of_has H rfl ?_;simp [Y124,Xn.wp];by_cases c1:x < -1048576
 ·have D:¬ (-1048576<=x):=by omega
  have:Zbj x=true:=by simp [Zbj,c1]
  rw [this] at r;simp [D];simpa using r
 have D : -1048576<=x:=by omega
 have:Zbj x=decide (1048576<x):=by simp [Zbj,c1]
 rw [this] at r;have e:(!decide (1048576<x))=decide (x<=1048576):=by
  by_cases q:x<=1048576
  ·have:¬ 1048576<x:=by omega
   simp [q,this]
  have:1048576<x:=by omega
  simp [q,this]
 rw [e] at r;simp [D];simpa using r
theorem Ziu (H:Y.Has 122 Y122) {r I J:Sl} {N:Zq} (M:N.vs.length=r.n) {v:Int} {R:Ze} (D:∀ h',Ext h h'->R (.bool (Ye N.vs.length v)) h'):Zv Y 122 [Yx r I J,.int .i64 v] h R:=by
 refine .of_has H rfl ?_;simp [Y122,Xn.wp,Yx];refine Zn ?_;intro b h1 O B1 G;rw [M] at D;by_cases c:0<=v
 ·have:Ye r.n v=decide (v<r.n):=by simp [Ye,c]
  rw [this] at D;simp [c,B1.hc];exact D _ G
 have:Ye r.n v=false:=by simp [Ye,c]
 rw [this] at D;simp [c];exact D _ G
theorem Zez (H:Y.Has 120 Y120) {p:ByteArray} {a c:Int} (hc:c≠0) {R:Ze} (r:∀ v h',Ext h h'->X6 Y h.size h' (Vj p a c) v->(∃ t u,v = .iface t u)->R v h') :
  Zv Y 120 [.string p,.int .i64 a,.iface (Y.tid 49) (.int .i64 c)] h R:=by
 refine .of_has H rfl ?_;simp [Y120,Xn.wp];refine Zn ?_;intro b h1 G B D;simp;exact r _ _ D (fun h' m=>Zew (m.blk B (by omega)) hc) ⟨_,_,rfl⟩
theorem Zom (H:Y.Has 120 Y120) {p:ByteArray} {a:Int} {w:Wr} {v:Value} {lo:Nat} (G:lo<=h.size) (hv:X6 Y lo h w v) (h0:w.2≠0) {R:Ze}
  (I:∀ v h',Ext h h'->X6 Y lo h' (Wx p a w) v->(∃ t u,v = .iface t u)->R v h') :
  Zv Y 120 [.string p,.int .i64 a,v] h R:=by
 obtain ⟨t,u,rfl⟩:=hv.here.iface h0;refine .of_has H rfl ?_;simp [Y120,Xn.wp];refine Zn ?_;intro b h1 J B D;simp;refine I _ _ D (fun h' m=>?_) ⟨_,_,rfl⟩;have hb:=m.blk B (by omega);have r:=hv.ext D h' m;rcases r with ⟨q,_⟩ | ⟨_,r⟩
 ·exact absurd q h0
 unfold Wx;rw [if_neg h0];exact .inr ⟨h0,b,_,rfl,by rw [hb.hc];rfl,by rw [hb.hc];rfl,by rw [hb.hc];rfl,r⟩
def Zj8 (n:Nat) (as:List Xe):Zb:=(List.range n).map fun v=>(Qn as v:Int)
def Zer (n:Nat) (as:List Xe):Zb:=(List.range n).map fun v=>(Wz as v:Int)
@[simp] theorem Xax {n:Nat} {as:List Xe}:(Zj8 n as).length=n:=by simp [Zj8]
@[simp] theorem Z9u {n:Nat} {as:List Xe}:(Zer n as).length=n:=by simp [Zer]
theorem Zi0 {n v:Nat} {as:List Xe} (hv:v<n):Zl (Zj8 n as) v=Qn as v:=by simp [Zl,Zj8,hv]
theorem Zhc {n v:Nat} {as:List Xe} (hv:v<n):Zl (Zer n as) v=Wz as v:=by simp [Zl,Zer,hv]
theorem Zw5 {as:List Xe} {v:Nat}:Qn as v<=as.length:=Xfx ..
theorem Zq2 {as:List Xe} {v:Nat}:Wz as v<=as.length:=Xfx ..
theorem Zxa {as:List Xe} {i v:Nat} (r:i<as.length):Qn (as.take (i+1)) v=Qn (as.take i) v+if (Zp as i).b=(v:Int) then 1 else 0:=by
 rw [Xey r,Wn r];unfold Qn;rw [Xgr,Xex]
 congr 1
 by_cases c:as[i].b=(v:Int) <;> simp [c]
theorem Zu4 {as:List Xe} {i v:Nat} (r:i<as.length):Wz (as.take (i+1)) v=Wz (as.take i) v+if (Zp as i).a=(v:Int) then 1 else 0:=by
 rw [Xey r,Wn r];unfold Wz;rw [Xgr,Xex]
 congr 1
 by_cases c:as[i].a=(v:Int) <;> simp [c]
theorem Zmx {n i t:Nat} {as:List Xe} (r:i<as.length) (ht:(Zp as i).b=(t:Int)) (D:t<n) :
  (Zj8 n (as.take i)).set t ((Qn (as.take i) t:Int)+1)=Zj8 n (as.take (i+1)):=by
 apply Xew (by simp);intro v h1 G;have hv:v<n:=by simpa using G
 rw [Xfm];simp only [Zj8,Xe7,Xgh];rw [Zxa r,ht];by_cases c:t=v
 ·subst c;simp
 have:¬ (t:Int)=(v:Int):=by omega
 simp [c,this]
theorem Zkk {n i t:Nat} {as:List Xe} (r:i<as.length) (ht:(Zp as i).a=(t:Int)) (D:t<n) :
  (Zer n (as.take i)).set t ((Wz (as.take i) t:Int)+1)=Zer n (as.take (i+1)):=by
 apply Xew (by simp);intro v h1 G;have hv:v<n:=by simpa using G
 rw [Xfm];simp only [Zer,Xe7,Xgh];rw [Zu4 r,ht];by_cases c:t=v
 ·subst c;simp
 have:¬ (t:Int)=(v:Int):=by omega
 simp [c,this]
theorem Zss {n:Nat}:Zj8 n []=List.replicate n 0:=by
 apply Xew (by simp);intro v h1 r;simp [Zj8,Qn]
theorem Znn {n:Nat}:Zer n []=List.replicate n 0:=by
 apply Xew (by simp);intro v h1 r;simp [Zer,Wz]
theorem Zde {s:Sl} {cs:Zb} (o:Yl h 1 s (Zt cs)) {k:Nat} {y:Int} (G:k<cs.length) :
  Yl (Wy h s.b (s.o+k) (.int .i64 y)) 1 s (Zt (cs.set k y))/\(hc h s.b (s.o+k)).isSome=true/\hfz h s.b (s.o+k)=false/\Mod (fun j=>j=s.b) h (Wy h s.b (s.o+k) (.int .i64 y))/\s.nl=false:=by
 have h1:=o.set (i:=k) (v:=.int .i64 y) (by simpa using G);rw [V8] at h1;obtain ⟨H,hb,r,D⟩:=o.blk (i:=k) (by simpa using G);refine ⟨h1,?_,hb.hfz,Mod.set rfl,D⟩;rw [hb.hc];simp [r]
def Z9j (v0:Value) (B n:Nat) (sI sO sa:Sl) (as:List Xe) (h0:Zk) (e:Zc) (h':Zk):Prop :=
 ∃ (i:Nat) (v5 v6 v7 v8 v12 v13 v14 v15 v16 v17 v18:Value),e=[v0,.pointer (some ⟨B,0,none⟩),.nilIface,sI.v,sO.v,v5,v6,v7,v8,sa.v,.int .i64 sa.n,.int .i64 i,v12,v13,v14,v15,v16,v17,v18]/\i<=sa.n /\
  Yl h' 1 sI (Zt (Zj8 n (as.take i)))/\Yl h' 1 sO (Zt (Zer n (as.take i)))/\Ext h0 h'
def Z79 (v0:Value) (B:Nat) (sI sO sv:Sl) (N:Zq) (h0:Zk) (e:Zc) (h':Zk):Prop :=
 ∃ (i:Nat) (v5 v6 v7 v8 v9 v10 v11 v12 v16 v17 v18:Value),e=[v0,.pointer (some ⟨B,0,none⟩),.nilIface,sI.v,sO.v,v5,v6,v7,v8,v9,v10,v11,v12,sv.v,.int .i64 sv.n,.int .i64 i,v16,v17,v18]/\i<=sv.n /\
  Uj N 0 N.vs=Uj N i (N.vs.drop i)/\Ext h0 h'
theorem Zxd (H:Y.Has 123 Y123) (HF:Y.Has 120 Y120) {D sa st:Sl} {N:Zq} (r:Ul h D sa st N) (bv:N.vs.length<=4096) (ba:N.as.length<=16384)
  (hA:∀ i,i<N.as.length->Ye N.vs.length (Zp N.as i).a=true/\Ye N.vs.length (Zp N.as i).b=true) (hV:∀ i,i<N.vs.length->Ye N.ts.length (Zp N.vs i).c=true)
  {R:Ze} (hr:∀ v h',Ext h h'->X6 Y h.size h' (Uj N 0 N.vs) v->R v h'):Zv Y 123 [Yx D sa st] h R:=by
 have lv:=r.rv.len;have la:=r.ra.len;have lt:=r.rt.len;refine .of_has H rfl ?_;simp [Y123,Xn.wp,Yx];refine Zn ?_;intro B h1 g1 B1 e1;have q1:(D.n:Int)<=9223372036854775807:=by omega
 have q2:8 * (D.n:Int)<=281474976710656:=by omega
 simp [B1.hc,Vi,Ua,q1,q2];intro t;have o2:Yl (h1.push (.cells (Array.replicate D.n (.int .i64 0)) t)) 1 (Sl.at h1.size D.n D.n) (Zt (List.replicate D.n 0)):=Zc6 (by omega);have e2:Ext h1 (h1.push (.cells (Array.replicate D.n (.int .i64 0)) t)):=Mod.push;have k2:(h1.push (.cells (Array.replicate D.n (.int .i64 0)) t)).size=h1.size+1:=by simp
 generalize h1.push (.cells (Array.replicate D.n (.int .i64 0)) t)=h2 at *
 have B2:=B1.ext e2;simp [B2.hc,Vi,Ua,q1,q2];intro t';have o3:Yl (h2.push (.cells (Array.replicate D.n (.int .i64 0)) t')) 1 (Sl.at h2.size D.n D.n) (Zt (List.replicate D.n 0)):=Zc6 (by omega);have e3:Ext h2 (h2.push (.cells (Array.replicate D.n (.int .i64 0)) t')):=Mod.push;have an:=o2.mod e3 (fun _ h=>h);have k3:(h2.push (.cells (Array.replicate D.n (.int .i64 0)) t')).size=h2.size+1:=by simp
 generalize h2.push (.cells (Array.replicate D.n (.int .i64 0)) t')=h3 at *
 have B3:=B2.ext e3;obtain ⟨J,O⟩:∃ J,J=Sl.at h1.size D.n D.n:=⟨_,rfl⟩
 obtain ⟨U,ab⟩:∃ U,U=Sl.at h2.size D.n D.n:=⟨_,rfl⟩
 have bI:J.b=h1.size:=by rw [O];rfl
 have bO:U.b=h2.size:=by rw [ab];rfl
 have nI:J.n=D.n:=by rw [O];rfl
 have nO:U.n=D.n:=by rw [ab];rfl
 have vI:(Value.slice (some ⟨h1.size,0,none⟩) D.n D.n)=J.v:=by rw [O];rfl
 have vO:(Value.slice (some ⟨h2.size,0,none⟩) D.n D.n)=U.v:=by rw [ab];rfl
 rw [<-O] at an;rw [<-ab] at o3;simp [B3.hc,vI,vO];refine Zs (Z9j (Yx D sa st) B D.n J U sa N.as h1) (fun e _=>sa.n-Zy e 11) ⟨0,_,_,_,_,_,_,_,_,_,_,_,rfl,by omega,by simpa [Zss] using an,by simpa [Znn] using o3,e2.trans e3⟩ ?_;rintro e h4 ⟨i,v5,v6,v7,v8,ao,az,aA,aB,ap,aq,ar,rfl,hi,oI,oO,x4⟩;have B4:=B1.ext x4;have r4:=r.ext (e1.trans x4);by_cases c:i<sa.n
 ·have c':(i:Int)<sa.n:=by omega
  have w1:=Zj (i:=i) (by omega);obtain ⟨hf,ht⟩:=hA i (by omega);simp only [Ye,decide_eq_true_eq] at hf ht;obtain ⟨f,hf'⟩:∃ f:Nat,(Zp N.as i).a=f:=⟨(Zp N.as i).a.toNat,by omega⟩
  obtain ⟨g,ag⟩:∃ g:Nat,(Zp N.as i).b=g:=⟨(Zp N.as i).b.toNat,by omega⟩
  have au:=r4.ra.rd (i:=i) (by omega);have aC:=Zmx (n:=D.n) (t:=g) (by omega:i<N.as.length) ag (by omega);have aD:=Zkk (n:=D.n) (t:=f) (by omega:i<N.as.length) hf' (by omega);rw [hf',ag] at au;rw [hf'] at hf;rw [ag] at ht;simp [c',Zm r4.ra.ok,au];refine Xd (vs:=#[.int .i64 f,.int .i64 g,.int .i64 (Zp N.as i).c]) rfl rfl (by simp) ?_;intro b5 aO g5 B5' aE st;simp;refine st _ ?_;intro h5 B5 e5;clear st B5' aE;have aF:(g:Int)<J.n:=by omega
  have aG:(f:Int)<U.n:=by omega
  have V:=oI.mod e5 (fun _ h=>h);have ah:=oO.mod e5 (fun _ h=>h);have cI:=V.row64.at (i:=g) (by omega)
  rw [Zi0 (by omega)] at cI;have aP:=Zw5 (as:=N.as.take i) (v:=g);have aQ:=Zq2 (as:=N.as.take i) (v:=f);have aR:(N.as.take i).length<=16384:=by rw [Xfd];omega
  have wI:IntKind.i64.wrap ((Qn (N.as.take i) g:Int)+1)=(Qn (N.as.take i) g:Int)+1:=Zo (by omega);have wO:IntKind.i64.wrap ((Wz (N.as.take i) f:Int)+1)=(Wz (N.as.take i) f:Int)+1:=Zo (by omega);obtain ⟨av,aS,aH,m6,_⟩:=Zde V (k:=g) (y:=(Qn (N.as.take i) g:Int)+1) (by simp;omega);rw [aC] at av;simp [B5.hc,Zm V.ok,aF,cI,wI,Xo.open,aH];have aT:=oI.lt (by rw [O];rfl);have aI:b5≠J.b:=by omega
  have B6:=m6.blk B5 aI;have ai:=ah.mod m6 (fun _ hj=>by omega);have x6:Ext h1 (Wy h5 J.b (J.o+g) (.int .i64 ((Qn (N.as.take i) g:Int)+1))):=Mod.ext (x4.trans e5) m6 (fun j hj=>by omega);generalize Wy h5 J.b (J.o+g) (.int .i64 ((Qn (N.as.take i) g:Int)+1))=h6 at *
  have cO:=ai.row64.at (i:=f) (by omega)
  rw [Zhc (by omega)] at cO;obtain ⟨G,aU,aJ,m7,_⟩:=Zde ai (k:=f) (y:=(Wz (N.as.take i) f:Int)+1) (by simp;omega);rw [aD] at G;simp [B6.hc,Zm ai.ok,aG,cO,wO,Xo.open,aJ,w1];have I:=av.mod m7 (fun _ hj=>by omega);have x7:Ext h1 (Wy h6 U.b (U.o+f) (.int .i64 ((Wz (N.as.take i) f:Int)+1))):=Mod.ext x6 m7 (fun j hj=>by omega);exact ⟨⟨i+1,_,_,_,_,_,_,_,_,_,_,_,rfl,by omega,I,G,x7⟩,by simp [Zy];omega⟩
 have c':¬ (i:Int)<sa.n:=by omega
 obtain rfl:i=sa.n:=by omega
 rw [Xeu (by omega)] at oI oO;simp [B4.hc];refine Zs (Z79 (Yx D sa st) B J U D N h4) (fun e _=>D.n-Zy e 15) ⟨0,_,_,_,_,_,_,_,_,_,_,_,rfl,by omega,by simp,Mod.refl h4⟩ ?_;clear c c' hi v5 v6 v7 v8 ao az aA aB ap aq ar;rintro e h5 ⟨i,v5,v6,v7,v8,v9,aV,aW,ao,ap,aq,ar,rfl,hi,hm,x5⟩;have B5:=B4.ext x5;have r5:=r4.ext x5;have V:=oI.mod x5 (fun _ h=>h);have ah:=oO.mod x5 (fun _ h=>h);have y5:=(e1.trans x4).trans x5;by_cases c:i<D.n
 ·have c':(i:Int)<D.n:=by omega
  have w1:=Zj (i:=i) (by omega);rw [Zkt (by omega)] at hm;have ht:=hV i (by omega);simp only [Ye,decide_eq_true_eq] at ht;obtain ⟨f,hf'⟩:∃ f:Nat,(Zp N.vs i).c=f:=⟨(Zp N.vs i).c.toNat,by omega⟩
  have aw:=r5.rv.rd (i:=i) (by omega);rw [hf'] at aw ht;simp [c',Zm r5.rv.ok,aw];refine Xd (vs:=#[.int .i64 (Zp N.vs i).a,.int .i64 (Zp N.vs i).b,.int .i64 f]) rfl rfl (by simp) ?_;intro b6 aX g6 B6' aK X;simp;refine X _ ?_;intro h6 B6 e6;clear X B6' aK;have r6:=r5.ext e6;have B56:=B5.ext e6;obtain ⟨u,aL,_,ru⟩:=r6.rt.rd (i:=f) (by omega);have aM:(f:Int)<st.n:=by omega
  simp [B56.hc,B6.hc,Zm r6.rt.ok,aM,aL];refine Xd (vs:=#[.int .i64 (Zx N.ts f).i,.int .i64 (Zx N.ts f).o,u.v]) rfl rfl (by simp) ?_;intro b7 aY g7 B7' aN X;simp;refine X _ ?_;intro h7 B7 e7;clear X B7' aN;have I:=(V.mod e6 (fun _ h=>h)).mod e7 (fun _ h=>h);have G:=(ah.mod e6 (fun _ h=>h)).mod e7 (fun _ h=>h);have cI:=I.row64.at (i:=i) (by omega)
  rw [Zi0 (by omega)] at cI;have cO:=G.row64.at (i:=i) (by omega)
  rw [Zhc (by omega)] at cO;have Z:(i:Int)<J.n:=by omega
  have ac:(i:Int)<U.n:=by omega
  have y7:=(y5.trans e6).trans e7;have aj:Zec N i (Zp N.vs i)=if 16<Qn N.as i\/16<Wz N.as i then Vj Z8 i 4
    else if (Zx N.ts f).i≠Qn N.as i\/(Zx N.ts f).o≠Wz N.as i then Vj Z8 i 9 else Qa:=by
   simp [Zec,hf']
  generalize Qn N.as i=a at *
  generalize Wz N.as i=b at *
  have ae:(16<a\/16<b)->∀ {K:Ze},(∀ v h',Ext h h'->X6 Y h.size h' (Uj N 0 N.vs) v->K v h')->Zv Y 120 [.string Z8,.int .i64 i,.iface (Y.tid 49) (.int .i64 4)] h7 K:=by
   intro ak K hK;refine Zez HF (by omega) ?_;intro v h8 e8 hv _;refine hK v h8 (y7.trans e8) ?_;rw [hm,aj,if_pos ak];simp only [Vj];exact hv.mono y7.size
  have af:¬ (16<a\/16<b)->((Zx N.ts f).i≠a\/(Zx N.ts f).o≠b)->∀ {K:Ze},(∀ v h',Ext h h'->X6 Y h.size h' (Uj N 0 N.vs) v->K v h')->Zv Y 120 [.string Z8,.int .i64 i,.iface (Y.tid 49) (.int .i64 9)] h7 K:=by
   intro ak ax K hK;refine Zez HF (by omega) ?_;intro v h8 e8 hv _;refine hK v h8 (y7.trans e8) ?_;rw [hm,aj,if_neg ak,if_pos ax];simp only [Vj];exact hv.mono y7.size
  by_cases ca:16<a
  ·have M:(16:Int)<a:=by omega
   simp [Zm I.ok,Z,cI,M];refine ae (.inl ca) ?_;intro v h8 e8 hv;simp;exact hr _ _ e8 hv
  have M:¬ (16:Int)<a:=by omega
  by_cases cb:16<b
  ·have aa:(16:Int)<b:=by omega
   simp [Zm I.ok,Zm G.ok,Z,ac,cI,cO,M,aa];refine ae (.inr cb) ?_;intro v h8 e8 hv;simp;exact hr _ _ e8 hv
  have aa:¬ (16:Int)<b:=by omega
  have al:¬ (16<a\/16<b):=by omega
  by_cases cc:(Zx N.ts f).i=a;rotate_left
  ·have ad:((Zx N.ts f).i=(a:Int))=False:=by simp [cc]
   simp [B7.hc,Zm I.ok,Zm G.ok,Z,ac,cI,cO,M,aa,ad];refine af al (.inl cc) ?_;intro v h8 e8 hv;simp;exact hr _ _ e8 hv
  have ad:((Zx N.ts f).i=(a:Int))=True:=by simp [cc]
  by_cases cd:(Zx N.ts f).o=b;rotate_left
  ·have am:((Zx N.ts f).o=(b:Int))=False:=by simp [cd]
   simp [B7.hc,Zm I.ok,Zm G.ok,Z,ac,cI,cO,M,aa,ad,am];refine af al (.inr cd) ?_;intro v h8 e8 hv;simp;exact hr _ _ e8 hv
  have am:((Zx N.ts f).o=(b:Int))=True:=by simp [cd]
  simp [B7.hc,Zm I.ok,Zm G.ok,Z,ac,cI,cO,M,aa,ad,am,w1];refine ⟨⟨i+1,_,_,_,_,_,_,_,_,_,_,_,rfl,by omega,?_,(x5.trans e6).trans e7⟩,by simp [Zy];omega⟩;have ay:Zec N i (Zp N.vs i)=Qa:=by
   rw [aj,if_neg al];simp [cc,cd]
  rw [hm,ay,if_neg (by simp [Qa])]
 have c':¬ (i:Int)<D.n:=by omega
 rw [Xfh (by omega),Uj] at hm;simp [c'];refine hr _ _ y5 ?_;rw [hm];exact X6.ok
def Xcj (v0:Value) (B:Nat) (st:Sl) (ts:List Tab) (h0:Zk) (e:Zc) (h':Zk):Prop :=
 ∃ (i:Nat) (v3 v4 v5 v6 v7 v8 v9 v10 v11 v12 v16 v17 v18 v19 v20 v21 v22 v23 v24 v25 v26 v27 v28 v29:Value),
  e=[v0,.pointer (some ⟨B,0,none⟩),.nilIface,v3,v4,v5,v6,v7,v8,v9,v10,v11,v12,st.v,.int .i64 st.n,.int .i64 i,v16,v17,v18,v19,v20,v21,v22,v23,v24,v25,v26,v27,v28,v29]/\i<=st.n/\Qe 0 ts=Qe i (ts.drop i)/\Ext h0 h'
def Xdp (v0:Value) (B nt:Nat) (sv:Sl) (vs:List Xe) (h0:Zk) (e:Zc) (h':Zk):Prop :=
 ∃ (i:Nat) (v3 v4 v5 v6 v7 v8 v9 v10 v11 v12 v13 v14 v15 v16 v17 v21 v22 v23 v24 v25 v26 v27 v28 v29:Value),
  e=[v0,.pointer (some ⟨B,0,none⟩),.nilIface,v3,v4,v5,v6,v7,v8,v9,v10,v11,v12,v13,v14,v15,v16,v17,sv.v,.int .i64 sv.n,.int .i64 i,v21,v22,v23,v24,v25,v26,v27,v28,v29]/\i<=sv.n/\Uf nt 0 vs=Uf nt i (vs.drop i)/\(∀ j,j<i->Ye nt (Zp vs j).c=true)/\Ext h0 h'
def Xd1 (v0:Value) (B nv:Nat) (sa:Sl) (as:List Xe) (h0:Zk) (e:Zc) (h':Zk):Prop :=
 ∃ (i:Nat) (v3 v4 v5 v6 v7 v8 v9 v10 v11 v12 v13 v14 v15 v16 v17 v18 v19 v20 v21 v22 v23 v27 v28 v29:Value),
  e=[v0,.pointer (some ⟨B,0,none⟩),.nilIface,v3,v4,v5,v6,v7,v8,v9,v10,v11,v12,v13,v14,v15,v16,v17,v18,v19,v20,v21,v22,v23,sa.v,.int .i64 sa.n,.int .i64 i,v27,v28,v29]/\i<=sa.n/\Qy nv 0 as=Qy nv i (as.drop i)/\(∀ j,j<i->Ye nv (Zp as j).a=true/\Ye nv (Zp as j).b=true)/\Ext h0 h'
structure Zz9 (Y:Sys):Prop where
 Check:Y.Has 99 Y99
 fault:Y.Has 120 Y120
 meet:Y.Has 123 Y123
 far:Y.Has 121 Y121
 vertex:Y.Has 122 Y122
theorem Zd7 {a b:Wr} (h:a.2≠0):orW a b=a:=if_pos h
theorem Zd3 {a b:Wr} (h:a.2=0):orW a b=b:=if_neg (by simp [h])
theorem Zrd (NF:Zz9 Y) (T:TurnCk Y) {O U V:Sl} {N:Zq} (r:Ul h O U V N)
  {R:Ze} (Z:∀ v h',Ext h h'->X6 Y h.size h' (Vw N) v->R v h'):Zv Y 99 [Yx O U V] h R:=by
 have lv:=r.rv.len;have la:=r.ra.len;have lt:=r.rt.len;refine .of_has NF.Check rfl ?_;simp [Y99,Xn.wp,Yx];refine Zn ?_;intro B h1 g1 B1 e1;have H:∀ {h2:Zk} {p:ByteArray} {k e:Int} {K:Ze},Ext h h2->e≠0->Vw N=Vj p k e->(∀ v h',Ext h h'->X6 Y h.size h' (Vw N) v->K v h') ->
   Zv Y 120 [.string p,.int .i64 k,.iface (Y.tid 49) (.int .i64 e)] h2 K:=by
  intro h2 p k e K x he hw hK;refine Zez NF.fault he ?_;intro v h3 e3 hv _;refine hK v h3 (x.trans e3) ?_;rw [hw];exact hv.mono x.size
 simp [B1.hc];by_cases c1:4096<O.n
 ·have aa:(4096:Int)<O.n:=by omega
  have hw:Vw N=Vj Zp1 0 4:=by
   unfold Vw;rw [Zd7] <;> simp [Zcz,lv,c1,Vj]
  simp [aa];refine H e1 (by omega) hw ?_;intro v h2 x2 hv;simp;exact Z _ _ x2 hv
 have aa:¬ (4096:Int)<O.n:=by omega
 by_cases c2:16384<U.n
 ·have ac:(16384:Int)<U.n:=by omega
  have hw:Vw N=Vj Zp1 1 4:=by
   unfold Vw;rw [Zd7] <;> simp [Zcz,lv,la,c1,c2,Vj]
  simp [aa,ac];refine H e1 (by omega) hw ?_;intro v h2 x2 hv;simp;exact Z _ _ x2 hv
 have ac:¬ (16384:Int)<U.n:=by omega
 by_cases c3:256<V.n
 ·have aq:(256:Int)<V.n:=by omega
  have hw:Vw N=Vj Zp1 2 4:=by
   unfold Vw;rw [Zd7] <;> simp [Zcz,lv,la,lt,c1,c2,c3,Vj]
  simp [aa,ac,aq];refine H e1 (by omega) hw ?_;intro v h2 x2 hv;simp;exact Z _ _ x2 hv
 have aq:¬ (256:Int)<V.n:=by omega
 have ay:Vw N=orW (Qe 0 N.ts) (orW (Uf N.ts.length 0 N.vs) (orW (Qy N.vs.length 0 N.as) (Uj N 0 N.vs))):=by
  unfold Vw;rw [Zd3];simp [Zcz,lv,la,lt,c1,c2,c3,Qa]
 simp [aa,ac,aq];refine Zs (Xcj (Yx O U V) B V N.ts h1) (fun e _=>V.n-Zy e 15) ⟨0,_,_,_,_,_,_,_,_,_,_,_,_,_,_,_,_,_,_,_,_,_,_,_,_,rfl,by omega,by simp,Mod.refl h1⟩ ?_;rintro e h2 ⟨i,v3,v4,v5,v6,v7,v8,v9,ad,ae,af,ag,ah,az,aA,aB,ai,aj,ak,ar,au,av,al,am,an,rfl,hi,G,x2⟩;have y2:=e1.trans x2;have B2:=B1.ext x2;by_cases c:i<V.n
 ·have c':(i:Int)<V.n:=by omega
  have w1:=Zj (i:=i) (by omega);rw [Zis (by omega)] at G;obtain ⟨q,aH,_,rq⟩:=(r.ext y2).rt.rd (i:=i) (by omega);simp [c',Zm (r.ext y2).rt.ok,aH];refine Xd (vs:=#[.int .i64 (Zx N.ts i).i,.int .i64 (Zx N.ts i).o,q.v]) rfl rfl (by simp) ?_;intro b3 aP g3 B3' aI M;simp;refine M _ ?_;intro h3 B3 e3;clear M B3' aI;have y3:=y2.trans e3;simp [Yj B3];refine Zju T (rq.ext e3) ?_;intro v4 h4 e4 ao;have X:=y3.trans e4;rw [show Uo (Zx N.ts i).i (Zx N.ts i).o (Zx N.ts i).cs=Z1 (Zx N.ts i) from rfl] at ao;by_cases h0:(Z1 (Zx N.ts i)).2=0
  ·have:=ao.here.nil h0;subst this;rw [if_neg (by simp [h0])] at G;simp [w1];exact ⟨⟨i+1,_,_,_,_,_,_,_,_,_,_,_,_,_,_,_,_,_,_,_,_,_,_,_,_,rfl,by omega,G,(x2.trans e3).trans e4⟩,by simp [Zy];omega⟩
  rw [if_pos h0] at G;have ap:(Wx Zns i (Z1 (Zx N.ts i))).2≠0:=by unfold Wx;rw [if_neg h0];exact h0
  have hw:Vw N=Wx Zns i (Z1 (Zx N.ts i)):=by rw [ay,G,Zd7 ap]
  obtain ⟨t4,u4,rfl⟩:=ao.here.iface h0;simp;refine Zom NF.fault (lo:=h.size) (by have:=X.size;omega) (ao.mono (by have:=y3.size;omega)) h0 ?_;intro v5 h5 e5 J _;simp;refine Z _ _ (X.trans e5) ?_;rw [hw];exact J
 have c':¬ (i:Int)<V.n:=by omega
 rw [Xfh (by omega),Qe] at G;have aC:Vw N=orW (Uf N.ts.length 0 N.vs) (orW (Qy N.vs.length 0 N.as) (Uj N 0 N.vs)):=by rw [ay,G,Zd3 rfl]
 simp [c',B2.hc];refine Zs (Xdp (Yx O U V) B N.ts.length O N.vs h2) (fun e _=>O.n-Zy e 20) ⟨0,_,_,_,_,_,_,_,_,_,_,_,_,_,_,_,_,_,_,_,_,_,_,_,_,rfl,by omega,by simp,fun j hj=>by omega,Mod.refl h2⟩ ?_;clear c c' hi G v3 v4 v5 v6 v7 v8 v9 ad ae af ag ah az aA aB ai aj ak ar au av al am an;rintro e h3 ⟨i,v3,v4,v5,v6,v7,v8,v9,ad,ae,af,aD,aE,aF,ag,ah,ai,aj,ak,ar,au,av,al,am,an,rfl,hi,G,I,x3⟩;have y3:=y2.trans x3;have B3:=B2.ext x3;by_cases c:i<O.n
 ·have c':(i:Int)<O.n:=by omega
  have w1:=Zj (i:=i) (by omega);rw [Zid (by omega)] at G;have aJ:=(r.ext y3).rv.rd (i:=i) (by omega);simp [c',Zm (r.ext y3).rv.ok,aJ];refine Xd (vs:=#[.int .i64 (Zp N.vs i).a,.int .i64 (Zp N.vs i).b,.int .i64 (Zp N.vs i).c]) rfl rfl (by simp) ?_;intro b4 aQ g4 B4' aK M;simp;refine M _ ?_;intro h4 B4 e4;clear M B4' aK;have X:=y3.trans e4;have B14:=B3.ext e4;have D:(Uk N.ts.length i (Zp N.vs i)).2≠0->Vw N=Uk N.ts.length i (Zp N.vs i):=by
   intro ab;rw [if_pos ab] at G;rw [aC,G,Zd7 ab]
  simp [B4.hc];refine Zp7 NF.far ?_;by_cases f1:Zbj (Zp N.vs i).a=true
  ·have hv:Uk N.ts.length i (Zp N.vs i)=Vj Z8 i 1:=by simp [Uk,f1]
   simp [f1];refine H X (by omega) (by rw [D (by rw [hv];simp [Vj]),hv]) ?_;intro v h5 x5 J;simp;exact Z _ _ x5 J
  simp [f1,B4.hc];refine Zp7 NF.far ?_;by_cases f2:Zbj (Zp N.vs i).b=true
  ·have hv:Uk N.ts.length i (Zp N.vs i)=Vj Z8 i 1:=by simp [Uk,f2]
   simp [f2];refine H X (by omega) (by rw [D (by rw [hv];simp [Vj]),hv]) ?_;intro v h5 x5 J;simp;exact Z _ _ x5 J
  have aw:Uk N.ts.length i (Zp N.vs i)=if Ye N.ts.length (Zp N.vs i).c then Qa else Vj Z8 i 5:=by simp [Uk,f1,f2]
  by_cases f3:(Zp N.vs i).c<0
  ·have hv:Uk N.ts.length i (Zp N.vs i)=Vj Z8 i 5:=by
    rw [aw,if_neg];simp [Ye];omega
   simp [f2,B4.hc,f3];refine H X (by omega) (by rw [D (by rw [hv];simp [Vj]),hv]) ?_;intro v h5 x5 J;simp;exact Z _ _ x5 J
  by_cases f4:(V.n:Int)<=(Zp N.vs i).c
  ·have hv:Uk N.ts.length i (Zp N.vs i)=Vj Z8 i 5:=by
    rw [aw,if_neg];simp [Ye];omega
   simp [f2,B4.hc,B14.hc,f3,f4];refine H X (by omega) (by rw [D (by rw [hv];simp [Vj]),hv]) ?_;intro v h5 x5 J;simp;exact Z _ _ x5 J
  have aG:Ye N.ts.length (Zp N.vs i).c=true:=by simp [Ye];omega
  have hv:Uk N.ts.length i (Zp N.vs i)=Qa:=by rw [aw,if_pos aG]
  rw [hv,if_neg (by simp [Qa])] at G;simp [f2,B4.hc,B14.hc,f3,f4,w1];refine ⟨⟨i+1,_,_,_,_,_,_,_,_,_,_,_,_,_,_,_,_,_,_,_,_,_,_,_,_,rfl,by omega,G,fun j hj=>?_,x3.trans e4⟩,by simp [Zy];omega⟩;rcases Xen j i with q | q
  ·exact I j q
  obtain rfl:j=i:=by omega
  exact aG
 have c':¬ (i:Int)<O.n:=by omega
 obtain rfl:i=O.n:=by omega
 rw [Xfh (by omega),Uf] at G;have ap:Vw N=orW (Qy N.vs.length 0 N.as) (Uj N 0 N.vs):=by rw [aC,G,Zd3 rfl]
 have hV:∀ i,i<N.vs.length->Ye N.ts.length (Zp N.vs i).c=true:=fun i hi=>I i (by omega);simp [B3.hc];refine Zs (Xd1 (Yx O U V) B N.vs.length U N.as h3) (fun e _=>U.n-Zy e 26) ⟨0,_,_,_,_,_,_,_,_,_,_,_,_,_,_,_,_,_,_,_,_,_,_,_,_,rfl,by omega,by simp,fun j hj=>by omega,Mod.refl h3⟩ ?_;clear c c' hi G I v3 v4 v5 v6 v7 v8 v9 ad ae af aD aE aF ag ah ai aj ak ar au av al am an;rintro e h4 ⟨i,v3,v4,v5,v6,v7,v8,v9,ad,ae,af,aD,aE,aF,ag,ah,az,aA,aB,ai,aj,ak,al,am,an,rfl,hi,G,I,x4⟩;have X:=y3.trans x4;have B4:=B3.ext x4;by_cases c:i<U.n
 ·have c':(i:Int)<U.n:=by omega
  have w1:=Zj (i:=i) (by omega);rw [Zlj (by omega)] at G;have aL:=(r.ext X).ra.rd (i:=i) (by omega);simp [c',Zm (r.ext X).ra.ok,aL];refine Xd (vs:=#[.int .i64 (Zp N.as i).a,.int .i64 (Zp N.as i).b,.int .i64 (Zp N.as i).c]) rfl rfl (by simp) ?_;intro b5 aR g5 B5' aM M;simp;refine M _ ?_;intro h5 B5 e5;clear M B5' aM;have y5:=X.trans e5;have B15:=B4.ext e5;have D:(U7 N.vs.length i (Zp N.as i)).2≠0->Vw N=U7 N.vs.length i (Zp N.as i):=by
   intro ab;rw [if_pos ab] at G;rw [ap,G,Zd7 ab]
  simp [Yj B15,B5.hc];refine Ziu NF.vertex lv ?_;intro h6 e6;have y6:=y5.trans e6;have B16:=B15.ext e6;have B6:=B5.ext e6;by_cases f1:Ye N.vs.length (Zp N.as i).a=true;rotate_left
  ·have hv:U7 N.vs.length i (Zp N.as i)=Vj Zlz i 5:=by simp [U7,f1]
   simp [f1];refine H y6 (by omega) (by rw [D (by rw [hv];simp [Vj]),hv]) ?_;intro v h7 x7 aN;simp;exact Z _ _ x7 aN
  simp [f1,Yj B16,B6.hc];refine Ziu NF.vertex lv ?_;intro h7 e7;have y7:=y6.trans e7;have B7:=B6.ext e7;by_cases f2:Ye N.vs.length (Zp N.as i).b=true;rotate_left
  ·have hv:U7 N.vs.length i (Zp N.as i)=Vj Zlz i 5:=by simp [U7,f1,f2]
   simp [f2];refine H y7 (by omega) (by rw [D (by rw [hv];simp [Vj]),hv]) ?_;intro v h8 x8 ax;simp;exact Z _ _ x8 ax
  simp [f2,B7.hc];refine U4 T.Weight ?_;by_cases f3:Yu (Zp N.as i).c=true;rotate_left
  ·have hv:U7 N.vs.length i (Zp N.as i)=Vj Zlz i 8:=by simp [U7,f1,f2,f3]
   simp [f3];refine H y7 (by omega) (by rw [D (by rw [hv];simp [Vj]),hv]) ?_;intro v h8 x8 ax;simp;exact Z _ _ x8 ax
  have hv:U7 N.vs.length i (Zp N.as i)=Qa:=by simp [U7,f1,f2,f3]
  rw [hv,if_neg (by simp [Qa])] at G;simp [f3,w1];refine ⟨⟨i+1,_,_,_,_,_,_,_,_,_,_,_,_,_,_,_,_,_,_,_,_,_,_,_,_,rfl,by omega,G,fun j hj=>?_,((x4.trans e5).trans e6).trans e7⟩,by simp [Zy];omega⟩;rcases Xen j i with q | q
  ·exact I j q
  obtain rfl:j=i:=by omega
  exact ⟨f1,f2⟩
 have c':¬ (i:Int)<U.n:=by omega
 obtain rfl:i=U.n:=by omega
 rw [Xfh (by omega),Qy] at G;have aO:Vw N=Uj N 0 N.vs:=by rw [ap,G,Zd3 rfl]
 simp [Yj B4];refine Zxd NF.meet NF.fault (r.ext X) (by omega) (by omega) (fun i hi=>I i (by omega)) hV ?_;intro v h5 e5 hv;simp;refine Z _ _ (X.trans e5) ?_;rw [aO];exact hv.mono X.size
def Yp:Nat->Zb->Int->Int
 | _,[],_=>-1
 | k,x::r,a=>if x=a then k else Yp (k+1) r a
theorem Zp4 {l:Zb} {i:Nat} {a:Int} (r:i<l.length):Yp i (l.drop i) a=if Zl l i=a then (i:Int) else Yp (i+1) (l.drop (i+1)) a:=by
 rw [Xfy r,Yp];simp [Zl,r]
theorem Zul (H:Y.Has 130 Y130) {I r J:Sl} {N:Zq} (M:N.as.length=r.n) {v:Int} {R:Ze} (D:∀ h',Ext h h'->R (.bool (Ye N.as.length v)) h'):Zv Y 130 [Yx I r J,.int .i64 v] h R:=by
 refine .of_has H rfl ?_;simp [Y130,Xn.wp,Yx];refine Zn ?_;intro b h1 O B1 G;rw [M] at D;by_cases c:0<=v
 ·have:Ye r.n v=decide (v<r.n):=by simp [Ye,c]
  rw [this] at D;simp [c,B1.hc];exact D _ G
 have:Ye r.n v=false:=by simp [Ye,c]
 rw [this] at D;simp [c];exact D _ G
def Qo (ps:List (ByteArray × Int)):Zc:=ps.flatMap fun p=>[.string p.1,.int .i64 p.2]
theorem Zdm {ps:List (ByteArray × Int)}:(Qo ps).length=ps.length * 2:=by
 induction ps with
 | nil=>rfl
 | cons t r D=>simp only [Qo,Xg0,Xex,Xfp,Xgn] at D ⊢;omega
theorem Zlf {ps:List (ByteArray × Int)}:∀ {i:Nat} {x:ByteArray × Int},ps[i]? = some x->(Qo ps)[i * 2]? = some (.string x.1)/\(Qo ps)[i * 2+1]? = some (.int .i64 x.2):=by
 induction ps with
 | nil=>intro i x hx;simp at hx
 | cons t r D =>
  intro i x hx;have e:Qo (t::r) = .string t.1 :: .int .i64 t.2::Qo r:=rfl;rw [e]
  cases i with
  | zero=>simp at hx;subst hx;simp
  | succ i =>
   have:=D (i:=i) (x:=x) (by simpa using hx);have G:(i+1) * 2=i * 2+1+1:=by omega
   have H:(i+1) * 2+1=i * 2+1+1+1:=by omega
   rw [H,G];simp only [Xh5];exact this
theorem Zcl.rd {s:Sl} {ps:List (ByteArray × Int)} (p:Zcl h s ps):rd h s.b s.o (ps.length * 2)=some (Qo ps):=by
 have:=Zad (h:=h) (b:=s.b) (l:=Qo ps) (o:=s.o) fun j v r=>by
  have I:j<ps.length * 2:=by
   have:=(List.getElem?_eq_some_iff.1 r).1;rwa [Zdm] at this
  have hx:ps[j / 2]? = some ps[j / 2]:=Xfq (by omega);obtain ⟨D,G⟩:=Zlf hx;obtain ⟨H,k1⟩:=p.p _ _ hx;rcases Nat.mod_two_eq_zero_or_one j with m | m
  ·have e:j=j / 2 * 2:=by omega
   rw [<-e] at D H;rw [r] at D
   cases D
   exact H
  have e:j=j / 2 * 2+1:=by omega
  rw [<-e] at G;rw [r] at G
  cases G
  rw [show s.o+j=s.o+j / 2 * 2+1 by omega];exact k1
 rwa [Zdm] at this
theorem Yl.partsAt {s:Sl} {ps:List (ByteArray × Int)} (o:Yl h 2 s (Qo ps)):Zcl h s ps:=by
 have r:=o.1;rw [Zdm] at r;refine ⟨o.ok,by omega,fun i x hx=>?_⟩;obtain ⟨a,b⟩:=Zlf hx;exact ⟨o.cell a,o.cell b⟩
theorem Zsf {s:Sl} {ps:List (ByteArray × Int)} (p:Zcl h s ps):Wv h 2 s.n s.v=some (Qo ps):=by
 have G:=p.rd;rw [p.len] at G;unfold Sl.v
 cases r:s.nl with
 | true =>
  have:ps=[]:=Xfb (by rw [p.len];exact (p.ok.nil r).1);subst this
  rfl
 | false =>
  cases D:s.sp with
  | none=>simp only [Xez,if_false,Wv];exact G
  | some q =>
   have h0:s.n=0:=by
    have:=p.ok.spot.resolve_left (by rw [D];simp);have:=p.ok.le;omega
   have:ps=[]:=Xfb (by rw [p.len];exact h0);subst this;simp [Wv,h0,Qo]
theorem Zuu {ps:List (ByteArray × Int)}:∀ v∈Qo ps,v.oneCell'=true:=by
 intro v hv;simp only [Qo,List.mem_flatMap,Xgg,Xgq,or_false] at hv;obtain ⟨q,_,rfl | rfl⟩:=hv <;> rfl
theorem Zpo (HW:Y.Has 118 Y118) {p:ByteArray} {a:Int} {w:Wr} {v:Value} (hv:Zf1 h w.1 w.2 v) (h0:w.2≠0) (O:w.1.length<=4) {R:Ze}
  (Z:∀ h' U,Ext h h'->FWr h.size h' (Wx p a w) U->R U h'):Zv Y 118 [.string p,.int .i64 a,v] h R:=by
 obtain ⟨s,rfl,hp⟩:=hv;have hn:=hp.len;refine .of_has HW rfl ?_;simp [Y118,Xn.wp];refine Zn ?_;intro b h1 g1 B1 G;simp;refine Zn ?_;intro rb r g2 B2 e2;have B12:=B1.ext e2;have z1:=G.size;have lB:=B2.lt;simp [B12.hc,h0,Ze2];intro t;have e3:Ext r (r.push (.cells #[.string p,.int .i64 a] t)):=Mod.push;have B13:=B12.ext e3;have p3:=((hp.ext G).ext e2).ext e3;have o3:Yl (r.push (.cells #[.string p,.int .i64 a] t)) 2 (Sl.at r.size 1 1) (Qo [(p,a)]) :=
  ⟨by simp [Qo],.inr ⟨rfl,rfl,rfl,Xel _,by simp,_,Xa.new,by simp,by simp [Qo]⟩⟩
 simp [B13.hc];rw [<-Sl.at_v];refine Vp o3 (m:=s.n) (nw:=Qo w.1) Yy (Zsf p3) (by rw [Zdm,hn]) Zuu rfl (by simp;omega) (by simp;omega) ?_;intro H h4 o4 aa m4 I;have J:Ext r h4:=Mod.ext e3 m4 (fun j D=>by have:=D.2;simp at this;omega);have B14:=B12.ext J;have B24:=B2.ext J;simp [B14.hc];refine Zr B24 rfl rfl (by simp) ?_;intro h5 B5 V;simp;refine Xc rfl B5 rfl ?_;have ab:H.nl=false/\r.size<=H.b:=by
  rcases I with ⟨X,M⟩ | ⟨X,M⟩
  ·rw [X,M];exact ⟨rfl,Xel _⟩
  exact ⟨M,by have:=e3.size;omega⟩
 have o5:=o4.mod V (fun _ D=>by omega);refine Z h5 _ (Mod.ext ((G.trans e2).trans J) V (fun j D=>by omega)) (fun h6 m6=>?_);have o6:=o5.mod m6 (fun _ D=>by omega);unfold Wx;rw [if_neg h0];refine ⟨H,rfl,Yl.partsAt (ps:=(p,a)::w.1) ?_⟩;simpa [Qo] using o6
end
end Go.Rm
