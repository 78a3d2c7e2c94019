import Derived.Test.YtpikofomaekpoaaGreatDoorT09
/- Parts. -/
set_option linter.unusedSimpArgs false
set_option linter.unusedVariables false
namespace Go.Rm
structure Xe where
 a:Int
 b:Int
 c:Int
deriving DecidableEq
structure Tab where
 i:Int
 o:Int
 cs:Zb
deriving DecidableEq
structure Zr where
 vs:List Xe
 as:List Xe
 ts:List Tab
deriving DecidableEq
def Zp (l:List Xe) (i:Nat):Xe:=l.getD i ⟨0,0,0⟩
def Zz (l:List Tab) (i:Nat):Tab:=l.getD i ⟨0,0,[]⟩
theorem Wy {l:List Xe} {i:Nat} (r:i<l.length):Zp l i=l[i]:=by simp [Zp,r]
theorem Zbu {l:List Tab} {i:Nat} (r:i<l.length):Zz l i=l[i]:=by simp [Zz,r]
structure Z6 (h:Zk) (s:Sl) (l:List Xe):Prop where
 ok:s.ok
 len:l.length=s.n
 v0:∀ i,i<l.length->hc h s.b (s.o+i * 3)=some (.int .i64 (Zp l i).a)
 v1:∀ i,i<l.length->hc h s.b (s.o+i * 3+1)=some (.int .i64 (Zp l i).b)
 v2:∀ i,i<l.length->hc h s.b (s.o+i * 3+2)=some (.int .i64 (Zp l i).c)
structure Zli (h:Zk) (s:Sl) (l:List Tab):Prop where
 ok:s.ok
 len:l.length=s.n
 val:∀ i,i<l.length->∃ u:Sl,hc h s.b (s.o+i * 3)=some (.int .i64 (Zz l i).i)/\hc h s.b (s.o+i * 3+1)=some (.int .i64 (Zz l i).o)/\hc h s.b (s.o+i * 3+2)=some u.v/\Yd h u (Zz l i).cs
def Yy (sv sa st:Sl):Value:=.agg #[sv.v,sa.v,st.v]
structure Ut (h:Zk) (sv sa st:Sl) (N:Zr):Prop where
 rv:Z6 h sv N.vs
 ra:Z6 h sa N.as
 rt:Zli h st N.ts
section
variable {Y:Sys} {h h':Zk}
theorem Z6.ext {s:Sl} {l:List Xe} (r:Z6 h s l) (e:Ext h h'):Z6 h' s l :=
 ⟨r.ok,r.len,fun i D=>e.hc (r.v0 i D) (fun h=>h),fun i D=>e.hc (r.v1 i D) (fun h=>h),fun i D=>e.hc (r.v2 i D) (fun h=>h)⟩
theorem Zli.ext {s:Sl} {l:List Tab} (r:Zli h s l) (e:Ext h h'):Zli h' s l :=
 ⟨r.ok,r.len,fun i D=>by
  obtain ⟨u,h0,h1,G,H⟩:=r.val i D;exact ⟨u,e.hc h0 (fun h=>h),e.hc h1 (fun h=>h),e.hc G (fun h=>h),H.ext e⟩⟩
theorem Ut.ext {D G H:Sl} {N:Zr} (r:Ut h D G H N) (e:Ext h h'):Ut h' D G H N:=⟨r.rv.ext e,r.ra.ext e,r.rt.ext e⟩
theorem Z6.rd {s:Sl} {l:List Xe} (r:Z6 h s l) {i:Nat} (G:i<l.length):rd h s.b (s.o+i * 3) 3=some [.int .i64 (Zp l i).a,.int .i64 (Zp l i).b,.int .i64 (Zp l i).c]:=by
 refine Zba (l:=[.int .i64 (Zp l i).a,.int .i64 (Zp l i).b,.int .i64 (Zp l i).c]) (fun j v D=>?_)
 match j with
 | 0=>simp at D;subst D;exact r.v0 i G
 | 1=>simp at D;subst D;exact r.v1 i G
 | 2=>simp at D;subst D;exact r.v2 i G
 | j+3=>simp at D
theorem Zli.rd {s:Sl} {l:List Tab} (r:Zli h s l) {i:Nat} (H:i<l.length):∃ u:Sl,rd h s.b (s.o+i * 3) 3=some [.int .i64 (Zz l i).i,.int .i64 (Zz l i).o,u.v]/\hc h s.b (s.o+i * 3+2)=some u.v/\Yd h u (Zz l i).cs:=by
 obtain ⟨u,h0,h1,G,I⟩:=r.val i H;refine ⟨u,Zba (l:=[.int .i64 (Zz l i).i,.int .i64 (Zz l i).o,u.v]) (fun j v D=>?_),G,I⟩
 match j with
 | 0=>simp at D;subst D;exact h0
 | 1=>simp at D;subst D;exact h1
 | 2=>simp at D;subst D;exact G
 | j+3=>simp at D
def Zf1 (N:Zr):Bool:=decide (N.vs.length<=80/\N.as.length<=300/\N.ts.length<=80/\∀ t∈N.ts,t.cs.length<=300)
theorem Zca {N:Zr}:Zf1 N=true↔N.vs.length<=80/\N.as.length<=300/\N.ts.length<=80/\∀ i,i<N.ts.length->(Zz N.ts i).cs.length<=300:=by
 simp only [Zf1,decide_eq_true_eq];constructor
 ·rintro ⟨a,b,c,d⟩;exact ⟨a,b,c,fun i r=>by rw [Zbu r];exact d _ (Xgf r)⟩
 rintro ⟨a,b,c,d⟩;refine ⟨a,b,c,fun t ht=>?_⟩;obtain ⟨i,r,rfl⟩:=Xgx ht;have:=d i r;rwa [Zbu r] at this
def Xe8 (B:Nat) (v0:Value) (st:Sl) (N:Zr) (h0:Zk) (e:Zc) (h':Zk):Prop :=
 ∃ (i:Nat) (v4 v5 v6:Value),e=[v0,.pointer (some ⟨B,0,none⟩),.bool false,.int .i64 i,v4,v5,v6]/\i<=st.n/\(∀ j,j<i->(Zz N.ts j).cs.length<=300)/\h'=h0
theorem Z11 (HF:Y.Has 98 Y98) {H J D:Sl} {N:Zr} (r:Ut h H J D N) {R:Ze} (I:∀ h',Ext h h'->R (.bool (Zf1 N)) h'):Zv Y 98 [Yy H J D] h R:=by
 have lv:=r.rv.len;have la:=r.ra.len;have lt:=r.rt.len;refine .of_has HF rfl ?_;simp [Y98,Xm.wp,Yy];refine Zn ?_;intro B h1 g1 B1 X;have r1:=r.ext X;simp [B1.hc];by_cases c1:80<H.n
 ·have G:(80:Int)<H.n:=by omega
  have hf:Zf1 N=false:=by
   rw [Xhk];intro h;have:=Zca.1 h;omega
  rw [hf] at I;have U:¬ (H.n:Int)<=80:=by omega
  simp [G,U];exact I _ X
 have G:¬ (80:Int)<H.n:=by omega
 by_cases c2:300<J.n
 ·have M:(300:Int)<J.n:=by omega
  have hf:Zf1 N=false:=by
   rw [Xhk];intro h;have:=Zca.1 h;omega
  rw [hf] at I;have U:(H.n:Int)<=80:=by omega
  have Z:¬ (J.n:Int)<=300:=by omega
  simp [G,M,U,Z];exact I _ X
 have M:¬ (300:Int)<J.n:=by omega
 by_cases c3:80<D.n
 ·have V:(80:Int)<D.n:=by omega
  have hf:Zf1 N=false:=by
   rw [Xhk];intro h;have:=Zca.1 h;omega
  rw [hf] at I;have U:(H.n:Int)<=80:=by omega
  have Z:(J.n:Int)<=300:=by omega
  simp [G,M,V,U,Z];exact I _ X
 have V:¬ (80:Int)<D.n:=by omega
 have U:(H.n:Int)<=80:=by omega
 have Z:(J.n:Int)<=300:=by omega
 have p3:(D.n:Int)<=80:=by omega
 simp [G,M,V,U,Z];refine Zt (Xe8 B (Yy H J D) D N h1) (fun e _=>D.n-Zy e 3) ⟨0,_,_,_,rfl,by omega,fun j hj=>by omega,rfl⟩ ?_;rintro e h2 ⟨i,v4,v5,v6,rfl,hi,O,rfl⟩;by_cases c:i<D.n
 ·have c':(i:Int)<D.n:=by omega
  have w1:=Zj (i:=i) (by omega);obtain ⟨u,_,hu,ru⟩:=r1.rt.rd (i:=i) (by omega);have lu:=ru.len;simp [B1.hc,c',Zm r1.rt.ok,hu];by_cases g:300<u.n
  ·have g':(300:Int)<u.n:=by omega
   have hf:Zf1 N=false:=by
    rw [Xhk];intro h;have:=(Zca.1 h).2.2.2 i (by omega);omega
   rw [hf] at I;simp [g'];exact I _ X
  have g':¬ (300:Int)<u.n:=by omega
  simp [g',w1];refine ⟨⟨i+1,_,_,_,rfl,by omega,fun j hj=>?_,rfl⟩,by simp [Zy];omega⟩;rcases Xf0 j i with q | q
  ·exact O j q
  obtain rfl:j=i:=by omega
  omega
 have c':¬ (i:Int)<D.n:=by omega
 have hf:Zf1 N=true:=Zca.2 ⟨by omega,by omega,by omega,fun j hj=>O j (by omega)⟩;rw [hf] at I;simp [B1.hc,c'];exact I _ X
def Ye (l:List (Value × Value × Value)):Zc:=l.flatMap fun t=>[t.1,t.2.1,t.2.2]
theorem Yk {l:List (Value × Value × Value)}:(Ye l).length=l.length * 3:=by
 induction l with
 | nil=>rfl
 | cons t r ih=>simp only [Ye,Xic,Xf9,Xg5,Xhy] at ih ⊢;omega
theorem Ztq {l:List (Value × Value × Value)} {x y z:Value}:Ye (l++[(x,y,z)])=Ye l++[x,y,z]:=by simp [Ye]
theorem Zgm {l:List (Value × Value × Value)}:∀ {i:Nat} (D:i<l.length),(Ye l)[i * 3]? = some l[i].1/\(Ye l)[i * 3+1]? = some l[i].2.1/\(Ye l)[i * 3+2]? = some l[i].2.2:=by
 induction l with
 | nil=>intro i D;simp at D
 | cons t r ih =>
  intro i D;have e:Ye (t::r)=t.1::t.2.1::t.2.2::Ye r:=rfl;rw [e]
  cases i with
  | zero=>simp
  | succ i =>
   have:=ih (i:=i) (by simpa using D);have G:(i+1) * 3=i * 3+1+1+1:=by omega
   have H:(i+1) * 3+1=i * 3+1+1+1+1:=by omega
   have I:(i+1) * 3+2=i * 3+2+1+1+1:=by omega
   rw [H,I,G];simp only [Xjn,List.getElem_cons_succ];exact this
def Xz (t:Xe):Value × Value × Value:=(.int .i64 t.a,.int .i64 t.b,.int .i64 t.c)
def X5 (p:Tab × Sl):Value × Value × Value:=(.int .i64 p.1.i,.int .i64 p.1.o,p.2.v)
theorem Ym.get3 {s:Sl} {l:List (Value × Value × Value)} (o:Ym h 3 s (Ye l)) {i:Nat} (r:i<l.length) :
  hc h s.b (s.o+i * 3)=some l[i].1/\hc h s.b (s.o+i * 3+1)=some l[i].2.1/\hc h s.b (s.o+i * 3+2)=some l[i].2.2:=by
 obtain ⟨a,b,c⟩:=Zgm r;exact ⟨o.cell a,o.cell b,o.cell c⟩
theorem Ym.n3 {s:Sl} {l:List (Value × Value × Value)} (o:Ym h 3 s (Ye l)):l.length=s.n:=by
 have:=o.1;rw [Yk] at this;omega
theorem Ym.row3 {s:Sl} {l:List Xe} (o:Ym h 3 s (Ye (l.map Xz))):Z6 h s l:=by
 have D:=o.n3;have g:∀ i (r:i<l.length),hc h s.b (s.o+i * 3)=some (Xz l[i]).1/\hc h s.b (s.o+i * 3+1)=some (Xz l[i]).2.1/\hc h s.b (s.o+i * 3+2)=some (Xz l[i]).2.2:=fun i r=>by
  have g:=o.get3 (i:=i) (by simpa using r);rw [Xgo] at g;exact g
 refine ⟨o.ok,by simpa using D,fun i r=>?_,fun i r=>?_,fun i r=>?_⟩
 ·rw [Wy r];exact (g i r).1
 ·rw [Wy r];exact (g i r).2.1
 rw [Wy r];exact (g i r).2.2
theorem Z6.mod {S:Zf} {s:Sl} {l:List Xe} (r:Z6 h s l) (e:Mod S h h') (hs:l≠[]->¬ S s.b):Z6 h' s l :=
 ⟨r.ok,r.len,fun i D=>e.hc (r.v0 i D) (hs (by intro e;rw [e] at D;simp at D)),fun i D=>e.hc (r.v1 i D) (hs (by intro e;rw [e] at D;simp at D)),fun i D=>e.hc (r.v2 i D) (hs (by intro e;rw [e] at D;simp at D))⟩
theorem Ym.rowT {s:Sl} {P:List (Tab × Sl)} {l:List Tab} (o:Ym h 3 s (Ye (P.map X5))) (D:P.map Prod.fst=l) (hP:∀ p∈P,Yd h p.2 p.1.cs):Zli h s l:=by
 have G:=o.n3;subst D;refine ⟨o.ok,by simpa using G,fun i r=>?_⟩;have r:i<P.length:=by simpa using r
 have e:Zz (P.map Prod.fst) i=P[i].1:=by rw [Zbu (by simpa using r)];simp
 have g:=o.get3 (i:=i) (by simpa using r);rw [e];exact ⟨P[i].2,by simpa [X5] using g.1,by simpa [X5] using g.2.1,by simpa [X5] using g.2.2,hP _ (Xgf r)⟩
theorem Zej {r D G:Value} {k j l:IntKind} {a b c:Int}:Yo.sem Y h (.build #[r,D,G] [(0,1),(1,1),(2,1)] [0,1,2]) [.int k a,.int j b,.int l c]=some (.agg #[.int k a,.int j b,.int l c]):=Zdy rfl rfl rfl
theorem Zd3 {K:Ze} {D G H x y z:Value} :
  Ef.wp h K (.bslice 1 3 #[D,G,H] [0]) [.agg #[x,y,z]] = ∀ t:TypeId,K (.slice (some ⟨h.size,0,none⟩) 1 1) (h.push (.cells #[x,y,z] t)):=by
 have e:Instr.fill (fun i=>some (i * 3,3)) (Xy #[D,G,H] (1 * 3)) ([0].zip [.agg #[x,y,z]])=some #[x,y,z]:=by
  simp [Instr.fill,Xy];apply Xhm
  ·simp
  intro i h1 r
  match i,r with
  | 0,_=>simp
  | 1,_=>simp
  | 2,_=>simp
  | i+3,r=>exact absurd r (by simp)
 simp only [Ef.wp,e]
theorem Up {K:Ze} {bytes b:Nat} {zero:Array Value} {s:Sl} {l:List (Value × Value × Value)} {x y z:Value} (hz:zero.size=3) (o:Ym h 3 s (Ye l)) (hb:Xb h b #[x,y,z])
  (hx:x.oneCell'=true) (hy:y.oneCell'=true) (H:z.oneCell'=true) (D:(s.n+1) * bytes<=140737488355328) (G:s.n+1<=9223372036854775807)
  (I:∀ (r:Sl) (h':Zk),Ym h' 3 r (Ye (l++[(x,y,z)]))->Mod (fun j=>s.nl=false/\j=s.b) h h'->((r.b=s.b/\r.nl=s.nl)\/(h.size<=r.b/\r.nl=false))->K r.v h') :
  Ef.wp h K (.append 3 bytes zero) [s.v,.slice (some ⟨b,0,none⟩) 1 1]:=by
 have hs:Vl h 3 1 (.slice (some ⟨b,0,none⟩) 1 1)=some [x,y,z]:=by
  rw [Zfj];exact Yj hb rfl
 refine Vg o (m:=1) (nw:=[x,y,z]) rfl hs rfl (fun v hv=>?_) hz D G (fun r h' J O M hs'=>?_)
 ·simp only [Xh2,Xid,or_false] at hv;rcases hv with rfl | rfl | rfl <;> assumption
 exact I r h' (by rw [Ztq];exact J) M hs'
theorem Z1m (HT:Y.Has 35 Y35) {ins outs:Int} {s:Sl} {cs:Zb} (r:Yd h s cs) (M:s.n<=1000000) {R:Ze}
  (Z:∀ h' D,Ext h h'->Yd h' D cs->(cs≠[]->h.size<=D.b/\D.b<h'.size)->R (Zfd ins outs D) h'):Zv Y 35 [Zfd ins outs s] h R:=by
 refine .of_has HT rfl ?_;simp [Y35,Xm.wp,Zfd];refine Zn ?_;intro b h1 g1 B1 O;simp;refine Zn ?_;intro rb U g2 B2 e2;have B1':=B1.ext e2;have G:=O.trans e2;have z1:=O.size;have B2lt:=B2.lt;simp [B1'.hc,Zgq];intro t;have e3:Ext U (U.push (.cells #[] t)):=Mod.push;have B3:=B1'.ext e3;simp [B3.hc];refine Zdv ((r.ext G).ext e3) (by omega) Zip (.inr (Xfy _)) e3 ?_;intro D h4 o4 hs' H;have B4:=B1'.ext H;simp [B4.hc];refine Zs (B2.ext H) rfl rfl (by simp) ?_;intro h5 B5 V;simp;refine Xj rfl B5 rfl ?_;have X:=o4.mod V (fun hn h=>by
  rcases hs' with hs' | hs'
  ·rw [hn] at hs';cases hs'
  omega)
 refine Z h5 D (Mod.ext (G.trans H) V (fun j hj=>by omega)) X.row64 (fun I=>?_);obtain ⟨aa,hb,_,J⟩:=X.blk (i:=0) (by rw [Vm];exact List.length_pos_iff.2 I);have:=hs'.resolve_left (by rw [J];simp);exact ⟨by omega,hb.lt⟩
def Xfc (v0:Value) (B rb M n:Nat) (l:List Xe) (hA:Zk) (e:Zc) (h':Zk):Prop :=
 ∃ (i:Nat) (s1:Sl) (v5 v6 v7 v8 v9:Value),e=[v0,.pointer (some ⟨B,0,none⟩),.pointer (some ⟨rb,0,none⟩),.pointer (some ⟨M,0,none⟩),.int .i64 i,v5,v6,v7,v8,v9]/\i<=n /\
  Xb h' M #[s1.v,.slice none 0 0,.slice none 0 0]/\Ym h' 3 s1 (Ye ((l.take i).map Xz))/\(s1.nl=true\/hA.size<=s1.b)/\Mod (fun j=>j=M) hA h'
def Xfb (v0:Value) (B rb M n:Nat) (s1:Sl) (l:List Xe) (hA:Zk) (e:Zc) (h':Zk):Prop :=
 ∃ (i:Nat) (s2:Sl) (v4 v6 v7 v8 v9:Value),e=[v0,.pointer (some ⟨B,0,none⟩),.pointer (some ⟨rb,0,none⟩),.pointer (some ⟨M,0,none⟩),v4,.int .i64 i,v6,v7,v8,v9]/\i<=n /\
  Xb h' M #[s1.v,s2.v,.slice none 0 0]/\Ym h' 3 s2 (Ye ((l.take i).map Xz))/\(s2.nl=true\/hA.size<=s2.b)/\Mod (fun j=>j=M) hA h'
def Xef (v0:Value) (B rb M n:Nat) (s1 s2:Sl) (l:List Tab) (hA:Zk) (e:Zc) (h':Zk):Prop :=
 ∃ (i:Nat) (s3:Sl) (P:List (Tab × Sl)) (v4 v5 v7 v8 v9:Value),e=[v0,.pointer (some ⟨B,0,none⟩),.pointer (some ⟨rb,0,none⟩),.pointer (some ⟨M,0,none⟩),v4,v5,.int .i64 i,v7,v8,v9]/\i<=n /\
  Xb h' M #[s1.v,s2.v,s3.v]/\Ym h' 3 s3 (Ye (P.map X5))/\P.map Prod.fst=l.take i/\(∀ p∈P,Yd h' p.2 p.1.cs/\(p.1.cs≠[]->hA.size<=p.2.b/\(s3.nl=false->p.2.b≠s3.b)/\p.2.b<h'.size))/\(s3.nl=true\/hA.size<=s3.b)/\Mod (fun j=>j=M) hA h'
theorem Zn0 {l:List Xe} {i:Nat} (r:i<l.length):(l.take (i+1)).map Xz=(l.take i).map Xz++[(.int .i64 (Zp l i).a,.int .i64 (Zp l i).b,.int .i64 (Zp l i).c)]:=by
 rw [Xgc r,Xgt,Wy r]
 rfl
theorem Zy0 (HT3:Y.Has 100 Y100) (HT:Y.Has 35 Y35) {X Z st:Sl} {N:Zr} (r:Ut h X Z st N) (bv:N.vs.length<=1000) (ba:N.as.length<=1000) (bt:N.ts.length<=1000) (bc:∀ i,i<N.ts.length->(Zz N.ts i).cs.length<=1000000)
  {R:Ze} (hr:∀ h' s1 s2 s3,Ext h h'->Ut h' s1 s2 s3 N->Ym h' 3 s2 (Ye (N.as.map Xz))->(s2.nl=true\/h.size<=s2.b)->R (Yy s1 s2 s3) h'):Zv Y 100 [Yy X Z st] h R:=by
 have lv:=r.rv.len;have la:=r.ra.len;have lt:=r.rt.len;refine .of_has HT3 rfl ?_;simp [Y100,Xm.wp,Yy];refine Zn ?_;intro B h1 g1 B1 e1;simp;refine Zn ?_;intro rb h2 g2 B2 e2;simp;refine Zn ?_;intro M h3 g3 B3 e3;have l1:=B1.lt;have l2:=B2.lt;have l3:=B3.lt;have ag:B≠M:=by omega
 have ah:rb≠M:=by omega
 have x3:=(e1.trans e2).trans e3;have A3:=(B1.ext e2).ext e3;have C3:=B2.ext e3;simp;refine Zt (Xfc (Yy X Z st) B rb M X.n N.vs h3) (fun e _=>X.n-Zy e 4) ⟨0,Sl.nil,_,_,_,_,_,rfl,by omega,B3,Ym.nil,.inl rfl,Mod.refl h3⟩ ?_;rintro e h4 ⟨i,s1,v5,v6,v7,v8,v9,rfl,hi,B4,o4,ac,m4⟩;have A4:=m4.blk A3 ag;have r4:=r.rv.ext (Mod.ext x3 m4 (fun j H=>by omega));by_cases c:i<X.n
 ·have c':(i:Int)<X.n:=by omega
  have w1:=Zj (i:=i) (by omega);have n4:=o4.n3;have aw:s1.n=i:=by rw [<-n4];simp;omega
  simp [A4.hc,B4.hc,c',Zm r4.ok,r4.v0 i (by omega),r4.v1 i (by omega),r4.v2 i (by omega),Zej,Zd3];intro t;have e5:Ext h4 (h4.push (.cells #[.int .i64 (Zp N.vs i).a,.int .i64 (Zp N.vs i).b,.int .i64 (Zp N.vs i).c] t)):=Mod.push;have B5:=B4.ext e5;have o5:=o4.mod e5 (fun _ h=>h);simp [B5.hc];refine Up rfl o5 Xb.new rfl rfl rfl (by omega) (by omega) ?_;intro G h6 o6 m6 U;rw [<-Zn0 (by omega)] at o6;have ad:G.nl=true\/h3.size<=G.b:=by
   have:=m4.size;have:=e5.size;rcases U with ⟨J,V⟩ | ⟨J,V⟩
   ·rw [J,V];exact ac
   exact .inr (by omega)
  have B6:=m6.blk B5 (fun ⟨J,V⟩=>by have:=ac.resolve_left (by rw [J];simp);omega);simp [Xt.open,B6.hc,B6.hfz,w1];have B7:=B6.set (o:=0) (v:=G.v);have o7:=o6.mod (Mod.set (S:=fun j=>j=M) (h:=h6) (o:=0) (v:=G.v) rfl) (fun I H=>by have:=ad.resolve_left (by rw [I];simp);omega);refine ⟨⟨i+1,G,_,_,_,_,_,rfl,by omega,by simpa using B7,o7,ad,?_⟩,by simp [Zy];omega⟩;refine (m4.then ((e5.mono fun _ _ h=>h.elim).trans m6) (fun j H q=>?_)).trans (Mod.set rfl);have:=ac.resolve_left (by rw [q.1];simp);omega
 have c':¬ (i:Int)<X.n:=by omega
 obtain rfl:i=X.n:=by omega
 rw [Xf7 (by omega)] at o4;have R4:=o4.row3;have x4:Ext h h4:=Mod.ext x3 m4 (fun j H=>by omega);have C4:=m4.blk C3 ah;have ai:N.vs≠[]->s1.b≠M/\s1.b<h4.size/\h3.size<=s1.b:=fun D=>by
  obtain ⟨an,hb,_,aj⟩:=o4.blk (i:=0) (by rw [Yk,Xf2];have:=List.length_pos_iff.2 D;omega);have:=ac.resolve_left (by rw [aj];simp);exact ⟨by omega,hb.lt,by omega⟩
 have k4:=m4.size;simp [A4.hc];refine Zt (Xfb (Yy X Z st) B rb M Z.n s1 N.as h4) (fun e _=>Z.n-Zy e 5) ⟨0,Sl.nil,_,_,_,_,_,rfl,by omega,B4,Ym.nil,.inl rfl,Mod.refl h4⟩ ?_;clear r4 c c' hi v5 v6 v7 v8 v9;rintro e h5 ⟨i,s2,v4,v6,v7,v8,v9,rfl,hi,B5,o5,O,m5⟩;have A5:=m5.blk A4 ag;have r5:=r.ra.ext (Mod.ext x4 m5 (fun j H=>by omega));by_cases c:i<Z.n
 ·have c':(i:Int)<Z.n:=by omega
  have w1:=Zj (i:=i) (by omega);have n5:=o5.n3;have ax:s2.n=i:=by rw [<-n5];simp;omega
  simp [A5.hc,B5.hc,c',Zm r5.ok,r5.v0 i (by omega),r5.v1 i (by omega),r5.v2 i (by omega),Zej,Zd3];intro t;have e6:Ext h5 (h5.push (.cells #[.int .i64 (Zp N.as i).a,.int .i64 (Zp N.as i).b,.int .i64 (Zp N.as i).c] t)):=Mod.push;have B6:=B5.ext e6;have o6:=o5.mod e6 (fun _ h=>h);simp [B6.hc];refine Up rfl o6 Xb.new rfl rfl rfl (by omega) (by omega) ?_;intro G h7 o7 m7 ao;rw [<-Zn0 (by omega)] at o7;have ae:G.nl=true\/h4.size<=G.b:=by
   have:=m5.size;have:=e6.size;rcases ao with ⟨J,V⟩ | ⟨J,V⟩
   ·rw [J,V];exact O
   exact .inr (by omega)
  have B7:=m7.blk B6 (fun ⟨J,V⟩=>by have:=O.resolve_left (by rw [J];simp);omega);simp [Xt.open,B7.hc,B7.hfz,w1];have B8:=B7.set (o:=1) (v:=G.v);have o8:=o7.mod (Mod.set (S:=fun j=>j=M) (h:=h7) (o:=1) (v:=G.v) rfl) (fun I H=>by have:=ae.resolve_left (by rw [I];simp);omega);refine ⟨⟨i+1,G,_,_,_,_,_,rfl,by omega,by simpa using B8,o8,ae,?_⟩,by simp [Zy];omega⟩;refine (m5.then ((e6.mono fun _ _ h=>h.elim).trans m7) (fun j H q=>?_)).trans (Mod.set rfl);have:=O.resolve_left (by rw [q.1];simp);omega
 have c':¬ (i:Int)<Z.n:=by omega
 obtain rfl:i=Z.n:=by omega
 rw [Xf7 (by omega)] at o5;have R5:=o5.row3;have R45:=R4.mod m5 (fun D=>(ai D).1);have x5:Ext h h5:=Mod.ext x4 m5 (fun j H=>by omega);have C5:=m5.blk C4 ah;have am:N.as≠[]->s2.b≠M/\s2.b<h5.size/\h4.size<=s2.b:=fun D=>by
  obtain ⟨an,hb,_,aj⟩:=o5.blk (i:=0) (by rw [Yk,Xf2];have:=List.length_pos_iff.2 D;omega);have:=O.resolve_left (by rw [aj];simp);exact ⟨by omega,hb.lt,by omega⟩
 have k5:=m5.size;simp [A5.hc];refine Zt (Xef (Yy X Z st) B rb M st.n s1 s2 N.ts h5) (fun e _=>st.n-Zy e 6) ⟨0,Sl.nil,[],_,_,_,_,_,rfl,by omega,B5,Ym.nil,rfl,fun p hp=>by simp at hp,.inl rfl,Mod.refl h5⟩ ?_;clear r5 c c' hi v4 v6 v7 v8 v9;rintro e h6 ⟨i,s3,P,v4,v5,v7,v8,v9,rfl,hi,B6,o6,hP,aa,U,m6⟩;have A6:=m6.blk A5 ag;have x6:Ext h h6:=Mod.ext x5 m6 (fun j H=>by omega);have r6:=r.rt.ext x6;have k6:=m6.size;by_cases c:i<st.n
 ·have c':(i:Int)<st.n:=by omega
  have w1:=Zj (i:=i) (by omega);have n6:=o6.n3;have ap:P.length=i:=by have:=congrArg List.length hP;simp at this;omega
  have ay:s3.n=i:=by rw [<-n6];simpa using ap
  obtain ⟨u,aq,hu,ru⟩:=r6.rd (i:=i) (by omega);have az:=ru.len;have aA:=bc i (by omega);simp [A6.hc,B6.hc,c',Zm r6.ok,aq];refine Z1m HT ru (by omega) ?_;intro h7 u' e7 ar ak;have B7:=B6.ext e7;have k7:=e7.size;simp [B7.hc,Zfd,Zd3];intro t;have e8:Ext h7 (h7.push (.cells #[.int .i64 (Zz N.ts i).i,.int .i64 (Zz N.ts i).o,u'.v] t)):=Mod.push;have k8:=e8.size;have B8:=B7.ext e8;have o8:=(o6.mod e7 (fun _ h=>h)).mod e8 (fun _ h=>h);simp [B8.hc];refine Up rfl o8 Xb.new rfl rfl (by simp) (by omega) (by omega) ?_;intro G h9 o9 m9 al;have k9:=m9.size;have au:Ym h9 3 G (Ye ((P++[(Zz N.ts i,u')]).map X5)):=by simpa [X5] using o9
  have af:G.nl=true\/h5.size<=G.b:=by
   rcases al with ⟨J,V⟩ | ⟨J,V⟩
   ·rw [J,V];exact U
   exact .inr (by omega)
  have B9:=m9.blk B8 (fun ⟨J,V⟩=>by have:=U.resolve_left (by rw [J];simp);omega);simp [Xt.open,B9.hc,B9.hfz,w1];have B10:=B9.set (o:=2) (v:=G.v);have ab:Mod (fun j=>j=M) h9 (Vd h9 M 2 G.v):=Mod.set rfl;have av:=au.mod ab (fun I H=>by have:=af.resolve_left (by rw [I];simp);omega);have aB:=ab.size;have s3lt:s3.nl=false->s3.b<h6.size:=fun I=>o6.lt I;refine ⟨⟨i+1,G,P++[(Zz N.ts i,u')],_,_,_,_,_,rfl,by omega,by simpa using B10,av,?_,?_,af,?_⟩,by simp [Zy];omega⟩
  ·rw [Xgt,hP,Xgc (by omega),Zbu (by omega)]
   rfl
  ·intro p hp;rcases List.mem_append.1 hp with g | g
   ·obtain ⟨g1,g2⟩:=aa p g;have g3:p.1.cs≠[]->¬ (s3.nl=false/\p.2.b=s3.b):=fun D q=>(g2 D).2.1 q.1 q.2;refine ⟨(((g1.ext e7).ext e8).mod m9 g3).mod ab (fun D H=>by have:=(g2 D).1;omega),fun D=>?_⟩;obtain ⟨q0,J,V⟩:=g2 D;refine ⟨q0,fun I=>?_,by omega⟩;rcases al with ⟨w1,w2⟩ | ⟨w1,w2⟩
    ·rw [w1];exact J (by rw [<-w2];exact I)
    omega
   simp only [Xiv] at g;subst g;refine ⟨((ar.ext e8).mod m9 (fun D q=>?_)).mod ab (fun D H=>?_),fun D=>?_⟩
   ·have:=ak D;have:=s3lt q.1;have:=q.2;omega
   ·have:=ak D;omega
   have q:h6.size<=u'.b/\u'.b<h7.size:=ak D;refine ⟨show h5.size<=u'.b by omega,fun I=>?_,show u'.b<(Vd h9 M 2 G.v).size by omega⟩;show u'.b≠G.b;rcases al with ⟨w1,w2⟩ | ⟨w1,w2⟩
   ·have:=s3lt (by rw [<-w2];exact I);omega
   omega
  refine (m6.then (((e7.trans e8).mono fun _ _ h=>h.elim).trans m9) (fun j H q=>?_)).trans ab;have:=U.resolve_left (by rw [q.1];simp);omega
 have c':¬ (i:Int)<st.n:=by omega
 obtain rfl:i=st.n:=by omega
 rw [Xf7 (by omega)] at hP;have R6:Zli h6 s3 N.ts:=o6.rowT hP (fun p hp=>(aa p hp).1);have hH:Ut h6 s1 s2 s3 N:=⟨R45.mod m6 (fun D=>(ai D).1),R5.mod m6 (fun D=>(am D).1),R6⟩
 have C6:=m6.blk C5 ah;simp [A6.hc,Yj B6];refine Zs C6 rfl rfl (by simp) ?_;intro h7 B7 m7;simp;refine Xj rfl B7 rfl ?_;have o7:=o6.mod m7 (fun I H=>by have:=U.resolve_left (by rw [I];simp);omega);refine hr h7 s1 s2 s3 (Mod.ext x6 m7 (fun j H=>by omega)) ⟨hH.rv.mod m7 (fun D H=>by have:=ai D;omega),hH.ra.mod m7 (fun D H=>by have:=am D;omega),o7.rowT hP (fun p hp=>?_)⟩ ((o5.mod m6 (fun I H=>by have:=O.resolve_left (by rw [I];simp);omega)).mod m7 (fun I H=>by have:=O.resolve_left (by rw [I];simp);omega)) (O.imp_right fun q=>by have:=x4.size;omega);obtain ⟨g1,g2⟩:=aa p hp;exact g1.mod m7 (fun D H=>by have:=(g2 D).1;omega)
theorem Z4j (HT3:Y.Has 100 Y100) (HT:Y.Has 35 Y35) {H I J:Sl} {N:Zr} (r:Ut h H I J N) (bv:N.vs.length<=1000) (ba:N.as.length<=1000) (bt:N.ts.length<=1000) (M:∀ i,i<N.ts.length->(Zz N.ts i).cs.length<=1000000)
  {R:Ze} (O:∀ h' D s2 G,Ext h h'->Ut h' D s2 G N->R (Yy D s2 G) h'):Zv Y 100 [Yy H I J] h R :=
 Zy0 HT3 HT r bv ba bt M fun h' D s2 G e n _ _=>O h' D s2 G e n
end
abbrev Zq9:ByteArray:=⟨#[110,101,116]⟩
abbrev Zo0:ByteArray:=⟨#[116,121,112,101]⟩
abbrev X0:ByteArray:=⟨#[118,101,114,116]⟩
abbrev Zm0:ByteArray:=⟨#[97,114,99]⟩
def Wx (p:ByteArray) (k:Int) (w:Wr):Wr:=if w.2=0 then Qg else ((p,k)::w.1,w.2)
def Vr (p:ByteArray) (k:Int) (e:Int):Wr:=([(p,k)],e)
def Zbx (x:Int):Bool:=decide (x < -1048576\/1048576<x)
def Yf (nv:Nat) (v:Int):Bool:=decide (0<=v/\v<nv)
def Z3 (t:Tab):Wr:=Us t.i t.o t.cs
def Ql:Nat->List Tab->Wr
 | _,[]=>Qg
 | k,t::r=>if (Z3 t).2≠0 then Wx Zo0 k (Z3 t) else Ql (k+1) r
def Ur (nt:Nat) (k:Int) (v:Xe):Wr:=if Zbx v.a || Zbx v.b then Vr X0 k 1 else if Yf nt v.c then Qg else Vr X0 k 5
def Un (nt:Nat):Nat->List Xe->Wr
 | _,[]=>Qg
 | k,v::r=>if (Ur nt k v).2≠0 then Ur nt k v else Un nt (k+1) r
def Q3 (nv:Nat) (k:Int) (a:Xe):Wr:=if Yf nv a.a && Yf nv a.b then (if Yt a.c then Qg else Vr Zm0 k 8) else Vr Zm0 k 5
def Z0 (nv:Nat):Nat->List Xe->Wr
 | _,[]=>Qg
 | k,a::r=>if (Q3 nv k a).2≠0 then Q3 nv k a else Z0 nv (k+1) r
def Qs (as:List Xe) (v:Nat):Nat:=(as.filter fun a=>a.b=(v:Int)).length
def Wz (as:List Xe) (v:Nat):Nat:=(as.filter fun a=>a.a=(v:Int)).length
def Zel (N:Zr) (k:Nat) (v:Xe):Wr :=
 if 16<Qs N.as k\/16<Wz N.as k then Vr X0 k 4
 else if (Zz N.ts v.c.toNat).i≠Qs N.as k\/(Zz N.ts v.c.toNat).o≠Wz N.as k then Vr X0 k 9 else Qg
def Uq (N:Zr):Nat->List Xe->Wr
 | _,[]=>Qg
 | k,v::r=>if (Zel N k v).2≠0 then Zel N k v else Uq N (k+1) r
def orW (a b:Wr):Wr:=if a.2≠0 then a else b
def Zda (N:Zr):Wr:=if 4096<N.vs.length then Vr Zq9 0 4 else if 16384<N.as.length then Vr Zq9 1 4 else if 256<N.ts.length then Vr Zq9 2 4 else Qg
def Uc (N:Zr):Wr:=orW (Zda N) (orW (Ql 0 N.ts) (orW (Un N.ts.length 0 N.vs) (orW (Z0 N.vs.length 0 N.as) (Uq N 0 N.vs))))
theorem Zjq {l:List Tab} {i:Nat} (r:i<l.length):Ql i (l.drop i)=if (Z3 (Zz l i)).2≠0 then Wx Zo0 i (Z3 (Zz l i)) else Ql (i+1) (l.drop (i+1)):=by
 rw [Xhc r,Ql,Zbu r]
theorem Zjc {nt:Nat} {l:List Xe} {i:Nat} (r:i<l.length):Un nt i (l.drop i)=if (Ur nt i (Zp l i)).2≠0 then Ur nt i (Zp l i) else Un nt (i+1) (l.drop (i+1)):=by
 rw [Xhc r,Un,Wy r]
theorem Zml {nt:Nat} {l:List Xe} {i:Nat} (r:i<l.length):Z0 nt i (l.drop i)=if (Q3 nt i (Zp l i)).2≠0 then Q3 nt i (Zp l i) else Z0 nt (i+1) (l.drop (i+1)):=by
 rw [Xhc r,Z0,Wy r]
theorem Zlx {N:Zr} {l:List Xe} {i:Nat} (r:i<l.length):Uq N i (l.drop i)=if (Zel N i (Zp l i)).2≠0 then Zel N i (Zp l i) else Uq N (i+1) (l.drop (i+1)):=by
 rw [Xhc r,Uq,Wy r]
theorem Zyv {t:Tab}:(Z3 t).1.length<=1/\((Z3 t).2≠0->0<(Z3 t).1.length):=by
 have hs:(Wl t.i t.o).1.length<=1/\((Wl t.i t.o).2≠0->0<(Wl t.i t.o).1.length):=by
  unfold Wl
  split
  ·simp [Wd]
  split <;> simp [Wd,Qg]
 unfold Z3 Us
 split
 ·exact hs
 split
 ·simp [Wd]
 split <;> simp [Wd,Qg]
section
variable {Y:Sys} {h:Zk}
theorem Zre (H:Y.Has 121 Y121) {x:Int} {R:Ze} (r:R (.bool (Zbx x)) h):Zv Y 121 [.int .i64 x] h R:=by
 refine .of_has H rfl ?_;simp [Y121,Xm.wp];by_cases c1:x < -1048576
 ·have:Zbx x=true:=by simp [Zbx,c1]
  rw [this] at r;simp [c1,r]
 have:Zbx x=decide (1048576<x):=by simp [Zbx,c1]
 rw [this] at r;simp [c1,r]
theorem Zl3 (H:Y.Has 124 Y124) {x:Int} {R:Ze} (r:R (.bool !(Zbx x)) h):Zv Y 124 [.int .i64 x] h R:=by
 refine .of_has H rfl ?_;simp [Y124,Xm.wp];by_cases c1:x < -1048576
 ·have D:¬ (-1048576<=x):=by omega
  have:Zbx x=true:=by simp [Zbx,c1]
  rw [this] at r;simp [D];simpa using r
 have D : -1048576<=x:=by omega
 have:Zbx x=decide (1048576<x):=by simp [Zbx,c1]
 rw [this] at r;have e:(!decide (1048576<x))=decide (x<=1048576):=by
  by_cases q:x<=1048576
  ·have:¬ 1048576<x:=by omega
   simp [q,this]
  have:1048576<x:=by omega
  simp [q,this]
 rw [e] at r;simp [D];simpa using r
theorem Zjt (H:Y.Has 122 Y122) {r I J:Sl} {N:Zr} (lv:N.vs.length=r.n) {v:Int} {R:Ze} (D:∀ h',Ext h h'->R (.bool (Yf N.vs.length v)) h'):Zv Y 122 [Yy r I J,.int .i64 v] h R:=by
 refine .of_has H rfl ?_;simp [Y122,Xm.wp,Yy];refine Zn ?_;intro b h1 M B1 G;rw [lv] at D;by_cases c:0<=v
 ·have:Yf r.n v=decide (v<r.n):=by simp [Yf,c]
  rw [this] at D;simp [c,B1.hc];exact D _ G
 have:Yf r.n v=false:=by simp [Yf,c]
 rw [this] at D;simp [c];exact D _ G
theorem Zfg (H:Y.Has 120 Y120) {p:ByteArray} {a c:Int} (hc:c≠0) {R:Ze} (r:∀ v h',Ext h h'->W9 Y h.size h' (Vr p a c) v->(∃ t u,v = .iface t u)->R v h') :
  Zv Y 120 [.string p,.int .i64 a,.iface (Y.tid 49) (.int .i64 c)] h R:=by
 refine .of_has H rfl ?_;simp [Y120,Xm.wp];refine Zn ?_;intro b h1 G B D;simp;exact r _ _ D (fun h' m=>Zfc (m.blk B (by omega)) hc) ⟨_,_,rfl⟩
theorem Zpt (H:Y.Has 120 Y120) {p:ByteArray} {a:Int} {w:Wr} {v:Value} {lo:Nat} (G:lo<=h.size) (hv:W9 Y lo h w v) (h0:w.2≠0) {R:Ze}
  (I:∀ v h',Ext h h'->W9 Y lo h' (Wx p a w) v->(∃ t u,v = .iface t u)->R v h') :
  Zv Y 120 [.string p,.int .i64 a,v] h R:=by
 obtain ⟨t,u,rfl⟩:=hv.here.iface h0;refine .of_has H rfl ?_;simp [Y120,Xm.wp];refine Zn ?_;intro b h1 J B D;simp;refine I _ _ D (fun h' m=>?_) ⟨_,_,rfl⟩;have hb:=m.blk B (by omega);have r:=hv.ext D h' m;rcases r with ⟨q,_⟩ | ⟨_,r⟩
 ·exact absurd q h0
 unfold Wx;rw [if_neg h0];exact .inr ⟨h0,b,_,rfl,by rw [hb.hc];rfl,by rw [hb.hc];rfl,by rw [hb.hc];rfl,r⟩
def Zld (n:Nat) (as:List Xe):Zb:=(List.range n).map fun v=>(Qs as v:Int)
def Ze4 (n:Nat) (as:List Xe):Zb:=(List.range n).map fun v=>(Wz as v:Int)
@[simp] theorem Xcg {n:Nat} {as:List Xe}:(Zld n as).length=n:=by simp [Zld]
@[simp] theorem Xbb {n:Nat} {as:List Xe}:(Ze4 n as).length=n:=by simp [Ze4]
theorem Zj0 {n v:Nat} {as:List Xe} (hv:v<n):Zl (Zld n as) v=Qs as v:=by simp [Zl,Zld,hv]
theorem Zh4 {n v:Nat} {as:List Xe} (hv:v<n):Zl (Ze4 n as) v=Wz as v:=by simp [Zl,Ze4,hv]
theorem Zyp {as:List Xe} {v:Nat}:Qs as v<=as.length:=Xgz ..
theorem Zsc {as:List Xe} {v:Nat}:Wz as v<=as.length:=Xgz ..
theorem Zyt {as:List Xe} {i v:Nat} (r:i<as.length):Qs (as.take (i+1)) v=Qs (as.take i) v+if (Zp as i).b=(v:Int) then 1 else 0:=by
 rw [Xgc r,Wy r];unfold Qs;rw [Xh3,Xf9]
 congr 1
 by_cases c:as[i].b=(v:Int) <;> simp [c]
theorem Zwj {as:List Xe} {i v:Nat} (r:i<as.length):Wz (as.take (i+1)) v=Wz (as.take i) v+if (Zp as i).a=(v:Int) then 1 else 0:=by
 rw [Xgc r,Wy r];unfold Wz;rw [Xh3,Xf9]
 congr 1
 by_cases c:as[i].a=(v:Int) <;> simp [c]
theorem Znx {n i t:Nat} {as:List Xe} (r:i<as.length) (ht:(Zp as i).b=(t:Int)) (D:t<n) :
  (Zld n (as.take i)).set t ((Qs (as.take i) t:Int)+1)=Zld n (as.take (i+1)):=by
 apply Xgb (by simp);intro v h1 G;have hv:v<n:=by simpa using G
 rw [Xg3];simp only [Zld,Xgo,Xhu];rw [Zyt r,ht];by_cases c:t=v
 ·subst c;simp
 have:¬ (t:Int)=(v:Int):=by omega
 simp [c,this]
theorem Zlm {n i t:Nat} {as:List Xe} (r:i<as.length) (ht:(Zp as i).a=(t:Int)) (D:t<n) :
  (Ze4 n (as.take i)).set t ((Wz (as.take i) t:Int)+1)=Ze4 n (as.take (i+1)):=by
 apply Xgb (by simp);intro v h1 G;have hv:v<n:=by simpa using G
 rw [Xg3];simp only [Ze4,Xgo,Xhu];rw [Zwj r,ht];by_cases c:t=v
 ·subst c;simp
 have:¬ (t:Int)=(v:Int):=by omega
 simp [c,this]
theorem Zt6 {n:Nat}:Zld n []=List.replicate n 0:=by
 apply Xgb (by simp);intro v h1 r;simp [Zld,Qs]
theorem Zos {n:Nat}:Ze4 n []=List.replicate n 0:=by
 apply Xgb (by simp);intro v h1 r;simp [Ze4,Wz]
theorem Zdq {s:Sl} {cs:Zb} (o:Ym h 1 s (Zq cs)) {k:Nat} {y:Int} (G:k<cs.length) :
  Ym (Vd h s.b (s.o+k) (.int .i64 y)) 1 s (Zq (cs.set k y))/\(hc h s.b (s.o+k)).isSome=true/\hfz h s.b (s.o+k)=false/\Mod (fun j=>j=s.b) h (Vd h s.b (s.o+k) (.int .i64 y))/\s.nl=false:=by
 have h1:=o.set (i:=k) (v:=.int .i64 y) (by simpa using G);rw [Vn] at h1;obtain ⟨H,hb,r,D⟩:=o.blk (i:=k) (by simpa using G);refine ⟨h1,?_,hb.hfz,Mod.set rfl,D⟩;rw [hb.hc];simp [r]
def Xaz (v0:Value) (B n:Nat) (sI sO sa:Sl) (as:List Xe) (h0:Zk) (e:Zc) (h':Zk):Prop :=
 ∃ (i:Nat) (v5 v6 v7 v8 v12 v13 v14 v15 v16 v17 v18:Value),e=[v0,.pointer (some ⟨B,0,none⟩),.nilIface,sI.v,sO.v,v5,v6,v7,v8,sa.v,.int .i64 sa.n,.int .i64 i,v12,v13,v14,v15,v16,v17,v18]/\i<=sa.n /\
  Ym h' 1 sI (Zq (Zld n (as.take i)))/\Ym h' 1 sO (Zq (Ze4 n (as.take i)))/\Ext h0 h'
def Z9o (v0:Value) (B:Nat) (sI sO sv:Sl) (N:Zr) (h0:Zk) (e:Zc) (h':Zk):Prop :=
 ∃ (i:Nat) (v5 v6 v7 v8 v9 v10 v11 v12 v16 v17 v18:Value),e=[v0,.pointer (some ⟨B,0,none⟩),.nilIface,sI.v,sO.v,v5,v6,v7,v8,v9,v10,v11,v12,sv.v,.int .i64 sv.n,.int .i64 i,v16,v17,v18]/\i<=sv.n /\
  Uq N 0 N.vs=Uq N i (N.vs.drop i)/\Ext h0 h'
theorem Zyx (H:Y.Has 123 Y123) (HF:Y.Has 120 Y120) {D sa st:Sl} {N:Zr} (r:Ut h D sa st N) (bv:N.vs.length<=4096) (ba:N.as.length<=16384)
  (hA:∀ i,i<N.as.length->Yf N.vs.length (Zp N.as i).a=true/\Yf N.vs.length (Zp N.as i).b=true) (hV:∀ i,i<N.vs.length->Yf N.ts.length (Zp N.vs i).c=true)
  {R:Ze} (hr:∀ v h',Ext h h'->W9 Y h.size h' (Uq N 0 N.vs) v->R v h'):Zv Y 123 [Yy D sa st] h R:=by
 have lv:=r.rv.len;have la:=r.ra.len;have lt:=r.rt.len;refine .of_has H rfl ?_;simp [Y123,Xm.wp,Yy];refine Zn ?_;intro B h1 g1 B1 e1;have q1:(D.n:Int)<=9223372036854775807:=by omega
 have q2:8 * (D.n:Int)<=281474976710656:=by omega
 simp [B1.hc,Vq,Ui,q1,q2];intro t;have o2:Ym (h1.push (.cells (Array.replicate D.n (.int .i64 0)) t)) 1 (Sl.at h1.size D.n D.n) (Zq (List.replicate D.n 0)):=Zdh (by omega);have e2:Ext h1 (h1.push (.cells (Array.replicate D.n (.int .i64 0)) t)):=Mod.push;have k2:(h1.push (.cells (Array.replicate D.n (.int .i64 0)) t)).size=h1.size+1:=by simp
 generalize h1.push (.cells (Array.replicate D.n (.int .i64 0)) t)=h2 at *
 have B2:=B1.ext e2;simp [B2.hc,Vq,Ui,q1,q2];intro t';have o3:Ym (h2.push (.cells (Array.replicate D.n (.int .i64 0)) t')) 1 (Sl.at h2.size D.n D.n) (Zq (List.replicate D.n 0)):=Zdh (by omega);have e3:Ext h2 (h2.push (.cells (Array.replicate D.n (.int .i64 0)) t')):=Mod.push;have an:=o2.mod e3 (fun _ h=>h);have k3:(h2.push (.cells (Array.replicate D.n (.int .i64 0)) t')).size=h2.size+1:=by simp
 generalize h2.push (.cells (Array.replicate D.n (.int .i64 0)) t')=h3 at *
 have B3:=B2.ext e3;obtain ⟨J,O⟩:∃ J,J=Sl.at h1.size D.n D.n:=⟨_,rfl⟩
 obtain ⟨U,ab⟩:∃ U,U=Sl.at h2.size D.n D.n:=⟨_,rfl⟩
 have bI:J.b=h1.size:=by rw [O];rfl
 have bO:U.b=h2.size:=by rw [ab];rfl
 have nI:J.n=D.n:=by rw [O];rfl
 have nO:U.n=D.n:=by rw [ab];rfl
 have vI:(Value.slice (some ⟨h1.size,0,none⟩) D.n D.n)=J.v:=by rw [O];rfl
 have vO:(Value.slice (some ⟨h2.size,0,none⟩) D.n D.n)=U.v:=by rw [ab];rfl
 rw [<-O] at an;rw [<-ab] at o3;simp [B3.hc,vI,vO];refine Zt (Xaz (Yy D sa st) B D.n J U sa N.as h1) (fun e _=>sa.n-Zy e 11) ⟨0,_,_,_,_,_,_,_,_,_,_,_,rfl,by omega,by simpa [Zt6] using an,by simpa [Zos] using o3,e2.trans e3⟩ ?_;rintro e h4 ⟨i,v5,v6,v7,v8,ao,az,aA,aB,ap,aq,ar,rfl,hi,oI,oO,x4⟩;have B4:=B1.ext x4;have r4:=r.ext (e1.trans x4);by_cases c:i<sa.n
 ·have c':(i:Int)<sa.n:=by omega
  have w1:=Zj (i:=i) (by omega);obtain ⟨hf,ht⟩:=hA i (by omega);simp only [Yf,decide_eq_true_eq] at hf ht;obtain ⟨f,hf'⟩:∃ f:Nat,(Zp N.as i).a=f:=⟨(Zp N.as i).a.toNat,by omega⟩
  obtain ⟨g,ag⟩:∃ g:Nat,(Zp N.as i).b=g:=⟨(Zp N.as i).b.toNat,by omega⟩
  have au:=r4.ra.rd (i:=i) (by omega);have aC:=Znx (n:=D.n) (t:=g) (by omega:i<N.as.length) ag (by omega);have aD:=Zlm (n:=D.n) (t:=f) (by omega:i<N.as.length) hf' (by omega);rw [hf',ag] at au;rw [hf'] at hf;rw [ag] at ht;simp [c',Zm r4.ra.ok,au];refine Xh (vs:=#[.int .i64 f,.int .i64 g,.int .i64 (Zp N.as i).c]) rfl rfl (by simp) ?_;intro b5 aO g5 B5' aE st;simp;refine st _ ?_;intro h5 B5 e5;clear st B5' aE;have aF:(g:Int)<J.n:=by omega
  have aG:(f:Int)<U.n:=by omega
  have V:=oI.mod e5 (fun _ h=>h);have ah:=oO.mod e5 (fun _ h=>h);have cI:=V.row64.at (i:=g) (by omega)
  rw [Zj0 (by omega)] at cI;have aP:=Zyp (as:=N.as.take i) (v:=g);have aQ:=Zsc (as:=N.as.take i) (v:=f);have aR:(N.as.take i).length<=16384:=by rw [Xgp];omega
  have wI:IntKind.i64.wrap ((Qs (N.as.take i) g:Int)+1)=(Qs (N.as.take i) g:Int)+1:=Zo (by omega);have wO:IntKind.i64.wrap ((Wz (N.as.take i) f:Int)+1)=(Wz (N.as.take i) f:Int)+1:=Zo (by omega);obtain ⟨av,aS,aH,m6,_⟩:=Zdq V (k:=g) (y:=(Qs (N.as.take i) g:Int)+1) (by simp;omega);rw [aC] at av;simp [B5.hc,Zm V.ok,aF,cI,wI,Xt.open,aH];have aT:=oI.lt (by rw [O];rfl);have aI:b5≠J.b:=by omega
  have B6:=m6.blk B5 aI;have ai:=ah.mod m6 (fun _ hj=>by omega);have x6:Ext h1 (Vd h5 J.b (J.o+g) (.int .i64 ((Qs (N.as.take i) g:Int)+1))):=Mod.ext (x4.trans e5) m6 (fun j hj=>by omega);generalize Vd h5 J.b (J.o+g) (.int .i64 ((Qs (N.as.take i) g:Int)+1))=h6 at *
  have cO:=ai.row64.at (i:=f) (by omega)
  rw [Zh4 (by omega)] at cO;obtain ⟨G,aU,aJ,m7,_⟩:=Zdq ai (k:=f) (y:=(Wz (N.as.take i) f:Int)+1) (by simp;omega);rw [aD] at G;simp [B6.hc,Zm ai.ok,aG,cO,wO,Xt.open,aJ,w1];have I:=av.mod m7 (fun _ hj=>by omega);have x7:Ext h1 (Vd h6 U.b (U.o+f) (.int .i64 ((Wz (N.as.take i) f:Int)+1))):=Mod.ext x6 m7 (fun j hj=>by omega);exact ⟨⟨i+1,_,_,_,_,_,_,_,_,_,_,_,rfl,by omega,I,G,x7⟩,by simp [Zy];omega⟩
 have c':¬ (i:Int)<sa.n:=by omega
 obtain rfl:i=sa.n:=by omega
 rw [Xf7 (by omega)] at oI oO;simp [B4.hc];refine Zt (Z9o (Yy D sa st) B J U D N h4) (fun e _=>D.n-Zy e 15) ⟨0,_,_,_,_,_,_,_,_,_,_,_,rfl,by omega,by simp,Mod.refl h4⟩ ?_;clear c c' hi v5 v6 v7 v8 ao az aA aB ap aq ar;rintro e h5 ⟨i,v5,v6,v7,v8,v9,aV,aW,ao,ap,aq,ar,rfl,hi,hm,x5⟩;have B5:=B4.ext x5;have r5:=r4.ext x5;have V:=oI.mod x5 (fun _ h=>h);have ah:=oO.mod x5 (fun _ h=>h);have y5:=(e1.trans x4).trans x5;by_cases c:i<D.n
 ·have c':(i:Int)<D.n:=by omega
  have w1:=Zj (i:=i) (by omega);rw [Zlx (by omega)] at hm;have ht:=hV i (by omega);simp only [Yf,decide_eq_true_eq] at ht;obtain ⟨f,hf'⟩:∃ f:Nat,(Zp N.vs i).c=f:=⟨(Zp N.vs i).c.toNat,by omega⟩
  have aw:=r5.rv.rd (i:=i) (by omega);rw [hf'] at aw ht;simp [c',Zm r5.rv.ok,aw];refine Xh (vs:=#[.int .i64 (Zp N.vs i).a,.int .i64 (Zp N.vs i).b,.int .i64 f]) rfl rfl (by simp) ?_;intro b6 aX g6 B6' aK X;simp;refine X _ ?_;intro h6 B6 e6;clear X B6' aK;have r6:=r5.ext e6;have B56:=B5.ext e6;obtain ⟨u,aL,_,ru⟩:=r6.rt.rd (i:=f) (by omega);have aM:(f:Int)<st.n:=by omega
  simp [B56.hc,B6.hc,Zm r6.rt.ok,aM,aL];refine Xh (vs:=#[.int .i64 (Zz N.ts f).i,.int .i64 (Zz N.ts f).o,u.v]) rfl rfl (by simp) ?_;intro b7 aY g7 B7' aN X;simp;refine X _ ?_;intro h7 B7 e7;clear X B7' aN;have I:=(V.mod e6 (fun _ h=>h)).mod e7 (fun _ h=>h);have G:=(ah.mod e6 (fun _ h=>h)).mod e7 (fun _ h=>h);have cI:=I.row64.at (i:=i) (by omega)
  rw [Zj0 (by omega)] at cI;have cO:=G.row64.at (i:=i) (by omega)
  rw [Zh4 (by omega)] at cO;have Z:(i:Int)<J.n:=by omega
  have ac:(i:Int)<U.n:=by omega
  have y7:=(y5.trans e6).trans e7;have aj:Zel N i (Zp N.vs i)=if 16<Qs N.as i\/16<Wz N.as i then Vr X0 i 4
    else if (Zz N.ts f).i≠Qs N.as i\/(Zz N.ts f).o≠Wz N.as i then Vr X0 i 9 else Qg:=by
   simp [Zel,hf']
  generalize Qs N.as i=a at *
  generalize Wz N.as i=b at *
  have ae:(16<a\/16<b)->∀ {K:Ze},(∀ v h',Ext h h'->W9 Y h.size h' (Uq N 0 N.vs) v->K v h')->Zv Y 120 [.string X0,.int .i64 i,.iface (Y.tid 49) (.int .i64 4)] h7 K:=by
   intro ak K hK;refine Zfg HF (by omega) ?_;intro v h8 e8 hv _;refine hK v h8 (y7.trans e8) ?_;rw [hm,aj,if_pos ak];simp only [Vr];exact hv.mono y7.size
  have af:¬ (16<a\/16<b)->((Zz N.ts f).i≠a\/(Zz N.ts f).o≠b)->∀ {K:Ze},(∀ v h',Ext h h'->W9 Y h.size h' (Uq N 0 N.vs) v->K v h')->Zv Y 120 [.string X0,.int .i64 i,.iface (Y.tid 49) (.int .i64 9)] h7 K:=by
   intro ak ax K hK;refine Zfg HF (by omega) ?_;intro v h8 e8 hv _;refine hK v h8 (y7.trans e8) ?_;rw [hm,aj,if_neg ak,if_pos ax];simp only [Vr];exact hv.mono y7.size
  by_cases ca:16<a
  ·have M:(16:Int)<a:=by omega
   simp [Zm I.ok,Z,cI,M];refine ae (.inl ca) ?_;intro v h8 e8 hv;simp;exact hr _ _ e8 hv
  have M:¬ (16:Int)<a:=by omega
  by_cases cb:16<b
  ·have aa:(16:Int)<b:=by omega
   simp [Zm I.ok,Zm G.ok,Z,ac,cI,cO,M,aa];refine ae (.inr cb) ?_;intro v h8 e8 hv;simp;exact hr _ _ e8 hv
  have aa:¬ (16:Int)<b:=by omega
  have al:¬ (16<a\/16<b):=by omega
  by_cases cc:(Zz N.ts f).i=a;rotate_left
  ·have ad:((Zz N.ts f).i=(a:Int))=False:=by simp [cc]
   simp [B7.hc,Zm I.ok,Zm G.ok,Z,ac,cI,cO,M,aa,ad];refine af al (.inl cc) ?_;intro v h8 e8 hv;simp;exact hr _ _ e8 hv
  have ad:((Zz N.ts f).i=(a:Int))=True:=by simp [cc]
  by_cases cd:(Zz N.ts f).o=b;rotate_left
  ·have am:((Zz N.ts f).o=(b:Int))=False:=by simp [cd]
   simp [B7.hc,Zm I.ok,Zm G.ok,Z,ac,cI,cO,M,aa,ad,am];refine af al (.inr cd) ?_;intro v h8 e8 hv;simp;exact hr _ _ e8 hv
  have am:((Zz N.ts f).o=(b:Int))=True:=by simp [cd]
  simp [B7.hc,Zm I.ok,Zm G.ok,Z,ac,cI,cO,M,aa,ad,am,w1];refine ⟨⟨i+1,_,_,_,_,_,_,_,_,_,_,_,rfl,by omega,?_,(x5.trans e6).trans e7⟩,by simp [Zy];omega⟩;have ay:Zel N i (Zp N.vs i)=Qg:=by
   rw [aj,if_neg al];simp [cc,cd]
  rw [hm,ay,if_neg (by simp [Qg])]
 have c':¬ (i:Int)<D.n:=by omega
 rw [Xgs (by omega),Uq] at hm;simp [c'];refine hr _ _ y5 ?_;rw [hm];exact W9.ok
def Xdy (v0:Value) (B:Nat) (st:Sl) (ts:List Tab) (h0:Zk) (e:Zc) (h':Zk):Prop :=
 ∃ (i:Nat) (v3 v4 v5 v6 v7 v8 v9 v10 v11 v12 v16 v17 v18 v19 v20 v21 v22 v23 v24 v25 v26 v27 v28 v29:Value),
  e=[v0,.pointer (some ⟨B,0,none⟩),.nilIface,v3,v4,v5,v6,v7,v8,v9,v10,v11,v12,st.v,.int .i64 st.n,.int .i64 i,v16,v17,v18,v19,v20,v21,v22,v23,v24,v25,v26,v27,v28,v29]/\i<=st.n/\Ql 0 ts=Ql i (ts.drop i)/\Ext h0 h'
def Xe0 (v0:Value) (B nt:Nat) (sv:Sl) (vs:List Xe) (h0:Zk) (e:Zc) (h':Zk):Prop :=
 ∃ (i:Nat) (v3 v4 v5 v6 v7 v8 v9 v10 v11 v12 v13 v14 v15 v16 v17 v21 v22 v23 v24 v25 v26 v27 v28 v29:Value),
  e=[v0,.pointer (some ⟨B,0,none⟩),.nilIface,v3,v4,v5,v6,v7,v8,v9,v10,v11,v12,v13,v14,v15,v16,v17,sv.v,.int .i64 sv.n,.int .i64 i,v21,v22,v23,v24,v25,v26,v27,v28,v29]/\i<=sv.n/\Un nt 0 vs=Un nt i (vs.drop i)/\(∀ j,j<i->Yf nt (Zp vs j).c=true)/\Ext h0 h'
def Xfe (v0:Value) (B nv:Nat) (sa:Sl) (as:List Xe) (h0:Zk) (e:Zc) (h':Zk):Prop :=
 ∃ (i:Nat) (v3 v4 v5 v6 v7 v8 v9 v10 v11 v12 v13 v14 v15 v16 v17 v18 v19 v20 v21 v22 v23 v27 v28 v29:Value),
  e=[v0,.pointer (some ⟨B,0,none⟩),.nilIface,v3,v4,v5,v6,v7,v8,v9,v10,v11,v12,v13,v14,v15,v16,v17,v18,v19,v20,v21,v22,v23,sa.v,.int .i64 sa.n,.int .i64 i,v27,v28,v29]/\i<=sa.n/\Z0 nv 0 as=Z0 nv i (as.drop i)/\(∀ j,j<i->Yf nv (Zp as j).a=true/\Yf nv (Zp as j).b=true)/\Ext h0 h'
structure Z1o (Y:Sys):Prop where
 Check:Y.Has 99 Y99
 fault:Y.Has 120 Y120
 meet:Y.Has 123 Y123
 far:Y.Has 121 Y121
 vertex:Y.Has 122 Y122
theorem Zef {a b:Wr} (h:a.2≠0):orW a b=a:=if_pos h
theorem Zee {a b:Wr} (h:a.2=0):orW a b=b:=if_neg (by simp [h])
theorem Zsn (NF:Z1o Y) (T:TurnCk Y) {O U V:Sl} {N:Zr} (r:Ut h O U V N)
  {R:Ze} (Z:∀ v h',Ext h h'->W9 Y h.size h' (Uc N) v->R v h'):Zv Y 99 [Yy O U V] h R:=by
 have lv:=r.rv.len;have la:=r.ra.len;have lt:=r.rt.len;refine .of_has NF.Check rfl ?_;simp [Y99,Xm.wp,Yy];refine Zn ?_;intro B h1 g1 B1 e1;have H:∀ {h2:Zk} {p:ByteArray} {k e:Int} {K:Ze},Ext h h2->e≠0->Uc N=Vr p k e->(∀ v h',Ext h h'->W9 Y h.size h' (Uc N) v->K v h') ->
   Zv Y 120 [.string p,.int .i64 k,.iface (Y.tid 49) (.int .i64 e)] h2 K:=by
  intro h2 p k e K x he hw hK;refine Zfg NF.fault he ?_;intro v h3 e3 hv _;refine hK v h3 (x.trans e3) ?_;rw [hw];exact hv.mono x.size
 simp [B1.hc];by_cases c1:4096<O.n
 ·have aa:(4096:Int)<O.n:=by omega
  have hw:Uc N=Vr Zq9 0 4:=by
   unfold Uc;rw [Zef] <;> simp [Zda,lv,c1,Vr]
  simp [aa];refine H e1 (by omega) hw ?_;intro v h2 x2 hv;simp;exact Z _ _ x2 hv
 have aa:¬ (4096:Int)<O.n:=by omega
 by_cases c2:16384<U.n
 ·have ac:(16384:Int)<U.n:=by omega
  have hw:Uc N=Vr Zq9 1 4:=by
   unfold Uc;rw [Zef] <;> simp [Zda,lv,la,c1,c2,Vr]
  simp [aa,ac];refine H e1 (by omega) hw ?_;intro v h2 x2 hv;simp;exact Z _ _ x2 hv
 have ac:¬ (16384:Int)<U.n:=by omega
 by_cases c3:256<V.n
 ·have aq:(256:Int)<V.n:=by omega
  have hw:Uc N=Vr Zq9 2 4:=by
   unfold Uc;rw [Zef] <;> simp [Zda,lv,la,lt,c1,c2,c3,Vr]
  simp [aa,ac,aq];refine H e1 (by omega) hw ?_;intro v h2 x2 hv;simp;exact Z _ _ x2 hv
 have aq:¬ (256:Int)<V.n:=by omega
 have ay:Uc N=orW (Ql 0 N.ts) (orW (Un N.ts.length 0 N.vs) (orW (Z0 N.vs.length 0 N.as) (Uq N 0 N.vs))):=by
  unfold Uc;rw [Zee];simp [Zda,lv,la,lt,c1,c2,c3,Qg]
 simp [aa,ac,aq];refine Zt (Xdy (Yy O U V) B V N.ts h1) (fun e _=>V.n-Zy e 15) ⟨0,_,_,_,_,_,_,_,_,_,_,_,_,_,_,_,_,_,_,_,_,_,_,_,_,rfl,by omega,by simp,Mod.refl h1⟩ ?_;rintro e h2 ⟨i,v3,v4,v5,v6,v7,v8,v9,ad,ae,af,ag,ah,az,aA,aB,ai,aj,ak,ar,au,av,al,am,an,rfl,hi,G,x2⟩;have y2:=e1.trans x2;have B2:=B1.ext x2;by_cases c:i<V.n
 ·have c':(i:Int)<V.n:=by omega
  have w1:=Zj (i:=i) (by omega);rw [Zjq (by omega)] at G;obtain ⟨q,aH,_,rq⟩:=(r.ext y2).rt.rd (i:=i) (by omega);simp [c',Zm (r.ext y2).rt.ok,aH];refine Xh (vs:=#[.int .i64 (Zz N.ts i).i,.int .i64 (Zz N.ts i).o,q.v]) rfl rfl (by simp) ?_;intro b3 aP g3 B3' aI M;simp;refine M _ ?_;intro h3 B3 e3;clear M B3' aI;have y3:=y2.trans e3;simp [Yj B3];refine Zkx T (rq.ext e3) ?_;intro v4 h4 e4 ao;have X:=y3.trans e4;rw [show Us (Zz N.ts i).i (Zz N.ts i).o (Zz N.ts i).cs=Z3 (Zz N.ts i) from rfl] at ao;by_cases h0:(Z3 (Zz N.ts i)).2=0
  ·have:=ao.here.nil h0;subst this;rw [if_neg (by simp [h0])] at G;simp [w1];exact ⟨⟨i+1,_,_,_,_,_,_,_,_,_,_,_,_,_,_,_,_,_,_,_,_,_,_,_,_,rfl,by omega,G,(x2.trans e3).trans e4⟩,by simp [Zy];omega⟩
  rw [if_pos h0] at G;have ap:(Wx Zo0 i (Z3 (Zz N.ts i))).2≠0:=by unfold Wx;rw [if_neg h0];exact h0
  have hw:Uc N=Wx Zo0 i (Z3 (Zz N.ts i)):=by rw [ay,G,Zef ap]
  obtain ⟨t4,u4,rfl⟩:=ao.here.iface h0;simp;refine Zpt NF.fault (lo:=h.size) (by have:=X.size;omega) (ao.mono (by have:=y3.size;omega)) h0 ?_;intro v5 h5 e5 J _;simp;refine Z _ _ (X.trans e5) ?_;rw [hw];exact J
 have c':¬ (i:Int)<V.n:=by omega
 rw [Xgs (by omega),Ql] at G;have aC:Uc N=orW (Un N.ts.length 0 N.vs) (orW (Z0 N.vs.length 0 N.as) (Uq N 0 N.vs)):=by rw [ay,G,Zee rfl]
 simp [c',B2.hc];refine Zt (Xe0 (Yy O U V) B N.ts.length O N.vs h2) (fun e _=>O.n-Zy e 20) ⟨0,_,_,_,_,_,_,_,_,_,_,_,_,_,_,_,_,_,_,_,_,_,_,_,_,rfl,by omega,by simp,fun j hj=>by omega,Mod.refl h2⟩ ?_;clear c c' hi G v3 v4 v5 v6 v7 v8 v9 ad ae af ag ah az aA aB ai aj ak ar au av al am an;rintro e h3 ⟨i,v3,v4,v5,v6,v7,v8,v9,ad,ae,af,aD,aE,aF,ag,ah,ai,aj,ak,ar,au,av,al,am,an,rfl,hi,G,I,x3⟩;have y3:=y2.trans x3;have B3:=B2.ext x3;by_cases c:i<O.n
 ·have c':(i:Int)<O.n:=by omega
  have w1:=Zj (i:=i) (by omega);rw [Zjc (by omega)] at G;have aJ:=(r.ext y3).rv.rd (i:=i) (by omega);simp [c',Zm (r.ext y3).rv.ok,aJ];refine Xh (vs:=#[.int .i64 (Zp N.vs i).a,.int .i64 (Zp N.vs i).b,.int .i64 (Zp N.vs i).c]) rfl rfl (by simp) ?_;intro b4 aQ g4 B4' aK M;simp;refine M _ ?_;intro h4 B4 e4;clear M B4' aK;have X:=y3.trans e4;have B14:=B3.ext e4;have D:(Ur N.ts.length i (Zp N.vs i)).2≠0->Uc N=Ur N.ts.length i (Zp N.vs i):=by
   intro ab;rw [if_pos ab] at G;rw [aC,G,Zef ab]
  simp [B4.hc];refine Zre NF.far ?_;by_cases f1:Zbx (Zp N.vs i).a=true
  ·have hv:Ur N.ts.length i (Zp N.vs i)=Vr X0 i 1:=by simp [Ur,f1]
   simp [f1];refine H X (by omega) (by rw [D (by rw [hv];simp [Vr]),hv]) ?_;intro v h5 x5 J;simp;exact Z _ _ x5 J
  simp [f1,B4.hc];refine Zre NF.far ?_;by_cases f2:Zbx (Zp N.vs i).b=true
  ·have hv:Ur N.ts.length i (Zp N.vs i)=Vr X0 i 1:=by simp [Ur,f2]
   simp [f2];refine H X (by omega) (by rw [D (by rw [hv];simp [Vr]),hv]) ?_;intro v h5 x5 J;simp;exact Z _ _ x5 J
  have aw:Ur N.ts.length i (Zp N.vs i)=if Yf N.ts.length (Zp N.vs i).c then Qg else Vr X0 i 5:=by simp [Ur,f1,f2]
  by_cases f3:(Zp N.vs i).c<0
  ·have hv:Ur N.ts.length i (Zp N.vs i)=Vr X0 i 5:=by
    rw [aw,if_neg];simp [Yf];omega
   simp [f2,B4.hc,f3];refine H X (by omega) (by rw [D (by rw [hv];simp [Vr]),hv]) ?_;intro v h5 x5 J;simp;exact Z _ _ x5 J
  by_cases f4:(V.n:Int)<=(Zp N.vs i).c
  ·have hv:Ur N.ts.length i (Zp N.vs i)=Vr X0 i 5:=by
    rw [aw,if_neg];simp [Yf];omega
   simp [f2,B4.hc,B14.hc,f3,f4];refine H X (by omega) (by rw [D (by rw [hv];simp [Vr]),hv]) ?_;intro v h5 x5 J;simp;exact Z _ _ x5 J
  have aG:Yf N.ts.length (Zp N.vs i).c=true:=by simp [Yf];omega
  have hv:Ur N.ts.length i (Zp N.vs i)=Qg:=by rw [aw,if_pos aG]
  rw [hv,if_neg (by simp [Qg])] at G;simp [f2,B4.hc,B14.hc,f3,f4,w1];refine ⟨⟨i+1,_,_,_,_,_,_,_,_,_,_,_,_,_,_,_,_,_,_,_,_,_,_,_,_,rfl,by omega,G,fun j hj=>?_,x3.trans e4⟩,by simp [Zy];omega⟩;rcases Xf0 j i with q | q
  ·exact I j q
  obtain rfl:j=i:=by omega
  exact aG
 have c':¬ (i:Int)<O.n:=by omega
 obtain rfl:i=O.n:=by omega
 rw [Xgs (by omega),Un] at G;have ap:Uc N=orW (Z0 N.vs.length 0 N.as) (Uq N 0 N.vs):=by rw [aC,G,Zee rfl]
 have hV:∀ i,i<N.vs.length->Yf N.ts.length (Zp N.vs i).c=true:=fun i hi=>I i (by omega);simp [B3.hc];refine Zt (Xfe (Yy O U V) B N.vs.length U N.as h3) (fun e _=>U.n-Zy e 26) ⟨0,_,_,_,_,_,_,_,_,_,_,_,_,_,_,_,_,_,_,_,_,_,_,_,_,rfl,by omega,by simp,fun j hj=>by omega,Mod.refl h3⟩ ?_;clear c c' hi G I v3 v4 v5 v6 v7 v8 v9 ad ae af aD aE aF ag ah ai aj ak ar au av al am an;rintro e h4 ⟨i,v3,v4,v5,v6,v7,v8,v9,ad,ae,af,aD,aE,aF,ag,ah,az,aA,aB,ai,aj,ak,al,am,an,rfl,hi,G,I,x4⟩;have X:=y3.trans x4;have B4:=B3.ext x4;by_cases c:i<U.n
 ·have c':(i:Int)<U.n:=by omega
  have w1:=Zj (i:=i) (by omega);rw [Zml (by omega)] at G;have aL:=(r.ext X).ra.rd (i:=i) (by omega);simp [c',Zm (r.ext X).ra.ok,aL];refine Xh (vs:=#[.int .i64 (Zp N.as i).a,.int .i64 (Zp N.as i).b,.int .i64 (Zp N.as i).c]) rfl rfl (by simp) ?_;intro b5 aR g5 B5' aM M;simp;refine M _ ?_;intro h5 B5 e5;clear M B5' aM;have y5:=X.trans e5;have B15:=B4.ext e5;have D:(Q3 N.vs.length i (Zp N.as i)).2≠0->Uc N=Q3 N.vs.length i (Zp N.as i):=by
   intro ab;rw [if_pos ab] at G;rw [ap,G,Zef ab]
  simp [Yj B15,B5.hc];refine Zjt NF.vertex lv ?_;intro h6 e6;have y6:=y5.trans e6;have B16:=B15.ext e6;have B6:=B5.ext e6;by_cases f1:Yf N.vs.length (Zp N.as i).a=true;rotate_left
  ·have hv:Q3 N.vs.length i (Zp N.as i)=Vr Zm0 i 5:=by simp [Q3,f1]
   simp [f1];refine H y6 (by omega) (by rw [D (by rw [hv];simp [Vr]),hv]) ?_;intro v h7 x7 aN;simp;exact Z _ _ x7 aN
  simp [f1,Yj B16,B6.hc];refine Zjt NF.vertex lv ?_;intro h7 e7;have y7:=y6.trans e7;have B7:=B6.ext e7;by_cases f2:Yf N.vs.length (Zp N.as i).b=true;rotate_left
  ·have hv:Q3 N.vs.length i (Zp N.as i)=Vr Zm0 i 5:=by simp [Q3,f1,f2]
   simp [f2];refine H y7 (by omega) (by rw [D (by rw [hv];simp [Vr]),hv]) ?_;intro v h8 x8 ax;simp;exact Z _ _ x8 ax
  simp [f2,B7.hc];refine Q0 T.Weight ?_;by_cases f3:Yt (Zp N.as i).c=true;rotate_left
  ·have hv:Q3 N.vs.length i (Zp N.as i)=Vr Zm0 i 8:=by simp [Q3,f1,f2,f3]
   simp [f3];refine H y7 (by omega) (by rw [D (by rw [hv];simp [Vr]),hv]) ?_;intro v h8 x8 ax;simp;exact Z _ _ x8 ax
  have hv:Q3 N.vs.length i (Zp N.as i)=Qg:=by simp [Q3,f1,f2,f3]
  rw [hv,if_neg (by simp [Qg])] at G;simp [f3,w1];refine ⟨⟨i+1,_,_,_,_,_,_,_,_,_,_,_,_,_,_,_,_,_,_,_,_,_,_,_,_,rfl,by omega,G,fun j hj=>?_,((x4.trans e5).trans e6).trans e7⟩,by simp [Zy];omega⟩;rcases Xf0 j i with q | q
  ·exact I j q
  obtain rfl:j=i:=by omega
  exact ⟨f1,f2⟩
 have c':¬ (i:Int)<U.n:=by omega
 obtain rfl:i=U.n:=by omega
 rw [Xgs (by omega),Z0] at G;have aO:Uc N=Uq N 0 N.vs:=by rw [ap,G,Zee rfl]
 simp [Yj B4];refine Zyx NF.meet NF.fault (r.ext X) (by omega) (by omega) (fun i hi=>I i (by omega)) hV ?_;intro v h5 e5 hv;simp;refine Z _ _ (X.trans e5) ?_;rw [aO];exact hv.mono X.size
def Yg:Nat->Zb->Int->Int
 | _,[],_=>-1
 | k,x::r,a=>if x=a then k else Yg (k+1) r a
theorem Zi8 {l:Zb} {i:Nat} {a:Int} (r:i<l.length):Yg i (l.drop i) a=if Zl l i=a then (i:Int) else Yg (i+1) (l.drop (i+1)) a:=by
 rw [Xhc r,Yg];simp [Zl,r]
theorem Zd8 (H:Y.Has 130 Y130) {I r J:Sl} {N:Zr} (M:N.as.length=r.n) {v:Int} {R:Ze} (D:∀ h',Ext h h'->R (.bool (Yf N.as.length v)) h'):Zv Y 130 [Yy I r J,.int .i64 v] h R:=by
 refine .of_has H rfl ?_;simp [Y130,Xm.wp,Yy];refine Zn ?_;intro b h1 O B1 G;rw [M] at D;by_cases c:0<=v
 ·have:Yf r.n v=decide (v<r.n):=by simp [Yf,c]
  rw [this] at D;simp [c,B1.hc];exact D _ G
 have:Yf r.n v=false:=by simp [Yf,c]
 rw [this] at D;simp [c];exact D _ G
def Xab (s:Sl) (cs:Zb) (a:Int) (h0:Zk) (e:Zc) (h':Zk):Prop :=
 ∃ (i:Nat) (v4 v5:Value),e=[s.v,.int .i64 a,.int .i64 0,.int .i64 i,v4,v5]/\i<=s.n/\Yg 0 cs a=Yg i (cs.drop i) a/\h'=h0
theorem Zi7 (H:Y.Has 131 Y131) {s:Sl} {cs:Zb} (r:Yd h s cs) (G:s.n<=1000000) {a:Int} {R:Ze} (D:R (.int .i64 (Yg 0 cs a)) h):Zv Y 131 [s.v,.int .i64 a] h R:=by
 have J:=r.len;refine .of_has H rfl ?_;simp [Y131,Xm.wp];refine Zt (Xab s cs a h) (fun e _=>s.n-Zy e 3) ⟨0,_,_,rfl,by omega,by simp,rfl⟩ ?_;rintro e h1 ⟨i,M,O,rfl,U,hp,rfl⟩;by_cases c:i<s.n
 ·have c':(i:Int)<s.n:=by omega
  have I:=Zj (i:=i) (by omega);rw [Zi8 (by omega)] at hp;by_cases q:Zl cs i=a
  ·have q':(Zl cs i=a)=True:=by simp [q]
   rw [if_pos q] at hp;rw [hp] at D;simp [c',Zm r.ok,r.at c,q'];exact D
  rw [if_neg q] at hp;simp [c',Zm r.ok,r.at c,q,I];exact ⟨⟨i+1,_,_,rfl,by omega,hp,rfl⟩,by simp [Zy];omega⟩
 have c':¬ (i:Int)<s.n:=by omega
 rw [Xgs (by omega),Yg] at hp;rw [hp] at D;simp [c'];exact D
def Qt (ps:List (ByteArray × Int)):Zc:=ps.flatMap fun p=>[.string p.1,.int .i64 p.2]
theorem Zdx {ps:List (ByteArray × Int)}:(Qt ps).length=ps.length * 2:=by
 induction ps with
 | nil=>rfl
 | cons t r ih=>simp only [Qt,Xic,Xf9,Xg5,Xhy] at ih ⊢;omega
theorem Zmi {ps:List (ByteArray × Int)}:∀ {i:Nat} {x:ByteArray × Int},ps[i]? = some x->(Qt ps)[i * 2]? = some (.string x.1)/\(Qt ps)[i * 2+1]? = some (.int .i64 x.2):=by
 induction ps with
 | nil=>intro i x hx;simp at hx
 | cons t r ih =>
  intro i x hx;have e:Qt (t::r) = .string t.1 :: .int .i64 t.2::Qt r:=rfl;rw [e]
  cases i with
  | zero=>simp at hx;subst hx;simp
  | succ i =>
   have:=ih (i:=i) (x:=x) (by simpa using hx);have D:(i+1) * 2=i * 2+1+1:=by omega
   have G:(i+1) * 2+1=i * 2+1+1+1:=by omega
   rw [G,D];simp only [Xjn];exact this
theorem Zcw.rd {s:Sl} {ps:List (ByteArray × Int)} (p:Zcw h s ps):rd h s.b s.o (ps.length * 2)=some (Qt ps):=by
 have:=Zba (h:=h) (b:=s.b) (l:=Qt ps) (o:=s.o) fun j v r=>by
  have I:j<ps.length * 2:=by
   have:=(List.getElem?_eq_some_iff.1 r).1;rwa [Zdx] at this
  have hx:ps[j / 2]? = some ps[j / 2]:=Xg6 (by omega);obtain ⟨D,G⟩:=Zmi hx;obtain ⟨H,k1⟩:=p.p _ _ hx;rcases Nat.mod_two_eq_zero_or_one j with m | m
  ·have e:j=j / 2 * 2:=by omega
   rw [<-e] at D H;rw [r] at D
   cases D
   exact H
  have e:j=j / 2 * 2+1:=by omega
  rw [<-e] at G;rw [r] at G
  cases G
  rw [show s.o+j=s.o+j / 2 * 2+1 by omega];exact k1
 rwa [Zdx] at this
theorem Ym.partsAt {s:Sl} {ps:List (ByteArray × Int)} (o:Ym h 2 s (Qt ps)):Zcw h s ps:=by
 have r:=o.1;rw [Zdx] at r;refine ⟨o.ok,by omega,fun i x hx=>?_⟩;obtain ⟨a,b⟩:=Zmi hx;exact ⟨o.cell a,o.cell b⟩
theorem Ztt {s:Sl} {ps:List (ByteArray × Int)} (p:Zcw h s ps):Vl h 2 s.n s.v=some (Qt ps):=by
 have G:=p.rd;rw [p.len] at G;unfold Sl.v
 cases r:s.nl with
 | true =>
  have:ps=[]:=Xgw (by rw [p.len];exact (p.ok.nil r).1);subst this
  rfl
 | false =>
  cases D:s.sp with
  | none=>simp only [Xga,if_false,Vl];exact G
  | some q =>
   have h0:s.n=0:=by
    have:=p.ok.spot.resolve_left (by rw [D];simp);have:=p.ok.le;omega
   have:ps=[]:=Xgw (by rw [p.len];exact h0);subst this;simp [Vl,h0,Qt]
theorem Zv8 {ps:List (ByteArray × Int)}:∀ v∈Qt ps,v.oneCell'=true:=by
 intro v hv;simp only [Qt,List.mem_flatMap,Xh2,Xid,or_false] at hv;obtain ⟨q,_,rfl | rfl⟩:=hv <;> rfl
theorem Zqw (HW:Y.Has 118 Y118) {p:ByteArray} {a:Int} {w:Wr} {v:Value} (hv:Zgp h w.1 w.2 v) (h0:w.2≠0) (O:w.1.length<=4) {R:Ze}
  (Z:∀ h' U,Ext h h'->FWr h.size h' (Wx p a w) U->R U h'):Zv Y 118 [.string p,.int .i64 a,v] h R:=by
 obtain ⟨s,rfl,hp⟩:=hv;have hn:=hp.len;refine .of_has HW rfl ?_;simp [Y118,Xm.wp];refine Zn ?_;intro b h1 g1 B1 G;simp;refine Zn ?_;intro rb r g2 B2 e2;have B12:=B1.ext e2;have z1:=G.size;have lB:=B2.lt;simp [B12.hc,h0,Zfk];intro t;have e3:Ext r (r.push (.cells #[.string p,.int .i64 a] t)):=Mod.push;have B13:=B12.ext e3;have p3:=((hp.ext G).ext e2).ext e3;have o3:Ym (r.push (.cells #[.string p,.int .i64 a] t)) 2 (Sl.at r.size 1 1) (Qt [(p,a)]) :=
  ⟨by simp [Qt],.inr ⟨rfl,rfl,rfl,Xfy _,by simp,_,Xb.new,by simp,by simp [Qt]⟩⟩
 simp [B13.hc];rw [<-Sl.at_v];refine Vg o3 (m:=s.n) (nw:=Qt w.1) Xf (Ztt p3) (by rw [Zdx,hn]) Zv8 rfl (by simp;omega) (by simp;omega) ?_;intro H h4 o4 aa m4 I;have J:Ext r h4:=Mod.ext e3 m4 (fun j D=>by have:=D.2;simp at this;omega);have B14:=B12.ext J;have B24:=B2.ext J;simp [B14.hc];refine Zs B24 rfl rfl (by simp) ?_;intro h5 B5 V;simp;refine Xj rfl B5 rfl ?_;have ab:H.nl=false/\r.size<=H.b:=by
  rcases I with ⟨X,M⟩ | ⟨X,M⟩
  ·rw [X,M];exact ⟨rfl,Xfy _⟩
  exact ⟨M,by have:=e3.size;omega⟩
 have o5:=o4.mod V (fun _ D=>by omega);refine Z h5 _ (Mod.ext ((G.trans e2).trans J) V (fun j D=>by omega)) (fun h6 m6=>?_);have o6:=o5.mod m6 (fun _ D=>by omega);unfold Wx;rw [if_neg h0];refine ⟨H,rfl,Ym.partsAt (ps:=(p,a)::w.1) ?_⟩;simpa [Qt] using o6
end
end Go.Rm
