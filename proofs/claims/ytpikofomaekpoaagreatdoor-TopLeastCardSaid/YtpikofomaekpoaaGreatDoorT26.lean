import Derived.Test.YtpikofomaekpoaaGreatDoorT25
/- Parts. -/
set_option linter.unusedSimpArgs false
set_option linter.unusedVariables false
namespace Go.Rm
structure Ed where
 u:Nat
 v:Nat
 x:Int
deriving DecidableEq
def bI (b:Bool):Int:=if b then 1 else 0
def Zz8:List Ed->Nat->Int
 | [],_=>0
 | e::r,w=>(if e.u=w then e.x else 0)-(if e.v=w then e.x else 0)+Zz8 r w
def Xeh (L:List Ed) (a b:Nat):Prop:=a≠b/\∃ e∈L,(e.u=a/\e.v=b/\e.x≠1)\/(e.v=a/\e.u=b/\e.x≠-1)
inductive Reach (L:List Ed) (A:Zf):Zf
 | start {v:Nat}:A v->Reach L A v
 | step {v w:Nat}:Reach L A v->Xeh L v w->Reach L A w
end Go.Rm

namespace Go.Rm
def Zdn (l:List Bool) (i:Nat):Bool:=l.getD i false
section
variable {Y:Sys} {h h':Zk}
theorem Zls {K:Ze} {n:Nat} {m:Int} (G:n<=1000000) (r:m=n) (D:∀ (b:Nat) (h':Zk),h.size<=b->Ym h' 1 (Sl.at b n n) (List.replicate n (.bool false))->Ext h h'->b<h'.size->K (.slice (some ⟨b,0,none⟩) n n) h') :
  Ef.wp h K (.mkslice 1 1 #[.bool false]) [.int .i64 m,.int .i64 m]:=by
 subst r;rw [Vq];refine ⟨by omega,by omega,by omega,by omega,fun t=>?_⟩;simp only [Xf1,Xgd,Ui];refine D h.size _ (Xfy _) ⟨by simp,.inr ⟨rfl,rfl,rfl,Xfy _,by simp;omega,_,Xb.new,by simp,by simp⟩⟩ Mod.push (by simp)
theorem Zir {K:Ze} {b n m k:Nat} {cells:Zc} {v:Value} (o:Ym h 1 (Sl.at b n m) cells) (r:k<cells.length)
  (D:∀ h',Ym h' 1 (Sl.at b n m) (cells.set k v)->Mod (fun j=>j=b) h h'->K undef h'):Xt h b k v K:=by
 have:=stN (v:=v) (K:=K) o r D;simpa using this
theorem Zqk {l:Zb} {i:Nat} (r:i<l.length):Zl l i=l[i]:=by simp [Zl,r]
theorem Vb {b n m v sz:Nat} (r:m<=9223372036854775807) (hv:v<n) (D:n<=m):Yo.sem Y h (.idxa sz) [.slice (some ⟨b,0,none⟩) n m,.int .i64 v]=some (.pointer (some ⟨b,v * sz,none⟩)):=by
 have:=Zm (Y:=Y) (h:=h) (s:=Sl.at b n m) (sz:=sz) (k:=.i64) (i:=v) ⟨fun h=>(by cases h),(by simp;omega),.inl rfl⟩ (by omega) (by simp;omega);simpa using this
theorem Mod.toExtF {p:Nat} {h0 h h':Zk} (x:Ext h0 h) (m:Mod (fun j=>j=p) h h') (hp:h0.size<=p):Ext h0 h':=Mod.ext x m (fun j r=>by omega)
def Vt (l:List Bool):Zc:=l.map fun x=>Value.bool x
theorem Zgx {l:List Bool}:(Vt l).length=l.length:=by simp [Vt]
theorem Zeh (O:Zeb Y) {op:Nat} {N:Zr} {L:Za} (v:Vw h op N L) {R:Ze} (r:R (Zg L.length) h):Zv Y 316 [Zh op] h R:=by
 obtain ⟨q,f,t,g,H,z,B,D,I,_,_⟩:=v;refine .of_has O.Levels rfl ?_;have G:=D.len;rw [G] at r;simp [Y316,Xm.wp,B.hc];exact r
theorem Zaf (O:Zeb Y) {op:Nat} {N:Zr} {L:Za} (v:Vw h op N L) {i:Nat} (M:i<L.length) (hb:L.length<=1000) {R:Ze} (G:R (Zg (Yi L i)) h):Zv Y 317 [Zh op,Zg ((i:Int)+1)] h R:=by
 obtain ⟨q,f,t,g,U,z,B,V,r,_,_⟩:=v;refine .of_has O.Cells rfl ?_;have lg:=r.len;obtain ⟨u,hu,H⟩:=Zho r (i:=i) (by omega);have hu:=hu h (Mod.refl _);have X:IntKind.i64.wrap ((i:Int)+1-1)=(i:Int):=by rw [Zo (by omega)];omega
 have w0:IntKind.i64.wrap (i:Int)=(i:Int):=Zo (by omega);have c1:¬ (i:Int)+1<1:=by omega
 have I:¬ (g.n:Int)<(i:Int)+1:=by omega
 have J:(i:Int)<g.n:=by omega
 have D:=H.len;simp [Y317,Xm.wp,B.hc,c1,I,w0,Zm r.ok,J,hu,D];exact G
theorem Zc4 (O:Zeb Y) {op:Nat} {N:Zr} {L:Za} (v:Vw h op N L) (r:L.length<=1000) (D:∀ i,i<L.length->(Ya L i).length<=1000000) {R:Ze}
  (X:∀ h' H,Ext h h'->(∀ k,Mod (fun j=>j<h.size) h' k->Qn k H L)->R (Q1 H) h'):Zv Y 318 [Zh op] h R:=by
 obtain ⟨q,f,t,g,st,z,B,M,rg,_,_⟩:=v;refine .of_has O.Part rfl ?_;simp [Y318,Xm.wp];refine Zn ?_;intro C h1 g1 C1 I;have C1:Xb h1 C #[Zi]:=C1;have B1:=B.ext I;have J:rd h1 op 0 1=some [q.v]:=Zba (l:=[q.v]) fun i v G=>by
  rw [B1.hc]
  match i,G with
  | 0,G=>simpa using G
  | i+1,G=>simp at G
 simp [J];rw [show (Value.agg #[q.v])=Q1 q from rfl];refine Zod O.T (M.ext I) (by rw [<-M.len];exact r) D ?_;intro h2 H e2 Z;have lC:=C1.lt;simp [Q1];refine Zs (C1.ext e2) rfl rfl (by simp) ?_;intro h3 C3 U;simp;refine Xj rfl C3 rfl ?_;exact X h3 H (Mod.ext (I.trans e2) U (fun j V=>by omega)) (fun k mk=>Z k ((U.mono fun j _ V=>by omega).trans (mk.mono fun j _ V=>by omega)))
structure Z13 (Y:Sys):Prop where
 O:Zeb Y
 Made:Y.Has 307 Y307
 MF:Zyd Y
 CT:Z2o Y
theorem Zs0 (X:Z13 Y) {G H I s:Sl} {N:Zr} {L:Za} (r:Ut h G H I N) (q:Qn h s L) (hf:Zf1 N=true) (U:Yl N) (J:Yv N.vs.length L) {R:Ze}
  (hr:∀ h' op,Ext h h'->h.size<=op->(∀ k,Mod (fun j=>j<h.size) h' k->Vw k op N L)->R (Zh op) h'):Zv Y 307 [Yy G H I,Q1 s] h R:=by
 refine .of_has X.Made rfl ?_;have lL:=q.len;have bL:=J.bL;have bN:=J.bn;have D:∀ i,i<L.length->(Ya L i).length<=1000000:=fun i hi=>by
  have:=(Xs J hi).1;omega
 simp [Y307,Xm.wp,Yy,Q1];refine Zn ?_;intro A h1 g1 A1 V;simp;refine Zn ?_;intro B h2 g2 B2 e2;have Z:=V.trans e2;have z1:=V.size;have z2:=e2.size;simp [Yj (A1.ext e2)];rw [show (Value.agg #[G.v,H.v,I.v])=Yy G H I from rfl];refine Znn X.MF (r.ext Z) hf U ?_;intro h3 p S e3 g hS;have x3:=Z.trans e3;have B3:=B2.ext e3;simp [Yj B3];rw [show (Value.agg #[s.v])=Q1 s from rfl];refine Zrs X.CT (q.ext x3) (by omega) D ?_;intro h4 s' M q4 _;have x4:=x3.trans M;have z3:=e3.size;have z4:=M.size;simp;refine Zpd X.O (g.ext M) q4 U J ?_;intro h5 op e5 aa fo;simp;exact hr h5 op (x4.trans e5) (by omega) (fun k mk=>fo k (mk.mono fun j _ hj=>by omega))
structure Zgi (Y:Sys):Prop where
 O:Zeb Y
 Size:Y.Has 359 Y359
 has:Y.Has 399 Y399
 At:Y.Has 361 Y361
 Gate:Y.Has 395 Y395
def enV (N:Zr) (L:Za) (k c:Nat) (i o:Int):Int :=
 if 0<=i/\i<((Zx N L k false c).length:Int)/\0<=o/\o<((Zx N L k true c).length:Int) then (levelS N L k+cellS N L k c:Nat)+i * (Zx N L k true c).length+o else -1
theorem Zcy (X:Zgi Y) {op:Nat} {N:Zr} {L:Za} (v:Vw h op N L) {R:Ze} (r:R (Zg (levelS N L L.length:Nat)) h):Zv Y 359 [Zh op] h R:=by
 obtain ⟨q,f,t,g,D,z,B,G,H,_,_,_,hz⟩:=v;refine .of_has X.Size rfl ?_;simp [Y359,Xm.wp,B.hc];rw [hz];exact r
theorem Zhv (X:Zgi Y) {op:Nat} {N:Zr} {L:Za} (v:Vw h op N L) {i:Nat} (D:i<L.length) (hb:L.length<=1000) {c:Int} {R:Ze} (r:R (.bool (decide (0<=c/\c<Yi L i))) h) :
  Zv Y 399 [Zh op,Zg ((i:Int)+1),Zg c] h R:=by
 refine .of_has X.has rfl ?_;simp [Y399,Xm.wp];by_cases a:0<=c
 ·have a':¬ c<0:=by omega
  simp [a];refine Zaf X.O v D hb ?_;simp;simpa [a] using r
 simp [a];simpa [a] using r
theorem Zcu (X:Zgi Y) {op:Nat} {N:Zr} {L:Za} (v:Vw h op N L) (ok:Yl N) (pk:Yv N.vs.length L) {k c:Nat} (hk:k<L.length) (hc':c<Yi L k) {i o:Int} {R:Ze}
  (H:∀ h',Ext h h'->R (Zg (enV N L k c i o)) h'):Zv Y 361 [Zh op,Zg ((k:Int)+1),Zg (c:Int),Zg i,Zg o] h R:=by
 have bL:=pk.bL;have bA:=ok.ba;have bS:=Zk5 (L:=L) (k:=k) (c:=c) ok;have bV:=Zar ok pk (k:=k) (by omega);have bG:=(Xs pk hk).2.2.1;refine .of_has X.At rfl ?_;simp [Y361,Xm.wp];refine Zhv X v hk (by omega) ?_;have hh:decide ((0:Int)<=(c:Int)/\(c:Int)<Yi L k)=true:=by simp;omega
 rw [hh];obtain ⟨q,f,t,g,st,z,B,rq,rg,_,_,rs,hz⟩:=v;have lg:=rg.len;obtain ⟨u,hu,cu⟩:=Zho rg (i:=k) (by omega);have hu:=hu h (Mod.refl _);have ag:=cu.len;obtain ⟨U,r,ha,r1,r2⟩:=Zk7 cu hc';obtain ⟨_,_,ra⟩:=ha h (Mod.refl _);have w1:IntKind.i64.wrap ((k:Int)+1-1)=(k:Int):=by rw [Zo (by omega)];omega
 have w0:IntKind.i64.wrap (k:Int)=(k:Int):=Zo (by omega);have c3:(k:Int)<g.n:=by omega
 have c4:(c:Int)<u.n:=by omega
 simp [B.hc,w0,Zm rg.ok,c3,hu,Zm cu.ok,c4,ra];refine Xh (vs:=#[U.v,r.v]) rfl rfl (by simp) ?_;intro D ah gD ab ac V;simp;refine V _ ?_;intro h1 D1 e1;clear V ab ac;have B1:=B.ext e1;have l1:=r1.len;have l2:=r2.len;have ad:enV N L k c i o=if 0<=i/\i<(U.n:Int)/\0<=o/\o<(r.n:Int) then ((levelS N L k+cellS N L k c:Nat):Int)+i * r.n+o else -1:=by unfold enV;rw [l1,l2]
 have H:=H h1 e1;rw [ad] at H;have b1:U.n<=16384:=by have:=Wi (N:=N) (L:=L) (k:=k) (c:=c) (x:=false);omega
 have b2:r.n<=16384:=by have:=Wi (N:=N) (L:=L) (k:=k) (c:=c) (x:=true);omega
 by_cases Z:i<0
 ·have G:¬ 0<=i:=by omega
  simp [Z];simpa [G] using H
 have G:0<=i:=by omega
 by_cases q2:(U.n:Int)<=i
 ·have I:¬ i<(U.n:Int):=by omega
  simp [Z,q2,D1.hc];simpa [I] using H
 have I:i<(U.n:Int):=by omega
 by_cases q3:o<0
 ·have J:¬ 0<=o:=by omega
  simp [Z,q2,q3,D1.hc];simpa [J] using H
 have J:0<=o:=by omega
 by_cases q4:(r.n:Int)<=o
 ·have M:¬ o<(r.n:Int):=by omega
  simp [Z,q2,q3,q4,D1.hc];simpa [M] using H
 have M:o<(r.n:Int):=by omega
 obtain ⟨su,ae,O⟩:=(rs.ext e1).val k hk;have ai:=O.len;have aj:=rs.len;have ak:(V8 N L k).length=Yi L k:=by simp [V8]
 have c5:(k:Int)<st.n:=by omega
 have c6:(c:Int)<su.n:=by omega
 have aa:=O.at (i:=c) (by omega)
 have af:Zl (V8 N L k) c=((levelS N L k+cellS N L k c:Nat):Int):=by simp [Zl,V8,hc']
 rw [af] at aa;have m0:0<=i * (r.n:Int):=Xiu G (by omega);have m1:i * (r.n:Int)<=16384 * 16384:=Int.le_trans (Int.mul_le_mul_of_nonneg_right (show i<=16384 by omega) (by omega)) (Int.mul_le_mul_of_nonneg_left (by omega) (by omega));have w2:IntKind.i64.wrap (i * (r.n:Int))=i * r.n:=Zo (by omega);have w3:IntKind.i64.wrap (((levelS N L k+cellS N L k c:Nat):Int)+i * r.n)=((levelS N L k+cellS N L k c:Nat):Int)+i * r.n:=Zo (by omega);have w4:IntKind.i64.wrap (((levelS N L k+cellS N L k c:Nat):Int)+i * r.n+o)=((levelS N L k+cellS N L k c:Nat):Int)+i * r.n+o:=Zo (by omega);simp [Z,q2,q3,q4,D1.hc,B1.hc,w0,Zm rs.ok,c5,ae,Zm O.ok,c6,aa,w2,-Int.natCast_add,w3,w4];simpa [G,I,J,M] using H
theorem Zax (X:Zgi Y) {op:Nat} {N:Zr} {L:Za} (v:Vw h op N L) (ok:Yl N) (pk:Yv N.vs.length L) {k c:Nat} (hk:k<L.length) (hc':c<Yi L k) {R:Ze}
  (hr:∀ (h':Zk) (r s2:Sl),Ext h h'->Ym h' 1 r (Zq (Zx N L k false c))->Ym h' 1 s2 (Zq (Zx N L k true c))->(r.nl=true\/h.size<=r.b)->(s2.nl=true\/h.size<=s2.b)->R (.agg #[r.v,s2.v]) h') :
  Zv Y 395 [Zh op,Zg ((k:Int)+1),Zg (c:Int)] h R:=by
 have bL:=pk.bL;have bA:=ok.ba;refine .of_has X.Gate rfl ?_;simp [Y395,Xm.wp];refine Zn ?_;intro A h1 gA A1 e1;simp;have v1:=v.ext e1;refine Zhv X v1 hk (by omega) ?_;have hh:decide ((0:Int)<=(c:Int)/\(c:Int)<Yi L k)=true:=by simp;omega
 rw [hh];obtain ⟨q,f,t,g,st,z,B,rq,H,_,_,rs,hz⟩:=v1;have lg:=H.len;obtain ⟨u,hu,I⟩:=Zho H (i:=k) (by omega);have hu:=hu h1 (Mod.refl _);have aa:=I.len;obtain ⟨a1,a2,ha,r1,r2⟩:=Zk7 I hc';obtain ⟨_,_,ra⟩:=ha h1 (Mod.refl _);have w1:IntKind.i64.wrap ((k:Int)+1-1)=(k:Int):=by rw [Zo (by omega)];omega
 have w0:IntKind.i64.wrap (k:Int)=(k:Int):=Zo (by omega);have c3:(k:Int)<g.n:=by omega
 have c4:(c:Int)<u.n:=by omega
 simp [B.hc,w0,Zm H.ok,c3,hu,Zm I.ok,c4,ra];refine Xh (vs:=#[a1.v,a2.v]) rfl rfl (by simp) ?_;intro D ab gD J M G;simp;refine G _ ?_;intro h2 D2 e2;clear G J M;have z2:=e2.size;have A2:=A1.ext e2;have b1:(Zx N L k false c).length<=16384:=by have:=Wi (N:=N) (L:=L) (k:=k) (c:=c) (x:=false);omega
 have b2:(Zx N L k true c).length<=16384:=by have:=Wi (N:=N) (L:=L) (k:=k) (c:=c) (x:=true);omega
 simp [D2.hc];refine Zg3 X.O.T (r1.ext e2) (by omega) ?_;intro h3 r e3 o1 n1;have z3:=e3.size;have D3:=D2.ext e3;simp [D3.hc];refine Zg3 X.O.T ((r2.ext e2).ext e3) (by omega) ?_;intro h4 s2 U o2 n2;have A4:=(A2.ext e3).ext U;have hb:Yo.sem Y h4 (.build #[Zi,Zi] [(0,1),(1,1)] [0,1]) [r.v,s2.v]=some (.agg #[r.v,s2.v]):=by
  simp [Yo.sem,Instr.fill,Value.cells,Sl.v]
 simp [hb];refine Zs (vs:=#[r.v,s2.v]) A4 rfl rfl (by simp) ?_;intro h5 A5 V;have lA:=A1.lt;simp [Yj A5,U4,Zcj,Res.ev];have Z:=((e2.trans e3).trans U)
 refine hr h5 r s2 (Mod.ext e1 ((Z.mono fun _ _ h=>h.elim).trans V) (fun j hj=>by omega)) ((o1.ext' U).mod V (fun hn hj=>?_)) (o2.mod V (fun hn hj=>?_)) (n1.imp id fun h=>by omega) (n2.imp id fun h=>by omega)
 ·rcases n1 with n1 | n1
  ·rw [hn] at n1;cases n1
  omega
 rcases n2 with n2 | n2
 ·rw [hn] at n2;cases n2
 omega
end
end Go.Rm
