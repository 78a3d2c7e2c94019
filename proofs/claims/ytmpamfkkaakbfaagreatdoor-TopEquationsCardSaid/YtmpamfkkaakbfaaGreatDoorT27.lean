import Derived.Test.YtmpamfkkaakbfaaGreatDoorT00
import Derived.Test.YtmpamfkkaakbfaaGreatDoorT19
import Derived.Test.YtmpamfkkaakbfaaGreatDoorT20
import Derived.Test.YtmpamfkkaakbfaaGreatDoorT02
import Derived.Test.YtmpamfkkaakbfaaGreatDoorT26
/- Parts RFlow0 RFlow0b RFlow1 RBatch8 ROver1 -/
set_option linter.unusedSimpArgs false
set_option linter.unusedVariables false
namespace Go.Rm
structure Ed where
 u:Nat
 v:Nat
 x:Int
deriving DecidableEq
def bI (b:Bool):Int:=if b then 1 else 0
def Zyf:List Ed->Nat->Int
 | [],_=>0
 | e::r,w=>(if e.u=w then e.x else 0)-(if e.v=w then e.x else 0)+Zyf r w
def Xcp (L:List Ed) (a b:Nat):Prop:=a≠b/\∃ e∈L,(e.u=a/\e.v=b/\e.x≠1)\/(e.v=a/\e.u=b/\e.x≠-1)
inductive Reach (L:List Ed) (A:Nat->Prop):Nat->Prop
 | start {v:Nat}:A v->Reach L A v
 | step {v w:Nat}:Reach L A v->Xcp L v w->Reach L A w
end Go.Rm

namespace Go.Rm
def Zdx (l:List Bool) (i:Nat):Bool:=l.getD i false
section
variable {Y:Sys} {h h':Za}
theorem Zkg {K:Value->Za->Prop} {n:Nat} {m:Int} (G:n<=1000000) (r:m=n) (D:∀ (b:Nat) (h':Za),h.size<=b->Yb h' 1 (Sl.at b n n) (List.replicate n (.bool false))->Ext h h'->b<h'.size->K (.slice (some ⟨b,0,none⟩) n n) h') :
  Ef.wp h K (.mkslice 1 1 #[.bool false]) [.int .i64 m,.int .i64 m]:=by
 subst r
 rw [Wx]
 refine ⟨by omega,by omega,by omega,by omega,fun t=>?_⟩
 simp only [Xd9,Xej,Vp]
 refine D h.size _ (Xd6 _) ⟨by simp,.inr ⟨rfl,rfl,rfl,Xd6 _,by simp; omega,_,Ys.new,by simp,by simp⟩⟩ Mod.push (by simp)
theorem Zlf {K:Value->Za->Prop} {b n m k:Nat} {cells:List Value} {v:Value} (o:Yb h 1 (Sl.at b n m) cells) (r:k<cells.length)
  (D:∀ h',Yb h' 1 (Sl.at b n m) (cells.set k v)->Mod (fun j=>j=b) h h'->K undef h'):Xg h b k v K:=by
 have:=stN (v:=v) (K:=K) o r D
 simpa using this
theorem Vt {b n m v sz:Nat} (r:m<=9223372036854775807) (hv:v<n) (D:n<=m):Yg.sem Y h (.idxa sz) [.slice (some ⟨b,0,none⟩) n m,.int .i64 v]=some (.pointer (some ⟨b,v * sz,none⟩)):=by
 have:=Zb (Y:=Y) (h:=h) (s:=Sl.at b n m) (sz:=sz) (k:=.i64) (i:=v) ⟨fun h=>(by cases h),(by simp; omega),.inl rfl⟩ (by omega) (by simp; omega)
 simpa using this
theorem Mod.toExtF {p:Nat} {h0 h h':Za} (x:Ext h0 h) (m:Mod (fun j=>j=p) h h') (hp:h0.size<=p):Ext h0 h':=Mod.ext x m (fun j r=>by omega)
def Va (l:List Bool):List Value:=l.map fun x=>Value.bool x
theorem Zfv {l:List Bool}:(Va l).length=l.length:=by simp [Va]
end
section
variable {Y:Sys} {h h':Za}
theorem Zdr (O:Zdi Y) {op:Nat} {N:Zg} {L:List (List Int)} (v:Up h op N L) {R:Value->Za->Prop} (r:R (.int .i64 L.length) h):Zm Y 316 [.pointer (some ⟨op,0,none⟩)] h R:=by
 obtain ⟨q,f,t,g,H,z,B,D,I,_,_⟩:=v
 refine .of_has O.Levels rfl ?_
 have G:=D.len
 rw [G] at r
 simp [Y316,Xa.wp,B.hc]
 exact r
theorem U1 (O:Zdi Y) {op:Nat} {N:Zg} {L:List (List Int)} (v:Up h op N L) {i:Nat} (U:i<L.length) (hb:L.length<=1000) {R:Value->Za->Prop} (G:R (.int .i64 (Zw L i)) h):Zm Y 317 [.pointer (some ⟨op,0,none⟩),.int .i64 ((i:Int)+1)] h R:=by
 obtain ⟨q,f,t,g,V,z,B,X,r,_,_⟩:=v
 refine .of_has O.Cells rfl ?_
 have lg:=r.len
 obtain ⟨u,hu,H⟩:=Zgo r (i:=i) (by omega)
 have hu:=hu h (Mod.refl _)
 have I:IntKind.i64.wrap ((i:Int)+1-1)=(i:Int):=by rw [Ze (by omega)]; omega
 have w0:IntKind.i64.wrap (i:Int)=(i:Int):=Ze (by omega)
 have c1:¬ (i:Int)+1<1:=by omega
 have J:¬ (g.n:Int)<(i:Int)+1:=by omega
 have M:(i:Int)<g.n:=by omega
 have D:=H.len
 simp [Y317,Xa.wp,B.hc,c1,J,I,w0,Zb r.ok,M,hu,D]
 exact G
theorem Zfg (O:Zdi Y) {op:Nat} {N:Zg} {L:List (List Int)} (v:Up h op N L) (r:L.length<=1000) (D:∀ i,i<L.length->(Zq L i).length<=1000000) {R:Value->Za->Prop}
  (X:∀ h' H,Ext h h'->(∀ k,Mod (fun j=>j<h.size) h' k->Ql k H L)->R (X0 H) h'):Zm Y 318 [.pointer (some ⟨op,0,none⟩)] h R:=by
 obtain ⟨q,f,t,g,st,z,B,M,rg,_,_⟩:=v
 refine .of_has O.Part rfl ?_
 simp [Y318,Xa.wp]
 refine Zd ?_
 intro C h1 g1 C1 I
 have C1:Ys h1 C #[.slice none 0 0]:=C1
 have z1:=I.size
 have B1:=B.ext I
 have J:rd h1 op 0 1=some [q.v]:=Zal (l:=[q.v]) fun i v G=>by
  rw [B1.hc]
  match i,G with
  | 0,G=>simpa using G
  | i+1,G=>simp at G
 simp [J]
 rw [show (Value.agg #[q.v])=X0 q from rfl]
 refine Zmx O.T (M.ext I) (by rw [<-M.len]; exact r) D ?_
 intro h2 H e2 Z
 have z2:=e2.size
 have lC:=C1.lt
 simp [X0]
 refine Zi (C1.ext e2) rfl rfl (by simp) ?_
 intro h3 C3 U
 simp
 refine Yt rfl C3 rfl ?_
 exact X h3 H (Mod.ext (I.trans e2) U (fun j V=>by omega)) (fun k mk=>Z k ((U.mono fun j _ V=>by omega).trans (mk.mono fun j _ V=>by omega)))
structure Z0e (Y:Sys):Prop where
 O:Zdi Y
 Made:Y.Has 307 Y307
 MF:Zwm Y
 CT:Z0y Y
theorem Zrg (X:Z0e Y) {G H I s:Sl} {N:Zg} {L:List (List Int)} (r:Uo h G H I N) (q:Ql h s L) (hf:Ze9 N=true) (U:Yd N) (J:Yx N.vs.length L) {R:Value->Za->Prop}
  (hr:∀ h' op,Ext h h'->h.size<=op->(∀ k,Mod (fun j=>j<h.size) h' k->Up k op N L)->R (.pointer (some ⟨op,0,none⟩)) h'):Zm Y 307 [Yo G H I,X0 s] h R:=by
 refine .of_has X.Made rfl ?_
 have lL:=q.len
 have bL:=J.bL
 have bN:=J.bn
 have D:∀ i,i<L.length->(Zq L i).length<=1000000:=fun i hi=>by
  have:=(Xi J hi).1
  omega
 simp [Y307,Xa.wp,Yo,X0]
 refine Zd ?_
 intro A h1 g1 A1 V
 simp
 refine Zd ?_
 intro B h2 g2 B2 e2
 have Z:=V.trans e2
 have z1:=V.size
 have z2:=e2.size
 simp [Zy (A1.ext e2)]
 rw [show (Value.agg #[G.v,H.v,I.v])=Yo G H I from rfl]
 refine Zl9 X.MF (r.ext Z) hf U ?_
 intro h3 p S e3 g hS
 have x3:=Z.trans e3
 have B3:=B2.ext e3
 simp [Zy B3]
 rw [show (Value.agg #[s.v])=X0 s from rfl]
 refine Zp7 X.CT (q.ext x3) (by omega) D ?_
 intro h4 s' M q4 _
 have x4:=x3.trans M
 have z3:=e3.size
 have z4:=M.size
 simp
 refine Znq X.O (g.ext M) q4 U J ?_
 intro h5 op e5 aa fo
 simp
 exact hr h5 op (x4.trans e5) (by omega) (fun k mk=>fo k (mk.mono fun j _ hj=>by omega))
end
structure Zfk (Y:Sys):Prop where
 O:Zdi Y
 Size:Y.Has 359 Y359
 has:Y.Has 399 Y399
 At:Y.Has 361 Y361
 Gate:Y.Has 395 Y395
def enV (N:Zg) (L:List (List Int)) (k c:Nat) (i o:Int):Int :=
 if 0<=i/\i<((Zn N L k false c).length:Int)/\0<=o/\o<((Zn N L k true c).length:Int) then (levelS N L k+cellS N L k c:Nat)+i * (Zn N L k true c).length+o else -1
section
variable {Y:Sys} {h h':Za}
theorem Zb6 (X:Zfk Y) {op:Nat} {N:Zg} {L:List (List Int)} (v:Up h op N L) {R:Value->Za->Prop} (r:R (.int .i64 (levelS N L L.length:Nat)) h):Zm Y 359 [.pointer (some ⟨op,0,none⟩)] h R:=by
 obtain ⟨q,f,t,g,D,z,B,G,H,_,_,_,hz⟩:=v
 refine .of_has X.Size rfl ?_
 simp [Y359,Xa.wp,B.hc]
 rw [hz]
 exact r
theorem Zgv (X:Zfk Y) {op:Nat} {N:Zg} {L:List (List Int)} (v:Up h op N L) {i:Nat} (D:i<L.length) (hb:L.length<=1000) {c:Int} {R:Value->Za->Prop} (r:R (.bool (decide (0<=c/\c<Zw L i))) h) :
  Zm Y 399 [.pointer (some ⟨op,0,none⟩),.int .i64 ((i:Int)+1),.int .i64 c] h R:=by
 refine .of_has X.has rfl ?_
 simp [Y399,Xa.wp]
 by_cases a:0<=c
 ·have a':¬ c<0:=by omega
  simp [a]
  refine U1 X.O v D hb ?_
  simp
  simpa [a] using r
 ·simp [a]
  simpa [a] using r
theorem Zb2 (X:Zfk Y) {op:Nat} {N:Zg} {L:List (List Int)} (v:Up h op N L) (ok:Yd N) (pk:Yx N.vs.length L) {k c:Nat} (hk:k<L.length) (hc':c<Zw L k) {i o:Int} {R:Value->Za->Prop}
  (M:∀ h',Ext h h'->R (.int .i64 (enV N L k c i o)) h'):Zm Y 361 [.pointer (some ⟨op,0,none⟩),.int .i64 ((k:Int)+1),.int .i64 (c:Int),.int .i64 i,.int .i64 o] h R:=by
 have bL:=pk.bL
 have bA:=ok.ba
 have bS:=Zjt (L:=L) (k:=k) (c:=c) ok
 have bV:=Q2 ok pk (k:=k) (by omega)
 have bG:=(Xi pk hk).2.2.1
 have bc:c * 268435456<=4096 * 268435456:=Xe7 _ (by omega)
 refine .of_has X.At rfl ?_
 simp [Y361,Xa.wp]
 refine Zgv X v hk (by omega) ?_
 have hh:decide ((0:Int)<=(c:Int)/\(c:Int)<Zw L k)=true:=by simp; omega
 rw [hh]
 obtain ⟨q,f,t,g,st,z,B,rq,rg,_,_,rs,hz⟩:=v
 have lg:=rg.len
 obtain ⟨u,hu,cu⟩:=Zgo rg (i:=k) (by omega)
 have hu:=hu h (Mod.refl _)
 have ag:=cu.len
 obtain ⟨U,G,ha,r1,r2⟩:=Zjv cu hc'
 obtain ⟨_,_,ra⟩:=ha h (Mod.refl _)
 have w1:IntKind.i64.wrap ((k:Int)+1-1)=(k:Int):=by rw [Ze (by omega)]; omega
 have w0:IntKind.i64.wrap (k:Int)=(k:Int):=Ze (by omega)
 have c3:(k:Int)<g.n:=by omega
 have c4:(c:Int)<u.n:=by omega
 simp [B.hc,w0,w1,Zb rg.ok,c3,hu,Zb cu.ok,c4,ra]
 refine Yr (vs:=#[U.v,G.v]) rfl rfl (by simp) ?_
 intro D ah gD ab ac V
 simp
 refine V _ ?_
 intro h1 D1 e1
 clear V ab ac
 have B1:=B.ext e1
 have l1:=r1.len
 have l2:=r2.len
 have ad:enV N L k c i o=if 0<=i/\i<(U.n:Int)/\0<=o/\o<(G.n:Int) then ((levelS N L k+cellS N L k c:Nat):Int)+i * G.n+o else -1:=by unfold enV; rw [l1,l2]
 have M:=M h1 e1
 rw [ad] at M
 have b1:U.n<=16384:=by have:=Wb (N:=N) (L:=L) (k:=k) (c:=c) (x:=false); omega
 have b2:G.n<=16384:=by have:=Wb (N:=N) (L:=L) (k:=k) (c:=c) (x:=true); omega
 by_cases Z:i<0
 ·have r:¬ 0<=i:=by omega
  simp [Z,r]
  simpa [r] using M
 have r:0<=i:=by omega
 by_cases q2:(U.n:Int)<=i
 ·have H:¬ i<(U.n:Int):=by omega
  simp [Z,r,q2,H,D1.hc]
  simpa [H] using M
 have H:i<(U.n:Int):=by omega
 by_cases q3:o<0
 ·have I:¬ 0<=o:=by omega
  simp [Z,r,q2,H,q3,I,D1.hc]
  simpa [I] using M
 have I:0<=o:=by omega
 by_cases q4:(G.n:Int)<=o
 ·have J:¬ o<(G.n:Int):=by omega
  simp [Z,r,q2,H,q3,I,q4,J,D1.hc]
  simpa [J] using M
 have J:o<(G.n:Int):=by omega
 obtain ⟨su,ae,O⟩:=(rs.ext e1).val k hk
 have ai:=O.len
 have aj:=rs.len
 have ak:(Z9 N L k).length=Zw L k:=by simp [Z9]
 have c5:(k:Int)<st.n:=by omega
 have c6:(c:Int)<su.n:=by omega
 have aa:=O.at (i:=c) (by omega)
 have af:Zc (Z9 N L k) c=((levelS N L k+cellS N L k c:Nat):Int):=by simp [Zc,Z9,hc']
 rw [af] at aa
 have m0:0<=i * (G.n:Int):=Xg2 r (by omega)
 have m1:i * (G.n:Int)<=16384 * 16384:=Int.le_trans (Int.mul_le_mul_of_nonneg_right (show i<=16384 by omega) (by omega)) (Int.mul_le_mul_of_nonneg_left (by omega) (by omega))
 have w2:IntKind.i64.wrap (i * (G.n:Int))=i * G.n:=Ze (by omega)
 have w3:IntKind.i64.wrap (((levelS N L k+cellS N L k c:Nat):Int)+i * G.n)=((levelS N L k+cellS N L k c:Nat):Int)+i * G.n:=Ze (by omega)
 have w4:IntKind.i64.wrap (((levelS N L k+cellS N L k c:Nat):Int)+i * G.n+o)=((levelS N L k+cellS N L k c:Nat):Int)+i * G.n+o:=Ze (by omega)
 simp [Z,r,q2,H,q3,I,q4,J,D1.hc,B1.hc,w0,w1,Zb rs.ok,c5,ae,Zb O.ok,c6,aa,w2,-Int.natCast_add,w3,w4]
 simpa [r,H,I,J] using M
theorem Zca (X:Zfk Y) {op:Nat} {N:Zg} {L:List (List Int)} (v:Up h op N L) (ok:Yd N) (pk:Yx N.vs.length L) {k c:Nat} (hk:k<L.length) (hc':c<Zw L k) {R:Value->Za->Prop}
  (hr:∀ (h':Za) (r s2:Sl),Ext h h'->Yb h' 1 r (Zh (Zn N L k false c))->Yb h' 1 s2 (Zh (Zn N L k true c))->(r.nl=true\/h.size<=r.b)->(s2.nl=true\/h.size<=s2.b)->R (.agg #[r.v,s2.v]) h') :
  Zm Y 395 [.pointer (some ⟨op,0,none⟩),.int .i64 ((k:Int)+1),.int .i64 (c:Int)] h R:=by
 have bL:=pk.bL
 have bA:=ok.ba
 have bG:=(Xi pk hk).2.2.1
 refine .of_has X.Gate rfl ?_
 simp [Y395,Xa.wp]
 refine Zd ?_
 intro A h1 gA A1 J
 have z1:=J.size
 simp
 have v1:=v.ext J
 refine Zgv X v1 hk (by omega) ?_
 have hh:decide ((0:Int)<=(c:Int)/\(c:Int)<Zw L k)=true:=by simp; omega
 rw [hh]
 obtain ⟨q,f,t,g,st,z,B,rq,M,_,_,rs,hz⟩:=v1
 have lg:=M.len
 obtain ⟨u,hu,U⟩:=Zgo M (i:=k) (by omega)
 have hu:=hu h1 (Mod.refl _)
 have ab:=U.len
 obtain ⟨a1,a2,ha,r1,r2⟩:=Zjv U hc'
 obtain ⟨_,_,ra⟩:=ha h1 (Mod.refl _)
 have w1:IntKind.i64.wrap ((k:Int)+1-1)=(k:Int):=by rw [Ze (by omega)]; omega
 have w0:IntKind.i64.wrap (k:Int)=(k:Int):=Ze (by omega)
 have c3:(k:Int)<g.n:=by omega
 have c4:(c:Int)<u.n:=by omega
 simp [B.hc,w0,w1,Zb M.ok,c3,hu,Zb U.ok,c4,ra]
 refine Yr (vs:=#[a1.v,a2.v]) rfl rfl (by simp) ?_
 intro D ac gD V Z G
 simp
 refine G _ ?_
 intro h2 D2 e2
 clear G V Z
 have z2:=e2.size
 have A2:=A1.ext e2
 have b1:(Zn N L k false c).length<=16384:=by have:=Wb (N:=N) (L:=L) (k:=k) (c:=c) (x:=false); omega
 have b2:(Zn N L k true c).length<=16384:=by have:=Wb (N:=N) (L:=L) (k:=k) (c:=c) (x:=true); omega
 simp [D2.hc]
 refine Zf1 X.O.T (r1.ext e2) (by omega) ?_
 intro h3 r e3 o1 n1
 have z3:=e3.size
 have D3:=D2.ext e3
 simp [D3.hc]
 refine Zf1 X.O.T ((r2.ext e2).ext e3) (by omega) ?_
 intro h4 s2 H o2 n2
 have z4:=H.size
 have A4:=(A2.ext e3).ext H
 have hb:Yg.sem Y h4 (.build #[.slice none 0 0,.slice none 0 0] [(0,1),(1,1)] [0,1]) [r.v,s2.v]=some (.agg #[r.v,s2.v]):=by
  simp [Yg.sem,Instr.fill,Value.cells,Sl.v]
 simp [hb]
 refine Zi (vs:=#[r.v,s2.v]) A4 rfl rfl (by simp) ?_
 intro h5 A5 I
 have z5:=I.size
 have lA:=A1.lt
 simp [Zy A5,Q5,Zbr,Res.ev]
 have aa:=((e2.trans e3).trans H)
 refine hr h5 r s2 (Mod.ext J ((aa.mono fun _ _ h=>h.elim).trans I) (fun j hj=>by omega)) ((o1.ext' H).mod I (fun hn hj=>?_)) (o2.mod I (fun hn hj=>?_)) (n1.imp id fun h=>by omega) (n2.imp id fun h=>by omega)
 ·rcases n1 with n1 | n1
  ·rw [hn] at n1; cases n1
  ·omega
 ·rcases n2 with n2 | n2
  ·rw [hn] at n2; cases n2
  ·omega
end
end Go.Rm
