import Derived.Test.YtnmnlnpbekafmaaGreatDoorT28
/- Parts. -/
set_option linter.unusedSimpArgs false
set_option linter.unusedVariables false
namespace Go.Rm
section
variable {Y:Sys} {h h':Zk}
theorem Zkg {s:Sl} {l:List Yt} (q:U9 h s l):Wv h 5 s.n s.v=some (Vz l):=by
 have H:=q.len
 cases D:s.nl with
 | true =>
  have:l=[]:=Xfb (by rw [H];exact (q.ok.nil D).1);subst this;simp [Sl.v,D,Wv,Vz]
 | false =>
  cases G:s.sp with
  | some w =>
   have h0:s.n=0:=by
    have:=q.ok.spot.resolve_left (by rw [G];simp);have:=q.ok.le;omega
   have:l=[]:=Xfb (by omega);subst this;simp [Sl.v,D,G,Wv,h0,Vz]
  | none =>
   simp only [Sl.v,D,G,Xez,if_false,Wv];have:=Zad (h:=h) (b:=s.b) (l:=Vz l) (o:=s.o) fun i v r=>by
    have M:i<l.length * 5:=by
     have:=(List.getElem?_eq_some_iff.1 r).1;rwa [Zai] at this
    obtain ⟨a,k,I,rfl⟩:∃ a k,k<5/\i=a * 5+k:=⟨i / 5,i % 5,Xge _ (by omega),by omega⟩
    have J:a<l.length:=by omega
    rw [Zmj J I] at r;obtain ⟨O,c1,R,U,V⟩:=q.cell J
    match k,I with
    | 0,_=>simp [chL] at r;subst r;exact O
    | 1,_=>simp [chL] at r;subst r;exact c1
    | 2,_=>simp [chL] at r;subst r;exact R
    | 3,_=>simp [chL] at r;subst r;exact U
    | 4,_=>simp [chL] at r;subst r;exact V
   rw [Zai,H] at this;exact this
theorem Zln {l:List Yt}:∀ v∈Vz l,v.oneCell'=true:=by
 intro v hv;simp only [Vz,List.mem_flatMap,chL] at hv;obtain ⟨c,_,hv⟩:=hv;simp only [Xgg,Xgq,or_false] at hv;rcases hv with rfl | rfl | rfl | rfl | rfl <;> rfl
structure Zfv (Y:Sys):Prop where
 O:Zdz Y
 Size:Y.Has 359 Y359
 has:Y.Has 399 Y399
 At:Y.Has 361 Y361
 Gate:Y.Has 395 Y395
def enV (N:Zq) (L:Za) (k c:Nat) (i o:Int):Int :=
 if 0<=i/\i<((Zw N L k false c).length:Int)/\0<=o/\o<((Zw N L k true c).length:Int) then (levelS N L k+cellS N L k c:Nat)+i * (Zw N L k true c).length+o else -1
theorem Zcn (X:Zfv Y) {op:Nat} {N:Zq} {L:Za} (v:Uz h op N L) {R:Ze} (r:R (Zg (levelS N L L.length:Nat)) h):Zv Y 359 [Zh op] h R:=by
 obtain ⟨q,f,t,g,D,z,B,G,H,_,_,_,hz⟩:=v;refine .of_has X.Size rfl ?_;simp [Y359,Xn.wp,B.hc];rw [hz];exact r
theorem Zg5 (X:Zfv Y) {op:Nat} {N:Zq} {L:Za} (v:Uz h op N L) {i:Nat} (D:i<L.length) (hb:L.length<=1000) {c:Int} {R:Ze} (r:R (.bool (decide (0<=c/\c<Yh L i))) h) :
  Zv Y 399 [Zh op,Zg ((i:Int)+1),Zg c] h R:=by
 refine .of_has X.has rfl ?_;simp [Y399,Xn.wp];by_cases a:0<=c
 ·have a':¬ c<0:=by omega
  simp [a];refine Q8 X.O v D hb ?_;simp;simpa [a] using r
 simp [a];simpa [a] using r
theorem Zet (X:Zfv Y) {op:Nat} {N:Zq} {L:Za} (v:Uz h op N L) (ok:Ym N) (pk:Xf N.vs.length L) {k c:Nat} (hk:k<L.length) (hc':c<Yh L k) {i o:Int} {R:Ze}
  (H:∀ h',Ext h h'->R (Zg (enV N L k c i o)) h'):Zv Y 361 [Zh op,Zg ((k:Int)+1),Zg (c:Int),Zg i,Zg o] h R:=by
 have bL:=pk.bL;have bA:=ok.ba;have bS:=Zj2 (L:=L) (k:=k) (c:=c) ok;have bV:=Zal ok pk (k:=k) (by omega);have bG:=(Xx pk hk).2.2.1;refine .of_has X.At rfl ?_;simp [Y361,Xn.wp];refine Zg5 X v hk (by omega) ?_;have hh:decide ((0:Int)<=(c:Int)/\(c:Int)<Yh L k)=true:=by simp;omega
 rw [hh];obtain ⟨q,f,t,g,st,z,B,rq,rg,_,_,rs,hz⟩:=v;have lg:=rg.len;obtain ⟨u,hu,cu⟩:=Zgz rg (i:=k) (by omega);have hu:=hu h (Mod.refl _);have ag:=cu.len;obtain ⟨U,r,ha,r1,r2⟩:=Zj4 cu hc';obtain ⟨_,_,ra⟩:=ha h (Mod.refl _);have w1:IntKind.i64.wrap ((k:Int)+1-1)=(k:Int):=by rw [Zo (by omega)];omega
 have w0:IntKind.i64.wrap (k:Int)=(k:Int):=Zo (by omega);have c3:(k:Int)<g.n:=by omega
 have c4:(c:Int)<u.n:=by omega
 simp [B.hc,w0,Zm rg.ok,c3,hu,Zm cu.ok,c4,ra];refine Xd (vs:=#[U.v,r.v]) rfl rfl (by simp) ?_;intro D ah gD ab ac V;simp;refine V _ ?_;intro h1 D1 e1;clear V ab ac;have B1:=B.ext e1;have l1:=r1.len;have l2:=r2.len;have ad:enV N L k c i o=if 0<=i/\i<(U.n:Int)/\0<=o/\o<(r.n:Int) then ((levelS N L k+cellS N L k c:Nat):Int)+i * r.n+o else -1:=by unfold enV;rw [l1,l2]
 have H:=H h1 e1;rw [ad] at H;have b1:U.n<=16384:=by have:=Wu (N:=N) (L:=L) (k:=k) (c:=c) (x:=false);omega
 have b2:r.n<=16384:=by have:=Wu (N:=N) (L:=L) (k:=k) (c:=c) (x:=true);omega
 by_cases Z:i<0
 ·have G:¬ 0<=i:=by omega
  simp [Z];simpa [G] using H
 have G:0<=i:=by omega
 by_cases q2:(U.n:Int)<=i
 ·have I:¬ i<(U.n:Int):=by omega
  simp [Z,q2,D1.hc];simpa [I] using H
 have I:i<(U.n:Int):=by omega
 by_cases q3:o<0
 ·have J:¬ 0<=o:=by omega
  simp [Z,q2,q3,D1.hc];simpa [J] using H
 have J:0<=o:=by omega
 by_cases q4:(r.n:Int)<=o
 ·have M:¬ o<(r.n:Int):=by omega
  simp [Z,q2,q3,q4,D1.hc];simpa [M] using H
 have M:o<(r.n:Int):=by omega
 obtain ⟨su,ae,O⟩:=(rs.ext e1).val k hk;have ai:=O.len;have aj:=rs.len;have ak:(W0 N L k).length=Yh L k:=by simp [W0]
 have c5:(k:Int)<st.n:=by omega
 have c6:(c:Int)<su.n:=by omega
 have aa:=O.at (i:=c) (by omega)
 have af:Zl (W0 N L k) c=((levelS N L k+cellS N L k c:Nat):Int):=by simp [Zl,W0,hc']
 rw [af] at aa;have m0:0<=i * (r.n:Int):=Xhi G (by omega);have m1:i * (r.n:Int)<=16384 * 16384:=Int.le_trans (Int.mul_le_mul_of_nonneg_right (show i<=16384 by omega) (by omega)) (Int.mul_le_mul_of_nonneg_left (by omega) (by omega));have w2:IntKind.i64.wrap (i * (r.n:Int))=i * r.n:=Zo (by omega);have w3:IntKind.i64.wrap (((levelS N L k+cellS N L k c:Nat):Int)+i * r.n)=((levelS N L k+cellS N L k c:Nat):Int)+i * r.n:=Zo (by omega);have w4:IntKind.i64.wrap (((levelS N L k+cellS N L k c:Nat):Int)+i * r.n+o)=((levelS N L k+cellS N L k c:Nat):Int)+i * r.n+o:=Zo (by omega);simp [Z,q2,q3,q4,D1.hc,B1.hc,w0,Zm rs.ok,c5,ae,Zm O.ok,c6,aa,w2,-Int.natCast_add,w3,w4];simpa [G,I,J,M] using H
theorem Zcr (X:Zfv Y) {op:Nat} {N:Zq} {L:Za} (v:Uz h op N L) (ok:Ym N) (pk:Xf N.vs.length L) {k c:Nat} (hk:k<L.length) (hc':c<Yh L k) {R:Ze}
  (hr:∀ (h':Zk) (r s2:Sl),Ext h h'->Yl h' 1 r (Zt (Zw N L k false c))->Yl h' 1 s2 (Zt (Zw N L k true c))->(r.nl=true\/h.size<=r.b)->(s2.nl=true\/h.size<=s2.b)->R (.agg #[r.v,s2.v]) h') :
  Zv Y 395 [Zh op,Zg ((k:Int)+1),Zg (c:Int)] h R:=by
 have bL:=pk.bL;have bA:=ok.ba;refine .of_has X.Gate rfl ?_;simp [Y395,Xn.wp];refine Zn ?_;intro A h1 gA A1 e1;simp;have v1:=v.ext e1;refine Zg5 X v1 hk (by omega) ?_;have hh:decide ((0:Int)<=(c:Int)/\(c:Int)<Yh L k)=true:=by simp;omega
 rw [hh];obtain ⟨q,f,t,g,st,z,B,rq,H,_,_,rs,hz⟩:=v1;have lg:=H.len;obtain ⟨u,hu,I⟩:=Zgz H (i:=k) (by omega);have hu:=hu h1 (Mod.refl _);have aa:=I.len;obtain ⟨a1,a2,ha,r1,r2⟩:=Zj4 I hc';obtain ⟨_,_,ra⟩:=ha h1 (Mod.refl _);have w1:IntKind.i64.wrap ((k:Int)+1-1)=(k:Int):=by rw [Zo (by omega)];omega
 have w0:IntKind.i64.wrap (k:Int)=(k:Int):=Zo (by omega);have c3:(k:Int)<g.n:=by omega
 have c4:(c:Int)<u.n:=by omega
 simp [B.hc,w0,Zm H.ok,c3,hu,Zm I.ok,c4,ra];refine Xd (vs:=#[a1.v,a2.v]) rfl rfl (by simp) ?_;intro D ab gD J M G;simp;refine G _ ?_;intro h2 D2 e2;clear G J M;have z2:=e2.size;have A2:=A1.ext e2;have b1:(Zw N L k false c).length<=16384:=by have:=Wu (N:=N) (L:=L) (k:=k) (c:=c) (x:=false);omega
 have b2:(Zw N L k true c).length<=16384:=by have:=Wu (N:=N) (L:=L) (k:=k) (c:=c) (x:=true);omega
 simp [D2.hc];refine Zf9 X.O.T (r1.ext e2) (by omega) ?_;intro h3 r e3 o1 n1;have z3:=e3.size;have D3:=D2.ext e3;simp [D3.hc];refine Zf9 X.O.T ((r2.ext e2).ext e3) (by omega) ?_;intro h4 s2 U o2 n2;have A4:=(A2.ext e3).ext U;have hb:Ys.sem Y h4 (.build #[Zi,Zi] [(0,1),(1,1)] [0,1]) [r.v,s2.v]=some (.agg #[r.v,s2.v]):=by
  simp [Ys.sem,Instr.fill,Value.cells,Sl.v]
 simp [hb];refine Zr (vs:=#[r.v,s2.v]) A4 rfl rfl (by simp) ?_;intro h5 A5 V;have lA:=A1.lt;simp [Yj A5,Q6,Zb8,Res.ev];have Z:=((e2.trans e3).trans U)
 refine hr h5 r s2 (Mod.ext e1 ((Z.mono fun _ _ h=>h.elim).trans V) (fun j hj=>by omega)) ((o1.ext' U).mod V (fun hn hj=>?_)) (o2.mod V (fun hn hj=>?_)) (n1.imp id fun h=>by omega) (n2.imp id fun h=>by omega)
 ·rcases n1 with n1 | n1
  ·rw [hn] at n1;cases n1
  omega
 rcases n2 with n2 | n2
 ·rw [hn] at n2;cases n2
 omega
end
end Go.Rm
