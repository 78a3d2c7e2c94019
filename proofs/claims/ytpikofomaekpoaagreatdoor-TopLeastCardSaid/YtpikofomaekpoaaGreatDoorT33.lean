import Derived.Test.YtpikofomaekpoaaGreatDoorT31
import Derived.Test.YtpikofomaekpoaaGreatDoorT32
/- Parts. -/
set_option linter.unusedSimpArgs false
set_option linter.unusedVariables false
namespace Go.Rm
def Vp:Zb->Nat->List (Int × Value)
 | [],_=>[]
 | x::r,k=>(x,.int .i64 k)::Vp r (k+1)
theorem Ze6 {x:Int}:∀ {l:Zb} {k:Nat},Vp (l++[x]) k=Vp l k++[(x,.int .i64 ((k+l.length:Nat):Int))]:=by
 intro l
 induction l with
 | nil=>intro k;simp [Vp]
 | cons y r ih =>
  intro k;have:k+1+r.length=k+(r.length+1):=by omega
  simp [Vp,ih,-Int.natCast_add,this]
theorem U8 {x:Int}:∀ {l:Zb} {k:Nat},Za6 (Vp l k) x=if x∈l then some (.int .i64 (Yg k l x)) else none:=by
 intro l
 induction l with
 | nil=>intro k;simp [Vp,Za6]
 | cons y r ih =>
  intro k;by_cases q:y=x
  ·subst q;simp [Vp,Za6,Yg]
  have:Za6 (Vp (y::r) k) x=Za6 (Vp r (k+1)) x:=by simp [Vp,Za6,q]
  rw [this,ih];have q':¬ x=y:=fun e=>q e.symm;simp [q',Yg,q]
theorem Zdr {l:Zb} {n:Nat} (h:Zf3 l) (G:∀ k,k<l.length->∃ a:Nat,Zl l k=a/\a<n):l.length<=n:=by
 have:=Zb5 (l:=l.map Int.toNat) (n:=n) (by
  rw [List.nodup_iff_pairwise_ne,Xif];intro i j r D H e;simp at r D e;obtain ⟨a,I,_⟩:=G i r;obtain ⟨b,R,_⟩:=G j D;have U:Zl l i=l[i]:=by simp [Zl,r]
  have e2:Zl l j=l[j]:=by simp [Zl,D]
  have:=h i j r D (by omega);omega) (fun a J=>by
  obtain ⟨x,hx,rfl⟩:=List.mem_map.1 J;obtain ⟨k,O,rfl⟩:=Zw.1 hx;obtain ⟨a,I,V⟩:=G k O;omega)
 simpa using this
theorem Zbs {h:Zk} {s:Sl} {l:List Xe} (r:Z6 h s l) (D:l≠[]):s.b<h.size:=by
 have:0<l.length:=by cases l with
  | nil=>exact absurd rfl D
  | cons=>simp
 have:=r.v0 0 this;exact Xgq fun q=>by simp [hc,Xhx (Nat.not_lt.1 q)] at this
structure ByS (h:Zk) (lo Bc Br B8 M:Nat) (s1 s2 sA sv sT:Sl) (As:Zb) (P:List (Sl × List Xe)) (T:List Xe):Prop where
 bc:Xb h Bc #[s1.v,s2.v]
 br:Xb h Br #[.int .i64 0,.slice none 0 0,.nilFunc]
 b8:Xb h B8 #[sv.v]
 mp:Zc7 h M (Vp As 0)
 oA:Ym h 1 sA (Zq As)
 oV:Ym h 1 sv (P.map fun p=>p.1.v)
 oT:Ym h 3 sT (Ye (T.map Xz))
 rw:∀ p,p∈P->Z6 h p.1 p.2
 dA:sA.nl=false->lo<=sA.b/\sA.b≠Bc/\sA.b≠Br/\sA.b≠B8/\sA.b≠M
 dV:sv.nl=false->lo<=sv.b/\sv.b≠Bc/\sv.b≠Br/\sv.b≠B8/\sv.b≠M/\(sA.nl=false->sv.b≠sA.b)
 dT:sT.nl=false->lo<=sT.b/\sT.b≠Bc/\sT.b≠Br/\sT.b≠B8/\sT.b≠M/\(sA.nl=false->sT.b≠sA.b)/\(sv.nl=false->sT.b≠sv.b)
 dP:∀ p,p∈P->p.2≠[]->lo<=p.1.b/\p.1.b≠Bc/\p.1.b≠Br/\p.1.b≠B8/\p.1.b≠M/\(sA.nl=false->p.1.b≠sA.b)/\(sv.nl=false->p.1.b≠sv.b)/\(sT.nl=false->p.1.b≠sT.b)
 dB:lo<=Bc/\lo<=Br/\lo<=B8/\lo<=M/\Bc≠Br/\Bc≠B8/\Bc≠M/\Br≠B8/\Br≠M/\B8≠M
section
variable {h h' h1 h2 h3:Zk} {lo Bc Br B8 M:Nat} {s1 s2 sA sv sT:Sl} {As:Zb} {P:List (Sl × List Xe)} {T:List Xe}
theorem ByS.ext (k:ByS h lo Bc Br B8 M s1 s2 sA sv sT As P T) (e:Ext h h'):ByS h' lo Bc Br B8 M s1 s2 sA sv sT As P T :=
 ⟨k.bc.ext e,k.br.ext e,k.b8.ext e,k.mp.ext e,k.oA.ext' e,k.oV.ext' e,k.oT.ext' e,fun p hp=>(k.rw p hp).ext e,k.dA,k.dV,k.dT,k.dP,k.dB⟩
theorem ByS.pushT (k:ByS h lo Bc Br B8 M s1 s2 sA sv sT As P T) {r:Sl} {x:Xe} (m:Mod (fun j=>sT.nl=false/\j=sT.b) h h') (o:Ym h' 3 r (Ye ((T++[x]).map Xz))) (hs:(r.b=sT.b/\r.nl=sT.nl)\/(h.size<=r.b/\r.nl=false))
  (I:lo<=h.size):ByS h' lo Bc Br B8 M s1 s2 sA sv r As P (T++[x]):=by
 have R:=k.bc.lt;have U:=k.br.lt;have V:=k.b8.lt;have X:=k.mp.lt;have J:=k.oA.lt;have O:=k.oV.lt;have H:=k.dT;refine ⟨m.blk k.bc (fun q=>by have:=H q.1;omega),m.blk k.br (fun q=>by have:=H q.1;omega),m.blk k.b8 (fun q=>by have:=H q.1;omega),k.mp.mod m (fun q=>by have:=H q.1;omega),k.oA.mod m (fun D q=>by have:=(H q.1).2.2.2.2.2.1 D;omega),k.oV.mod m (fun D q=>by have:=(H q.1).2.2.2.2.2.2 D;omega),o,fun p hp=>(k.rw p hp).mod m (fun D q=>by have:=(k.dP p hp D).2.2.2.2.2.2.2 q.1;omega),k.dA,k.dV,fun D=>?_,fun p hp D=>?_,k.dB⟩
 ·rcases hs with ⟨a,b⟩ | ⟨a,b⟩
  ·rw [a];exact H (by rw [<-b];exact D)
  exact ⟨by omega,by omega,by omega,by omega,by omega,fun h=>by have:=J h;omega,fun h=>by have:=O h;omega⟩
 have G:=k.dP p hp D;have Z:=Zbs (k.rw p hp) D;refine ⟨G.1,G.2.1,G.2.2.1,G.2.2.2.1,G.2.2.2.2.1,G.2.2.2.2.2.1,G.2.2.2.2.2.2.1,fun h=>?_⟩;rcases hs with ⟨a,b⟩ | ⟨a,b⟩
 ·rw [a];exact G.2.2.2.2.2.2.2 (by rw [<-b];exact h)
 omega
theorem ByS.addA (k:ByS h lo Bc Br B8 M s1 s2 sA sv sT As P T) {G:Sl} {x:Int} (m:Mod (fun j=>j=M) h h1) (R:Zc7 h1 M (Vp (As++[x]) 0)) (e:Ext h1 h2) (m':Mod (fun j=>sA.nl=false/\j=sA.b) h2 h3) (o:Ym h3 1 G (Zq (As++[x]))) (hs:(G.b=sA.b/\G.nl=sA.nl)\/(h2.size<=G.b/\G.nl=false))
  (U:lo<=h.size):ByS h3 lo Bc Br B8 M s1 s2 G sv sT (As++[x]) P T:=by
 have l1:=k.bc.lt;have l2:=k.br.lt;have l3:=k.b8.lt;have l4:=k.mp.lt;have V:=k.oV.lt;have X:=k.oT.lt;have z1:=m.size;have z2:=e.size;have I:=k.dA;have J:=k.dV;have O:=k.dT;have Z:=k.dB;refine ⟨m'.blk ((m.blk k.bc (by omega)).ext e) (fun q=>by have:=I q.1;omega),m'.blk ((m.blk k.br (by omega)).ext e) (fun q=>by have:=I q.1;omega),m'.blk ((m.blk k.b8 (by omega)).ext e) (fun q=>by have:=I q.1;omega),(R.ext e).mod m' (fun q=>by have:=I q.1;omega),o,((k.oV.mod m (fun r q=>by have:=J r;omega)).ext' e).mod m' (fun r q=>by have:=(J r).2.2.2.2.2 q.1;omega),((k.oT.mod m (fun r q=>by have:=O r;omega)).ext' e).mod m' (fun r q=>by have:=(O r).2.2.2.2.2.1 q.1;omega),fun p hp=>(((k.rw p hp).mod m (fun r q=>by have:=k.dP p hp r;omega)).ext e).mod m' (fun r q=>by have:=(k.dP p hp r).2.2.2.2.2.1 q.1;omega),fun r=>?_,fun r=>?_,fun r=>?_,fun p hp r=>?_,Z⟩
 ·rcases hs with ⟨a,b⟩ | ⟨a,b⟩
  ·rw [a];exact I (by rw [<-b];exact r)
  exact ⟨by omega,by omega,by omega,by omega,by omega⟩
 ·have D:=J r;have lv:=V r;refine ⟨D.1,D.2.1,D.2.2.1,D.2.2.2.1,D.2.2.2.2.1,fun h=>?_⟩;rcases hs with ⟨a,b⟩ | ⟨a,b⟩
  ·rw [a];exact D.2.2.2.2.2 (by rw [<-b];exact h)
  omega
 ·have D:=O r;have lv:=X r;refine ⟨D.1,D.2.1,D.2.2.1,D.2.2.2.1,D.2.2.2.2.1,fun h=>?_,D.2.2.2.2.2.2⟩;rcases hs with ⟨a,b⟩ | ⟨a,b⟩
  ·rw [a];exact D.2.2.2.2.2.1 (by rw [<-b];exact h)
  omega
 have H:=k.dP p hp r;have lp:=Zbs (k.rw p hp) r;refine ⟨H.1,H.2.1,H.2.2.1,H.2.2.2.1,H.2.2.2.2.1,fun h=>?_,H.2.2.2.2.2.2⟩;rcases hs with ⟨a,b⟩ | ⟨a,b⟩
 ·rw [a];exact H.2.2.2.2.2.1 (by rw [<-b];exact h)
 omega
theorem ByS.pushV (k:ByS h lo Bc Br B8 M s1 s2 sA sv sT As P T) {D:Sl} (m:Mod (fun j=>sv.nl=false/\j=sv.b) h h1) (o:Ym h1 1 D ((P.map fun p=>p.1.v)++[sT.v])) (hs:(D.b=sv.b/\D.nl=sv.nl)\/(h.size<=D.b/\D.nl=false))
  (m':Mod (fun j=>j=B8) h1 h2) (Z:Xb h2 B8 #[D.v]) (aa:lo<=h.size):ByS h2 lo Bc Br B8 M s1 s2 sA D Sl.nil As (P++[(sT,T)]) []:=by
 have l1:=k.bc.lt;have l2:=k.br.lt;have l3:=k.b8.lt;have l4:=k.mp.lt;have l5:=k.oA.lt;have l7:=k.oT.lt;have X:=k.dA;have O:=k.dV;have U:=k.dT;have dB:=k.dB;have V:=k.oT.row3;have G:D.nl=false->(D.b=sv.b/\sv.nl=false)\/h.size<=D.b:=fun r=>by
  rcases hs with ⟨a,b⟩ | ⟨a,b⟩
  ·exact .inl ⟨a,by rw [<-b];exact r⟩
  exact .inr a
 refine ⟨m'.blk (m.blk k.bc (fun q=>by have:=O q.1;omega)) (by omega),m'.blk (m.blk k.br (fun q=>by have:=O q.1;omega)) (by omega),Z,(k.mp.mod m (fun q=>by have:=O q.1;omega)).mod m' (by omega),(k.oA.mod m (fun r q=>by have:=(O q.1).2.2.2.2.2 r;omega)).mod m' (fun r q=>by have:=X r;omega),?_,Ym.nil,fun p hp=>?_,X,fun r=>?_,fun r=>(by cases r),fun p hp r=>?_,dB⟩
 ·have:=o.mod m' (fun r q=>by
   rcases G r with ⟨a,b⟩ | a
   ·have:=O b;omega
   omega)
  simpa using this
 ·rcases List.mem_append.1 hp with q | q
  ·exact ((k.rw p q).mod m (fun r q'=>by have:=(k.dP p q r).2.2.2.2.2.2.1 q'.1;omega)).mod m' (fun r q'=>by have:=k.dP p q r;omega)
  simp at q;subst q;have R:T≠[]->sT.nl=false:=fun r=>by
   cases H:sT.nl with
   | false=>rfl
   | true =>
    have:=(k.oT.ok.nil H).1;have:=V.len;exact absurd (List.length_eq_zero_iff.1 (by omega)) r
  exact (V.mod m (fun r q'=>by have:=(U (R r)).2.2.2.2.2.2 q'.1;omega)).mod m' (fun r q'=>by have:=U (R r);omega)
 ·rcases G r with ⟨a,b⟩ | a
  ·rw [a];exact O b
  exact ⟨by omega,by omega,by omega,by omega,by omega,fun h=>by have:=l5 h;omega⟩
 rcases List.mem_append.1 hp with q | q
 ·have I:=k.dP p q r;have lp:=Zbs (k.rw p q) r;refine ⟨I.1,I.2.1,I.2.2.1,I.2.2.2.1,I.2.2.2.2.1,I.2.2.2.2.2.1,fun h=>?_,fun h=>(by cases h)⟩;rcases G h with ⟨a,b⟩ | a
  ·rw [a];exact I.2.2.2.2.2.2.1 b
  omega
 simp at q;subst q;have r:T≠[]:=r;have R:sT.nl=false:=by
  cases H:sT.nl with
  | false=>rfl
  | true =>
   have:=(k.oT.ok.nil H).1;have:=V.len;exact absurd (List.length_eq_zero_iff.1 (by omega)) r
 have J:=U R;have lt:=l7 R;refine ⟨J.1,J.2.1,J.2.2.1,J.2.2.2.1,J.2.2.2.2.1,J.2.2.2.2.2.1,fun h=>?_,fun h=>(by cases h)⟩;rcases G h with ⟨a,b⟩ | a
 ·show sT.b≠D.b;rw [a];exact J.2.2.2.2.2.2 b
 show sT.b≠D.b;omega
end
structure Z87 (Y:Sys):Prop where
 G:WkG Y
 S:Zs5 Y
 byArcs:Y.Has 396 Y396
 next:Y.Has 438 Y438
def Xi (N:Zr) (a:Nat):Zb:=if Yf N.vs.length (toV N a) then Qd N.as (toV N a) else []
def Zl1 (P:List (Sl × List Xe)) (k:Nat):List Xe:=(P.map fun p=>p.2).getD k []
structure ByP (N:Zr) (ins outs As:Zb) (P:List (Sl × List Xe)):Prop where
 once:Zf3 As
 nat:∀ k,k<As.length->∃ a:Nat,Zl As k=a/\a<N.as.length
 li:ins.length<=As.length
 pre:∀ k,k<ins.length->Zl As k=Zl ins k
 lp:P.length<=As.length
 row:∀ k,k<P.length->AOk N outs As (Zl As k).toNat (Xi N (Zl As k).toNat) (Zl1 P k)
theorem Zn3 {P Q:List (Sl × List Xe)} {k:Nat} (h:k<P.length):Zl1 (P++Q) k=Zl1 P k:=by simp [Zl1,Xgh,h]
theorem Znp {P:List (Sl × List Xe)} {p:Sl × List Xe}:Zl1 (P++[p]) P.length=p.2:=by simp [Zl1]
theorem Zry {P:List (Sl × List Xe)} {k:Nat} (h:k<P.length):∃ p,p∈P/\P[k]? = some p/\p.2=Zl1 P k:=⟨P[k],Xgf h,by simp [h],by simp [Zl1,h]⟩
theorem ByP.addA {N:Zr} {ins outs As:Zb} {P:List (Sl × List Xe)} (b:ByP N ins outs As P) {x:Nat} (hx:(x:Int) ∉ As) (D:x<N.as.length):ByP N ins outs (As++[(x:Int)]) P:=by
 refine ⟨b.once.snoc hx,fun k r=>?_,by have:=b.li;simp;omega,fun k r=>by rw [Uj (by have:=b.li;omega)];exact b.pre k r,by have:=b.lp;simp;omega,fun k r=>?_⟩
 ·simp at r;rcases Xf0 k As.length with q | q
  ·rw [Uj q];exact b.nat k q
  have:k=As.length:=by omega
  subst this;rw [Zdo];exact ⟨x,rfl,D⟩
 have:=b.lp;rw [Uj (by omega)];exact (b.row k r).mono
theorem ByP.addP {N:Zr} {ins outs As:Zb} {P:List (Sl × List Xe)} (b:ByP N ins outs As P) {p:Sl × List Xe} (G:P.length<As.length) (r:AOk N outs As (Zl As P.length).toNat (Xi N (Zl As P.length).toNat) p.2):ByP N ins outs As (P++[p]):=by
 refine ⟨b.once,b.nat,b.li,b.pre,by simp;omega,fun k D=>?_⟩;simp at D;rcases Xf0 k P.length with q | q
 ·rw [Zn3 q];exact b.row k q
 have:k=P.length:=by omega
 subst this;rw [Znp];exact r
theorem Vj {h:Zk} {s:Sl} {l:Zb} (r:Yd h s l) (D:l≠[]):s.b<h.size:=by
 have:0<l.length:=by cases l with
  | nil=>exact absurd rfl D
  | cons=>simp
 have:=r.val 0 this;exact Xgq fun q=>by simp [hc,Xhx (Nat.not_lt.1 q)] at this
section
variable {Y:Sys} {h h':Zk} {p:Nat} {N:Zr} {S:Zf}
theorem Z9 {K:Ze} {r D G x y z:Value} (H:∀ (b:Nat) (h':Zk),h.size<=b->Xb h' b #[x,y,z]->Ext h h'->K (.slice (some ⟨b,0,none⟩) 1 1) h') :
  Ef.wp h K (.bslice 1 3 #[r,D,G] [0]) [.agg #[x,y,z]]:=by
 rw [Zd3];exact fun t=>H _ _ (Xfy _) Xb.new Mod.push
theorem Zci {a:Nat}:(Xi N a).length<=N.as.length:=by
 unfold Xi
 split
 ·unfold Qd;rw [Q8];exact Xgz ..
 simp
theorem Zgv {a b:Nat} (h:Yr N a b≠Xq):(b:Int)∈Xi N a:=by
 obtain ⟨r,D⟩:=Z7p h;have G:=(Zlt h).1;have H:toV N (a:Int)=(Zp N.as a).b:=by unfold toV;rw [if_pos G];simp
 unfold Xi;rw [H,if_pos r];exact D
theorem U5 {a k:Nat} (D:k<(Xi N a).length):∃ b:Nat,Zl (Xi N a) k=b/\b<N.as.length:=by
 have r:=Zw.2 ⟨k,D,rfl⟩;revert r;generalize Zl (Xi N a) k=x;unfold Xi
 split
 ·intro r;obtain ⟨b,h1,G,_⟩:=Zri.1 r;exact ⟨b,G,h1⟩
 intro r;simp at r
def Ba0 (p Bc Br M:Nat) (s1 s2 sA:Sl) (v0 v1:Value) (ins:Zb) (h0:Zk) (e:Zc) (h':Zk):Prop :=
 ∃ (i:Nat) (v6 v7 v8 v9 v10 v11 v12 v13 v14 v15 v16 v17 v18 v19 v23 v24 v25 v26 v27 v28 v29 v30 v31 v32 v33 v34 v35:Value),e=[v0,v1,.pointer (some ⟨Bc,0,none⟩),.pointer (some ⟨Br,0,none⟩),sA.v,.map (some M),v6,v7,v8,v9,v10,v11,v12,v13,v14,v15,v16,v17,v18,v19,sA.v,.int .i64 sA.n,.int .i64 i,v23,v24,v25,v26,v27,v28,v29,v30,v31,v32,v33,v34,v35]/\i<=ins.length/\Zc7 h' M (Vp (ins.take i) 0)/\Mod (fun j=>j=M) h0 h'
def Ba2 (lo Bc Br B8 M:Nat) (s1 s2:Sl) (v0 v1:Value) (N:Zr) (ins outs:Zb) (h0:Zk) (e:Zc) (h':Zk):Prop :=
 ∃ (i:Nat) (sA sv:Sl) (As:Zb) (P:List (Sl × List Xe)) (v6 v7 v10 v11 v12 v13 v14 v15 v16 v17 v18 v19 v20 v21 v22 v23 v24 v25 v26 v27 v28 v29 v30 v31 v32 v33 v34 v35:Value),
  e=[v0,v1,.pointer (some ⟨Bc,0,none⟩),.pointer (some ⟨Br,0,none⟩),sA.v,.map (some M),v6,v7,.pointer (some ⟨B8,0,none⟩),.int .i64 i,v10,v11,v12,v13,v14,v15,v16,v17,v18,v19,v20,v21,v22,v23,v24,v25,v26,v27,v28,v29,v30,v31,v32,v33,v34,v35]/\P.length=i/\ByS h' lo Bc Br B8 M s1 s2 sA sv Sl.nil As P []/\ByP N ins outs As P/\Ext h0 h'
def Ba4 (lo Bc Br B8 M a i:Nat) (s1 s2 u:Sl) (v0 v1:Value) (N:Zr) (ins outs:Zb) (h0:Zk) (e:Zc) (h':Zk):Prop :=
 ∃ (j:Nat) (sA sv sT:Sl) (As:Zb) (P:List (Sl × List Xe)) (T:List Xe) (v6 v7 v12 v13 v14 v15 v16 v17 v18 v19 v20 v21 v22 v23 v24 v28 v29 v30 v31 v32 v33 v34 v35:Value),
  e=[v0,v1,.pointer (some ⟨Bc,0,none⟩),.pointer (some ⟨Br,0,none⟩),sA.v,.map (some M),v6,v7,.pointer (some ⟨B8,0,none⟩),.int .i64 i,.int .i64 a,sT.v,v12,v13,v14,v15,v16,v17,v18,v19,v20,v21,v22,v23,v24,u.v,.int .i64 u.n,.int .i64 j,v28,v29,v30,v31,v32,v33,v34,v35]/\P.length=i/\i<As.length/\Zl As i=a/\j<=(Xi N a).length/\ByS h' lo Bc Br B8 M s1 s2 sA sv sT As P T/\ByP N ins outs As P/\AOk N outs As a ((Xi N a).take j) T/\Yd h' u (Xi N a) /\
  (u.nl=false->lo<=u.b/\u.b≠Bc/\u.b≠Br/\u.b≠B8/\u.b≠M/\(sA.nl=false->u.b≠sA.b)/\(sv.nl=false->u.b≠sv.b)/\(sT.nl=false->u.b≠sT.b))/\Ext h0 h'
def Ba6 (lo Bc Br B8 M D:Nat) (v0 v1:Value) (sA sv s1 s2:Sl) (As:Zb) (P:List (Sl × List Xe)) (n:Nat) (h0:Zk) (e:Zc) (h':Zk):Prop :=
 ∃ (i:Nat) (ss:Sl) (v6 v7 v9 v10 v11 v12 v13 v14 v15 v16 v17 v19 v20 v21 v22 v23 v24 v25 v26 v27 v28 v29 v30 v31 v32 v35:Value),
  e=[v0,v1,.pointer (some ⟨Bc,0,none⟩),.pointer (some ⟨Br,0,none⟩),sA.v,.map (some M),v6,v7,.pointer (some ⟨B8,0,none⟩),v9,v10,v11,v12,v13,v14,v15,v16,v17,.pointer (some ⟨D,0,none⟩),v19,v20,v21,v22,v23,v24,v25,v26,v27,v28,v29,v30,v31,v32,.int .i64 n,.int .i64 i,v35]/\i<=n /\
  Xb h' D #[.int .i64 As.length,ss.v,.nilFunc]/\Ym h' 1 ss (Zq ((List.range i).map fun (k:Nat)=>(k:Int)))/\(ss.nl=false->h0.size<=ss.b)/\Mod (fun j=>j=D) h0 h'
set_option maxHeartbeats 2000000 in
theorem Ztk (X:Z87 Y) (g:Xc h p N S) (ok:Yl N) {Z s2:Sl} {ins outs:Zb} (r1:Yd h Z ins) (r2:Yd h s2 outs) (ri:Zcb ins) (ro:Zcb outs) (al:∀ k,k<ins.length->∃ a:Nat,Zl ins k=a/\a<N.as.length) (bn:outs.length<=16384)
  {R:Ze} (hr:∀ h' As st ss fv,Ext h h'->Z41 N outs As st->ins.length<=As.length->(∀ k,k<ins.length->Zl As k=Zl ins k)->Yd h' ss ((List.range ins.length).map fun (k:Nat)=>(k:Int))->Zl0 Y h' fv As.length st->fv.oneCell'=true->R (.agg #[.int .i64 As.length,ss.v,fv]) h') :
  Zv Y 396 [.pointer (some ⟨p,0,none⟩),.agg #[Z.v,s2.v]] h R:=by
 have ba:=ok.ba;have l1:=r1.len;have l2:=r2.len;have bo:ins.length<=N.as.length:=Zdr ri.once al;refine .of_has X.byArcs rfl ?_;simp [Y396,Xm.wp];refine Zn ?_;intro Bc ha aR Bca ea;replace Bca:Xb ha Bc #[Z.v,s2.v]:=Bca;simp;refine Zn ?_;intro Br hb aS Brb eb;replace Brb:Xb hb Br #[.int .i64 0,.slice none 0 0,.nilFunc]:=Brb;have xb:=ea.trans eb;have Bcb:=Bca.ext eb;simp [Bcb.hc];refine Ze7 X.G.CI (r1.ext xb) (by omega) ?_;intro hc' H ec oA nA;have xc:=xb.trans ec;have zb:=eb.size;have za:=ea.size;have zc:=ec.size;have la:=Bca.lt;have lb:=Brb.lt;simp;refine Znv ?_;intro M hd gM mM ed;have lM:=mM.lt;have xd:=xc.trans ed;have zd:=ed.size;simp;have af:=oA.row64.len;refine Zt (Ba0 p Bc Br M Z s2 H (.pointer (some ⟨p,0,none⟩)) (.agg #[Z.v,s2.v]) ins hd) (fun e _=>ins.length-Zy e 22) ⟨0,_,_,_,_,_,_,_,_,_,_,_,_,_,_,_,_,_,_,_,_,_,_,_,_,_,_,_,rfl,by omega,by simpa [Vp] using mM,Mod.refl _⟩ ?_;rintro e he ⟨i,v6,v7,v8,v9,aT,aU,am,an,ao,ap,aq,ar,au,av,aw,ax,aV,aW,aX,ay,az,aA,aB,aC,aD,aE,aF,rfl,hi,mi,me⟩;by_cases c:i<ins.length
 ·have c':(i:Int)<H.n:=by omega
  have w1:=Zj (i:=i) (by omega);have rA:=oA.row64.ext ed;have aY:=rA.mod me (fun r q=>by
   have:H.nl=false:=by
    cases U:H.nl with
    | false=>rfl
    | true=>have:=(oA.ok.nil U).1;omega
   have:=oA.lt this;omega)
  have vv:=aY.val i c;simp [c',Zm rA.ok,vv];refine Zmg mi ?_ ?_
  ·rw [U8,if_neg];intro hm;obtain ⟨k,lk,ek⟩:=Zw.1 hm;simp at lk;have:Zl ins k=Zl ins i:=by rw [<-ek];simp [Zl,show k<i by omega]
   have:=ri.once k i (by omega) c this;omega
  intro hf mf m';simp [w1];refine ⟨⟨i+1,_,_,_,_,_,_,_,_,_,_,_,_,_,_,_,_,_,_,_,_,_,_,_,_,_,_,_,rfl,by omega,?_,me.trans m'⟩,by simp [Zy];omega⟩;have ht:ins.take (i+1)=ins.take i++[Zl ins i]:=by rw [Xgc c];simp [Zl,c]
  rw [ht,Ze6];have:0+(ins.take i).length=i:=by simp;omega
  rw [this];exact mf
 have c':¬ (i:Int)<H.n:=by omega
 have aG:Zc7 he M (Vp ins 0):=by rw [Xf7 (by omega)] at mi;exact mi
 have xe:Ext h he:=Mod.ext xd me (fun j V=>by omega);have ze:=me.size;simp [c'];refine Zn ?_;intro B8 hf aZ B8f ef;replace B8f:Xb hf B8 #[.slice none 0 0]:=B8f;have l8:=B8f.lt;have zf:=ef.size;have xf:=xe.trans ef;have k0:ByS hf h.size Bc Br B8 M Z s2 H Sl.nil Sl.nil ins [] []:=by
  refine ⟨(me.blk ((Bcb.ext ec).ext ed) (by omega)).ext ef,(me.blk ((Brb.ext ec).ext ed) (by omega)).ext ef,B8f,aG.ext ef,((oA.ext' ed).mod me (fun r=>by have:=oA.lt r;omega)).ext' ef,Ym.nil,Ym.nil,fun p hp=>by simp at hp,fun r=>?_,fun r=>(by cases r),fun r=>(by cases r),fun p hp=>by simp at hp,by omega⟩;have:=oA.lt r;have:=nA r;omega
 have p0:ByP N ins outs ins []:=⟨ri.once,al,Xfy _,fun k hk=>rfl,by simp,fun k hk=>by simp at hk⟩
 simp;refine Zt (Ba2 h.size Bc Br B8 M Z s2 (.pointer (some ⟨p,0,none⟩)) (.agg #[Z.v,s2.v]) N ins outs h) (fun e _=>N.as.length-Zy e 9) ⟨0,H,Sl.nil,ins,[],_,_,_,_,_,_,_,_,_,_,_,_,_,_,_,_,_,_,_,_,_,_,_,_,_,_,_,_,rfl,rfl,k0,p0,xf⟩ ?_;clear p0 k0 xf zf l8 B8f aZ ef ze xe aG c' me mi c hi zd xd lM mM gM ed lb la zc za zb xc nA oA ec Bcb xb Brb aS eb Bca aR ea af;rintro e hg ⟨i,H,sv,As,P,v6,v7,aT,aU,am,an,ao,ap,aq,ar,au,av,a0,a1,a2,aw,ax,aV,aW,aX,ay,az,aA,aB,aC,aD,aE,aF,rfl,lP,I,pg,xg⟩;have aH:As.length<=N.as.length:=Zdr pg.once pg.nat
 have lA:=I.oA.row64.len;have zg:=xg.size;by_cases c:i<As.length;rotate_left
 ·have c':¬ (i:Int)<H.n:=by omega
  have bp:P.length=As.length:=by have:=pg.lp;omega
  have aa:∀ g,Yo.sem Y g (.build #[.int .i64 0,.slice none 0 0,.nilFunc] [(0,1),(1,1),(2,1)] [0]) [.int .i64 H.n]=some (.agg #[.int .i64 As.length,.slice none 0 0,.nilFunc]):=fun g=>by rw [lA];rfl
  simp [c',aa];refine Zn ?_;intro D hh gD Dh eh;replace Dh:Xb hh D #[.int .i64 0,.slice none 0 0,.nilFunc]:=Dh;have lD:=Dh.lt;simp;refine Zs (vs:=#[.int .i64 As.length,.slice none 0 0,.nilFunc]) Dh rfl rfl (by intro v hv;simp at hv;rcases hv with rfl | rfl | rfl <;> rfl) ?_;intro V Dj mj;have zj:=mj.size;have ej:Ext hg V:=Mod.toExtF eh mj gD;have kj:=I.ext ej;simp [kj.bc.hc];refine Zt (Ba6 h.size Bc Br B8 M D (.pointer (some ⟨p,0,none⟩)) (.agg #[Z.v,s2.v]) H sv Z s2 As P Z.n V) (fun e _=>Z.n-Zy e 34) ⟨0,Sl.nil,_,_,_,_,_,_,_,_,_,_,_,_,_,_,_,_,_,_,_,_,_,_,_,_,_,_,rfl,by omega,Dj,Ym.nil,fun h=>(by cases h),Mod.refl _⟩ ?_;rintro e hk ⟨q,ss,w6,w7,w9,bq,bs,bu,bv,bw,bx,bz,bA,bB,bC,bD,bE,bF,bG,bH,bJ,bK,bL,bM,bN,bO,bP,bQ,rfl,hq,Dk,os,ns,mk⟩;have a3:=os.1;simp at a3;by_cases cq:q<Z.n
  ·have ai:(q:Int)<Z.n:=by omega
   have w1:=Zj (i:=q) (by omega);simp [ai,Dk.hc];refine Xp rfl ?_;intro b hl gl Bl J;have zk:=mk.size;simp;refine Wg rfl (os.ext' J) Bl (by omega) (by omega) ?_;intro ag hm om nm mm hs;have Dm:=mm.blk (Dk.ext J) (fun e=>by have:=ns e.1;omega);simp;refine stB Dm (by simp) ?_;intro r Dn mn;simp at Dn;have on:Ym r 1 ag (Zq ((List.range (q+1)).map fun (k:Nat)=>(k:Int))):=by
    have:=om.mod mn (fun ac e=>by
     rcases hs with ⟨x,y⟩ | ⟨x,y⟩
     ·have:=ns (by rw [<-y];exact ac);omega
     have:=J.size;omega)
    rw [Xh4];simpa [Zq] using this
   have a4:ag.nl=false->V.size<=ag.b:=fun ac=>by
    rcases hs with ⟨x,y⟩ | ⟨x,y⟩
    ·have:=ns (by rw [<-y];exact ac);omega
    have:=J.size;omega
   have e1:Mod (fun j=>j=D) V r:=by
    refine ⟨by have:=mk.size;have:=J.size;have:=mm.size;have:=mn.size;omega,fun i hi O=>?_⟩;have:=mk.size;have:=J.size;have:=mm.size;rw [mn.get i (by omega) O,mm.get i (by omega) (fun e=>by have:=ns e.1;omega),J.get i (by omega) (fun h=>h),mk.get i hi O]
   simp [w1];exact ⟨⟨q+1,ag,_,_,_,_,_,_,_,_,_,_,_,_,_,_,_,_,_,_,_,_,_,_,_,_,_,_,rfl,by omega,Dn,on,a4,e1⟩,by simp [Zy];omega⟩
  have ai:¬ (q:Int)<Z.n:=by omega
  have:q=Z.n:=by omega
  subst this;have a5:∀ g,Yo.sem Y g (.mkf 438 0) [.pointer (some ⟨B8,0,none⟩)]=some (.func (.func (Y.fid 438)) #[] #[.pointer (some ⟨B8,0,none⟩)]):=fun g=>rfl;simp [ai,a5];rw [Zsg];refine stB Dk (by simp) ?_;intro hl Dl ml;simp at Dl;have zk:=mk.size;have zl:=ml.size;have Brk:=mk.blk kj.br (by have:=I.br.lt;omega);have Brl:=ml.blk Brk (by have:=I.br.lt;omega);simp [Yj Dl];refine Zs (vs:=#[.int .i64 As.length,ss.v,.func (.func (Y.fid 438)) #[] #[.pointer (some ⟨B8,0,none⟩)]]) Brl rfl rfl (by intro v hv;simp at hv;rcases hv with rfl | rfl | rfl <;> rfl) ?_;intro hm Bm mm;have bR:=I.br.lt;simp;refine Xj rfl Bm rfl ?_;have dB:=I.dB;have e2:Mod (fun j=>j=Br\/hg.size<=j) hg hm:=by
   refine ⟨by have:=mm.size;omega,fun i hi O=>?_⟩;rw [mm.get i (by omega) (fun e=>O (.inl e)),ml.get i (by omega) (by omega),mk.get i (by omega) (by omega),ej.get i (by omega) (fun h=>h)]
  have xm:Ext h hm:=Mod.ext xg e2 (fun j V=>by omega);have bS:=I.b8.lt;have B8m:=e2.blk I.b8 (by omega);have aI:=I.oV.mod e2 (fun r=>by have:=I.oV.lt r;have:=I.dV r;omega);have lV:=I.oV.1;simp at lV;refine hr hm As (Zl1 P) ss _ xm ⟨pg.once,pg.nat,fun k hk=>⟨_,fun b hb=>Zgv hb,pg.row k (by omega)⟩,fun k hk=>by simp [Zl1,show P.length<=k by omega]⟩ pg.li pg.pre ?_ ?_ rfl
  ·have:=(os.mod ml (fun r=>by have:=ns r;omega)).mod mm (fun r=>by have:=ns r;omega);rw [l1];exact this.row64
  refine Z0j X.next ⟨⟨sv,B8m,aI.ok,by omega,fun k hk=>?_⟩,fun k hk=>?_⟩
  ·obtain ⟨pp,hp,a6,a7⟩:=Zry (P:=P) (k:=k) (by omega);refine ⟨pp.1,aI.cell (by simp [a6]),?_⟩;rw [<-a7];exact (I.rw pp hp).mod e2 (fun r=>by have:=I.dP pp hp r;have:=Zbs (I.rw pp hp) r;omega)
  have:=(pg.row k (by omega)).len;have:=Zci (N:=N) (a:=(Zl As k).toNat);omega
 have c':(i:Int)<H.n:=by omega
 have c2:i<H.n:=by omega
 obtain ⟨a,ea,bT⟩:=pg.nat i c;have va:=I.oA.row64.val i c;rw [ea] at va;have lo:=Zci (N:=N) (a:=a);simp [c',Zm I.oA.ok,va];refine Z2 X.G.To X.G.arc (g.ext xg) ?_;simp;refine Zgh X.G.Outs X.G.vert X.G.CI (g.ext xg) (by omega) ?_;intro hh u eh ou nu;rw [show (if Yf N.vs.length (toV N (a:Int)) then Qd N.as (toV N (a:Int)) else [])=Xi N a from rfl] at ou;have lu:=ou.row64.len;have zh:=eh.size;simp;refine Zt (Ba4 h.size Bc Br B8 M a i Z s2 u (.pointer (some ⟨p,0,none⟩)) (.agg #[Z.v,s2.v]) N ins outs h) (fun e _=>(Xi N a).length-Zy e 27) ⟨0,H,sv,Sl.nil,As,P,[],_,_,_,_,_,_,_,_,_,_,_,_,_,_,_,_,_,_,_,_,_,_,_,rfl,lP,c,ea,by omega,I.ext eh,pg,by simpa using AOk.nil,ou.row64,fun r=>?_,xg.trans eh⟩ ?_
 ·have h1:=nu r;have l1:=I.bc.lt;have l2:=I.br.lt;have l3:=I.b8.lt;have l4:=I.mp.lt;exact ⟨by omega,by omega,by omega,by omega,by omega,fun h=>by have:=I.oA.lt h;omega,fun h=>by have:=I.oV.lt h;omega,fun h=>(by cases h)⟩
 clear lA zg c' c2 va lo ou nu zh eh pg I xg aH c ea lP;rintro e hk ⟨j,H,sv,sT,As,P,T,v6,v7,am,an,ao,ap,aq,ar,au,av,a0,a1,a2,aw,ax,ay,az,aA,aB,aC,aD,aE,aF,rfl,lP,c,ea,V,kk,pk,tk,ru,du,xk⟩;have aH:As.length<=N.as.length:=Zdr pk.once pk.nat
 have bU:=Zci (N:=N) (a:=a);have zk:=xk.size;have lT:=tk.len;simp at lT;have nT:=kk.oT.n3;simp at nT;have nV:=kk.oV.1;simp at nV;by_cases cj:j<(Xi N a).length;rotate_left
 ·have aj:¬ (j:Int)<u.n:=by omega
  have ht:(Xi N a).take j=Xi N a:=Xf7 (by omega);rw [ht] at tk;have w1:=Zj (i:=i) (by omega);simp [aj,kk.b8.hc];refine Xp rfl ?_;intro b hl gl Bl J;simp;refine Wg rfl ((kk.oV).ext' J) Bl (by omega) (by omega) ?_;intro a8 hm om nm mm hs;have B8m:=(mm.blk (kk.b8.ext J) (fun q=>by have:=(kk.dV q.1);omega))
  simp;refine stB B8m (by simp) ?_;intro r B8n mn;simp at B8n;have kn:=(kk.ext J).pushV mm om hs mn B8n (by have:=J.size;omega);have xn:Ext h r:=Mod.ext (Mod.ext (xk.trans J) mm (fun j V=>by have:=(kk.dV V.1);omega)) mn (fun j V=>by have:=kk.dB;omega);simp [w1];refine ⟨⟨i+1,H,a8,As,P++[(sT,T)],_,_,_,_,_,_,_,_,_,_,_,_,_,_,_,_,_,_,_,_,_,_,_,_,_,_,_,_,rfl,by simp [lP],kn,pk.addP (by omega) (by rw [lP,ea];exact tk),xn⟩,by simp [Zy];omega⟩
 have aj:(j:Int)<u.n:=by omega
 have bV:j<u.n:=by omega
 have w1:=Zj (i:=j) (by omega);obtain ⟨b,eb,a9⟩:=U5 cj;have vb:=ru.val j cj;rw [eb] at vb;have ht:(Xi N a).take (j+1)=(Xi N a).take j++[(b:Int)]:=by rw [Xgc cj,<-eb];simp [Zl,cj]
 simp [aj,Zm ru.ok,vb];refine Zgu X.G.Turn X.G.arc X.G.T (g.ext xk) ok ?_;intro hl J;have xl:=xk.trans J;have kl:=kk.ext J;simp;refine Z8 X.G.Weight X.G.arc (g.ext xl) ?_;have tc:=Wq ok (a:=(a:Int)) (b:=(b:Int));have wc:=Ve ok (a:=(b:Int));by_cases t1:Yr N a b=1152921504606846976
 ·simp [t1,w1];exact ⟨⟨j+1,H,sv,sT,As,P,T,_,_,_,_,_,_,_,_,_,_,_,_,_,_,_,_,_,_,_,_,_,_,_,rfl,lP,c,ea,by omega,kl,pk,by rw [ht];exact tk.skip (.inl t1),ru.ext J,du,xl⟩,by simp [Zy];omega⟩
 have bb:¬ 1152921504606846976<=Yr N a b:=by have:=tc.resolve_left t1;omega
 simp [bb,kl.bc.hc];have r2l:=r2.ext xl;refine Zbl X.S r2l (by omega) ro ?_;by_cases m1:(b:Int)∈outs
 ·obtain ⟨o,lo,eo⟩:=Zw.1 m1;have pf:=Xv ro.once lo;rw [eo] at pf;rw [pf];have aa:∀ g,Yo.sem Y g (.build #[.int .i64 0,.int .i64 0,.int .i64 0] [(0,1),(1,1),(2,1)] [1,2]) [.int .i64 o,.int .i64 (Yr N a b)]=some (.agg #[.int .i64 0,.int .i64 o,.int .i64 (Yr N a b)]):=fun g=>rfl;simp [aa];refine Z9 ?_;intro q hm gq Bq em;have km:=kl.ext em;have xm:=xl.trans em;simp;refine Up rfl km.oT Bq rfl rfl rfl (by omega) (by omega) ?_;intro ad O on mn hs;simp [w1];have e3:Ye (List.map Xz T++[(.int .i64 0,.int .i64 o,.int .i64 (Yr N a b))])=Ye ((T++[(⟨0,o,Yr N a b⟩:Xe)]).map Xz):=by simp [Xz]
  rw [e3] at on;have xn:Ext h O:=Mod.ext xm mn (fun j V=>by have:=(kk.dT V.1);omega);have rn:=((ru.ext J).ext em).mod mn (fun ac q=>by
   have hu:u.nl=false:=by
    cases U:u.nl with
    | false=>rfl
    | true=>have:=(ru.ok.nil U).1;omega
   have:=(du hu).2.2.2.2.2.2.2 q.1;omega)
  refine ⟨⟨j+1,H,sv,ad,As,P,_,_,_,_,_,_,_,_,_,_,_,_,_,_,_,_,_,_,_,_,_,_,_,_,rfl,lP,c,ea,by omega,km.pushT mn on hs (by have:=xm.size;omega),pk,by rw [ht];exact tk.out lo eo t1,rn,fun r=>?_,xn⟩,by simp [Zy];omega⟩;have d:=du r;refine ⟨d.1,d.2.1,d.2.2.1,d.2.2.2.1,d.2.2.2.2.1,d.2.2.2.2.2.1,d.2.2.2.2.2.2.1,fun h=>?_⟩;rcases hs with ⟨x,y⟩ | ⟨x,y⟩
  ·rw [x];exact d.2.2.2.2.2.2.2 (by rw [<-y];exact h)
  have:=Vj (ru.ext (J.trans em)) (l:=Xi N a) (fun e=>by rw [e] at cj;simp at cj);omega
 have pf:=Zd0 m1;rw [pf];simp;by_cases t2:Zu N b=1152921504606846976
 ·simp [t2,w1];exact ⟨⟨j+1,H,sv,sT,As,P,T,_,_,_,_,_,_,_,_,_,_,_,_,_,_,_,_,_,_,_,_,_,_,_,rfl,lP,c,ea,by omega,kl,pk,by rw [ht];exact tk.skip (.inr ⟨m1,t2⟩),ru.ext J,du,xl⟩,by simp [Zy];omega⟩
 have aJ:¬ 1152921504606846976<=Zu N b:=by have:=wc.resolve_left t2;omega
 have wt:IntKind.i64.wrap (Yr N a b+Zu N b)=Yr N a b+Zu N b:=by
  have:=tc.resolve_left t1;have:=wc.resolve_left t2;exact Zo (by omega)
 have ab:=Znd (Y:=Y) kl.mp (x:=(b:Int)) (z:=.int .i64 0);rw [U8] at ab;by_cases m2:(b:Int)∈As
 ·obtain ⟨k,lk,ek⟩:=Zw.1 m2;have aK:=Xv pk.once lk;rw [ek] at aK;rw [if_pos m2,aK] at ab;simp at ab;simp [aJ,ab,wt];have aa:∀ g,Yo.sem Y g (.build #[.int .i64 0,.int .i64 0,.int .i64 0] [(0,1),(1,1),(2,1)] [0,1,2]) [.int .i64 ((k:Nat):Int),.int .i64 (-1),.int .i64 (Yr N a b+Zu N b)]=some (.agg #[.int .i64 ((k:Nat):Int),.int .i64 (-1),.int .i64 (Yr N a b+Zu N b)]):=fun g=>rfl;simp [aa];refine Z9 ?_;intro q hm gq Bq em;have km:=kl.ext em;have xm:=xl.trans em;simp;refine Up rfl km.oT Bq rfl rfl rfl (by omega) (by omega) ?_;intro ad O on mn hs;simp [w1];have e3:Ye (List.map Xz T++[(.int .i64 ((k:Nat):Int),.int .i64 (-1),.int .i64 (Yr N a b+Zu N b))])=Ye ((T++[(⟨((k:Nat):Int),-1,Yr N a b+Zu N b⟩:Xe)]).map Xz):=by simp [Xz]
  rw [e3] at on;have xn:Ext h O:=Mod.ext xm mn (fun j V=>by have:=(kk.dT V.1);omega);have rn:=((ru.ext J).ext em).mod mn (fun ac q=>by
   have hu:u.nl=false:=by
    cases U:u.nl with
    | false=>rfl
    | true=>have:=(ru.ok.nil U).1;omega
   have:=(du hu).2.2.2.2.2.2.2 q.1;omega)
  refine ⟨⟨j+1,H,sv,ad,As,P,_,_,_,_,_,_,_,_,_,_,_,_,_,_,_,_,_,_,_,_,_,_,_,_,rfl,lP,c,ea,by omega,km.pushT mn on hs (by have:=xm.size;omega),pk,by rw [ht];exact AOk.go tk lk ek m1 t1 t2,rn,fun r=>?_,xn⟩,by simp [Zy];omega⟩;have d:=du r;refine ⟨d.1,d.2.1,d.2.2.1,d.2.2.2.1,d.2.2.2.2.1,d.2.2.2.2.2.1,d.2.2.2.2.2.2.1,fun h=>?_⟩;rcases hs with ⟨x,y⟩ | ⟨x,y⟩
  ·rw [x];exact d.2.2.2.2.2.2.2 (by rw [<-y];exact h)
  have:=Vj ((ru.ext J).ext em) (l:=Xi N a) (fun e=>by rw [e] at cj;simp at cj);omega
 have bd:Za6 (Vp As 0) (b:Int)=none:=by rw [U8,if_neg m2]
 rw [if_neg m2] at ab;simp at ab;have af:=kl.oA.row64.len;simp [aJ,ab];refine Zmg kl.mp bd ?_;intro bW aL m1m;have be:Vp As 0++[((b:Int),Value.int .i64 H.n)]=Vp (As++[(b:Int)]) 0:=by rw [Ze6,<-af];simp
 rw [be] at aL;simp;refine Xp rfl ?_;intro q2 bX bY Bq2 ae;have bg:=(kl.oA.mod m1m (fun r=>by have:=kk.dA r;omega)).ext' ae;simp;refine Wg rfl bg Bq2 (by omega) (by omega) ?_;intro ah ak bh bZ m3 aM;have aN:Ym ak 1 ah (Zq (As++[(b:Int)])):=by simpa [Zq] using bh
 have k3:=kl.addA m1m aL ae m3 aN aM (by have:=xl.size;omega);have x3:Ext h ak:=Mod.ext (Mod.ext xl m1m (fun j V=>by have:=kk.dB;omega) |>.trans ae) m3 (fun j V=>by have:=kk.dA V.1;omega);have bi:=pk.addA m2 a9;have bj:H.n<(As++[(b:Int)]).length:=by simp;omega
 have bk:Zl (As++[(b:Int)]) H.n=(b:Int):=by rw [<-af];exact Zdo
 have bm:u.nl=false->u.b<hl.size:=fun r=>Vj (ru.ext J) (fun e=>by rw [e] at cj;simp at cj);have aO:u.nl=false:=by
  cases U:u.nl with
  | false=>rfl
  | true=>have:=(ru.ok.nil U).1;omega
 have aP:Yd ak u (Xi N a):=(((ru.ext J).mod m1m (fun _ q=>by have:=du aO;omega)).ext ae).mod m3 (fun _ q=>by have:=(du aO).2.2.2.2.2.1 q.1;omega);have aQ:u.nl=false->h.size<=u.b/\u.b≠Bc/\u.b≠Br/\u.b≠B8/\u.b≠M/\(ah.nl=false->u.b≠ah.b)/\(sv.nl=false->u.b≠sv.b)/\(sT.nl=false->u.b≠sT.b):=fun r=>by
  have d:=du r;refine ⟨d.1,d.2.1,d.2.2.1,d.2.2.2.1,d.2.2.2.2.1,fun h=>?_,d.2.2.2.2.2.2⟩;rcases aM with ⟨x,y⟩ | ⟨x,y⟩
  ·rw [x];exact d.2.2.2.2.2.1 (by rw [<-y];exact h)
  have:=bm r;have:=m1m.size;have:=ae.size;omega
 simp [wt];have aa:∀ g,Yo.sem Y g (.build #[.int .i64 0,.int .i64 0,.int .i64 0] [(0,1),(1,1),(2,1)] [0,1,2]) [.int .i64 ((H.n:Nat):Int),.int .i64 (-1),.int .i64 (Yr N a b+Zu N b)]=some (.agg #[.int .i64 ((H.n:Nat):Int),.int .i64 (-1),.int .i64 (Yr N a b+Zu N b)]):=fun g=>rfl;simp [aa];refine Z9 ?_;intro q hm gq Bq em;have km:=k3.ext em;have xm:=x3.trans em;simp;refine Up rfl km.oT Bq rfl rfl rfl (by omega) (by omega) ?_;intro ad O on mn hs;simp [w1];have e3:Ye (List.map Xz T++[(.int .i64 ((H.n:Nat):Int),.int .i64 (-1),.int .i64 (Yr N a b+Zu N b))])=Ye ((T++[(⟨((H.n:Nat):Int),-1,Yr N a b+Zu N b⟩:Xe)]).map Xz):=by simp [Xz]
 rw [e3] at on;have xn:Ext h O:=Mod.ext xm mn (fun j V=>by have:=(kk.dT V.1);omega);have rn:=((aP).ext em).mod mn (fun ac q=>by
  have hu:u.nl=false:=by
   cases U:u.nl with
   | false=>rfl
   | true=>have:=(ru.ok.nil U).1;omega
  have:=(aQ hu).2.2.2.2.2.2.2 q.1;omega)
 refine ⟨⟨j+1,ah,sv,ad,(As++[(b:Int)]),P,_,_,_,_,_,_,_,_,_,_,_,_,_,_,_,_,_,_,_,_,_,_,_,_,rfl,lP,(by simp;omega),(by rw [Uj c];exact ea),by omega,km.pushT mn on hs (by have:=xm.size;omega),bi,by rw [ht];exact AOk.go tk.mono bj bk m1 t1 t2,rn,fun r=>?_,xn⟩,by simp [Zy];omega⟩;have d:=aQ r;refine ⟨d.1,d.2.1,d.2.2.1,d.2.2.2.1,d.2.2.2.2.1,d.2.2.2.2.2.1,d.2.2.2.2.2.2.1,fun h=>?_⟩;rcases hs with ⟨x,y⟩ | ⟨x,y⟩
 ·rw [x];exact d.2.2.2.2.2.2.2 (by rw [<-y];exact h)
 have:=Vj ((aP).ext em) (l:=Xi N a) (fun e=>by rw [e] at cj;simp at cj);omega
end
def Q5 (N:Zr) (L:Za) (costs:Zb) (k a b:Nat):Int :=
 Zl costs (enV N L k (Zl (Ya L k) (Xd N a)).toNat (Yg 0 (Zx N L k false (Zl (Ya L k) (Xd N a)).toNat) a) (Yg 0 (Zx N L k true (Zl (Ya L k) (Xd N a)).toNat) b)).toNat
def Wh (N:Zr) (outs Ar:Zb) (m:Int):Xe:=if Yg 0 outs m<0 then ⟨Yg 0 Ar m,-1,Zu N m⟩ else ⟨0,Yg 0 outs m,0⟩
structure Zs2 (N:Zr) (L:Za) (costs outs Ar:Zb) (k c:Nat) (fi:Nat->Int) (ls st:Nat->List Xe):Prop where
 once:Zf3 Ar
 mem:∀ x:Int,x∈Ar↔∃ a:Nat,x=a/\a<N.as.length/\Zl (Ya L k) (Qe N a)≠Zl (Ya L k) (Xd N a)/\Zl (Ya L (k+1)) (Xd N a)=c
 ff:∀ j (a:Nat),j<Ar.length->Zl Ar j=a->fi j=enV N L k (Zl (Ya L k) (Xd N a)).toNat (Yg 0 (Zx N L k false (Zl (Ya L k) (Xd N a)).toNat) a) 0
 ll:∀ j (a:Nat),j<Ar.length->Zl Ar j=a->ls j=(Zx N L k true (Zl (Ya L k) (Xd N a)).toNat).map (Wh N outs Ar)
 st:∀ j,st j=if j<Ar.length then stK costs (fi j).toNat (ls j) else []
theorem Z6k {costs:Zb} {x:Xe}:∀ {l:List Xe} {p:Nat},x∈stK costs p l↔∃ j,j<l.length/\Zl costs (p+j)<Xq/\(Zp l j).c<Xq/\x=⟨(Zp l j).a,(Zp l j).b,(Zp l j).c+Zl costs (p+j)⟩:=by
 intro l
 induction l with
 | nil=>intro p;simp [stK]
 | cons y r ih =>
  intro p;have hs:∀ j,Zp (y::r) (j+1)=Zp r j:=fun j=>rfl;have key:(∃ j,j<(y::r).length/\Zl costs (p+j)<Xq/\(Zp (y::r) j).c<Xq/\x=⟨(Zp (y::r) j).a,(Zp (y::r) j).b,(Zp (y::r) j).c+Zl costs (p+j)⟩) ↔
    (Zl costs p<Xq/\y.c<Xq/\x=⟨y.a,y.b,y.c+Zl costs p⟩)\/∃ j,j<r.length/\Zl costs (p+1+j)<Xq/\(Zp r j).c<Xq/\x=⟨(Zp r j).a,(Zp r j).b,(Zp r j).c+Zl costs (p+1+j)⟩:=by
   constructor
   ·rintro ⟨j,h1,D⟩
    cases j with
    | zero=>exact .inl D
    | succ j=>rw [hs,show p+(j+1)=p+1+j by omega] at D;exact .inr ⟨j,by simpa using h1,D⟩
   rintro (h | ⟨j,h1,D⟩)
   ·exact ⟨0,by simp,h⟩
   exact ⟨j+1,by simpa using h1,by rw [hs,show p+(j+1)=p+1+j by omega];exact D⟩
  rw [key,<-ih];simp only [stK]
  split
  ·rename_i c;rw [Xh2];constructor
   ·rintro (h | h)
    ·exact .inl ⟨c.1,c.2,h⟩
    exact .inr h
   rintro (h | h)
   ·exact .inl h.2.2
   exact .inr h
  rename_i c;constructor
  ·exact .inr
  rintro (h | h)
  ·exact absurd ⟨h.1,h.2.1⟩ c
  exact h
section
variable {N:Zr} {L:Za} {costs outs Ar:Zb} {k c:Nat} {fi:Nat->Int} {ls st:Nat->List Xe}
theorem Zh3 (r:Yv N.vs.length L) (D:Yl N) (G:k<L.length) {a:Nat} (H:a<N.as.length):∃ q:Nat,Zl (Ya L k) (Xd N a)=q/\q<Yi L k:=by
 have h:=(D.arcs a H).2;simp [Yf] at h;exact (Xs r G).2.2.2 _ (by unfold Xd;omega)
theorem Zan (r:Yv N.vs.length L) (D:Yl N) (G:k<L.length) {a q:Nat}:(a:Int)∈Zx N L k false q↔a<N.as.length/\Zl (Ya L k) (Qe N a)≠Zl (Ya L k) (Xd N a)/\Zl (Ya L k) (Xd N a)=q:=Znr r D G
theorem V0 (r:Yv N.vs.length L) (D:Yl N) (G:k<L.length) {a q:Nat}:(a:Int)∈Zx N L k true q↔a<N.as.length/\Zl (Ya L k) (Qe N a)≠Zl (Ya L k) (Xd N a)/\Zl (Ya L k) (Qe N a)=q:=Znr r D G
theorem Uh (r:Yv N.vs.length L) (D:Yl N) (G:k<L.length) {q:Nat} {x:Bool} {m:Int} (h:m∈Zx N L k x q):∃ a:Nat,m=a/\a<N.as.length:=by
 have h1:m∈Uv N L ((k:Int)+1):=(List.mem_filter.1 h).1;have:=(Zg7.1 h1).1;simp [Yf] at this;exact ⟨m.toNat,by omega,by omega⟩
theorem Z9a {q:Nat} {i:Int} {j:Nat} (h0:0<=i) (h1:i<(Zx N L k false q).length) (r:j<(Zx N L k true q).length):enV N L k q i j=enV N L k q i 0+j/\0<=enV N L k q i 0:=by
 have D:0<=i * ((Zx N L k true q).length:Int):=Xiu h0 (by omega);unfold enV;rw [if_pos ⟨h0,h1,by omega,by omega⟩,if_pos ⟨h0,h1,by omega,by omega⟩];omega
theorem Zs2.step (B:Zs2 N L costs outs Ar k c fi ls st) (G:Yv N.vs.length L) (H:Yl N) (I:k<L.length) {j a:Nat} (M:j<Ar.length) (U:Zl Ar j=a) {x:Xe} :
  x∈st j↔∃ m:Nat,m<N.as.length/\Zl (Ya L k) (Qe N m)=Zl (Ya L k) (Xd N a)/\Zl (Ya L k) (Xd N m)≠Zl (Ya L k) (Xd N a)/\Q5 N L costs k a m<Xq/\(Wh N outs Ar m).c<Xq/\x=⟨(Wh N outs Ar m).a,(Wh N outs Ar m).b,(Wh N outs Ar m).c+Q5 N L costs k a m⟩:=by
 obtain ⟨a',e,la,hx,hc⟩:=(B.mem a).1 (Zw.2 ⟨j,M,U⟩);have:a'=a:=by omega
 subst this;obtain ⟨q,V,lq⟩:=Zh3 G H I la;have X:(a':Int)∈Zx N L k false q:=(Zan G H I).2 ⟨la,hx,V⟩;obtain ⟨i,li,ei⟩:=Zw.1 X;have Z:=Xv (Xw (N:=N) (L:=L) (k:=k) (c:=q) (x:=false)).once li;rw [ei] at Z;rw [B.st,if_pos M,Z6k,B.ff j a' M U,B.ll j a' M U,V];simp only [Xf1,Xf2];rw [Z];have r:∀ u,u<(Zx N L k true q).length->∀ m:Nat,Zl (Zx N L k true q) u=m->Q5 N L costs k a' m=Zl costs ((enV N L k q i 0).toNat+u):=fun u hu m hm=>by
  unfold Q5;rw [V];simp only [Xf1];have pu:=Xv (Xw (N:=N) (L:=L) (k:=k) (c:=q) (x:=true)).once hu;rw [hm] at pu;rw [Z,pu];have:=Z9a (N:=N) (L:=L) (k:=k) (q:=q) (i:=i) (j:=u) (by omega) (by omega) hu
  congr 1
  omega
 have D:∀ u,u<(Zx N L k true q).length->Zp ((Zx N L k true q).map (Wh N outs Ar)) u=Wh N outs Ar (Zl (Zx N L k true q) u):=fun u hu=>by
  rw [Wy (by simpa using hu)];simp [Zl,hu]
 constructor
 ·rintro ⟨u,h1,O,J,h4⟩;obtain ⟨m,em,lm⟩:=Uh G H I (Zw.2 ⟨u,h1,rfl⟩);obtain ⟨_,r1,r2⟩:=(V0 G H I).1 (Zw.2 ⟨u,h1,em⟩);rw [D u h1,em] at J h4;rw [<-r u h1 m em] at O h4;exact ⟨m,lm,by rw [r2],fun e=>r1 (by rw [r2,e]),O,J,h4⟩
 rintro ⟨m,lm,h1,O,J,h4,h5⟩;obtain ⟨u,R,eu⟩:=Zw.1 ((V0 G H I).2 ⟨lm,fun e=>O (by rw [<-e,h1]),h1⟩);rw [r u R m eu] at J h5;exact ⟨u,R,J,by rw [D u R,eu];exact h4,by rw [D u R,eu];exact h5⟩
theorem Zx8 {m:Nat} (r:Yl N):0<=(Wh N outs Ar m).c/\(Wh N outs Ar m).c<=Xq:=by
 have D:Xq=1152921504606846976:=rfl;have:=Ve r (a:=(m:Int));unfold Wh
 split
 ·dsimp only;omega
 dsimp only;omega
theorem Zs2.ok (B:Zs2 N L costs outs Ar k c fi ls st) (Z:Yv N.vs.length L) (O:Yl N) (hk:k+1<L.length) (D:outs=Zx N L (k+1) true c) (hc:∀ i,0<=Zl costs i) (G:Zjl (Zl (Ya L k)) (Zl (Ya L (k+1)))):Zq3 Ar.length outs.length st:=by
 have hI:Xq=1152921504606846976:=rfl;have key:∀ a x,x∈st a->a<Ar.length:=fun a x h=>Xgq fun q=>by rw [B.st,if_neg q] at h;simp at h
 have row:∀ j x,x∈st j->∃ a m:Nat,m<N.as.length/\a<N.as.length/\Zl (Ya L (k+1)) (Xd N a)=c/\Zl (Ya L k) (Qe N m)=Zl (Ya L k) (Xd N a)/\Zl (Ya L k) (Xd N m)≠Zl (Ya L k) (Xd N a)/\Q5 N L costs k a m<Xq/\(Wh N outs Ar m).c<Xq/\x=⟨(Wh N outs Ar m).a,(Wh N outs Ar m).b,(Wh N outs Ar m).c+Q5 N L costs k a m⟩:=fun j x h=>by
  have hj:=key j x h;obtain ⟨a,e,I,hx,r⟩:=(B.mem _).1 (Zw.2 ⟨j,hj,rfl⟩);obtain ⟨m,h1,H⟩:=(B.step Z O (by omega) hj e).1 h;exact ⟨a,m,h1,I,r,H⟩
 refine ⟨fun a x h J=>?_,fun a x h=>?_,fun a x h=>?_⟩
 ·obtain ⟨a',m,M,I,r,h1,H,_,_,rfl⟩:=row a x h;simp only [] at J ⊢;unfold Wh at J ⊢
  split at J
  ·rename_i q;rw [if_pos q];have R:(m:Int) ∉ outs:=fun U=>by
    have:=Qr (a:=(m:Int)) (l:=outs) (k:=0);have:=this.2 U;omega
   have:(m:Int)∈Ar:=(B.mem _).2 ⟨m,rfl,M,fun e=>H (by rw [<-e,h1]),Xgq fun q=>R (by
    rw [D,V0 Z O hk];have:=G _ _ h1;exact ⟨M,fun e=>q (by rw [<-e,this,r]),by rw [this,r]⟩)⟩
   obtain ⟨u,V,X⟩:=Zw.1 this;have:=Xv B.once V;rw [X] at this;dsimp only;omega
  rename_i q;dsimp only at J;omega
 ·obtain ⟨a',m,M,I,r,h1,H,_,_,rfl⟩:=row a x h;unfold Wh
  split
  ·dsimp only;omega
  rename_i q;have U:=Qr.1 (show 0<=Yg 0 outs (m:Int) by omega);obtain ⟨u,V,X⟩:=Zw.1 U;have:=Xv (l:=outs) (by rw [D];exact Xw.once) V;rw [X] at this;dsimp only;omega
 obtain ⟨a',m,M,I,r,h1,H,h3,h4,rfl⟩:=row a x h;have:=Zx8 (N:=N) (outs:=outs) (Ar:=Ar) (m:=m) O;have:=hc (enV N L k (Zl (Ya L k) (Xd N a')).toNat (Yg 0 (Zx N L k false (Zl (Ya L k) (Xd N a')).toNat) a') (Yg 0 (Zx N L k true (Zl (Ya L k) (Xd N a')).toNat) m)).toNat
 have e:Q5 N L costs k a' m=Zl costs (enV N L k (Zl (Ya L k) (Xd N a')).toNat (Yg 0 (Zx N L k false (Zl (Ya L k) (Xd N a')).toNat) a') (Yg 0 (Zx N L k true (Zl (Ya L k) (Xd N a')).toNat) m)).toNat:=rfl;dsimp only;omega
theorem Zs2.thru (B:Zs2 N L costs outs Ar k c fi ls st) (Z:Yv N.vs.length L) (U:Yl N) (hk:k+1<L.length) (D:outs=Zx N L (k+1) true c) (af:∀ i,Zl costs i<=Xq) (V:Zjl (Zl (Ya L k)) (Zl (Ya L (k+1)))) {i o a b:Nat}
  (hi:i<Ar.length) (H:Zl Ar i=a) (ho:o<outs.length) (hb:Zl outs o=b) {x:Int}:GoF st i o x↔Zsy N (Zl (Ya L (k+1))) (Zl (Ya L k)) c (Q5 N L costs k) a b x:=by
 have hI:Xq=1152921504606846976:=rfl;have I:Zf3 outs:=by rw [D];exact Xw.once
 have le:∀ a m,Q5 N L costs k a m<=Xq:=fun a m=>af _;have J:∀ {j a:Nat},j<Ar.length->Zl Ar j=a->a<N.as.length/\Zl (Ya L (k+1)) (Xd N a)=c:=fun {j a} O H=>by
  obtain ⟨a',e,la,hx,ag⟩:=(B.mem _).1 (Zw.2 ⟨j,O,H⟩);have:a'=a:=by omega
  subst this;exact ⟨la,ag⟩
 have ab:∀ {j a:Nat},j<Ar.length->Zl Ar j=a->∀ (v:Nat) (w:Int),EdF st j v w↔v<Ar.length/\∃ m:Nat,Zl Ar v=m/\Zpn N (Zl (Ya L (k+1))) (Zl (Ya L k)) c (Q5 N L costs k) a m w:=fun {j a} O H v w=>by
  obtain ⟨la,R⟩:=J O H;constructor
  ·rintro ⟨z,h1,r,h3,rfl⟩;obtain ⟨m,lm,M,X,q3,q4,rfl⟩:=(B.step Z U (by omega) O H).1 h1;unfold Wh at r h3 q4 ⊢
   split at r
   ·rename_i q;simp only [if_pos q] at h3 q4 ⊢;have G:(m:Int) ∉ outs:=fun hm=>by
     have:=Qr (a:=(m:Int)) (l:=outs) (k:=0);have:=this.2 hm;omega
    have ac:Zl (Ya L (k+1)) (Xd N m)=c:=Xgq fun q=>G (by
     rw [D,V0 Z U hk];have:=V _ _ M;exact ⟨lm,fun e=>q (by rw [<-e,this,R]),by rw [this,R]⟩)
    obtain ⟨u,lu,eu⟩:=Zw.1 ((B.mem (m:Int)).2 ⟨m,rfl,lm,fun e=>X (by rw [<-e,M]),ac⟩);have:=Xv B.once lu;rw [eu] at this;have:u=v:=by omega
    subst this;exact ⟨lu,m,eu,M,X,by rw [V _ _ M,R],ac,by omega,by omega,by omega⟩
   simp at r;omega
  rintro ⟨lv,m,em,M,X,q3,q4,q5,q6,rfl⟩;obtain ⟨lm,_⟩:=J lv em;have G:Yg 0 outs (m:Int)<0:=by
   rw [Zd0]
   ·omega
   rw [D,V0 Z U hk];rintro ⟨_,h,_⟩;exact h (by rw [q3,q4])
  have pv:=Xv B.once lv;rw [em] at pv;have wc:=(Ve U (a:=(m:Int))).resolve_left q6;refine ⟨_,(B.step Z U (by omega) O H).2 ⟨m,lm,M,X,by have:=le a m;omega,?_,rfl⟩,?_,?_,?_⟩
  ·unfold Wh;rw [if_pos G];dsimp only;omega
  ·unfold Wh;rw [if_pos G];dsimp only;omega
  ·unfold Wh;rw [if_pos G];exact pv
  unfold Wh;rw [if_pos G];dsimp only;omega
 have ad:∀ {j a:Nat},j<Ar.length->Zl Ar j=a->∀ w:Int,OuF st j o w↔Xas N (Zl (Ya L k)) (Q5 N L costs k) a b w:=fun {j a} O H w=>by
  obtain ⟨la,R⟩:=J O H;have po:=Xv I ho;rw [hb] at po;have ah:(b:Int)∈outs:=Zw.2 ⟨o,ho,hb⟩;constructor
  ·rintro ⟨z,h1,r,rfl⟩;obtain ⟨m,lm,M,X,q3,q4,rfl⟩:=(B.step Z U (by omega) O H).1 h1;unfold Wh at r q4 ⊢
   split at r
   ·simp at r
   rename_i q;simp only [if_neg q] at q4 ⊢;simp only [] at r;have hm:=Qr.1 (show 0<=Yg 0 outs (m:Int) by omega);obtain ⟨u,lu,eu⟩:=Zw.1 hm;have:=Xv I lu;rw [eu] at this;have:u=o:=by omega
   subst this;have:m=b:=by omega
   subst this;exact ⟨M,X,by omega,by omega⟩
  rintro ⟨M,X,q3,rfl⟩;have aa:¬ Yg 0 outs (b:Int)<0:=by omega
  obtain ⟨b',aj,lb⟩:=Uh Z U hk (by rw [<-D];exact ah);have:b'=b:=by omega
  subst this;refine ⟨_,(B.step Z U (by omega) O H).2 ⟨b',lb,M,X,by have:=le a b';omega,?_,rfl⟩,?_,?_⟩
  ·unfold Wh;rw [if_neg aa];dsimp only;omega
  ·unfold Wh;rw [if_neg aa];exact po
  unfold Wh;rw [if_neg aa];dsimp only;omega
 have ai:∀ j y,Xg (AtI i) (EdF st) j y->∃ a':Nat,j<Ar.length/\Zl Ar j=a'/\Xg (AtI a) (Zpn N (Zl (Ya L (k+1))) (Zl (Ya L k)) c (Q5 N L costs k)) a' y:=by
  intro j y w
  induction w with
  | init h=>obtain ⟨rfl,rfl⟩:=h;exact ⟨a,hi,H,.init ⟨rfl,rfl⟩⟩
  | step w h ih =>
   obtain ⟨u,h1,r,h3⟩:=ih;obtain ⟨lv,m,em,hm⟩:=(ab h1 r _ _).1 h;exact ⟨m,lv,em,.step h3 hm⟩
 have ae:∀ a' y,Xg (AtI a) (Zpn N (Zl (Ya L (k+1))) (Zl (Ya L k)) c (Q5 N L costs k)) a' y->∃ j,j<Ar.length/\Zl Ar j=(a':Int)/\Xg (AtI i) (EdF st) j y:=by
  intro a' y w
  induction w with
  | init h=>obtain ⟨rfl,rfl⟩:=h;exact ⟨i,hi,H,.init ⟨rfl,rfl⟩⟩
  | step w h ih =>
   rename_i u v y' w';obtain ⟨j,h1,r,h3⟩:=ih;have hv:v<N.as.length:=by
    obtain ⟨kk,e,lk⟩:=Uw h.2.2.2.2.2.1;omega
   obtain ⟨z,lz,ez⟩:=Zw.1 ((B.mem (v:Int)).2 ⟨v,rfl,hv,fun e=>h.2.1 (by rw [<-e,h.1]),h.2.2.2.1⟩);exact ⟨z,lz,ez,.step h3 ((ab h1 r _ _).2 ⟨lz,v,ez,h⟩)⟩
 constructor
 ·rintro ⟨j,y,w,h1,r,rfl⟩;obtain ⟨a',lj,ej,wj⟩:=ai j y h1;exact ⟨a',y,w,wj,(ad lj ej w).1 r,rfl⟩
 rintro ⟨a',y,w,h1,r,rfl⟩;obtain ⟨j,lj,ej,wj⟩:=ae a' y h1;exact ⟨j,y,w,wj,(ad lj ej w).2 r,rfl⟩
end
end Go.Rm
