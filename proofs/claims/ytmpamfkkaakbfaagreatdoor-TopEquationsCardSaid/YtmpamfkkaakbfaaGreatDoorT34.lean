import Derived.Test.YtmpamfkkaakbfaaGreatDoorT32
import Derived.Test.YtmpamfkkaakbfaaGreatDoorT33
import Derived.Test.YtmpamfkkaakbfaaGreatDoorT30
import Derived.Test.YtmpamfkkaakbfaaGreatDoorT31
/- Parts RFill5 RFill6 RFill7 -/
set_option linter.unusedSimpArgs false
set_option linter.unusedVariables false
namespace Go.Rm
def Ww:List Int->Nat->List (Int × Value)
 | [],_=>[]
 | x::r,k=>(x,.int .i64 k)::Ww r (k+1)
theorem Zef {x:Int}:∀ {l:List Int} {k:Nat},Ww (l++[x]) k=Ww l k++[(x,.int .i64 ((k+l.length:Nat):Int))]:=by
 intro l
 induction l with
 | nil=>intro k; simp [Ww]
 | cons y r D =>
  intro k
  have:k+1+r.length=k+(r.length+1):=by omega
  simp [Ww,D,-Int.natCast_add,this]
theorem X7 {x:Int}:∀ {l:List Int} {k:Nat},Zag (Ww l k) x=if x∈l then some (.int .i64 (Yc k l x)) else none:=by
 intro l
 induction l with
 | nil=>intro k; simp [Ww,Zag]
 | cons y r D =>
  intro k
  by_cases q:y=x
  ·subst q
   simp [Ww,Zag,Yc]
  ·have:Zag (Ww (y::r) k) x=Zag (Ww r (k+1)) x:=by simp [Ww,Zag,q]
   rw [this,D]
   have q':¬ x=y:=fun e=>q e.symm
   simp [q',Yc,q]
theorem Zcz {l:List Int} {n:Nat} (h:Zfb l) (G:∀ k,k<l.length->∃ a:Nat,Zc l k=a/\a<n):l.length<=n:=by
 have:=Ze5 (l:=l.map Int.toNat) (n:=n) (by
  rw [List.nodup_iff_pairwise_ne,Xgm]
  intro i j r D H e
  simp at r D e
  obtain ⟨a,I,_⟩:=G i r
  obtain ⟨b,R,_⟩:=G j D
  have U:Zc l i=l[i]:=by simp [Zc,r]
  have e2:Zc l j=l[j]:=by simp [Zc,D]
  have:=h i j r D (by omega)
  omega) (fun a J=>by
  obtain ⟨x,hx,rfl⟩:=List.mem_map.1 J
  obtain ⟨k,O,rfl⟩:=Zk.1 hx
  obtain ⟨a,I,V⟩:=G k O
  omega)
 simpa using this
theorem Ze1 {h:Za} {s:Sl} {l:List Yp} (r:Z4 h s l) (D:l≠[]):s.b<h.size:=by
 have:0<l.length:=by cases l with
  | nil=>exact absurd rfl D
  | cons=>simp
 have:=r.v0 0 this
 exact Xey fun q=>by simp [hc,Xfw (Nat.not_lt.1 q)] at this
structure ByS (h:Za) (lo Bc Br B8 M:Nat) (s1 s2 sA sv sT:Sl) (As:List Int) (P:List (Sl × List Yp)) (T:List Yp):Prop where
 bc:Ys h Bc #[s1.v,s2.v]
 br:Ys h Br #[.int .i64 0,.slice none 0 0,.nilFunc]
 b8:Ys h B8 #[sv.v]
 mp:Zcf h M (Ww As 0)
 oA:Yb h 1 sA (Zh As)
 oV:Yb h 1 sv (P.map fun p=>p.1.v)
 oT:Yb h 3 sT (Zs (T.map Xm))
 rw:∀ p,p∈P->Z4 h p.1 p.2
 dA:sA.nl=false->lo<=sA.b/\sA.b≠Bc/\sA.b≠Br/\sA.b≠B8/\sA.b≠M
 dV:sv.nl=false->lo<=sv.b/\sv.b≠Bc/\sv.b≠Br/\sv.b≠B8/\sv.b≠M/\(sA.nl=false->sv.b≠sA.b)
 dT:sT.nl=false->lo<=sT.b/\sT.b≠Bc/\sT.b≠Br/\sT.b≠B8/\sT.b≠M/\(sA.nl=false->sT.b≠sA.b)/\(sv.nl=false->sT.b≠sv.b)
 dP:∀ p,p∈P->p.2≠[]->lo<=p.1.b/\p.1.b≠Bc/\p.1.b≠Br/\p.1.b≠B8/\p.1.b≠M/\(sA.nl=false->p.1.b≠sA.b)/\(sv.nl=false->p.1.b≠sv.b)/\(sT.nl=false->p.1.b≠sT.b)
 dB:lo<=Bc/\lo<=Br/\lo<=B8/\lo<=M/\Bc≠Br/\Bc≠B8/\Bc≠M/\Br≠B8/\Br≠M/\B8≠M
section
variable {h h' h1 h2 h3:Za} {lo Bc Br B8 M:Nat} {s1 s2 sA sv sT:Sl} {As:List Int} {P:List (Sl × List Yp)} {T:List Yp}
theorem ByS.ext (k:ByS h lo Bc Br B8 M s1 s2 sA sv sT As P T) (e:Ext h h'):ByS h' lo Bc Br B8 M s1 s2 sA sv sT As P T :=
 ⟨k.bc.ext e,k.br.ext e,k.b8.ext e,k.mp.ext e,k.oA.ext' e,k.oV.ext' e,k.oT.ext' e,fun p hp=>(k.rw p hp).ext e,k.dA,k.dV,k.dT,k.dP,k.dB⟩
theorem ByS.pushT (k:ByS h lo Bc Br B8 M s1 s2 sA sv sT As P T) {r:Sl} {x:Yp} (m:Mod (fun j=>sT.nl=false/\j=sT.b) h h') (o:Yb h' 3 r (Zs ((T++[x]).map Xm))) (hs:(r.b=sT.b/\r.nl=sT.nl)\/(h.size<=r.b/\r.nl=false))
  (I:lo<=h.size):ByS h' lo Bc Br B8 M s1 s2 sA sv r As P (T++[x]):=by
 have R:=k.bc.lt
 have U:=k.br.lt
 have V:=k.b8.lt
 have X:=k.mp.lt
 have J:=k.oA.lt
 have O:=k.oV.lt
 have H:=k.dT
 refine ⟨m.blk k.bc (fun q=>by have:=H q.1; omega),m.blk k.br (fun q=>by have:=H q.1; omega),m.blk k.b8 (fun q=>by have:=H q.1; omega),k.mp.mod m (fun q=>by have:=H q.1; omega),k.oA.mod m (fun D q=>by have:=(H q.1).2.2.2.2.2.1 D; omega),k.oV.mod m (fun D q=>by have:=(H q.1).2.2.2.2.2.2 D; omega),o,fun p hp=>(k.rw p hp).mod m (fun D q=>by have:=(k.dP p hp D).2.2.2.2.2.2.2 q.1; omega),k.dA,k.dV,fun D=>?_,fun p hp D=>?_,k.dB⟩
 ·rcases hs with ⟨a,b⟩ | ⟨a,b⟩
  ·rw [a]; exact H (by rw [<-b]; exact D)
  ·exact ⟨by omega,by omega,by omega,by omega,by omega,fun h=>by have:=J h; omega,fun h=>by have:=O h; omega⟩
 ·have G:=k.dP p hp D
  have Z:=Ze1 (k.rw p hp) D
  refine ⟨G.1,G.2.1,G.2.2.1,G.2.2.2.1,G.2.2.2.2.1,G.2.2.2.2.2.1,G.2.2.2.2.2.2.1,fun h=>?_⟩
  rcases hs with ⟨a,b⟩ | ⟨a,b⟩
  ·rw [a]; exact G.2.2.2.2.2.2.2 (by rw [<-b]; exact h)
  ·omega
theorem ByS.addA (k:ByS h lo Bc Br B8 M s1 s2 sA sv sT As P T) {G:Sl} {x:Int} (m:Mod (fun j=>j=M) h h1) (R:Zcf h1 M (Ww (As++[x]) 0)) (e:Ext h1 h2) (m':Mod (fun j=>sA.nl=false/\j=sA.b) h2 h3) (o:Yb h3 1 G (Zh (As++[x]))) (hs:(G.b=sA.b/\G.nl=sA.nl)\/(h2.size<=G.b/\G.nl=false))
  (U:lo<=h.size):ByS h3 lo Bc Br B8 M s1 s2 G sv sT (As++[x]) P T:=by
 have l1:=k.bc.lt
 have l2:=k.br.lt
 have l3:=k.b8.lt
 have l4:=k.mp.lt
 have V:=k.oV.lt
 have X:=k.oT.lt
 have z1:=m.size
 have z2:=e.size
 have I:=k.dA
 have J:=k.dV
 have O:=k.dT
 have Z:=k.dB
 refine ⟨m'.blk ((m.blk k.bc (by omega)).ext e) (fun q=>by have:=I q.1; omega),m'.blk ((m.blk k.br (by omega)).ext e) (fun q=>by have:=I q.1; omega),m'.blk ((m.blk k.b8 (by omega)).ext e) (fun q=>by have:=I q.1; omega),(R.ext e).mod m' (fun q=>by have:=I q.1; omega),o,((k.oV.mod m (fun r q=>by have:=J r; omega)).ext' e).mod m' (fun r q=>by have:=(J r).2.2.2.2.2 q.1; omega),((k.oT.mod m (fun r q=>by have:=O r; omega)).ext' e).mod m' (fun r q=>by have:=(O r).2.2.2.2.2.1 q.1; omega),fun p hp=>(((k.rw p hp).mod m (fun r q=>by have:=k.dP p hp r; omega)).ext e).mod m' (fun r q=>by have:=(k.dP p hp r).2.2.2.2.2.1 q.1; omega),fun r=>?_,fun r=>?_,fun r=>?_,fun p hp r=>?_,Z⟩
 ·rcases hs with ⟨a,b⟩ | ⟨a,b⟩
  ·rw [a]; exact I (by rw [<-b]; exact r)
  ·exact ⟨by omega,by omega,by omega,by omega,by omega⟩
 ·have D:=J r
  have lv:=V r
  refine ⟨D.1,D.2.1,D.2.2.1,D.2.2.2.1,D.2.2.2.2.1,fun h=>?_⟩
  rcases hs with ⟨a,b⟩ | ⟨a,b⟩
  ·rw [a]; exact D.2.2.2.2.2 (by rw [<-b]; exact h)
  ·omega
 ·have D:=O r
  have lv:=X r
  refine ⟨D.1,D.2.1,D.2.2.1,D.2.2.2.1,D.2.2.2.2.1,fun h=>?_,D.2.2.2.2.2.2⟩
  rcases hs with ⟨a,b⟩ | ⟨a,b⟩
  ·rw [a]; exact D.2.2.2.2.2.1 (by rw [<-b]; exact h)
  ·omega
 ·have H:=k.dP p hp r
  have lp:=Ze1 (k.rw p hp) r
  refine ⟨H.1,H.2.1,H.2.2.1,H.2.2.2.1,H.2.2.2.2.1,fun h=>?_,H.2.2.2.2.2.2⟩
  rcases hs with ⟨a,b⟩ | ⟨a,b⟩
  ·rw [a]; exact H.2.2.2.2.2.1 (by rw [<-b]; exact h)
  ·omega
theorem ByS.pushV (k:ByS h lo Bc Br B8 M s1 s2 sA sv sT As P T) {D:Sl} (m:Mod (fun j=>sv.nl=false/\j=sv.b) h h1) (o:Yb h1 1 D ((P.map fun p=>p.1.v)++[sT.v])) (hs:(D.b=sv.b/\D.nl=sv.nl)\/(h.size<=D.b/\D.nl=false))
  (m':Mod (fun j=>j=B8) h1 h2) (Z:Ys h2 B8 #[D.v]) (aa:lo<=h.size):ByS h2 lo Bc Br B8 M s1 s2 sA D Sl.nil As (P++[(sT,T)]) []:=by
 have l1:=k.bc.lt
 have l2:=k.br.lt
 have l3:=k.b8.lt
 have l4:=k.mp.lt
 have l5:=k.oA.lt
 have l7:=k.oT.lt
 have z1:=m.size
 have X:=k.dA
 have O:=k.dV
 have U:=k.dT
 have dB:=k.dB
 have V:=k.oT.row3
 have G:D.nl=false->(D.b=sv.b/\sv.nl=false)\/h.size<=D.b:=fun r=>by
  rcases hs with ⟨a,b⟩ | ⟨a,b⟩
  ·exact .inl ⟨a,by rw [<-b]; exact r⟩
  ·exact .inr a
 refine ⟨m'.blk (m.blk k.bc (fun q=>by have:=O q.1; omega)) (by omega),m'.blk (m.blk k.br (fun q=>by have:=O q.1; omega)) (by omega),Z,(k.mp.mod m (fun q=>by have:=O q.1; omega)).mod m' (by omega),(k.oA.mod m (fun r q=>by have:=(O q.1).2.2.2.2.2 r; omega)).mod m' (fun r q=>by have:=X r; omega),?_,Yb.nil,fun p hp=>?_,X,fun r=>?_,fun r=>(by cases r),fun p hp r=>?_,dB⟩
 ·have:=o.mod m' (fun r q=>by
   rcases G r with ⟨a,b⟩ | a
   ·have:=O b; omega
   ·omega)
  simpa using this
 ·rcases List.mem_append.1 hp with q | q
  ·exact ((k.rw p q).mod m (fun r q'=>by have:=(k.dP p q r).2.2.2.2.2.2.1 q'.1; omega)).mod m' (fun r q'=>by have:=k.dP p q r; omega)
  ·simp at q
   subst q
   have R:T≠[]->sT.nl=false:=fun r=>by
    cases H:sT.nl with
    | false=>rfl
    | true =>
     have:=(k.oT.ok.nil H).1
     have:=V.len
     exact absurd (List.length_eq_zero_iff.1 (by omega)) r
   exact (V.mod m (fun r q'=>by have:=(U (R r)).2.2.2.2.2.2 q'.1; omega)).mod m' (fun r q'=>by have:=U (R r); omega)
 ·rcases G r with ⟨a,b⟩ | a
  ·rw [a]; exact O b
  ·exact ⟨by omega,by omega,by omega,by omega,by omega,fun h=>by have:=l5 h; omega⟩
 ·rcases List.mem_append.1 hp with q | q
  ·have I:=k.dP p q r
   have lp:=Ze1 (k.rw p q) r
   refine ⟨I.1,I.2.1,I.2.2.1,I.2.2.2.1,I.2.2.2.2.1,I.2.2.2.2.2.1,fun h=>?_,fun h=>(by cases h)⟩
   rcases G h with ⟨a,b⟩ | a
   ·rw [a]; exact I.2.2.2.2.2.2.1 b
   ·omega
  ·simp at q
   subst q
   have r:T≠[]:=r
   have R:sT.nl=false:=by
    cases H:sT.nl with
    | false=>rfl
    | true =>
     have:=(k.oT.ok.nil H).1
     have:=V.len
     exact absurd (List.length_eq_zero_iff.1 (by omega)) r
   have J:=U R
   have lt:=l7 R
   refine ⟨J.1,J.2.1,J.2.2.1,J.2.2.2.1,J.2.2.2.2.1,J.2.2.2.2.2.1,fun h=>?_,fun h=>(by cases h)⟩
   rcases G h with ⟨a,b⟩ | a
   ·show sT.b≠D.b; rw [a]; exact J.2.2.2.2.2.2 b
   ·show sT.b≠D.b; omega
end
structure Z7d (Y:Sys):Prop where
 G:WkG Y
 S:Zrk Y
 byArcs:Y.Has 396 Y396
 next:Y.Has 438 Y438
def Xn (N:Zg) (a:Nat):List Int:=if Zt N.vs.length (toV N a) then Uw N.as (toV N a) else []
def Zkn (P:List (Sl × List Yp)) (k:Nat):List Yp:=(P.map fun p=>p.2).getD k []
structure ByP (N:Zg) (ins outs As:List Int) (P:List (Sl × List Yp)):Prop where
 once:Zfb As
 nat:∀ k,k<As.length->∃ a:Nat,Zc As k=a/\a<N.as.length
 li:ins.length<=As.length
 pre:∀ k,k<ins.length->Zc As k=Zc ins k
 lp:P.length<=As.length
 row:∀ k,k<P.length->AOk N outs As (Zc As k).toNat (Xn N (Zc As k).toNat) (Zkn P k)
theorem Zmo {P Q:List (Sl × List Yp)} {k:Nat} (h:k<P.length):Zkn (P++Q) k=Zkn P k:=by simp [Zkn,Xep,h]
theorem Zmb {P:List (Sl × List Yp)} {p:Sl × List Yp}:Zkn (P++[p]) P.length=p.2:=by simp [Zkn]
theorem Zqd {P:List (Sl × List Yp)} {k:Nat} (h:k<P.length):∃ p,p∈P/\P[k]? = some p/\p.2=Zkn P k:=⟨P[k],Xeo h,by simp [h],by simp [Zkn,h]⟩
theorem ByP.addA {N:Zg} {ins outs As:List Int} {P:List (Sl × List Yp)} (b:ByP N ins outs As P) {x:Nat} (hx:(x:Int) ∉ As) (D:x<N.as.length):ByP N ins outs (As++[(x:Int)]) P:=by
 refine ⟨b.once.snoc hx,fun k r=>?_,by have:=b.li; simp; omega,fun k r=>by rw [Vq (by have:=b.li; omega)]; exact b.pre k r,by have:=b.lp; simp; omega,fun k r=>?_⟩
 ·simp at r
  rcases Xd8 k As.length with q | q
  ·rw [Vq q]; exact b.nat k q
  ·have:k=As.length:=by omega
   subst this
   rw [Zcw]
   exact ⟨x,rfl,D⟩
 ·have:=b.lp
  rw [Vq (by omega)]
  exact (b.row k r).mono
theorem ByP.addP {N:Zg} {ins outs As:List Int} {P:List (Sl × List Yp)} (b:ByP N ins outs As P) {p:Sl × List Yp} (G:P.length<As.length) (r:AOk N outs As (Zc As P.length).toNat (Xn N (Zc As P.length).toNat) p.2):ByP N ins outs As (P++[p]):=by
 refine ⟨b.once,b.nat,b.li,b.pre,by simp; omega,fun k D=>?_⟩
 simp at D
 rcases Xd8 k P.length with q | q
 ·rw [Zmo q]; exact b.row k q
 ·have:k=P.length:=by omega
  subst this
  rw [Zmb]; exact r
theorem Qg {h:Za} {s:Sl} {l:List Int} (r:Zz h s l) (D:l≠[]):s.b<h.size:=by
 have:0<l.length:=by cases l with
  | nil=>exact absurd rfl D
  | cons=>simp
 have:=r.val 0 this
 exact Xey fun q=>by simp [hc,Xfw (Nat.not_lt.1 q)] at this
section
variable {Y:Sys} {h h':Za} {p:Nat} {N:Zg} {S:Nat->Prop}
theorem Qu {K:Value->Za->Prop} {r D G x y z:Value} (H:∀ (b:Nat) (h':Za),h.size<=b->Ys h' b #[x,y,z]->Ext h h'->K (.slice (some ⟨b,0,none⟩) 1 1) h') :
  Ef.wp h K (.bslice 1 3 #[r,D,G] [0]) [.agg #[x,y,z]]:=by
 rw [Zdc]
 exact fun t=>H _ _ (Xd6 _) Ys.new Mod.push
theorem Zdl {a:Nat}:(Xn N a).length<=N.as.length:=by
 unfold Xn
 split
 ·unfold Uw; rw [W8]; exact Xe8 ..
 ·simp
theorem Zj8 {a b:Nat} (h:Ye N a b≠Xr):(b:Int)∈Xn N a:=by
 obtain ⟨r,D⟩:=Z5x h
 have G:=(Zkh h).1
 have H:toV N (a:Int)=(Zf N.as a).b:=by unfold toV; rw [if_pos G]; simp
 unfold Xn
 rw [H,if_pos r]
 exact D
theorem Zf8 {a k:Nat} (D:k<(Xn N a).length):∃ b:Nat,Zc (Xn N a) k=b/\b<N.as.length:=by
 have r:=Zk.2 ⟨k,D,rfl⟩
 revert r
 generalize Zc (Xn N a) k=x
 unfold Xn
 split
 ·intro r
  obtain ⟨b,h1,G,_⟩:=Zpx.1 r
  exact ⟨b,G,h1⟩
 ·intro r; simp at r
def Ba0 (p Bc Br M:Nat) (s1 s2 sA:Sl) (v0 v1:Value) (ins:List Int) (h0:Za) (e:List Value) (h':Za):Prop :=
 ∃ (i:Nat) (v6 v7 v8 v9 v10 v11 v12 v13 v14 v15 v16 v17 v18 v19 v23 v24 v25 v26 v27 v28 v29 v30 v31 v32 v33 v34 v35:Value),e=[v0,v1,.pointer (some ⟨Bc,0,none⟩),.pointer (some ⟨Br,0,none⟩),sA.v,.map (some M),v6,v7,v8,v9,v10,v11,v12,v13,v14,v15,v16,v17,v18,v19,sA.v,.int .i64 sA.n,.int .i64 i,v23,v24,v25,v26,v27,v28,v29,v30,v31,v32,v33,v34,v35]/\i<=ins.length/\Zcf h' M (Ww (ins.take i) 0)/\Mod (fun j=>j=M) h0 h'
def Ba2 (lo Bc Br B8 M:Nat) (s1 s2:Sl) (v0 v1:Value) (N:Zg) (ins outs:List Int) (h0:Za) (e:List Value) (h':Za):Prop :=
 ∃ (i:Nat) (sA sv:Sl) (As:List Int) (P:List (Sl × List Yp)) (v6 v7 v10 v11 v12 v13 v14 v15 v16 v17 v18 v19 v20 v21 v22 v23 v24 v25 v26 v27 v28 v29 v30 v31 v32 v33 v34 v35:Value),
  e=[v0,v1,.pointer (some ⟨Bc,0,none⟩),.pointer (some ⟨Br,0,none⟩),sA.v,.map (some M),v6,v7,.pointer (some ⟨B8,0,none⟩),.int .i64 i,v10,v11,v12,v13,v14,v15,v16,v17,v18,v19,v20,v21,v22,v23,v24,v25,v26,v27,v28,v29,v30,v31,v32,v33,v34,v35]/\P.length=i/\ByS h' lo Bc Br B8 M s1 s2 sA sv Sl.nil As P []/\ByP N ins outs As P/\Ext h0 h'
def Ba4 (lo Bc Br B8 M a i:Nat) (s1 s2 u:Sl) (v0 v1:Value) (N:Zg) (ins outs:List Int) (h0:Za) (e:List Value) (h':Za):Prop :=
 ∃ (j:Nat) (sA sv sT:Sl) (As:List Int) (P:List (Sl × List Yp)) (T:List Yp) (v6 v7 v12 v13 v14 v15 v16 v17 v18 v19 v20 v21 v22 v23 v24 v28 v29 v30 v31 v32 v33 v34 v35:Value),
  e=[v0,v1,.pointer (some ⟨Bc,0,none⟩),.pointer (some ⟨Br,0,none⟩),sA.v,.map (some M),v6,v7,.pointer (some ⟨B8,0,none⟩),.int .i64 i,.int .i64 a,sT.v,v12,v13,v14,v15,v16,v17,v18,v19,v20,v21,v22,v23,v24,u.v,.int .i64 u.n,.int .i64 j,v28,v29,v30,v31,v32,v33,v34,v35]/\P.length=i/\i<As.length/\Zc As i=a/\j<=(Xn N a).length/\ByS h' lo Bc Br B8 M s1 s2 sA sv sT As P T/\ByP N ins outs As P/\AOk N outs As a ((Xn N a).take j) T/\Zz h' u (Xn N a) /\
  (u.nl=false->lo<=u.b/\u.b≠Bc/\u.b≠Br/\u.b≠B8/\u.b≠M/\(sA.nl=false->u.b≠sA.b)/\(sv.nl=false->u.b≠sv.b)/\(sT.nl=false->u.b≠sT.b))/\Ext h0 h'
def Ba6 (lo Bc Br B8 M D:Nat) (v0 v1:Value) (sA sv s1 s2:Sl) (As:List Int) (P:List (Sl × List Yp)) (n:Nat) (h0:Za) (e:List Value) (h':Za):Prop :=
 ∃ (i:Nat) (ss:Sl) (v6 v7 v9 v10 v11 v12 v13 v14 v15 v16 v17 v19 v20 v21 v22 v23 v24 v25 v26 v27 v28 v29 v30 v31 v32 v35:Value),
  e=[v0,v1,.pointer (some ⟨Bc,0,none⟩),.pointer (some ⟨Br,0,none⟩),sA.v,.map (some M),v6,v7,.pointer (some ⟨B8,0,none⟩),v9,v10,v11,v12,v13,v14,v15,v16,v17,.pointer (some ⟨D,0,none⟩),v19,v20,v21,v22,v23,v24,v25,v26,v27,v28,v29,v30,v31,v32,.int .i64 n,.int .i64 i,v35]/\i<=n /\
  Ys h' D #[.int .i64 As.length,ss.v,.nilFunc]/\Yb h' 1 ss (Zh ((List.range i).map fun (k:Nat)=>(k:Int)))/\(ss.nl=false->h0.size<=ss.b)/\Mod (fun j=>j=D) h0 h'
set_option maxHeartbeats 2000000 in
theorem Zry (X:Z7d Y) (g:Yv h p N S) (ok:Yd N) {Z s2:Sl} {ins outs:List Int} (r1:Zz h Z ins) (r2:Zz h s2 outs) (ri:Zbf ins) (ro:Zbf outs) (al:∀ k,k<ins.length->∃ a:Nat,Zc ins k=a/\a<N.as.length) (bo:outs.length<=16384)
  {R:Value->Za->Prop} (hr:∀ h' As st ss fv,Ext h h'->Z29 N outs As st->ins.length<=As.length->(∀ k,k<ins.length->Zc As k=Zc ins k)->Zz h' ss ((List.range ins.length).map fun (k:Nat)=>(k:Int))->Zkm Y h' fv As.length st->fv.oneCell'=true->R (.agg #[.int .i64 As.length,ss.v,fv]) h') :
  Zm Y 396 [.pointer (some ⟨p,0,none⟩),.agg #[Z.v,s2.v]] h R:=by
 have hI:Xr=1152921504606846976:=rfl
 have ba:=ok.ba
 have l1:=r1.len
 have l2:=r2.len
 have bp:ins.length<=N.as.length:=Zcz ri.once al
 refine .of_has X.byArcs rfl ?_
 simp [Y396,Xa.wp]
 refine Zd ?_
 intro Bc ha aR Bca ea
 replace Bca:Ys ha Bc #[Z.v,s2.v]:=Bca
 simp
 refine Zd ?_
 intro Br hb aS Brb eb
 replace Brb:Ys hb Br #[.int .i64 0,.slice none 0 0,.nilFunc]:=Brb
 have xb:=ea.trans eb
 have Bcb:=Bca.ext eb
 simp [Bcb.hc]
 refine Zig X.G.CI (r1.ext xb) (by omega) ?_
 intro hc' H ec oA nA
 have xc:=xb.trans ec
 have zb:=eb.size
 have za:=ea.size
 have zc:=ec.size
 have la:=Bca.lt
 have lb:=Brb.lt
 simp
 refine Zmh ?_
 intro M hd gM mM ed
 have lM:=mM.lt
 have xd:=xc.trans ed
 have zd:=ed.size
 simp
 have af:=oA.row64.len
 refine Zj (Ba0 p Bc Br M Z s2 H (.pointer (some ⟨p,0,none⟩)) (.agg #[Z.v,s2.v]) ins hd) (fun e _=>ins.length-Zo e 22) ⟨0,_,_,_,_,_,_,_,_,_,_,_,_,_,_,_,_,_,_,_,_,_,_,_,_,_,_,_,rfl,by omega,by simpa [Ww] using mM,Mod.refl _⟩ ?_
 rintro e he ⟨i,v6,v7,v8,v9,aT,aU,am,an,ao,ap,aq,ar,au,av,aw,ax,aV,aW,aX,ay,az,aA,aB,aC,aD,aE,aF,rfl,hi,mi,me⟩
 by_cases c:i<ins.length
 ·have c':(i:Int)<H.n:=by omega
  have c2:i<H.n:=by omega
  have w1:IntKind.i64.wrap ((i:Int)+1)=(i:Int)+1:=Ze (by omega)
  have rA:=oA.row64.ext ed
  have aY:=rA.mod me (fun r q=>by
   have:H.nl=false:=by
    cases U:H.nl with
    | false=>rfl
    | true=>have:=(oA.ok.nil U).1; omega
   have:=oA.lt this
   omega)
  have vv:=aY.val i c
  simp [c',c2,Zb rA.ok,vv]
  refine Zk2 mi ?_ ?_
  ·rw [X7,if_neg]
   intro hm
   obtain ⟨k,lk,ek⟩:=Zk.1 hm
   simp at lk
   have:Zc ins k=Zc ins i:=by rw [<-ek]; simp [Zc,Xen,show k<i by omega]
   have:=ri.once k i (by omega) c this
   omega
  ·intro hf mf m'
   simp [w1]
   refine ⟨⟨i+1,_,_,_,_,_,_,_,_,_,_,_,_,_,_,_,_,_,_,_,_,_,_,_,_,_,_,_,rfl,by omega,?_,me.trans m'⟩,by simp [Zo]; omega⟩
   have ht:ins.take (i+1)=ins.take i++[Zc ins i]:=by rw [Xel c]; simp [Zc,c]
   rw [ht,Zef]
   have:0+(ins.take i).length=i:=by simp; omega
   rw [this]
   exact mf
 have c':¬ (i:Int)<H.n:=by omega
 have aG:Zcf he M (Ww ins 0):=by rw [Xef (by omega)] at mi; exact mi
 have xe:Ext h he:=Mod.ext xd me (fun j V=>by omega)
 have ze:=me.size
 simp [c']
 refine Zd ?_
 intro B8 hf aZ B8f ef
 replace B8f:Ys hf B8 #[.slice none 0 0]:=B8f
 have l8:=B8f.lt
 have zf:=ef.size
 have xf:=xe.trans ef
 have k0:ByS hf h.size Bc Br B8 M Z s2 H Sl.nil Sl.nil ins [] []:=by
  refine ⟨(me.blk ((Bcb.ext ec).ext ed) (by omega)).ext ef,(me.blk ((Brb.ext ec).ext ed) (by omega)).ext ef,B8f,aG.ext ef,((oA.ext' ed).mod me (fun r=>by have:=oA.lt r; omega)).ext' ef,Yb.nil,Yb.nil,fun p hp=>by simp at hp,fun r=>?_,fun r=>(by cases r),fun r=>(by cases r),fun p hp=>by simp at hp,by omega⟩
  have:=oA.lt r
  have:=nA r
  omega
 have p0:ByP N ins outs ins []:=⟨ri.once,al,Xd6 _,fun k hk=>rfl,by simp,fun k hk=>by simp at hk⟩
 simp
 refine Zj (Ba2 h.size Bc Br B8 M Z s2 (.pointer (some ⟨p,0,none⟩)) (.agg #[Z.v,s2.v]) N ins outs h) (fun e _=>N.as.length-Zo e 9) ⟨0,H,Sl.nil,ins,[],_,_,_,_,_,_,_,_,_,_,_,_,_,_,_,_,_,_,_,_,_,_,_,_,_,_,_,_,rfl,rfl,k0,p0,xf⟩ ?_
 clear p0 k0 xf zf l8 B8f aZ ef ze xe aG c' me mi c hi zd xd lM mM gM ed lb la zc za zb xc nA oA ec Bcb xb Brb aS eb Bca aR ea af
 rintro e hg ⟨i,H,sv,As,P,v6,v7,aT,aU,am,an,ao,ap,aq,ar,au,av,a0,a1,a2,aw,ax,aV,aW,aX,ay,az,aA,aB,aC,aD,aE,aF,rfl,lP,I,pg,xg⟩
 have aH:As.length<=N.as.length:=Zcz pg.once pg.nat
 have lA:=I.oA.row64.len
 have zg:=xg.size
 by_cases c:i<As.length
 rotate_left
 ·have c':¬ (i:Int)<H.n:=by omega
  have bq:P.length=As.length:=by have:=pg.lp; omega
  have aa:∀ g,Yg.sem Y g (.build #[.int .i64 0,.slice none 0 0,.nilFunc] [(0,1),(1,1),(2,1)] [0]) [.int .i64 H.n]=some (.agg #[.int .i64 As.length,.slice none 0 0,.nilFunc]):=fun g=>by rw [lA]; rfl
  have zg:=xg.size
  have cc:¬ i<H.n:=by omega
  simp [c',cc,aa]
  refine Zd ?_
  intro D hh gD Dh eh
  replace Dh:Ys hh D #[.int .i64 0,.slice none 0 0,.nilFunc]:=Dh
  have lD:=Dh.lt
  have zh:=eh.size
  simp
  refine Zi (vs:=#[.int .i64 As.length,.slice none 0 0,.nilFunc]) Dh rfl rfl (by intro v hv; simp at hv; rcases hv with rfl | rfl | rfl <;> rfl) ?_
  intro V Dj mj
  have zj:=mj.size
  have ej:Ext hg V:=Mod.toExtF eh mj gD
  have kj:=I.ext ej
  have xj:=xg.trans ej
  simp [kj.bc.hc]
  refine Zj (Ba6 h.size Bc Br B8 M D (.pointer (some ⟨p,0,none⟩)) (.agg #[Z.v,s2.v]) H sv Z s2 As P Z.n V) (fun e _=>Z.n-Zo e 34) ⟨0,Sl.nil,_,_,_,_,_,_,_,_,_,_,_,_,_,_,_,_,_,_,_,_,_,_,_,_,_,_,rfl,by omega,Dj,Yb.nil,fun h=>(by cases h),Mod.refl _⟩ ?_
  rintro e hk ⟨q,ss,w6,w7,w9,bs,bu,bv,bw,bx,bz,bA,bB,bC,bD,bE,bF,bG,bH,bJ,bK,bL,bM,bN,bO,bP,bQ,bR,rfl,hq,Dk,os,ns,mk⟩
  have a3:=os.1
  simp at a3
  by_cases cq:q<Z.n
  ·have ai:(q:Int)<Z.n:=by omega
   have w1:IntKind.i64.wrap ((q:Int)+1)=(q:Int)+1:=Ze (by omega)
   simp [ai,cq,Dk.hc]
   refine Xe rfl ?_
   intro b hl gl Bl J
   have zk:=mk.size
   simp
   refine Wc rfl (os.ext' J) Bl (by omega) (by omega) ?_
   intro ag hm om nm mm hs
   have Dm:=mm.blk (Dk.ext J) (fun e=>by have:=ns e.1; omega)
   simp [Dm.hc]
   refine stB Dm (by simp) ?_
   intro r Dn mn
   simp at Dn
   have on:Yb r 1 ag (Zh ((List.range (q+1)).map fun (k:Nat)=>(k:Int))):=by
    have:=om.mod mn (fun ac e=>by
     rcases hs with ⟨x,y⟩ | ⟨x,y⟩
     ·have:=ns (by rw [<-y]; exact ac); omega
     ·have:=J.size; omega)
    rw [Xf1]
    simpa [Zh] using this
   have a4:ag.nl=false->V.size<=ag.b:=fun ac=>by
    rcases hs with ⟨x,y⟩ | ⟨x,y⟩
    ·have:=ns (by rw [<-y]; exact ac); omega
    ·have:=J.size; omega
   have e1:Mod (fun j=>j=D) V r:=by
    refine ⟨by have:=mk.size; have:=J.size; have:=mm.size; have:=mn.size; omega,fun i hi O=>?_⟩
    have:=mk.size
    have:=J.size
    have:=mm.size
    rw [mn.get i (by omega) O,mm.get i (by omega) (fun e=>by have:=ns e.1; omega),J.get i (by omega) (fun h=>h),mk.get i hi O]
   simp [w1]
   exact ⟨⟨q+1,ag,_,_,_,_,_,_,_,_,_,_,_,_,_,_,_,_,_,_,_,_,_,_,_,_,_,_,rfl,by omega,Dn,on,a4,e1⟩,by simp [Zo]; omega⟩
  have ai:¬ (q:Int)<Z.n:=by omega
  have:q=Z.n:=by omega
  subst this
  have a5:∀ g,Yg.sem Y g (.mkf 438 0) [.pointer (some ⟨B8,0,none⟩)]=some (.func (.func (Y.fid 438)) #[] #[.pointer (some ⟨B8,0,none⟩)]):=fun g=>rfl
  simp [ai,a5]
  rw [Zqw]
  refine stB Dk (by simp) ?_
  intro hl Dl ml
  simp at Dl
  have zk:=mk.size
  have zl:=ml.size
  have Brk:=mk.blk kj.br (by have:=I.br.lt; omega)
  have Brl:=ml.blk Brk (by have:=I.br.lt; omega)
  simp [Zy Dl]
  refine Zi (vs:=#[.int .i64 As.length,ss.v,.func (.func (Y.fid 438)) #[] #[.pointer (some ⟨B8,0,none⟩)]]) Brl rfl rfl (by intro v hv; simp at hv; rcases hv with rfl | rfl | rfl <;> rfl) ?_
  intro hm Bm mm
  have bS:=I.br.lt
  simp
  refine Yt rfl Bm rfl ?_
  have dB:=I.dB
  have e2:Mod (fun j=>j=Br\/hg.size<=j) hg hm:=by
   refine ⟨by have:=mm.size; omega,fun i hi O=>?_⟩
   rw [mm.get i (by omega) (fun e=>O (.inl e)),ml.get i (by omega) (by omega),mk.get i (by omega) (by omega),ej.get i (by omega) (fun h=>h)]
  have xm:Ext h hm:=Mod.ext xg e2 (fun j V=>by omega)
  have bT:=I.b8.lt
  have B8m:=e2.blk I.b8 (by omega)
  have aI:=I.oV.mod e2 (fun r=>by have:=I.oV.lt r; have:=I.dV r; omega)
  have lV:=I.oV.1
  simp at lV
  refine hr hm As (Zkn P) ss _ xm ⟨pg.once,pg.nat,fun k hk=>⟨_,fun b hb=>Zj8 hb,pg.row k (by omega)⟩,fun k hk=>by simp [Zkn,show P.length<=k by omega]⟩ pg.li pg.pre ?_ ?_ rfl
  ·have:=(os.mod ml (fun r=>by have:=ns r; omega)).mod mm (fun r=>by have:=ns r; omega)
   rw [l1]
   exact this.row64
  ·refine Zyq X.next ⟨⟨sv,B8m,aI.ok,by omega,fun k hk=>?_⟩,fun k hk=>?_⟩
   ·obtain ⟨pp,hp,a6,a7⟩:=Zqd (P:=P) (k:=k) (by omega)
    refine ⟨pp.1,aI.cell (by simp [a6]),?_⟩
    rw [<-a7]
    exact (I.rw pp hp).mod e2 (fun r=>by have:=I.dP pp hp r; have:=Ze1 (I.rw pp hp) r; omega)
   ·have:=(pg.row k (by omega)).len
    have:=Zdl (N:=N) (a:=(Zc As k).toNat)
    omega
 have c':(i:Int)<H.n:=by omega
 have c2:i<H.n:=by omega
 obtain ⟨a,ea,bU⟩:=pg.nat i c
 have va:=I.oA.row64.val i c
 rw [ea] at va
 have lo:=Zdl (N:=N) (a:=a)
 simp [c',c2,Zb I.oA.ok,va]
 refine Zak X.G.To X.G.arc (g.ext xg) ?_
 simp
 refine Zi4 X.G.Outs X.G.vert X.G.CI (g.ext xg) (by omega) ?_
 intro hh u eh ou nu
 rw [show (if Zt N.vs.length (toV N (a:Int)) then Uw N.as (toV N (a:Int)) else [])=Xn N a from rfl] at ou
 have lu:=ou.row64.len
 have zh:=eh.size
 simp
 refine Zj (Ba4 h.size Bc Br B8 M a i Z s2 u (.pointer (some ⟨p,0,none⟩)) (.agg #[Z.v,s2.v]) N ins outs h) (fun e _=>(Xn N a).length-Zo e 27) ⟨0,H,sv,Sl.nil,As,P,[],_,_,_,_,_,_,_,_,_,_,_,_,_,_,_,_,_,_,_,_,_,_,_,rfl,lP,c,ea,by omega,I.ext eh,pg,by simpa using AOk.nil,ou.row64,fun r=>?_,xg.trans eh⟩ ?_
 ·have h1:=nu r
  have l1:=I.bc.lt
  have l2:=I.br.lt
  have l3:=I.b8.lt
  have l4:=I.mp.lt
  exact ⟨by omega,by omega,by omega,by omega,by omega,fun h=>by have:=I.oA.lt h; omega,fun h=>by have:=I.oV.lt h; omega,fun h=>(by cases h)⟩
 clear lA zg c' c2 va lo ou nu zh eh pg I xg aH c ea lP
 rintro e hk ⟨j,H,sv,sT,As,P,T,v6,v7,am,an,ao,ap,aq,ar,au,av,a0,a1,a2,aw,ax,ay,az,aA,aB,aC,aD,aE,aF,rfl,lP,c,ea,V,kk,pk,tk,ru,du,xk⟩
 have aH:As.length<=N.as.length:=Zcz pk.once pk.nat
 have bV:=Zdl (N:=N) (a:=a)
 have zk:=xk.size
 have lT:=tk.len
 simp at lT
 have nT:=kk.oT.n3
 simp at nT
 have nV:=kk.oV.1
 simp at nV
 by_cases cj:j<(Xn N a).length
 rotate_left
 ·have aj:¬ (j:Int)<u.n:=by omega
  have ht:(Xn N a).take j=Xn N a:=Xef (by omega)
  rw [ht] at tk
  have w1:IntKind.i64.wrap ((i:Int)+1)=(i:Int)+1:=Ze (by omega)
  simp [aj,kk.b8.hc]
  refine Xe rfl ?_
  intro b hl gl Bl J
  simp
  refine Wc rfl ((kk.oV).ext' J) Bl (by omega) (by omega) ?_
  intro a8 hm om nm mm hs
  have B8m:=(mm.blk (kk.b8.ext J) (fun q=>by have:=(kk.dV q.1); omega))
  simp
  refine stB B8m (by simp) ?_
  intro r B8n mn
  simp at B8n
  have kn:=(kk.ext J).pushV mm om hs mn B8n (by have:=J.size; omega)
  have xn:Ext h r:=Mod.ext (Mod.ext (xk.trans J) mm (fun j V=>by have:=(kk.dV V.1); omega)) mn (fun j V=>by have:=kk.dB; omega)
  simp [w1]
  refine ⟨⟨i+1,H,a8,As,P++[(sT,T)],_,_,_,_,_,_,_,_,_,_,_,_,_,_,_,_,_,_,_,_,_,_,_,_,_,_,_,_,rfl,by simp [lP],kn,pk.addP (by omega) (by rw [lP,ea]; exact tk),xn⟩,by simp [Zo]; omega⟩
 have aj:(j:Int)<u.n:=by omega
 have a9:j<u.n:=by omega
 have w1:IntKind.i64.wrap ((j:Int)+1)=(j:Int)+1:=Ze (by omega)
 obtain ⟨b,eb,bb⟩:=Zf8 cj
 have vb:=ru.val j cj
 rw [eb] at vb
 have ht:(Xn N a).take (j+1)=(Xn N a).take j++[(b:Int)]:=by rw [Xel cj,<-eb]; simp [Zc,cj]
 simp [aj,a9,Zb ru.ok,vb]
 refine Zj2 X.G.Turn X.G.arc X.G.T (g.ext xk) ok ?_
 intro hl J
 have xl:=xk.trans J
 have kl:=kk.ext J
 simp
 refine U0 X.G.Weight X.G.arc (g.ext xl) ?_
 have tc:=Ws ok (a:=(a:Int)) (b:=(b:Int))
 have wc:=Vf ok (a:=(b:Int))
 by_cases t1:Ye N a b=1152921504606846976
 ·simp [t1,w1]
  exact ⟨⟨j+1,H,sv,sT,As,P,T,_,_,_,_,_,_,_,_,_,_,_,_,_,_,_,_,_,_,_,_,_,_,_,rfl,lP,c,ea,by omega,kl,pk,by rw [ht]; exact tk.skip (.inl t1),ru.ext J,du,xl⟩,by simp [Zo]; omega⟩
 have bd:¬ 1152921504606846976<=Ye N a b:=by have:=tc.resolve_left t1; omega
 simp [bd,kl.bc.hc]
 have r2l:=r2.ext xl
 refine Zax X.S r2l (by omega) ro ?_
 by_cases m1:(b:Int)∈outs
 ·obtain ⟨o,lo,eo⟩:=Zk.1 m1
  have pf:=Xb ro.once lo
  rw [eo] at pf
  rw [pf]
  have aa:∀ g,Yg.sem Y g (.build #[.int .i64 0,.int .i64 0,.int .i64 0] [(0,1),(1,1),(2,1)] [1,2]) [.int .i64 o,.int .i64 (Ye N a b)]=some (.agg #[.int .i64 0,.int .i64 o,.int .i64 (Ye N a b)]):=fun g=>rfl
  simp [aa]
  refine Qu ?_
  intro q hm gq Bq em
  have km:=kl.ext em
  have xm:=xl.trans em
  simp
  refine Vz rfl km.oT Bq rfl rfl rfl (by omega) (by omega) ?_
  intro ad O on mn hs
  simp [w1]
  have e3:Zs (List.map Xm T++[(.int .i64 0,.int .i64 o,.int .i64 (Ye N a b))])=Zs ((T++[(⟨0,o,Ye N a b⟩:Yp)]).map Xm):=by simp [Xm]
  rw [e3] at on
  have xn:Ext h O:=Mod.ext xm mn (fun j V=>by have:=(kk.dT V.1); omega)
  have rn:=((ru.ext J).ext em).mod mn (fun ac q=>by
   have hu:u.nl=false:=by
    cases U:u.nl with
    | false=>rfl
    | true=>have:=(ru.ok.nil U).1; omega
   have:=(du hu).2.2.2.2.2.2.2 q.1
   omega)
  refine ⟨⟨j+1,H,sv,ad,As,P,_,_,_,_,_,_,_,_,_,_,_,_,_,_,_,_,_,_,_,_,_,_,_,_,rfl,lP,c,ea,by omega,km.pushT mn on hs (by have:=xm.size; omega),pk,by rw [ht]; exact tk.out lo eo t1,rn,fun r=>?_,xn⟩,by simp [Zo]; omega⟩
  have d:=du r
  refine ⟨d.1,d.2.1,d.2.2.1,d.2.2.2.1,d.2.2.2.2.1,d.2.2.2.2.2.1,d.2.2.2.2.2.2.1,fun h=>?_⟩
  rcases hs with ⟨x,y⟩ | ⟨x,y⟩
  ·rw [x]; exact d.2.2.2.2.2.2.2 (by rw [<-y]; exact h)
  ·have:=Qg (ru.ext (J.trans em)) (l:=Xn N a) (fun e=>by rw [e] at cj; simp at cj)
   omega
 have pf:=Zbh m1
 rw [pf]
 simp
 by_cases t2:Zl N b=1152921504606846976
 ·simp [t2,w1]
  exact ⟨⟨j+1,H,sv,sT,As,P,T,_,_,_,_,_,_,_,_,_,_,_,_,_,_,_,_,_,_,_,_,_,_,_,rfl,lP,c,ea,by omega,kl,pk,by rw [ht]; exact tk.skip (.inr ⟨m1,t2⟩),ru.ext J,du,xl⟩,by simp [Zo]; omega⟩
 have aJ:¬ 1152921504606846976<=Zl N b:=by have:=wc.resolve_left t2; omega
 have wt:IntKind.i64.wrap (Ye N a b+Zl N b)=Ye N a b+Zl N b:=by
  have:=tc.resolve_left t1
  have:=wc.resolve_left t2
  exact Ze (by omega)
 have ab:=Zlz (Y:=Y) kl.mp (x:=(b:Int)) (z:=.int .i64 0)
 rw [X7] at ab
 by_cases m2:(b:Int)∈As
 ·obtain ⟨k,lk,ek⟩:=Zk.1 m2
  have aK:=Xb pk.once lk
  rw [ek] at aK
  rw [if_pos m2,aK] at ab
  simp at ab
  simp [aJ,ab,wt]
  have aa:∀ g,Yg.sem Y g (.build #[.int .i64 0,.int .i64 0,.int .i64 0] [(0,1),(1,1),(2,1)] [0,1,2]) [.int .i64 ((k:Nat):Int),.int .i64 (-1),.int .i64 (Ye N a b+Zl N b)]=some (.agg #[.int .i64 ((k:Nat):Int),.int .i64 (-1),.int .i64 (Ye N a b+Zl N b)]):=fun g=>rfl
  simp [aa]
  refine Qu ?_
  intro q hm gq Bq em
  have km:=kl.ext em
  have xm:=xl.trans em
  simp
  refine Vz rfl km.oT Bq rfl rfl rfl (by omega) (by omega) ?_
  intro ad O on mn hs
  simp [w1]
  have e3:Zs (List.map Xm T++[(.int .i64 ((k:Nat):Int),.int .i64 (-1),.int .i64 (Ye N a b+Zl N b))])=Zs ((T++[(⟨((k:Nat):Int),-1,Ye N a b+Zl N b⟩:Yp)]).map Xm):=by simp [Xm]
  rw [e3] at on
  have xn:Ext h O:=Mod.ext xm mn (fun j V=>by have:=(kk.dT V.1); omega)
  have rn:=((ru.ext J).ext em).mod mn (fun ac q=>by
   have hu:u.nl=false:=by
    cases U:u.nl with
    | false=>rfl
    | true=>have:=(ru.ok.nil U).1; omega
   have:=(du hu).2.2.2.2.2.2.2 q.1
   omega)
  refine ⟨⟨j+1,H,sv,ad,As,P,_,_,_,_,_,_,_,_,_,_,_,_,_,_,_,_,_,_,_,_,_,_,_,_,rfl,lP,c,ea,by omega,km.pushT mn on hs (by have:=xm.size; omega),pk,by rw [ht]; exact AOk.go tk lk ek m1 t1 t2,rn,fun r=>?_,xn⟩,by simp [Zo]; omega⟩
  have d:=du r
  refine ⟨d.1,d.2.1,d.2.2.1,d.2.2.2.1,d.2.2.2.2.1,d.2.2.2.2.2.1,d.2.2.2.2.2.2.1,fun h=>?_⟩
  rcases hs with ⟨x,y⟩ | ⟨x,y⟩
  ·rw [x]; exact d.2.2.2.2.2.2.2 (by rw [<-y]; exact h)
  ·have:=Qg ((ru.ext J).ext em) (l:=Xn N a) (fun e=>by rw [e] at cj; simp at cj)
   omega
 have be:Zag (Ww As 0) (b:Int)=none:=by rw [X7,if_neg m2]
 rw [if_neg m2] at ab
 simp at ab
 have af:=kl.oA.row64.len
 simp [aJ,ab,wt]
 refine Zk2 kl.mp be ?_
 intro bW aL m1m
 have bg:Ww As 0++[((b:Int),Value.int .i64 H.n)]=Ww (As++[(b:Int)]) 0:=by rw [Zef,<-af]; simp
 rw [bg] at aL
 simp
 refine Xe rfl ?_
 intro q2 bX bY Bq2 ae
 have bh:=(kl.oA.mod m1m (fun r=>by have:=kk.dA r; omega)).ext' ae
 simp
 refine Wc rfl bh Bq2 (by omega) (by omega) ?_
 intro ah ak bi bZ m3 aM
 have aN:Yb ak 1 ah (Zh (As++[(b:Int)])):=by simpa [Zh] using bi
 have k3:=kl.addA m1m aL ae m3 aN aM (by have:=xl.size; omega)
 have x3:Ext h ak:=Mod.ext (Mod.ext xl m1m (fun j V=>by have:=kk.dB; omega) |>.trans ae) m3 (fun j V=>by have:=kk.dA V.1; omega)
 have bj:=pk.addA m2 bb
 have bk:H.n<(As++[(b:Int)]).length:=by simp; omega
 have bm:Zc (As++[(b:Int)]) H.n=(b:Int):=by rw [<-af]; exact Zcw
 have bn:u.nl=false->u.b<hl.size:=fun r=>Qg (ru.ext J) (fun e=>by rw [e] at cj; simp at cj)
 have aO:u.nl=false:=by
  cases U:u.nl with
  | false=>rfl
  | true=>have:=(ru.ok.nil U).1; omega
 have aP:Zz ak u (Xn N a):=(((ru.ext J).mod m1m (fun _ q=>by have:=du aO; omega)).ext ae).mod m3 (fun _ q=>by have:=(du aO).2.2.2.2.2.1 q.1; omega)
 have aQ:u.nl=false->h.size<=u.b/\u.b≠Bc/\u.b≠Br/\u.b≠B8/\u.b≠M/\(ah.nl=false->u.b≠ah.b)/\(sv.nl=false->u.b≠sv.b)/\(sT.nl=false->u.b≠sT.b):=fun r=>by
  have d:=du r
  refine ⟨d.1,d.2.1,d.2.2.1,d.2.2.2.1,d.2.2.2.2.1,fun h=>?_,d.2.2.2.2.2.2⟩
  rcases aM with ⟨x,y⟩ | ⟨x,y⟩
  ·rw [x]; exact d.2.2.2.2.2.1 (by rw [<-y]; exact h)
  ·have:=bn r
   have:=m1m.size
   have:=ae.size
   omega
 simp [wt]
 have aa:∀ g,Yg.sem Y g (.build #[.int .i64 0,.int .i64 0,.int .i64 0] [(0,1),(1,1),(2,1)] [0,1,2]) [.int .i64 ((H.n:Nat):Int),.int .i64 (-1),.int .i64 (Ye N a b+Zl N b)]=some (.agg #[.int .i64 ((H.n:Nat):Int),.int .i64 (-1),.int .i64 (Ye N a b+Zl N b)]):=fun g=>rfl
 simp [aa]
 refine Qu ?_
 intro q hm gq Bq em
 have km:=k3.ext em
 have xm:=x3.trans em
 simp
 refine Vz rfl km.oT Bq rfl rfl rfl (by omega) (by omega) ?_
 intro ad O on mn hs
 simp [w1]
 have e3:Zs (List.map Xm T++[(.int .i64 ((H.n:Nat):Int),.int .i64 (-1),.int .i64 (Ye N a b+Zl N b))])=Zs ((T++[(⟨((H.n:Nat):Int),-1,Ye N a b+Zl N b⟩:Yp)]).map Xm):=by simp [Xm]
 rw [e3] at on
 have xn:Ext h O:=Mod.ext xm mn (fun j V=>by have:=(kk.dT V.1); omega)
 have rn:=((aP).ext em).mod mn (fun ac q=>by
  have hu:u.nl=false:=by
   cases U:u.nl with
   | false=>rfl
   | true=>have:=(ru.ok.nil U).1; omega
  have:=(aQ hu).2.2.2.2.2.2.2 q.1
  omega)
 refine ⟨⟨j+1,ah,sv,ad,(As++[(b:Int)]),P,_,_,_,_,_,_,_,_,_,_,_,_,_,_,_,_,_,_,_,_,_,_,_,_,rfl,lP,(by simp; omega),(by rw [Vq c]; exact ea),by omega,km.pushT mn on hs (by have:=xm.size; omega),bj,by rw [ht]; exact AOk.go tk.mono bk bm m1 t1 t2,rn,fun r=>?_,xn⟩,by simp [Zo]; omega⟩
 have d:=aQ r
 refine ⟨d.1,d.2.1,d.2.2.1,d.2.2.2.1,d.2.2.2.2.1,d.2.2.2.2.2.1,d.2.2.2.2.2.2.1,fun h=>?_⟩
 rcases hs with ⟨x,y⟩ | ⟨x,y⟩
 ·rw [x]; exact d.2.2.2.2.2.2.2 (by rw [<-y]; exact h)
 ·have:=Qg ((aP).ext em) (l:=Xn N a) (fun e=>by rw [e] at cj; simp at cj)
  omega
end
def Zbj (N:Zg) (L:List (List Int)) (costs:List Int) (k a b:Nat):Int :=
 Zc costs (enV N L k (Zc (Zq L k) (Xd N a)).toNat (Yc 0 (Zn N L k false (Zc (Zq L k) (Xd N a)).toNat) a) (Yc 0 (Zn N L k true (Zc (Zq L k) (Xd N a)).toNat) b)).toNat
def Xv (N:Zg) (outs Ar:List Int) (m:Int):Yp:=if Yc 0 outs m<0 then ⟨Yc 0 Ar m,-1,Zl N m⟩ else ⟨0,Yc 0 outs m,0⟩
structure Zri (N:Zg) (L:List (List Int)) (costs outs Ar:List Int) (k c:Nat) (fi:Nat->Int) (ls st:Nat->List Yp):Prop where
 once:Zfb Ar
 mem:∀ x:Int,x∈Ar↔∃ a:Nat,x=a/\a<N.as.length/\Zc (Zq L k) (Z0 N a)≠Zc (Zq L k) (Xd N a)/\Zc (Zq L (k+1)) (Xd N a)=c
 ff:∀ j (a:Nat),j<Ar.length->Zc Ar j=a->fi j=enV N L k (Zc (Zq L k) (Xd N a)).toNat (Yc 0 (Zn N L k false (Zc (Zq L k) (Xd N a)).toNat) a) 0
 ll:∀ j (a:Nat),j<Ar.length->Zc Ar j=a->ls j=(Zn N L k true (Zc (Zq L k) (Xd N a)).toNat).map (Xv N outs Ar)
 st:∀ j,st j=if j<Ar.length then stK costs (fi j).toNat (ls j) else []
theorem Z4s {costs:List Int} {x:Yp}:∀ {l:List Yp} {p:Nat},x∈stK costs p l↔∃ j,j<l.length/\Zc costs (p+j)<Xr/\(Zf l j).c<Xr/\x=⟨(Zf l j).a,(Zf l j).b,(Zf l j).c+Zc costs (p+j)⟩:=by
 intro l
 induction l with
 | nil=>intro p; simp [stK]
 | cons y r G =>
  intro p
  have h0:Zf (y::r) 0=y:=rfl
  have hs:∀ j,Zf (y::r) (j+1)=Zf r j:=fun j=>rfl
  have key:(∃ j,j<(y::r).length/\Zc costs (p+j)<Xr/\(Zf (y::r) j).c<Xr/\x=⟨(Zf (y::r) j).a,(Zf (y::r) j).b,(Zf (y::r) j).c+Zc costs (p+j)⟩) ↔
    (Zc costs p<Xr/\y.c<Xr/\x=⟨y.a,y.b,y.c+Zc costs p⟩)\/∃ j,j<r.length/\Zc costs (p+1+j)<Xr/\(Zf r j).c<Xr/\x=⟨(Zf r j).a,(Zf r j).b,(Zf r j).c+Zc costs (p+1+j)⟩:=by
   constructor
   ·rintro ⟨j,h1,D⟩
    cases j with
    | zero=>exact .inl D
    | succ j=>rw [hs,show p+(j+1)=p+1+j by omega] at D; exact .inr ⟨j,by simpa using h1,D⟩
   ·rintro (h | ⟨j,h1,D⟩)
    ·exact ⟨0,by simp,h⟩
    ·exact ⟨j+1,by simpa using h1,by rw [hs,show p+(j+1)=p+1+j by omega]; exact D⟩
  rw [key,<-G]
  simp only [stK]
  split
  ·rename_i c
   rw [Xf8]
   constructor
   ·rintro (h | h)
    ·exact .inl ⟨c.1,c.2,h⟩
    ·exact .inr h
   ·rintro (h | h)
    ·exact .inl h.2.2
    ·exact .inr h
  ·rename_i c
   constructor
   ·exact .inr
   ·rintro (h | h)
    ·exact absurd ⟨h.1,h.2.1⟩ c
    ·exact h
section
variable {N:Zg} {L:List (List Int)} {costs outs Ar:List Int} {k c:Nat} {fi:Nat->Int} {ls st:Nat->List Yp}
theorem Zko (r:Yx N.vs.length L) (D:Yd N) (G:k<L.length) {a:Nat} (H:a<N.as.length):∃ q:Nat,Zc (Zq L k) (Xd N a)=q/\q<Zw L k:=by
 have h:=(D.arcs a H).2
 simp [Zt] at h
 exact (Xi r G).2.2.2 _ (by unfold Xd; omega)
theorem X5 (r:Yx N.vs.length L) (D:Yd N) (G:k<L.length) {a q:Nat}:(a:Int)∈Zn N L k false q↔a<N.as.length/\Zc (Zq L k) (Z0 N a)≠Zc (Zq L k) (Xd N a)/\Zc (Zq L k) (Xd N a)=q:=Zmd r D G
theorem Ud (r:Yx N.vs.length L) (D:Yd N) (G:k<L.length) {a q:Nat}:(a:Int)∈Zn N L k true q↔a<N.as.length/\Zc (Zq L k) (Z0 N a)≠Zc (Zq L k) (Xd N a)/\Zc (Zq L k) (Z0 N a)=q:=Zmd r D G
theorem Vg (r:Yx N.vs.length L) (D:Yd N) (G:k<L.length) {q:Nat} {x:Bool} {m:Int} (h:m∈Zn N L k x q):∃ a:Nat,m=a/\a<N.as.length:=by
 have h1:m∈Uf N L ((k:Int)+1):=(List.mem_filter.1 h).1
 have:=(Zf5.1 h1).1
 simp [Zt] at this
 exact ⟨m.toNat,by omega,by omega⟩
theorem Z32 {q:Nat} {i:Int} {j:Nat} (h0:0<=i) (h1:i<(Zn N L k false q).length) (r:j<(Zn N L k true q).length):enV N L k q i j=enV N L k q i 0+j/\0<=enV N L k q i 0:=by
 have D:0<=i * ((Zn N L k true q).length:Int):=Xg2 h0 (by omega)
 unfold enV
 rw [if_pos ⟨h0,h1,by omega,by omega⟩,if_pos ⟨h0,h1,by omega,by omega⟩]
 omega
theorem Zri.step (B:Zri N L costs outs Ar k c fi ls st) (G:Yx N.vs.length L) (H:Yd N) (I:k<L.length) {j a:Nat} (M:j<Ar.length) (U:Zc Ar j=a) {x:Yp} :
  x∈st j↔∃ m:Nat,m<N.as.length/\Zc (Zq L k) (Z0 N m)=Zc (Zq L k) (Xd N a)/\Zc (Zq L k) (Xd N m)≠Zc (Zq L k) (Xd N a)/\Zbj N L costs k a m<Xr/\(Xv N outs Ar m).c<Xr/\x=⟨(Xv N outs Ar m).a,(Xv N outs Ar m).b,(Xv N outs Ar m).c+Zbj N L costs k a m⟩:=by
 obtain ⟨a',e,la,hx,hc⟩:=(B.mem a).1 (Zk.2 ⟨j,M,U⟩)
 have:a'=a:=by omega
 subst this
 obtain ⟨q,V,lq⟩:=Zko G H I la
 have X:(a':Int)∈Zn N L k false q:=(X5 G H I).2 ⟨la,hx,V⟩
 obtain ⟨i,li,ei⟩:=Zk.1 X
 have Z:=Xb (Xc (N:=N) (L:=L) (k:=k) (c:=q) (x:=false)).once li
 rw [ei] at Z
 rw [B.st,if_pos M,Z4s,B.ff j a' M U,B.ll j a' M U,V]
 simp only [Xd9,Xea]
 rw [Z]
 have r:∀ u,u<(Zn N L k true q).length->∀ m:Nat,Zc (Zn N L k true q) u=m->Zbj N L costs k a' m=Zc costs ((enV N L k q i 0).toNat+u):=fun u hu m hm=>by
  unfold Zbj
  rw [V]
  simp only [Xd9]
  have pu:=Xb (Xc (N:=N) (L:=L) (k:=k) (c:=q) (x:=true)).once hu
  rw [hm] at pu
  rw [Z,pu]
  have:=Z32 (N:=N) (L:=L) (k:=k) (q:=q) (i:=i) (j:=u) (by omega) (by omega) hu
  congr 1
  omega
 have D:∀ u,u<(Zn N L k true q).length->Zf ((Zn N L k true q).map (Xv N outs Ar)) u=Xv N outs Ar (Zc (Zn N L k true q) u):=fun u hu=>by
  rw [Wj (by simpa using hu)]
  simp [Zc,hu]
 constructor
 ·rintro ⟨u,h1,O,J,h4⟩
  obtain ⟨m,em,lm⟩:=Vg G H I (Zk.2 ⟨u,h1,rfl⟩)
  obtain ⟨_,r1,r2⟩:=(Ud G H I).1 (Zk.2 ⟨u,h1,em⟩)
  rw [D u h1,em] at J h4
  rw [<-r u h1 m em] at O h4
  exact ⟨m,lm,by rw [r2],fun e=>r1 (by rw [r2,e]),O,J,h4⟩
 ·rintro ⟨m,lm,h1,O,J,h4,h5⟩
  obtain ⟨u,R,eu⟩:=Zk.1 ((Ud G H I).2 ⟨lm,fun e=>O (by rw [<-e,h1]),h1⟩)
  rw [r u R m eu] at J h5
  exact ⟨u,R,J,by rw [D u R,eu]; exact h4,by rw [D u R,eu]; exact h5⟩
theorem Zwh {m:Nat} (r:Yd N):0<=(Xv N outs Ar m).c/\(Xv N outs Ar m).c<=Xr:=by
 have D:Xr=1152921504606846976:=rfl
 have:=Vf r (a:=(m:Int))
 unfold Xv
 split
 ·dsimp only; omega
 ·dsimp only; omega
theorem Zri.ok (B:Zri N L costs outs Ar k c fi ls st) (Z:Yx N.vs.length L) (O:Yd N) (hk:k+1<L.length) (D:outs=Zn N L (k+1) true c) (hc:∀ i,0<=Zc costs i) (G:Zic (Zc (Zq L k)) (Zc (Zq L (k+1)))):Zpi Ar.length outs.length st:=by
 have hI:Xr=1152921504606846976:=rfl
 have key:∀ a x,x∈st a->a<Ar.length:=fun a x h=>Xey fun q=>by rw [B.st,if_neg q] at h; simp at h
 have row:∀ j x,x∈st j->∃ a m:Nat,m<N.as.length/\a<N.as.length/\Zc (Zq L (k+1)) (Xd N a)=c/\Zc (Zq L k) (Z0 N m)=Zc (Zq L k) (Xd N a)/\Zc (Zq L k) (Xd N m)≠Zc (Zq L k) (Xd N a)/\Zbj N L costs k a m<Xr/\(Xv N outs Ar m).c<Xr/\x=⟨(Xv N outs Ar m).a,(Xv N outs Ar m).b,(Xv N outs Ar m).c+Zbj N L costs k a m⟩:=fun j x h=>by
  have hj:=key j x h
  obtain ⟨a,e,I,hx,r⟩:=(B.mem _).1 (Zk.2 ⟨j,hj,rfl⟩)
  obtain ⟨m,h1,H⟩:=(B.step Z O (by omega) hj e).1 h
  exact ⟨a,m,h1,I,r,H⟩
 refine ⟨fun a x h J=>?_,fun a x h=>?_,fun a x h=>?_⟩
 ·obtain ⟨a',m,M,I,r,h1,H,_,_,rfl⟩:=row a x h
  simp only [] at J ⊢
  unfold Xv at J ⊢
  split at J
  ·rename_i q
   rw [if_pos q]
   have R:(m:Int) ∉ outs:=fun U=>by
    have:=Qb (a:=(m:Int)) (l:=outs) (k:=0)
    have:=this.2 U
    omega
   have:(m:Int)∈Ar:=(B.mem _).2 ⟨m,rfl,M,fun e=>H (by rw [<-e,h1]),Xey fun q=>R (by
    rw [D,Ud Z O hk]
    have:=G _ _ h1
    exact ⟨M,fun e=>q (by rw [<-e,this,r]),by rw [this,r]⟩)⟩
   obtain ⟨u,V,X⟩:=Zk.1 this
   have:=Xb B.once V
   rw [X] at this
   dsimp only
   omega
  ·rename_i q
   dsimp only at J; omega
 ·obtain ⟨a',m,M,I,r,h1,H,_,_,rfl⟩:=row a x h
  unfold Xv
  split
  ·dsimp only; omega
  ·rename_i q
   have U:=Qb.1 (show 0<=Yc 0 outs (m:Int) by omega)
   obtain ⟨u,V,X⟩:=Zk.1 U
   have:=Xb (l:=outs) (by rw [D]; exact Xc.once) V
   rw [X] at this
   dsimp only; omega
 ·obtain ⟨a',m,M,I,r,h1,H,h3,h4,rfl⟩:=row a x h
  have:=Zwh (N:=N) (outs:=outs) (Ar:=Ar) (m:=m) O
  have:=hc (enV N L k (Zc (Zq L k) (Xd N a')).toNat (Yc 0 (Zn N L k false (Zc (Zq L k) (Xd N a')).toNat) a') (Yc 0 (Zn N L k true (Zc (Zq L k) (Xd N a')).toNat) m)).toNat
  have e:Zbj N L costs k a' m=Zc costs (enV N L k (Zc (Zq L k) (Xd N a')).toNat (Yc 0 (Zn N L k false (Zc (Zq L k) (Xd N a')).toNat) a') (Yc 0 (Zn N L k true (Zc (Zq L k) (Xd N a')).toNat) m)).toNat:=rfl
  dsimp only
  omega
theorem Zri.thru (B:Zri N L costs outs Ar k c fi ls st) (Z:Yx N.vs.length L) (U:Yd N) (hk:k+1<L.length) (D:outs=Zn N L (k+1) true c) (af:∀ i,Zc costs i<=Xr) (V:Zic (Zc (Zq L k)) (Zc (Zq L (k+1)))) {i o a b:Nat}
  (hi:i<Ar.length) (H:Zc Ar i=a) (ho:o<outs.length) (hb:Zc outs o=b) {x:Int}:GoF st i o x↔Zre N (Zc (Zq L (k+1))) (Zc (Zq L k)) c (Zbj N L costs k) a b x:=by
 have hI:Xr=1152921504606846976:=rfl
 have I:Zfb outs:=by rw [D]; exact Xc.once
 have le:∀ a m,Zbj N L costs k a m<=Xr:=fun a m=>af _
 have J:∀ {j a:Nat},j<Ar.length->Zc Ar j=a->a<N.as.length/\Zc (Zq L (k+1)) (Xd N a)=c:=fun {j a} O H=>by
  obtain ⟨a',e,la,hx,ag⟩:=(B.mem _).1 (Zk.2 ⟨j,O,H⟩)
  have:a'=a:=by omega
  subst this
  exact ⟨la,ag⟩
 have ab:∀ {j a:Nat},j<Ar.length->Zc Ar j=a->∀ (v:Nat) (w:Int),EdF st j v w↔v<Ar.length/\∃ m:Nat,Zc Ar v=m/\Ztw N (Zc (Zq L (k+1))) (Zc (Zq L k)) c (Zbj N L costs k) a m w:=fun {j a} O H v w=>by
  obtain ⟨la,R⟩:=J O H
  constructor
  ·rintro ⟨z,h1,r,h3,rfl⟩
   obtain ⟨m,lm,M,X,q3,q4,rfl⟩:=(B.step Z U (by omega) O H).1 h1
   unfold Xv at r h3 q4 ⊢
   split at r
   ·rename_i q
    simp only [if_pos q] at h3 q4 ⊢
    have G:(m:Int) ∉ outs:=fun hm=>by
     have:=Qb (a:=(m:Int)) (l:=outs) (k:=0)
     have:=this.2 hm
     omega
    have ac:Zc (Zq L (k+1)) (Xd N m)=c:=Xey fun q=>G (by
     rw [D,Ud Z U hk]
     have:=V _ _ M
     exact ⟨lm,fun e=>q (by rw [<-e,this,R]),by rw [this,R]⟩)
    obtain ⟨u,lu,eu⟩:=Zk.1 ((B.mem (m:Int)).2 ⟨m,rfl,lm,fun e=>X (by rw [<-e,M]),ac⟩)
    have:=Xb B.once lu
    rw [eu] at this
    have:u=v:=by omega
    subst this
    exact ⟨lu,m,eu,M,X,by rw [V _ _ M,R],ac,by omega,by omega,by omega⟩
   ·simp at r
    omega
  ·rintro ⟨lv,m,em,M,X,q3,q4,q5,q6,rfl⟩
   obtain ⟨lm,_⟩:=J lv em
   have G:Yc 0 outs (m:Int)<0:=by
    rw [Zbh]
    ·omega
    ·rw [D,Ud Z U hk]
     rintro ⟨_,h,_⟩
     exact h (by rw [q3,q4])
   have pv:=Xb B.once lv
   rw [em] at pv
   have wc:=(Vf U (a:=(m:Int))).resolve_left q6
   refine ⟨_,(B.step Z U (by omega) O H).2 ⟨m,lm,M,X,by have:=le a m; omega,?_,rfl⟩,?_,?_,?_⟩
   ·unfold Xv; rw [if_pos G]; dsimp only; omega
   ·unfold Xv; rw [if_pos G]; dsimp only; omega
   ·unfold Xv; rw [if_pos G]; exact pv
   ·unfold Xv; rw [if_pos G]; dsimp only; omega
 have ad:∀ {j a:Nat},j<Ar.length->Zc Ar j=a->∀ w:Int,OuF st j o w↔Xa2 N (Zc (Zq L k)) (Zbj N L costs k) a b w:=fun {j a} O H w=>by
  obtain ⟨la,R⟩:=J O H
  have po:=Xb I ho
  rw [hb] at po
  have ah:(b:Int)∈outs:=Zk.2 ⟨o,ho,hb⟩
  constructor
  ·rintro ⟨z,h1,r,rfl⟩
   obtain ⟨m,lm,M,X,q3,q4,rfl⟩:=(B.step Z U (by omega) O H).1 h1
   unfold Xv at r q4 ⊢
   split at r
   ·simp at r
   ·rename_i q
    simp only [if_neg q] at q4 ⊢
    simp only [] at r
    have hm:=Qb.1 (show 0<=Yc 0 outs (m:Int) by omega)
    obtain ⟨u,lu,eu⟩:=Zk.1 hm
    have:=Xb I lu
    rw [eu] at this
    have:u=o:=by omega
    subst this
    have:m=b:=by omega
    subst this
    exact ⟨M,X,by omega,by omega⟩
  ·rintro ⟨M,X,q3,rfl⟩
   have aa:¬ Yc 0 outs (b:Int)<0:=by omega
   obtain ⟨b',aj,lb⟩:=Vg Z U hk (by rw [<-D]; exact ah)
   have:b'=b:=by omega
   subst this
   refine ⟨_,(B.step Z U (by omega) O H).2 ⟨b',lb,M,X,by have:=le a b'; omega,?_,rfl⟩,?_,?_⟩
   ·unfold Xv; rw [if_neg aa]; dsimp only; omega
   ·unfold Xv; rw [if_neg aa]; exact po
   ·unfold Xv; rw [if_neg aa]; dsimp only; omega
 have ai:∀ j y,Xk (AtI i) (EdF st) j y->∃ a':Nat,j<Ar.length/\Zc Ar j=a'/\Xk (AtI a) (Ztw N (Zc (Zq L (k+1))) (Zc (Zq L k)) c (Zbj N L costs k)) a' y:=by
  intro j y w
  induction w with
  | init h=>obtain ⟨rfl,rfl⟩:=h; exact ⟨a,hi,H,.init ⟨rfl,rfl⟩⟩
  | step w h ih =>
   obtain ⟨u,h1,r,h3⟩:=ih
   obtain ⟨lv,m,em,hm⟩:=(ab h1 r _ _).1 h
   exact ⟨m,lv,em,.step h3 hm⟩
 have ae:∀ a' y,Xk (AtI a) (Ztw N (Zc (Zq L (k+1))) (Zc (Zq L k)) c (Zbj N L costs k)) a' y->∃ j,j<Ar.length/\Zc Ar j=(a':Int)/\Xk (AtI i) (EdF st) j y:=by
  intro a' y w
  induction w with
  | init h=>obtain ⟨rfl,rfl⟩:=h; exact ⟨i,hi,H,.init ⟨rfl,rfl⟩⟩
  | step w h ih =>
   rename_i u v y' w'
   obtain ⟨j,h1,r,h3⟩:=ih
   have hv:v<N.as.length:=by
    obtain ⟨kk,e,lk⟩:=Qa h.2.2.2.2.2.1
    omega
   obtain ⟨z,lz,ez⟩:=Zk.1 ((B.mem (v:Int)).2 ⟨v,rfl,hv,fun e=>h.2.1 (by rw [<-e,h.1]),h.2.2.2.1⟩)
   exact ⟨z,lz,ez,.step h3 ((ab h1 r _ _).2 ⟨lz,v,ez,h⟩)⟩
 constructor
 ·rintro ⟨j,y,w,h1,r,rfl⟩
  obtain ⟨a',lj,ej,wj⟩:=ai j y h1
  exact ⟨a',y,w,wj,(ad lj ej w).1 r,rfl⟩
 ·rintro ⟨a',y,w,h1,r,rfl⟩
  obtain ⟨j,lj,ej,wj⟩:=ae a' y h1
  exact ⟨j,y,w,wj,(ad lj ej w).2 r,rfl⟩
end
end Go.Rm
