import Derived.Test.YtmacmgjnmaajdaaGreatDoorT15
import Derived.Sort.OwnSortedInts
/- Parts. -/
set_option linter.all false
namespace Go.Rm
def Vq:Zb->Nat->List (Int × cR)
 | [],_=>[]
 |x::r,k=>(x,.int .i64 k)::Vq r (k+1)
def Zfh{x:Int}:∀{l:Zb}{k:Nat},Vq (l++[x]) k=Vq l k++[(x,.int .i64 ((k+l.length:Nat):Int))]:=by
 intro l
 induction l with
 |nil=>intro k;simp[Vq]
 |cons y r G =>
  intro k;have:k+1+r.length=k+(r.length+1):=by omega
  simp[Vq,G,-Int.natCast_add,this]
def Q7{x:Int}:∀{l:Zb}{k:Nat},Z4 (Vq l k) x=if x∈l then some (.int .i64 (Yk k l x)) else none:=by
 intro l
 induction l with
 |nil=>intro k;simp[Vq,Z4]
 |cons y r G =>
  intro k;by_cases q:y=x
  ·subst q;simp[Vq,Z4,Yk]
  have:Z4 (Vq (y::r) k) x=Z4 (Vq r (k+1)) x:=by simp[Vq,Z4,q]
  rw[this,G];have q':¬x=y:=fun e=>q e.symm;simp[q',Yk,q]
def Zdp{l:Zb}{n:Nat}(h:Zf8 l)(I:∀k,k<l.length->∃a:Nat,Zm l k=a/\a<n):l.length<=n:=by
 have:=Za1 (l:=l.map Int.toNat) (n:=n) (by
  rw[List.nodup_iff_pairwise_ne,Xlv];intro i j G H J e;simp at G H e;obtain⟨a,O,_⟩:=I i G;obtain⟨b,X,_⟩:=I j H;have e1:Zm l i=l[i]:=by simp[Zm,G]
  have e2:Zm l j=l[j]:=by simp[Zm,H]
  have:=h i j G H (by omega);omega) (fun a R=>by
  obtain⟨x,hx,rfl⟩:=List.mem_map.1 R;obtain⟨k,U,rfl⟩:=Ya.1 hx;obtain⟨a,O,la⟩:=I k U;omega)
 simpa using this
def Zf0{h:Zk}{s:Sl}{l:List Yt}(r:Zbd h s l)(G:l≠[]):s.b<h.size:=by
 have:0<l.length:=by cases l with
  |nil=>exact absurd rfl G
  |cons=>simp
 have:=r.v0 0 this;exact Xka fun q=>by simp[hc,Xk0 (Nat.not_lt.1 q)] at this
structure ByS(h:Zk)(lo Bc Br B8 M:Nat)(s1 s2 sA sv sT:Sl)(As:Zb)(P:List (Sl × List Yt))(T:List Yt):Prop where
 bc:Yo h Bc #[s1.v,s2.v]
 br:Yo h Br #[.int .i64 0,.slice none 0 0,.nilFunc]
 b8:Yo h B8 #[sv.v]
 mp:Zbv h M (Vq As 0)
 oA:Yh h 1 sA (Zu As)
 oV:Yh h 1 sv (P.map fun p=>p.1.v)
 oT:Yh h 3 sT (Yb (T.map Xf))
 rw:∀p,p∈P->Zbd h p.1 p.2
 dA:sA.nl=false->lo<=sA.b/\sA.b≠Bc/\sA.b≠Br/\sA.b≠B8/\sA.b≠M
 dV:sv.nl=false->lo<=sv.b/\sv.b≠Bc/\sv.b≠Br/\sv.b≠B8/\sv.b≠M/\(sA.nl=false->sv.b≠sA.b)
 dT:sT.nl=false->lo<=sT.b/\sT.b≠Bc/\sT.b≠Br/\sT.b≠B8/\sT.b≠M/\(sA.nl=false->sT.b≠sA.b)/\(sv.nl=false->sT.b≠sv.b)
 dP:∀p,p∈P->p.2≠[]->lo<=p.1.b/\p.1.b≠Bc/\p.1.b≠Br/\p.1.b≠B8/\p.1.b≠M/\(sA.nl=false->p.1.b≠sA.b)/\(sv.nl=false->p.1.b≠sv.b)/\(sT.nl=false->p.1.b≠sT.b)
 dB:lo<=Bc/\lo<=Br/\lo<=B8/\lo<=M/\Bc≠Br/\Bc≠B8/\Bc≠M/\Br≠B8/\Br≠M/\B8≠M
section
variable{h h' h1 h2 h3:Zk}{lo Bc Br B8 M:Nat}{s1 s2 sA sv sT:Sl}{As:Zb}{P:List (Sl × List Yt)}{T:List Yt}
def ByS.cC(k:ByS h lo Bc Br B8 M s1 s2 sA sv sT As P T)(e:Ext h h'):ByS h' lo Bc Br B8 M s1 s2 sA sv sT As P T :=
 ⟨k.bc.cC e,k.br.cC e,k.b8.cC e,k.mp.cC e,k.oA.cF e,k.oV.cF e,k.oT.cF e,fun p hp=>(k.rw p hp).cC e,k.dA,k.dV,k.dT,k.dP,k.dB⟩
def ByS.pushT(k:ByS h lo Bc Br B8 M s1 s2 sA sv sT As P T){G:Sl}{x:Yt}(m:Mod (fun j=>sT.nl=false/\j=sT.b) h h')(o:Yh h' 3 G (Yb ((T++[x]).map Xf)))(O:(G.b=sT.b/\G.nl=sT.nl)\/(h.size<=G.b/\G.nl=false))
  (R:lo<=h.size):ByS h' lo Bc Br B8 M s1 s2 sA sv G As P (T++[x]):=by
 have l1:=k.bc.lt;have l2:=k.br.lt;have l3:=k.b8.lt;have l4:=k.mp.lt;have U:=k.oA.lt;have X:=k.oV.lt;have J:=k.dT;refine⟨m.cM k.bc (fun q=>by have:=J q.1;omega),m.cM k.br (fun q=>by have:=J q.1;omega),m.cM k.b8 (fun q=>by have:=J q.1;omega),k.mp.cD m (fun q=>by have:=J q.1;omega),k.oA.cD m (fun H q=>by have:=(J q.1).2.2.2.2.2.1 H;omega),k.oV.cD m (fun H q=>by have:=(J q.1).2.2.2.2.2.2 H;omega),o,fun p hp=>(k.rw p hp).cD m (fun H q=>by have:=(k.dP p hp H).2.2.2.2.2.2.2 q.1;omega),k.dA,k.dV,fun H=>?_,fun p hp H=>?_,k.dB⟩
 ·rcases O with⟨a,b⟩|⟨a,b⟩
  ·rw[a];exact J (by rw[<-b];exact H)
  exact⟨by omega,by omega,by omega,by omega,by omega,fun h=>by have:=U h;omega,fun h=>by have:=X h;omega⟩
 have I:=k.dP p hp H;have lp:=Zf0 (k.rw p hp) H;refine⟨I.1,I.2.1,I.2.2.1,I.2.2.2.1,I.2.2.2.2.1,I.2.2.2.2.2.1,I.2.2.2.2.2.2.1,fun h=>?_⟩;rcases O with⟨a,b⟩|⟨a,b⟩
 ·rw[a];exact I.2.2.2.2.2.2.2 (by rw[<-b];exact h)
 omega
def ByS.addA(k:ByS h lo Bc Br B8 M s1 s2 sA sv sT As P T){I:Sl}{x:Int}(m:Mod (fun j=>j=M) h h1)(hM:Zbv h1 M (Vq (As++[x]) 0))(e:Ext h1 h2)(m':Mod (fun j=>sA.nl=false/\j=sA.b) h2 h3)(o:Yh h3 1 I (Zu (As++[x])))(R:(I.b=sA.b/\I.nl=sA.nl)\/(h2.size<=I.b/\I.nl=false))
  (aa:lo<=h.size):ByS h3 lo Bc Br B8 M s1 s2 I sv sT (As++[x]) P T:=by
 have l1:=k.bc.lt;have l2:=k.br.lt;have l3:=k.b8.lt;have l4:=k.mp.lt;have l6:=k.oV.lt;have l7:=k.oT.lt;have z1:=m.size;have z2:=e.size;have O:=k.dA;have U:=k.dV;have X:=k.dT;have dB:=k.dB;refine⟨m'.cM ((m.cM k.bc (by omega)).cC e) (fun q=>by have:=O q.1;omega),m'.cM ((m.cM k.br (by omega)).cC e) (fun q=>by have:=O q.1;omega),m'.cM ((m.cM k.b8 (by omega)).cC e) (fun q=>by have:=O q.1;omega),(hM.cC e).cD m' (fun q=>by have:=O q.1;omega),o,((k.oV.cD m (fun G q=>by have:=U G;omega)).cF e).cD m' (fun G q=>by have:=(U G).2.2.2.2.2 q.1;omega),((k.oT.cD m (fun G q=>by have:=X G;omega)).cF e).cD m' (fun G q=>by have:=(X G).2.2.2.2.2.1 q.1;omega),fun p hp=>(((k.rw p hp).cD m (fun G q=>by have:=k.dP p hp G;omega)).cC e).cD m' (fun G q=>by have:=(k.dP p hp G).2.2.2.2.2.1 q.1;omega),fun G=>?_,fun G=>?_,fun G=>?_,fun p hp G=>?_,dB⟩
 ·rcases R with⟨a,b⟩|⟨a,b⟩
  ·rw[a];exact O (by rw[<-b];exact G)
  exact⟨by omega,by omega,by omega,by omega,by omega⟩
 ·have H:=U G;have lv:=l6 G;refine⟨H.1,H.2.1,H.2.2.1,H.2.2.2.1,H.2.2.2.2.1,fun h=>?_⟩;rcases R with⟨a,b⟩|⟨a,b⟩
  ·rw[a];exact H.2.2.2.2.2 (by rw[<-b];exact h)
  omega
 ·have H:=X G;have lv:=l7 G;refine⟨H.1,H.2.1,H.2.2.1,H.2.2.2.1,H.2.2.2.2.1,fun h=>?_,H.2.2.2.2.2.2⟩;rcases R with⟨a,b⟩|⟨a,b⟩
  ·rw[a];exact H.2.2.2.2.2.1 (by rw[<-b];exact h)
  omega
 have J:=k.dP p hp G;have lp:=Zf0 (k.rw p hp) G;refine⟨J.1,J.2.1,J.2.2.1,J.2.2.2.1,J.2.2.2.2.1,fun h=>?_,J.2.2.2.2.2.2⟩;rcases R with⟨a,b⟩|⟨a,b⟩
 ·rw[a];exact J.2.2.2.2.2.1 (by rw[<-b];exact h)
 omega
def ByS.pushV(k:ByS h lo Bc Br B8 M s1 s2 sA sv sT As P T){H:Sl}(m:Mod (fun j=>sv.nl=false/\j=sv.b) h h1)(o:Yh h1 1 H ((P.map fun p=>p.1.v)++[sT.v]))(hs:(H.b=sv.b/\H.nl=sv.nl)\/(h.size<=H.b/\H.nl=false))
  (m':Mod (fun j=>j=B8) h1 h2) (b8:Yo h2 B8 #[H.v]) (aa:lo<=h.size):ByS h2 lo Bc Br B8 M s1 s2 sA H Sl.nil As (P++[(sT,T)]) []:=by
 have l1:=k.bc.lt;have l2:=k.br.lt;have l3:=k.b8.lt;have l4:=k.mp.lt;have l5:=k.oA.lt;have l7:=k.oT.lt;have dA:=k.dA;have U:=k.dV;have dT:=k.dT;have dB:=k.dB;have rT:=k.oT.row3;have I:H.nl=false->(H.b=sv.b/\sv.nl=false)\/h.size<=H.b:=fun G=>by
  rcases hs with⟨a,b⟩|⟨a,b⟩
  ·exact .inl ⟨a,by rw[<-b];exact G⟩
  exact .inr a
 refine⟨m'.cM (m.cM k.bc (fun q=>by have:=U q.1;omega)) (by omega),m'.cM (m.cM k.br (fun q=>by have:=U q.1;omega)) (by omega),b8,(k.mp.cD m (fun q=>by have:=U q.1;omega)).cD m' (by omega),(k.oA.cD m (fun G q=>by have:=(U q.1).2.2.2.2.2 G;omega)).cD m' (fun G q=>by have:=dA G;omega),?_,Yh.nil,fun p hp=>?_,dA,fun G=>?_,fun G=>(by cases G),fun p hp G=>?_,dB⟩
 ·have:=o.cD m' (fun G q=>by
   rcases I G with⟨a,b⟩|a
   ·have:=U b;omega
   omega)
  simpa using this
 ·rcases List.mem_append.1 hp with q|q
  ·exact ((k.rw p q).cD m (fun G q'=>by have:=(k.dP p q G).2.2.2.2.2.2.1 q'.1;omega)).cD m' (fun G q'=>by have:=k.dP p q G;omega)
  simp at q;subst q;have X:T≠[]->sT.nl=false:=fun G=>by
   cases J:sT.nl with
   |false=>rfl
   |true =>
    have:=(k.oT.ok.nil J).1;have:=rT.len;exact absurd (List.length_eq_zero_iff.1 (by omega)) G
  exact (rT.cD m (fun G q'=>by have:=(dT (X G)).2.2.2.2.2.2 q'.1;omega)).cD m' (fun G q'=>by have:=dT (X G);omega)
 ·rcases I G with⟨a,b⟩|a
  ·rw[a];exact U b
  exact⟨by omega,by omega,by omega,by omega,by omega,fun h=>by have:=l5 h;omega⟩
 rcases List.mem_append.1 hp with q|q
 ·have O:=k.dP p q G;have lp:=Zf0 (k.rw p q) G;refine⟨O.1,O.2.1,O.2.2.1,O.2.2.2.1,O.2.2.2.2.1,O.2.2.2.2.2.1,fun h=>?_,fun h=>(by cases h)⟩;rcases I h with⟨a,b⟩|a
  ·rw[a];exact O.2.2.2.2.2.2.1 b
  omega
 simp at q;subst q;have G:T≠[]:=G;have X:sT.nl=false:=by
  cases J:sT.nl with
  |false=>rfl
  |true =>
   have:=(k.oT.ok.nil J).1;have:=rT.len;exact absurd (List.length_eq_zero_iff.1 (by omega)) G
 have R:=dT X;have lt:=l7 X;refine⟨R.1,R.2.1,R.2.2.1,R.2.2.2.1,R.2.2.2.2.1,R.2.2.2.2.2.1,fun h=>?_,fun h=>(by cases h)⟩;rcases I h with⟨a,b⟩|a
 ·show sT.b≠H.b;rw[a];exact R.2.2.2.2.2.2 b
 show sT.b≠H.b;omega
end
structure Xb7(Y:Sys):Prop where
 G:WkG Y
 S:Zou Y
 byArcs:Y.cL 396 Y396
 next:Y.cL 438 Y438
def Yy(N:Zs)(a:Nat):Zb:=if Yi N.vs.length (toV N a) then Za7 N.as (toV N a) else []
def Zmb(P:List (Sl × List Yt))(k:Nat):List Yt:=(P.map fun p=>p.2).getD k []
structure ByP(N:Zs)(ins cP As:Zb)(P:List (Sl × List Yt)):Prop where
 once:Zf8 As
 nat:∀k,k<As.length->∃a:Nat,Zm As k=a/\a<N.as.length
 li:ins.length<=As.length
 pre:∀k,k<ins.length->Zm As k=Zm ins k
 lp:P.length<=As.length
 row:∀k,k<P.length->AOk N cP As (Zm As k).toNat (Yy N (Zm As k).toNat) (Zmb P k)
def Zol{P Q:List (Sl × List Yt)}{k:Nat}(h:k<P.length):Zmb (P++Q) k=Zmb P k:=by simp[Zmb,Xjm,h]
def Zn6{P:List (Sl × List Yt)}{p:Sl × List Yt}:Zmb (P++[p]) P.length=p.2:=by simp[Zmb]
def Zsl{P:List (Sl × List Yt)}{k:Nat}(h:k<P.length:=by omega):∃p,p∈P/\P[k]? = some p/\p.2=Zmb P k:=⟨P[k],Xi7 h,by simp[h],by simp[Zmb,h]⟩
def ByP.addA{N:Zs}{ins cP As:Zb}{P:List (Sl × List Yt)}(b:ByP N ins cP As P){x:Nat}(hx:(x:Int) ∉ As)(H:x<N.as.length):ByP N ins cP (As++[(x:Int)]) P:=by
 refine⟨b.once.snoc hx,fun k G=>?_,by have:=b.li;simp;omega,fun k G=>by rw[Ux (by have:=b.li;omega)];exact b.pre k G,by have:=b.lp;simp;omega,fun k G=>?_⟩
 ·simp at G;rcases Xi6 k As.length with q|q
  ·rw[Ux q];exact b.nat k q
  have:k=As.length:=by omega
  subst this;rw[Zf2];exact⟨x,rfl,H⟩
 have:=b.lp;rw[Ux (by omega)];exact (b.row k G).mono
def ByP.addP{N:Zs}{ins cP As:Zb}{P:List (Sl × List Yt)}(b:ByP N ins cP As P){p:Sl × List Yt}(I:P.length<As.length)(G:AOk N cP As (Zm As P.length).toNat (Yy N (Zm As P.length).toNat) p.2):ByP N ins cP As (P++[p]):=by
 refine⟨b.once,b.nat,b.li,b.pre,by simp;omega,fun k H=>?_⟩;simp at H;rcases Xi6 k P.length with q|q
 ·rw[Zol q];exact b.row k q
 have:k=P.length:=by omega
 subst this;rw[Zn6];exact G
def Vk{h:Zk}{s:Sl}{l:Zb}(r:Zw h s l)(G:l≠[]):s.b<h.size:=by
 have:0<l.length:=by cases l with
  |nil=>exact absurd rfl G
  |cons=>simp
 have:=r.val 0 this;exact Xka fun q=>by simp[hc,Xk0 (Nat.not_lt.1 q)] at this
section
variable{Y:Sys}{h h':Zk}{p:Nat}{N:Zs}{S:Zf}
def Qm{K:Ze}{G H I x y z:Zj}(J:∀(b:Nat)(h':Zk),h.size<=b->Yo h' b #[x,y,z]->Ext h h'->K (.slice (some ⟨b,0,none⟩) 1 1) h'):
  Ef.wp h K (.bslice 1 3 #[G,H,I] [0]) [.agg #[x,y,z]]:=by
 rw[Zd7];exact fun t=>J _ _ (Xi4 _) Yo.new Mod.push
def Zcj{a:Nat}:(Yy N a).length<=N.as.length:=by
 unfold Yy
 split
 ·unfold Za7;rw[Zde];exact Xki ..
 simp
def Zgv{a b:Nat}(h:Yp N a b≠Xm):(b:Int)∈Yy N a:=by
 obtain⟨G,H⟩:=Xak h;have I:=(Zl0 h).1;have J:toV N (a:Int)=(Zq N.as a).b:=by unfold toV;rw[if_pos I];simp
 unfold Yy;rw[J,if_pos G];exact H
def Q5{a k:Nat}(H:k<(Yy N a).length):∃b:Nat,Zm (Yy N a) k=b/\b<N.as.length:=by
 have G:=Ya.2 ⟨k,H,rfl⟩;revert G;generalize Zm (Yy N a) k=x;unfold Yy
 split
 ·intro G;obtain⟨b,h1,I,_⟩:=Zr3.1 G;exact⟨b,I,h1⟩
 intro G;simp at G
def Ba0(p Bc Br M:Nat)(s1 s2 sA:Sl)(D E:Zj)(ins:Zb)(h0:Zk)(e:Zc)(h':Zk):Prop :=
 ∃(i:Nat)(F G H I a b c d f g h k l m o q r s t u w x y z A B C:Zj),e=[D,E,.pointer (some ⟨Bc,0,none⟩),.pointer (some ⟨Br,0,none⟩),sA.v,.map (some M),F,G,H,I,a,b,c,d,f,g,h,k,l,m,sA.v,.int .i64 sA.n,.int .i64 i,o,q,r,s,t,u,w,x,y,z,A,B,C]/\i<=ins.length/\Zbv h' M (Vq (ins.take i) 0)/\Mod (fun j=>j=M) h0 h'
def Ba2(lo Bc Br B8 M:Nat)(s1 s2:Sl)(D E:Zj)(N:Zs)(ins cP:Zb)(h0:Zk)(e:Zc)(h':Zk):Prop :=
 ∃(i:Nat)(sA sv:Sl)(As:Zb)(P:List (Sl × List Yt))(F G a b c d f g h j k l m n o p q r s t u w x y z A B C:Zj),
  e=[D,E,.pointer (some ⟨Bc,0,none⟩),.pointer (some ⟨Br,0,none⟩),sA.v,.map (some M),F,G,.pointer (some ⟨B8,0,none⟩),.int .i64 i,a,b,c,d,f,g,h,j,k,l,m,n,o,p,q,r,s,t,u,w,x,y,z,A,B,C]/\P.length=i/\ByS h' lo Bc Br B8 M s1 s2 sA sv Sl.nil As P []/\ByP N ins cP As P/\Ext h0 h'
def Ba4(lo Bc Br B8 M a i:Nat)(s1 s2 u:Sl)(D E:Zj)(N:Zs)(ins cP:Zb)(h0:Zk)(e:Zc)(h':Zk):Prop :=
 ∃(j:Nat)(sA sv sT:Sl)(As:Zb)(P:List (Sl × List Yt))(T:List Yt)(F G c d f g h k l m o p q r s t w x y z A B C:Zj),
  e=[D,E,.pointer (some ⟨Bc,0,none⟩),.pointer (some ⟨Br,0,none⟩),sA.v,.map (some M),F,G,.pointer (some ⟨B8,0,none⟩),.int .i64 i,.int .i64 a,sT.v,c,d,f,g,h,k,l,m,o,p,q,r,s,u.v,.int .i64 u.n,.int .i64 j,t,w,x,y,z,A,B,C]/\P.length=i/\i<As.length/\Zm As i=a/\j<=(Yy N a).length/\ByS h' lo Bc Br B8 M s1 s2 sA sv sT As P T/\ByP N ins cP As P/\AOk N cP As a ((Yy N a).take j) T/\Zw h' u (Yy N a) /\
  (u.nl=false->lo<=u.b/\u.b≠Bc/\u.b≠Br/\u.b≠B8/\u.b≠M/\(sA.nl=false->u.b≠sA.b)/\(sv.nl=false->u.b≠sv.b)/\(sT.nl=false->u.b≠sT.b))/\Ext h0 h'
def Ba6(lo Bc Br B8 M D:Nat)(F G:Zj)(sA sv s1 s2:Sl)(As:Zb)(P:List (Sl × List Yt))(n:Nat)(h0:Zk)(e:Zc)(h':Zk):Prop :=
 ∃(i:Nat)(ss:Sl)(H I J a c d f g h l m o p q r s t u w x y z A B C E:Zj),
  e=[F,G,.pointer (some ⟨Bc,0,none⟩),.pointer (some ⟨Br,0,none⟩),sA.v,.map (some M),H,I,.pointer (some ⟨B8,0,none⟩),J,a,c,d,f,g,h,l,m,.pointer (some ⟨D,0,none⟩),o,p,q,r,s,t,u,w,x,y,z,A,B,C,.int .i64 n,.int .i64 i,E]/\i<=n /\
  Yo h' D #[.int .i64 As.length,ss.v,.nilFunc]/\Yh h' 1 ss (Zu ((List.range i).map fun(k:Nat)=>(k:Int)))/\(ss.nl=false->h0.size<=ss.b)/\Mod (fun j=>j=D) h0 h'
set_option maxHeartbeats 2000000 in
def Zt6(X:Xb7 Y)(g:Xi h p N S)(ok:Yl N){s1 s2:Sl}{ins cP:Zb}(r1:Zw h s1 ins)(r2:Zw h s2 cP)(ri:Zcb ins)(ro:Zcb cP)(am:∀k,k<ins.length->∃a:Nat,Zm ins k=a/\a<N.as.length)(bo:cP.length<=16384)
  {R:Ze} (hr:∀h' As st ss fv,Ext h h'->Z7h N cP As st->ins.length<=As.length->(∀k,k<ins.length->Zm As k=Zm ins k)->Zw h' ss ((List.range ins.length).map fun(k:Nat)=>(k:Int))->Zma Y h' fv As.length st->fv.oneCell'=true->R (.agg #[.int .i64 As.length,ss.v,fv]) h') :
  Zt Y 396 [.pointer (some ⟨p,0,none⟩),.agg #[s1.v,s2.v]] h R:=by
 have ba:=ok.ba;have l1:=r1.len;have l2:=r2.len;have bp:ins.length<=N.as.length:=Zdp ri.once am;refine .o X.byArcs ?_;simp[Y396,Yw.wp];refine Zo ?_;intro Bc ha aS Bca ea;replace Bca:Yo ha Bc #[s1.v,s2.v]:=Bca;simp;refine Zo ?_;intro Br hb aT Brb eb;replace Brb:Yo hb Br #[.int .i64 0,.slice none 0 0,.nilFunc]:=Brb;have xb:=ea.trans eb;have Bcb:=Bca.cC eb;simp[Bcb.hc];refine Zfi X.G.CI (r1.cC xb) ?_;intro hc' I ec oA nA;have xc:=xb.trans ec;have zb:=eb.size;have za:=ea.size;have zc:=ec.size;have la:=Bca.lt;have lb:=Brb.lt;simp;refine Zfu ?_;intro M hd gM mM ed;have lM:=mM.lt;have xd:=xc.trans ed;have zd:=ed.size;simp;have ag:=oA.cE.len;refine Zp (Ba0 p Bc Br M s1 s2 I (.pointer (some ⟨p,0,none⟩)) (.agg #[s1.v,s2.v]) ins hd) (fun e _=>ins.length-Zx e 22) ⟨0,_,_,_,_,_,_,_,_,_,_,_,_,_,_,_,_,_,_,_,_,_,_,_,_,_,_,_,rfl,by omega,by simpa[Vq] using mM,Mod.refl _⟩ ?_;rintro e he ⟨i,v6,v7,v8,v9,aU,aV,an,ao,ap,aq,ar,au,av,aw,ax,ay,aW,aX,aY,az,aA,aB,aC,aD,aE,aF,aG,rfl,hi,mi,me⟩;by_cases c:i<ins.length
 ·have c':(i:Int)<I.n:=by omega
  have w1:=wrapS (i:=i);have rA:=oA.cE.cC ed;have aZ:=rA.cD me (fun H q=>by
   have:I.nl=false:=by
    cases aa:I.nl with
    |false=>rfl
    |true=>have:=(oA.ok.nil aa).1;omega
   have:=oA.lt this;omega)
  have vv:=aZ.val i c;simp[c',Zl rA.ok,vv];refine Zig mi ?_ ?_
  ·rw[Q7,if_neg];intro hm;obtain⟨k,lk,ek⟩:=Ya.1 hm;simp at lk;have:Zm ins k=Zm ins i:=by rw[<-ek];simp[Zm,show k<i by omega]
   have:=ri.once k i (by omega) c this;omega
  intro hf mf m';simp[w1];refine nx ⟨i+1,_,_,_,_,_,_,_,_,_,_,_,_,_,_,_,_,_,_,_,_,_,_,_,_,_,_,_,rfl,by omega,?_,me.trans m'⟩;have ht:ins.take (i+1)=ins.take i++[Zm ins i]:=by rw[Xjc c];simp[Zm,c]
  rw[ht,Zfh];have:0+(ins.take i).length=i:=by simp;omega
  rw[this];exact mf
 have c':¬(i:Int)<I.n:=by omega
 have aH:Zbv he M (Vq ins 0):=by rw[Xji (by omega)] at mi;exact mi
 have xe:Ext h he:=Mod.cC xd me (fun j hj=>by omega);have ze:=me.size;simp[c'];refine Zo ?_;intro B8 hf a0 B8f ef;replace B8f:Yo hf B8 #[.slice none 0 0]:=B8f;have l8:=B8f.lt;have zf:=ef.size;have xf:=xe.trans ef;have k0:ByS hf h.size Bc Br B8 M s1 s2 I Sl.nil Sl.nil ins [] []:=by
  refine⟨(me.cM ((Bcb.cC ec).cC ed) (by omega)).cC ef,(me.cM ((Brb.cC ec).cC ed) (by omega)).cC ef,B8f,aH.cC ef,((oA.cF ed).cD me (fun H=>by have:=oA.lt H;omega)).cF ef,Yh.nil,Yh.nil,fun p hp=>by simp at hp,fun H=>?_,fun H=>(by cases H),fun H=>(by cases H),fun p hp=>by simp at hp,by omega⟩;have:=oA.lt H;have:=nA H;omega
 have p0:ByP N ins cP ins []:=⟨ri.once,am,Xi4 _,fun k hk=>rfl,by simp,fun k hk=>by simp at hk⟩
 simp;refine Zp (Ba2 h.size Bc Br B8 M s1 s2 (.pointer (some ⟨p,0,none⟩)) (.agg #[s1.v,s2.v]) N ins cP h) (fun e _=>N.as.length-Zx e 9) ⟨0,I,Sl.nil,ins,[],_,_,_,_,_,_,_,_,_,_,_,_,_,_,_,_,_,_,_,_,_,_,_,_,_,_,_,_,rfl,rfl,k0,p0,xf⟩ ?_;clear p0 k0 xf zf l8 B8f a0 ef ze xe aH c' me mi c hi zd xd lM mM gM ed lb la zc za zb xc nA oA ec Bcb xb Brb aT eb Bca aS ea ag;rintro e hg ⟨i,I,sv,As,P,v6,v7,aU,aV,an,ao,ap,aq,ar,au,av,aw,a1,a2,a3,ax,ay,aW,aX,aY,az,aA,aB,aC,aD,aE,aF,aG,rfl,lP,J,pg,xg⟩;have aI:As.length<=N.as.length:=Zdp pg.once pg.nat
 have lA:=J.oA.cE.len;have zg:=xg.size;by_cases c:i<As.length;rotate_left
 ·have c':¬(i:Int)<I.n:=by omega
  have bq:P.length=As.length:=by have:=pg.lp;omega
  have ab:∀g,Ym.cK Y g (.build #[.int .i64 0,.slice none 0 0,.nilFunc] [(0,1),(1,1),(2,1)] [0]) [.int .i64 I.n]=some (.agg #[.int .i64 As.length,.slice none 0 0,.nilFunc]):=fun g=>by rw[lA];rfl
  simp[c',ab];refine Zo ?_;intro D hh gD Dh eh;replace Dh:Yo hh D #[.int .i64 0,.slice none 0 0,.nilFunc]:=Dh;have lD:=Dh.lt;simp;refine Zy (vs:=#[.int .i64 As.length,.slice none 0 0,.nilFunc]) Dh ?_ rfl rfl (by intro v hv;simp at hv;rcases hv with rfl|rfl|rfl<;>rfl);intro hj Dj mj;have zj:=mj.size;have ej:Ext hg hj:=Mod.cG eh mj gD;have kj:=J.cC ej;simp[kj.bc.hc];refine Zp (Ba6 h.size Bc Br B8 M D (.pointer (some ⟨p,0,none⟩)) (.agg #[s1.v,s2.v]) I sv s1 s2 As P s1.n hj) (fun e _=>s1.n-Zx e 34) ⟨0,Sl.nil,_,_,_,_,_,_,_,_,_,_,_,_,_,_,_,_,_,_,_,_,_,_,_,_,_,_,rfl,by omega,Dj,Yh.nil,fun h=>(by cases h),Mod.refl _⟩ ?_;rintro e hk ⟨q,ss,w6,w7,w9,bs,bu,bv,bw,bx,bz,bA,bB,bC,bD,bE,bF,bG,bH,bJ,bK,bL,bM,bN,bO,bP,bQ,bR,rfl,hq,Dk,os,ns,mk⟩;have a4:=os.1;simp at a4;by_cases cq:q<s1.n
  ·have aj:(q:Int)<s1.n:=by omega
   have w1:=wrapS (i:=q);simp[aj,Dk.hc];refine Xg ?_;intro b hl gl Bl O;have zk:=mk.size;simp;refine Wa rfl (os.cF O) Bl ?_;intro ah hm om nm mm hs;have Dm:=mm.cM (Dk.cC O) (fun e=>by have:=ns e.1;omega);simp;refine stB Dm (by simp) ?_;intro H Dn mn;simp at Dn;have on:Yh H 1 ah (Zu ((List.range (q+1)).map fun(k:Nat)=>(k:Int))):=by
    have:=om.cD mn (fun ad e=>by
     rcases hs with⟨x,y⟩|⟨x,y⟩
     ·have:=ns (by rw[<-y];exact ad);omega
     have:=O.size;omega)
    rw[Xj1];simpa[Zu] using this
   have a5:ah.nl=false->hj.size<=ah.b:=fun ad=>by
    rcases hs with⟨x,y⟩|⟨x,y⟩
    ·have:=ns (by rw[<-y];exact ad);omega
    have:=O.size;omega
   have e1:Mod (fun j=>j=D) hj H:=by
    refine⟨by have:=mk.size;have:=O.size;have:=mm.size;have:=mn.size;omega,fun i hi U=>?_⟩;have:=mk.size;have:=O.size;have:=mm.size;rw[mn.get i (by omega) U,mm.get i (by omega) (fun e=>by have:=ns e.1;omega),O.get i (by omega) (fun h=>h),mk.get i hi U]
   simp[w1];exact nx ⟨q+1,ah,_,_,_,_,_,_,_,_,_,_,_,_,_,_,_,_,_,_,_,_,_,_,_,_,_,_,rfl,by omega,Dn,on,a5,e1⟩
  have aj:¬(q:Int)<s1.n:=by omega
  have:q=s1.n:=by omega
  subst this;have a6:∀g,Ym.cK Y g (.mkf 438 0) [.pointer (some ⟨B8,0,none⟩)]=some (.func (.func (Y.fid 438)) #[] #[.pointer (some ⟨B8,0,none⟩)]):=fun g=>rfl;simp[aj,a6];rw[Zs6];refine stB Dk (by simp) ?_;intro hl Dl ml;simp at Dl;have zk:=mk.size;have zl:=ml.size;have Brk:=mk.cM kj.br (by have:=J.br.lt;omega);have Brl:=ml.cM Brk (by have:=J.br.lt;omega);simp[Yf Dl];refine Zy (vs:=#[.int .i64 As.length,ss.v,.func (.func (Y.fid 438)) #[] #[.pointer (some ⟨B8,0,none⟩)]]) Brl ?_ rfl rfl (by intro v hv;simp at hv;rcases hv with rfl|rfl|rfl<;>rfl);intro hm Bm mm;have bS:=J.br.lt;simp;refine Vf rfl Bm rfl ?_;have dB:=J.dB;have e2:Mod (fun j=>j=Br\/hg.size<=j) hg hm:=by
   refine⟨by have:=mm.size;omega,fun i hi U=>?_⟩;rw[mm.get i (by omega) (fun e=>U (.inl e)),ml.get i (by omega) (by omega),mk.get i (by omega) (by omega),ej.get i (by omega) (fun h=>h)]
  have xm:Ext h hm:=Mod.cC xg e2 (fun j hj=>by omega);have bT:=J.b8.lt;have B8m:=e2.cM J.b8 (by omega);have aJ:=J.oV.cD e2 (fun H=>by have:=J.oV.lt H;have:=J.dV H;omega);have lV:=J.oV.1;simp at lV;refine hr hm As (Zmb P) ss _ xm ⟨pg.once,pg.nat,fun k hk=>⟨_,fun b hb=>Zgv hb,pg.row k (by omega)⟩,fun k hk=>by simp[Zmb,show P.length<=k by omega]⟩ pg.li pg.pre ?_ ?_ rfl
  ·have:=(os.cD ml (fun H=>by have:=ns H;omega)).cD mm (fun H=>by have:=ns H;omega);rw[l1];exact this.cE
  refine Z15 X.next ⟨⟨sv,B8m,aJ.ok,by omega,fun k hk=>?_⟩,fun k hk=>?_⟩
  ·obtain⟨pp,hp,a7,a8⟩:=Zsl (P:=P) (k:=k);refine⟨pp.1,aJ.cell (by simp[a7]),?_⟩;rw[<-a8];exact (J.rw pp hp).cD e2 (fun H=>by have:=J.dP pp hp H;have:=Zf0 (J.rw pp hp) H;omega)
  have:=(pg.row k (by omega)).len;have:=Zcj (N:=N) (a:=(Zm As k).toNat);omega
 have c':(i:Int)<I.n:=by omega
 have c2:i<I.n:=by omega
 obtain⟨a,ea,bU⟩:=pg.nat i c;have va:=J.oA.cE.val i c;rw[ea] at va;have lo:=Zcj (N:=N) (a:=a);simp[c',Zl J.oA.ok,va];refine U0 X.G.To X.G.arc (g.cC xg) ?_;simp;refine Zgj X.G.Outs X.G.vert X.G.CI (g.cC xg) ?_;intro hh u eh ou nu;rw[show (if Yi N.vs.length (toV N (a:Int)) then Za7 N.as (toV N (a:Int)) else [])=Yy N a from rfl] at ou;have lu:=ou.cE.len;have zh:=eh.size;simp;refine Zp (Ba4 h.size Bc Br B8 M a i s1 s2 u (.pointer (some ⟨p,0,none⟩)) (.agg #[s1.v,s2.v]) N ins cP h) (fun e _=>(Yy N a).length-Zx e 27) ⟨0,I,sv,Sl.nil,As,P,[],_,_,_,_,_,_,_,_,_,_,_,_,_,_,_,_,_,_,_,_,_,_,_,rfl,lP,c,ea,by omega,J.cC eh,pg,by simpa using AOk.nil,ou.cE,fun H=>?_,xg.trans eh⟩ ?_
 ·have h1:=nu H;have l1:=J.bc.lt;have l2:=J.br.lt;have l3:=J.b8.lt;have l4:=J.mp.lt;exact⟨by omega,by omega,by omega,by omega,by omega,fun h=>by have:=J.oA.lt h;omega,fun h=>by have:=J.oV.lt h;omega,fun h=>(by cases h)⟩
 clear lA zg c' c2 va lo ou nu zh eh pg J xg aI c ea lP;rintro e hk ⟨j,I,sv,sT,As,P,T,v6,v7,an,ao,ap,aq,ar,au,av,aw,a1,a2,a3,ax,ay,az,aA,aB,aC,aD,aE,aF,aG,rfl,lP,c,ea,hj,kk,pk,tk,ru,du,xk⟩;have aI:As.length<=N.as.length:=Zdp pk.once pk.nat
 have bV:=Zcj (N:=N) (a:=a);have zk:=xk.size;have lT:=tk.len;simp at lT;have nT:=kk.oT.n3;simp at nT;have nV:=kk.oV.1;simp at nV;by_cases cj:j<(Yy N a).length;rotate_left
 ·have ak:¬(j:Int)<u.n:=by omega
  have ht:(Yy N a).take j=Yy N a:=Xji (by omega);rw[ht] at tk;have w1:=wrapS (i:=i);simp[ak,kk.b8.hc];refine Xg ?_;intro b hl gl Bl O;simp;refine Wa rfl ((kk.oV).cF O) Bl ?_;intro a9 hm om nm mm hs;have B8m:=(mm.cM (kk.b8.cC O) (fun q=>by have:=(kk.dV q.1);omega))
  simp;refine stB B8m (by simp) ?_;intro H B8n mn;simp at B8n;have kn:=(kk.cC O).pushV mm om hs mn B8n (by have:=O.size;omega);have xn:Ext h H:=Mod.cC (Mod.cC (xk.trans O) mm (fun j hj=>by have:=(kk.dV hj.1);omega)) mn (fun j hj=>by have:=kk.dB;omega);simp[w1];refine nx ⟨i+1,I,a9,As,P++[(sT,T)],_,_,_,_,_,_,_,_,_,_,_,_,_,_,_,_,_,_,_,_,_,_,_,_,_,_,_,_,rfl,by simp[lP],kn,pk.addP (by omega) (by rw[lP,ea];exact tk),xn⟩
 have ak:(j:Int)<u.n:=by omega
 have bW:j<u.n:=by omega
 have w1:=wrapS (i:=j);obtain⟨b,eb,bb⟩:=Q5 cj;have vb:=ru.val j cj;rw[eb] at vb;have ht:(Yy N a).take (j+1)=(Yy N a).take j++[(b:Int)]:=by rw[Xjc cj,<-eb];simp[Zm,cj]
 simp[ak,Zl ru.ok,vb];refine Zgu X.G.Turn X.G.arc X.G.T (g.cC xk) ok ?_;intro hl O;have xl:=xk.trans O;have kl:=kk.cC O;simp;refine X8 X.G.Weight X.G.arc (g.cC xl) ?_;have tc:=Wn ok (a:=(a:Int)) (b:=(b:Int));have wc:=Wd ok (a:=(b:Int));by_cases t1:Yp N a b=1152921504606846976
 ·simp[t1,w1];exact nx ⟨j+1,I,sv,sT,As,P,T,_,_,_,_,_,_,_,_,_,_,_,_,_,_,_,_,_,_,_,_,_,_,_,rfl,lP,c,ea,by omega,kl,pk,by rw[ht];exact tk.skip (.inl t1),ru.cC O,du,xl⟩
 have bd:¬1152921504606846976<=Yp N a b:=by have:=tc.resolve_left t1;omega
 simp[bd,kl.bc.hc];have r2l:=r2.cC xl;refine Zbr X.S r2l (by omega) ro ?_;by_cases m1:(b:Int)∈cP
 ·obtain⟨o,lo,eo⟩:=Ya.1 m1;have pf:=Xr ro.once lo;rw[eo] at pf;rw[pf];have ab:∀g,Ym.cK Y g (.build #[.int .i64 0,.int .i64 0,.int .i64 0] [(0,1),(1,1),(2,1)] [1,2]) [.int .i64 o,.int .i64 (Yp N a b)]=some (.agg #[.int .i64 0,.int .i64 o,.int .i64 (Yp N a b)]):=fun g=>rfl;simp[ab];refine Qm ?_;intro q hm gq Bq em;have km:=kl.cC em;have xm:=xl.trans em;simp;refine Ub rfl km.oT Bq ?_;intro ae U on mn hs;simp[w1];have e3:Yb (List.map Xf T++[(.int .i64 0,.int .i64 o,.int .i64 (Yp N a b))])=Yb ((T++[(⟨0,o,Yp N a b⟩:Yt)]).map Xf):=by simp[Xf]
  rw[e3] at on;have xn:Ext h U:=Mod.cC xm mn (fun j hj=>by have:=(kk.dT hj.1);omega);have rn:=((ru.cC O).cC em).cD mn (fun ad q=>by
   have hu:u.nl=false:=by
    cases aa:u.nl with
    |false=>rfl
    |true=>have:=(ru.ok.nil aa).1;omega
   have:=(du hu).2.2.2.2.2.2.2 q.1;omega)
  refine nx ⟨j+1,I,sv,ae,As,P,_,_,_,_,_,_,_,_,_,_,_,_,_,_,_,_,_,_,_,_,_,_,_,_,rfl,lP,c,ea,by omega,km.pushT mn on hs (by have:=xm.size;omega),pk,by rw[ht];exact tk.out lo eo t1,rn,fun H=>?_,xn⟩;have d:=du H;refine⟨d.1,d.2.1,d.2.2.1,d.2.2.2.1,d.2.2.2.2.1,d.2.2.2.2.2.1,d.2.2.2.2.2.2.1,fun h=>?_⟩;rcases hs with⟨x,y⟩|⟨x,y⟩
  ·rw[x];exact d.2.2.2.2.2.2.2 (by rw[<-y];exact h)
  have:=Vk (ru.cC (O.trans em)) (l:=Yy N a) (fun e=>by rw[e] at cj;simp at cj);omega
 have pf:=Zd3 m1;rw[pf];simp;by_cases t2:Zr N b=1152921504606846976
 ·simp[t2,w1];exact nx ⟨j+1,I,sv,sT,As,P,T,_,_,_,_,_,_,_,_,_,_,_,_,_,_,_,_,_,_,_,_,_,_,_,rfl,lP,c,ea,by omega,kl,pk,by rw[ht];exact tk.skip (.inr ⟨m1,t2⟩),ru.cC O,du,xl⟩
 have aK:¬1152921504606846976<=Zr N b:=by have:=wc.resolve_left t2;omega
 have wt:IntKind.i64.wrap (Yp N a b+Zr N b)=Yp N a b+Zr N b:=by
  have:=tc.resolve_left t1;have:=wc.resolve_left t2;exact Zn
 have ac:=Zil (Y:=Y) kl.mp (x:=(b:Int)) (z:=.int .i64 0);rw[Q7] at ac;by_cases m2:(b:Int)∈As
 ·obtain⟨k,lk,ek⟩:=Ya.1 m2;have aL:=Xr pk.once lk;rw[ek] at aL;rw[if_pos m2,aL] at ac;simp at ac;simp[aK,ac,wt];have ab:∀g,Ym.cK Y g (.build #[.int .i64 0,.int .i64 0,.int .i64 0] [(0,1),(1,1),(2,1)] [0,1,2]) [.int .i64 ((k:Nat):Int),.int .i64 (-1),.int .i64 (Yp N a b+Zr N b)]=some (.agg #[.int .i64 ((k:Nat):Int),.int .i64 (-1),.int .i64 (Yp N a b+Zr N b)]):=fun g=>rfl;simp[ab];refine Qm ?_;intro q hm gq Bq em;have km:=kl.cC em;have xm:=xl.trans em;simp;refine Ub rfl km.oT Bq ?_;intro ae U on mn hs;simp[w1];have e3:Yb (List.map Xf T++[(.int .i64 ((k:Nat):Int),.int .i64 (-1),.int .i64 (Yp N a b+Zr N b))])=Yb ((T++[(⟨((k:Nat):Int),-1,Yp N a b+Zr N b⟩:Yt)]).map Xf):=by simp[Xf]
  rw[e3] at on;have xn:Ext h U:=Mod.cC xm mn (fun j hj=>by have:=(kk.dT hj.1);omega);have rn:=((ru.cC O).cC em).cD mn (fun ad q=>by
   have hu:u.nl=false:=by
    cases aa:u.nl with
    |false=>rfl
    |true=>have:=(ru.ok.nil aa).1;omega
   have:=(du hu).2.2.2.2.2.2.2 q.1;omega)
  refine nx ⟨j+1,I,sv,ae,As,P,_,_,_,_,_,_,_,_,_,_,_,_,_,_,_,_,_,_,_,_,_,_,_,_,rfl,lP,c,ea,by omega,km.pushT mn on hs (by have:=xm.size;omega),pk,by rw[ht];exact AOk.go tk lk ek m1 t1 t2,rn,fun H=>?_,xn⟩;have d:=du H;refine⟨d.1,d.2.1,d.2.2.1,d.2.2.2.1,d.2.2.2.2.1,d.2.2.2.2.2.1,d.2.2.2.2.2.2.1,fun h=>?_⟩;rcases hs with⟨x,y⟩|⟨x,y⟩
  ·rw[x];exact d.2.2.2.2.2.2.2 (by rw[<-y];exact h)
  have:=Vk ((ru.cC O).cC em) (l:=Yy N a) (fun e=>by rw[e] at cj;simp at cj);omega
 have be:Z4 (Vq As 0) (b:Int)=none:=by rw[Q7,if_neg m2]
 rw[if_neg m2] at ac;simp at ac;have ag:=kl.oA.cE.len;simp[aK,ac];refine Zig kl.mp be ?_;intro bX aM m1m;have bg:Vq As 0++[((b:Int),Value.int .i64 I.n)]=Vq (As++[(b:Int)]) 0:=by rw[Zfh,<-ag];simp
 rw[bg] at aM;simp;refine Xg ?_;intro q2 bY bZ Bq2 af;have bh:=(kl.oA.cD m1m (fun H=>by have:=kk.dA H;omega)).cF af;simp;refine Wa rfl bh Bq2 ?_;intro ai al bi b0 m3 aN;have aO:Yh al 1 ai (Zu (As++[(b:Int)])):=by simpa[Zu] using bi
 have k3:=kl.addA m1m aM af m3 aO aN (by have:=xl.size;omega);have x3:Ext h al:=Mod.cC (Mod.cC xl m1m (fun j hj=>by have:=kk.dB;omega) |>.trans af) m3 (fun j hj=>by have:=kk.dA hj.1;omega);have bj:=pk.addA m2 bb;have bk:I.n<(As++[(b:Int)]).length:=by simp;omega
 have bm:Zm (As++[(b:Int)]) I.n=(b:Int):=by rw[<-ag];exact Zf2
 have bn:u.nl=false->u.b<hl.size:=fun H=>Vk (ru.cC O) (fun e=>by rw[e] at cj;simp at cj);have aP:u.nl=false:=by
  cases aa:u.nl with
  |false=>rfl
  |true=>have:=(ru.ok.nil aa).1;omega
 have aQ:Zw al u (Yy N a):=(((ru.cC O).cD m1m (fun _ q=>by have:=du aP;omega)).cC af).cD m3 (fun _ q=>by have:=(du aP).2.2.2.2.2.1 q.1;omega);have aR:u.nl=false->h.size<=u.b/\u.b≠Bc/\u.b≠Br/\u.b≠B8/\u.b≠M/\(ai.nl=false->u.b≠ai.b)/\(sv.nl=false->u.b≠sv.b)/\(sT.nl=false->u.b≠sT.b):=fun H=>by
  have d:=du H;refine⟨d.1,d.2.1,d.2.2.1,d.2.2.2.1,d.2.2.2.2.1,fun h=>?_,d.2.2.2.2.2.2⟩;rcases aN with⟨x,y⟩|⟨x,y⟩
  ·rw[x];exact d.2.2.2.2.2.1 (by rw[<-y];exact h)
  have:=bn H;have:=m1m.size;have:=af.size;omega
 simp[wt];have ab:∀g,Ym.cK Y g (.build #[.int .i64 0,.int .i64 0,.int .i64 0] [(0,1),(1,1),(2,1)] [0,1,2]) [.int .i64 ((I.n:Nat):Int),.int .i64 (-1),.int .i64 (Yp N a b+Zr N b)]=some (.agg #[.int .i64 ((I.n:Nat):Int),.int .i64 (-1),.int .i64 (Yp N a b+Zr N b)]):=fun g=>rfl;simp[ab];refine Qm ?_;intro q hm gq Bq em;have km:=k3.cC em;have xm:=x3.trans em;simp;refine Ub rfl km.oT Bq ?_;intro ae U on mn hs;simp[w1];have e3:Yb (List.map Xf T++[(.int .i64 ((I.n:Nat):Int),.int .i64 (-1),.int .i64 (Yp N a b+Zr N b))])=Yb ((T++[(⟨((I.n:Nat):Int),-1,Yp N a b+Zr N b⟩:Yt)]).map Xf):=by simp[Xf]
 rw[e3] at on;have xn:Ext h U:=Mod.cC xm mn (fun j hj=>by have:=(kk.dT hj.1);omega);have rn:=((aQ).cC em).cD mn (fun ad q=>by
  have hu:u.nl=false:=by
   cases aa:u.nl with
   |false=>rfl
   |true=>have:=(ru.ok.nil aa).1;omega
  have:=(aR hu).2.2.2.2.2.2.2 q.1;omega)
 refine nx ⟨j+1,ai,sv,ae,(As++[(b:Int)]),P,_,_,_,_,_,_,_,_,_,_,_,_,_,_,_,_,_,_,_,_,_,_,_,_,rfl,lP,(by simp;omega),(by rw[Ux c];exact ea),by omega,km.pushT mn on hs (by have:=xm.size;omega),bj,by rw[ht];exact AOk.go tk.mono bk bm m1 t1 t2,rn,fun H=>?_,xn⟩;have d:=aR H;refine⟨d.1,d.2.1,d.2.2.1,d.2.2.2.1,d.2.2.2.2.1,d.2.2.2.2.2.1,d.2.2.2.2.2.2.1,fun h=>?_⟩;rcases hs with⟨x,y⟩|⟨x,y⟩
 ·rw[x];exact d.2.2.2.2.2.2.2 (by rw[<-y];exact h)
 have:=Vk ((aQ).cC em) (l:=Yy N a) (fun e=>by rw[e] at cj;simp at cj);omega
end
def Zbl(N:Zs)(L:Za)(cN:Zb)(k a b:Nat):Int :=
 Zm cN (enV N L k (Zm (Yc L k) (Ys N a)).toNat (Yk 0 (Zv N L k false (Zm (Yc L k) (Ys N a)).toNat) a) (Yk 0 (Zv N L k true (Zm (Yc L k) (Ys N a)).toNat) b)).toNat
def Wb(N:Zs)(cP Ar:Zb)(m:Int):Yt:=if Yk 0 cP m<0 then ⟨Yk 0 Ar m,-1,Zr N m⟩ else ⟨0,Yk 0 cP m,0⟩
structure Ztp(N:Zs)(L:Za)(cN cP Ar:Zb)(k c:Nat)(fi:Nat->Int)(ls st:Nat->List Yt):Prop where
 once:Zf8 Ar
 mem:∀x:Int,x∈Ar↔∃a:Nat,x=a/\a<N.as.length/\Zm (Yc L k) (Vs N a)≠Zm (Yc L k) (Ys N a)/\Zm (Yc L (k+1)) (Ys N a)=c
 ff:∀j (a:Nat),j<Ar.length->Zm Ar j=a->fi j=enV N L k (Zm (Yc L k) (Ys N a)).toNat (Yk 0 (Zv N L k false (Zm (Yc L k) (Ys N a)).toNat) a) 0
 ll:∀j (a:Nat),j<Ar.length->Zm Ar j=a->ls j=(Zv N L k true (Zm (Yc L k) (Ys N a)).toNat).map (Wb N cP Ar)
 st:∀j,st j=if j<Ar.length then stK cN (fi j).toNat (ls j) else []
def Z89{cN:Zb}{x:Yt}:∀{l:List Yt}{p:Nat},x∈stK cN p l↔∃j,j<l.length/\Zm cN (p+j)<Xm/\(Zq l j).c<Xm/\x=⟨(Zq l j).a,(Zq l j).b,(Zq l j).c+Zm cN (p+j)⟩:=by
 intro l
 induction l with
 |nil=>intro p;simp[stK]
 |cons y r I =>
  intro p;have H:∀j,Zq (y::r) (j+1)=Zq r j:=fun j=>rfl;have key:(∃j,j<(y::r).length/\Zm cN (p+j)<Xm/\(Zq (y::r) j).c<Xm/\x=⟨(Zq (y::r) j).a,(Zq (y::r) j).b,(Zq (y::r) j).c+Zm cN (p+j)⟩) ↔
    (Zm cN p<Xm/\y.c<Xm/\x=⟨y.a,y.b,y.c+Zm cN p⟩)\/∃j,j<r.length/\Zm cN (p+1+j)<Xm/\(Zq r j).c<Xm/\x=⟨(Zq r j).a,(Zq r j).b,(Zq r j).c+Zm cN (p+1+j)⟩:=by
   constructor
   ·rintro⟨j,h1,G⟩
    cases j with
    |zero=>exact .inl G
    |succ j=>rw[H,show p+(j+1)=p+1+j by omega] at G;exact .inr ⟨j,by simpa using h1,G⟩
   rintro (h|⟨j,h1,G⟩)
   ·exact⟨0,by simp,h⟩
   exact⟨j+1,by simpa using h1,by rw[H,show p+(j+1)=p+1+j by omega];exact G⟩
  rw[key,<-I];simp only[stK]
  split
  ·rename_i c;rw[Xli];constructor
   ·rintro (h|h)
    ·exact .inl ⟨c.1,c.2,h⟩
    exact .inr h
   rintro (h|h)
   ·exact .inl h.2.2
   exact .inr h
  rename_i c;constructor
  ·exact .inr
  rintro (h|h)
  ·exact absurd ⟨h.1,h.2.1⟩ c
  exact h
section
variable{N:Zs}{L:Za}{cN cP Ar:Zb}{k c:Nat}{fi:Nat->Int}{ls st:Nat->List Yt}
def Zia(G:Yq N.vs.length L)(ok:Yl N)(H:k<L.length){a:Nat}(I:a<N.as.length):∃q:Nat,Zm (Yc L k) (Ys N a)=q/\q<Yv L k:=by
 have h:=(ok.arcs a I).2;simp[Yi] at h;exact (Xq G H).2.2.2 _ (by unfold Ys;omega)
def Zbm(G:Yq N.vs.length L)(ok:Yl N)(H:k<L.length:=by omega){a q:Nat}:(a:Int)∈Zv N L k false q↔a<N.as.length/\Zm (Yc L k) (Vs N a)≠Zm (Yc L k) (Ys N a)/\Zm (Yc L k) (Ys N a)=q:=Zn9 G ok H
def U2(G:Yq N.vs.length L)(ok:Yl N)(H:k<L.length){a q:Nat}:(a:Int)∈Zv N L k true q↔a<N.as.length/\Zm (Yc L k) (Vs N a)≠Zm (Yc L k) (Ys N a)/\Zm (Yc L k) (Vs N a)=q:=Zn9 G ok H
def Vl(G:Yq N.vs.length L)(ok:Yl N)(H:k<L.length){q:Nat}{x:Bool}{m:Int}(h:m∈Zv N L k x q):∃a:Nat,m=a/\a<N.as.length:=by
 have h1:m∈Qv N L ((k:Int)+1):=(List.mem_filter.1 h).1;have:=(Zg7.1 h1).1;simp[Yi] at this;exact⟨m.toNat,by omega,by omega⟩
def Xca{q:Nat}{i:Int}{j:Nat}(h0:0<=i)(h1:i<(Zv N L k false q).length)(G:j<(Zv N L k true q).length):enV N L k q i j=enV N L k q i 0+j/\0<=enV N L k q i 0:=by
 have H:0<=i * ((Zv N L k true q).length:Int):=Xkk h0 (by omega);unfold enV;rw[if_pos ⟨h0,h1,by omega,by omega⟩,if_pos ⟨h0,h1,by omega,by omega⟩];omega
def Ztp.step(B:Ztp N L cN cP Ar k c fi ls st)(I:Yq N.vs.length L)(ok:Yl N)(J:k<L.length){j a:Nat}(R:j<Ar.length)(ha:Zm Ar j=a){x:Yt}:
  x∈st j↔∃m:Nat,m<N.as.length/\Zm (Yc L k) (Vs N m)=Zm (Yc L k) (Ys N a)/\Zm (Yc L k) (Ys N m)≠Zm (Yc L k) (Ys N a)/\Zbl N L cN k a m<Xm/\(Wb N cP Ar m).c<Xm/\x=⟨(Wb N cP Ar m).a,(Wb N cP Ar m).b,(Wb N cP Ar m).c+Zbl N L cN k a m⟩:=by
 obtain⟨a',e,la,hx,hc⟩:=(B.mem a).1 (Ya.2 ⟨j,R,ha⟩);have:a'=a:=by omega
 subst this;obtain⟨q,eq,lq⟩:=Zia I ok J la;have aa:(a':Int)∈Zv N L k false q:=(Zbm I ok J).2 ⟨la,hx,eq⟩;obtain⟨i,li,ei⟩:=Ya.1 aa;have pi:=Xr (Xt (N:=N) (L:=L) (k:=k) (c:=q) (x:=false)).once li;rw[ei] at pi;rw[B.st,if_pos R,Z89,B.ff j a' R ha,B.ll j a' R ha,eq];simp only[Xi8,Xj6];rw[pi];have G:∀u,u<(Zv N L k true q).length->∀m:Nat,Zm (Zv N L k true q) u=m->Zbl N L cN k a' m=Zm cN ((enV N L k q i 0).toNat+u):=fun u hu m hm=>by
  unfold Zbl;rw[eq];simp only[Xi8];have pu:=Xr (Xt (N:=N) (L:=L) (k:=k) (c:=q) (x:=true)).once hu;rw[hm] at pu;rw[pi,pu];have:=Xca (N:=N) (L:=L) (k:=k) (q:=q) (i:=i) (j:=u) (by omega) (by omega) hu
  congr 1
  omega
 have H:∀u,u<(Zv N L k true q).length->Zq ((Zv N L k true q).map (Wb N cP Ar)) u=Wb N cP Ar (Zm (Zv N L k true q) u):=fun u hu=>by
  rw[Vi (by simpa using hu)];simp[Zm,hu]
 constructor
 ·rintro⟨u,h1,U,O,h4⟩;obtain⟨m,em,lm⟩:=Vl I ok J (Ya.2 ⟨u,h1,rfl⟩);obtain⟨_,r1,r2⟩:=(U2 I ok J).1 (Ya.2 ⟨u,h1,em⟩);rw[H u h1,em] at O h4;rw[<-G u h1 m em] at U h4;exact⟨m,lm,by rw[r2],fun e=>r1 (by rw[r2,e]),U,O,h4⟩
 rintro⟨m,lm,h1,U,O,h4,h5⟩;obtain⟨u,X,eu⟩:=Ya.1 ((U2 I ok J).2 ⟨lm,fun e=>U (by rw[<-e,h1]),h1⟩);rw[G u X m eu] at O h5;exact⟨u,X,O,by rw[H u X,eu];exact h4,by rw[H u X,eu];exact h5⟩
def Zzd{m:Nat}(ok:Yl N):0<=(Wb N cP Ar m).c/\(Wb N cP Ar m).c<=Xm:=by
 have G:Xm=1152921504606846976:=rfl;have:=Wd ok (a:=(m:Int));unfold Wb
 split
 ·dsimp only;omega
 dsimp only;omega
def Ztp.ok(B:Ztp N L cN cP Ar k c fi ls st)(pk:Yq N.vs.length L)(ok:Yl N)(hk:k+1<L.length)(H:cP=Zv N L (k+1) true c)(hc:∀i,0<=Zm cN i)(I:Zju (Zm (Yc L k)) (Zm (Yc L (k+1)))):Zrn Ar.length cP.length st:=by
 have hI:Xm=1152921504606846976:=rfl;have key:∀a x,x∈st a->a<Ar.length:=fun a x h=>Xka fun q=>by rw[B.st,if_neg q] at h;simp at h
 have row:∀j x,x∈st j->∃a m:Nat,m<N.as.length/\a<N.as.length/\Zm (Yc L (k+1)) (Ys N a)=c/\Zm (Yc L k) (Vs N m)=Zm (Yc L k) (Ys N a)/\Zm (Yc L k) (Ys N m)≠Zm (Yc L k) (Ys N a)/\Zbl N L cN k a m<Xm/\(Wb N cP Ar m).c<Xm/\x=⟨(Wb N cP Ar m).a,(Wb N cP Ar m).b,(Wb N cP Ar m).c+Zbl N L cN k a m⟩:=fun j x h=>by
  have hj:=key j x h;obtain⟨a,e,O,hx,G⟩:=(B.mem _).1 (Ya.2 ⟨j,hj,rfl⟩);obtain⟨m,h1,J⟩:=(B.step pk ok (by omega) hj e).1 h;exact⟨a,m,h1,O,G,J⟩
 refine⟨fun a x h R=>?_,fun a x h=>?_,fun a x h=>?_⟩
 ·obtain⟨a',m,U,O,G,h1,J,_,_,rfl⟩:=row a x h;simp only[] at R ⊢;unfold Wb at R ⊢
  split at R
  ·rename_i q;rw[if_pos q];have X:(m:Int) ∉ cP:=fun hm=>by
    have:=Qs (a:=(m:Int)) (l:=cP) (k:=0);have:=this.2 hm;omega
   have:(m:Int)∈Ar:=(B.mem _).2 ⟨m,rfl,U,fun e=>J (by rw[<-e,h1]),Xka fun q=>X (by
    rw[H,U2 pk ok hk];have:=I _ _ h1;exact⟨U,fun e=>q (by rw[<-e,this,G]),by rw[this,G]⟩)⟩
   obtain⟨u,lu,eu⟩:=Ya.1 this;have:=Xr B.once lu;rw[eu] at this;dsimp only;omega
  rename_i q;dsimp only at R;omega
 ·obtain⟨a',m,U,O,G,h1,J,_,_,rfl⟩:=row a x h;unfold Wb
  split
  ·dsimp only;omega
  rename_i q;have hm:=Qs.1 (show 0<=Yk 0 cP (m:Int) by omega);obtain⟨u,lu,eu⟩:=Ya.1 hm;have:=Xr (l:=cP) (by rw[H];exact Xt.once) lu;rw[eu] at this;dsimp only;omega
 obtain⟨a',m,U,O,G,h1,J,h3,h4,rfl⟩:=row a x h;have:=Zzd (N:=N) (cP:=cP) (Ar:=Ar) (m:=m) ok;have:=hc (enV N L k (Zm (Yc L k) (Ys N a')).toNat (Yk 0 (Zv N L k false (Zm (Yc L k) (Ys N a')).toNat) a') (Yk 0 (Zv N L k true (Zm (Yc L k) (Ys N a')).toNat) m)).toNat
 have e:Zbl N L cN k a' m=Zm cN (enV N L k (Zm (Yc L k) (Ys N a')).toNat (Yk 0 (Zv N L k false (Zm (Yc L k) (Ys N a')).toNat) a') (Yk 0 (Zv N L k true (Zm (Yc L k) (Ys N a')).toNat) m)).toNat:=rfl;dsimp only;omega
def Ztp.thru(B:Ztp N L cN cP Ar k c fi ls st)(pk:Yq N.vs.length L)(ok:Yl N)(hk:k+1<L.length)(H:cP=Zv N L (k+1) true c)(ah:∀i,Zm cN i<=Xm)(ab:Zju (Zm (Yc L k)) (Zm (Yc L (k+1)))){i o a b:Nat}
  (hi:i<Ar.length) (J:Zm Ar i=a) (ho:o<cP.length) (hb:Zm cP o=b) {x:Int}:GoF st i o x↔Ztm N (Zm (Yc L (k+1))) (Zm (Yc L k)) c (Zbl N L cN k) a b x:=by
 have hI:Xm=1152921504606846976:=rfl;have O:Zf8 cP:=by rw[H];exact Xt.once
 have le:∀a m,Zbl N L cN k a m<=Xm:=fun a m=>ah _;have R:∀{j a:Nat},j<Ar.length->Zm Ar j=a->a<N.as.length/\Zm (Yc L (k+1)) (Ys N a)=c:=fun{j a} X J=>by
  obtain⟨a',e,la,hx,ai⟩:=(B.mem _).1 (Ya.2 ⟨j,X,J⟩);have:a'=a:=by omega
  subst this;exact⟨la,ai⟩
 have ad:∀{j a:Nat},j<Ar.length->Zm Ar j=a->∀(v:Nat)(w:Int),EdF st j v w↔v<Ar.length/\∃m:Nat,Zm Ar v=m/\Zwm N (Zm (Yc L (k+1))) (Zm (Yc L k)) c (Zbl N L cN k) a m w:=fun{j a} X J v w=>by
  obtain⟨la,aa⟩:=R X J;constructor
  ·rintro⟨z,h1,G,h3,rfl⟩;obtain⟨m,lm,U,q2,q3,q4,rfl⟩:=(B.step pk ok (by omega) X J).1 h1;unfold Wb at G h3 q4 ⊢
   split at G
   ·rename_i q;simp only[if_pos q] at h3 q4 ⊢;have I:(m:Int) ∉ cP:=fun hm=>by
     have:=Qs (a:=(m:Int)) (l:=cP) (k:=0);have:=this.2 hm;omega
    have ae:Zm (Yc L (k+1)) (Ys N m)=c:=Xka fun q=>I (by
     rw[H,U2 pk ok hk];have:=ab _ _ U;exact⟨lm,fun e=>q (by rw[<-e,this,aa]),by rw[this,aa]⟩)
    obtain⟨u,lu,eu⟩:=Ya.1 ((B.mem (m:Int)).2 ⟨m,rfl,lm,fun e=>q2 (by rw[<-e,U]),ae⟩);have:=Xr B.once lu;rw[eu] at this;have:u=v:=by omega
    subst this;exact⟨lu,m,eu,U,q2,by rw[ab _ _ U,aa],ae,by omega,by omega,by omega⟩
   simp at G;omega
  rintro⟨lv,m,em,U,q2,q3,q4,q5,q6,rfl⟩;obtain⟨lm,_⟩:=R lv em;have I:Yk 0 cP (m:Int)<0:=by
   rw[Zd3]
   ·omega
   rw[H,U2 pk ok hk];rintro⟨_,h,_⟩;exact h (by rw[q3,q4])
  have pv:=Xr B.once lv;rw[em] at pv;have wc:=(Wd ok (a:=(m:Int))).resolve_left q6;refine⟨_,(B.step pk ok (by omega) X J).2 ⟨m,lm,U,q2,by have:=le a m;omega,?_,rfl⟩,?_,?_,?_⟩
  ·unfold Wb;rw[if_pos I];dsimp only;omega
  ·unfold Wb;rw[if_pos I];dsimp only;omega
  ·unfold Wb;rw[if_pos I];exact pv
  unfold Wb;rw[if_pos I];dsimp only;omega
 have af:∀{j a:Nat},j<Ar.length->Zm Ar j=a->∀w:Int,OuF st j o w↔Xf9 N (Zm (Yc L k)) (Zbl N L cN k) a b w:=fun{j a} X J w=>by
  obtain⟨la,aa⟩:=R X J;have po:=Xr O ho;rw[hb] at po;have aj:(b:Int)∈cP:=Ya.2 ⟨o,ho,hb⟩;constructor
  ·rintro⟨z,h1,G,rfl⟩;obtain⟨m,lm,U,q2,q3,q4,rfl⟩:=(B.step pk ok (by omega) X J).1 h1;unfold Wb at G q4 ⊢
   split at G
   ·simp at G
   rename_i q;simp only[if_neg q] at q4 ⊢;simp only[] at G;have hm:=Qs.1 (show 0<=Yk 0 cP (m:Int) by omega);obtain⟨u,lu,eu⟩:=Ya.1 hm;have:=Xr O lu;rw[eu] at this;have:u=o:=by omega
   subst this;have:m=b:=by omega
   subst this;exact⟨U,q2,by omega,by omega⟩
  rintro⟨U,q2,q3,rfl⟩;have ac:¬Yk 0 cP (b:Int)<0:=by omega
  obtain⟨b',ak,lb⟩:=Vl pk ok hk (by rw[<-H];exact aj);have:b'=b:=by omega
  subst this;refine⟨_,(B.step pk ok (by omega) X J).2 ⟨b',lb,U,q2,by have:=le a b';omega,?_,rfl⟩,?_,?_⟩
  ·unfold Wb;rw[if_neg ac];dsimp only;omega
  ·unfold Wb;rw[if_neg ac];exact po
  unfold Wb;rw[if_neg ac];dsimp only;omega
 have at':∀j y,Yx (AtI i) (EdF st) j y->∃a':Nat,j<Ar.length/\Zm Ar j=a'/\Yx (AtI a) (Zwm N (Zm (Yc L (k+1))) (Zm (Yc L k)) c (Zbl N L cN k)) a' y:=by
  intro j y w
  induction w with
  |init h=>obtain⟨rfl,rfl⟩:=h;exact⟨a,hi,J,.init ⟨rfl,rfl⟩⟩
  |step w h ih =>
   obtain⟨u,h1,G,h3⟩:=ih;obtain⟨lv,m,em,hm⟩:=(ad h1 G _ _).1 h;exact⟨m,lv,em,.step h3 hm⟩
 have ag:∀a' y,Yx (AtI a) (Zwm N (Zm (Yc L (k+1))) (Zm (Yc L k)) c (Zbl N L cN k)) a' y->∃j,j<Ar.length/\Zm Ar j=(a':Int)/\Yx (AtI i) (EdF st) j y:=by
  intro a' y w
  induction w with
  |init h=>obtain⟨rfl,rfl⟩:=h;exact⟨i,hi,J,.init ⟨rfl,rfl⟩⟩
  |step w h ih =>
   rename_i u v y' w';obtain⟨j,h1,G,h3⟩:=ih;have hv:v<N.as.length:=by
    obtain⟨kk,e,lk⟩:=Ue h.2.2.2.2.2.1;omega
   obtain⟨z,lz,ez⟩:=Ya.1 ((B.mem (v:Int)).2 ⟨v,rfl,hv,fun e=>h.2.1 (by rw[<-e,h.1]),h.2.2.2.1⟩);exact⟨z,lz,ez,.step h3 ((ad h1 G _ _).2 ⟨lz,v,ez,h⟩)⟩
 constructor
 ·rintro⟨j,y,w,h1,G,rfl⟩;obtain⟨a',lj,ej,wj⟩:=at' j y h1;exact⟨a',y,w,wj,(af lj ej w).1 G,rfl⟩
 rintro⟨a',y,w,h1,G,rfl⟩;obtain⟨j,lj,ej,wj⟩:=ag a' y h1;exact⟨j,y,w,wj,(af lj ej w).2 G,rfl⟩
end
def Uu(l:Zb):Zb:=l.mergeSort fun x y=>decide (x<=y)
def Xeo {P:Program} {f:FuncId} (hS:∀ (cM I cap:Nat) (zs:Zb) (w:World),Sort.Holds (Value.int .i64) w cM I zs.toArray->cM<w.heap.size->zs.length<4611686018427387904 ->
   Calls P f #[.slice (some ⟨cM,I,none⟩) zs.length cap] w fun e w'=>e = .returned (.tuple #[])/\∃ n os,w'=Sort.grow (Sort.putRow (Value.int .i64) (Sort.ahead w n) cM I (zs.mergeSort fun x y=>decide (x<=y)).toArray) os)
  {h:Zk} {s:Sl} {l:Zb} (o:Yh h 1 s (Zu l)) (hn:s.nl=false) (hl:l.length<=1000000) {R:Ze} (hr:∀ h',Yh h' 1 s (Zu (Uu l))->Mod (fun j=>j=s.b) h h'->R (.tuple #[]) h'):Zip P f [s.v] h R:=by
 intro w hw;subst hw;obtain ⟨o1,o2⟩:=o;rcases o2 with ⟨rfl,_⟩ | ⟨_,ho,O,h1,h2,U,hb,ha,ht⟩
 ·cases hn
 have G:l.length=s.n:=by simpa using o1
 have hv:s.v = .slice (some ⟨s.b,0,none⟩) l.length s.c:=by
  unfold Sl.v;rw [hn,ho,O,G]
  rfl
 rw [hv];have aa:=hb.lt;obtain ⟨t,X⟩:=hb;have ab:U.toList.take l.length=l.map (Value.int .i64):=by
  rw [G,<-Xjd s.n,ht]
  rfl
 have H:=hS s.b 0 s.c l w (holds_of_blockI X ab) aa (by omega);refine H.mono ?_;rintro e w' ⟨rfl,n,os,rfl⟩;have J:(Uu l).length=l.length:=by simp [Uu]
 have hg:=grownBy_sortedI (w:=w) (g:=s.b) (n:=n) (os:=os) (Uu l).toArray;have hc:=heap_sortedI (n:=n) (os:=os) (Uu l).toArray X;refine ⟨_,rfl,hr _ ⟨by simp [J,G],.inr ⟨hn,ho,O,h1,h2,_,⟨t,hc⟩,by simp [Sort.putCells,ha],?_⟩⟩ ⟨?_,fun b h1 h2=>?_⟩,⟨rfl,rfl,rfl,Nat.le_add_right _ _⟩⟩
 ·have:=take_putCellsI U (Uu l) (by rw [J,G];omega);rw [J,G] at this;rw [Xjd,this]
  rfl
 ·exact hg.size
 exact hg.block b h1 (fun e=>h2 (by cases e;rfl))
def UpL(l:Zb):Prop:=∀i j,i<=j->j<l.length->Zm l i<=Zm l j
def Zw6{l:Zb}:UpL (Uu l):=by
 have h:=List.pairwise_mergeSort (le:=fun(x y:Int)=>decide (x<=y)) (by intro a b c;simp;omega) (by intro a b;simp;omega) l;intro i j H G;rcases Xi6 i j with q|q
 ·rw[Xlv] at h;have:=h i j (by simp[Uu] at G ⊢;omega) G q;simp at this;have I:Zm (Uu l) i=(Uu l)[i]'(by omega):=by simp[Zm,show i<(Uu l).length by omega]
  have e2:Zm (Uu l) j=(Uu l)[j]:=by simp[Zm,G]
  rw[I,e2];exact this
 have:i=j:=by omega
 subst this;exact Xkh _
def Ztk{l:Zb}{x:Int}:x∈Uu l↔x∈l:=List.mem_mergeSort
structure CpK(l c:Zb)(k m:Nat):Prop where
 len:c.length=l.length
 km:k<=m
 k1:1<=k
 ml:m<=l.length
 ris:∀i j,i<j->j<k->Zm c i<Zm c j
 mem:∀x,(∃i,i<k/\Zm c i=x)↔∃i,i<m/\Zm l i=x
 last:Zm c (k-1)=Zm l (m-1)
 rest:∀j,m-1<=j->j<l.length->k<=j->Zm c j=Zm l j
def CpK.same{l c:Zb}{k m:Nat}(h:CpK l c k m)(I:m<l.length)(H:Zm l m=Zm l (m-1)):CpK l c k (m+1):=by
 refine⟨h.len,by have:=h.km;omega,h.k1,I,h.ris,fun x=>?_,by rw[h.last];simp[H],fun j h1 G J=>h.rest j (by omega) G J⟩;rw[h.mem];constructor
 ·rintro⟨i,h1,G⟩;exact⟨i,by omega,G⟩
 rintro⟨i,h1,G⟩;by_cases q:i=m
 ·subst q;exact⟨i-1,by have:=h.k1;have:=h.km;omega,by rw[<-H];exact G⟩
 exact⟨i,by omega,G⟩
def CpK.new{l c:Zb}{k m:Nat}(h:CpK l c k m)(hu:UpL l)(O:m<l.length)(U:Zm l m≠Zm l (m-1)):CpK l (c.set k (Zm l m)) (k+1) (m+1):=by
 have X:=h.km;have k1:=h.k1;have len:=h.len;have H:∀j,Zm (c.set k (Zm l m)) j=if j=k then Zm l m else Zm c j:=fun j=>Vj
 have I:Zm l (m-1)<Zm l m:=by
  have:=hu (m-1) m (by omega) O;omega
 refine⟨by simp[len],by omega,by omega,O,fun i j J hj=>?_,fun x=>?_,?_,fun j h1 G R=>?_⟩
 ·rw[H,H,ifN];by_cases q:j=k
  ·rw[if_pos q];by_cases q':i=k-1
   ·rw[q',h.last];exact I
   have:=h.ris i (k-1) (by omega) (by omega);rw[h.last] at this;omega
  rw[if_neg q];exact h.ris i j J (by omega)
 ·constructor
  ·rintro⟨i,h1,G⟩;rw[H] at G;by_cases q:i=k
   ·rw[if_pos q] at G;exact⟨m,by omega,G⟩
   rw[if_neg q] at G;obtain⟨j,R,h4⟩:=(h.mem x).1 ⟨i,by omega,G⟩;exact⟨j,by omega,h4⟩
  rintro⟨i,h1,G⟩;by_cases q:i=m
  ·exact⟨k,by omega,by rw[H,if_pos rfl,<-q];exact G⟩
  obtain⟨j,R,h4⟩:=(h.mem x).2 ⟨i,by omega,G⟩;exact⟨j,by omega,by rw[H,ifN];exact h4⟩
 ·rw[H];simp
 rw[H,ifN];exact h.rest j (by omega) G (by omega)
def CpK.fin{l c:Zb}{k:Nat}(h:CpK l c k l.length):Zcb (c.take k)/\∀x,x∈c.take k↔x∈l:=by
 have J:=h.km;have len:=h.len;have ht:∀i,i<k->Zm (c.take k) i=Zm c i:=fun i I=>by simp[Zm,I]
 have lt:(c.take k).length=k:=by simp;omega
 refine⟨fun i j G O=>?_,fun x=>?_⟩
 ·rw[ht i (by omega),ht j (by omega)];exact h.ris i j G (by omega)
 rw[Ya,Ya,<-h.mem x];constructor
 ·rintro⟨i,h1,H⟩;exact⟨i,by omega,by rw[<-ht i (by omega)];exact H⟩
 rintro⟨i,h1,H⟩;exact⟨i,by omega,by rw[ht i h1];exact H⟩
section
variable{Y:Sys}{h h':Zk}
def Zvy{K:Ze}{s I:Sl}{c:Zb}{k:Nat}(o:Yh h 1 s (Zu c))(H:s.nl=false)(J:k<=s.n)(he:I = { s with o:=if s.c=k then s.o else s.o+k * 1,n:=s.n-k,c:=s.c-k })
  (O:∀h',Yh h' 1 { s with n:=k } (Zu (c.take k))->Mod (fun j=>j=s.b) h h'->K undef h'):Ef.wp h K (.clr 1 #[.int .i64 0]) [I.v]:=by
 subst he;have R:=o.take J;have hl:=o.1;rcases o.2 with⟨rfl,_⟩|⟨_,U,G,h1,h2,aa,hb,ha,ht⟩
 ·cases H
 have hv:(Sl.v { s with o:=if s.c=k then s.o else s.o+k * 1,n:=s.n-k,c:=s.c-k }) = .slice (some ⟨s.b,if s.c=k then s.o else s.o+k * 1,none⟩) (s.n-k) (s.c-k):=by
  simp[Sl.v,H,G]
 rw[hv];show (if s.n-k=0 then K undef h else _);have X:(Zu c).take (k * 1)=Zu (c.take k):=by simp[Zu,List.map_take]
 rw[X] at R;by_cases q:s.n-k=0
 ·rw[if_pos q];exact O h R (Mod.refl _)
 rw[if_neg q,ifN];have z:(Builtin.zeroCells #[.int .i64 0] (s.n-k)).toList=List.replicate (s.n-k) (.int .i64 0):=by
  apply Xjp
  ·simp[Builtin.zeroCells]
  intro i a b;simp[Builtin.zeroCells,Nat.mod_one]
 rw[z];obtain⟨h',g1,g2,g3,_⟩:=Zcp (vs:=List.replicate (s.n-k) (.int .i64 0)) (o:=s.o+k * 1) hb (by simp;omega) (fun v hv=>by rw[List.mem_replicate] at hv;rw[hv.2];rfl);rw[g1];refine O h' ⟨by have:=o.1;simp at this ⊢;omega,.inr ⟨H,U,G,by simp only[];omega,h2,_,g2,by simp;omega,?_⟩⟩ g3;rw[U,<-X,<-ht];simp[Xlr,Xke J];rw[List.take_append_of_le_length (by simp;omega)];simp[Xlr]
def Xhf(s:Sl)(a:Zj)(l:Zb)(h0:Zk)(e:Zc)(h':Zk):Prop :=
 ∃(i:Nat)(b c d f g h j:Zj),e=[s.v,a,.int .i64 i,b,c,d,f,g,h,j]/\CpK l l i i/\h'=h0
def Xhn(s s2:Sl)(a:Zj)(l:Zb)(i:Nat)(h0:Zk)(e:Zc)(h':Zk):Prop :=
 ∃(q k:Nat)(c:Zb)(d f g h m:Zj),e=[s.v,a,.int .i64 k,s2.v,.int .i64 q,d,f,g,h,m]/\1<=q/\i<=k/\k<=i+q-1/\CpK l c k (i+q)/\Yh h' 1 s (Zu c)/\Mod (fun j=>j=s.b) h0 h'
def Zp5(H:Y.cL 498 Y498){s:Sl}{l:Zb}(o:Yh h 1 s (Zu l))(hn:s.nl=false)(hu:UpL l)(hl:l.length<=1000000){R:Ze}
  (hr:∀h' s' c,Yh h' 1 s' (Zu c)->s'.b=s.b->s'.nl=s.nl->Zcb c->(∀x,x∈c↔x∈l)->Mod (fun j=>j=s.b) h h'->R s'.v h'):Zt Y 498 [s.v] h R:=by
 refine .o H ?_;have ls:=o.cE.len;simp[Y498,Yw.wp];by_cases c0:s.n<2
 ·have aa:(s.n:Int)<2:=by omega
  simp[aa];exact hr h s l o rfl rfl (fun i j ac hj=>by omega) (fun x=>Iff.rfl) (Mod.refl _)
 have k1:CpK l l 1 1:=⟨rfl,by omega,by omega,by omega,fun i j ac hj=>by omega,fun x=>Iff.rfl,rfl,fun j _ _ _=>rfl⟩
 have aa:¬(s.n:Int)<2:=by omega
 simp[aa];refine Zp (Xhf s (.slice none 0 0) l h) (fun e _=>l.length-Zx e 2) ⟨1,_,_,_,_,_,_,_,rfl,k1,rfl⟩ ?_;rintro e h1 ⟨i,f,g,m,p,r,t,u,rfl,ki,rfl⟩;have i1:=ki.k1;by_cases c:i<l.length;rotate_left
 ·have c':¬(i:Int)<s.n:=by omega
  have:i=l.length:=by have:=ki.ml;omega
  subst this;simp[c'];obtain⟨r1,r2⟩:=ki.fin;rw[Xji (Xi4 _)] at r1 r2;exact hr h1 s l o rfl rfl r1 r2 (Mod.refl _)
 have c':(i:Int)<s.n:=by omega
 have w1:=wrapS (i:=i);have w2:IntKind.i64.wrap ((i:Int)-1)=((i-1:Nat):Int):=by rw[Zn];omega
 have c3:i-1<s.n:=by omega
 have va:=o.cE.val i c;have vb:=o.cE.val (i-1) (by omega);simp[c',Zl o.ok,va,w2,c3,vb];by_cases d:Zm l i=Zm l (i-1);rotate_left
 ·have kn:=ki.new hu c d;have Vw:l.set i (Zm l i)=l:=by
   apply Xjp (by simp);intro j a b;rw[Xky]
   split
   ·rename_i e;subst e;simp[Zm,c]
   rfl
  rw[Vw] at kn;simp[d,w1];exact nx ⟨i+1,_,_,_,_,_,_,_,rfl,kn,rfl⟩
 have kd:=ki.same c d;have ah:s.n<=s.c:=o.ok.le;have G:=Zb8 (Y:=Y) (h:=h1) (s:=s) (sz:=1) (k:=.i64) (j:=(i:Int)) o.ok;rw[ifN] at G;simp only[Xi8,Xjd] at G;generalize U:({ s with o:=s.o+i,n:=s.n-i,c:=s.c-i }:Sl)=I at G;have ad:I.ok:=by rw[<-U];exact⟨fun h=>(by rw[show _=s.nl from rfl,hn] at h;cases h),by show s.n-i<=s.c-i;omega,.inl (by rcases o.ok.spot with q|q;exact q;omega)⟩
 have n2:I.n=s.n-i:=by rw[<-U]
 have b2:I.b=s.b:=by rw[<-U]
 have o2:I.o=s.o+i:=by rw[<-U]
 simp[d,G];refine Zp (Xhn s I (.slice none 0 0) l i h1) (fun e _=>l.length-Zx e 4) ⟨1,i,l,_,_,_,_,_,rfl,by omega,by omega,by omega,kd,o,Mod.refl _⟩ ?_;rintro e h2 ⟨q,k,cc,w5,w6,w7,w8,w9,rfl,hq,ae,ai,X,oo,m2⟩;have aj:=X.len;by_cases cq:i+q<l.length
 ·have ab:(q:Int)<I.n:=by omega
  have w1:=wrapS (i:=q);have w2:IntKind.i64.wrap ((q:Int)-1)=((q-1:Nat):Int):=by rw[Zn];omega
  have w3:=wrapS (i:=k);have c4:q-1<I.n:=by omega
  have va:=oo.cE.val (i+q) (by omega);have vb:=oo.cE.val (i+(q-1)) (by omega);rw[X.rest (i+q) (by omega) (by omega) (by omega)] at va;rw[X.rest (i+(q-1)) (by omega) (by omega) (by omega)] at vb;have af:hc h2 I.b (I.o+q)=some (.int .i64 (Zm l (i+q))):=by rw[b2,o2,Xj5];exact va
  have ag:hc h2 I.b (I.o+(q-1))=some (.int .i64 (Zm l (i+(q-1)))):=by rw[b2,o2,Xj5];exact vb
  have ei:i+q-1=i+(q-1):=by omega
  simp[ab,Zl ad,af,w2,c4,ag];by_cases dq:Zm l (i+q)=Zm l (i+(q-1))
  ·simp[dq,w1];exact nx ⟨q+1,k,cc,_,_,_,_,_,rfl,by omega,ae,by omega,X.same cq (by rw[ei];exact dq),oo,m2⟩
  have ck:(k:Int)<s.n:=by omega
  simp[dq,Zl oo.ok,ck];refine Xff oo (k:=k) (by omega) ?_;intro h3 o3 m3;simp[w1,w3];exact nx ⟨q+1,k+1,_,_,_,_,_,_,rfl,by omega,by omega,by omega,X.new hu cq (by rw[ei];exact dq),o3,m2.trans m3⟩
 have ab:¬(q:Int)<I.n:=by omega
 have ak:¬q<I.n:=by omega
 have hm:i+q=l.length:=by have:=X.ml;omega
 rw[hm] at X;obtain⟨f1,f2⟩:=X.fin;have J:=Zb8 (Y:=Y) (h:=h2) (s:=s) (sz:=1) (k:=.i64) (j:=(k:Int)) oo.ok;simp only[Xi8] at J;simp[ab,J];refine Zvy oo hn (k:=k) (by omega) (by simp) ?_;intro h3 o3 m3;have O:=X1 (Y:=Y) (h:=h3) (s:=s) (sz:=1) (k:=.i64) (j:=(k:Int)) oo.ok (by omega) (by omega);simp only[Xi8] at O;simp[O];exact hr h3 _ _ o3 rfl rfl f1 f2 (m2.trans m3)
def Xcz(Y:Sys):Prop:=∀{h:Zk}{s:Sl}{l:Zb}{R:Ze},Yh h 1 s (Zu l)->s.nl=false->l.length<=1000000->(∀h',Yh h' 1 s (Zu (Uu l))->Mod (fun j=>j=s.b) h h'->R (.tuple #[]) h')->Zt Y 497 [s.v] h R
structure Zv6(Y:Sys):Prop where
 P:Zhj Y
 Kids:Y.cL 470 Y470
 OKids:Y.cL 440 Y440
 Compact:Y.cL 498 Y498
 sort:Xcz Y
def Zhx(row below:Zb)(c:Int)(i:Nat):Zb:=((List.range i).filter fun v=>decide (Zm row v=c)).map fun v=>Zm below v
def Zwt{row below:Zb}{c:Int}{i:Nat}:Zhx row below c (i+1)=Zhx row below c i++if Zm row i=c then [Zm below i] else []:=by
 unfold Zhx;rw[Xj1,Xmd];by_cases q:Zm row i=c
 ·simp[q]
 simp[q]
def Zob{row below:Zb}{c x:Int}{i:Nat}:x∈Zhx row below c i↔∃v,v<i/\Zm row v=c/\Zm below v=x:=by
 simp only[Zhx,Xlg,Xkq,Xme,decide_eq_true_eq];exact⟨fun ⟨v,⟨a,b⟩,c⟩=>⟨v,a,b,c⟩,fun ⟨v,a,b,c⟩=>⟨v,⟨a,b⟩,c⟩⟩
def Z18{row below:Zb}{c:Int}{i:Nat}:(Zhx row below c i).length<=i:=by
 simp only[Zhx,Xj6];exact Xjo (Xki ..) (by simp)
def KdI(B:Nat)(f g:Zj)(u1 u2:Sl)(row below:Zb)(c:Int)(h0:Zk)(e:Zc)(h':Zk):Prop :=
 ∃(i:Nat)(t:Sl)(h j k a d:Zj),e=[f,g,Zg c,Zh B,h,u1.v,t.v,j,k,.bool false,u2.v,Zg u2.n,Zg i,a,d]/\i<=row.length/\Yh h' 1 t (Zu (Zhx row below c i))/\(t.nl=false->h0.size<=t.b)/\Ext h0 h'
def Z09(K:Zv6 Y){s:Sl}{L:Za}{n:Nat}(r:Wm h s L)(pk:Yq n L){k c:Nat}(hk:k<L.length)(k1:1<=k)(hc:c<Yv L k){R:Ze}
  (hr:∀h' t ks,Ext h h'->Yh h' 1 t (Zu ks)->t.nl=false->h.size<=t.b->Zcb ks->(∀x,x∈ks↔∃v,v<n/\Zm (Yc L k) v=c/\Zm (Yc L (k-1)) v=x)->R t.v h'):Zt Y 470 [W7 s,Zg ((k:Int)+1),Zg c] h R:=by
 have bL:=pk.bL;have bn:=pk.bn;have lL:=r.len;obtain⟨z1,z2,z3,_⟩:=Qp (pk.lv k hk);obtain⟨y1,_,_,_⟩:=Qp (pk.lv (k-1) (by omega));have lk:lvl L ((k:Int)+1)=Yc L k:=by
  unfold lvl Zgz;rw[if_pos (by simp;omega)]
  congr 1
  omega
 have aa:lvl L (k:Int)=Yc L (k-1):=by
  unfold lvl Zgz;rw[if_pos (by simp;omega)]
  congr 1
  omega
 refine .o K.Kids ?_;have w1:IntKind.i64.wrap ((k:Int)+1-1)=(k:Int):=by rw[Zn];omega
 have w0:IntKind.i64.wrap (k:Int)=(k:Int):=Zn;have c1:¬(k:Int)+1<2:=by omega
 simp[Y470,Yw.wp];refine Zo ?_;intro B h1 g1 B1 e1;replace B1:Yo h1 B #[s.v]:=by simpa[W7] using B1
 simp[c1,Yf B1,w0];rw[show (Value.agg #[s.v])=W7 s from rfl];refine Zd1 K.P (r.cC e1) ?_;intro h2 u1 e2 r2;rw[aa] at r2;have B2:=B1.cC e2;have x2:=e1.trans e2;simp[Yf B2];rw[show (Value.agg #[s.v])=W7 s from rfl];refine Zd1 K.P (r.cC x2) ?_;intro h3 u2 e3 J;rw[lk] at J;have x3:=x2.trans e3;have H:=r2.cC (e2.trans e3);replace J:=J.cC e3;have l2:=H.len;have l3:=J.len;generalize U:Yc L k=row at *
 generalize ah:Yc L (k-1)=below at *
 simp;refine Zp (KdI B (W7 s) (Zg ((k:Int)+1)) u1 u2 row below c h3) (fun e _=>row.length-Zx e 12) ⟨0,Sl.nil,_,_,_,_,_,rfl,by omega,Yh.nil,fun h=>(by cases h),Mod.refl _⟩ ?_;rintro e h4 ⟨i,t,v4,v7,v8,ai,aj,rfl,hi,X,nt,O⟩;have lt:=X.1;have ak:=Z18 (row:=row) (below:=below) (c:=(c:Int)) (i:=i);simp at lt;by_cases ci:i<row.length;rotate_left
 ·have I:¬(i:Int)<u2.n:=by omega
  have al:¬i<u2.n:=by omega
  have:i=n:=by omega
  subst this;have ab:Zhx row below (c:Int) i≠[]:=by
   have h0:=z3 c (by unfold Yv at hc;rw[U] at hc;exact hc);have:∃v,v<i/\Zm row v=(c:Int):=by
    refine Xka fun q=>h0 ?_;unfold Zbu;rw[Xmt,Xmu];intro x hx;obtain⟨v,a,b⟩:=Ya.1 hx;simp;intro e;exact q ⟨v,by omega,by rw[b];exact e⟩
   obtain⟨v,h1,h2⟩:=this;exact List.ne_nil_of_mem (Zob.2 ⟨v,h1,h2,rfl⟩)
  have G:t.nl=false:=by
   cases G:t.nl with
   |false=>rfl
   |true=>have:=(X.ok.nil G).1;exact absurd (List.length_eq_zero_iff.1 (by omega)) ab
  have am:=nt G;simp[I];refine K.sort X G (by omega) ?_;intro h5 o5 m5;simp;refine Zp5 K.Compact o5 G Zw6 (by simp[Uu];omega) ?_;intro h6 t' ks o6 b6 n6 ac ad m6;simp;have an:=x3.size;refine hr h6 t' ks (Mod.cC (x3.trans O) (m5.trans m6) (fun j hj=>by omega)) o6 (by rw[n6];exact G) (by omega) ac (fun x=>?_);rw[ad,Ztk,Zob]
 have I:(i:Int)<u2.n:=by omega
 have ae:i<u1.n:=by omega
 have af:(i:Int)<u1.n:=by omega
 have w2:=wrapS (i:=i);have v2:=(J.cC O).val i ci;have v1:=(H.cC O).val i (by omega);have hs:=Zwt (row:=row) (below:=below) (c:=(c:Int)) (i:=i);simp[I,Zl J.ok,v2];by_cases d:Zm row i=(c:Int)
 ·rw[if_pos d] at hs;simp[d,af,ae,Zl H.ok,v1];refine Xg ?_;intro b h5 g5 B5 e5;simp;refine Wa rfl (X.cF e5) B5 ?_;intro t' h6 o6 n6 m6 ag;simp[w2];refine nx ⟨i+1,t',_,_,_,_,_,rfl,by omega,by rw[hs];simpa[Zu] using o6,fun hn=>?_,Mod.cC (O.trans e5) m6 (fun j hj=>by have:=nt hj.1;omega)⟩;rcases ag with⟨a,b⟩|⟨a,b⟩
  ·rw[a];exact nt (by rw[<-b];exact hn)
  have:=O.size;have:=e5.size;omega
 rw[if_neg d] at hs;simp[d,w2];exact nx ⟨i+1,t,_,_,_,_,_,rfl,by omega,by rw[hs];simpa using X,nt,O⟩
def Znh(K:Zv6 Y){op:Nat}{N:Zs}{L:Za}(v:Uq h op N L)(H:Yq N.vs.length L){k c:Nat}(I:k<L.length)(J:1<=k)(hc:c<Yv L k){R:Ze}
  (O:∀h' t ks,Ext h h'->Yh h' 1 t (Zu ks)->t.nl=false->h.size<=t.b->Zcb ks->(∀x,x∈ks↔∃v,v<N.vs.length/\Zm (Yc L k) v=c/\Zm (Yc L (k-1)) v=x)->R t.v h'):Zt Y 440 [Zh op,Zg ((k:Int)+1),Zg c] h R:=by
 obtain⟨q,f,t,g,X,z,B,U,rg,_,_,_,hz⟩:=v;refine .o K.OKids ?_;have G:rd h op 0 1=some [q.v]:=by
  have:=Zbg (h:=h) (b:=op) (l:=[q.v]) (o:=0) (fun i v hv=>by
   cases i with
   |zero=>simp at hv;subst hv;rw[B.hc];rfl
   |succ i=>simp at hv)
  simpa using this
 simp[Y440,Yw.wp,G];rw[show (Value.agg #[q.v])=W7 q from rfl];refine Z09 K U H I J hc ?_;intro h' t ks e o n1 n2 r m;simp;exact O h' t ks e o n1 n2 r m
end
end Go.Rm
