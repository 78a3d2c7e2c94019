import Derived.Test.YteifbkappfjnlaaGreatDoorT12
/- Parts. -/
set_option linter.all false
namespace Go.Rm
section
variable{Y:Sys}{h h':Zk}
def Zhk{s:Sl}{N:Zs}{L:Za}(g:Zi0 h s N L){i:Nat}(G:i<s.n:=by omega):∃u:Sl,(∀h',Ext h h'->hc h' s.b (s.o+i)=some u.v)/\Zfb h u (Yz L i) (Zx N L i):=by
 obtain⟨u,a,b⟩:=g.val i (by rw[g.len];exact G);exact⟨u,fun g e=>e.hc a (fun h=>h),b⟩
def Zk7{u:Sl}{n:Nat}{D:Bool->Nat->Zb}(g:Zfb h u n D){c:Nat}(hc':c<n):∃a b:Sl,(∀h',Ext h h'->hc h' u.b (u.o+c * 2)=some a.v/\hc h' u.b (u.o+c * 2+1)=some b.v/\rd h' u.b (u.o+c * 2) 2=some [a.v,b.v])/\Zv h a (D false c)/\Zv h b (D true c):=by
 obtain⟨a,H,R⟩:=g.val false c hc';obtain⟨b,I,U⟩:=g.val true c hc';simp[b2n] at H I;refine⟨a,b,fun h' e=>?_,R,U⟩;have J:=e.hc H (fun h=>h);have O:=e.hc I (fun h=>h);refine⟨J,O,Zba (l:=[a.v,b.v]) (fun j v G=>?_)⟩
 match j with
 |0=>simp at G;subst G;exact J
 |1=>simp at G;subst G;exact O
 |j+2=>simp at G
end
end Go.Rm



namespace Go.Rm
section
variable{Y:Sys}{h:Zk}
end
end Go.Rm




namespace Go.Rm
structure Zbq(lo up:Nat)(h:Zk)(s1 s2 s3:Sl)(P:List (Tab × Sl))(M:Zs):Prop where
 o1:Yi h 3 s1 (Ya (M.vs.map Xg))
 o2:Yi h 3 s2 (Ya (M.as.map Xg))
 o3:Yi h 3 s3 (Ya (P.map U0))
 hP:P.map Prod.fst=M.ts
 pw:P.Pairwise (fun p q=>p.2.b≠q.2.b)
 px:∀p,p∈P->(Yi h 1 p.2 (Zr p.1.cs)/\p.2.nl=false)/\lo<=p.2.b/\p.2.b≠s1.b/\p.2.b≠s2.b/\(s3.nl=false->p.2.b≠s3.b)/\p.2.b<up
 u2:s2.b<up
 f1:lo<=s1.b
 f2:lo<=s2.b
 d12:s1.b≠s2.b
 f3:s3.nl=false->lo<=s3.b/\s3.b≠s1.b/\s3.b≠s2.b
section
variable{Y:Sys}{h h':Zk}{lo up:Nat}{s1 s2 s3:Sl}{P:List (Tab × Sl)}{M:Zs}
def Zbq.cJ(n:Zbq lo up h s1 s2 s3 P M):W7 h s1 s2 s3 M:=⟨n.o1.row3,n.o2.row3,n.o3.rowT n.hP (fun q hq=>(n.px q hq).1.1.cE)⟩
def Zbq.cD{S:Zf}(n:Zbq lo up h s1 s2 s3 P M)(m:Mod S h h')(G:∀j,S j->j<lo):Zbq lo up h' s1 s2 s3 P M :=
 {n with
  o1:=n.o1.cD m (fun _ hb=>by have:=G _ hb;have:=n.f1;omega)
  o2:=n.o2.cD m (fun _ hb=>by have:=G _ hb;have:=n.f2;omega)
  o3:=n.o3.cD m (fun H hb=>by have:=G _ hb;have:=(n.f3 H).1;omega)
  px:=fun p hp=>⟨⟨(n.px p hp).1.1.cD m (fun _ hb=>by have:=G _ hb;have:=(n.px p hp).2.1;omega),(n.px p hp).1.2⟩,(n.px p hp).2⟩ }
def Zbq.cC(n:Zbq lo up h s1 s2 s3 P M)(m:Ext h h'):Zbq lo up h' s1 s2 s3 P M:=n.cD m fun _ h=>h.elim
def Zbq.setA{K:Ze}(n:Zbq lo up h s1 s2 s3 P M){a:Nat}{w:Int}(G:a<M.as.length)
  (H:∀h',Zbq lo up h' s1 s2 s3 P { M with as:=M.as.set a ⟨(Zq M.as a).a,(Zq M.as a).b,w⟩ }->Mod (fun j=>j=s2.b) h h'->K undef h'):Xl h s2.b (s2.o+(a * 3+2)) (Zg w) K:=by
 refine stN n.o2 (k:=a * 3+2) (by rw[Wb];simp;omega) ?_;intro h' o2 m;rw[(Xap G).2.2] at o2;refine H h' ?_ m;exact { o1:=n.o1.cD m (fun _ hb=>n.d12 hb),o2:=o2,o3:=n.o3.cD m (fun I hb=>(n.f3 I).2.2 hb),hP:=n.hP,pw:=n.pw,px:=fun p hp=>⟨⟨(n.px p hp).1.1.cD m (fun _ hb=>(n.px p hp).2.2.2.1 hb),(n.px p hp).1.2⟩,(n.px p hp).2⟩,u2:=n.u2,f1:=n.f1,f2:=n.f2,d12:=n.d12,f3:=n.f3 }
def Zbq.stC(n:Zbq lo up h s1 s2 s3 P M){t:Nat}(ht:t<M.ts.length)(hp:t<P.length){K:Ze}{k:Nat}{w:Int}(R:k<(Yg M.ts t).cs.length)
  (U:∀h' P',Zbq lo up h' s1 s2 s3 P' { M with ts:=M.ts.set t ⟨(Yg M.ts t).i,(Yg M.ts t).o,(Yg M.ts t).cs.set k w⟩ }->Mod (fun j=>j=P[t].2.b) h h'->K undef h'):Xl h P[t].2.b (P[t].2.o+k) (Zg w) K:=by
 have e:Yg M.ts t=P[t].1:=by
  rw[V6 ht];simp only[<-n.hP,Xjq]
 have hm:P[t]∈P:=Xiv hp;obtain⟨⟨o,nl⟩,g2,X,g4,g5,g6⟩:=n.px _ hm;rw[e] at R U;refine stN o (k:=k) (by rw[Z2];exact R) ?_;intro h' o' m;rw[Vt] at o';refine U h' (P.set t (⟨P[t].1.i,P[t].1.o,P[t].1.cs.set k w⟩,P[t].2)) ?_ m;have J:∀p,p∈P.set t (⟨P[t].1.i,P[t].1.o,P[t].1.cs.set k w⟩,P[t].2)->p=(⟨P[t].1.i,P[t].1.o,P[t].1.cs.set k w⟩,P[t].2)\/(p∈P/\p.2.b≠P[t].2.b):=fun p G=>by
  obtain⟨j,H,I⟩:=List.mem_iff_getElem.1 G;rw[Xj5] at I
  split at I
  ·exact .inl I.symm
  rename_i q;right;subst I;simp at H;refine⟨Xiv H,?_⟩;have:=List.pairwise_iff_getElem.1 n.pw;rcases Xiw j t with k1|k1
  ·exact this j t H hp k1
  exact (this t j hp H (by omega)).symm
 refine { o1:=n.o1.cD m (fun _ hb=>X hb.symm),o2:=n.o2.cD m (fun _ hb=>g4 hb.symm),o3:=?_,hP:=by rw[Xj9,n.hP],pw:=?_,px:=?_,u2:=n.u2,f1:=n.f1,f2:=n.f2,d12:=n.d12,f3:=n.f3 }
 ·have:(P.set t (⟨P[t].1.i,P[t].1.o,P[t].1.cs.set k w⟩,P[t].2)).map U0=P.map U0:=by
   rw[Xj9];apply Xjd (by simp);intro j a1 a2;rw[Xj5]
   split
   ·rename_i q;subst q;simp[U0]
   rfl
  rw[this];exact n.o3.cD m (fun hn hb=>g5 hn hb.symm)
 ·rw[Xlb];intro i j hi H O;simp at hi H;have q:=List.pairwise_iff_getElem.1 n.pw i j hi H O;rw[Xj5,Xj5]
  split<;>split<;>simp_all
 intro p G;rcases J p G with rfl|⟨h1,h2⟩
 ·exact⟨⟨o',nl⟩,g2,X,g4,g5,g6⟩
 exact⟨⟨(n.px p h1).1.1.cD m (fun _ hb=>h2 hb),(n.px p h1).1.2⟩,(n.px p h1).2⟩
end
abbrev Vk:=Nat->Option Int
def Zhq(n:Nat)(A:Vk):Nat:=(List.range n).countP fun k=>(A k).isSome
def Qx(cN:Zb)(cQ:Zd):Vk:=fun k=>if Xd cQ k=0 then none else some (Zm cN k)
def fpO(p:Nat)(rs cs ss:Sl):Zf:=fun b=>b=p\/b=cs.b\/b=ss.b\/(rs.nl=false/\b=rs.b)
def Q0(h:Zk)(p n:Nat)(A:Vk)(S:Zf):Prop :=
 ∃row cN cQ rs cs ss,Xa h p row cN cQ rs cs ss/\Qm row n cQ/\cN.length=n/\Ord row cN/\row.length=Zhq n (Qx cN cQ)/\n<=16384 /\
  (∀k,k<n->A k=Qx cN cQ k)/\(∀b,S b↔fpO p rs cs ss b)
def Zpi{n:Nat}{A:Vk}:Zhq n A<=n:=by
 unfold Zhq;exact Xjn List.countP_le_length (by simp)
def Zkf{n:Nat}{A B:Vk}(h:∀k,k<n->(A k).isSome=(B k).isSome):Zhq n A=Zhq n B:=by
 unfold Zhq;apply List.countP_congr;intro k G;rw[h k (List.mem_range.1 G)]
def Z1v{n:Nat}{A:Vk}(h:Zhq n A=0):∀k,k<n->A k=none:=by
 intro k G;have:=List.countP_eq_zero.1 h k (List.mem_range.2 G);simpa using this
def Zmj{n:Nat}{A B:Vk}{k:Nat}(hk:k<n)(I:∀j,j<n->j≠k->(B j).isSome=(A j).isSome)(hA:A k=none)(hB:(B k).isSome=true):Zhq n B=Zhq n A+1:=by
 have R:∀(l:Zd),(∀j∈l,j<n)->l.Nodup->(k∈l->l.countP (fun j=>(B j).isSome)=l.countP (fun j=>(A j).isSome)+1)/\(k ∉ l->l.countP (fun j=>(B j).isSome)=l.countP (fun j=>(A j).isSome)):=by
  intro l
  induction l with
  |nil=>intro _ _;exact⟨fun h=>(by cases h),fun _=>rfl⟩
  |cons x l ih =>
   intro U H;obtain⟨hx,H⟩:=List.nodup_cons.1 H;obtain⟨X,J⟩:=ih (fun j hj=>U j (Xji _ hj)) H;refine⟨fun O=>?_,fun O=>?_⟩
   ·simp only[Xma];by_cases G:x=k
    ·subst G;rw[J hx,hB,hA];simp
    have aa:k∈l:=by
     rcases List.mem_cons.1 O with h|h
     ·exact absurd h.symm G
     exact h
    rw[X aa,I x (U x (by simp)) G];omega
   have G:x≠k:=fun e=>O (by rw[e];simp);simp only[Xma];rw[J (fun h=>O (Xji _ h)),I x (U x (by simp)) G]
 exact (R (List.range n) (fun j hj=>List.mem_range.1 hj) List.nodup_range).1 (List.mem_range.2 hk)
section
variable{Y:Sys}{h:Zk}{p n:Nat}{A:Vk}{S:Zf}
def Xa.fp_lt{row:Zd}{cN:Zb}{G:Zd}{rs cs H:Sl}(O:Xa h p row cN G rs cs H){b:Nat}(hb:fpO p rs cs H b):b<h.size:=by
 rcases hb with rfl|rfl|rfl|⟨I,rfl⟩
 ·exact O.cM.lt
 ·exact O.cN.lt O.cnl
 ·exact O.cQ.lt O.snl
 exact O.row.lt I
def Q0.lt(O:Q0 h p n A S){b:Nat}(hb:S b):b<h.size:=by
 obtain⟨_,_,_,_,_,_,O,_,_,_,_,_,_,G⟩:=O;exact O.fp_lt ((G b).1 hb)
def Xa.cD{row:Zd}{cN:Zb}{G:Zd}{rs cs I:Sl}(O:Xa h p row cN G rs cs I){S':Zf}{h':Zk}(H:Mod S' h h')(hd:∀b,fpO p rs cs I b->¬S' b):
  Xa h' p row cN G rs cs I :=
 ⟨H.cM O.cM (hd p (.inl rfl)),O.row.cD H (fun J=>hd _ (.inr (.inr (.inr ⟨J,rfl⟩)))),O.cN.cD H (fun _=>hd _ (.inr (.inl rfl))),O.cQ.cD H (fun _=>hd _ (.inr (.inr (.inl rfl)))),
  O.cnl,O.snl,O.pc,O.ps,O.csn,O.pr,O.rc,O.rss⟩
def Q0.cD(O:Q0 h p n A S){S':Zf}{h':Zk}(J:Mod S' h h')(hd:∀b,S b->¬S' b):Q0 h' p n A S:=by
 obtain⟨row,cN,G,rs,cs,R,O,V,hc,U,H,X,hA,I⟩:=O;exact⟨row,cN,G,rs,cs,R,O.cD J (fun b hb=>hd b ((I b).2 hb)),V,hc,U,H,X,hA,I⟩
def Zxa{l:Zd}{k:Nat}:Za4 (l++[k])=Za4 l++[.int .i64 (k:Int)]:=by simp[Za4]
def Xa.pushRow{row:Zd}{cN:Zb}{H:Zd}{rs cs U G:Sl}(O:Xa h p row cN H rs cs U){I:Zk}{k:Nat}
  (hO:Yi I 1 G (Za4 row++[.int .i64 (k:Int)])) (X:Mod (fun j=>rs.nl=false/\j=rs.b) h I) (hl:(G.b=rs.b/\G.nl=rs.nl)\/(h.size<=G.b/\G.nl=false)) :
  Xa (Vs I p 0 G.v) p (row++[k]) cN H G cs U:=by
 have J:G.nl=false:=by
  obtain⟨_,_,_,h⟩:=hO.cM (i:=0) (by simp);exact h
 have ab:=O.cM.lt;have ac:=O.cN.lt O.cnl;have ad:=O.cQ.lt O.snl;have pr:p≠G.b:=by
  rcases hl with⟨h1,I⟩|⟨h1,_⟩
  ·rw[h1];exact O.pr (by rw[<-I];exact J)
  omega
 have rc:G.b≠cs.b:=by
  rcases hl with⟨h1,I⟩|⟨h1,_⟩
  ·rw[h1];exact O.rc (by rw[<-I];exact J)
  omega
 have aa:G.b≠U.b:=by
  rcases hl with⟨h1,I⟩|⟨h1,_⟩
  ·rw[h1];exact O.rss (by rw[<-I];exact J)
  omega
 have hb:=X.cM O.cM (fun ⟨R,e⟩=>O.pr R e);refine⟨?_,?_,?_,?_,O.cnl,O.snl,O.pc,O.ps,O.csn,fun _=>pr,fun _=>rc,fun _=>aa⟩
 ·have:=hb.set (o:=0) (v:=G.v);simpa using this
 ·rw[Zxa];exact hO.cD (S:=fun b=>b=p) (Mod.set rfl) (fun _ e=>pr e.symm)
 ·exact (O.cN.cD X (fun _ ⟨R,e⟩=>O.rc R e.symm)).cD (S:=fun b=>b=p) (Mod.set rfl) (fun _ e=>O.pc e.symm)
 exact (O.cQ.cD X (fun _ ⟨R,e⟩=>O.rss R e.symm)).cD (S:=fun b=>b=p) (Mod.set rfl) (fun _ e=>O.ps e.symm)
def Zej(n:Nat)(A:Vk)(k:Int)(c:Int):Bool:=Zpp n k && (match A k.toNat with|none=>true|some d=>decide (c<d))
def Q5(n:Nat)(A:Vk)(k:Int)(c:Int):Vk:=if Zej n A k c then (fun j=>if j=k.toNat then some c else A j) else A
def Zoy{cN:Zb}{H G:Zd}{k:Nat}{c:Int}(I:k<cN.length)(R:Xd G k≠0)(J:∀j,j≠k->(Xd G j=0↔Xd H j=0))(j:Nat):
  Qx (cN.set k c) G j=if j=k then some c else Qx cN H j:=by
 unfold Qx;by_cases O:j=k
 ·subst O;rw[if_neg R,if_pos rfl,Vf I];simp
 rw[if_neg O,Vf I,if_neg O];by_cases h0:Xd H j=0
 ·rw[if_pos h0,if_pos ((J j O).2 h0)]
 rw[if_neg h0,if_neg (fun h=>h0 ((J j O).1 h))]
def Zc6(H:Y.cL 8 Y8)(Hk:Y.cL 18 Y18)(Hh:Y.cL 19 Y19)(Hu:Y.cL 20 Y20)
  (Ha:Y.cL 25 Y25) (Hs:Y.cL 21 Y21) (O:Q0 h p n A S) {k c:Int} {R:Ze}
  (hr:∀h' S',Q0 h' p n (Q5 n A k (Vw c)) S'->(∀b,S' b->S b\/h.size<=b)->Mod S h h'->R (.bool (Zej n A k (Vw c))) h') :
  Zu Y 8 [.pointer (some ⟨p,0,none⟩),.int .i64 k,.int .i64 c] h R:=by
 have OR:=O;obtain⟨row,cN,G,rs,cs,ss,O,V,hc,hO,ac,hn,hA,hS⟩:=O;refine .o H ?_;simp[Y8,Yw.wp];refine Z6q Hk O ?_;rw[V.len];by_cases hk:Zpp n k=true
 ·have ad:=hk;simp only[Zpp,Xi4,decide_eq_true_eq] at ad;obtain⟨h0,h1⟩:=ad;obtain⟨k,rfl⟩:=Int.eq_ofNat_of_zero_le h0;have ab:k<n:=by omega
  have X:k<G.length:=by rw[V.len];exact ab
  have U:k<cN.length:=by omega
  have e1:=O.seatsN;have e2:=O.costsN;have aC:row.length<=n:=by rw[ac];exact Zpi
  have aa:=hA k ab;simp[hk];refine Zfh Hh ?_;generalize aD:Vw c=c' at *
  by_cases hz:Xd G k=0
  ·have aa:A k=none:=by rw[aa];simp[Qx,hz]
   simp[O.p2,Zl O.cQ.ok,e1,X,O.seatAt,hz,O.p0,Zb3];intro t;have e3:=O.rowN;refine Zgw rfl O.row ?_;intro s' h2 ar hs'n ak au;have O3:=O.pushRow ar ak au;have V4:=Zvm V ab hz;have O4:=O3.setSeat X (row.length+1);have O5:=O4.setCost U c';have e4:=O3.rowN;simp at e4;have av:=ak.cM O.cM (fun ⟨hn,e⟩=>O.pr hn e);have q0:Rm.hc h2 p 0=some rs.v:=by rw[av.hc];rfl
   have qf:hfz h2 p 0=false:=av.hfz;simp only[Int.natCast_add,Int.natCast_one] at O4 O5;have al:Xd (G.set k (row.length+1)) k=row.length+1:=by rw[V0 X];simp
   have w1:IntKind.i64.wrap (row.length:Int)=row.length:=Zn;have e5:ss.n=(G.set k (row.length+1)).length:=by simpa using e1
   simp[Xl.open,q0,qf,O3.p2,O3.p0,e4,Zl O3.cQ.ok,e1,X,O3.seatF,O3.seatAt,O4.p1,Zl O4.cN.ok,e2,U,O4.costF,O4.costAt,O5.p2,O5.seatAt,al,w1];have V5:Qm (row++[k]) (G.set k (row.length+1)).length (G.set k (row.length+1)):=by rw[List.length_set,V.len];exact V4
   have am:=V.len;refine Zyd Hu Ha Hs O5 V5 (by simp[am,hc]) (Z0p V U hz hO) (by simp) (by simp;omega) ?_;intro h' ae I O' V' an Or' ah af ao;have ap:Xd I k≠0:=fun h=>by have:=(af k).1 h;omega
   have aw:∀j,j≠k->(Xd I j=0↔Xd G j=0):=fun j hj=>by rw[af j,V0 X,if_neg hj]
   have J:=Zoy (c:=c') U ap aw;have hb:Zej n A k c'=true:=by simp[Zej,hk,aa]
   have az:s'.nl=false:=O'.rnl (i:=0) (by rw[ah];simp);have aj:∀b,b=s'.b->S b\/h.size<=b:=by
    rintro b rfl;rcases au with⟨g1,g2⟩|⟨g1,_⟩
    ·left;rw[hS];exact .inr (.inr (.inr ⟨by rw[<-g2];exact az,g1⟩))
    exact .inr g1
   have ag:=hr h' (fpO p s' cs ss) ⟨ae,cN.set k c',I,s',cs,ss,O',?_,by simpa using hc,Or',?_,hn,?_,fun b=>Iff.rfl⟩ ?_ ?_
   ·rwa [hb] at ag
   ·have:I.length=n:=by rw[an];simpa using V.len
    rw[<-this];exact V'
   ·rw[ah,List.length_append,ac]
    symm
    refine Zmj ab (fun j hj aA=>?_) (by simp[Qx,hz]) (by rw[J];simp);rw[J,if_neg aA]
   ·intro j hj;rw[J];simp only[Q5,hb,if_true,Xix]
    split
    ·rfl
    exact hA j hj
   ·rintro b (rfl|rfl|rfl|⟨_,rfl⟩)
    ·left;rw[hS];exact .inl rfl
    ·left;rw[hS];exact .inr (.inl rfl)
    ·left;rw[hS];exact .inr (.inr (.inl rfl))
    exact aj _ rfl
   have hp:S p:=by rw[hS];exact .inl rfl
   have aq:S cs.b:=by rw[hS];exact .inr (.inl rfl)
   have ai:S ss.b:=by rw[hS];exact .inr (.inr (.inl rfl))
   refine Mod.then (S':=fun b=>b=s'.b\/b=ss.b) (((((ak.mono ?_).trans (Mod.set hp)).trans (Mod.set ai)).trans (Mod.set aq))) ao ?_
   ·rintro i _ ⟨g1,rfl⟩;rw[hS];exact .inr (.inr (.inr ⟨g1,rfl⟩))
   rintro i hi (rfl|rfl)
   ·rcases aj _ rfl with g|g
    ·exact g
    omega
   exact ai
  have aa:A k=some (Zm cN k):=by rw[aa];simp[Qx,hz]
  by_cases ax:Zm cN k<=c'
  ·simp[O.p1,O.p2,Zl O.cQ.ok,Zl O.cN.ok,e1,e2,X,U,O.seatAt,O.costAt,hz,ax];have hb:Zej n A k c'=false:=by simp[Zej,hk,aa];omega
   have:=hr h S (by simpa[Q5,hb] using OR) (fun b hb=>.inl hb) (Mod.refl h);rwa [hb] at this
  have O5:=O.setCost U c';have ay:1<=Xd G k:=by omega
  obtain⟨q1,q2⟩:=V.sv k ab hz;have w1:IntKind.i64.wrap ((Xd G k:Int)-1)=((Xd G k-1:Nat):Int):=by rw[Zn];omega
  simp[O.p1,O.p2,Zl O.cQ.ok,Zl O.cN.ok,e1,e2,X,U,O.seatAt,O.costAt,hz,ax,Xl.open,O.costF,O5.p2,O5.seatAt,w1];have V5:Qm row G.length G:=by rw[V.len];exact V
  have am:=V.len;refine Zyd Hu Ha Hs O5 V5 (by simp[am,hc]) (Zuz V ab U hz hO (by omega)) q1 (by omega) ?_;intro h' ae I O' V' an Or' ah af ao;have ap:Xd I k≠0:=fun h=>hz ((af k).1 h);have J:=Zoy (c:=c') U ap (fun j _=>af j);have hb:Zej n A k c'=true:=by simp[Zej,hk,aa];omega
  have ag:=hr h' S ⟨ae,cN.set k c',I,rs,cs,ss,O',?_,by simpa using hc,Or',?_,hn,?_,hS⟩ (fun b hb=>.inl hb) ?_
  ·rwa [hb] at ag
  ·have:I.length=n:=by rw[an];exact V.len
   rw[<-this];exact V'
  ·rw[ah,ac];apply Zkf;intro j hj;rw[J]
   split
   ·rename_i aB;rw[aB];simp[Qx,hz]
   rfl
  ·intro j hj;rw[J];simp only[Q5,hb,if_true,Xix]
   split
   ·rfl
   exact hA j hj
  have aq:S cs.b:=by rw[hS];exact .inr (.inl rfl)
  have ai:S ss.b:=by rw[hS];exact .inr (.inr (.inl rfl))
  refine Mod.then (Mod.set aq) ao ?_;rintro i _ (rfl|rfl)
  ·rw[hS];exact .inr (.inr (.inr ⟨O.rnl q1,rfl⟩))
  exact ai
 have ad:Zpp n k=false:=by simpa using hk
 simp[ad];have hb:Zej n A k (Vw c)=false:=by simp[Zej,ad]
 have:=hr h S (by simpa[Q5,hb] using OR) (fun b hb=>.inl hb) (Mod.refl h);rwa [hb] at this
def Zop(n:Nat)(A:Vk)(k:Nat)(c:Int):Prop:=k<n/\A k=some c/\∀j d,j<n->A j=some d->c<d\/(c=d/\k<=j)
def Zea(A:Vk)(k:Nat):Vk:=fun j=>if j=k then none else A j
def Zu4{row:Zd}{n:Nat}{G:Zd}(V:Qm row n G){m:Nat}(hm:row.length=m+1):Qm (row.take m) n (G.set (Xd row m) 0):=by
 have hk:=V.rv m (by omega);have J:Xd row m<G.length:=by rw[V.len];exact hk
 have O:(row.take m).length=m:=by simp;omega
 have R:∀i,i<m->Xd row i≠Xd row m:=fun i H h=>by have:=V.inj (i:=i) (j:=m) (by omega) (by omega) h;omega
 refine⟨by simp[V.len],?_,?_,?_⟩
 ·intro i H;rw[O] at H;rw[Zg3 H];exact V.rv i (by omega)
 ·intro i H;rw[O] at H;rw[Zg3 H,V0 J,if_neg (R i H)];exact V.rs i (by omega)
 intro k U h0;rw[V0 J] at h0 ⊢;by_cases I:k=Xd row m
 ·rw[if_pos I] at h0;exact absurd rfl h0
 rw[if_neg I] at h0 ⊢;obtain⟨q1,X⟩:=V.sv k U h0;have:Xd G k-1≠m:=fun e=>I (by rw[<-X,e]);rw[O];exact⟨by omega,by rw[Zg3 (by omega)];exact X⟩
def Z35{row:Zd}{cN:Zb}(O:Ord row cN){m:Nat}(R:row.length=m+1):Ztu ((Wc row 0 m).take m) cN 0:=by
 have I:((Wc row 0 m).take m).length=m:=by simp;omega
 have G:∀i,0<i->i<m->Xd ((Wc row 0 m).take m) i=Xd row i:=by
  intro i h0 J;rw[Zg3 J,Xm (by omega) (by omega)];rw[ifN,ifN]
 refine⟨?_,fun h=>absurd h (by omega)⟩;intro j h0 H hp;rw[I] at H;have:=Wz h0;rw[G j h0 H,G _ (by omega) (by omega)];exact O j h0 (by omega)
def Xa.cut{row:Zd}{cN:Zb}{G:Zd}{rs cs I:Sl}(O:Xa h p row cN G rs cs I){m:Nat}(J:m<=row.length):
  Xa (Vs h p 0 (Sl.v { rs with n:=m })) p (row.take m) cN G { rs with n:=m } cs I:=by
 have H:m<=rs.n:=by rw[O.rowN];exact J
 refine⟨?_,?_,?_,?_,O.cnl,O.snl,O.pc,O.ps,O.csn,O.pr,O.rc,O.rss⟩
 ·have:=O.cM.set (o:=0) (v:=(Sl.v { rs with n:=m }));simpa using this
 ·have:=O.row.take H;have e:(Za4 row).take (m * 1)=Za4 (row.take m):=by simp[Za4,List.map_take]
  rw[e] at this;exact this.cD (S:=fun b=>b=p) (Mod.set rfl) (fun R e=>O.pr R e.symm)
 ·exact O.cN.cD (S:=fun b=>b=p) (Mod.set rfl) (fun _ e=>O.pc e.symm)
 exact O.cQ.cD (S:=fun b=>b=p) (Mod.set rfl) (fun _ e=>O.ps e.symm)
def Zky(H:Y.cL 10 Y10)(Hd:Y.cL 22 Y22)(Ha:Y.cL 25 Y25)(Hs:Y.cL 21 Y21)
  (O:Q0 h p n A S) {R:Ze}
  (ak:(∀k,k<n->A k=none)->R (.tuple #[.int .i64 0,.int .i64 0,.bool false]) h)
  (hr:∀h' k c,Zop n A k c->Q0 h' p n (Zea A k) S->Mod S h h'->R (.tuple #[.int .i64 k,.int .i64 c,.bool true]) h') :
  Zu Y 10 [.pointer (some ⟨p,0,none⟩)] h R:=by
 obtain⟨row,cN,G,rs,cs,ss,O,V,hc,hO,ab,hn,hA,hS⟩:=O;refine .o H ?_;have e0:=O.rowN;have aA:row.length<=n:=by rw[ab];exact Zpi
 have al:Zhq n (Qx cN G)=Zhq n A:=Zkf (fun k hk=>by rw[hA k hk])
 cases hl:row.length with
 |zero =>
  have hz:rs.n=0:=by omega
  simp[Y10,Yw.wp,O.p0,hz];exact ak (Z1v (by rw[<-al,<-ab];exact hl))
 |succ m =>
  have am:¬((m:Int)+1=0):=by omega
  have w1:IntKind.i64.wrap (m:Int)=(m:Int):=Zn;have an:rs.n=m+1:=by omega
  have J:0<row.length:=by omega
  have q0:Rm.hc h rs.b rs.o=some (.int .i64 (Xd row 0:Int)):=by have:=O.rowAt (i:=0) J;simpa using this
  have U:=V.len;simp[Y10,Yw.wp,O.p0,an,am,w1,Zl O.row.ok,q0];refine Zis Hs O (i:=0) (j:=m) (fun i hi=>by rw[U];exact V.rv i hi) J (by omega) ?_;intro h1 O1 ao;have V1:=V.swap (i:=0) (j:=m) J (by omega);have ap:(Wc row 0 m).length=m+1:=by simpa using hl
  have ad:Xd (Wc row 0 m) m=Xd row 0:=by
   rw[Xm J (by omega)];simp
   try (intro h;rw[h])
  have O2:=O1.cut (m:=m) (by omega);have hk:=V.rv 0 J;generalize ae:Xd row 0=k at *
  have af:k<(Vr row G 0 m).length:=by simpa[U] using hk
  have O3:=O2.setSeat af 0;simp only[Int.natCast_zero] at O3;have aq:k<G.length:=by omega
  have V3:=Zu4 V1 ap;rw[ad] at V3;have ar:m<=rs.c:=by have:=O.row.ok.le;omega
  have ag:=O1.cM;have hfz:hfz h1 p 0=false:=ag.hfz;have e2:ss.n=G.length:=by have:=O2.seatsN;simpa using this
  have au:k<cN.length:=by omega
  simp[O1.p0,Z8 O1.row.ok,ar,Xl.open,hfz,O2.p2,Zl O2.cQ.ok,e2,aq,O2.seatF,O2.seatAt];have V3':Qm ((Wc row 0 m).take m) ((Vr row G 0 m).set k 0).length ((Vr row G 0 m).set k 0):=by
   have:((Vr row G 0 m).set k 0).length=n:=by simpa using U
   rw[this];exact V3
  refine Z13 Hd Ha Hs O3 V3' (by simp[U,hc]) (Z35 hO hl) (by simp;omega) ?_;intro h' ac I O' V' av Or' aw ax ay;have e3:=O'.costsN;simp[O'.p1,Zl O'.cN.ok,e3,au,O'.costAt];have ah:∀j,Xd (Vr row G 0 m) j=0↔Xd G j=0:=fun j=>Zqr V J (by omega) j;have X:∀j,Xd I j=0↔(j=k\/Xd G j=0):=by
   intro j;rw[ax j,V0 af]
   split
   ·rename_i h;simp[h]
   rename_i h;rw[ah j];simp[h]
  have ai:Xd G k≠0:=by have:=V.rs 0 J;rw[ae] at this;omega
  have aa:∀j,Qx cN I j=Zea (Qx cN G) k j:=by
   intro j;unfold Zea;by_cases hj:j=k
   ·subst hj;simp[Qx,(X j).2 (.inl rfl)]
   rw[if_neg hj];unfold Qx;by_cases hz:Xd G j=0
   ·rw[if_pos hz,if_pos ((X j).2 (.inr hz))]
   rw[if_neg hz,if_neg (fun h=>by rcases (X j).1 h with h|h<;>contradiction)]
  have aj:Qx cN G k=some (Zm cN k):=by simp[Qx,ai]
  refine hr h' k (Zm cN k) ⟨hk,by rw[hA k hk,aj],?_⟩ ⟨ac,cN,I,{ rs with n:=m },cs,ss,O',?_,hc,Or',?_,hn,?_,hS⟩ ?_
  ·intro j d hj hd;rw[hA j hj] at hd;unfold Qx at hd;by_cases hz:Xd G j=0
   ·rw[if_pos hz] at hd;cases hd
   rw[if_neg hz] at hd;cases hd;obtain⟨g1,g2⟩:=V.sv j hj hz;have:=hO.least _ g1;rw[g2,ae] at this;unfold klt at this;omega
  ·have:I.length=n:=by rw[av];simpa using U
   rw[<-this];exact V'
  ·have h2:=Zmj (A:=Qx cN I) (B:=Qx cN G) hk (fun j _ hj=>by rw[aa j];simp[Zea,hj]) (by rw[aa k];simp[Zea]) (by rw[aj];rfl);have h3:ac.length=m:=by rw[aw];simp;omega
   omega
  ·intro j hj;rw[aa j];unfold Zea
   split
   ·rfl
   exact hA j hj
  have hp:S p:=by rw[hS];exact .inl rfl
  have az:S ss.b:=by rw[hS];exact .inr (.inr (.inl rfl))
  have aB:S rs.b:=by rw[hS];exact .inr (.inr (.inr ⟨O.rnl J,rfl⟩))
  have g:∀i,(i=rs.b\/i=ss.b)->S i:=by rintro i (rfl|rfl)<;>assumption
  exact (((ao.mono fun i _ hi=>g i hi).trans (Mod.set hp)).trans (Mod.set az)).then ay (fun i _ hi=>g i hi)
def Xib(p n:Nat)(row:Zd)(cN:Zb)(cQ:Zd)(rs cs ss:Sl)(h0:Zk)(e:Zc)(h':Zk):Prop :=
 ∃(i:Nat)(seats':Zd)(v1 v5:Zj),e=[.pointer (some ⟨p,0,none⟩),v1,rs.v,.int .i64 row.length,.int .i64 i,v5]/\i<=row.length/\Xa h' p row cN seats' rs cs ss/\seats'.length=n /\
  (∀j,j<n->Xd seats' j=0\/(Xd seats' j=Xd cQ j/\i<Xd cQ j))/\Mod (fun b=>b=ss.b) h0 h'
def Zw0(H:Y.cL 12 Y12)(O:Q0 h p n A S){R:Ze}
  (hr:∀h',Q0 h' p n (fun _=>none) S->Mod S h h'->R (.tuple #[]) h') :
  Zu Y 12 [.pointer (some ⟨p,0,none⟩)] h R:=by
 obtain⟨row,cN,I,rs,cs,ss,O,V,hc,hO,ac,hn,hA,hS⟩:=O;refine .o H ?_;have e0:=O.rowN;have ah:row.length<=n:=by rw[ac];exact Zpi
 simp[Y12,Yw.wp,O.p0,e0];refine Zp (Xib p n row cN I rs cs ss h) (fun e _=>row.length-Zw e 4) ⟨0,I,_,_,rfl,by omega,O,V.len,?_,Mod.refl h⟩ ?_
 ·intro j _;omega
 rintro e h' ⟨i,G,v1,v5,rfl,hi,O1,ad,hz,hm⟩;by_cases J:i<row.length
 ·have hk:=V.rv i J;have U:Xd row i<G.length:=by omega
  have e2:=O1.seatsN;have O2:Xa _ p row cN (G.set (Xd row i) 0) rs cs ss:=O1.setSeat U 0;simp only[Int.natCast_zero] at O2;have w4:=wrapS (i:=i);simp[J,Zl O.row.ok,Zl O1.cQ.ok,e0,O1.rowAt,O1.p2,e2,U,O1.seatF,O1.seatAt,Xl.open,w4];refine nx ⟨i+1,_,.int .i64 (Xd row i:Int),.bool true,by simp,by omega,O2,by simp[ad],?_,hm.trans (Mod.set rfl)⟩;intro j X;rw[V0 U];by_cases aa:j=Xd row i
  ·rw[if_pos aa];exact .inl rfl
  rw[if_neg aa];rcases hz j X with g|⟨g1,g2⟩
  ·exact .inl g
  refine .inr ⟨g1,?_⟩;have:=V.sv j X (by omega);have:Xd I j≠i+1:=fun e=>aa (by rw[<-this.2,e];rfl);omega
 have ag:¬((i:Int)<row.length):=by omega
 have O2:=O1.cut (m:=0) (by omega);have hfz:hfz h' p 0=false:=O1.cM.hfz;simp[J,O1.p0,Z8 O1.row.ok,Xl.open,hfz];have ab:∀j,j<n->Xd G j=0:=by
  intro j X;rcases hz j X with g|⟨g1,g2⟩
  ·exact g
  have:=V.sv j X (by omega);omega
 have ae:Zhq n (Qx cN G)=0:=by
  unfold Zhq;rw[List.countP_eq_zero];intro k hk;simp[Qx,ab k (List.mem_range.1 hk)]
 refine hr _ ⟨[],cN,G,{ rs with n:=0 },cs,ss,by simpa using O2,⟨ad,?_,?_,?_⟩,hc,?_,?_,hn,?_,hS⟩ ?_
 ·intro i hi;cases hi
 ·intro i hi;cases hi
 ·intro k hk h0;exact absurd (ab k hk) h0
 ·intro j _ X;cases X
 ·rw[ae];rfl
 ·intro k hk;simp[Qx,ab k hk]
 have hp:S p:=by rw[hS];exact .inl rfl
 have af:S ss.b:=by rw[hS];exact .inr (.inr (.inl rfl))
 exact (hm.mono (fun i _ hi=>by rw[hi];exact af)).trans (Mod.set hp)
def Zsd{a:Option Addr}{n c:Nat}:(Value.slice a n c).cells=#[.slice a n c]:=rfl
def Z1c{c:Array cR}:(Value.agg c).cells=c:=rfl
def Yo.of_new{b:Nat}{h:Zk}{c:Array cR}{t:TypeId}(hb:b=h.size:=by simp):Yo (h.push (.cells c t)) b c:=hb ▸ Yo.new
def Zjf(k:Int):Nat:=if k<0 then 0 else if 16384<k then 16384 else k.toNat
def Zms(H:Y.cL 6 Y6){k:Int}{R:Ze}
  (hr:∀h' p S,Q0 h' p (Zjf k) (fun _=>none) S->(∀b,S b->h.size<=b)->Ext h h'->R (.pointer (some ⟨p,0,none⟩)) h') :
  Zu Y 6 [.int .i64 k] h R:=by
 refine .o H ?_;have hN:(if 16384<if k<0 then 0 else k then 16384 else if k<0 then 0 else k)=((Zjf k:Nat):Int):=by
  unfold Zjf
  split<;>split<;>(try split)<;>omega
 have O:Zjf k<=16384:=by unfold Zjf;split<;>(try split)<;>omega
 generalize aa:Zjf k=N at *
 have J:∀(h':Zk)(G I p:Nat),Yo h' G (Array.replicate N (.int .i64 0))->Yo h' I (Array.replicate N (.int .i64 0))->Yo h' p #[Sl.nil.v,(Sl.at G N N).v,(Sl.at I N N).v] ->
   h.size<=G->h.size<=I->h.size<=p->G≠I->p≠G->p≠I->Ext h h'->R (.pointer (some ⟨p,0,none⟩)) h':=by
  intro h' G I p B1 B2 B3 g1 g2 g3 g4 g5 g6 he;have U:∀j,Xd (List.replicate N 0) j=0:=by intro j;simp[Xd,List.getElem?_replicate];split<;>rfl
  refine hr h' p (fpO p Sl.nil (Sl.at G N N) (Sl.at I N N)) ⟨[],List.replicate N 0,List.replicate N 0,Sl.nil,Sl.at G N N,Sl.at I N N,⟨B3,?_,?_,?_,rfl,rfl,g5,g6,g4,?_,?_,?_⟩,⟨by simp,?_,?_,?_⟩,by simp,?_,?_,O,?_,fun b=>Iff.rfl⟩ ?_ he
  ·exact Yi.nil
  ·refine⟨by simp,.inr ⟨rfl,rfl,rfl,Xit _,by simp;omega,_,B1,by simp,by simp[Zh5]⟩⟩
  ·refine⟨by simp,.inr ⟨rfl,rfl,rfl,Xit _,by simp;omega,_,B2,by simp,by simp[Za4]⟩⟩
  ·intro h;cases h
  ·intro h;cases h
  ·intro h;cases h
  ·intro i X;cases X
  ·intro i X;cases X
  ·intro k hk h0;exact absurd (U k) h0
  ·intro j _ hj;cases hj
  ·symm;unfold Zhq;simp only[Xk5];rw[List.countP_eq_zero];intro k hk;simp[Qx,U]
  ·intro k hk;simp[Qx,U]
  rintro b (rfl|rfl|rfl|⟨h,_⟩)
  ·exact g3
  ·exact g1
  ·exact g2
  cases h
 have b1:(N:Int)<=9223372036854775807:=by omega
 have b2:8 * (N:Int)<=281474976710656:=by omega
 simp[Y6,Yw.wp,hN,Wy,Xc6,Vi,Ym.cK,Instr.fill,Zsd,Z1c,b1,b2];refine⟨fun t1 t2 t3=>?_,fun t1 t2 t3=>?_⟩
 ·exact J _ h.size (h.size+1) (h.size+1+1) ((Yo.new.push).push) ((Yo.of_new).push) (Yo.of_new) (by omega) (by omega) (by omega) (by omega) (by omega) (by omega) ((Mod.push.trans Mod.push).trans Mod.push)
 exact J _ (h.size+1) h.size (h.size+1+1) ((Yo.of_new).push) ((Yo.new.push).push) (Yo.of_new) (by omega) (by omega) (by omega) (by omega) (by omega) (by omega) ((Mod.push.trans Mod.push).trans Mod.push)
end
inductive Yu(I:Nat->Int->Prop)(E:Nat->Nat->Int->Prop):Nat->Int->Prop
 |init {b:Nat} {c:Int}:I b c->Yu I E b c
 |step {a b:Nat} {c w:Int}:Yu I E a c->E a b w->Yu I E b (c+w)
structure Uk(I:Nat->Int->Prop)(E:Nat->Nat->Int->Prop)(b:Nat)(d:Int):Prop where
 le:d<=1152921504606846976
 all:∀c,Yu I E b c->d<=c
 is:d=1152921504606846976\/Yu I E b d
def RxW(ord:Zd)(cost:Nat->Int)(A:Vk)(b:Nat)(x:Int):Prop:=(b∈ord/\cost b<=x)\/∃c,A b=some c/\c<=x
def Uh(f:Nat->Int)(k:Nat)(x:Int):Nat->Int:=fun j=>if j=k then x else f j
section
variable{n:Nat}{I:Nat->Int->Prop}{E:Nat->Nat->Int->Prop}{ord:Zd}{cost:Nat->Int}{A:Vk}{pI pI':Zf}{pE pE':Nat->Zf}
def Zat{l:Zd}:∀{n:Nat},l.Nodup->(∀a,a∈l->a<n)->l.length<=n:=by
 intro n
 induction n generalizing l with
 |zero =>
  intro _ lt
  cases l with
  |nil=>simp
  |cons x r=>exact absurd (lt x (by simp)) (by omega)
 |succ n H =>
  intro G lt;have h1:=H (l:=l.erase n) (G.erase n) (fun a J=>by
   have O:=(G.mem_erase_iff).1 J;have:=lt a O.2;omega)
  have R:l.length<=(l.erase n).length+1:=by
   rw[List.length_erase]
   split<;>omega
  omega
end
structure Zgh(n:Nat)(I:Nat->Int->Prop)(E:Nat->Nat->Int->Prop):Prop where
 i0:∀b c,I b c->b<n/\0<=c
 e0:∀a b w,E a b w->b<n/\0<=w
structure Zam(n:Nat)(I:Nat->Int->Prop)(E:Nat->Nat->Int->Prop)(ord:Zd)(cost:Nat->Int)(A:Vk)(pI:Zf)(pE:Nat->Nat->Int->Prop):Prop where
 nd:ord.Nodup
 lt:∀a,a∈ord->a<n
 off:∀a,a∈ord->A a=none
 wS:∀a,a∈ord->cost a=1152921504606846976\/Yu I E a (cost a)
 wA:∀b c,b<n->A b=some c->c=1152921504606846976\/Yu I E b c
 bS:∀a,a∈ord->0<=cost a/\cost a<=1152921504606846976
 bA:∀b c,b<n->A b=some c->0<=c/\c<=1152921504606846976
 le:∀a,a∈ord->∀b c,b<n->A b=some c->cost a<=c
 st:∀b c,I b c->pI b\/1152921504606846976<=c\/RxW ord cost A b c
 rx:∀a,a∈ord->∀b w,E a b w->pE a b w\/1152921504606846976<=cost a+w\/RxW ord cost A b (cost a+w)
section
variable{n:Nat}{I:Nat->Int->Prop}{E:Nat->Nat->Int->Prop}{ord:Zd}{cost:Nat->Int}{A:Vk}{pI pI':Zf}{pE pE':Nat->Nat->Int->Prop}
def Zam.start(G:∀b c,I b c->pI b):Zam n I E [] cost (fun _=>none) pI pE :=
 ⟨Xl6,fun a h=>by simp at h,fun a h=>by simp at h,fun a h=>by simp at h,fun b c _ h=>by simp at h,fun a h=>by simp at h,fun b c _ h=>by simp at h,fun a h=>by simp at h,fun b c h=>.inl (G b c h),fun a h=>by simp at h⟩
def Zam.less(d:Zam n I E ord cost A pI pE)(H:∀b c,I b c->pI b->pI' b\/1152921504606846976<=c\/RxW ord cost A b c)(J:∀a,a∈ord->∀b w,E a b w->pE a b w->pE' a b w\/1152921504606846976<=cost a+w\/RxW ord cost A b (cost a+w)):Zam n I E ord cost A pI' pE' :=
 ⟨d.nd,d.lt,d.off,d.wS,d.wA,d.bS,d.bA,d.le,fun b c h=>(d.st b c h).elim (H b c h) .inr,fun a G b w h=>(d.rx a G b w h).elim (J a G b w h) .inr⟩
def Zam.pop(d:Zam n I E ord cost A (fun _=>False) (fun _ _ _=>False)){k:Nat}{c:Int}(m:Zop n A k c):
  k ∉ ord/\Zam n I E (ord++[k]) (Uh cost k c) (Zea A k) (fun _=>False) (fun a _ _=>a=k)/\(∀a,a∈ord++[k]->Uh cost k c a<=c)/\(0<=c/\c<=1152921504606846976)/\(∀b x,b<n->Zea A k b=some x->c<=x):=by
 obtain⟨hk,R,U⟩:=m;have hn:k ∉ ord:=fun h=>by rw[d.off k h] at R;cases R
 have hc:∀a,a∈ord->Uh cost k c a=cost a:=fun a H=>by
  unfold Uh;rw[if_neg (fun e=>hn (by rw[<-e];exact H))]
 have O:Uh cost k c k=c:=by simp[Uh]
 have ba:=d.bA k c hk R;have G:∀a,a∈ord++[k]->a∈ord\/a=k:=fun a H=>by simpa using H
 have J:∀b x,Zea A k b=some x->b≠k/\A b=some x:=fun b x h=>by
  unfold Zea at h;by_cases e:b=k
  ·rw[if_pos e] at h;cases h
  rw[if_neg e] at h;exact⟨e,h⟩
 have X:∀b x,b<n->A b=some x->c<=x:=fun b x hb h=>by
  rcases U b x hb h with h|h<;>omega
 have rx:∀b x,RxW ord cost A b x->RxW (ord++[k]) (Uh cost k c) (Zea A k) b x:=by
  rintro b x (⟨h1,h2⟩|⟨y,h1,h2⟩)
  ·exact .inl ⟨by simp[h1],by rw[hc b h1];exact h2⟩
  by_cases e:b=k
  ·subst e;rw[R] at h1
   cases h1
   exact .inl ⟨by simp,by rw[O];exact h2⟩
  exact .inr ⟨y,by unfold Zea;rw[if_neg e];exact h1,h2⟩
 have aa:∀a,a∈ord++[k]->Uh cost k c a<=c:=fun a H=>by
  rcases G a H with h|h
  ·rw[hc a h];exact d.le a h k c hk R
  subst h;rw[O];exact Xka _
 refine⟨hn,⟨?_,?_,?_,?_,?_,?_,?_,?_,?_,?_⟩,aa,?_,?_⟩
 ·rw[Xl0];exact⟨d.nd,by simp,fun a H b hb=>by simp at hb;subst hb;exact fun e=>hn (by rw[<-e];exact H)⟩
 ·intro a H;rcases G a H with h|h
  ·exact d.lt a h
  omega
 ·intro a H;unfold Zea;rcases G a H with h|h
  ·split
   ·rfl
   exact d.off a h
  rw[if_pos h]
 ·intro a H;rcases G a H with h|h
  ·rw[hc a h];exact d.wS a h
  subst h;rw[O];exact d.wA a c hk R
 ·intro b x hb h;exact d.wA b x hb (J b x h).2
 ·intro a H;rcases G a H with h|h
  ·rw[hc a h];exact d.bS a h
  subst h;rw[O];exact ba
 ·intro b x hb h;exact d.bA b x hb (J b x h).2
 ·intro a H b x hb h;have h1:=aa a H;have h2:=X b x hb (J b x h).2;omega
 ·intro b x h;exact .inr (((d.st b x h).resolve_left id).imp id (rx b x))
 ·intro a H b w h;rcases G a H with h1|h1
  ·right;rw[hc a h1];exact ((d.rx a h1 b w h).resolve_left id).imp id (rx b _)
  exact .inl h1
 ·exact ba
 intro b x hb h;exact X b x hb (J b x h).2
def Zam.put(d:Zam n I E ord cost A pI pE){b:Nat}{x:Int}(hb:b<n)(X:b ∉ ord)(hw:x=1152921504606846976\/Yu I E b x)(hx:0<=x/\x<=1152921504606846976)(O:∀a,a∈ord->cost a<=x):
  Zam n I E ord cost (Q5 n A b x) pI pE/\RxW ord cost (Q5 n A b x) b x:=by
 have key:Zpp n b=true:=by simp[Zpp];omega
 have e:(b:Int).toNat=b:=by simp
 by_cases hp:Zej n A b x=true
 ·have G:Q5 n A b x=fun j=>if j=b then some x else A j:=by unfold Q5;rw[if_pos hp,e]
  have U:∀y z,RxW ord cost A y z->RxW ord cost (Q5 n A b x) y z:=by
   rintro y z (h|⟨u,h1,h2⟩)
   ·exact .inl h
   right;rw[G];by_cases H:y=b
   ·subst H;refine⟨x,by simp,?_⟩;unfold Zej at hp;rw[key,e,h1] at hp;simp at hp;omega
   exact⟨u,by simp[H];exact h1,h2⟩
  refine⟨⟨d.nd,d.lt,?_,d.wS,?_,d.bS,?_,?_,fun y z h=>(d.st y z h).imp id (.imp id (U y z)),fun a J y w h=>(d.rx a J y w h).imp id (.imp id (U y _))⟩,.inr ⟨x,by rw[G];simp,Xka _⟩⟩
  ·intro a J;rw[G];have:a≠b:=fun e=>X (e ▸ J);simp[this];exact d.off a J
  ·intro y c hy h;rw[G] at h;by_cases H:y=b
   ·simp[H] at h;subst h H;exact hw
   simp[H] at h;exact d.wA y c hy h
  ·intro y c hy h;rw[G] at h;by_cases H:y=b
   ·simp[H] at h;subst h;exact hx
   simp[H] at h;exact d.bA y c hy h
  intro a J y c hy h;rw[G] at h;by_cases H:y=b
  ·simp[H] at h;subst h;exact O a J
  simp[H] at h;exact d.le a J y c hy h
 have G:Q5 n A b x=A:=by unfold Q5;rw[if_neg hp]
 rw[G];refine⟨d,?_⟩;unfold Zej at hp;rw[key,e] at hp
 cases R:A b with
 |none=>rw[R] at hp;simp at hp
 |some u =>
  rw[R] at hp;simp at hp;exact .inr ⟨u,R,by omega⟩
def Zam.walk(C:Zgh n I E)(d:Zam n I E ord cost A (fun _=>False) (fun _ _ _=>False)){b:Nat}{c:Int}(w:Yu I E b c):1152921504606846976<=c\/(b∈ord/\cost b<=c)\/∃k x,k<n/\A k=some x/\x<=c:=by
 have G:∀b c,b<n->RxW ord cost A b c->(b∈ord/\cost b<=c)\/∃k x,k<n/\A k=some x/\x<=c:=fun b c hb h=>h.elim .inl (fun ⟨x,h1,H⟩=>.inr ⟨b,x,hb,h1,H⟩)
 induction w with
 |init h=>exact ((d.st _ _ h).resolve_left id).imp id (G _ _ (C.i0 _ _ h).1)
 |step w h O =>
  have R:=C.e0 _ _ _ h;rcases O with h0|⟨h1,H⟩|⟨k,x,h1,H,X⟩
  ·exact .inl (by omega)
  ·rcases (d.rx _ h1 _ _ h).resolve_left id with g|g
   ·exact .inl (by omega)
   rcases G _ _ R.1 g with⟨J,g2⟩|⟨k,x,U,J,g2⟩
   ·exact .inr (.inl ⟨J,by omega⟩)
   exact .inr (.inr ⟨k,x,U,J,by omega⟩)
  exact .inr (.inr ⟨k,x,h1,H,by omega⟩)
def Zam.popped(C:Zgh n I E)(d:Zam n I E ord cost A (fun _=>False) (fun _ _ _=>False)){k:Nat}{c:Int}(m:Zop n A k c):Uk I E k c:=by
 obtain⟨J,H,G⟩:=m;refine⟨(d.bA k c J H).2,fun c' w=>?_,d.wA k c J H⟩;have:=(d.bA k c J H).2;rcases d.walk C w with h|⟨h1,_⟩|⟨j,x,h1,O,R⟩
 ·omega
 ·have:=d.off k h1;rw[H] at this;cases this
 rcases G j x h1 O with h|h<;>omega
def Zam.least(C:Zgh n I E)(d:Zam n I E ord cost A (fun _=>False) (fun _ _ _=>False))(h0:∀k,k<n->A k=none){b:Nat}(hb:b<n):Uk I E b (if b∈ord then cost b else 1152921504606846976):=by
 have G:∀c,Yu I E b c->1152921504606846976<=c\/b∈ord/\cost b<=c:=fun c w=>by
  rcases d.walk C w with h|h|⟨k,x,h1,H,_⟩
  ·exact .inl h
  ·exact .inr h
  rw[h0 k h1] at H;cases H
 by_cases h:b∈ord
 ·rw[if_pos h];have:=(d.bS b h).2;exact⟨this,fun c w=>(G c w).elim (fun g=>by omega) And.right,d.wS b h⟩
 rw[if_neg h];exact⟨Xka _,fun c w=>(G c w).elim id (fun g=>absurd g.1 h),.inl rfl⟩
end
def Z1e:∀{cs:Zb}{k p:Nat},Vz k cs=none->p<cs.length->Yx (Zm cs p)=true:=by
 intro cs
 induction cs with
 |nil=>intro k p _ hp;simp at hp
 |cons x r G =>
  intro k p h hp;rw[Vz] at h
  split at h
  ·rename_i hx
   cases p with
   |zero=>simpa[Zm] using hx
   |succ p =>
    have:=G h (by simpa using hp);simpa[Zm] using this
  cases h
def Zxm{ins cP:Int}{cs:Zb}(h:(Qp ins cP cs).2=0):∀j,j<cs.length->Yx (Zm cs j)=true:=by
 unfold Qp at h
 split at h
 ·rename_i c;exact absurd h c
 split at h
 ·cases h
 ·split at h
  ·simp[Ug] at h
  rename_i hb;exact fun j G=>Z1e hb G
def Zhe{c:Int}(h:Yx c=true):c=1152921504606846976\/(0<=c/\c<=2147483648):=by
 unfold Yx at h;simp at h;omega
def Zzs{ins cP i k:Int}{cs:Zb}(h:(Qp ins cP cs).2=0):atV ins cP cs i k=1152921504606846976\/(0<=atV ins cP cs i k/\atV ins cP cs i k<=2147483648):=by
 unfold atV
 split
 ·exact .inl rfl
 split
 ·rename_i c1 G;have h0:0<=i * cP:=Xjl (by omega) (by omega);exact Zhe (Zxm h _ (by omega))
 exact .inl rfl
def Xu{N:Zs}(ok:Yn N){a b:Int}:Yp N a b=1152921504606846976\/(0<=Yp N a b/\Yp N a b<=2147483648):=by
 unfold Yp
 split
 ·exact .inl rfl
 unfold Zjq;simp only
 split
 ·exact .inl rfl
 split
 ·exact .inl rfl
 rename_i c;have:Yl N.ts.length (Zq N.vs (Zq N.as a.toNat).b.toNat).c=true:=by simpa using c
 simp[Yl] at this;exact Zzs (ok.tab _ (by omega))
def Xy{N:Zs}(ok:Yn N){a:Int}:Zt N a=1152921504606846976\/(0<=Zt N a/\Zt N a<=2147483648):=by
 unfold Zt
 split
 ·rename_i c;simp[Yl] at c;exact Zhe (ok.w _ (by omega))
 exact .inl rfl
def Zlp{N:Zs}{a b:Int}(h:Yp N a b≠1152921504606846976):Yl N.as.length a=true/\Yl N.as.length b=true/\(Zq N.as a.toNat).b=(Zq N.as b.toNat).a/\Yl N.vs.length (Zq N.as a.toNat).b=true:=by
 unfold Yp at h
 split at h
 ·exact absurd rfl h
 rename_i c;unfold Zjq at h;simp only at h
 split at h
 ·exact absurd rfl h
 rename_i d;refine⟨?_,?_,?_,?_⟩
 ·cases e:Yl N.as.length a with
  |true=>rfl
  |false=>exact absurd (.inl e) c
 ·cases e:Yl N.as.length b with
  |true=>rfl
  |false=>exact absurd (.inr e) c
 ·exact Xj1 fun e=>d (.inl e)
 cases e:Yl N.vs.length (Zq N.as a.toNat).b with
 |true=>rfl
 |false=>exact absurd (.inr e) d
def EdW(N:Zs)(a b:Nat)(w:Int):Prop:=Yp N a b≠1152921504606846976/\Zt N b≠1152921504606846976/\w=Yp N a b+Zt N b
def U8(N:Zs)(s:Int)(b:Nat)(c:Int):Prop:=(b:Int)=s/\c=0/\Zt N s≠1152921504606846976
def Uc{N:Zs}{a:Int}(h:Zt N a≠1152921504606846976):∃k:Nat,a=k/\k<N.as.length:=by
 unfold Zt at h
 split at h
 ·rename_i c;simp[Yl] at c;exact⟨a.toNat,by omega,by omega⟩
 exact absurd rfl h
def Z5a{p:Yq->Bool}{a:Int}:∀{l:List Yq}{k:Nat},a∈Us p k l↔∃i,i<l.length/\a=((k+i:Nat):Int)/\p (Zq l i)=true:=by
 intro l
 induction l with
 |nil=>intro k;simp[Us]
 |cons t r H =>
  intro k;have e:Us p k (t::r)=(if p t then [(k:Int)] else [])++Us p (k+1) r:=by simp only[Us];split<;>simp_all
  rw[e,Xmh,H];constructor
  ·rintro (h|⟨i,h1,I,G⟩)
   ·split at h
    ·rename_i c;simp at h;exact⟨0,by simp,by omega,by simpa[Zq] using c⟩
    simp at h
   exact⟨i+1,by simpa using h1,by omega,by simpa[Zq] using G⟩
  rintro⟨i,h1,I,G⟩
  cases i with
  |zero =>
   left;have:p t=true:=by simpa[Zq] using G
   simp[this];omega
  |succ i=>exact .inr ⟨i,by simpa using h1,by omega,by simpa[Zq] using G⟩
def Zrs{as:List Yq}{v a:Int}:a∈Za0 as v↔∃i:Nat,i<as.length/\a=i/\(Zq as i).a=v:=by
 unfold Za0;rw[Z5a];simp
def Z96{N:Zs}{a b:Nat}(h:Yp N a b≠1152921504606846976):Yl N.vs.length (Zq N.as a).b=true/\(b:Int)∈Za0 N.as (Zq N.as a).b:=by
 obtain⟨h1,G,H,h4⟩:=Zlp h;simp[Yl] at G;refine⟨by simpa using h4,Zrs.2 ⟨b,by omega,rfl,?_⟩⟩;simpa using H.symm
abbrev Xo:Int:=1152921504606846976
def Qc(N:Zs)(a:Nat):Nat:=(Zq N.as a).a.toNat
def Yt(N:Zs)(a:Nat):Nat:=(Zq N.as a).b.toNat
def AtI(s:Nat)(b:Nat)(c:Int):Prop:=b=s/\c=0
def EdC(N:Zs)(ce:Nat->Int)(k:Int)(a b:Nat)(w:Int):Prop:=EdW N a b w/\ce (Qc N b)=k/\ce (Yt N b)=k
def Zf2(N:Zs)(ce:Nat->Int)(k:Int)(i o:Nat)(x:Int):Prop:=∃a y,Yu (AtI i) (EdC N ce k) a y/\Yp N a o≠Xo/\x=y+Yp N a o
structure U3(P:Int->Prop)(d:Int):Prop where
 le:d<=Xo
 all:∀x,P x->d<=x
 is:d=Xo\/P d
def Yu.then{I:Nat->Int->Prop}{E E':Nat->Nat->Int->Prop}{a b:Nat}{y z:Int}(h:Yu I E a y)(k:Yu (AtI a) E' b z)(le:∀a b w,E' a b w->E a b w):Yu I E b (y+z):=by
 induction k with
 |init h'=>obtain⟨rfl,rfl⟩:=h';simpa using h
 |step _ e G=>rw[<-Int.add_assoc];exact .step G (le _ _ _ e)
def Zhh{N:Zs}{ce:Nat->Int}{k:Int}{i a:Nat}{y:Int}(w:Yu (AtI i) (EdC N ce k) a y)(G:ce (Yt N i)=k):ce (Yt N a)=k:=by
 cases w with
 |init h=>obtain⟨rfl,_⟩:=h;exact G
 |step _ e=>exact e.2.2
def Zag{N:Zs}{a b:Nat}(h:Yp N a b≠Xo):Yt N a=Qc N b:=by
 have:=(Zlp h).2.2.1;simp at this;unfold Yt Qc;rw[this]
def Zv9(N:Zs)(ce f:Nat->Int)(k:Int)(ent:Nat->Nat->Int)(a b:Nat)(w:Int):Prop :=
 f (Qc N b)=f (Yt N a)/\f (Yt N b)≠f (Yt N a)/\ce (Qc N b)=k/\ce (Yt N b)=k/\ent a b≠Xo/\Zt N b≠Xo/\w=ent a b+Zt N b
def Xfy(N:Zs)(f:Nat->Int)(ent:Nat->Nat->Int)(a o:Nat)(w:Int):Prop:=f (Qc N o)=f (Yt N a)/\f (Yt N o)≠f (Yt N a)/\ent a o≠Xo/\w=ent a o
def Ztc(N:Zs)(ce f:Nat->Int)(k:Int)(ent:Nat->Nat->Int)(i o:Nat)(x:Int):Prop:=∃a y w,Yu (AtI i) (Zv9 N ce f k ent) a y/\Xfy N f ent a o w/\x=y+w
def Zjm(f ce:Nat->Int):Prop:=∀u v,f u=f v->ce u=ce v
def InK(N:Zs)(f:Nat->Int)(a:Nat):Prop:=f (Qc N a)≠f (Yt N a)
def Zf5(N:Zs)(f:Nat->Int)(ent:Nat->Nat->Int):Prop:=∀a b,InK N f a->f (Qc N b)=f (Yt N a)->f (Yt N b)≠f (Yt N a)->U3 (Zf2 N f (f (Yt N a)) a b) (ent a b)
section
variable{N:Zs}{ce f:Nat->Int}{k:Int}{ent:Nat->Nat->Int}{i o:Nat}
def Zpt{a:Nat}{y:Int}(w:Yu (AtI i) (Zv9 N ce f k ent) a y)(G:InK N f i)(hc:ce (Yt N i)=k):InK N f a/\ce (Yt N a)=k:=by
 induction w with
 |init h=>obtain⟨rfl,_⟩:=h;exact⟨G,hc⟩
 |step _ e _=>exact⟨fun h=>e.2.1 (by rw[<-e.1];exact h.symm),e.2.2.2.1⟩
def Z0c(hb:Zjm f ce)(H:Zf5 N f ent)(I:InK N f i)(hc:ce (Yt N i)=k){a:Nat}{y:Int}(w:Yu (AtI i) (Zv9 N ce f k ent) a y):Yu (AtI i) (EdC N ce k) a y:=by
 induction w with
 |init h=>exact .init h
 |@step a b c w w0 e J =>
  obtain⟨O,e2,e3,R,U,X,e7⟩:=e;obtain⟨ha,G⟩:=Zpt w0 I hc;obtain⟨x,z,g1,g2,g3⟩:=((H a b ha O e2).is).resolve_left U;have g:∀p q u,EdC N f (f (Yt N a)) p q u->EdC N ce k p q u:=fun p q u h=>⟨h.1,by rw[<-G];exact hb _ _ h.2.1,by rw[<-G];exact hb _ _ h.2.2⟩
  have:=Yu.step (J.then g1 g) (show EdC N ce k x b (Yp N x b+Zt N b) from ⟨⟨g2,X,rfl⟩,e3,R⟩);rw[e7,g3];rw[show c+(z+Yp N x b+Zt N b)=c+z+(Yp N x b+Zt N b) by omega];exact this
def Zyn(ok:Yn N){a b:Nat}{w:Int}(e:EdC N ce k a b w):0<=w:=by
 obtain⟨⟨G,H,rfl⟩,_⟩:=e;have h1:=Xu ok (a:=a) (b:=b);have I:=Xy ok (a:=b);omega
def Za5(ok:Yn N){a:Nat}{y:Int}(w:Yu (AtI i) (EdC N ce k) a y):0<=y:=by
 induction w with
 |init h=>obtain⟨_,rfl⟩:=h;omega
 |step _ e G=>have:=Zyn ok e;omega
def Zpu(hb:Zjm f ce)(he:Zf5 N f ent)(ok:Yn N)(hi:InK N f i)(hc:ce (Yt N i)=k){a:Nat}{y:Int}(w:Yu (AtI i) (EdC N ce k) a y):
  Xo<=y\/∃p H I,Yu (AtI i) (Zv9 N ce f k ent) p H/\Yu (AtI p) (EdC N f (f (Yt N p))) a I/\0<=H/\H+I<=y:=by
 induction w with
 |@init b c h =>
  obtain⟨rfl,rfl⟩:=h;exact .inr ⟨b,0,0,.init ⟨rfl,rfl⟩,.init ⟨rfl,rfl⟩,by omega,by omega⟩
 |@step a b c w w0 e U =>
  have hw:=Zyn ok e;rcases U with U|⟨p,H,I,J,g2,g0,g3⟩
  ·exact .inl (by omega)
  obtain⟨⟨O,X,t3⟩,e2,e3⟩:=e;obtain⟨hp,aa⟩:=Zpt J hi hc;have R:=Zhh g2 rfl;have G:f (Qc N b)=f (Yt N p):=by rw[<-Zag O];exact R
  by_cases q:f (Yt N b)=f (Yt N p)
  ·exact .inr ⟨p,H,I+w,J,.step g2 ⟨⟨O,X,t3⟩,G,q⟩,g0,by omega⟩
  have hl:=he p b hp G q;have ab:=hl.all (I+Yp N a b) ⟨a,I,g2,O,rfl⟩;have ac:=Xy ok (a:=b);by_cases z:ent p b=Xo
  ·exact .inl (by have:=Za5 ok g2;omega)
  have ad:0<=ent p b:=by
   obtain⟨x,u,q1,q2,q3⟩:=hl.is.resolve_left z;have:=Za5 ok q1;have:=Xu ok (a:=x) (b:=b);omega
  exact .inr ⟨b,H+(ent p b+Zt N b),0,.step J ⟨G,q,e2,e3,z,X,rfl⟩,.init ⟨rfl,rfl⟩,by omega,by omega⟩
def Zuj(hb:Zjm f ce)(X:Zf5 N f ent)(ok:Yn N)(hi:InK N f i)(hc:ce (Yt N i)=k)(ho:ce (Qc N o)=k)(aa:ce (Yt N o)≠k){d:Int}:
  U3 (Ztc N ce f k ent i o) d↔U3 (Zf2 N ce k i o) d:=by
 have H:∀x,Ztc N ce f k ent i o x->Zf2 N ce k i o x:=by
  rintro x ⟨a,y,w,O,⟨g2,g3,g4,g5⟩,rfl⟩;obtain⟨ha,R⟩:=Zpt O hi hc;obtain⟨p,z,q1,q2,q3⟩:=(X a o ha g2 g3).is.resolve_left g4;have g:∀p q u,EdC N f (f (Yt N a)) p q u->EdC N ce k p q u:=fun p q u h=>⟨h.1,by rw[<-R];exact hb _ _ h.2.1,by rw[<-R];exact hb _ _ h.2.2⟩
  exact⟨p,y+z,(Z0c hb X hi hc O).then q1 g,q2,by rw[g5,q3];omega⟩
 have G:∀x,Zf2 N ce k i o x->Xo<=x\/∃I,I<=x/\Ztc N ce f k ent i o I:=by
  rintro x ⟨a,y,O,g2,rfl⟩;have ht:=Xu ok (a:=a) (b:=o);rcases Zpu hb X ok hi hc O with h|⟨p,y1,y2,h1,h2,h0,h3⟩
  ·exact .inl (by omega)
  obtain⟨hp,ab⟩:=Zpt h1 hi hc;have ac:=Zhh h2 rfl;have U:f (Qc N o)=f (Yt N p):=by rw[<-Zag g2];exact ac
  have J:f (Yt N o)≠f (Yt N p):=fun e=>aa (by rw[hb _ _ e];exact ab);have ad:=(X p o hp U J).all (y2+Yp N a o) ⟨a,y2,h2,g2,rfl⟩;by_cases z:ent p o=Xo
  ·exact .inl (by omega)
  exact .inr ⟨y1+ent p o,by omega,p,y1,ent p o,h1,⟨U,J,z,rfl⟩,rfl⟩
 constructor
 ·intro h;refine⟨h.le,fun x hx=>?_,h.is.imp id (H d)⟩;rcases G x hx with g|⟨I,O,g2⟩
  ·have:=h.le;omega
  have:=h.all I g2;omega
 intro h;refine⟨h.le,fun x hx=>h.all x (H x hx),?_⟩;rcases h.is with g|g
 ·exact .inl g
 rcases G d g with O|⟨I,O,g2⟩
 ·exact .inl (by have:=h.le;omega)
 have:=h.all I (H I g2);have e:I=d:=by omega
 exact .inr (e ▸ g2)
end
def Ue(ce:Nat->Nat->Int)(v a b:Nat):Nat->Nat
 |0=>0
 |k+1=>if ce (k+1) v≠ce (k+1) a/\ce (k+1) v≠ce (k+1) b then k+1 else Ue ce v a b k
def Zj8{ce:Nat->Nat->Int}{v a b:Nat}:∀{n:Nat},Ue ce v a b n<=n:=by
 intro n
 induction n with
 |zero=>exact Xit _
 |succ n G =>
  unfold Ue
  split
  ·exact Xit _
  omega
def Zj4{ce:Nat->Nat->Int}{v a b:Nat}:∀{n:Nat},Ue ce v a b n≠0->ce (Ue ce v a b n) v≠ce (Ue ce v a b n) a/\ce (Ue ce v a b n) v≠ce (Ue ce v a b n) b:=by
 intro n
 induction n with
 |zero=>intro h;exact absurd rfl h
 |succ n G =>
  intro h;unfold Ue at h ⊢
  split
  ·assumption
  rename_i c;rw[if_neg c] at h;exact G h
def Z4j{ce:Nat->Nat->Int}{v a b:Nat}{j:Nat}:∀{n:Nat},0<j->j<=n->ce j v≠ce j a->ce j v≠ce j b->j<=Ue ce v a b n:=by
 intro n
 induction n with
 |zero=>intro h1 G;omega
 |succ n I =>
  intro h1 G H h4;unfold Ue
  split
  ·exact G
  rename_i c;by_cases q:j=n+1
  ·subst q;exact absurd ⟨H,h4⟩ c
  exact I h1 (by omega) H h4
def Zkj(n:Nat)(ce:Nat->Nat->Int):Prop:=∀j k,0<j->j<=k->k<=n->Zjm (ce j) (ce k)
def Zi3(N:Zs)(n:Nat)(ce:Nat->Nat->Int)(ent:Nat->Nat->Nat->Int)(s t:Nat)(a b:Nat)(w:Int):Prop :=
 let k:=Ue ce (Yt N a) (Yt N s) (Qc N t) n
 if k=0 then EdW N a b w else InK N (ce k) a/\ce k (Qc N b)=ce k (Yt N a)/\ce k (Yt N b)≠ce k (Yt N a)/\ent k a b≠Xo/\Zt N b≠Xo/\w=ent k a b+Zt N b
section
variable{N:Zs}{n:Nat}{ce:Nat->Nat->Int}{ent:Nat->Nat->Nat->Int}{s t:Nat}
def Zd2(ok:Yn N){a b:Nat}{w:Int}(e:EdW N a b w):0<=w:=by
 obtain⟨G,H,rfl⟩:=e;have h1:=Xu ok (a:=a) (b:=b);have I:=Xy ok (a:=b);omega
def Zgj(O:∀k,0<k->k<=n->Zf5 N (ce k) (ent k)){I:Nat->Int->Prop}{a:Nat}{y:Int}(w:Yu I (Zi3 N n ce ent s t) a y):Yu I (EdW N) a y:=by
 induction w with
 |init h=>exact .init h
 |@step a b c w w0 e H =>
  unfold Zi3 at e;obtain⟨k,J⟩:∃k,Ue ce (Yt N a) (Yt N s) (Qc N t) n=k:=⟨_,rfl⟩
  simp only[J] at e;by_cases z:k=0
  ·rw[if_pos z] at e;exact .step H e
  rw[if_neg z] at e;obtain⟨R,U,e2,X,e6,e7⟩:=e;have G:k<=n:=by rw[<-J];exact Zj8
  obtain⟨x,u,g1,g2,g3⟩:=((O k (by omega) G a b R U e2).is).resolve_left X;have:=Yu.step (H.then g1 (fun p q u h=>h.1)) (show EdW N x b (Yp N x b+Zt N b) from ⟨g2,e6,rfl⟩);rw[e7,g3,show c+(u+Yp N x b+Zt N b)=c+u+(Yp N x b+Zt N b) by omega];exact this
def Zmx(ok:Yn N)(hn:Zkj n ce)(he:∀k,0<k->k<=n->Zf5 N (ce k) (ent k)){I:Nat->Int->Prop}(hI:∀b c,I b c->b=s/\c=0){a:Nat}{y:Int}(w:Yu I (EdW N) a y):
  Xo<=y\/∃p G H,Yu I (Zi3 N n ce ent s t) p G/\(Ue ce (Yt N p) (Yt N s) (Qc N t) n≠0->InK N (ce (Ue ce (Yt N p) (Yt N s) (Qc N t) n)) p) /\
   (if Ue ce (Yt N p) (Yt N s) (Qc N t) n=0 then a=p/\H=0 else Yu (AtI p) (EdC N (ce (Ue ce (Yt N p) (Yt N s) (Qc N t) n)) (ce (Ue ce (Yt N p) (Yt N s) (Qc N t) n) (Yt N p))) a H)/\0<=G/\G+H<=y:=by
 induction w with
 |@init b c h =>
  obtain⟨rfl,rfl⟩:=hI _ _ h;have hz:Ue ce (Yt N b) (Yt N b) (Qc N t) n=0:=by
   by_cases z:Ue ce (Yt N b) (Yt N b) (Qc N t) n=0
   ·exact z
   exact absurd rfl (Zj4 z).1
  exact .inr ⟨b,0,0,.init h,fun h=>absurd hz h,by rw[if_pos hz];exact⟨rfl,rfl⟩,by omega,by omega⟩
 |@step a b c w w0 e ih =>
  have hw:=Zd2 ok e;rcases ih with ih|⟨p,G,H,g1,X,g2,g0,g3⟩
  ·exact .inl (by omega)
  obtain⟨t1,t2,t3⟩:=id e;have aa:=Zag t1;obtain⟨k,hk⟩:∃k,Ue ce (Yt N p) (Yt N s) (Qc N t) n=k:=⟨_,rfl⟩
  have ae:k<=n:=by rw[<-hk];exact Zj8
  have ah:=@Zj4 ce (Yt N p) (Yt N s) (Qc N t) n;have J:=fun j=>@Z4j ce (Yt N p) (Yt N s) (Qc N t) j n;rw[hk] at X g2 ah;simp only[hk] at J;obtain⟨m,hm⟩:∃m,Ue ce (Yt N b) (Yt N s) (Qc N t) n=m:=⟨_,rfl⟩
  have ab:m<=n:=by rw[<-hm];exact Zj8
  have ac:=@Zj4 ce (Yt N b) (Yt N s) (Qc N t) n;rw[hm] at ac;have O:∀(U:m≠0->InK N (ce m) b)(z:Int),0<=z->Yu I (Zi3 N n ce ent s t) b z->z<=c+w->Xo<=c+w\/∃p G H,Yu I (Zi3 N n ce ent s t) p G/\(Ue ce (Yt N p) (Yt N s) (Qc N t) n≠0->InK N (ce (Ue ce (Yt N p) (Yt N s) (Qc N t) n)) p) /\
   (if Ue ce (Yt N p) (Yt N s) (Qc N t) n=0 then b=p/\H=0 else Yu (AtI p) (EdC N (ce (Ue ce (Yt N p) (Yt N s) (Qc N t) n)) (ce (Ue ce (Yt N p) (Yt N s) (Qc N t) n) (Yt N p))) b H)/\0<=G/\G+H<=c+w:=by
   intro U z z0 hz zl;refine .inr ⟨b,z,0,hz,by rw[hm];exact U,?_,z0,by omega⟩;rw[hm]
   split
   ·exact⟨rfl,rfl⟩
   exact .init ⟨rfl,rfl⟩
  by_cases z:k=0
  ·rw[if_pos z] at g2;obtain⟨rfl,rfl⟩:=g2;refine O (fun ad h=>?_) (G+w) (by omega) (.step g1 ?_) (by omega)
   ·have q:=ac ad;have:=J m (by omega) ab (by rw[aa,h];exact q.1) (by rw[aa,h];exact q.2);omega
   unfold Zi3;simp only[hk];rw[if_pos z];exact e
  rw[if_neg z] at g2;have ai:=Zhh g2 rfl;have R:ce k (Qc N b)=ce k (Yt N p):=by rw[<-aa];exact ai
  by_cases q:ce k (Yt N b)=ce k (Yt N p)
  ·refine .inr ⟨p,G,H+w,g1,by rw[hk];exact X,?_,g0,by omega⟩;rw[hk,if_neg z];exact .step g2 ⟨e,R,q⟩
  have af:=X z;have hl:=he k (by omega) ae p b af R q;have aj:=hl.all (H+Yp N a b) ⟨a,H,g2,t1,rfl⟩;have ak:=Xy ok (a:=b);by_cases u:ent k p b=Xo
  ·exact .inl (by have:=Za5 ok g2;omega)
  have al:0<=ent k p b:=by
   obtain⟨x,v,q1,q2,q3⟩:=hl.is.resolve_left u;have:=Za5 ok q1;have:=Xu ok (a:=x) (b:=b);omega
  refine O (fun ad h=>?_) (G+(ent k p b+Zt N b)) (by omega) (.step g1 ?_) (by omega)
  ·have qm:=ac ad;rcases Xiw k m with c1|c1
   ·have ag:ce m (Yt N p)=ce m (Yt N b):=by
     rw[<-h];exact hn k m (by omega) (by omega) ab _ _ R.symm
    have:=J m (by omega) ab (by rw[ag];exact qm.1) (by rw[ag];exact qm.2);omega
   exact q (by rw[<-R];exact (hn m k (by omega) c1 ae _ _ h).symm)
  unfold Zi3;simp only[hk];rw[if_neg z];exact⟨af,R,q,u,t2,trivial⟩
def Zww(ok:Yn N)(U:Zkj n ce)(J:∀k,0<k->k<=n->Zf5 N (ce k) (ent k)){I:Nat->Int->Prop}(X:∀b c,I b c->b=s/\c=0){d:Int}:Uk I (Zi3 N n ce ent s t) t d↔Uk I (EdW N) t d:=by
 have G:∀y,Yu I (EdW N) t y->Xo<=y\/∃y',y'<=y/\Yu I (Zi3 N n ce ent s t) t y':=by
  intro y w;rcases Zmx (t:=t) ok U J X w with h|⟨p,R,y2,H,aa,g2,g0,g3⟩
  ·exact .inl h
  split at g2
  ·obtain⟨rfl,rfl⟩:=g2;exact .inr ⟨R,by omega,H⟩
  rename_i z
  cases g2 with
  |init h=>obtain⟨rfl,rfl⟩:=h;exact .inr ⟨R,by omega,H⟩
  |step _ e=>exact absurd e.2.1.symm (Zj4 z).2
 constructor
 ·intro h;refine⟨h.le,fun x hx=>?_,h.is.imp id (Zgj J)⟩;rcases G x hx with g|⟨O,H,g2⟩
  ·have:d<=Xo:=h.le;omega
  have:=h.all O g2;omega
 intro h;refine⟨h.le,fun x hx=>h.all x (Zgj J hx),?_⟩;rcases h.is with g|g
 ·exact .inl g
 rcases G d g with H|⟨O,H,g2⟩
 ·exact .inl (by have:d<=Xo:=h.le;have:Xo=1152921504606846976:=rfl;omega)
 have:=h.all O (Zgj J g2);have e:O=d:=by omega
 exact .inr (e ▸ g2)
end
def W1(P:Nat->Nat->Bool)(v:Nat):Nat->Nat
 |0=>0
 |k+1=>if P (k+1) v=true then k+1 else W1 P v k
def Zhy{P:Nat->Nat->Bool}{v:Nat}:∀{n:Nat},W1 P v n<=n:=by
 intro n
 induction n with
 |zero=>exact Xit _
 |succ n G =>
  unfold W1
  split
  ·exact Xit _
  omega
def Zkb{P:Nat->Nat->Bool}{v:Nat}:∀{n:Nat},W1 P v n≠0->P (W1 P v n) v=true:=by
 intro n
 induction n with
 |zero=>intro h;exact absurd rfl h
 |succ n G =>
  intro h;unfold W1 at h ⊢
  split
  ·assumption
  rename_i c;rw[if_neg c] at h;exact G h
def Z47{P:Nat->Nat->Bool}{v:Nat}{j:Nat}:∀{n:Nat},0<j->j<=n->P j v=true->j<=W1 P v n:=by
 intro n
 induction n with
 |zero=>intro h1 G;omega
 |succ n I =>
  intro h1 G H;unfold W1
  split
  ·exact G
  rename_i c;by_cases q:j=n+1
  ·subst q;exact absurd H c
  exact I h1 (by omega) H
structure Z5k(N:Zs)(n:Nat)(ce:Nat->Nat->Int)(P:Nat->Nat->Bool)(s:Nat):Prop where
 cong:∀k u v,0<k->k<=n->ce k u=ce k v->P k u=P k v
 src:∀k,P k (Yt N s)=false
def Zjv(N:Zs)(n:Nat)(ce:Nat->Nat->Int)(ent:Nat->Nat->Nat->Int)(P:Nat->Nat->Bool)(a b:Nat)(w:Int):Prop :=
 let k:=W1 P (Yt N a) n
 if k=0 then EdW N a b w else InK N (ce k) a/\ce k (Qc N b)=ce k (Yt N a)/\ce k (Yt N b)≠ce k (Yt N a)/\ent k a b≠Xo/\Zt N b≠Xo/\w=ent k a b+Zt N b
section
variable{N:Zs}{n:Nat}{ce:Nat->Nat->Int}{ent:Nat->Nat->Nat->Int}{P:Nat->Nat->Bool}{s t:Nat}
def Zgt(O:∀k,0<k->k<=n->Zf5 N (ce k) (ent k)){I:Nat->Int->Prop}{a:Nat}{y:Int}(w:Yu I (Zjv N n ce ent P) a y):Yu I (EdW N) a y:=by
 induction w with
 |init h=>exact .init h
 |@step a b c w w0 e H =>
  unfold Zjv at e;obtain⟨k,J⟩:∃k,W1 P (Yt N a) n=k:=⟨_,rfl⟩
  simp only[J] at e;by_cases z:k=0
  ·rw[if_pos z] at e;exact .step H e
  rw[if_neg z] at e;obtain⟨R,U,e2,X,e6,e7⟩:=e;have G:k<=n:=by rw[<-J];exact Zhy
  obtain⟨x,u,g1,g2,g3⟩:=((O k (by omega) G a b R U e2).is).resolve_left X;have:=Yu.step (H.then g1 (fun p q u h=>h.1)) (show EdW N x b (Yp N x b+Zt N b) from ⟨g2,e6,rfl⟩);rw[e7,g3,show c+(u+Yp N x b+Zt N b)=c+u+(Yp N x b+Zt N b) by omega];exact this
def Zmz(ok:Yn N)(lp:Z5k N n ce P s)(hn:Zkj n ce)(he:∀k,0<k->k<=n->Zf5 N (ce k) (ent k)){I:Nat->Int->Prop}(hI:∀b c,I b c->b=s/\c=0){a:Nat}{y:Int}(w:Yu I (EdW N) a y):
  Xo<=y\/∃p G H,Yu I (Zjv N n ce ent P) p G/\(W1 P (Yt N p) n≠0->InK N (ce (W1 P (Yt N p) n)) p) /\
   (if W1 P (Yt N p) n=0 then a=p/\H=0 else Yu (AtI p) (EdC N (ce (W1 P (Yt N p) n)) (ce (W1 P (Yt N p) n) (Yt N p))) a H)/\0<=G/\G+H<=y:=by
 induction w with
 |@init b c h =>
  obtain⟨rfl,rfl⟩:=hI _ _ h;have hz:W1 P (Yt N b) n=0:=by
   by_cases z:W1 P (Yt N b) n=0
   ·exact z
   have:=Zkb z;rw[lp.src] at this;cases this
  exact .inr ⟨b,0,0,.init h,fun h=>absurd hz h,by rw[if_pos hz];exact⟨rfl,rfl⟩,by omega,by omega⟩
 |@step a b c w w0 e ih =>
  have hw:=Zd2 ok e;rcases ih with ih|⟨p,G,H,g1,aa,g2,g0,g3⟩
  ·exact .inl (by omega)
  obtain⟨t1,t2,t3⟩:=id e;have ad:=Zag t1;obtain⟨k,hk⟩:∃k,W1 P (Yt N p) n=k:=⟨_,rfl⟩
  have ae:k<=n:=by rw[<-hk];exact Zhy
  have ag:=@Zkb P (Yt N p) n;have J:=fun j=>@Z47 P (Yt N p) j n;rw[hk] at aa g2 ag;simp only[hk] at J;obtain⟨m,hm⟩:∃m,W1 P (Yt N b) n=m:=⟨_,rfl⟩
  have O:m<=n:=by rw[<-hm];exact Zhy
  have ab:=@Zkb P (Yt N b) n;rw[hm] at ab;have R:∀(X:m≠0->InK N (ce m) b)(z:Int),0<=z->Yu I (Zjv N n ce ent P) b z->z<=c+w->Xo<=c+w\/∃p G H,Yu I (Zjv N n ce ent P) p G/\(W1 P (Yt N p) n≠0->InK N (ce (W1 P (Yt N p) n)) p) /\
   (if W1 P (Yt N p) n=0 then b=p/\H=0 else Yu (AtI p) (EdC N (ce (W1 P (Yt N p) n)) (ce (W1 P (Yt N p) n) (Yt N p))) b H)/\0<=G/\G+H<=c+w:=by
   intro X z z0 hz zl;refine .inr ⟨b,z,0,hz,by rw[hm];exact X,?_,z0,by omega⟩;rw[hm]
   split
   ·exact⟨rfl,rfl⟩
   exact .init ⟨rfl,rfl⟩
  by_cases z:k=0
  ·rw[if_pos z] at g2;obtain⟨rfl,rfl⟩:=g2;refine R (fun ac h=>?_) (G+w) (by omega) (.step g1 ?_) (by omega)
   ·have q:=ab ac;have:=J m (by omega) O (by rw[ad,lp.cong m _ _ (by omega) O h];exact q);omega
   unfold Zjv;simp only[hk];rw[if_pos z];exact e
  rw[if_neg z] at g2;have ah:=Zhh g2 rfl;have U:ce k (Qc N b)=ce k (Yt N p):=by rw[<-ad];exact ah
  by_cases q:ce k (Yt N b)=ce k (Yt N p)
  ·refine .inr ⟨p,G,H+w,g1,by rw[hk];exact aa,?_,g0,by omega⟩;rw[hk,if_neg z];exact .step g2 ⟨e,U,q⟩
  have af:=aa z;have hl:=he k (by omega) ae p b af U q;have aj:=hl.all (H+Yp N a b) ⟨a,H,g2,t1,rfl⟩;have ak:=Xy ok (a:=b);by_cases u:ent k p b=Xo
  ·exact .inl (by have:=Za5 ok g2;omega)
  have al:0<=ent k p b:=by
   obtain⟨x,v,q1,q2,q3⟩:=hl.is.resolve_left u;have:=Za5 ok q1;have:=Xu ok (a:=x) (b:=b);omega
  refine R (fun ac h=>?_) (G+(ent k p b+Zt N b)) (by omega) (.step g1 ?_) (by omega)
  ·have qm:=ab ac;rcases Xiw k m with c1|c1
   ·have ai:ce m (Yt N p)=ce m (Yt N b):=by
     rw[<-h];exact hn k m (by omega) (by omega) O _ _ U.symm
    have:=J m (by omega) O (by rw[lp.cong m _ _ (by omega) O ai];exact qm);omega
   exact q (by rw[<-U];exact (hn m k (by omega) c1 ae _ _ h).symm)
  unfold Zjv;simp only[hk];rw[if_neg z];exact⟨af,U,q,u,t2,trivial⟩
def Zve(ok:Yn N)(R:Z5k N n ce P s)(X:∀k,P k (Qc N t)=false)(hn:Zkj n ce)(J:∀k,0<k->k<=n->Zf5 N (ce k) (ent k)){I:Nat->Int->Prop}(hI:∀b c,I b c->b=s/\c=0){d:Int}:Uk I (Zjv N n ce ent P) t d↔Uk I (EdW N) t d:=by
 have G:∀y,Yu I (EdW N) t y->Xo<=y\/∃y',y'<=y/\Yu I (Zjv N n ce ent P) t y':=by
  intro y w;rcases Zmz ok R hn J hI w with h|⟨p,U,y2,H,aa,g2,g0,g3⟩
  ·exact .inl h
  split at g2
  ·obtain⟨rfl,rfl⟩:=g2;exact .inr ⟨U,by omega,H⟩
  rename_i z
  cases g2 with
  |init h=>obtain⟨rfl,rfl⟩:=h;exact .inr ⟨U,by omega,H⟩
  |step _ e=>have h1:=Zkb z;rw[<-R.cong _ _ _ (by omega) Zhy e.2.1,X] at h1;cases h1
 constructor
 ·intro h;refine⟨h.le,fun x hx=>?_,h.is.imp id (Zgt J)⟩;rcases G x hx with g|⟨O,H,g2⟩
  ·have:d<=Xo:=h.le;omega
  have:=h.all O g2;omega
 intro h;refine⟨h.le,fun x hx=>h.all x (Zgt J hx),?_⟩;rcases h.is with g|g
 ·exact .inl g
 rcases G d g with H|⟨O,H,g2⟩
 ·exact .inl (by have:d<=Xo:=h.le;have:Xo=1152921504606846976:=rfl;omega)
 have:=h.all O (Zgt J g2);have e:O=d:=by omega
 exact .inr (e ▸ g2)
end
end Go.Rm
