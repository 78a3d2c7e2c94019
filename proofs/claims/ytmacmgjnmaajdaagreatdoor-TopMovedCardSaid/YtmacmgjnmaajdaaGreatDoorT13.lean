import Derived.Test.YtmacmgjnmaajdaaGreatDoorT12
/- Parts. -/
set_option linter.all false
namespace Go.Rm
section
variable{Y:Sys}{h h':Zk}
def Ze8{s:Sl}{N:Zs}{L:Za}(g:Zi7 h s N L){i:Nat}(G:i<s.n:=by omega):∃u:Sl,(∀h',Ext h h'->hc h' s.b (s.o+i)=some u.v)/\Zfl h u (Yv L i) (Zv N L i):=by
 obtain⟨u,a,b⟩:=g.val i (by rw[g.len];exact G);exact⟨u,fun g e=>e.hc a (fun h=>h),b⟩
def Zhq{u:Sl}{n:Nat}{D:Bool->Nat->Zb}(g:Zfl h u n D){c:Nat}(hc':c<n):∃a b:Sl,(∀h',Ext h h'->hc h' u.b (u.o+c * 2)=some a.v/\hc h' u.b (u.o+c * 2+1)=some b.v/\rd h' u.b (u.o+c * 2) 2=some [a.v,b.v])/\Zw h a (D false c)/\Zw h b (D true c):=by
 obtain⟨a,H,R⟩:=g.val false c hc';obtain⟨b,I,U⟩:=g.val true c hc';simp[b2n] at H I;refine⟨a,b,fun h' e=>?_,R,U⟩;have J:=e.hc H (fun h=>h);have O:=e.hc I (fun h=>h);refine⟨J,O,Zbg (l:=[a.v,b.v]) (fun j v G=>?_)⟩
 match j with
 |0=>simp at G;subst G;exact J
 |1=>simp at G;subst G;exact O
 |j+2=>simp at G
end
end Go.Rm



namespace Go.Rm
section
variable{Y:Sys}{h:Zk}
end
end Go.Rm




namespace Go.Rm
structure Zff(lo up:Nat)(h:Zk)(s1 s2 s3:Sl)(P:List (Tab × Sl))(M:Zs):Prop where
 o1:Yh h 3 s1 (Yb (M.vs.map Xf))
 o2:Yh h 3 s2 (Yb (M.as.map Xf))
 o3:Yh h 3 s3 (Yb (P.map Zak))
 hP:P.map Prod.fst=M.ts
 pw:P.Pairwise (fun p q=>p.2.b≠q.2.b)
 px:∀p,p∈P->(Yh h 1 p.2 (Zu p.1.cs)/\p.2.nl=false)/\lo<=p.2.b/\p.2.b≠s1.b/\p.2.b≠s2.b/\(s3.nl=false->p.2.b≠s3.b)/\p.2.b<up
 u2:s2.b<up
 f1:lo<=s1.b
 f2:lo<=s2.b
 d12:s1.b≠s2.b
 f3:s3.nl=false->lo<=s3.b/\s3.b≠s1.b/\s3.b≠s2.b
section
variable{Y:Sys}{h h':Zk}{lo up:Nat}{s1 s2 s3:Sl}{P:List (Tab × Sl)}{M:Zs}
def Zff.cJ(n:Zff lo up h s1 s2 s3 P M):Z2 h s1 s2 s3 M:=⟨n.o1.row3,n.o2.row3,n.o3.rowT n.hP (fun q hq=>(n.px q hq).1.1.cE)⟩
def Zff.cD{S:Zf}(n:Zff lo up h s1 s2 s3 P M)(m:Mod S h h')(G:∀j,S j->j<lo):Zff lo up h' s1 s2 s3 P M :=
 {n with
  o1:=n.o1.cD m (fun _ hb=>by have:=G _ hb;have:=n.f1;omega)
  o2:=n.o2.cD m (fun _ hb=>by have:=G _ hb;have:=n.f2;omega)
  o3:=n.o3.cD m (fun H hb=>by have:=G _ hb;have:=(n.f3 H).1;omega)
  px:=fun p hp=>⟨⟨(n.px p hp).1.1.cD m (fun _ hb=>by have:=G _ hb;have:=(n.px p hp).2.1;omega),(n.px p hp).1.2⟩,(n.px p hp).2⟩ }
def Zff.cC(n:Zff lo up h s1 s2 s3 P M)(m:Ext h h'):Zff lo up h' s1 s2 s3 P M:=n.cD m fun _ h=>h.elim
def Zff.setA{K:Ze}(n:Zff lo up h s1 s2 s3 P M){a:Nat}{w:Int}(G:a<M.as.length)
  (H:∀h',Zff lo up h' s1 s2 s3 P { M with as:=M.as.set a ⟨(Zq M.as a).a,(Zq M.as a).b,w⟩ }->Mod (fun j=>j=s2.b) h h'->K undef h'):Xo h s2.b (s2.o+(a * 3+2)) (Zg w) K:=by
 refine stN n.o2 (k:=a * 3+2) (by rw[Xy];simp;omega) ?_;intro h' o2 m;rw[(Xa1 G).2.2] at o2;refine H h' ?_ m;exact { o1:=n.o1.cD m (fun _ hb=>n.d12 hb),o2:=o2,o3:=n.o3.cD m (fun I hb=>(n.f3 I).2.2 hb),hP:=n.hP,pw:=n.pw,px:=fun p hp=>⟨⟨(n.px p hp).1.1.cD m (fun _ hb=>(n.px p hp).2.2.2.1 hb),(n.px p hp).1.2⟩,(n.px p hp).2⟩,u2:=n.u2,f1:=n.f1,f2:=n.f2,d12:=n.d12,f3:=n.f3 }
end
abbrev Vn:=Nat->Option Int
def Zhy(n:Nat)(A:Vn):Nat:=(List.range n).countP fun k=>(A k).isSome
def Z0(cN:Zb)(cQ:Zd):Vn:=fun k=>if Xe cQ k=0 then none else some (Zm cN k)
def fpO(p:Nat)(rs cs ss:Sl):Zf:=fun b=>b=p\/b=cs.b\/b=ss.b\/(rs.nl=false/\b=rs.b)
def Q8(h:Zk)(p n:Nat)(A:Vn)(S:Zf):Prop :=
 ∃row cN cQ rs cs ss,Xb h p row cN cQ rs cs ss/\Qq row n cQ/\cN.length=n/\Ord row cN/\row.length=Zhy n (Z0 cN cQ)/\n<=16384 /\
  (∀k,k<n->A k=Z0 cN cQ k)/\(∀b,S b↔fpO p rs cs ss b)
def Zps{n:Nat}{A:Vn}:Zhy n A<=n:=by
 unfold Zhy;exact Xjo List.countP_le_length (by simp)
def Zko{n:Nat}{A B:Vn}(h:∀k,k<n->(A k).isSome=(B k).isSome):Zhy n A=Zhy n B:=by
 unfold Zhy;apply List.countP_congr;intro k G;rw[h k (List.mem_range.1 G)]
def Z2a{n:Nat}{A:Vn}(h:Zhy n A=0):∀k,k<n->A k=none:=by
 intro k G;have:=List.countP_eq_zero.1 h k (List.mem_range.2 G);simpa using this
def Zmv{n:Nat}{A B:Vn}{k:Nat}(hk:k<n)(I:∀j,j<n->j≠k->(B j).isSome=(A j).isSome)(hA:A k=none)(hB:(B k).isSome=true):Zhy n B=Zhy n A+1:=by
 have R:∀(l:Zd),(∀j∈l,j<n)->l.Nodup->(k∈l->l.countP (fun j=>(B j).isSome)=l.countP (fun j=>(A j).isSome)+1)/\(k ∉ l->l.countP (fun j=>(B j).isSome)=l.countP (fun j=>(A j).isSome)):=by
  intro l
  induction l with
  |nil=>intro _ _;exact⟨fun h=>(by cases h),fun _=>rfl⟩
  |cons x l ih =>
   intro U H;obtain⟨hx,H⟩:=List.nodup_cons.1 H;obtain⟨X,J⟩:=ih (fun j hj=>U j (Xjt _ hj)) H;refine⟨fun O=>?_,fun O=>?_⟩
   ·simp only[Xmm];by_cases G:x=k
    ·subst G;rw[J hx,hB,hA];simp
    have aa:k∈l:=by
     rcases List.mem_cons.1 O with h|h
     ·exact absurd h.symm G
     exact h
    rw[X aa,I x (U x (by simp)) G];omega
   have G:x≠k:=fun e=>O (by rw[e];simp);simp only[Xmm];rw[J (fun h=>O (Xjt _ h)),I x (U x (by simp)) G]
 exact (R (List.range n) (fun j hj=>List.mem_range.1 hj) List.nodup_range).1 (List.mem_range.2 hk)
section
variable{Y:Sys}{h:Zk}{p n:Nat}{A:Vn}{S:Zf}
def Xb.fp_lt{row:Zd}{cN:Zb}{G:Zd}{rs cs H:Sl}(O:Xb h p row cN G rs cs H){b:Nat}(hb:fpO p rs cs H b):b<h.size:=by
 rcases hb with rfl|rfl|rfl|⟨I,rfl⟩
 ·exact O.cM.lt
 ·exact O.cN.lt O.cnl
 ·exact O.cQ.lt O.snl
 exact O.row.lt I
def Q8.lt(O:Q8 h p n A S){b:Nat}(hb:S b):b<h.size:=by
 obtain⟨_,_,_,_,_,_,O,_,_,_,_,_,_,G⟩:=O;exact O.fp_lt ((G b).1 hb)
def Xb.cD{row:Zd}{cN:Zb}{G:Zd}{rs cs I:Sl}(O:Xb h p row cN G rs cs I){S':Zf}{h':Zk}(H:Mod S' h h')(hd:∀b,fpO p rs cs I b->¬S' b):
  Xb h' p row cN G rs cs I :=
 ⟨H.cM O.cM (hd p (.inl rfl)),O.row.cD H (fun J=>hd _ (.inr (.inr (.inr ⟨J,rfl⟩)))),O.cN.cD H (fun _=>hd _ (.inr (.inl rfl))),O.cQ.cD H (fun _=>hd _ (.inr (.inr (.inl rfl)))),
  O.cnl,O.snl,O.pc,O.ps,O.csn,O.pr,O.rc,O.rss⟩
def Q8.cD(O:Q8 h p n A S){S':Zf}{h':Zk}(J:Mod S' h h')(hd:∀b,S b->¬S' b):Q8 h' p n A S:=by
 obtain⟨row,cN,G,rs,cs,R,O,V,hc,U,H,X,hA,I⟩:=O;exact⟨row,cN,G,rs,cs,R,O.cD J (fun b hb=>hd b ((I b).2 hb)),V,hc,U,H,X,hA,I⟩
def Zxm{l:Zd}{k:Nat}:Zba (l++[k])=Zba l++[.int .i64 (k:Int)]:=by simp[Zba]
def Xb.pushRow{row:Zd}{cN:Zb}{H:Zd}{rs cs U G:Sl}(O:Xb h p row cN H rs cs U){I:Zk}{k:Nat}
  (hO:Yh I 1 G (Zba row++[.int .i64 (k:Int)])) (X:Mod (fun j=>rs.nl=false/\j=rs.b) h I) (hl:(G.b=rs.b/\G.nl=rs.nl)\/(h.size<=G.b/\G.nl=false)) :
  Xb (Vw I p 0 G.v) p (row++[k]) cN H G cs U:=by
 have J:G.nl=false:=by
  obtain⟨_,_,_,h⟩:=hO.cM (i:=0) (by simp);exact h
 have ab:=O.cM.lt;have ac:=O.cN.lt O.cnl;have ad:=O.cQ.lt O.snl;have pr:p≠G.b:=by
  rcases hl with⟨h1,I⟩|⟨h1,_⟩
  ·rw[h1];exact O.pr (by rw[<-I];exact J)
  omega
 have rc:G.b≠cs.b:=by
  rcases hl with⟨h1,I⟩|⟨h1,_⟩
  ·rw[h1];exact O.rc (by rw[<-I];exact J)
  omega
 have aa:G.b≠U.b:=by
  rcases hl with⟨h1,I⟩|⟨h1,_⟩
  ·rw[h1];exact O.rss (by rw[<-I];exact J)
  omega
 have hb:=X.cM O.cM (fun ⟨R,e⟩=>O.pr R e);refine⟨?_,?_,?_,?_,O.cnl,O.snl,O.pc,O.ps,O.csn,fun _=>pr,fun _=>rc,fun _=>aa⟩
 ·have:=hb.set (o:=0) (v:=G.v);simpa using this
 ·rw[Zxm];exact hO.cD (S:=fun b=>b=p) (Mod.set rfl) (fun _ e=>pr e.symm)
 ·exact (O.cN.cD X (fun _ ⟨R,e⟩=>O.rc R e.symm)).cD (S:=fun b=>b=p) (Mod.set rfl) (fun _ e=>O.pc e.symm)
 exact (O.cQ.cD X (fun _ ⟨R,e⟩=>O.rss R e.symm)).cD (S:=fun b=>b=p) (Mod.set rfl) (fun _ e=>O.ps e.symm)
def Zes(n:Nat)(A:Vn)(k:Int)(c:Int):Bool:=Zpz n k && (match A k.toNat with|none=>true|some d=>decide (c<d))
def Zad(n:Nat)(A:Vn)(k:Int)(c:Int):Vn:=if Zes n A k c then (fun j=>if j=k.toNat then some c else A j) else A
def Zo9{cN:Zb}{H G:Zd}{k:Nat}{c:Int}(I:k<cN.length)(R:Xe G k≠0)(J:∀j,j≠k->(Xe G j=0↔Xe H j=0))(j:Nat):
  Z0 (cN.set k c) G j=if j=k then some c else Z0 cN H j:=by
 unfold Z0;by_cases O:j=k
 ·subst O;rw[if_neg R,if_pos rfl,Vj I];simp
 rw[if_neg O,Vj I,if_neg O];by_cases h0:Xe H j=0
 ·rw[if_pos h0,if_pos ((J j O).2 h0)]
 rw[if_neg h0,if_neg (fun h=>h0 ((J j O).1 h))]
def Zdb(H:Y.cL 8 Y8)(Hk:Y.cL 18 Y18)(Hh:Y.cL 19 Y19)(Hu:Y.cL 20 Y20)
  (Ha:Y.cL 25 Y25) (Hs:Y.cL 21 Y21) (O:Q8 h p n A S) {k c:Int} {R:Ze}
  (hr:∀h' S',Q8 h' p n (Zad n A k (Vz c)) S'->(∀b,S' b->S b\/h.size<=b)->Mod S h h'->R (.bool (Zes n A k (Vz c))) h') :
  Zt Y 8 [.pointer (some ⟨p,0,none⟩),.int .i64 k,.int .i64 c] h R:=by
 have OR:=O;obtain⟨row,cN,G,rs,cs,ss,O,V,hc,hO,ac,hn,hA,hS⟩:=O;refine .o H ?_;simp[Y8,Yw.wp];refine Z63 Hk O ?_;rw[V.len];by_cases hk:Zpz n k=true
 ·have ad:=hk;simp only[Zpz,Xjf,decide_eq_true_eq] at ad;obtain⟨h0,h1⟩:=ad;obtain⟨k,rfl⟩:=Int.eq_ofNat_of_zero_le h0;have ab:k<n:=by omega
  have X:k<G.length:=by rw[V.len];exact ab
  have U:k<cN.length:=by omega
  have e1:=O.seatsN;have e2:=O.costsN;have aC:row.length<=n:=by rw[ac];exact Zps
  have aa:=hA k ab;simp[hk];refine Zfr Hh ?_;generalize aD:Vz c=c' at *
  by_cases hz:Xe G k=0
  ·have aa:A k=none:=by rw[aa];simp[Z0,hz]
   simp[O.p2,Zl O.cQ.ok,e1,X,O.seatAt,hz,O.p0,Zb9];intro t;have e3:=O.rowN;refine Zg4 rfl O.row ?_;intro s' h2 ar hs'n ak au;have O3:=O.pushRow ar ak au;have V4:=Zv0 V ab hz;have O4:=O3.setSeat X (row.length+1);have O5:=O4.setCost U c';have e4:=O3.rowN;simp at e4;have av:=ak.cM O.cM (fun ⟨hn,e⟩=>O.pr hn e);have q0:Rm.hc h2 p 0=some rs.v:=by rw[av.hc];rfl
   have qf:hfz h2 p 0=false:=av.hfz;simp only[Int.natCast_add,Int.natCast_one] at O4 O5;have al:Xe (G.set k (row.length+1)) k=row.length+1:=by rw[U3 X];simp
   have w1:IntKind.i64.wrap (row.length:Int)=row.length:=Zn;have e5:ss.n=(G.set k (row.length+1)).length:=by simpa using e1
   simp[Xo.open,q0,qf,O3.p2,O3.p0,e4,Zl O3.cQ.ok,e1,X,O3.seatF,O3.seatAt,O4.p1,Zl O4.cN.ok,e2,U,O4.costF,O4.costAt,O5.p2,O5.seatAt,al,w1];have V5:Qq (row++[k]) (G.set k (row.length+1)).length (G.set k (row.length+1)):=by rw[List.length_set,V.len];exact V4
   have am:=V.len;refine Zyr Hu Ha Hs O5 V5 (by simp[am,hc]) (Z04 V U hz hO) (by simp) (by simp;omega) ?_;intro h' ae I O' V' an Or' ah af ao;have ap:Xe I k≠0:=fun h=>by have:=(af k).1 h;omega
   have aw:∀j,j≠k->(Xe I j=0↔Xe G j=0):=fun j hj=>by rw[af j,U3 X,if_neg hj]
   have J:=Zo9 (c:=c') U ap aw;have hb:Zes n A k c'=true:=by simp[Zes,hk,aa]
   have az:s'.nl=false:=O'.rnl (i:=0) (by rw[ah];simp);have aj:∀b,b=s'.b->S b\/h.size<=b:=by
    rintro b rfl;rcases au with⟨g1,g2⟩|⟨g1,_⟩
    ·left;rw[hS];exact .inr (.inr (.inr ⟨by rw[<-g2];exact az,g1⟩))
    exact .inr g1
   have ag:=hr h' (fpO p s' cs ss) ⟨ae,cN.set k c',I,s',cs,ss,O',?_,by simpa using hc,Or',?_,hn,?_,fun b=>Iff.rfl⟩ ?_ ?_
   ·rwa [hb] at ag
   ·have:I.length=n:=by rw[an];simpa using V.len
    rw[<-this];exact V'
   ·rw[ah,List.length_append,ac]
    symm
    refine Zmv ab (fun j hj aA=>?_) (by simp[Z0,hz]) (by rw[J];simp);rw[J,if_neg aA]
   ·intro j hj;rw[J];simp only[Zad,hb,if_true,Xi8]
    split
    ·rfl
    exact hA j hj
   ·rintro b (rfl|rfl|rfl|⟨_,rfl⟩)
    ·left;rw[hS];exact .inl rfl
    ·left;rw[hS];exact .inr (.inl rfl)
    ·left;rw[hS];exact .inr (.inr (.inl rfl))
    exact aj _ rfl
   have hp:S p:=by rw[hS];exact .inl rfl
   have aq:S cs.b:=by rw[hS];exact .inr (.inl rfl)
   have ai:S ss.b:=by rw[hS];exact .inr (.inr (.inl rfl))
   refine Mod.then (S':=fun b=>b=s'.b\/b=ss.b) (((((ak.mono ?_).trans (Mod.set hp)).trans (Mod.set ai)).trans (Mod.set aq))) ao ?_
   ·rintro i _ ⟨g1,rfl⟩;rw[hS];exact .inr (.inr (.inr ⟨g1,rfl⟩))
   rintro i hi (rfl|rfl)
   ·rcases aj _ rfl with g|g
    ·exact g
    omega
   exact ai
  have aa:A k=some (Zm cN k):=by rw[aa];simp[Z0,hz]
  by_cases ax:Zm cN k<=c'
  ·simp[O.p1,O.p2,Zl O.cQ.ok,Zl O.cN.ok,e1,e2,X,U,O.seatAt,O.costAt,hz,ax];have hb:Zes n A k c'=false:=by simp[Zes,hk,aa];omega
   have:=hr h S (by simpa[Zad,hb] using OR) (fun b hb=>.inl hb) (Mod.refl h);rwa [hb] at this
  have O5:=O.setCost U c';have ay:1<=Xe G k:=by omega
  obtain⟨q1,q2⟩:=V.sv k ab hz;have w1:IntKind.i64.wrap ((Xe G k:Int)-1)=((Xe G k-1:Nat):Int):=by rw[Zn];omega
  simp[O.p1,O.p2,Zl O.cQ.ok,Zl O.cN.ok,e1,e2,X,U,O.seatAt,O.costAt,hz,ax,Xo.open,O.costF,O5.p2,O5.seatAt,w1];have V5:Qq row G.length G:=by rw[V.len];exact V
  have am:=V.len;refine Zyr Hu Ha Hs O5 V5 (by simp[am,hc]) (Zvc V ab U hz hO (by omega)) q1 (by omega) ?_;intro h' ae I O' V' an Or' ah af ao;have ap:Xe I k≠0:=fun h=>hz ((af k).1 h);have J:=Zo9 (c:=c') U ap (fun j _=>af j);have hb:Zes n A k c'=true:=by simp[Zes,hk,aa];omega
  have ag:=hr h' S ⟨ae,cN.set k c',I,rs,cs,ss,O',?_,by simpa using hc,Or',?_,hn,?_,hS⟩ (fun b hb=>.inl hb) ?_
  ·rwa [hb] at ag
  ·have:I.length=n:=by rw[an];exact V.len
   rw[<-this];exact V'
  ·rw[ah,ac];apply Zko;intro j hj;rw[J]
   split
   ·rename_i aB;rw[aB];simp[Z0,hz]
   rfl
  ·intro j hj;rw[J];simp only[Zad,hb,if_true,Xi8]
   split
   ·rfl
   exact hA j hj
  have aq:S cs.b:=by rw[hS];exact .inr (.inl rfl)
  have ai:S ss.b:=by rw[hS];exact .inr (.inr (.inl rfl))
  refine Mod.then (Mod.set aq) ao ?_;rintro i _ (rfl|rfl)
  ·rw[hS];exact .inr (.inr (.inr ⟨O.rnl q1,rfl⟩))
  exact ai
 have ad:Zpz n k=false:=by simpa using hk
 simp[ad];have hb:Zes n A k (Vz c)=false:=by simp[Zes,ad]
 have:=hr h S (by simpa[Zad,hb] using OR) (fun b hb=>.inl hb) (Mod.refl h);rwa [hb] at this
def Zo1(n:Nat)(A:Vn)(k:Nat)(c:Int):Prop:=k<n/\A k=some c/\∀j d,j<n->A j=some d->c<d\/(c=d/\k<=j)
def Zej(A:Vn)(k:Nat):Vn:=fun j=>if j=k then none else A j
def Zvi{row:Zd}{n:Nat}{G:Zd}(V:Qq row n G){m:Nat}(hm:row.length=m+1):Qq (row.take m) n (G.set (Xe row m) 0):=by
 have hk:=V.rv m (by omega);have J:Xe row m<G.length:=by rw[V.len];exact hk
 have O:(row.take m).length=m:=by simp;omega
 have R:∀i,i<m->Xe row i≠Xe row m:=fun i H h=>by have:=V.inj (i:=i) (j:=m) (by omega) (by omega) h;omega
 refine⟨by simp[V.len],?_,?_,?_⟩
 ·intro i H;rw[O] at H;rw[Zhb H];exact V.rv i (by omega)
 ·intro i H;rw[O] at H;rw[Zhb H,U3 J,if_neg (R i H)];exact V.rs i (by omega)
 intro k U h0;rw[U3 J] at h0 ⊢;by_cases I:k=Xe row m
 ·rw[if_pos I] at h0;exact absurd rfl h0
 rw[if_neg I] at h0 ⊢;obtain⟨q1,X⟩:=V.sv k U h0;have:Xe G k-1≠m:=fun e=>I (by rw[<-X,e]);rw[O];exact⟨by omega,by rw[Zhb (by omega)];exact X⟩
def Z4i{row:Zd}{cN:Zb}(O:Ord row cN){m:Nat}(R:row.length=m+1):Zt5 ((Xz row 0 m).take m) cN 0:=by
 have I:((Xz row 0 m).take m).length=m:=by simp;omega
 have G:∀i,0<i->i<m->Xe ((Xz row 0 m).take m) i=Xe row i:=by
  intro i h0 J;rw[Zhb J,Xk (by omega) (by omega)];rw[ifN,ifN]
 refine⟨?_,fun h=>absurd h (by omega)⟩;intro j h0 H hp;rw[I] at H;have:=Vb h0;rw[G j h0 H,G _ (by omega) (by omega)];exact O j h0 (by omega)
def Xb.cut{row:Zd}{cN:Zb}{G:Zd}{rs cs I:Sl}(O:Xb h p row cN G rs cs I){m:Nat}(J:m<=row.length):
  Xb (Vw h p 0 (Sl.v { rs with n:=m })) p (row.take m) cN G { rs with n:=m } cs I:=by
 have H:m<=rs.n:=by rw[O.rowN];exact J
 refine⟨?_,?_,?_,?_,O.cnl,O.snl,O.pc,O.ps,O.csn,O.pr,O.rc,O.rss⟩
 ·have:=O.cM.set (o:=0) (v:=(Sl.v { rs with n:=m }));simpa using this
 ·have:=O.row.take H;have e:(Zba row).take (m * 1)=Zba (row.take m):=by simp[Zba,List.map_take]
  rw[e] at this;exact this.cD (S:=fun b=>b=p) (Mod.set rfl) (fun R e=>O.pr R e.symm)
 ·exact O.cN.cD (S:=fun b=>b=p) (Mod.set rfl) (fun _ e=>O.pc e.symm)
 exact O.cQ.cD (S:=fun b=>b=p) (Mod.set rfl) (fun _ e=>O.ps e.symm)
def Zk9(H:Y.cL 10 Y10)(Hd:Y.cL 22 Y22)(Ha:Y.cL 25 Y25)(Hs:Y.cL 21 Y21)
  (O:Q8 h p n A S) {R:Ze}
  (ak:(∀k,k<n->A k=none)->R (.tuple #[.int .i64 0,.int .i64 0,.bool false]) h)
  (hr:∀h' k c,Zo1 n A k c->Q8 h' p n (Zej A k) S->Mod S h h'->R (.tuple #[.int .i64 k,.int .i64 c,.bool true]) h') :
  Zt Y 10 [.pointer (some ⟨p,0,none⟩)] h R:=by
 obtain⟨row,cN,G,rs,cs,ss,O,V,hc,hO,ab,hn,hA,hS⟩:=O;refine .o H ?_;have e0:=O.rowN;have aA:row.length<=n:=by rw[ab];exact Zps
 have al:Zhy n (Z0 cN G)=Zhy n A:=Zko (fun k hk=>by rw[hA k hk])
 cases hl:row.length with
 |zero =>
  have hz:rs.n=0:=by omega
  simp[Y10,Yw.wp,O.p0,hz];exact ak (Z2a (by rw[<-al,<-ab];exact hl))
 |succ m =>
  have am:¬((m:Int)+1=0):=by omega
  have w1:IntKind.i64.wrap (m:Int)=(m:Int):=Zn;have an:rs.n=m+1:=by omega
  have J:0<row.length:=by omega
  have q0:Rm.hc h rs.b rs.o=some (.int .i64 (Xe row 0:Int)):=by have:=O.rowAt (i:=0) J;simpa using this
  have U:=V.len;simp[Y10,Yw.wp,O.p0,an,am,w1,Zl O.row.ok,q0];refine Ziz Hs O (i:=0) (j:=m) (fun i hi=>by rw[U];exact V.rv i hi) J (by omega) ?_;intro h1 O1 ao;have V1:=V.swap (i:=0) (j:=m) J (by omega);have ap:(Xz row 0 m).length=m+1:=by simpa using hl
  have ad:Xe (Xz row 0 m) m=Xe row 0:=by
   rw[Xk J (by omega)];simp
   try (intro h;rw[h])
  have O2:=O1.cut (m:=m) (by omega);have hk:=V.rv 0 J;generalize ae:Xe row 0=k at *
  have af:k<(Vv row G 0 m).length:=by simpa[U] using hk
  have O3:=O2.setSeat af 0;simp only[Int.natCast_zero] at O3;have aq:k<G.length:=by omega
  have V3:=Zvi V1 ap;rw[ad] at V3;have ar:m<=rs.c:=by have:=O.row.ok.le;omega
  have ag:=O1.cM;have hfz:hfz h1 p 0=false:=ag.hfz;have e2:ss.n=G.length:=by have:=O2.seatsN;simpa using this
  have au:k<cN.length:=by omega
  simp[O1.p0,X1 O1.row.ok,ar,Xo.open,hfz,O2.p2,Zl O2.cQ.ok,e2,aq,O2.seatF,O2.seatAt];have V3':Qq ((Xz row 0 m).take m) ((Vv row G 0 m).set k 0).length ((Vv row G 0 m).set k 0):=by
   have:((Vv row G 0 m).set k 0).length=n:=by simpa using U
   rw[this];exact V3
  refine Z2i Hd Ha Hs O3 V3' (by simp[U,hc]) (Z4i hO hl) (by simp;omega) ?_;intro h' ac I O' V' av Or' aw ax ay;have e3:=O'.costsN;simp[O'.p1,Zl O'.cN.ok,e3,au,O'.costAt];have ah:∀j,Xe (Vv row G 0 m) j=0↔Xe G j=0:=fun j=>Zq0 V J (by omega) j;have X:∀j,Xe I j=0↔(j=k\/Xe G j=0):=by
   intro j;rw[ax j,U3 af]
   split
   ·rename_i h;simp[h]
   rename_i h;rw[ah j];simp[h]
  have ai:Xe G k≠0:=by have:=V.rs 0 J;rw[ae] at this;omega
  have aa:∀j,Z0 cN I j=Zej (Z0 cN G) k j:=by
   intro j;unfold Zej;by_cases hj:j=k
   ·subst hj;simp[Z0,(X j).2 (.inl rfl)]
   rw[if_neg hj];unfold Z0;by_cases hz:Xe G j=0
   ·rw[if_pos hz,if_pos ((X j).2 (.inr hz))]
   rw[if_neg hz,if_neg (fun h=>by rcases (X j).1 h with h|h<;>contradiction)]
  have aj:Z0 cN G k=some (Zm cN k):=by simp[Z0,ai]
  refine hr h' k (Zm cN k) ⟨hk,by rw[hA k hk,aj],?_⟩ ⟨ac,cN,I,{ rs with n:=m },cs,ss,O',?_,hc,Or',?_,hn,?_,hS⟩ ?_
  ·intro j d hj hd;rw[hA j hj] at hd;unfold Z0 at hd;by_cases hz:Xe G j=0
   ·rw[if_pos hz] at hd;cases hd
   rw[if_neg hz] at hd;cases hd;obtain⟨g1,g2⟩:=V.sv j hj hz;have:=hO.least _ g1;rw[g2,ae] at this;unfold klt at this;omega
  ·have:I.length=n:=by rw[av];simpa using U
   rw[<-this];exact V'
  ·have h2:=Zmv (A:=Z0 cN I) (B:=Z0 cN G) hk (fun j _ hj=>by rw[aa j];simp[Zej,hj]) (by rw[aa k];simp[Zej]) (by rw[aj];rfl);have h3:ac.length=m:=by rw[aw];simp;omega
   omega
  ·intro j hj;rw[aa j];unfold Zej
   split
   ·rfl
   exact hA j hj
  have hp:S p:=by rw[hS];exact .inl rfl
  have az:S ss.b:=by rw[hS];exact .inr (.inr (.inl rfl))
  have aB:S rs.b:=by rw[hS];exact .inr (.inr (.inr ⟨O.rnl J,rfl⟩))
  have g:∀i,(i=rs.b\/i=ss.b)->S i:=by rintro i (rfl|rfl)<;>assumption
  exact (((ao.mono fun i _ hi=>g i hi).trans (Mod.set hp)).trans (Mod.set az)).then ay (fun i _ hi=>g i hi)
def Xil(p n:Nat)(row:Zd)(cN:Zb)(cQ:Zd)(rs cs ss:Sl)(h0:Zk)(e:Zc)(h':Zk):Prop :=
 ∃(i:Nat)(seats':Zd)(v1 v5:Zj),e=[.pointer (some ⟨p,0,none⟩),v1,rs.v,.int .i64 row.length,.int .i64 i,v5]/\i<=row.length/\Xb h' p row cN seats' rs cs ss/\seats'.length=n /\
  (∀j,j<n->Xe seats' j=0\/(Xe seats' j=Xe cQ j/\i<Xe cQ j))/\Mod (fun b=>b=ss.b) h0 h'
def Zxc(H:Y.cL 12 Y12)(O:Q8 h p n A S){R:Ze}
  (hr:∀h',Q8 h' p n (fun _=>none) S->Mod S h h'->R (.tuple #[]) h') :
  Zt Y 12 [.pointer (some ⟨p,0,none⟩)] h R:=by
 obtain⟨row,cN,I,rs,cs,ss,O,V,hc,hO,ac,hn,hA,hS⟩:=O;refine .o H ?_;have e0:=O.rowN;have ah:row.length<=n:=by rw[ac];exact Zps
 simp[Y12,Yw.wp,O.p0,e0];refine Zp (Xil p n row cN I rs cs ss h) (fun e _=>row.length-Zx e 4) ⟨0,I,_,_,rfl,by omega,O,V.len,?_,Mod.refl h⟩ ?_
 ·intro j _;omega
 rintro e h' ⟨i,G,v1,v5,rfl,hi,O1,ad,hz,hm⟩;by_cases J:i<row.length
 ·have hk:=V.rv i J;have U:Xe row i<G.length:=by omega
  have e2:=O1.seatsN;have O2:Xb _ p row cN (G.set (Xe row i) 0) rs cs ss:=O1.setSeat U 0;simp only[Int.natCast_zero] at O2;have w4:=wrapS (i:=i);simp[J,Zl O.row.ok,Zl O1.cQ.ok,e0,O1.rowAt,O1.p2,e2,U,O1.seatF,O1.seatAt,Xo.open,w4];refine nx ⟨i+1,_,.int .i64 (Xe row i:Int),.bool true,by simp,by omega,O2,by simp[ad],?_,hm.trans (Mod.set rfl)⟩;intro j X;rw[U3 U];by_cases aa:j=Xe row i
  ·rw[if_pos aa];exact .inl rfl
  rw[if_neg aa];rcases hz j X with g|⟨g1,g2⟩
  ·exact .inl g
  refine .inr ⟨g1,?_⟩;have:=V.sv j X (by omega);have:Xe I j≠i+1:=fun e=>aa (by rw[<-this.2,e];rfl);omega
 have ag:¬((i:Int)<row.length):=by omega
 have O2:=O1.cut (m:=0) (by omega);have hfz:hfz h' p 0=false:=O1.cM.hfz;simp[J,O1.p0,X1 O1.row.ok,Xo.open,hfz];have ab:∀j,j<n->Xe G j=0:=by
  intro j X;rcases hz j X with g|⟨g1,g2⟩
  ·exact g
  have:=V.sv j X (by omega);omega
 have ae:Zhy n (Z0 cN G)=0:=by
  unfold Zhy;rw[List.countP_eq_zero];intro k hk;simp[Z0,ab k (List.mem_range.1 hk)]
 refine hr _ ⟨[],cN,G,{ rs with n:=0 },cs,ss,by simpa using O2,⟨ad,?_,?_,?_⟩,hc,?_,?_,hn,?_,hS⟩ ?_
 ·intro i hi;cases hi
 ·intro i hi;cases hi
 ·intro k hk h0;exact absurd (ab k hk) h0
 ·intro j _ X;cases X
 ·rw[ae];rfl
 ·intro k hk;simp[Z0,ab k hk]
 have hp:S p:=by rw[hS];exact .inl rfl
 have af:S ss.b:=by rw[hS];exact .inr (.inr (.inl rfl))
 exact (hm.mono (fun i _ hi=>by rw[hi];exact af)).trans (Mod.set hp)
def Zsn{a:Option Addr}{n c:Nat}:(Value.slice a n c).cells=#[.slice a n c]:=rfl
def Z1r{c:Array cR}:(Value.agg c).cells=c:=rfl
def Yo.of_new{b:Nat}{h:Zk}{c:Array cR}{t:TypeId}(hb:b=h.size:=by simp):Yo (h.push (.cells c t)) b c:=hb ▸ Yo.new
def Zjn(k:Int):Nat:=if k<0 then 0 else if 16384<k then 16384 else k.toNat
def Zm4(H:Y.cL 6 Y6){k:Int}{R:Ze}
  (hr:∀h' p S,Q8 h' p (Zjn k) (fun _=>none) S->(∀b,S b->h.size<=b)->Ext h h'->R (.pointer (some ⟨p,0,none⟩)) h') :
  Zt Y 6 [.int .i64 k] h R:=by
 refine .o H ?_;have hN:(if 16384<if k<0 then 0 else k then 16384 else if k<0 then 0 else k)=((Zjn k:Nat):Int):=by
  unfold Zjn
  split<;>split<;>(try split)<;>omega
 have O:Zjn k<=16384:=by unfold Zjn;split<;>(try split)<;>omega
 generalize aa:Zjn k=N at *
 have J:∀(h':Zk)(G I p:Nat),Yo h' G (Array.replicate N (.int .i64 0))->Yo h' I (Array.replicate N (.int .i64 0))->Yo h' p #[Sl.nil.v,(Sl.at G N N).v,(Sl.at I N N).v] ->
   h.size<=G->h.size<=I->h.size<=p->G≠I->p≠G->p≠I->Ext h h'->R (.pointer (some ⟨p,0,none⟩)) h':=by
  intro h' G I p B1 B2 B3 g1 g2 g3 g4 g5 g6 he;have U:∀j,Xe (List.replicate N 0) j=0:=by intro j;simp[Xe,List.getElem?_replicate];split<;>rfl
  refine hr h' p (fpO p Sl.nil (Sl.at G N N) (Sl.at I N N)) ⟨[],List.replicate N 0,List.replicate N 0,Sl.nil,Sl.at G N N,Sl.at I N N,⟨B3,?_,?_,?_,rfl,rfl,g5,g6,g4,?_,?_,?_⟩,⟨by simp,?_,?_,?_⟩,by simp,?_,?_,O,?_,fun b=>Iff.rfl⟩ ?_ he
  ·exact Yh.nil
  ·refine⟨by simp,.inr ⟨rfl,rfl,rfl,Xi4 _,by simp;omega,_,B1,by simp,by simp[Zie]⟩⟩
  ·refine⟨by simp,.inr ⟨rfl,rfl,rfl,Xi4 _,by simp;omega,_,B2,by simp,by simp[Zba]⟩⟩
  ·intro h;cases h
  ·intro h;cases h
  ·intro h;cases h
  ·intro i X;cases X
  ·intro i X;cases X
  ·intro k hk h0;exact absurd (U k) h0
  ·intro j _ hj;cases hj
  ·symm;unfold Zhy;simp only[Xld];rw[List.countP_eq_zero];intro k hk;simp[Z0,U]
  ·intro k hk;simp[Z0,U]
  rintro b (rfl|rfl|rfl|⟨h,_⟩)
  ·exact g3
  ·exact g1
  ·exact g2
  cases h
 have b1:(N:Int)<=9223372036854775807:=by omega
 have b2:8 * (N:Int)<=281474976710656:=by omega
 simp[Y6,Yw.wp,hN,Va,Xdj,Vm,Ym.cK,Instr.fill,Zsn,Z1r,b1,b2];refine⟨fun t1 t2 t3=>?_,fun t1 t2 t3=>?_⟩
 ·exact J _ h.size (h.size+1) (h.size+1+1) ((Yo.new.push).push) ((Yo.of_new).push) (Yo.of_new) (by omega) (by omega) (by omega) (by omega) (by omega) (by omega) ((Mod.push.trans Mod.push).trans Mod.push)
 exact J _ (h.size+1) h.size (h.size+1+1) ((Yo.of_new).push) ((Yo.new.push).push) (Yo.of_new) (by omega) (by omega) (by omega) (by omega) (by omega) (by omega) ((Mod.push.trans Mod.push).trans Mod.push)
end
inductive Yx(I:Nat->Int->Prop)(E:Nat->Nat->Int->Prop):Nat->Int->Prop
 |init {b:Nat} {c:Int}:I b c->Yx I E b c
 |step {a b:Nat} {c w:Int}:Yx I E a c->E a b w->Yx I E b (c+w)
structure Un(I:Nat->Int->Prop)(E:Nat->Nat->Int->Prop)(b:Nat)(d:Int):Prop where
 le:d<=1152921504606846976
 all:∀c,Yx I E b c->d<=c
 is:d=1152921504606846976\/Yx I E b d
def RxW(ord:Zd)(cost:Nat->Int)(A:Vn)(b:Nat)(x:Int):Prop:=(b∈ord/\cost b<=x)\/∃c,A b=some c/\c<=x
def Uj(f:Nat->Int)(k:Nat)(x:Int):Nat->Int:=fun j=>if j=k then x else f j
section
variable{n:Nat}{I:Nat->Int->Prop}{E:Nat->Nat->Int->Prop}{ord:Zd}{cost:Nat->Int}{A:Vn}{pI pI':Zf}{pE pE':Nat->Zf}
def Za1{l:Zd}:∀{n:Nat},l.Nodup->(∀a,a∈l->a<n)->l.length<=n:=by
 intro n
 induction n generalizing l with
 |zero =>
  intro _ lt
  cases l with
  |nil=>simp
  |cons x r=>exact absurd (lt x (by simp)) (by omega)
 |succ n H =>
  intro G lt;have h1:=H (l:=l.erase n) (G.erase n) (fun a J=>by
   have O:=(G.mem_erase_iff).1 J;have:=lt a O.2;omega)
  have R:l.length<=(l.erase n).length+1:=by
   rw[List.length_erase]
   split<;>omega
  omega
end
structure Zgq(n:Nat)(I:Nat->Int->Prop)(E:Nat->Nat->Int->Prop):Prop where
 i0:∀b c,I b c->b<n/\0<=c
 e0:∀a b w,E a b w->b<n/\0<=w
structure Zau(n:Nat)(I:Nat->Int->Prop)(E:Nat->Nat->Int->Prop)(ord:Zd)(cost:Nat->Int)(A:Vn)(pI:Zf)(pE:Nat->Nat->Int->Prop):Prop where
 nd:ord.Nodup
 lt:∀a,a∈ord->a<n
 off:∀a,a∈ord->A a=none
 wS:∀a,a∈ord->cost a=1152921504606846976\/Yx I E a (cost a)
 wA:∀b c,b<n->A b=some c->c=1152921504606846976\/Yx I E b c
 bS:∀a,a∈ord->0<=cost a/\cost a<=1152921504606846976
 bA:∀b c,b<n->A b=some c->0<=c/\c<=1152921504606846976
 le:∀a,a∈ord->∀b c,b<n->A b=some c->cost a<=c
 st:∀b c,I b c->pI b\/1152921504606846976<=c\/RxW ord cost A b c
 rx:∀a,a∈ord->∀b w,E a b w->pE a b w\/1152921504606846976<=cost a+w\/RxW ord cost A b (cost a+w)
section
variable{n:Nat}{I:Nat->Int->Prop}{E:Nat->Nat->Int->Prop}{ord:Zd}{cost:Nat->Int}{A:Vn}{pI pI':Zf}{pE pE':Nat->Nat->Int->Prop}
def Zau.start(G:∀b c,I b c->pI b):Zau n I E [] cost (fun _=>none) pI pE :=
 ⟨Xmi,fun a h=>by simp at h,fun a h=>by simp at h,fun a h=>by simp at h,fun b c _ h=>by simp at h,fun a h=>by simp at h,fun b c _ h=>by simp at h,fun a h=>by simp at h,fun b c h=>.inl (G b c h),fun a h=>by simp at h⟩
def Zau.less(d:Zau n I E ord cost A pI pE)(H:∀b c,I b c->pI b->pI' b\/1152921504606846976<=c\/RxW ord cost A b c)(J:∀a,a∈ord->∀b w,E a b w->pE a b w->pE' a b w\/1152921504606846976<=cost a+w\/RxW ord cost A b (cost a+w)):Zau n I E ord cost A pI' pE' :=
 ⟨d.nd,d.lt,d.off,d.wS,d.wA,d.bS,d.bA,d.le,fun b c h=>(d.st b c h).elim (H b c h) .inr,fun a G b w h=>(d.rx a G b w h).elim (J a G b w h) .inr⟩
def Zau.pop(d:Zau n I E ord cost A (fun _=>False) (fun _ _ _=>False)){k:Nat}{c:Int}(m:Zo1 n A k c):
  k ∉ ord/\Zau n I E (ord++[k]) (Uj cost k c) (Zej A k) (fun _=>False) (fun a _ _=>a=k)/\(∀a,a∈ord++[k]->Uj cost k c a<=c)/\(0<=c/\c<=1152921504606846976)/\(∀b x,b<n->Zej A k b=some x->c<=x):=by
 obtain⟨hk,R,U⟩:=m;have hn:k ∉ ord:=fun h=>by rw[d.off k h] at R;cases R
 have hc:∀a,a∈ord->Uj cost k c a=cost a:=fun a H=>by
  unfold Uj;rw[if_neg (fun e=>hn (by rw[<-e];exact H))]
 have O:Uj cost k c k=c:=by simp[Uj]
 have ba:=d.bA k c hk R;have G:∀a,a∈ord++[k]->a∈ord\/a=k:=fun a H=>by simpa using H
 have J:∀b x,Zej A k b=some x->b≠k/\A b=some x:=fun b x h=>by
  unfold Zej at h;by_cases e:b=k
  ·rw[if_pos e] at h;cases h
  rw[if_neg e] at h;exact⟨e,h⟩
 have X:∀b x,b<n->A b=some x->c<=x:=fun b x hb h=>by
  rcases U b x hb h with h|h<;>omega
 have rx:∀b x,RxW ord cost A b x->RxW (ord++[k]) (Uj cost k c) (Zej A k) b x:=by
  rintro b x (⟨h1,h2⟩|⟨y,h1,h2⟩)
  ·exact .inl ⟨by simp[h1],by rw[hc b h1];exact h2⟩
  by_cases e:b=k
  ·subst e;rw[R] at h1
   cases h1
   exact .inl ⟨by simp,by rw[O];exact h2⟩
  exact .inr ⟨y,by unfold Zej;rw[if_neg e];exact h1,h2⟩
 have aa:∀a,a∈ord++[k]->Uj cost k c a<=c:=fun a H=>by
  rcases G a H with h|h
  ·rw[hc a h];exact d.le a h k c hk R
  subst h;rw[O];exact Xkh _
 refine⟨hn,⟨?_,?_,?_,?_,?_,?_,?_,?_,?_,?_⟩,aa,?_,?_⟩
 ·rw[Xl9];exact⟨d.nd,by simp,fun a H b hb=>by simp at hb;subst hb;exact fun e=>hn (by rw[<-e];exact H)⟩
 ·intro a H;rcases G a H with h|h
  ·exact d.lt a h
  omega
 ·intro a H;unfold Zej;rcases G a H with h|h
  ·split
   ·rfl
   exact d.off a h
  rw[if_pos h]
 ·intro a H;rcases G a H with h|h
  ·rw[hc a h];exact d.wS a h
  subst h;rw[O];exact d.wA a c hk R
 ·intro b x hb h;exact d.wA b x hb (J b x h).2
 ·intro a H;rcases G a H with h|h
  ·rw[hc a h];exact d.bS a h
  subst h;rw[O];exact ba
 ·intro b x hb h;exact d.bA b x hb (J b x h).2
 ·intro a H b x hb h;have h1:=aa a H;have h2:=X b x hb (J b x h).2;omega
 ·intro b x h;exact .inr (((d.st b x h).resolve_left id).imp id (rx b x))
 ·intro a H b w h;rcases G a H with h1|h1
  ·right;rw[hc a h1];exact ((d.rx a h1 b w h).resolve_left id).imp id (rx b _)
  exact .inl h1
 ·exact ba
 intro b x hb h;exact X b x hb (J b x h).2
def Zau.put(d:Zau n I E ord cost A pI pE){b:Nat}{x:Int}(hb:b<n)(X:b ∉ ord)(hw:x=1152921504606846976\/Yx I E b x)(hx:0<=x/\x<=1152921504606846976)(O:∀a,a∈ord->cost a<=x):
  Zau n I E ord cost (Zad n A b x) pI pE/\RxW ord cost (Zad n A b x) b x:=by
 have key:Zpz n b=true:=by simp[Zpz];omega
 have e:(b:Int).toNat=b:=by simp
 by_cases hp:Zes n A b x=true
 ·have G:Zad n A b x=fun j=>if j=b then some x else A j:=by unfold Zad;rw[if_pos hp,e]
  have U:∀y z,RxW ord cost A y z->RxW ord cost (Zad n A b x) y z:=by
   rintro y z (h|⟨u,h1,h2⟩)
   ·exact .inl h
   right;rw[G];by_cases H:y=b
   ·subst H;refine⟨x,by simp,?_⟩;unfold Zes at hp;rw[key,e,h1] at hp;simp at hp;omega
   exact⟨u,by simp[H];exact h1,h2⟩
  refine⟨⟨d.nd,d.lt,?_,d.wS,?_,d.bS,?_,?_,fun y z h=>(d.st y z h).imp id (.imp id (U y z)),fun a J y w h=>(d.rx a J y w h).imp id (.imp id (U y _))⟩,.inr ⟨x,by rw[G];simp,Xkh _⟩⟩
  ·intro a J;rw[G];have:a≠b:=fun e=>X (e ▸ J);simp[this];exact d.off a J
  ·intro y c hy h;rw[G] at h;by_cases H:y=b
   ·simp[H] at h;subst h H;exact hw
   simp[H] at h;exact d.wA y c hy h
  ·intro y c hy h;rw[G] at h;by_cases H:y=b
   ·simp[H] at h;subst h;exact hx
   simp[H] at h;exact d.bA y c hy h
  intro a J y c hy h;rw[G] at h;by_cases H:y=b
  ·simp[H] at h;subst h;exact O a J
  simp[H] at h;exact d.le a J y c hy h
 have G:Zad n A b x=A:=by unfold Zad;rw[if_neg hp]
 rw[G];refine⟨d,?_⟩;unfold Zes at hp;rw[key,e] at hp
 cases R:A b with
 |none=>rw[R] at hp;simp at hp
 |some u =>
  rw[R] at hp;simp at hp;exact .inr ⟨u,R,by omega⟩
def Zau.walk(C:Zgq n I E)(d:Zau n I E ord cost A (fun _=>False) (fun _ _ _=>False)){b:Nat}{c:Int}(w:Yx I E b c):1152921504606846976<=c\/(b∈ord/\cost b<=c)\/∃k x,k<n/\A k=some x/\x<=c:=by
 have G:∀b c,b<n->RxW ord cost A b c->(b∈ord/\cost b<=c)\/∃k x,k<n/\A k=some x/\x<=c:=fun b c hb h=>h.elim .inl (fun ⟨x,h1,H⟩=>.inr ⟨b,x,hb,h1,H⟩)
 induction w with
 |init h=>exact ((d.st _ _ h).resolve_left id).imp id (G _ _ (C.i0 _ _ h).1)
 |step w h O =>
  have R:=C.e0 _ _ _ h;rcases O with h0|⟨h1,H⟩|⟨k,x,h1,H,X⟩
  ·exact .inl (by omega)
  ·rcases (d.rx _ h1 _ _ h).resolve_left id with g|g
   ·exact .inl (by omega)
   rcases G _ _ R.1 g with⟨J,g2⟩|⟨k,x,U,J,g2⟩
   ·exact .inr (.inl ⟨J,by omega⟩)
   exact .inr (.inr ⟨k,x,U,J,by omega⟩)
  exact .inr (.inr ⟨k,x,h1,H,by omega⟩)
def Zau.popped(C:Zgq n I E)(d:Zau n I E ord cost A (fun _=>False) (fun _ _ _=>False)){k:Nat}{c:Int}(m:Zo1 n A k c):Un I E k c:=by
 obtain⟨J,H,G⟩:=m;refine⟨(d.bA k c J H).2,fun c' w=>?_,d.wA k c J H⟩;have:=(d.bA k c J H).2;rcases d.walk C w with h|⟨h1,_⟩|⟨j,x,h1,O,R⟩
 ·omega
 ·have:=d.off k h1;rw[H] at this;cases this
 rcases G j x h1 O with h|h<;>omega
def Zau.least(C:Zgq n I E)(d:Zau n I E ord cost A (fun _=>False) (fun _ _ _=>False))(h0:∀k,k<n->A k=none){b:Nat}(hb:b<n):Un I E b (if b∈ord then cost b else 1152921504606846976):=by
 have G:∀c,Yx I E b c->1152921504606846976<=c\/b∈ord/\cost b<=c:=fun c w=>by
  rcases d.walk C w with h|h|⟨k,x,h1,H,_⟩
  ·exact .inl h
  ·exact .inr h
  rw[h0 k h1] at H;cases H
 by_cases h:b∈ord
 ·rw[if_pos h];have:=(d.bS b h).2;exact⟨this,fun c w=>(G c w).elim (fun g=>by omega) And.right,d.wS b h⟩
 rw[if_neg h];exact⟨Xkh _,fun c w=>(G c w).elim id (fun g=>absurd g.1 h),.inl rfl⟩
end
def Z1t:∀{cs:Zb}{k p:Nat},Uc k cs=none->p<cs.length->Xa (Zm cs p)=true:=by
 intro cs
 induction cs with
 |nil=>intro k p _ hp;simp at hp
 |cons x r G =>
  intro k p h hp;rw[Uc] at h
  split at h
  ·rename_i hx
   cases p with
   |zero=>simpa[Zm] using hx
   |succ p =>
    have:=G h (by simpa using hp);simpa[Zm] using this
  cases h
def Z7i{ins cP:Int}{cs:Zb}(h:(Qt ins cP cs).2=0):∀j,j<cs.length->Xa (Zm cs j)=true:=by
 unfold Qt at h
 split at h
 ·rename_i c;exact absurd h c
 split at h
 ·cases h
 ·split at h
  ·simp[Ui] at h
  rename_i hb;exact fun j G=>Z1t hb G
def Zhl{c:Int}(h:Xa c=true):c=1152921504606846976\/(0<=c/\c<=2147483648):=by
 unfold Xa at h;simp at h;omega
def Zz8{ins cP i k:Int}{cs:Zb}(h:(Qt ins cP cs).2=0):atV ins cP cs i k=1152921504606846976\/(0<=atV ins cP cs i k/\atV ins cP cs i k<=2147483648):=by
 unfold atV
 split
 ·exact .inl rfl
 split
 ·rename_i c1 G;have h0:0<=i * cP:=Xkk (by omega) (by omega);exact Zhl (Z7i h _ (by omega))
 exact .inl rfl
def Wn{N:Zs}(ok:Yl N){a b:Int}:Yp N a b=1152921504606846976\/(0<=Yp N a b/\Yp N a b<=2147483648):=by
 unfold Yp
 split
 ·exact .inl rfl
 unfold Zjy;simp only
 split
 ·exact .inl rfl
 split
 ·exact .inl rfl
 rename_i c;have:Yi N.ts.length (Zq N.vs (Zq N.as a.toNat).b.toNat).c=true:=by simpa using c
 simp[Yi] at this;exact Zz8 (ok.tab _ (by omega))
def Wd{N:Zs}(ok:Yl N){a:Int}:Zr N a=1152921504606846976\/(0<=Zr N a/\Zr N a<=2147483648):=by
 unfold Zr
 split
 ·rename_i c;simp[Yi] at c;exact Zhl (ok.w _ (by omega))
 exact .inl rfl
def Zl0{N:Zs}{a b:Int}(h:Yp N a b≠1152921504606846976):Yi N.as.length a=true/\Yi N.as.length b=true/\(Zq N.as a.toNat).b=(Zq N.as b.toNat).a/\Yi N.vs.length (Zq N.as a.toNat).b=true:=by
 unfold Yp at h
 split at h
 ·exact absurd rfl h
 rename_i c;unfold Zjy at h;simp only at h
 split at h
 ·exact absurd rfl h
 rename_i d;refine⟨?_,?_,?_,?_⟩
 ·cases e:Yi N.as.length a with
  |true=>rfl
  |false=>exact absurd (.inl e) c
 ·cases e:Yi N.as.length b with
  |true=>rfl
  |false=>exact absurd (.inr e) c
 ·exact Xka fun e=>d (.inl e)
 cases e:Yi N.vs.length (Zq N.as a.toNat).b with
 |true=>rfl
 |false=>exact absurd (.inr e) d
def EdW(N:Zs)(a b:Nat)(w:Int):Prop:=Yp N a b≠1152921504606846976/\Zr N b≠1152921504606846976/\w=Yp N a b+Zr N b
def Q6(N:Zs)(s:Int)(b:Nat)(c:Int):Prop:=(b:Int)=s/\c=0/\Zr N s≠1152921504606846976
def Ue{N:Zs}{a:Int}(h:Zr N a≠1152921504606846976):∃k:Nat,a=k/\k<N.as.length:=by
 unfold Zr at h
 split at h
 ·rename_i c;simp[Yi] at c;exact⟨a.toNat,by omega,by omega⟩
 exact absurd rfl h
def Z5n{p:Yt->Bool}{a:Int}:∀{l:List Yt}{k:Nat},a∈Uw p k l↔∃i,i<l.length/\a=((k+i:Nat):Int)/\p (Zq l i)=true:=by
 intro l
 induction l with
 |nil=>intro k;simp[Uw]
 |cons t r H =>
  intro k;have e:Uw p k (t::r)=(if p t then [(k:Int)] else [])++Uw p (k+1) r:=by simp only[Uw];split<;>simp_all
  rw[e,Xms,H];constructor
  ·rintro (h|⟨i,h1,I,G⟩)
   ·split at h
    ·rename_i c;simp at h;exact⟨0,by simp,by omega,by simpa[Zq] using c⟩
    simp at h
   exact⟨i+1,by simpa using h1,by omega,by simpa[Zq] using G⟩
  rintro⟨i,h1,I,G⟩
  cases i with
  |zero =>
   left;have:p t=true:=by simpa[Zq] using G
   simp[this];omega
  |succ i=>exact .inr ⟨i,by simpa using h1,by omega,by simpa[Zq] using G⟩
def Zr3{as:List Yt}{v a:Int}:a∈Za7 as v↔∃i:Nat,i<as.length/\a=i/\(Zq as i).a=v:=by
 unfold Za7;rw[Z5n];simp
def Xak{N:Zs}{a b:Nat}(h:Yp N a b≠1152921504606846976):Yi N.vs.length (Zq N.as a).b=true/\(b:Int)∈Za7 N.as (Zq N.as a).b:=by
 obtain⟨h1,G,H,h4⟩:=Zl0 h;simp[Yi] at G;refine⟨by simpa using h4,Zr3.2 ⟨b,by omega,rfl,?_⟩⟩;simpa using H.symm
abbrev Xm:Int:=1152921504606846976
def Vs(N:Zs)(a:Nat):Nat:=(Zq N.as a).a.toNat
def Ys(N:Zs)(a:Nat):Nat:=(Zq N.as a).b.toNat
def AtI(s:Nat)(b:Nat)(c:Int):Prop:=b=s/\c=0
def EdC(N:Zs)(ce:Nat->Int)(k:Int)(a b:Nat)(w:Int):Prop:=EdW N a b w/\ce (Vs N b)=k/\ce (Ys N b)=k
def Zga(N:Zs)(ce:Nat->Int)(k:Int)(i o:Nat)(x:Int):Prop:=∃a y,Yx (AtI i) (EdC N ce k) a y/\Yp N a o≠Xm/\x=y+Yp N a o
structure Q0(P:Int->Prop)(d:Int):Prop where
 le:d<=Xm
 all:∀x,P x->d<=x
 is:d=Xm\/P d
def Yx.then{I:Nat->Int->Prop}{E E':Nat->Nat->Int->Prop}{a b:Nat}{y z:Int}(h:Yx I E a y)(k:Yx (AtI a) E' b z)(le:∀a b w,E' a b w->E a b w):Yx I E b (y+z):=by
 induction k with
 |init h'=>obtain⟨rfl,rfl⟩:=h';simpa using h
 |step _ e G=>rw[<-Int.add_assoc];exact .step G (le _ _ _ e)
def Zho{N:Zs}{ce:Nat->Int}{k:Int}{i a:Nat}{y:Int}(w:Yx (AtI i) (EdC N ce k) a y)(G:ce (Ys N i)=k):ce (Ys N a)=k:=by
 cases w with
 |init h=>obtain⟨rfl,_⟩:=h;exact G
 |step _ e=>exact e.2.2
def Qg{N:Zs}{a b:Nat}(h:Yp N a b≠Xm):Ys N a=Vs N b:=by
 have:=(Zl0 h).2.2.1;simp at this;unfold Ys Vs;rw[this]
def Zwm(N:Zs)(ce f:Nat->Int)(k:Int)(ent:Nat->Nat->Int)(a b:Nat)(w:Int):Prop :=
 f (Vs N b)=f (Ys N a)/\f (Ys N b)≠f (Ys N a)/\ce (Vs N b)=k/\ce (Ys N b)=k/\ent a b≠Xm/\Zr N b≠Xm/\w=ent a b+Zr N b
def Xf9(N:Zs)(f:Nat->Int)(ent:Nat->Nat->Int)(a o:Nat)(w:Int):Prop:=f (Vs N o)=f (Ys N a)/\f (Ys N o)≠f (Ys N a)/\ent a o≠Xm/\w=ent a o
def Ztm(N:Zs)(ce f:Nat->Int)(k:Int)(ent:Nat->Nat->Int)(i o:Nat)(x:Int):Prop:=∃a y w,Yx (AtI i) (Zwm N ce f k ent) a y/\Xf9 N f ent a o w/\x=y+w
def Zju(f ce:Nat->Int):Prop:=∀u v,f u=f v->ce u=ce v
def InK(N:Zs)(f:Nat->Int)(a:Nat):Prop:=f (Vs N a)≠f (Ys N a)
def Zge(N:Zs)(f:Nat->Int)(ent:Nat->Nat->Int):Prop:=∀a b,InK N f a->f (Vs N b)=f (Ys N a)->f (Ys N b)≠f (Ys N a)->Q0 (Zga N f (f (Ys N a)) a b) (ent a b)
section
variable{N:Zs}{ce f:Nat->Int}{k:Int}{ent:Nat->Nat->Int}{i o:Nat}
def Zp2{a:Nat}{y:Int}(w:Yx (AtI i) (Zwm N ce f k ent) a y)(G:InK N f i)(hc:ce (Ys N i)=k):InK N f a/\ce (Ys N a)=k:=by
 induction w with
 |init h=>obtain⟨rfl,_⟩:=h;exact⟨G,hc⟩
 |step _ e _=>exact⟨fun h=>e.2.1 (by rw[<-e.1];exact h.symm),e.2.2.2.1⟩
def Z0s(hb:Zju f ce)(H:Zge N f ent)(I:InK N f i)(hc:ce (Ys N i)=k){a:Nat}{y:Int}(w:Yx (AtI i) (Zwm N ce f k ent) a y):Yx (AtI i) (EdC N ce k) a y:=by
 induction w with
 |init h=>exact .init h
 |@step a b c w w0 e J =>
  obtain⟨O,e2,e3,R,U,X,e7⟩:=e;obtain⟨ha,G⟩:=Zp2 w0 I hc;obtain⟨x,z,g1,g2,g3⟩:=((H a b ha O e2).is).resolve_left U;have g:∀p q u,EdC N f (f (Ys N a)) p q u->EdC N ce k p q u:=fun p q u h=>⟨h.1,by rw[<-G];exact hb _ _ h.2.1,by rw[<-G];exact hb _ _ h.2.2⟩
  have:=Yx.step (J.then g1 g) (show EdC N ce k x b (Yp N x b+Zr N b) from ⟨⟨g2,X,rfl⟩,e3,R⟩);rw[e7,g3];rw[show c+(z+Yp N x b+Zr N b)=c+z+(Yp N x b+Zr N b) by omega];exact this
def Zy2(ok:Yl N){a b:Nat}{w:Int}(e:EdC N ce k a b w):0<=w:=by
 obtain⟨⟨G,H,rfl⟩,_⟩:=e;have h1:=Wn ok (a:=a) (b:=b);have I:=Wd ok (a:=b);omega
def Zbb(ok:Yl N){a:Nat}{y:Int}(w:Yx (AtI i) (EdC N ce k) a y):0<=y:=by
 induction w with
 |init h=>obtain⟨_,rfl⟩:=h;omega
 |step _ e G=>have:=Zy2 ok e;omega
def Zp4(hb:Zju f ce)(he:Zge N f ent)(ok:Yl N)(hi:InK N f i)(hc:ce (Ys N i)=k){a:Nat}{y:Int}(w:Yx (AtI i) (EdC N ce k) a y):
  Xm<=y\/∃p H I,Yx (AtI i) (Zwm N ce f k ent) p H/\Yx (AtI p) (EdC N f (f (Ys N p))) a I/\0<=H/\H+I<=y:=by
 induction w with
 |@init b c h =>
  obtain⟨rfl,rfl⟩:=h;exact .inr ⟨b,0,0,.init ⟨rfl,rfl⟩,.init ⟨rfl,rfl⟩,by omega,by omega⟩
 |@step a b c w w0 e U =>
  have hw:=Zy2 ok e;rcases U with U|⟨p,H,I,J,g2,g0,g3⟩
  ·exact .inl (by omega)
  obtain⟨⟨O,X,t3⟩,e2,e3⟩:=e;obtain⟨hp,aa⟩:=Zp2 J hi hc;have R:=Zho g2 rfl;have G:f (Vs N b)=f (Ys N p):=by rw[<-Qg O];exact R
  by_cases q:f (Ys N b)=f (Ys N p)
  ·exact .inr ⟨p,H,I+w,J,.step g2 ⟨⟨O,X,t3⟩,G,q⟩,g0,by omega⟩
  have hl:=he p b hp G q;have ab:=hl.all (I+Yp N a b) ⟨a,I,g2,O,rfl⟩;have ac:=Wd ok (a:=b);by_cases z:ent p b=Xm
  ·exact .inl (by have:=Zbb ok g2;omega)
  have ad:0<=ent p b:=by
   obtain⟨x,u,q1,q2,q3⟩:=hl.is.resolve_left z;have:=Zbb ok q1;have:=Wn ok (a:=x) (b:=b);omega
  exact .inr ⟨b,H+(ent p b+Zr N b),0,.step J ⟨G,q,e2,e3,z,X,rfl⟩,.init ⟨rfl,rfl⟩,by omega,by omega⟩
def Zuu(hb:Zju f ce)(X:Zge N f ent)(ok:Yl N)(hi:InK N f i)(hc:ce (Ys N i)=k)(ho:ce (Vs N o)=k)(aa:ce (Ys N o)≠k){d:Int}:
  Q0 (Ztm N ce f k ent i o) d↔Q0 (Zga N ce k i o) d:=by
 have H:∀x,Ztm N ce f k ent i o x->Zga N ce k i o x:=by
  rintro x ⟨a,y,w,O,⟨g2,g3,g4,g5⟩,rfl⟩;obtain⟨ha,R⟩:=Zp2 O hi hc;obtain⟨p,z,q1,q2,q3⟩:=(X a o ha g2 g3).is.resolve_left g4;have g:∀p q u,EdC N f (f (Ys N a)) p q u->EdC N ce k p q u:=fun p q u h=>⟨h.1,by rw[<-R];exact hb _ _ h.2.1,by rw[<-R];exact hb _ _ h.2.2⟩
  exact⟨p,y+z,(Z0s hb X hi hc O).then q1 g,q2,by rw[g5,q3];omega⟩
 have G:∀x,Zga N ce k i o x->Xm<=x\/∃I,I<=x/\Ztm N ce f k ent i o I:=by
  rintro x ⟨a,y,O,g2,rfl⟩;have ht:=Wn ok (a:=a) (b:=o);rcases Zp4 hb X ok hi hc O with h|⟨p,y1,y2,h1,h2,h0,h3⟩
  ·exact .inl (by omega)
  obtain⟨hp,ab⟩:=Zp2 h1 hi hc;have ac:=Zho h2 rfl;have U:f (Vs N o)=f (Ys N p):=by rw[<-Qg g2];exact ac
  have J:f (Ys N o)≠f (Ys N p):=fun e=>aa (by rw[hb _ _ e];exact ab);have ad:=(X p o hp U J).all (y2+Yp N a o) ⟨a,y2,h2,g2,rfl⟩;by_cases z:ent p o=Xm
  ·exact .inl (by omega)
  exact .inr ⟨y1+ent p o,by omega,p,y1,ent p o,h1,⟨U,J,z,rfl⟩,rfl⟩
 constructor
 ·intro h;refine⟨h.le,fun x hx=>?_,h.is.imp id (H d)⟩;rcases G x hx with g|⟨I,O,g2⟩
  ·have:=h.le;omega
  have:=h.all I g2;omega
 intro h;refine⟨h.le,fun x hx=>h.all x (H x hx),?_⟩;rcases h.is with g|g
 ·exact .inl g
 rcases G d g with O|⟨I,O,g2⟩
 ·exact .inl (by have:=h.le;omega)
 have:=h.all I (H I g2);have e:I=d:=by omega
 exact .inr (e ▸ g2)
end
def Ug(ce:Nat->Nat->Int)(v a b:Nat):Nat->Nat
 |0=>0
 |k+1=>if ce (k+1) v≠ce (k+1) a/\ce (k+1) v≠ce (k+1) b then k+1 else Ug ce v a b k
def Zkh{ce:Nat->Nat->Int}{v a b:Nat}:∀{n:Nat},Ug ce v a b n<=n:=by
 intro n
 induction n with
 |zero=>exact Xi4 _
 |succ n G =>
  unfold Ug
  split
  ·exact Xi4 _
  omega
def Zkd{ce:Nat->Nat->Int}{v a b:Nat}:∀{n:Nat},Ug ce v a b n≠0->ce (Ug ce v a b n) v≠ce (Ug ce v a b n) a/\ce (Ug ce v a b n) v≠ce (Ug ce v a b n) b:=by
 intro n
 induction n with
 |zero=>intro h;exact absurd rfl h
 |succ n G =>
  intro h;unfold Ug at h ⊢
  split
  ·assumption
  rename_i c;rw[if_neg c] at h;exact G h
def Z4x{ce:Nat->Nat->Int}{v a b:Nat}{j:Nat}:∀{n:Nat},0<j->j<=n->ce j v≠ce j a->ce j v≠ce j b->j<=Ug ce v a b n:=by
 intro n
 induction n with
 |zero=>intro h1 G;omega
 |succ n I =>
  intro h1 G H h4;unfold Ug
  split
  ·exact G
  rename_i c;by_cases q:j=n+1
  ·subst q;exact absurd ⟨H,h4⟩ c
  exact I h1 (by omega) H h4
def Zks(n:Nat)(ce:Nat->Nat->Int):Prop:=∀j k,0<j->j<=k->k<=n->Zju (ce j) (ce k)
def Zjb(N:Zs)(n:Nat)(ce:Nat->Nat->Int)(ent:Nat->Nat->Nat->Int)(s t:Nat)(a b:Nat)(w:Int):Prop :=
 let k:=Ug ce (Ys N a) (Ys N s) (Vs N t) n
 if k=0 then EdW N a b w else InK N (ce k) a/\ce k (Vs N b)=ce k (Ys N a)/\ce k (Ys N b)≠ce k (Ys N a)/\ent k a b≠Xm/\Zr N b≠Xm/\w=ent k a b+Zr N b
section
variable{N:Zs}{n:Nat}{ce:Nat->Nat->Int}{ent:Nat->Nat->Nat->Int}{s t:Nat}
def Zd8(ok:Yl N){a b:Nat}{w:Int}(e:EdW N a b w):0<=w:=by
 obtain⟨G,H,rfl⟩:=e;have h1:=Wn ok (a:=a) (b:=b);have I:=Wd ok (a:=b);omega
def Zgs(O:∀k,0<k->k<=n->Zge N (ce k) (ent k)){I:Nat->Int->Prop}{a:Nat}{y:Int}(w:Yx I (Zjb N n ce ent s t) a y):Yx I (EdW N) a y:=by
 induction w with
 |init h=>exact .init h
 |@step a b c w w0 e H =>
  unfold Zjb at e;obtain⟨k,J⟩:∃k,Ug ce (Ys N a) (Ys N s) (Vs N t) n=k:=⟨_,rfl⟩
  simp only[J] at e;by_cases z:k=0
  ·rw[if_pos z] at e;exact .step H e
  rw[if_neg z] at e;obtain⟨R,U,e2,X,e6,e7⟩:=e;have G:k<=n:=by rw[<-J];exact Zkh
  obtain⟨x,u,g1,g2,g3⟩:=((O k (by omega) G a b R U e2).is).resolve_left X;have:=Yx.step (H.then g1 (fun p q u h=>h.1)) (show EdW N x b (Yp N x b+Zr N b) from ⟨g2,e6,rfl⟩);rw[e7,g3,show c+(u+Yp N x b+Zr N b)=c+u+(Yp N x b+Zr N b) by omega];exact this
def Zm8(ok:Yl N)(hn:Zks n ce)(he:∀k,0<k->k<=n->Zge N (ce k) (ent k)){I:Nat->Int->Prop}(hI:∀b c,I b c->b=s/\c=0){a:Nat}{y:Int}(w:Yx I (EdW N) a y):
  Xm<=y\/∃p G H,Yx I (Zjb N n ce ent s t) p G/\(Ug ce (Ys N p) (Ys N s) (Vs N t) n≠0->InK N (ce (Ug ce (Ys N p) (Ys N s) (Vs N t) n)) p) /\
   (if Ug ce (Ys N p) (Ys N s) (Vs N t) n=0 then a=p/\H=0 else Yx (AtI p) (EdC N (ce (Ug ce (Ys N p) (Ys N s) (Vs N t) n)) (ce (Ug ce (Ys N p) (Ys N s) (Vs N t) n) (Ys N p))) a H)/\0<=G/\G+H<=y:=by
 induction w with
 |@init b c h =>
  obtain⟨rfl,rfl⟩:=hI _ _ h;have hz:Ug ce (Ys N b) (Ys N b) (Vs N t) n=0:=by
   by_cases z:Ug ce (Ys N b) (Ys N b) (Vs N t) n=0
   ·exact z
   exact absurd rfl (Zkd z).1
  exact .inr ⟨b,0,0,.init h,fun h=>absurd hz h,by rw[if_pos hz];exact⟨rfl,rfl⟩,by omega,by omega⟩
 |@step a b c w w0 e ih =>
  have hw:=Zd8 ok e;rcases ih with ih|⟨p,G,H,g1,X,g2,g0,g3⟩
  ·exact .inl (by omega)
  obtain⟨t1,t2,t3⟩:=id e;have aa:=Qg t1;obtain⟨k,hk⟩:∃k,Ug ce (Ys N p) (Ys N s) (Vs N t) n=k:=⟨_,rfl⟩
  have ae:k<=n:=by rw[<-hk];exact Zkh
  have ah:=@Zkd ce (Ys N p) (Ys N s) (Vs N t) n;have J:=fun j=>@Z4x ce (Ys N p) (Ys N s) (Vs N t) j n;rw[hk] at X g2 ah;simp only[hk] at J;obtain⟨m,hm⟩:∃m,Ug ce (Ys N b) (Ys N s) (Vs N t) n=m:=⟨_,rfl⟩
  have ab:m<=n:=by rw[<-hm];exact Zkh
  have ac:=@Zkd ce (Ys N b) (Ys N s) (Vs N t) n;rw[hm] at ac;have O:∀(U:m≠0->InK N (ce m) b)(z:Int),0<=z->Yx I (Zjb N n ce ent s t) b z->z<=c+w->Xm<=c+w\/∃p G H,Yx I (Zjb N n ce ent s t) p G/\(Ug ce (Ys N p) (Ys N s) (Vs N t) n≠0->InK N (ce (Ug ce (Ys N p) (Ys N s) (Vs N t) n)) p) /\
   (if Ug ce (Ys N p) (Ys N s) (Vs N t) n=0 then b=p/\H=0 else Yx (AtI p) (EdC N (ce (Ug ce (Ys N p) (Ys N s) (Vs N t) n)) (ce (Ug ce (Ys N p) (Ys N s) (Vs N t) n) (Ys N p))) b H)/\0<=G/\G+H<=c+w:=by
   intro U z z0 hz zl;refine .inr ⟨b,z,0,hz,by rw[hm];exact U,?_,z0,by omega⟩;rw[hm]
   split
   ·exact⟨rfl,rfl⟩
   exact .init ⟨rfl,rfl⟩
  by_cases z:k=0
  ·rw[if_pos z] at g2;obtain⟨rfl,rfl⟩:=g2;refine O (fun ad h=>?_) (G+w) (by omega) (.step g1 ?_) (by omega)
   ·have q:=ac ad;have:=J m (by omega) ab (by rw[aa,h];exact q.1) (by rw[aa,h];exact q.2);omega
   unfold Zjb;simp only[hk];rw[if_pos z];exact e
  rw[if_neg z] at g2;have ai:=Zho g2 rfl;have R:ce k (Vs N b)=ce k (Ys N p):=by rw[<-aa];exact ai
  by_cases q:ce k (Ys N b)=ce k (Ys N p)
  ·refine .inr ⟨p,G,H+w,g1,by rw[hk];exact X,?_,g0,by omega⟩;rw[hk,if_neg z];exact .step g2 ⟨e,R,q⟩
  have af:=X z;have hl:=he k (by omega) ae p b af R q;have aj:=hl.all (H+Yp N a b) ⟨a,H,g2,t1,rfl⟩;have ak:=Wd ok (a:=b);by_cases u:ent k p b=Xm
  ·exact .inl (by have:=Zbb ok g2;omega)
  have al:0<=ent k p b:=by
   obtain⟨x,v,q1,q2,q3⟩:=hl.is.resolve_left u;have:=Zbb ok q1;have:=Wn ok (a:=x) (b:=b);omega
  refine O (fun ad h=>?_) (G+(ent k p b+Zr N b)) (by omega) (.step g1 ?_) (by omega)
  ·have qm:=ac ad;rcases Xi6 k m with c1|c1
   ·have ag:ce m (Ys N p)=ce m (Ys N b):=by
     rw[<-h];exact hn k m (by omega) (by omega) ab _ _ R.symm
    have:=J m (by omega) ab (by rw[ag];exact qm.1) (by rw[ag];exact qm.2);omega
   exact q (by rw[<-R];exact (hn m k (by omega) c1 ae _ _ h).symm)
  unfold Zjb;simp only[hk];rw[if_neg z];exact⟨af,R,q,u,t2,trivial⟩
def Zw8(ok:Yl N)(U:Zks n ce)(J:∀k,0<k->k<=n->Zge N (ce k) (ent k)){I:Nat->Int->Prop}(X:∀b c,I b c->b=s/\c=0){d:Int}:Un I (Zjb N n ce ent s t) t d↔Un I (EdW N) t d:=by
 have G:∀y,Yx I (EdW N) t y->Xm<=y\/∃y',y'<=y/\Yx I (Zjb N n ce ent s t) t y':=by
  intro y w;rcases Zm8 (t:=t) ok U J X w with h|⟨p,R,y2,H,aa,g2,g0,g3⟩
  ·exact .inl h
  split at g2
  ·obtain⟨rfl,rfl⟩:=g2;exact .inr ⟨R,by omega,H⟩
  rename_i z
  cases g2 with
  |init h=>obtain⟨rfl,rfl⟩:=h;exact .inr ⟨R,by omega,H⟩
  |step _ e=>exact absurd e.2.1.symm (Zkd z).2
 constructor
 ·intro h;refine⟨h.le,fun x hx=>?_,h.is.imp id (Zgs J)⟩;rcases G x hx with g|⟨O,H,g2⟩
  ·have:d<=Xm:=h.le;omega
  have:=h.all O g2;omega
 intro h;refine⟨h.le,fun x hx=>h.all x (Zgs J hx),?_⟩;rcases h.is with g|g
 ·exact .inl g
 rcases G d g with H|⟨O,H,g2⟩
 ·exact .inl (by have:d<=Xm:=h.le;have:Xm=1152921504606846976:=rfl;omega)
 have:=h.all O (Zgs J g2);have e:O=d:=by omega
 exact .inr (e ▸ g2)
end
def V6(P:Nat->Nat->Bool)(v:Nat):Nat->Nat
 |0=>0
 |k+1=>if P (k+1) v=true then k+1 else V6 P v k
def Zh7{P:Nat->Nat->Bool}{v:Nat}:∀{n:Nat},V6 P v n<=n:=by
 intro n
 induction n with
 |zero=>exact Xi4 _
 |succ n G =>
  unfold V6
  split
  ·exact Xi4 _
  omega
def Zkk{P:Nat->Nat->Bool}{v:Nat}:∀{n:Nat},V6 P v n≠0->P (V6 P v n) v=true:=by
 intro n
 induction n with
 |zero=>intro h;exact absurd rfl h
 |succ n G =>
  intro h;unfold V6 at h ⊢
  split
  ·assumption
  rename_i c;rw[if_neg c] at h;exact G h
def Z5k{P:Nat->Nat->Bool}{v:Nat}{j:Nat}:∀{n:Nat},0<j->j<=n->P j v=true->j<=V6 P v n:=by
 intro n
 induction n with
 |zero=>intro h1 G;omega
 |succ n I =>
  intro h1 G H;unfold V6
  split
  ·exact G
  rename_i c;by_cases q:j=n+1
  ·subst q;exact absurd H c
  exact I h1 (by omega) H
structure Z5x(N:Zs)(n:Nat)(ce:Nat->Nat->Int)(P:Nat->Nat->Bool)(s:Nat):Prop where
 cong:∀k u v,0<k->k<=n->ce k u=ce k v->P k u=P k v
 src:∀k,P k (Ys N s)=false
def Zj3(N:Zs)(n:Nat)(ce:Nat->Nat->Int)(ent:Nat->Nat->Nat->Int)(P:Nat->Nat->Bool)(a b:Nat)(w:Int):Prop :=
 let k:=V6 P (Ys N a) n
 if k=0 then EdW N a b w else InK N (ce k) a/\ce k (Vs N b)=ce k (Ys N a)/\ce k (Ys N b)≠ce k (Ys N a)/\ent k a b≠Xm/\Zr N b≠Xm/\w=ent k a b+Zr N b
section
variable{N:Zs}{n:Nat}{ce:Nat->Nat->Int}{ent:Nat->Nat->Nat->Int}{P:Nat->Nat->Bool}{s t:Nat}
def Zg1(O:∀k,0<k->k<=n->Zge N (ce k) (ent k)){I:Nat->Int->Prop}{a:Nat}{y:Int}(w:Yx I (Zj3 N n ce ent P) a y):Yx I (EdW N) a y:=by
 induction w with
 |init h=>exact .init h
 |@step a b c w w0 e H =>
  unfold Zj3 at e;obtain⟨k,J⟩:∃k,V6 P (Ys N a) n=k:=⟨_,rfl⟩
  simp only[J] at e;by_cases z:k=0
  ·rw[if_pos z] at e;exact .step H e
  rw[if_neg z] at e;obtain⟨R,U,e2,X,e6,e7⟩:=e;have G:k<=n:=by rw[<-J];exact Zh7
  obtain⟨x,u,g1,g2,g3⟩:=((O k (by omega) G a b R U e2).is).resolve_left X;have:=Yx.step (H.then g1 (fun p q u h=>h.1)) (show EdW N x b (Yp N x b+Zr N b) from ⟨g2,e6,rfl⟩);rw[e7,g3,show c+(u+Yp N x b+Zr N b)=c+u+(Yp N x b+Zr N b) by omega];exact this
def Zna(ok:Yl N)(lp:Z5x N n ce P s)(hn:Zks n ce)(he:∀k,0<k->k<=n->Zge N (ce k) (ent k)){I:Nat->Int->Prop}(hI:∀b c,I b c->b=s/\c=0){a:Nat}{y:Int}(w:Yx I (EdW N) a y):
  Xm<=y\/∃p G H,Yx I (Zj3 N n ce ent P) p G/\(V6 P (Ys N p) n≠0->InK N (ce (V6 P (Ys N p) n)) p) /\
   (if V6 P (Ys N p) n=0 then a=p/\H=0 else Yx (AtI p) (EdC N (ce (V6 P (Ys N p) n)) (ce (V6 P (Ys N p) n) (Ys N p))) a H)/\0<=G/\G+H<=y:=by
 induction w with
 |@init b c h =>
  obtain⟨rfl,rfl⟩:=hI _ _ h;have hz:V6 P (Ys N b) n=0:=by
   by_cases z:V6 P (Ys N b) n=0
   ·exact z
   have:=Zkk z;rw[lp.src] at this;cases this
  exact .inr ⟨b,0,0,.init h,fun h=>absurd hz h,by rw[if_pos hz];exact⟨rfl,rfl⟩,by omega,by omega⟩
 |@step a b c w w0 e ih =>
  have hw:=Zd8 ok e;rcases ih with ih|⟨p,G,H,g1,aa,g2,g0,g3⟩
  ·exact .inl (by omega)
  obtain⟨t1,t2,t3⟩:=id e;have ad:=Qg t1;obtain⟨k,hk⟩:∃k,V6 P (Ys N p) n=k:=⟨_,rfl⟩
  have ae:k<=n:=by rw[<-hk];exact Zh7
  have ag:=@Zkk P (Ys N p) n;have J:=fun j=>@Z5k P (Ys N p) j n;rw[hk] at aa g2 ag;simp only[hk] at J;obtain⟨m,hm⟩:∃m,V6 P (Ys N b) n=m:=⟨_,rfl⟩
  have O:m<=n:=by rw[<-hm];exact Zh7
  have ab:=@Zkk P (Ys N b) n;rw[hm] at ab;have R:∀(X:m≠0->InK N (ce m) b)(z:Int),0<=z->Yx I (Zj3 N n ce ent P) b z->z<=c+w->Xm<=c+w\/∃p G H,Yx I (Zj3 N n ce ent P) p G/\(V6 P (Ys N p) n≠0->InK N (ce (V6 P (Ys N p) n)) p) /\
   (if V6 P (Ys N p) n=0 then b=p/\H=0 else Yx (AtI p) (EdC N (ce (V6 P (Ys N p) n)) (ce (V6 P (Ys N p) n) (Ys N p))) b H)/\0<=G/\G+H<=c+w:=by
   intro X z z0 hz zl;refine .inr ⟨b,z,0,hz,by rw[hm];exact X,?_,z0,by omega⟩;rw[hm]
   split
   ·exact⟨rfl,rfl⟩
   exact .init ⟨rfl,rfl⟩
  by_cases z:k=0
  ·rw[if_pos z] at g2;obtain⟨rfl,rfl⟩:=g2;refine R (fun ac h=>?_) (G+w) (by omega) (.step g1 ?_) (by omega)
   ·have q:=ab ac;have:=J m (by omega) O (by rw[ad,lp.cong m _ _ (by omega) O h];exact q);omega
   unfold Zj3;simp only[hk];rw[if_pos z];exact e
  rw[if_neg z] at g2;have ah:=Zho g2 rfl;have U:ce k (Vs N b)=ce k (Ys N p):=by rw[<-ad];exact ah
  by_cases q:ce k (Ys N b)=ce k (Ys N p)
  ·refine .inr ⟨p,G,H+w,g1,by rw[hk];exact aa,?_,g0,by omega⟩;rw[hk,if_neg z];exact .step g2 ⟨e,U,q⟩
  have af:=aa z;have hl:=he k (by omega) ae p b af U q;have aj:=hl.all (H+Yp N a b) ⟨a,H,g2,t1,rfl⟩;have ak:=Wd ok (a:=b);by_cases u:ent k p b=Xm
  ·exact .inl (by have:=Zbb ok g2;omega)
  have al:0<=ent k p b:=by
   obtain⟨x,v,q1,q2,q3⟩:=hl.is.resolve_left u;have:=Zbb ok q1;have:=Wn ok (a:=x) (b:=b);omega
  refine R (fun ac h=>?_) (G+(ent k p b+Zr N b)) (by omega) (.step g1 ?_) (by omega)
  ·have qm:=ab ac;rcases Xi6 k m with c1|c1
   ·have ai:ce m (Ys N p)=ce m (Ys N b):=by
     rw[<-h];exact hn k m (by omega) (by omega) O _ _ U.symm
    have:=J m (by omega) O (by rw[lp.cong m _ _ (by omega) O ai];exact qm);omega
   exact q (by rw[<-U];exact (hn m k (by omega) c1 ae _ _ h).symm)
  unfold Zj3;simp only[hk];rw[if_neg z];exact⟨af,U,q,u,t2,trivial⟩
def Zvs(ok:Yl N)(R:Z5x N n ce P s)(X:∀k,P k (Vs N t)=false)(hn:Zks n ce)(J:∀k,0<k->k<=n->Zge N (ce k) (ent k)){I:Nat->Int->Prop}(hI:∀b c,I b c->b=s/\c=0){d:Int}:Un I (Zj3 N n ce ent P) t d↔Un I (EdW N) t d:=by
 have G:∀y,Yx I (EdW N) t y->Xm<=y\/∃y',y'<=y/\Yx I (Zj3 N n ce ent P) t y':=by
  intro y w;rcases Zna ok R hn J hI w with h|⟨p,U,y2,H,aa,g2,g0,g3⟩
  ·exact .inl h
  split at g2
  ·obtain⟨rfl,rfl⟩:=g2;exact .inr ⟨U,by omega,H⟩
  rename_i z
  cases g2 with
  |init h=>obtain⟨rfl,rfl⟩:=h;exact .inr ⟨U,by omega,H⟩
  |step _ e=>have h1:=Zkk z;rw[<-R.cong _ _ _ (by omega) Zh7 e.2.1,X] at h1;cases h1
 constructor
 ·intro h;refine⟨h.le,fun x hx=>?_,h.is.imp id (Zg1 J)⟩;rcases G x hx with g|⟨O,H,g2⟩
  ·have:d<=Xm:=h.le;omega
  have:=h.all O g2;omega
 intro h;refine⟨h.le,fun x hx=>h.all x (Zg1 J hx),?_⟩;rcases h.is with g|g
 ·exact .inl g
 rcases G d g with H|⟨O,H,g2⟩
 ·exact .inl (by have:d<=Xm:=h.le;have:Xm=1152921504606846976:=rfl;omega)
 have:=h.all O (Zg1 J g2);have e:O=d:=by omega
 exact .inr (e ▸ g2)
end
end Go.Rm
