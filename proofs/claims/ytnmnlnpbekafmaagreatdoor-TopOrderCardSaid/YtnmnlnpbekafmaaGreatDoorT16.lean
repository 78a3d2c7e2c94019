import Derived.Test.YtnmnlnpbekafmaaGreatDoorT15
/- Parts. -/
set_option linter.unusedSimpArgs false
set_option linter.unusedVariables false
namespace Go.Rm
section
variable {Y:Sys} {h:Zk}
theorem Yq {K:Ze} {sz:Nat} (r:∀ (b:Nat) (h':Zk),h.size<=b->Yl h' sz (Sl.at b 0 0) []->Ext h h'->K (.slice (some ⟨b,0,none⟩) 0 0) h'):Ef.wp h K (.bslice 0 sz #[] []) []:=by
 rw [Zf2];intro t;exact r h.size _ (Xel _) Zhu Mod.push
theorem Yr {K:Ze} {sz bytes m b:Nat} {zero:Array Value} {nw:Zc} {x:Value} (R:Yl h sz (Sl.at b 0 0) []) (hx:Zfl x=some m) (D:Wv h sz m x=some nw)
  (G:nw.length=m * sz) (h1:∀ v∈nw,v.oneCell'=true) (hz:zero.size=sz) (hb:m * bytes<=140737488355328) (H:m<=9223372036854775807)
  (M:∀ (r:Sl) (h':Zk),Yl h' sz r nw->r.n=m->Ext h h'->r.nl=false->(r.b=b\/h.size<=r.b)->K r.v h'):Ef.wp h K (.append sz bytes zero) [.slice (some ⟨b,0,none⟩) 0 0,x]:=by
 simp only [Ef.wp,hx,D,Xfg];by_cases O:m<=0
 ·obtain rfl:m=0:=by omega
  have I:nw=[]:=Xfb (by simpa using G);subst I;rw [if_pos O];simp only [hst];exact M (Sl.at b 0 0) h R rfl (Mod.refl h) rfl (.inl rfl)
 rw [if_neg O];refine ⟨H,hb,?_⟩;simp only [Wv,Nat.zero_mul,rd];intro t U hge J;refine M (Sl.at h.size m U) _ ?_ rfl Mod.push rfl (.inr (Xel _));refine ⟨G,.inr ⟨rfl,rfl,rfl,hge,J,_,Xa.new,?_,?_⟩⟩
 ·simp only [Xhb,Xgk,Zea,hz,G,Sl.at_c,Xgn,Xfg];rw [<-Xe3]
  congr 1
  omega
 simp only [Array.toList_append,Sl.at_n,List.nil_append];rw [<-G];exact Xhe
theorem Yv {l:List Xe}:∀ v∈Yb (l.map Xv),v.oneCell'=true:=by
 intro v hv;simp only [Yb,List.mem_flatMap,Xhf] at hv;obtain ⟨a,⟨t,_,rfl⟩,hv⟩:=hv;simp only [Xv,Xgg,Xgq,or_false] at hv;rcases hv with rfl | rfl | rfl <;> rfl
theorem Zaz.rdAll {s:Sl} {l:List Xe} (r:Zaz h s l):Rm.rd h s.b s.o (l.length * 3)=some (Yb (l.map Xv)):=by
 have M:(Yb (l.map Xv)).length=l.length * 3:=by rw [Yg,Xep]
 have:=Zad (h:=h) (b:=s.b) (l:=Yb (l.map Xv)) (o:=s.o) fun j v G=>by
  have R:j<l.length * 3:=by
   have:=(List.getElem?_eq_some_iff.1 G).1;rwa [M] at this
  have D:j / 3<l.length:=by omega
  obtain ⟨H,I,g2⟩:=Zfz (l:=l.map Xv) (i:=j / 3) (by simpa using D);simp only [Xe7,Xv] at H I g2;have J:=r.v0 _ D;have k1:=r.v1 _ D;have O:=r.v2 _ D;rw [Wn D] at J k1 O;have U:j % 3=0\/j % 3=1\/j % 3=2:=by omega
  rcases U with m | m | m
  ·have e:j=j / 3 * 3:=by omega
   rw [<-e] at H J;rw [G] at H
   cases H
   exact J
  ·have e:j=j / 3 * 3+1:=by omega
   rw [<-e] at I;rw [G] at I
   cases I
   rw [show s.o+j=s.o+j / 3 * 3+1 by omega];exact k1
  have e:j=j / 3 * 3+2:=by omega
  rw [<-e] at g2;rw [G] at g2
  cases g2
  rw [show s.o+j=s.o+j / 3 * 3+2 by omega];exact O
 rwa [M] at this
theorem Yw {s:Sl} {l:List Xe} (r:Zaz h s l):Wv h 3 s.n s.v=some (Yb (l.map Xv)):=by
 have H:=r.rdAll;rw [r.len] at H;unfold Sl.v
 cases D:s.nl with
 | true =>
  have:l=[]:=Xfb (by rw [r.len];exact (r.ok.nil D).1);subst this
  rfl
 | false =>
  cases G:s.sp with
  | none=>simp only [Xez,if_false,Wv];exact H
  | some q =>
   have h0:s.n=0:=by
    have:=r.ok.spot.resolve_left (by rw [G];simp);have:=r.ok.le;omega
   have:l=[]:=Xfb (by rw [r.len];exact h0);subst this;simp [Wv,h0,Yb]
@[simp] theorem Z4p {D G r:Value} {s t:Sl}:Ys.sem Y h (.build #[D,G,r] [(0,1),(1,1),(2,1)] [0,1]) [s.v,t.v]=some (.agg #[s.v,t.v,r]):=by
 simp [Ys.sem,Instr.fill]
def CpI (v0:Value) (B A C:Nat) (s1 s2:Sl) (n:Nat) (ts:List Tab) (h0:Zk) (e:Zc) (h':Zk):Prop :=
 ∃ (i:Nat) (s3:Sl) (P:List (Tab × Sl)) (v5 v6:Value),e=[v0,.pointer (some ⟨A,0,none⟩),.pointer (some ⟨B,0,none⟩),.pointer (some ⟨C,0,none⟩),.int .i64 i,v5,v6]/\i<=n/\Xa h' C #[s1.v,s2.v,s3.v]/\Yl h' 3 s3 (Yb (P.map Qv))/\P.map Prod.fst=ts.take i/\P.Pairwise (fun p q=>p.2.b≠q.2.b)/\(∀ p∈P,(Yl h' 1 p.2 (Zt p.1.cs)/\p.2.nl=false)/\h0.size<=p.2.b/\(s3.nl=false->p.2.b≠s3.b)/\p.2.b<h'.size)/\(s3.nl=true\/h0.size<=s3.b)/\Mod (fun j=>j=C) h0 h'
set_option maxHeartbeats 2000000 in
theorem Zj1 (H:Y.Has 117 Y117) {sv sa st:Sl} {N:Zq} (r:Ul h sv sa st N) (bs:Zc1 N) {R:Ze}
  (hr:∀ h' s1 s2 s3 (P:List (Tab × Sl)),Ext h h'->Yl h' 3 s1 (Yb (N.vs.map Xv))->Yl h' 3 s2 (Yb (N.as.map Xv))->Yl h' 3 s3 (Yb (P.map Qv))->P.map Prod.fst=N.ts ->
   P.Pairwise (fun p q=>p.2.b≠q.2.b)->(∀ p∈P,(Yl h' 1 p.2 (Zt p.1.cs)/\p.2.nl=false)/\h.size<=p.2.b/\p.2.b≠s1.b/\p.2.b≠s2.b/\(s3.nl=false->p.2.b≠s3.b))->h.size<=s1.b->h.size<=s2.b->s1.b≠s2.b->(s3.nl=false->h.size<=s3.b/\s3.b≠s1.b/\s3.b≠s2.b)->R (Yx s1 s2 s3) h') :
  Zv Y 117 [Yx sv sa st] h R:=by
 have lv:=r.rv.len;have la:=r.ra.len;have lt:=r.rt.len;obtain ⟨bv,ba,bt,bc⟩:=bs;refine .of_has H rfl ?_;simp [Y117,Xn.wp,Yx];refine Zn ?_;intro A hA gA bA eA;simp;refine Zn ?_;intro B hR gB bB eB;have x0:=eA.trans eB;have lA:=bA.lt;have lB:=bB.lt;have bA:=bA.ext eB;have ac:∀ (C:Nat) (hZ:Zk) (s1 s2:Sl),Ext hR hZ->Xa hZ C #[s1.v,s2.v,.slice none 0 0]->Yl hZ 3 s1 (Yb (N.vs.map Xv))->Yl hZ 3 s2 (Yb (N.as.map Xv))->hR.size<=C->hR.size<=s1.b->hR.size<=s2.b->s1.nl=false->s2.nl=false->s1.b≠s2.b->C≠s1.b->C≠s2.b ->
   Stmt.wp Y Y117.body.rest.rest (Q6 Y117.res R) (fun _ _ _=>False) (Q6 Y117.res R) [Yx sv sa st,.pointer (some ⟨A,0,none⟩),.pointer (some ⟨B,0,none⟩),.pointer (some ⟨C,0,none⟩),undef,undef,undef] hZ:=by
  intro C hZ s1 s2 x1 bC o1 o2 gC f1 f2 ay az d12 aL aM;have l1:=o1.lt ay;have l2:=o2.lt az;have lC:=bC.lt;simp [Y117,Stmt.rest];refine Zs (CpI (Yx sv sa st) B A C s1 s2 st.n N.ts hZ) (fun e _=>st.n-Zy e 4) ⟨0,Sl.nil,[],_,_,rfl,by omega,bC,Yl.nil,by simp,List.Pairwise.nil,fun p hp=>(by cases hp),.inl rfl,Mod.refl _⟩ ?_;rintro e h2 ⟨i,s3,P,v5,v6,rfl,hi,ak,o3,hP,al,ag,ah,m2⟩;have x2:Ext hR h2:=Mod.ext x1 m2 (fun j X=>by omega);have am:=bA.ext x2;have z2:=m2.size;by_cases c:i<st.n
  ·have c':(i:Int)<st.n:=by omega
   have w1:=Zj (i:=i) (by omega);obtain ⟨u,aA,_,ru⟩:=(r.rt.ext (x0.trans x2)).rd (i:=i) (by omega);have aB:=ru.len;have aN:=bc i (by omega);have n3:=o3.n3;have aC:P.length=i:=by have:=congrArg List.length hP;simp at this;omega
   have aO:s3.n=i:=by rw [<-n3];simpa using aC
   simp [am.hc,c',Zm r.rt.ok,aA];refine Xd (vs:=#[.int .i64 (Zx N.ts i).i,.int .i64 (Zx N.ts i).o,u.v]) rfl rfl (by simp) ?_;intro D aP gD aD aE an;simp;refine an _ ?_;intro hD bD eD;clear an aD aE;have ao:=ak.ext eD;simp [ao.hc,bD.hc];refine Yq ?_;intro E h4 gE oE e4;have ap:=ao.ext e4;have aq:=bD.ext e4;simp [ap.hc,aq.hc];refine Yr oE Yy (Zau (ru.ext (eD.trans e4))) (by rw [Vr,aB,Xe1]) Zbt rfl (by omega) (by omega) ?_;intro u' h5 ou nu e5 ar hu;have au:=ap.ext e5;have aF:=aq.ext e5;simp [au.hc,aF.hc];refine Ui rfl rfl rfl ?_ (by omega);intro G h6 gG bG e6 oG;have av:=au.ext e6;simp [av.hc];have y6:=((eD.trans e4).trans e5).trans e6;refine Vb rfl (o3.ext' y6) bG rfl rfl (by simp) (by omega) (by omega) ?_;intro ae h7 o7 m7 aG;have o7:Yl h7 3 ae (Yb ((P++[(Zx N.ts i,u')]).map Qv)):=by simpa [Qv] using o7
   have zD:=eD.size;have z5:=e5.size;have z6:=e6.size;have z7:=m7.size;have aQ:=ou.lt ar;have lE:=oE.lt rfl;have aR:E<h4.size:=lE;have l3:s3.nl=false->s3.b<h2.size:=fun hn=>o3.lt hn;have ai:ae.nl=false->(s3.nl=false/\ae.b=s3.b)\/h6.size<=ae.b:=by
    intro hn;rcases aG with ⟨q1,q2⟩ | ⟨q1,q2⟩
    ·exact .inl ⟨by rw [<-q2,hn],q1⟩
    exact .inr q1
   have aj:ae.nl=true\/hZ.size<=ae.b:=by
    cases hn:ae.nl with
    | true=>exact .inl rfl
    | false =>
     right;rcases ai hn with ⟨q,e⟩ | q
     ·have:=ah.resolve_left (by rw [q];simp);omega
     omega
   have aH:s3.nl=false->C≠s3.b:=fun hn=>by have:=ah.resolve_left (by rw [hn];simp);omega
   have aI:=m7.blk av (fun X=>aH X.1 X.2);simp;refine stB aI (by simp) ?_;intro h8 aw m8;simp at aw;have z8:=m8.size;have aJ:ae.nl=false->C≠ae.b:=fun hn=>by have:=aj.resolve_left (by rw [hn];simp);omega
   have o8:=o7.mod m8 (fun hn X=>aJ hn X.symm);simp [w1];have aS:h2.size<=u'.b:=by rcases hu with q | q <;> omega
   have ax:Mod (fun j=>j=C\/(s3.nl=false/\j=s3.b)) h2 h8 :=
    ((y6.mono fun _ _ h=>h.elim).trans (m7.mono fun _ _ h=>.inr h)).trans (m8.mono fun _ _ h=>.inl h)
   refine ⟨⟨i+1,ae,P++[(Zx N.ts i,u')],_,_,rfl,by omega,aw,o8,?_,?_,?_,aj,?_⟩,by simp [Zy];omega⟩
   ·rw [Xe9,hP,Xey (by omega),W5 (by omega)]
    rfl
   ·rw [List.pairwise_append];refine ⟨al,List.pairwise_singleton ..,fun p hp q hq=>?_⟩;simp only [Xg1] at hq;subst hq;have:=(ag p hp).2.2.2;show p.2.b≠u'.b;omega
   ·intro p hp;rcases List.mem_append.1 hp with g | g
    ·obtain ⟨⟨g1,g0⟩,g2,g3,g4⟩:=ag p g;refine ⟨⟨g1.mod ax (fun _ X=>?_),g0⟩,g2,fun hn=>?_,by omega⟩
     ·rcases X with X | ⟨q,X⟩
      ·omega
      exact g3 q X
     rcases ai hn with ⟨q,e⟩ | q
     ·rw [e];exact g3 q
     omega
    simp only [Xg1] at g;subst g;have aK:=(((ou.ext' e6).mod m7 (fun _ X=>by have:=l3 X.1;omega)).mod m8 (fun _ X=>by omega))
    refine ⟨⟨aK,ar⟩,show hZ.size<=u'.b by omega,fun hn=>?_,show u'.b<h8.size by omega⟩;show u'.b≠ae.b;rcases ai hn with ⟨q,e⟩ | q
    ·have:=l3 q;omega
    omega
   refine (m2.then ax (fun j X q=>?_));rcases q with q | ⟨q,e⟩
   ·exact q
   have:=ah.resolve_left (by rw [q];simp);omega
  have c':¬ (i:Int)<st.n:=by omega
  obtain rfl:i=st.n:=by omega
  rw [Xeu (by omega)] at hP;simp [am.hc,c',Yj ak];refine Zr (bB.ext x2) rfl rfl (by simp) ?_;intro h9 b9 m9;simp;refine Xc rfl b9 rfl ?_;refine hr h9 s1 s2 s3 P (Mod.ext (x0.trans x2) m9 (fun j X=>by omega)) ((o1.mod m2 (fun _ X=>by omega)).mod m9 (fun _ X=>by omega)) ((o2.mod m2 (fun _ X=>by omega)).mod m9 (fun _ X=>by omega))
   (o3.mod m9 (fun hn X=>by have:=ah.resolve_left (by rw [hn];simp);omega)) hP al (fun p hp=>?_) (by omega) (by omega) d12 (fun hn=>?_)
  ·obtain ⟨⟨g1,g0⟩,g2,g3,g4⟩:=ag p hp;exact ⟨⟨g1.mod m9 (fun _ X=>by omega),g0⟩,by omega,by omega,by omega,g3⟩
  have:=ah.resolve_left (by rw [hn];simp);omega
 simp only [Y117,Stmt.rest] at ac;simp [bA.hc];refine ⟨?_,?_⟩
 ·refine Yq ?_;intro b0 k0 g0 o0 e0;have J:∀ g,Ext g hR->Ext g k0:=fun g e=>Mod.trans e e0;have l0:b0<k0.size:=o0.lt rfl;simp (maxDischargeDepth:=60) [bA.sk,J];refine ⟨?_,?_⟩
  ·refine Yr (o0.ext' (Mod.refl _)) Yy (Yw (r.rv.ext (x0.trans e0))) (by rw [Yg,Xep,lv]) Yv rfl (by omega) (by omega) ?_;intro ab k1 pv nv V O af;have I:∀ g,Ext g k0->Ext g k1:=fun g e=>Mod.trans e V;have l1:=pv.lt O;have z1:=V.size;simp (maxDischargeDepth:=60) [bA.sk,J,I];refine ⟨?_,?_⟩
   ·refine Yq ?_;intro b2 k2 g2 o2 e2;have M:∀ g,Ext g k1->Ext g k2:=fun g e=>Mod.trans e e2;have l2:b2<k2.size:=o2.lt rfl;simp (maxDischargeDepth:=60) [bA.sk,J,I,M];refine ⟨?_,?_⟩
    ·refine Yr (o2.ext' (Mod.refl _)) Yy (Yw (r.ra.ext (x0.trans ((e0.trans V).trans e2)))) (by rw [Yg,Xep,la]) Yv rfl (by omega) (by omega) ?_;intro aa k3 pa na e3 Z ad;have l3:=pa.lt Z;have z3:=e3.size;simp (maxDischargeDepth:=60);refine Zn ?_;intro C k4 gC bC e4;simp (maxDischargeDepth:=60);refine Zr (bC.ext (Mod.refl _)) rfl rfl (by simp) ?_;intro hZ bZ mZ;simp [-Yd];rw [Yd];exact ac C hZ ab aa (Mod.ext ((((e0.trans V).trans e2).trans e3).trans e4) mZ (fun j X=>by omega)) bZ ((pv.ext' ((e2.trans e3).trans e4)).mod mZ (fun _ X=>by omega)) ((pa.ext' e4).mod mZ (fun _ X=>by omega)) (by omega) (by omega) (by omega) O Z (by omega) (by omega) (by omega)
    refine Zn ?_;intro C k3 gC bC e3;have U:∀ g,Ext g k2->Ext g k3:=fun g e=>Mod.trans e e3;have lC:=bC.lt;simp (maxDischargeDepth:=60) [bA.sk,J,I,M,U];refine Yr (o2.ext' e3) Yy (Yw (r.ra.ext (x0.trans (((e0.trans V).trans e2).trans e3)))) (by rw [Yg,Xep,la]) Yv rfl (by omega) (by omega) ?_;intro aa k4 pa na e4 Z ad;simp (maxDischargeDepth:=60);refine Zr (bC.ext e4) rfl rfl (by simp) ?_;intro hZ bZ mZ;simp [-Yd];rw [Yd];exact ac C hZ ab aa (Mod.ext ((((e0.trans V).trans e2).trans e3).trans e4) mZ (fun j X=>by omega)) bZ ((pv.ext' ((e2.trans e3).trans e4)).mod mZ (fun _ X=>by omega)) ((pa.ext' (Mod.refl _)).mod mZ (fun _ X=>by omega)) (by omega) (by omega) (by omega) O Z (by omega) (by omega) (by omega)
   refine Zn ?_;intro C k2 gC bC e2;have M:∀ g,Ext g k1->Ext g k2:=fun g e=>Mod.trans e e2;have lC:=bC.lt;simp (maxDischargeDepth:=60) [bA.sk,J,I,M];refine Yq ?_;intro b3 k3 g3 o3 e3;have U:∀ g,Ext g k2->Ext g k3:=fun g e=>Mod.trans e e3;have l3:b3<k3.size:=o3.lt rfl;simp (maxDischargeDepth:=60) [bA.sk,J,I,M,U];refine Yr (o3.ext' (Mod.refl _)) Yy (Yw (r.ra.ext (x0.trans (((e0.trans V).trans e2).trans e3)))) (by rw [Yg,Xep,la]) Yv rfl (by omega) (by omega) ?_;intro aa k4 pa na e4 Z ad;simp (maxDischargeDepth:=60);refine Zr (bC.ext (e3.trans e4)) rfl rfl (by simp) ?_;intro hZ bZ mZ;simp [-Yd];rw [Yd];exact ac C hZ ab aa (Mod.ext ((((e0.trans V).trans e2).trans e3).trans e4) mZ (fun j X=>by omega)) bZ ((pv.ext' ((e2.trans e3).trans e4)).mod mZ (fun _ X=>by omega)) ((pa.ext' (Mod.refl _)).mod mZ (fun _ X=>by omega)) (by omega) (by omega) (by omega) O Z (by omega) (by omega) (by omega)
  refine ⟨?_,?_⟩
  ·refine Yq ?_;intro b1 k1 g1 o1 V;have I:∀ g,Ext g k0->Ext g k1:=fun g e=>Mod.trans e V;have l1:b1<k1.size:=o1.lt rfl;simp (maxDischargeDepth:=60) [bA.sk,J,I];refine ⟨?_,?_⟩
   ·refine Yr (o0.ext' V) Yy (Yw (r.rv.ext (x0.trans (e0.trans V)))) (by rw [Yg,Xep,lv]) Yv rfl (by omega) (by omega) ?_;intro ab k2 pv nv e2 O af;have M:∀ g,Ext g k1->Ext g k2:=fun g e=>Mod.trans e e2;have l2:=pv.lt O;have z2:=e2.size;simp (maxDischargeDepth:=60) [bA.sk,J,I,M];refine ⟨?_,?_⟩
    ·refine Yr (o1.ext' e2) Yy (Yw (r.ra.ext (x0.trans ((e0.trans V).trans e2)))) (by rw [Yg,Xep,la]) Yv rfl (by omega) (by omega) ?_;intro aa k3 pa na e3 Z ad;have l3:=pa.lt Z;have z3:=e3.size;simp (maxDischargeDepth:=60);refine Zn ?_;intro C k4 gC bC e4;simp (maxDischargeDepth:=60);refine Zr (bC.ext (Mod.refl _)) rfl rfl (by simp) ?_;intro hZ bZ mZ;simp [-Yd];rw [Yd];exact ac C hZ ab aa (Mod.ext ((((e0.trans V).trans e2).trans e3).trans e4) mZ (fun j X=>by omega)) bZ ((pv.ext' (e3.trans e4)).mod mZ (fun _ X=>by omega)) ((pa.ext' e4).mod mZ (fun _ X=>by omega)) (by omega) (by omega) (by omega) O Z (by omega) (by omega) (by omega)
    refine Zn ?_;intro C k3 gC bC e3;have U:∀ g,Ext g k2->Ext g k3:=fun g e=>Mod.trans e e3;have lC:=bC.lt;simp (maxDischargeDepth:=60) [bA.sk,J,I,M,U];refine Yr (o1.ext' (e2.trans e3)) Yy (Yw (r.ra.ext (x0.trans (((e0.trans V).trans e2).trans e3)))) (by rw [Yg,Xep,la]) Yv rfl (by omega) (by omega) ?_;intro aa k4 pa na e4 Z ad;simp (maxDischargeDepth:=60);refine Zr (bC.ext e4) rfl rfl (by simp) ?_;intro hZ bZ mZ;simp [-Yd];rw [Yd];have zz5_1:=V.size;exact ac C hZ ab aa (Mod.ext ((((e0.trans V).trans e2).trans e3).trans e4) mZ (fun j X=>by omega)) bZ ((pv.ext' (e3.trans e4)).mod mZ (fun _ X=>by omega)) ((pa.ext' (Mod.refl _)).mod mZ (fun _ X=>by omega)) (by omega) (by omega) (by omega) O Z (by omega) (by omega) (by omega)
   refine Zn ?_;intro C k2 gC bC e2;have M:∀ g,Ext g k1->Ext g k2:=fun g e=>Mod.trans e e2;have lC:=bC.lt;simp (maxDischargeDepth:=60) [bA.sk,J,I,M];refine Yr (o0.ext' (V.trans e2)) Yy (Yw (r.rv.ext (x0.trans ((e0.trans V).trans e2)))) (by rw [Yg,Xep,lv]) Yv rfl (by omega) (by omega) ?_;intro ab k3 pv nv e3 O af;have U:∀ g,Ext g k2->Ext g k3:=fun g e=>Mod.trans e e3;have l3:=pv.lt O;have z3:=e3.size;simp (maxDischargeDepth:=60) [bA.sk,J,I,M,U];refine Yr (o1.ext' (e2.trans e3)) Yy (Yw (r.ra.ext (x0.trans (((e0.trans V).trans e2).trans e3)))) (by rw [Yg,Xep,la]) Yv rfl (by omega) (by omega) ?_;intro aa k4 pa na e4 Z ad;simp (maxDischargeDepth:=60);refine Zr (bC.ext (e3.trans e4)) rfl rfl (by simp) ?_;intro hZ bZ mZ;simp [-Yd];rw [Yd];have zz5_1:=V.size;exact ac C hZ ab aa (Mod.ext ((((e0.trans V).trans e2).trans e3).trans e4) mZ (fun j X=>by omega)) bZ ((pv.ext' e4).mod mZ (fun _ X=>by omega)) ((pa.ext' (Mod.refl _)).mod mZ (fun _ X=>by omega)) (by omega) (by omega) (by omega) O Z (by omega) (by omega) (by omega)
  refine Zn ?_;intro C k1 gC bC V;have I:∀ g,Ext g k0->Ext g k1:=fun g e=>Mod.trans e V;have lC:=bC.lt;simp (maxDischargeDepth:=60) [bA.sk,J,I];refine ⟨?_,?_⟩
  ·refine Yr (o0.ext' V) Yy (Yw (r.rv.ext (x0.trans (e0.trans V)))) (by rw [Yg,Xep,lv]) Yv rfl (by omega) (by omega) ?_;intro ab k2 pv nv e2 O af;have M:∀ g,Ext g k1->Ext g k2:=fun g e=>Mod.trans e e2;have l2:=pv.lt O;have z2:=e2.size;simp (maxDischargeDepth:=60) [bA.sk,J,I,M];refine Yq ?_;intro b3 k3 g3 o3 e3;have U:∀ g,Ext g k2->Ext g k3:=fun g e=>Mod.trans e e3;have l3:b3<k3.size:=o3.lt rfl;simp (maxDischargeDepth:=60) [bA.sk,J,I,M,U];refine Yr (o3.ext' (Mod.refl _)) Yy (Yw (r.ra.ext (x0.trans (((e0.trans V).trans e2).trans e3)))) (by rw [Yg,Xep,la]) Yv rfl (by omega) (by omega) ?_;intro aa k4 pa na e4 Z ad;simp (maxDischargeDepth:=60);refine Zr (bC.ext ((e2.trans e3).trans e4)) rfl rfl (by simp) ?_;intro hZ bZ mZ;simp [-Yd];rw [Yd];exact ac C hZ ab aa (Mod.ext ((((e0.trans V).trans e2).trans e3).trans e4) mZ (fun j X=>by omega)) bZ ((pv.ext' (e3.trans e4)).mod mZ (fun _ X=>by omega)) ((pa.ext' (Mod.refl _)).mod mZ (fun _ X=>by omega)) (by omega) (by omega) (by omega) O Z (by omega) (by omega) (by omega)
  refine Yq ?_;intro b2 k2 g2 o2 e2;have M:∀ g,Ext g k1->Ext g k2:=fun g e=>Mod.trans e e2;have l2:b2<k2.size:=o2.lt rfl;simp (maxDischargeDepth:=60) [bA.sk,J,I,M];refine Yr (o0.ext' (V.trans e2)) Yy (Yw (r.rv.ext (x0.trans ((e0.trans V).trans e2)))) (by rw [Yg,Xep,lv]) Yv rfl (by omega) (by omega) ?_;intro ab k3 pv nv e3 O af;have U:∀ g,Ext g k2->Ext g k3:=fun g e=>Mod.trans e e3;have l3:=pv.lt O;have z3:=e3.size;simp (maxDischargeDepth:=60) [bA.sk,J,I,M,U];refine Yr (o2.ext' e3) Yy (Yw (r.ra.ext (x0.trans (((e0.trans V).trans e2).trans e3)))) (by rw [Yg,Xep,la]) Yv rfl (by omega) (by omega) ?_;intro aa k4 pa na e4 Z ad;simp (maxDischargeDepth:=60);refine Zr (bC.ext ((e2.trans e3).trans e4)) rfl rfl (by simp) ?_;intro hZ bZ mZ;simp [-Yd];rw [Yd];exact ac C hZ ab aa (Mod.ext ((((e0.trans V).trans e2).trans e3).trans e4) mZ (fun j X=>by omega)) bZ ((pv.ext' e4).mod mZ (fun _ X=>by omega)) ((pa.ext' (Mod.refl _)).mod mZ (fun _ X=>by omega)) (by omega) (by omega) (by omega) O Z (by omega) (by omega) (by omega)
 refine ⟨?_,?_⟩
 ·refine Yq ?_;intro b0 k0 g0 o0 e0;have J:∀ g,Ext g hR->Ext g k0:=fun g e=>Mod.trans e e0;have l0:b0<k0.size:=o0.lt rfl;simp (maxDischargeDepth:=60) [bA.sk,J];refine ⟨?_,?_⟩
  ·refine Yq ?_;intro b1 k1 g1 o1 V;have I:∀ g,Ext g k0->Ext g k1:=fun g e=>Mod.trans e V;have l1:b1<k1.size:=o1.lt rfl;simp (maxDischargeDepth:=60) [bA.sk,J,I];refine ⟨?_,?_⟩
   ·refine Yr (o1.ext' (Mod.refl _)) Yy (Yw (r.rv.ext (x0.trans (e0.trans V)))) (by rw [Yg,Xep,lv]) Yv rfl (by omega) (by omega) ?_;intro ab k2 pv nv e2 O af;have M:∀ g,Ext g k1->Ext g k2:=fun g e=>Mod.trans e e2;have l2:=pv.lt O;have z2:=e2.size;simp (maxDischargeDepth:=60) [bA.sk,J,I,M];refine ⟨?_,?_⟩
    ·refine Yr (o0.ext' (V.trans e2)) Yy (Yw (r.ra.ext (x0.trans ((e0.trans V).trans e2)))) (by rw [Yg,Xep,la]) Yv rfl (by omega) (by omega) ?_;intro aa k3 pa na e3 Z ad;have l3:=pa.lt Z;have z3:=e3.size;simp (maxDischargeDepth:=60);refine Zn ?_;intro C k4 gC bC e4;simp (maxDischargeDepth:=60);refine Zr (bC.ext (Mod.refl _)) rfl rfl (by simp) ?_;intro hZ bZ mZ;simp [-Yd];rw [Yd];exact ac C hZ ab aa (Mod.ext ((((e0.trans V).trans e2).trans e3).trans e4) mZ (fun j X=>by omega)) bZ ((pv.ext' (e3.trans e4)).mod mZ (fun _ X=>by omega)) ((pa.ext' e4).mod mZ (fun _ X=>by omega)) (by omega) (by omega) (by omega) O Z (by omega) (by omega) (by omega)
    refine Zn ?_;intro C k3 gC bC e3;have U:∀ g,Ext g k2->Ext g k3:=fun g e=>Mod.trans e e3;have lC:=bC.lt;simp (maxDischargeDepth:=60) [bA.sk,J,I,M,U];refine Yr (o0.ext' ((V.trans e2).trans e3)) Yy (Yw (r.ra.ext (x0.trans (((e0.trans V).trans e2).trans e3)))) (by rw [Yg,Xep,la]) Yv rfl (by omega) (by omega) ?_;intro aa k4 pa na e4 Z ad;simp (maxDischargeDepth:=60);refine Zr (bC.ext e4) rfl rfl (by simp) ?_;intro hZ bZ mZ;simp [-Yd];rw [Yd];have zz5_0:=e0.size;exact ac C hZ ab aa (Mod.ext ((((e0.trans V).trans e2).trans e3).trans e4) mZ (fun j X=>by omega)) bZ ((pv.ext' (e3.trans e4)).mod mZ (fun _ X=>by omega)) ((pa.ext' (Mod.refl _)).mod mZ (fun _ X=>by omega)) (by omega) (by omega) (by omega) O Z (by omega) (by omega) (by omega)
   refine Zn ?_;intro C k2 gC bC e2;have M:∀ g,Ext g k1->Ext g k2:=fun g e=>Mod.trans e e2;have lC:=bC.lt;simp (maxDischargeDepth:=60) [bA.sk,J,I,M];refine Yr (o1.ext' e2) Yy (Yw (r.rv.ext (x0.trans ((e0.trans V).trans e2)))) (by rw [Yg,Xep,lv]) Yv rfl (by omega) (by omega) ?_;intro ab k3 pv nv e3 O af;have U:∀ g,Ext g k2->Ext g k3:=fun g e=>Mod.trans e e3;have l3:=pv.lt O;have z3:=e3.size;simp (maxDischargeDepth:=60) [bA.sk,J,I,M,U];refine Yr (o0.ext' ((V.trans e2).trans e3)) Yy (Yw (r.ra.ext (x0.trans (((e0.trans V).trans e2).trans e3)))) (by rw [Yg,Xep,la]) Yv rfl (by omega) (by omega) ?_;intro aa k4 pa na e4 Z ad;simp (maxDischargeDepth:=60);refine Zr (bC.ext (e3.trans e4)) rfl rfl (by simp) ?_;intro hZ bZ mZ;simp [-Yd];rw [Yd];have zz5_0:=e0.size;exact ac C hZ ab aa (Mod.ext ((((e0.trans V).trans e2).trans e3).trans e4) mZ (fun j X=>by omega)) bZ ((pv.ext' e4).mod mZ (fun _ X=>by omega)) ((pa.ext' (Mod.refl _)).mod mZ (fun _ X=>by omega)) (by omega) (by omega) (by omega) O Z (by omega) (by omega) (by omega)
  refine Zn ?_;intro C k1 gC bC V;have I:∀ g,Ext g k0->Ext g k1:=fun g e=>Mod.trans e V;have lC:=bC.lt;simp (maxDischargeDepth:=60) [bA.sk,J,I];refine Yq ?_;intro b2 k2 g2 o2 e2;have M:∀ g,Ext g k1->Ext g k2:=fun g e=>Mod.trans e e2;have l2:b2<k2.size:=o2.lt rfl;simp (maxDischargeDepth:=60) [bA.sk,J,I,M];refine Yr (o2.ext' (Mod.refl _)) Yy (Yw (r.rv.ext (x0.trans ((e0.trans V).trans e2)))) (by rw [Yg,Xep,lv]) Yv rfl (by omega) (by omega) ?_;intro ab k3 pv nv e3 O af;have U:∀ g,Ext g k2->Ext g k3:=fun g e=>Mod.trans e e3;have l3:=pv.lt O;have z3:=e3.size;simp (maxDischargeDepth:=60) [bA.sk,J,I,M,U];refine Yr (o0.ext' ((V.trans e2).trans e3)) Yy (Yw (r.ra.ext (x0.trans (((e0.trans V).trans e2).trans e3)))) (by rw [Yg,Xep,la]) Yv rfl (by omega) (by omega) ?_;intro aa k4 pa na e4 Z ad;simp (maxDischargeDepth:=60);refine Zr (bC.ext ((e2.trans e3).trans e4)) rfl rfl (by simp) ?_;intro hZ bZ mZ;simp [-Yd];rw [Yd];have zz5_0:=e0.size;exact ac C hZ ab aa (Mod.ext ((((e0.trans V).trans e2).trans e3).trans e4) mZ (fun j X=>by omega)) bZ ((pv.ext' e4).mod mZ (fun _ X=>by omega)) ((pa.ext' (Mod.refl _)).mod mZ (fun _ X=>by omega)) (by omega) (by omega) (by omega) O Z (by omega) (by omega) (by omega)
 refine Zn ?_;intro C k0 gC bC e0;have J:∀ g,Ext g hR->Ext g k0:=fun g e=>Mod.trans e e0;have lC:=bC.lt;simp (maxDischargeDepth:=60) [bA.sk,J];refine ⟨?_,?_⟩
 ·refine Yq ?_;intro b1 k1 g1 o1 V;have I:∀ g,Ext g k0->Ext g k1:=fun g e=>Mod.trans e V;have l1:b1<k1.size:=o1.lt rfl;simp (maxDischargeDepth:=60) [bA.sk,J,I];refine ⟨?_,?_⟩
  ·refine Yr (o1.ext' (Mod.refl _)) Yy (Yw (r.rv.ext (x0.trans (e0.trans V)))) (by rw [Yg,Xep,lv]) Yv rfl (by omega) (by omega) ?_;intro ab k2 pv nv e2 O af;have M:∀ g,Ext g k1->Ext g k2:=fun g e=>Mod.trans e e2;have l2:=pv.lt O;have z2:=e2.size;simp (maxDischargeDepth:=60) [bA.sk,J,I,M];refine Yq ?_;intro b3 k3 g3 o3 e3;have U:∀ g,Ext g k2->Ext g k3:=fun g e=>Mod.trans e e3;have l3:b3<k3.size:=o3.lt rfl;simp (maxDischargeDepth:=60) [bA.sk,J,I,M,U];refine Yr (o3.ext' (Mod.refl _)) Yy (Yw (r.ra.ext (x0.trans (((e0.trans V).trans e2).trans e3)))) (by rw [Yg,Xep,la]) Yv rfl (by omega) (by omega) ?_;intro aa k4 pa na e4 Z ad;simp (maxDischargeDepth:=60);refine Zr (bC.ext (((V.trans e2).trans e3).trans e4)) rfl rfl (by simp) ?_;intro hZ bZ mZ;simp [-Yd];rw [Yd];exact ac C hZ ab aa (Mod.ext ((((e0.trans V).trans e2).trans e3).trans e4) mZ (fun j X=>by omega)) bZ ((pv.ext' (e3.trans e4)).mod mZ (fun _ X=>by omega)) ((pa.ext' (Mod.refl _)).mod mZ (fun _ X=>by omega)) (by omega) (by omega) (by omega) O Z (by omega) (by omega) (by omega)
  refine Yq ?_;intro b2 k2 g2 o2 e2;have M:∀ g,Ext g k1->Ext g k2:=fun g e=>Mod.trans e e2;have l2:b2<k2.size:=o2.lt rfl;simp (maxDischargeDepth:=60) [bA.sk,J,I,M];refine Yr (o1.ext' e2) Yy (Yw (r.rv.ext (x0.trans ((e0.trans V).trans e2)))) (by rw [Yg,Xep,lv]) Yv rfl (by omega) (by omega) ?_;intro ab k3 pv nv e3 O af;have U:∀ g,Ext g k2->Ext g k3:=fun g e=>Mod.trans e e3;have l3:=pv.lt O;have z3:=e3.size;simp (maxDischargeDepth:=60) [bA.sk,J,I,M,U];refine Yr (o2.ext' e3) Yy (Yw (r.ra.ext (x0.trans (((e0.trans V).trans e2).trans e3)))) (by rw [Yg,Xep,la]) Yv rfl (by omega) (by omega) ?_;intro aa k4 pa na e4 Z ad;simp (maxDischargeDepth:=60);refine Zr (bC.ext (((V.trans e2).trans e3).trans e4)) rfl rfl (by simp) ?_;intro hZ bZ mZ;simp [-Yd];rw [Yd];exact ac C hZ ab aa (Mod.ext ((((e0.trans V).trans e2).trans e3).trans e4) mZ (fun j X=>by omega)) bZ ((pv.ext' e4).mod mZ (fun _ X=>by omega)) ((pa.ext' (Mod.refl _)).mod mZ (fun _ X=>by omega)) (by omega) (by omega) (by omega) O Z (by omega) (by omega) (by omega)
 refine Yq ?_;intro b1 k1 g1 o1 V;have I:∀ g,Ext g k0->Ext g k1:=fun g e=>Mod.trans e V;have l1:b1<k1.size:=o1.lt rfl;simp (maxDischargeDepth:=60) [bA.sk,J,I];refine Yq ?_;intro b2 k2 g2 o2 e2;have M:∀ g,Ext g k1->Ext g k2:=fun g e=>Mod.trans e e2;have l2:b2<k2.size:=o2.lt rfl;simp (maxDischargeDepth:=60) [bA.sk,J,I,M];refine Yr (o2.ext' (Mod.refl _)) Yy (Yw (r.rv.ext (x0.trans ((e0.trans V).trans e2)))) (by rw [Yg,Xep,lv]) Yv rfl (by omega) (by omega) ?_;intro ab k3 pv nv e3 O af;have U:∀ g,Ext g k2->Ext g k3:=fun g e=>Mod.trans e e3;have l3:=pv.lt O;have z3:=e3.size;simp (maxDischargeDepth:=60) [bA.sk,J,I,M,U];refine Yr (o1.ext' (e2.trans e3)) Yy (Yw (r.ra.ext (x0.trans (((e0.trans V).trans e2).trans e3)))) (by rw [Yg,Xep,la]) Yv rfl (by omega) (by omega) ?_;intro aa k4 pa na e4 Z ad;simp (maxDischargeDepth:=60);refine Zr (bC.ext (((V.trans e2).trans e3).trans e4)) rfl rfl (by simp) ?_;intro hZ bZ mZ;simp [-Yd];rw [Yd];have zz5_1:=V.size;exact ac C hZ ab aa (Mod.ext ((((e0.trans V).trans e2).trans e3).trans e4) mZ (fun j X=>by omega)) bZ ((pv.ext' e4).mod mZ (fun _ X=>by omega)) ((pa.ext' (Mod.refl _)).mod mZ (fun _ X=>by omega)) (by omega) (by omega) (by omega) O Z (by omega) (by omega) (by omega)
end
end Go.Rm
