import Derived.Test.YtpikofomaekpoaaGreatDoorT14
/- Parts. -/
set_option linter.unusedSimpArgs false
set_option linter.unusedVariables false
namespace Go.Rm
section
variable {Y:Sys} {h:Zk}
theorem Yu {K:Ze} {sz:Nat} (r:∀ (b:Nat) (h':Zk),h.size<=b->Ym h' sz (Sl.at b 0 0) []->Ext h h'->K (.slice (some ⟨b,0,none⟩) 0 0) h'):Ef.wp h K (.bslice 0 sz #[] []) []:=by
 rw [Zgq];intro t;exact r h.size _ (Xfy _) Zip Mod.push
theorem Yq {K:Ze} {sz bytes m b:Nat} {zero:Array Value} {nw:Zc} {x:Value} (R:Ym h sz (Sl.at b 0 0) []) (hx:Zf2 x=some m) (D:Vl h sz m x=some nw)
  (G:nw.length=m * sz) (h1:∀ v∈nw,v.oneCell'=true) (hz:zero.size=sz) (hb:m * bytes<=140737488355328) (H:m<=9223372036854775807)
  (M:∀ (r:Sl) (h':Zk),Ym h' sz r nw->r.n=m->Ext h h'->r.nl=false->(r.b=b\/h.size<=r.b)->K r.v h'):Ef.wp h K (.append sz bytes zero) [.slice (some ⟨b,0,none⟩) 0 0,x]:=by
 simp only [Ef.wp,hx,D,Xgl];by_cases O:m<=0
 ·obtain rfl:m=0:=by omega
  have I:nw=[]:=Xgw (by simpa using G);subst I;rw [if_pos O];simp only [hst];exact M (Sl.at b 0 0) h R rfl (Mod.refl h) rfl (.inl rfl)
 rw [if_neg O];refine ⟨H,hb,?_⟩;simp only [Vl,Nat.zero_mul,rd];intro t U hge J;refine M (Sl.at h.size m U) _ ?_ rfl Mod.push rfl (.inr (Xfy _));refine ⟨G,.inr ⟨rfl,rfl,rfl,hge,J,_,Xb.new,?_,?_⟩⟩
 ·simp only [Xio,Xhv,Zei,hz,G,Sl.at_c,Xhy,Xgl];rw [<-Xgm]
  congr 1
  omega
 simp only [Array.toList_append,Sl.at_n,List.nil_append];rw [<-G];exact Xir
theorem Yw {l:List Xe}:∀ v∈Ye (l.map Xz),v.oneCell'=true:=by
 intro v hv;simp only [Ye,List.mem_flatMap,Xis] at hv;obtain ⟨a,⟨t,_,rfl⟩,hv⟩:=hv;simp only [Xz,Xh2,Xid,or_false] at hv;rcases hv with rfl | rfl | rfl <;> rfl
theorem Z6.rdAll {s:Sl} {l:List Xe} (r:Z6 h s l):Rm.rd h s.b s.o (l.length * 3)=some (Ye (l.map Xz)):=by
 have M:(Ye (l.map Xz)).length=l.length * 3:=by rw [Yk,Xf2]
 have:=Zba (h:=h) (b:=s.b) (l:=Ye (l.map Xz)) (o:=s.o) fun j v G=>by
  have R:j<l.length * 3:=by
   have:=(List.getElem?_eq_some_iff.1 G).1;rwa [M] at this
  have D:j / 3<l.length:=by omega
  obtain ⟨H,I,g2⟩:=Zgm (l:=l.map Xz) (i:=j / 3) (by simpa using D);simp only [Xgo,Xz] at H I g2;have J:=r.v0 _ D;have k1:=r.v1 _ D;have O:=r.v2 _ D;rw [Wy D] at J k1 O;have U:j % 3=0\/j % 3=1\/j % 3=2:=by omega
  rcases U with m | m | m
  ·have e:j=j / 3 * 3:=by omega
   rw [<-e] at H J;rw [G] at H
   cases H
   exact J
  ·have e:j=j / 3 * 3+1:=by omega
   rw [<-e] at I;rw [G] at I
   cases I
   rw [show s.o+j=s.o+j / 3 * 3+1 by omega];exact k1
  have e:j=j / 3 * 3+2:=by omega
  rw [<-e] at g2;rw [G] at g2
  cases g2
  rw [show s.o+j=s.o+j / 3 * 3+2 by omega];exact O
 rwa [M] at this
theorem Yx {s:Sl} {l:List Xe} (r:Z6 h s l):Vl h 3 s.n s.v=some (Ye (l.map Xz)):=by
 have H:=r.rdAll;rw [r.len] at H;unfold Sl.v
 cases D:s.nl with
 | true =>
  have:l=[]:=Xgw (by rw [r.len];exact (r.ok.nil D).1);subst this
  rfl
 | false =>
  cases G:s.sp with
  | none=>simp only [Xga,if_false,Vl];exact H
  | some q =>
   have h0:s.n=0:=by
    have:=r.ok.spot.resolve_left (by rw [G];simp);have:=r.ok.le;omega
   have:l=[]:=Xgw (by rw [r.len];exact h0);subst this;simp [Vl,h0,Ye]
@[simp] theorem Z53 {D G r:Value} {s t:Sl}:Yo.sem Y h (.build #[D,G,r] [(0,1),(1,1),(2,1)] [0,1]) [s.v,t.v]=some (.agg #[s.v,t.v,r]):=by
 simp [Yo.sem,Instr.fill]
def CpI (v0:Value) (B A C:Nat) (s1 s2:Sl) (n:Nat) (ts:List Tab) (h0:Zk) (e:Zc) (h':Zk):Prop :=
 ∃ (i:Nat) (s3:Sl) (P:List (Tab × Sl)) (v5 v6:Value),e=[v0,.pointer (some ⟨A,0,none⟩),.pointer (some ⟨B,0,none⟩),.pointer (some ⟨C,0,none⟩),.int .i64 i,v5,v6]/\i<=n/\Xb h' C #[s1.v,s2.v,s3.v]/\Ym h' 3 s3 (Ye (P.map X5))/\P.map Prod.fst=ts.take i/\P.Pairwise (fun p q=>p.2.b≠q.2.b)/\(∀ p∈P,(Ym h' 1 p.2 (Zq p.1.cs)/\p.2.nl=false)/\h0.size<=p.2.b/\(s3.nl=false->p.2.b≠s3.b)/\p.2.b<h'.size)/\(s3.nl=true\/h0.size<=s3.b)/\Mod (fun j=>j=C) h0 h'
set_option maxHeartbeats 2000000 in
theorem Zk4 (H:Y.Has 117 Y117) {sv sa st:Sl} {N:Zr} (r:Ut h sv sa st N) (bs:Zes N) {R:Ze}
  (hr:∀ h' s1 s2 s3 (P:List (Tab × Sl)),Ext h h'->Ym h' 3 s1 (Ye (N.vs.map Xz))->Ym h' 3 s2 (Ye (N.as.map Xz))->Ym h' 3 s3 (Ye (P.map X5))->P.map Prod.fst=N.ts ->
   P.Pairwise (fun p q=>p.2.b≠q.2.b)->(∀ p∈P,(Ym h' 1 p.2 (Zq p.1.cs)/\p.2.nl=false)/\h.size<=p.2.b/\p.2.b≠s1.b/\p.2.b≠s2.b/\(s3.nl=false->p.2.b≠s3.b))->h.size<=s1.b->h.size<=s2.b->s1.b≠s2.b->(s3.nl=false->h.size<=s3.b/\s3.b≠s1.b/\s3.b≠s2.b)->R (Yy s1 s2 s3) h') :
  Zv Y 117 [Yy sv sa st] h R:=by
 have lv:=r.rv.len;have la:=r.ra.len;have lt:=r.rt.len;obtain ⟨bv,ba,bt,bc⟩:=bs;refine .of_has H rfl ?_;simp [Y117,Xm.wp,Yy];refine Zn ?_;intro A hA gA bA eA;simp;refine Zn ?_;intro B hR gB bB eB;have x0:=eA.trans eB;have lA:=bA.lt;have lB:=bB.lt;have bA:=bA.ext eB;have ac:∀ (C:Nat) (hZ:Zk) (s1 s2:Sl),Ext hR hZ->Xb hZ C #[s1.v,s2.v,.slice none 0 0]->Ym hZ 3 s1 (Ye (N.vs.map Xz))->Ym hZ 3 s2 (Ye (N.as.map Xz))->hR.size<=C->hR.size<=s1.b->hR.size<=s2.b->s1.nl=false->s2.nl=false->s1.b≠s2.b->C≠s1.b->C≠s2.b ->
   Stmt.wp Y Y117.body.rest.rest (U4 Y117.res R) (fun _ _ _=>False) (U4 Y117.res R) [Yy sv sa st,.pointer (some ⟨A,0,none⟩),.pointer (some ⟨B,0,none⟩),.pointer (some ⟨C,0,none⟩),undef,undef,undef] hZ:=by
  intro C hZ s1 s2 x1 bC o1 o2 gC f1 f2 ay az d12 aL aM;have l1:=o1.lt ay;have l2:=o2.lt az;have lC:=bC.lt;simp [Y117,Stmt.rest];refine Zt (CpI (Yy sv sa st) B A C s1 s2 st.n N.ts hZ) (fun e _=>st.n-Zy e 4) ⟨0,Sl.nil,[],_,_,rfl,by omega,bC,Ym.nil,by simp,List.Pairwise.nil,fun p hp=>(by cases hp),.inl rfl,Mod.refl _⟩ ?_;rintro e h2 ⟨i,s3,P,v5,v6,rfl,hi,ak,o3,hP,al,ag,ah,m2⟩;have x2:Ext hR h2:=Mod.ext x1 m2 (fun j X=>by omega);have am:=bA.ext x2;have z2:=m2.size;by_cases c:i<st.n
  ·have c':(i:Int)<st.n:=by omega
   have w1:=Zj (i:=i) (by omega);obtain ⟨u,aA,_,ru⟩:=(r.rt.ext (x0.trans x2)).rd (i:=i) (by omega);have aB:=ru.len;have aN:=bc i (by omega);have n3:=o3.n3;have aC:P.length=i:=by have:=congrArg List.length hP;simp at this;omega
   have aO:s3.n=i:=by rw [<-n3];simpa using aC
   simp [am.hc,c',Zm r.rt.ok,aA];refine Xh (vs:=#[.int .i64 (Zz N.ts i).i,.int .i64 (Zz N.ts i).o,u.v]) rfl rfl (by simp) ?_;intro D aP gD aD aE an;simp;refine an _ ?_;intro hD bD eD;clear an aD aE;have ao:=ak.ext eD;simp [ao.hc,bD.hc];refine Yu ?_;intro E h4 gE oE e4;have ap:=ao.ext e4;have aq:=bD.ext e4;simp [ap.hc,aq.hc];refine Yq oE Xf (U7 (ru.ext (eD.trans e4))) (by rw [Vm,aB,Xgd]) Zai rfl (by omega) (by omega) ?_;intro u' h5 ou nu e5 ar hu;have au:=ap.ext e5;have aF:=aq.ext e5;simp [au.hc,aF.hc];refine Za0 rfl rfl rfl ?_ (by omega);intro G h6 gG bG e6 oG;have av:=au.ext e6;simp [av.hc];have y6:=((eD.trans e4).trans e5).trans e6;refine Up rfl (o3.ext' y6) bG rfl rfl (by simp) (by omega) (by omega) ?_;intro ae h7 o7 m7 aG;have o7:Ym h7 3 ae (Ye ((P++[(Zz N.ts i,u')]).map X5)):=by simpa [X5] using o7
   have zD:=eD.size;have z5:=e5.size;have z6:=e6.size;have z7:=m7.size;have aQ:=ou.lt ar;have lE:=oE.lt rfl;have aR:E<h4.size:=lE;have l3:s3.nl=false->s3.b<h2.size:=fun hn=>o3.lt hn;have ai:ae.nl=false->(s3.nl=false/\ae.b=s3.b)\/h6.size<=ae.b:=by
    intro hn;rcases aG with ⟨q1,q2⟩ | ⟨q1,q2⟩
    ·exact .inl ⟨by rw [<-q2,hn],q1⟩
    exact .inr q1
   have aj:ae.nl=true\/hZ.size<=ae.b:=by
    cases hn:ae.nl with
    | true=>exact .inl rfl
    | false =>
     right;rcases ai hn with ⟨q,e⟩ | q
     ·have:=ah.resolve_left (by rw [q];simp);omega
     omega
   have aH:s3.nl=false->C≠s3.b:=fun hn=>by have:=ah.resolve_left (by rw [hn];simp);omega
   have aI:=m7.blk av (fun X=>aH X.1 X.2);simp;refine stB aI (by simp) ?_;intro h8 aw m8;simp at aw;have z8:=m8.size;have aJ:ae.nl=false->C≠ae.b:=fun hn=>by have:=aj.resolve_left (by rw [hn];simp);omega
   have o8:=o7.mod m8 (fun hn X=>aJ hn X.symm);simp [w1];have aS:h2.size<=u'.b:=by rcases hu with q | q <;> omega
   have ax:Mod (fun j=>j=C\/(s3.nl=false/\j=s3.b)) h2 h8 :=
    ((y6.mono fun _ _ h=>h.elim).trans (m7.mono fun _ _ h=>.inr h)).trans (m8.mono fun _ _ h=>.inl h)
   refine ⟨⟨i+1,ae,P++[(Zz N.ts i,u')],_,_,rfl,by omega,aw,o8,?_,?_,?_,aj,?_⟩,by simp [Zy];omega⟩
   ·rw [Xgt,hP,Xgc (by omega),Zbu (by omega)]
    rfl
   ·rw [List.pairwise_append];refine ⟨al,List.pairwise_singleton ..,fun p hp q hq=>?_⟩;simp only [Xiv] at hq;subst hq;have:=(ag p hp).2.2.2;show p.2.b≠u'.b;omega
   ·intro p hp;rcases List.mem_append.1 hp with g | g
    ·obtain ⟨⟨g1,g0⟩,g2,g3,g4⟩:=ag p g;refine ⟨⟨g1.mod ax (fun _ X=>?_),g0⟩,g2,fun hn=>?_,by omega⟩
     ·rcases X with X | ⟨q,X⟩
      ·omega
      exact g3 q X
     rcases ai hn with ⟨q,e⟩ | q
     ·rw [e];exact g3 q
     omega
    simp only [Xiv] at g;subst g;have aK:=(((ou.ext' e6).mod m7 (fun _ X=>by have:=l3 X.1;omega)).mod m8 (fun _ X=>by omega))
    refine ⟨⟨aK,ar⟩,show hZ.size<=u'.b by omega,fun hn=>?_,show u'.b<h8.size by omega⟩;show u'.b≠ae.b;rcases ai hn with ⟨q,e⟩ | q
    ·have:=l3 q;omega
    omega
   refine (m2.then ax (fun j X q=>?_));rcases q with q | ⟨q,e⟩
   ·exact q
   have:=ah.resolve_left (by rw [q];simp);omega
  have c':¬ (i:Int)<st.n:=by omega
  obtain rfl:i=st.n:=by omega
  rw [Xf7 (by omega)] at hP;simp [am.hc,c',Yj ak];refine Zs (bB.ext x2) rfl rfl (by simp) ?_;intro h9 b9 m9;simp;refine Xj rfl b9 rfl ?_;refine hr h9 s1 s2 s3 P (Mod.ext (x0.trans x2) m9 (fun j X=>by omega)) ((o1.mod m2 (fun _ X=>by omega)).mod m9 (fun _ X=>by omega)) ((o2.mod m2 (fun _ X=>by omega)).mod m9 (fun _ X=>by omega))
   (o3.mod m9 (fun hn X=>by have:=ah.resolve_left (by rw [hn];simp);omega)) hP al (fun p hp=>?_) (by omega) (by omega) d12 (fun hn=>?_)
  ·obtain ⟨⟨g1,g0⟩,g2,g3,g4⟩:=ag p hp;exact ⟨⟨g1.mod m9 (fun _ X=>by omega),g0⟩,by omega,by omega,by omega,g3⟩
  have:=ah.resolve_left (by rw [hn];simp);omega
 simp only [Y117,Stmt.rest] at ac;simp [bA.hc];refine ⟨?_,?_⟩
 ·refine Yu ?_;intro b0 k0 g0 o0 e0;have J:∀ g,Ext g hR->Ext g k0:=fun g e=>Mod.trans e e0;have l0:b0<k0.size:=o0.lt rfl;simp (maxDischargeDepth:=60) [bA.sk,J];refine ⟨?_,?_⟩
  ·refine Yq (o0.ext' (Mod.refl _)) Xf (Yx (r.rv.ext (x0.trans e0))) (by rw [Yk,Xf2,lv]) Yw rfl (by omega) (by omega) ?_;intro ab k1 pv nv V O af;have I:∀ g,Ext g k0->Ext g k1:=fun g e=>Mod.trans e V;have l1:=pv.lt O;have z1:=V.size;simp (maxDischargeDepth:=60) [bA.sk,J,I];refine ⟨?_,?_⟩
   ·refine Yu ?_;intro b2 k2 g2 o2 e2;have M:∀ g,Ext g k1->Ext g k2:=fun g e=>Mod.trans e e2;have l2:b2<k2.size:=o2.lt rfl;simp (maxDischargeDepth:=60) [bA.sk,J,I,M];refine ⟨?_,?_⟩
    ·refine Yq (o2.ext' (Mod.refl _)) Xf (Yx (r.ra.ext (x0.trans ((e0.trans V).trans e2)))) (by rw [Yk,Xf2,la]) Yw rfl (by omega) (by omega) ?_;intro aa k3 pa na e3 Z ad;have l3:=pa.lt Z;have z3:=e3.size;simp (maxDischargeDepth:=60);refine Zn ?_;intro C k4 gC bC e4;simp (maxDischargeDepth:=60);refine Zs (bC.ext (Mod.refl _)) rfl rfl (by simp) ?_;intro hZ bZ mZ;simp [-Yc];rw [Yc];exact ac C hZ ab aa (Mod.ext ((((e0.trans V).trans e2).trans e3).trans e4) mZ (fun j X=>by omega)) bZ ((pv.ext' ((e2.trans e3).trans e4)).mod mZ (fun _ X=>by omega)) ((pa.ext' e4).mod mZ (fun _ X=>by omega)) (by omega) (by omega) (by omega) O Z (by omega) (by omega) (by omega)
    refine Zn ?_;intro C k3 gC bC e3;have U:∀ g,Ext g k2->Ext g k3:=fun g e=>Mod.trans e e3;have lC:=bC.lt;simp (maxDischargeDepth:=60) [bA.sk,J,I,M,U];refine Yq (o2.ext' e3) Xf (Yx (r.ra.ext (x0.trans (((e0.trans V).trans e2).trans e3)))) (by rw [Yk,Xf2,la]) Yw rfl (by omega) (by omega) ?_;intro aa k4 pa na e4 Z ad;simp (maxDischargeDepth:=60);refine Zs (bC.ext e4) rfl rfl (by simp) ?_;intro hZ bZ mZ;simp [-Yc];rw [Yc];exact ac C hZ ab aa (Mod.ext ((((e0.trans V).trans e2).trans e3).trans e4) mZ (fun j X=>by omega)) bZ ((pv.ext' ((e2.trans e3).trans e4)).mod mZ (fun _ X=>by omega)) ((pa.ext' (Mod.refl _)).mod mZ (fun _ X=>by omega)) (by omega) (by omega) (by omega) O Z (by omega) (by omega) (by omega)
   refine Zn ?_;intro C k2 gC bC e2;have M:∀ g,Ext g k1->Ext g k2:=fun g e=>Mod.trans e e2;have lC:=bC.lt;simp (maxDischargeDepth:=60) [bA.sk,J,I,M];refine Yu ?_;intro b3 k3 g3 o3 e3;have U:∀ g,Ext g k2->Ext g k3:=fun g e=>Mod.trans e e3;have l3:b3<k3.size:=o3.lt rfl;simp (maxDischargeDepth:=60) [bA.sk,J,I,M,U];refine Yq (o3.ext' (Mod.refl _)) Xf (Yx (r.ra.ext (x0.trans (((e0.trans V).trans e2).trans e3)))) (by rw [Yk,Xf2,la]) Yw rfl (by omega) (by omega) ?_;intro aa k4 pa na e4 Z ad;simp (maxDischargeDepth:=60);refine Zs (bC.ext (e3.trans e4)) rfl rfl (by simp) ?_;intro hZ bZ mZ;simp [-Yc];rw [Yc];exact ac C hZ ab aa (Mod.ext ((((e0.trans V).trans e2).trans e3).trans e4) mZ (fun j X=>by omega)) bZ ((pv.ext' ((e2.trans e3).trans e4)).mod mZ (fun _ X=>by omega)) ((pa.ext' (Mod.refl _)).mod mZ (fun _ X=>by omega)) (by omega) (by omega) (by omega) O Z (by omega) (by omega) (by omega)
  refine ⟨?_,?_⟩
  ·refine Yu ?_;intro b1 k1 g1 o1 V;have I:∀ g,Ext g k0->Ext g k1:=fun g e=>Mod.trans e V;have l1:b1<k1.size:=o1.lt rfl;simp (maxDischargeDepth:=60) [bA.sk,J,I];refine ⟨?_,?_⟩
   ·refine Yq (o0.ext' V) Xf (Yx (r.rv.ext (x0.trans (e0.trans V)))) (by rw [Yk,Xf2,lv]) Yw rfl (by omega) (by omega) ?_;intro ab k2 pv nv e2 O af;have M:∀ g,Ext g k1->Ext g k2:=fun g e=>Mod.trans e e2;have l2:=pv.lt O;have z2:=e2.size;simp (maxDischargeDepth:=60) [bA.sk,J,I,M];refine ⟨?_,?_⟩
    ·refine Yq (o1.ext' e2) Xf (Yx (r.ra.ext (x0.trans ((e0.trans V).trans e2)))) (by rw [Yk,Xf2,la]) Yw rfl (by omega) (by omega) ?_;intro aa k3 pa na e3 Z ad;have l3:=pa.lt Z;have z3:=e3.size;simp (maxDischargeDepth:=60);refine Zn ?_;intro C k4 gC bC e4;simp (maxDischargeDepth:=60);refine Zs (bC.ext (Mod.refl _)) rfl rfl (by simp) ?_;intro hZ bZ mZ;simp [-Yc];rw [Yc];exact ac C hZ ab aa (Mod.ext ((((e0.trans V).trans e2).trans e3).trans e4) mZ (fun j X=>by omega)) bZ ((pv.ext' (e3.trans e4)).mod mZ (fun _ X=>by omega)) ((pa.ext' e4).mod mZ (fun _ X=>by omega)) (by omega) (by omega) (by omega) O Z (by omega) (by omega) (by omega)
    refine Zn ?_;intro C k3 gC bC e3;have U:∀ g,Ext g k2->Ext g k3:=fun g e=>Mod.trans e e3;have lC:=bC.lt;simp (maxDischargeDepth:=60) [bA.sk,J,I,M,U];refine Yq (o1.ext' (e2.trans e3)) Xf (Yx (r.ra.ext (x0.trans (((e0.trans V).trans e2).trans e3)))) (by rw [Yk,Xf2,la]) Yw rfl (by omega) (by omega) ?_;intro aa k4 pa na e4 Z ad;simp (maxDischargeDepth:=60);refine Zs (bC.ext e4) rfl rfl (by simp) ?_;intro hZ bZ mZ;simp [-Yc];rw [Yc];have zz5_1:=V.size;exact ac C hZ ab aa (Mod.ext ((((e0.trans V).trans e2).trans e3).trans e4) mZ (fun j X=>by omega)) bZ ((pv.ext' (e3.trans e4)).mod mZ (fun _ X=>by omega)) ((pa.ext' (Mod.refl _)).mod mZ (fun _ X=>by omega)) (by omega) (by omega) (by omega) O Z (by omega) (by omega) (by omega)
   refine Zn ?_;intro C k2 gC bC e2;have M:∀ g,Ext g k1->Ext g k2:=fun g e=>Mod.trans e e2;have lC:=bC.lt;simp (maxDischargeDepth:=60) [bA.sk,J,I,M];refine Yq (o0.ext' (V.trans e2)) Xf (Yx (r.rv.ext (x0.trans ((e0.trans V).trans e2)))) (by rw [Yk,Xf2,lv]) Yw rfl (by omega) (by omega) ?_;intro ab k3 pv nv e3 O af;have U:∀ g,Ext g k2->Ext g k3:=fun g e=>Mod.trans e e3;have l3:=pv.lt O;have z3:=e3.size;simp (maxDischargeDepth:=60) [bA.sk,J,I,M,U];refine Yq (o1.ext' (e2.trans e3)) Xf (Yx (r.ra.ext (x0.trans (((e0.trans V).trans e2).trans e3)))) (by rw [Yk,Xf2,la]) Yw rfl (by omega) (by omega) ?_;intro aa k4 pa na e4 Z ad;simp (maxDischargeDepth:=60);refine Zs (bC.ext (e3.trans e4)) rfl rfl (by simp) ?_;intro hZ bZ mZ;simp [-Yc];rw [Yc];have zz5_1:=V.size;exact ac C hZ ab aa (Mod.ext ((((e0.trans V).trans e2).trans e3).trans e4) mZ (fun j X=>by omega)) bZ ((pv.ext' e4).mod mZ (fun _ X=>by omega)) ((pa.ext' (Mod.refl _)).mod mZ (fun _ X=>by omega)) (by omega) (by omega) (by omega) O Z (by omega) (by omega) (by omega)
  refine Zn ?_;intro C k1 gC bC V;have I:∀ g,Ext g k0->Ext g k1:=fun g e=>Mod.trans e V;have lC:=bC.lt;simp (maxDischargeDepth:=60) [bA.sk,J,I];refine ⟨?_,?_⟩
  ·refine Yq (o0.ext' V) Xf (Yx (r.rv.ext (x0.trans (e0.trans V)))) (by rw [Yk,Xf2,lv]) Yw rfl (by omega) (by omega) ?_;intro ab k2 pv nv e2 O af;have M:∀ g,Ext g k1->Ext g k2:=fun g e=>Mod.trans e e2;have l2:=pv.lt O;have z2:=e2.size;simp (maxDischargeDepth:=60) [bA.sk,J,I,M];refine Yu ?_;intro b3 k3 g3 o3 e3;have U:∀ g,Ext g k2->Ext g k3:=fun g e=>Mod.trans e e3;have l3:b3<k3.size:=o3.lt rfl;simp (maxDischargeDepth:=60) [bA.sk,J,I,M,U];refine Yq (o3.ext' (Mod.refl _)) Xf (Yx (r.ra.ext (x0.trans (((e0.trans V).trans e2).trans e3)))) (by rw [Yk,Xf2,la]) Yw rfl (by omega) (by omega) ?_;intro aa k4 pa na e4 Z ad;simp (maxDischargeDepth:=60);refine Zs (bC.ext ((e2.trans e3).trans e4)) rfl rfl (by simp) ?_;intro hZ bZ mZ;simp [-Yc];rw [Yc];exact ac C hZ ab aa (Mod.ext ((((e0.trans V).trans e2).trans e3).trans e4) mZ (fun j X=>by omega)) bZ ((pv.ext' (e3.trans e4)).mod mZ (fun _ X=>by omega)) ((pa.ext' (Mod.refl _)).mod mZ (fun _ X=>by omega)) (by omega) (by omega) (by omega) O Z (by omega) (by omega) (by omega)
  refine Yu ?_;intro b2 k2 g2 o2 e2;have M:∀ g,Ext g k1->Ext g k2:=fun g e=>Mod.trans e e2;have l2:b2<k2.size:=o2.lt rfl;simp (maxDischargeDepth:=60) [bA.sk,J,I,M];refine Yq (o0.ext' (V.trans e2)) Xf (Yx (r.rv.ext (x0.trans ((e0.trans V).trans e2)))) (by rw [Yk,Xf2,lv]) Yw rfl (by omega) (by omega) ?_;intro ab k3 pv nv e3 O af;have U:∀ g,Ext g k2->Ext g k3:=fun g e=>Mod.trans e e3;have l3:=pv.lt O;have z3:=e3.size;simp (maxDischargeDepth:=60) [bA.sk,J,I,M,U];refine Yq (o2.ext' e3) Xf (Yx (r.ra.ext (x0.trans (((e0.trans V).trans e2).trans e3)))) (by rw [Yk,Xf2,la]) Yw rfl (by omega) (by omega) ?_;intro aa k4 pa na e4 Z ad;simp (maxDischargeDepth:=60);refine Zs (bC.ext ((e2.trans e3).trans e4)) rfl rfl (by simp) ?_;intro hZ bZ mZ;simp [-Yc];rw [Yc];exact ac C hZ ab aa (Mod.ext ((((e0.trans V).trans e2).trans e3).trans e4) mZ (fun j X=>by omega)) bZ ((pv.ext' e4).mod mZ (fun _ X=>by omega)) ((pa.ext' (Mod.refl _)).mod mZ (fun _ X=>by omega)) (by omega) (by omega) (by omega) O Z (by omega) (by omega) (by omega)
 refine ⟨?_,?_⟩
 ·refine Yu ?_;intro b0 k0 g0 o0 e0;have J:∀ g,Ext g hR->Ext g k0:=fun g e=>Mod.trans e e0;have l0:b0<k0.size:=o0.lt rfl;simp (maxDischargeDepth:=60) [bA.sk,J];refine ⟨?_,?_⟩
  ·refine Yu ?_;intro b1 k1 g1 o1 V;have I:∀ g,Ext g k0->Ext g k1:=fun g e=>Mod.trans e V;have l1:b1<k1.size:=o1.lt rfl;simp (maxDischargeDepth:=60) [bA.sk,J,I];refine ⟨?_,?_⟩
   ·refine Yq (o1.ext' (Mod.refl _)) Xf (Yx (r.rv.ext (x0.trans (e0.trans V)))) (by rw [Yk,Xf2,lv]) Yw rfl (by omega) (by omega) ?_;intro ab k2 pv nv e2 O af;have M:∀ g,Ext g k1->Ext g k2:=fun g e=>Mod.trans e e2;have l2:=pv.lt O;have z2:=e2.size;simp (maxDischargeDepth:=60) [bA.sk,J,I,M];refine ⟨?_,?_⟩
    ·refine Yq (o0.ext' (V.trans e2)) Xf (Yx (r.ra.ext (x0.trans ((e0.trans V).trans e2)))) (by rw [Yk,Xf2,la]) Yw rfl (by omega) (by omega) ?_;intro aa k3 pa na e3 Z ad;have l3:=pa.lt Z;have z3:=e3.size;simp (maxDischargeDepth:=60);refine Zn ?_;intro C k4 gC bC e4;simp (maxDischargeDepth:=60);refine Zs (bC.ext (Mod.refl _)) rfl rfl (by simp) ?_;intro hZ bZ mZ;simp [-Yc];rw [Yc];exact ac C hZ ab aa (Mod.ext ((((e0.trans V).trans e2).trans e3).trans e4) mZ (fun j X=>by omega)) bZ ((pv.ext' (e3.trans e4)).mod mZ (fun _ X=>by omega)) ((pa.ext' e4).mod mZ (fun _ X=>by omega)) (by omega) (by omega) (by omega) O Z (by omega) (by omega) (by omega)
    refine Zn ?_;intro C k3 gC bC e3;have U:∀ g,Ext g k2->Ext g k3:=fun g e=>Mod.trans e e3;have lC:=bC.lt;simp (maxDischargeDepth:=60) [bA.sk,J,I,M,U];refine Yq (o0.ext' ((V.trans e2).trans e3)) Xf (Yx (r.ra.ext (x0.trans (((e0.trans V).trans e2).trans e3)))) (by rw [Yk,Xf2,la]) Yw rfl (by omega) (by omega) ?_;intro aa k4 pa na e4 Z ad;simp (maxDischargeDepth:=60);refine Zs (bC.ext e4) rfl rfl (by simp) ?_;intro hZ bZ mZ;simp [-Yc];rw [Yc];have zz5_0:=e0.size;exact ac C hZ ab aa (Mod.ext ((((e0.trans V).trans e2).trans e3).trans e4) mZ (fun j X=>by omega)) bZ ((pv.ext' (e3.trans e4)).mod mZ (fun _ X=>by omega)) ((pa.ext' (Mod.refl _)).mod mZ (fun _ X=>by omega)) (by omega) (by omega) (by omega) O Z (by omega) (by omega) (by omega)
   refine Zn ?_;intro C k2 gC bC e2;have M:∀ g,Ext g k1->Ext g k2:=fun g e=>Mod.trans e e2;have lC:=bC.lt;simp (maxDischargeDepth:=60) [bA.sk,J,I,M];refine Yq (o1.ext' e2) Xf (Yx (r.rv.ext (x0.trans ((e0.trans V).trans e2)))) (by rw [Yk,Xf2,lv]) Yw rfl (by omega) (by omega) ?_;intro ab k3 pv nv e3 O af;have U:∀ g,Ext g k2->Ext g k3:=fun g e=>Mod.trans e e3;have l3:=pv.lt O;have z3:=e3.size;simp (maxDischargeDepth:=60) [bA.sk,J,I,M,U];refine Yq (o0.ext' ((V.trans e2).trans e3)) Xf (Yx (r.ra.ext (x0.trans (((e0.trans V).trans e2).trans e3)))) (by rw [Yk,Xf2,la]) Yw rfl (by omega) (by omega) ?_;intro aa k4 pa na e4 Z ad;simp (maxDischargeDepth:=60);refine Zs (bC.ext (e3.trans e4)) rfl rfl (by simp) ?_;intro hZ bZ mZ;simp [-Yc];rw [Yc];have zz5_0:=e0.size;exact ac C hZ ab aa (Mod.ext ((((e0.trans V).trans e2).trans e3).trans e4) mZ (fun j X=>by omega)) bZ ((pv.ext' e4).mod mZ (fun _ X=>by omega)) ((pa.ext' (Mod.refl _)).mod mZ (fun _ X=>by omega)) (by omega) (by omega) (by omega) O Z (by omega) (by omega) (by omega)
  refine Zn ?_;intro C k1 gC bC V;have I:∀ g,Ext g k0->Ext g k1:=fun g e=>Mod.trans e V;have lC:=bC.lt;simp (maxDischargeDepth:=60) [bA.sk,J,I];refine Yu ?_;intro b2 k2 g2 o2 e2;have M:∀ g,Ext g k1->Ext g k2:=fun g e=>Mod.trans e e2;have l2:b2<k2.size:=o2.lt rfl;simp (maxDischargeDepth:=60) [bA.sk,J,I,M];refine Yq (o2.ext' (Mod.refl _)) Xf (Yx (r.rv.ext (x0.trans ((e0.trans V).trans e2)))) (by rw [Yk,Xf2,lv]) Yw rfl (by omega) (by omega) ?_;intro ab k3 pv nv e3 O af;have U:∀ g,Ext g k2->Ext g k3:=fun g e=>Mod.trans e e3;have l3:=pv.lt O;have z3:=e3.size;simp (maxDischargeDepth:=60) [bA.sk,J,I,M,U];refine Yq (o0.ext' ((V.trans e2).trans e3)) Xf (Yx (r.ra.ext (x0.trans (((e0.trans V).trans e2).trans e3)))) (by rw [Yk,Xf2,la]) Yw rfl (by omega) (by omega) ?_;intro aa k4 pa na e4 Z ad;simp (maxDischargeDepth:=60);refine Zs (bC.ext ((e2.trans e3).trans e4)) rfl rfl (by simp) ?_;intro hZ bZ mZ;simp [-Yc];rw [Yc];have zz5_0:=e0.size;exact ac C hZ ab aa (Mod.ext ((((e0.trans V).trans e2).trans e3).trans e4) mZ (fun j X=>by omega)) bZ ((pv.ext' e4).mod mZ (fun _ X=>by omega)) ((pa.ext' (Mod.refl _)).mod mZ (fun _ X=>by omega)) (by omega) (by omega) (by omega) O Z (by omega) (by omega) (by omega)
 refine Zn ?_;intro C k0 gC bC e0;have J:∀ g,Ext g hR->Ext g k0:=fun g e=>Mod.trans e e0;have lC:=bC.lt;simp (maxDischargeDepth:=60) [bA.sk,J];refine ⟨?_,?_⟩
 ·refine Yu ?_;intro b1 k1 g1 o1 V;have I:∀ g,Ext g k0->Ext g k1:=fun g e=>Mod.trans e V;have l1:b1<k1.size:=o1.lt rfl;simp (maxDischargeDepth:=60) [bA.sk,J,I];refine ⟨?_,?_⟩
  ·refine Yq (o1.ext' (Mod.refl _)) Xf (Yx (r.rv.ext (x0.trans (e0.trans V)))) (by rw [Yk,Xf2,lv]) Yw rfl (by omega) (by omega) ?_;intro ab k2 pv nv e2 O af;have M:∀ g,Ext g k1->Ext g k2:=fun g e=>Mod.trans e e2;have l2:=pv.lt O;have z2:=e2.size;simp (maxDischargeDepth:=60) [bA.sk,J,I,M];refine Yu ?_;intro b3 k3 g3 o3 e3;have U:∀ g,Ext g k2->Ext g k3:=fun g e=>Mod.trans e e3;have l3:b3<k3.size:=o3.lt rfl;simp (maxDischargeDepth:=60) [bA.sk,J,I,M,U];refine Yq (o3.ext' (Mod.refl _)) Xf (Yx (r.ra.ext (x0.trans (((e0.trans V).trans e2).trans e3)))) (by rw [Yk,Xf2,la]) Yw rfl (by omega) (by omega) ?_;intro aa k4 pa na e4 Z ad;simp (maxDischargeDepth:=60);refine Zs (bC.ext (((V.trans e2).trans e3).trans e4)) rfl rfl (by simp) ?_;intro hZ bZ mZ;simp [-Yc];rw [Yc];exact ac C hZ ab aa (Mod.ext ((((e0.trans V).trans e2).trans e3).trans e4) mZ (fun j X=>by omega)) bZ ((pv.ext' (e3.trans e4)).mod mZ (fun _ X=>by omega)) ((pa.ext' (Mod.refl _)).mod mZ (fun _ X=>by omega)) (by omega) (by omega) (by omega) O Z (by omega) (by omega) (by omega)
  refine Yu ?_;intro b2 k2 g2 o2 e2;have M:∀ g,Ext g k1->Ext g k2:=fun g e=>Mod.trans e e2;have l2:b2<k2.size:=o2.lt rfl;simp (maxDischargeDepth:=60) [bA.sk,J,I,M];refine Yq (o1.ext' e2) Xf (Yx (r.rv.ext (x0.trans ((e0.trans V).trans e2)))) (by rw [Yk,Xf2,lv]) Yw rfl (by omega) (by omega) ?_;intro ab k3 pv nv e3 O af;have U:∀ g,Ext g k2->Ext g k3:=fun g e=>Mod.trans e e3;have l3:=pv.lt O;have z3:=e3.size;simp (maxDischargeDepth:=60) [bA.sk,J,I,M,U];refine Yq (o2.ext' e3) Xf (Yx (r.ra.ext (x0.trans (((e0.trans V).trans e2).trans e3)))) (by rw [Yk,Xf2,la]) Yw rfl (by omega) (by omega) ?_;intro aa k4 pa na e4 Z ad;simp (maxDischargeDepth:=60);refine Zs (bC.ext (((V.trans e2).trans e3).trans e4)) rfl rfl (by simp) ?_;intro hZ bZ mZ;simp [-Yc];rw [Yc];exact ac C hZ ab aa (Mod.ext ((((e0.trans V).trans e2).trans e3).trans e4) mZ (fun j X=>by omega)) bZ ((pv.ext' e4).mod mZ (fun _ X=>by omega)) ((pa.ext' (Mod.refl _)).mod mZ (fun _ X=>by omega)) (by omega) (by omega) (by omega) O Z (by omega) (by omega) (by omega)
 refine Yu ?_;intro b1 k1 g1 o1 V;have I:∀ g,Ext g k0->Ext g k1:=fun g e=>Mod.trans e V;have l1:b1<k1.size:=o1.lt rfl;simp (maxDischargeDepth:=60) [bA.sk,J,I];refine Yu ?_;intro b2 k2 g2 o2 e2;have M:∀ g,Ext g k1->Ext g k2:=fun g e=>Mod.trans e e2;have l2:b2<k2.size:=o2.lt rfl;simp (maxDischargeDepth:=60) [bA.sk,J,I,M];refine Yq (o2.ext' (Mod.refl _)) Xf (Yx (r.rv.ext (x0.trans ((e0.trans V).trans e2)))) (by rw [Yk,Xf2,lv]) Yw rfl (by omega) (by omega) ?_;intro ab k3 pv nv e3 O af;have U:∀ g,Ext g k2->Ext g k3:=fun g e=>Mod.trans e e3;have l3:=pv.lt O;have z3:=e3.size;simp (maxDischargeDepth:=60) [bA.sk,J,I,M,U];refine Yq (o1.ext' (e2.trans e3)) Xf (Yx (r.ra.ext (x0.trans (((e0.trans V).trans e2).trans e3)))) (by rw [Yk,Xf2,la]) Yw rfl (by omega) (by omega) ?_;intro aa k4 pa na e4 Z ad;simp (maxDischargeDepth:=60);refine Zs (bC.ext (((V.trans e2).trans e3).trans e4)) rfl rfl (by simp) ?_;intro hZ bZ mZ;simp [-Yc];rw [Yc];have zz5_1:=V.size;exact ac C hZ ab aa (Mod.ext ((((e0.trans V).trans e2).trans e3).trans e4) mZ (fun j X=>by omega)) bZ ((pv.ext' e4).mod mZ (fun _ X=>by omega)) ((pa.ext' (Mod.refl _)).mod mZ (fun _ X=>by omega)) (by omega) (by omega) (by omega) O Z (by omega) (by omega) (by omega)
end
end Go.Rm
