import Derived.Test.YtmpamfkkaakbfaaGreatDoorT15
/- Parts RNet15 -/
set_option linter.unusedSimpArgs false
set_option linter.unusedVariables false
namespace Go.Rm
section
variable {Y:Sys} {h:Za}
theorem Yj {K:Value->Za->Prop} {sz:Nat} (r:∀ (b:Nat) (h':Za),h.size<=b->Yb h' sz (Sl.at b 0 0) []->Ext h h'->K (.slice (some ⟨b,0,none⟩) 0 0) h'):Ef.wp h K (.bslice 0 sz #[] []) []:=by
 rw [Zfr]
 intro t
 exact r h.size _ (Xd6 _) Zhk Mod.push
theorem Yh {K:Value->Za->Prop} {sz bytes m b:Nat} {zero:Array Value} {nw:List Value} {x:Value} (R:Yb h sz (Sl.at b 0 0) []) (hx:Zfa x=some m) (D:Wq h sz m x=some nw)
  (G:nw.length=m * sz) (h1:∀ v∈nw,v.oneCell'=true) (hz:zero.size=sz) (hb:m * bytes<=140737488355328) (H:m<=9223372036854775807)
  (M:∀ (r:Sl) (h':Za),Yb h' sz r nw->r.n=m->Ext h h'->r.nl=false->(r.b=b\/h.size<=r.b)->K r.v h'):Ef.wp h K (.append sz bytes zero) [.slice (some ⟨b,0,none⟩) 0 0,x]:=by
 simp only [Ef.wp,hx,D,Xes]
 by_cases O:m<=0
 ·obtain rfl:m=0:=by omega
  have I:nw=[]:=Xe3 (by simpa using G)
  subst I
  rw [if_pos O]
  simp only [hst]
  exact M (Sl.at b 0 0) h R rfl (Mod.refl h) rfl (.inl rfl)
 ·rw [if_neg O]
  refine ⟨H,hb,?_⟩
  simp only [Wq,Nat.zero_mul,rd]
  intro t U hge J
  refine M (Sl.at h.size m U) _ ?_ rfl Mod.push rfl (.inr (Xd6 _))
  refine ⟨G,.inr ⟨rfl,rfl,rfl,hge,J,_,Ys.new,?_,?_⟩⟩
  ·simp only [Xgw,Xf2,Zds,hz,G,Sl.at_c,Xf4,Xes]
   rw [<-Xet]
   congr 1
   omega
  ·simp only [Array.toList_append,Sl.at_n,List.nil_append]
   rw [<-G]
   exact Xgz
theorem Yk {l:List Yp}:∀ v∈Zs (l.map Xm),v.oneCell'=true:=by
 intro v hv
 simp only [Zs,List.mem_flatMap,Xg0] at hv
 obtain ⟨a,⟨t,_,rfl⟩,hv⟩:=hv
 simp only [Xm,Xf8,Xgk,or_false] at hv
 rcases hv with rfl | rfl | rfl <;> rfl
theorem Z4.rdAll {s:Sl} {l:List Yp} (r:Z4 h s l):Rm.rd h s.b s.o (l.length * 3)=some (Zs (l.map Xm)):=by
 have M:(Zs (l.map Xm)).length=l.length * 3:=by rw [Zx,Xea]
 have:=Zal (h:=h) (b:=s.b) (l:=Zs (l.map Xm)) (o:=s.o) fun j v G=>by
  have R:j<l.length * 3:=by
   have:=(List.getElem?_eq_some_iff.1 G).1
   rwa [M] at this
  have D:j / 3<l.length:=by omega
  obtain ⟨H,I,g2⟩:=Zfo (l:=l.map Xm) (i:=j / 3) (by simpa using D)
  simp only [Xev,Xm] at H I g2
  have J:=r.v0 _ D
  have k1:=r.v1 _ D
  have O:=r.v2 _ D
  rw [Wj D] at J k1 O
  have U:j % 3=0\/j % 3=1\/j % 3=2:=by omega
  rcases U with m | m | m
  ·have e:j=j / 3 * 3:=by omega
   rw [<-e] at H J
   rw [G] at H
   cases H
   exact J
  ·have e:j=j / 3 * 3+1:=by omega
   rw [<-e] at I
   rw [G] at I
   cases I
   rw [show s.o+j=s.o+j / 3 * 3+1 by omega]
   exact k1
  ·have e:j=j / 3 * 3+2:=by omega
   rw [<-e] at g2
   rw [G] at g2
   cases g2
   rw [show s.o+j=s.o+j / 3 * 3+2 by omega]
   exact O
 rwa [M] at this
theorem Yl {s:Sl} {l:List Yp} (r:Z4 h s l):Wq h 3 s.n s.v=some (Zs (l.map Xm)):=by
 have H:=r.rdAll
 rw [r.len] at H
 unfold Sl.v
 cases D:s.nl with
 | true =>
  have:l=[]:=Xe3 (by rw [r.len]; exact (r.ok.nil D).1)
  subst this
  rfl
 | false =>
  cases G:s.sp with
  | none=>simp only [Xeh,if_false,Wq]; exact H
  | some q =>
   have h0:s.n=0:=by
    have:=r.ok.spot.resolve_left (by rw [G]; simp)
    have:=r.ok.le; omega
   have:l=[]:=Xe3 (by rw [r.len]; exact h0)
   subst this
   simp [Wq,h0,Zs]
@[simp] theorem Z4b {D G r:Value} {s t:Sl}:Yg.sem Y h (.build #[D,G,r] [(0,1),(1,1),(2,1)] [0,1]) [s.v,t.v]=some (.agg #[s.v,t.v,r]):=by
 simp [Yg.sem,Instr.fill]
def CpI (v0:Value) (B A C:Nat) (s1 s2:Sl) (n:Nat) (ts:List Tab) (h0:Za) (e:List Value) (h':Za):Prop :=
 ∃ (i:Nat) (s3:Sl) (P:List (Tab × Sl)) (v5 v6:Value),e=[v0,.pointer (some ⟨A,0,none⟩),.pointer (some ⟨B,0,none⟩),.pointer (some ⟨C,0,none⟩),.int .i64 i,v5,v6]/\i<=n/\Ys h' C #[s1.v,s2.v,s3.v]/\Yb h' 3 s3 (Zs (P.map Qy))/\P.map Prod.fst=ts.take i/\P.Pairwise (fun p q=>p.2.b≠q.2.b)/\(∀ p∈P,(Yb h' 1 p.2 (Zh p.1.cs)/\p.2.nl=false)/\h0.size<=p.2.b/\(s3.nl=false->p.2.b≠s3.b)/\p.2.b<h'.size)/\(s3.nl=true\/h0.size<=s3.b)/\Mod (fun j=>j=C) h0 h'
set_option maxHeartbeats 2000000 in
theorem Zjs (H:Y.Has 117 Y117) {sv sa st:Sl} {N:Zg} (r:Uo h sv sa st N) (bs:Zd2 N) {R:Value->Za->Prop}
  (hr:∀ h' s1 s2 s3 (P:List (Tab × Sl)),Ext h h'->Yb h' 3 s1 (Zs (N.vs.map Xm))->Yb h' 3 s2 (Zs (N.as.map Xm))->Yb h' 3 s3 (Zs (P.map Qy))->P.map Prod.fst=N.ts ->
   P.Pairwise (fun p q=>p.2.b≠q.2.b)->(∀ p∈P,(Yb h' 1 p.2 (Zh p.1.cs)/\p.2.nl=false)/\h.size<=p.2.b/\p.2.b≠s1.b/\p.2.b≠s2.b/\(s3.nl=false->p.2.b≠s3.b))->h.size<=s1.b->h.size<=s2.b->s1.b≠s2.b->(s3.nl=false->h.size<=s3.b/\s3.b≠s1.b/\s3.b≠s2.b)->R (Yo s1 s2 s3) h') :
  Zm Y 117 [Yo sv sa st] h R:=by
 have lv:=r.rv.len
 have la:=r.ra.len
 have lt:=r.rt.len
 obtain ⟨bv,ba,bt,bc⟩:=bs
 refine .of_has H rfl ?_
 simp [Y117,Xa.wp,Yo]
 refine Zd ?_
 intro A hA gA U eA
 simp
 refine Zd ?_
 intro B hR gB bB eB
 have x0:=eA.trans eB
 have lA:=U.lt
 have lB:=bB.lt
 have zA:=eA.size
 have zB:=eB.size
 have U:=U.ext eB
 have ad:∀ (C:Nat) (hZ:Za) (s1 s2:Sl),Ext hR hZ->Ys hZ C #[s1.v,s2.v,.slice none 0 0]->Yb hZ 3 s1 (Zs (N.vs.map Xm))->Yb hZ 3 s2 (Zs (N.as.map Xm))->hR.size<=C->hR.size<=s1.b->hR.size<=s2.b->s1.nl=false->s2.nl=false->s1.b≠s2.b->C≠s1.b->C≠s2.b ->
   Stmt.wp Y Y117.body.rest.rest (Q5 Y117.res R) (fun _ _ _=>False) (Q5 Y117.res R) [Yo sv sa st,.pointer (some ⟨A,0,none⟩),.pointer (some ⟨B,0,none⟩),.pointer (some ⟨C,0,none⟩),undef,undef,undef] hZ:=by
  intro C hZ s1 s2 x1 bC o1 o2 gC f1 f2 az aA d12 aM aN
  have l1:=o1.lt az
  have l2:=o2.lt aA
  have lC:=bC.lt
  have z1:=x1.size
  simp [Y117,Stmt.rest]
  refine Zj (CpI (Yo sv sa st) B A C s1 s2 st.n N.ts hZ) (fun e _=>st.n-Zo e 4) ⟨0,Sl.nil,[],_,_,rfl,by omega,bC,Yb.nil,by simp,List.Pairwise.nil,fun p hp=>(by cases hp),.inl rfl,Mod.refl _⟩ ?_
  rintro e h2 ⟨i,s3,P,v5,v6,rfl,hi,al,o3,hP,am,ah,ai,m2⟩
  have x2:Ext hR h2:=Mod.ext x1 m2 (fun j hj=>by omega)
  have an:=U.ext x2
  have z2:=m2.size
  by_cases c:i<st.n
  ·have c':(i:Int)<st.n:=by omega
   have w1:IntKind.i64.wrap ((i:Int)+1)=(i:Int)+1:=Ze (by omega)
   obtain ⟨u,aB,_,ru⟩:=(r.rt.ext (x0.trans x2)).rd (i:=i) (by omega)
   have aC:=ru.len
   have aO:=bc i (by omega)
   have n3:=o3.n3
   have aD:P.length=i:=by have:=congrArg List.length hP; simp at this; omega
   have aP:s3.n=i:=by rw [<-n3]; simpa using aD
   simp [an.hc,c',Zb r.rt.ok,aB]
   refine Yr (vs:=#[.int .i64 (Zp N.ts i).i,.int .i64 (Zp N.ts i).o,u.v]) rfl rfl (by simp) ?_
   intro D aQ gD aE aF ao
   simp
   refine ao _ ?_
   intro hD bD eD
   clear ao aE aF
   have ap:=al.ext eD
   simp [ap.hc,bD.hc]
   refine Yj ?_
   intro E h4 gE oE V
   have aq:=ap.ext V
   have ar:=bD.ext V
   simp [aq.hc,ar.hc]
   refine Yh oE Yq (Zbu (ru.ext (eD.trans V))) (by rw [Wu,aC,Xej]) Zc3 rfl (by omega) (by omega) ?_
   intro u' h5 ou nu e5 au hu
   have av:=aq.ext e5
   have aG:=ar.ext e5
   simp [av.hc,aG.hc]
   refine Zch rfl rfl rfl ?_ (by omega)
   intro G h6 gG bG e6 oG
   have aw:=av.ext e6
   simp [aw.hc]
   have y6:=((eD.trans V).trans e5).trans e6
   refine Vz rfl (o3.ext' y6) bG rfl rfl (by simp) (by omega) (by omega) ?_
   intro af h7 o7 m7 aH
   have o7:Yb h7 3 af (Zs ((P++[(Zp N.ts i,u')]).map Qy)):=by simpa [Qy] using o7
   have zD:=eD.size
   have z4:=V.size
   have z5:=e5.size
   have z6:=e6.size
   have z7:=m7.size
   have aR:=ou.lt au
   have lE:=oE.lt rfl
   have aS:E<h4.size:=lE
   have l3:s3.nl=false->s3.b<h2.size:=fun hn=>o3.lt hn
   have aj:af.nl=false->(s3.nl=false/\af.b=s3.b)\/h6.size<=af.b:=by
    intro hn
    rcases aH with ⟨q1,q2⟩ | ⟨q1,q2⟩
    ·exact .inl ⟨by rw [<-q2,hn],q1⟩
    ·exact .inr q1
   have ak:af.nl=true\/hZ.size<=af.b:=by
    cases hn:af.nl with
    | true=>exact .inl rfl
    | false =>
     right
     rcases aj hn with ⟨q,e⟩ | q
     ·have:=ai.resolve_left (by rw [q]; simp); omega
     ·omega
   have aI:s3.nl=false->C≠s3.b:=fun hn=>by have:=ai.resolve_left (by rw [hn]; simp); omega
   have aJ:=m7.blk aw (fun hj=>aI hj.1 hj.2)
   simp
   refine stB aJ (by simp) ?_
   intro h8 ax m8
   simp at ax
   have z8:=m8.size
   have aK:af.nl=false->C≠af.b:=fun hn=>by have:=ak.resolve_left (by rw [hn]; simp); omega
   have o8:=o7.mod m8 (fun hn hj=>aK hn hj.symm)
   simp [w1]
   have aT:h2.size<=u'.b:=by rcases hu with q | q <;> omega
   have ay:Mod (fun j=>j=C\/(s3.nl=false/\j=s3.b)) h2 h8 :=
    ((y6.mono fun _ _ h=>h.elim).trans (m7.mono fun _ _ h=>.inr h)).trans (m8.mono fun _ _ h=>.inl h)
   refine ⟨⟨i+1,af,P++[(Zp N.ts i,u')],_,_,rfl,by omega,ax,o8,?_,?_,?_,ak,?_⟩,by simp [Zo]; omega⟩
   ·rw [Xe1,hP,Xel (by omega),Za1 (by omega)]
    rfl
   ·rw [List.pairwise_append]
    refine ⟨am,List.pairwise_singleton ..,fun p hp q hq=>?_⟩
    simp only [Xg3] at hq
    subst hq
    have:=(ah p hp).2.2.2
    show p.2.b≠u'.b
    omega
   ·intro p hp
    rcases List.mem_append.1 hp with g | g
    ·obtain ⟨⟨g1,g0⟩,g2,g3,g4⟩:=ah p g
     refine ⟨⟨g1.mod ay (fun _ hj=>?_),g0⟩,g2,fun hn=>?_,by omega⟩
     ·rcases hj with hj | ⟨q,hj⟩
      ·omega
      ·exact g3 q hj
     ·rcases aj hn with ⟨q,e⟩ | q
      ·rw [e]; exact g3 q
      ·omega
    ·simp only [Xg3] at g
     subst g
     have aL:=(((ou.ext' e6).mod m7 (fun _ hj=>by have:=l3 hj.1; omega)).mod m8 (fun _ hj=>by omega))
     refine ⟨⟨aL,au⟩,show hZ.size<=u'.b by omega,fun hn=>?_,show u'.b<h8.size by omega⟩
     show u'.b≠af.b
     rcases aj hn with ⟨q,e⟩ | q
     ·have:=l3 q; omega
     ·omega
   ·refine (m2.then ay (fun j hj q=>?_))
    rcases q with q | ⟨q,e⟩
    ·exact q
    ·have:=ai.resolve_left (by rw [q]; simp); omega
  have c':¬ (i:Int)<st.n:=by omega
  obtain rfl:i=st.n:=by omega
  rw [Xef (by omega)] at hP
  simp [an.hc,c',Zy al]
  refine Zi (bB.ext x2) rfl rfl (by simp) ?_
  intro h9 b9 m9
  simp
  refine Yt rfl b9 rfl ?_
  refine hr h9 s1 s2 s3 P (Mod.ext (x0.trans x2) m9 (fun j hj=>by omega)) ((o1.mod m2 (fun _ hj=>by omega)).mod m9 (fun _ hj=>by omega)) ((o2.mod m2 (fun _ hj=>by omega)).mod m9 (fun _ hj=>by omega))
   (o3.mod m9 (fun hn hj=>by have:=ai.resolve_left (by rw [hn]; simp); omega)) hP am (fun p hp=>?_) (by omega) (by omega) d12 (fun hn=>?_)
  ·obtain ⟨⟨g1,g0⟩,g2,g3,g4⟩:=ah p hp
   exact ⟨⟨g1.mod m9 (fun _ hj=>by omega),g0⟩,by omega,by omega,by omega,g3⟩
  ·have:=ai.resolve_left (by rw [hn]; simp)
   omega
 simp only [Y117,Stmt.rest] at ad
 simp [U.hc]
 refine ⟨?_,?_⟩
 ·refine Yj ?_
  intro b0 k0 g0 o0 e0
  have J:∀ g,Ext g hR->Ext g k0:=fun g e=>Mod.trans e e0
  have l0:b0<k0.size:=o0.lt rfl
  simp (config:={ maxDischargeDepth:=60 }) [U.sk,U.rk,J]
  refine ⟨?_,?_⟩
  ·refine Yh (o0.ext' (Mod.refl _)) Yq (Yl (r.rv.ext (x0.trans e0))) (by rw [Zx,Xea,lv]) Yk rfl (by omega) (by omega) ?_
   intro ac k1 pv nv e1 aa ag
   have I:∀ g,Ext g k0->Ext g k1:=fun g e=>Mod.trans e e1
   have l1:=pv.lt aa
   have z1:=e1.size
   simp (config:={ maxDischargeDepth:=60 }) [U.sk,U.rk,J,I]
   refine ⟨?_,?_⟩
   ·refine Yj ?_
    intro b2 k2 g2 o2 e2
    have M:∀ g,Ext g k1->Ext g k2:=fun g e=>Mod.trans e e2
    have l2:b2<k2.size:=o2.lt rfl
    simp (config:={ maxDischargeDepth:=60 }) [U.sk,U.rk,J,I,M]
    refine ⟨?_,?_⟩
    ·refine Yh (o2.ext' (Mod.refl _)) Yq (Yl (r.ra.ext (x0.trans ((e0.trans e1).trans e2)))) (by rw [Zx,Xea,la]) Yk rfl (by omega) (by omega) ?_
     intro ab k3 pa na e3 X ae
     have O:∀ g,Ext g k2->Ext g k3:=fun g e=>Mod.trans e e3
     have l3:=pa.lt X
     have z3:=e3.size
     simp (config:={ maxDischargeDepth:=60 }) [U.sk,U.rk,J,I,M,O]
     refine Zd ?_
     intro C k4 gC bC V
     have Z:∀ g,Ext g k3->Ext g k4:=fun g e=>Mod.trans e V
     have lC:=bC.lt
     simp (config:={ maxDischargeDepth:=60 }) [U.sk,U.rk,J,I,M,O,Z]
     refine Zi (bC.ext (Mod.refl _)) rfl rfl (by simp) ?_
     intro hZ bZ mZ
     simp [-Zu]
     rw [Zu]
     have zz5_0:=e0.size
     have zz5_1:=e1.size
     have zz5_2:=e2.size
     have zz5_3:=e3.size
     have zz5_4:=V.size
     exact ad C hZ ac ab (Mod.ext ((((e0.trans e1).trans e2).trans e3).trans V) mZ (fun j hj=>by omega)) bZ ((pv.ext' ((e2.trans e3).trans V)).mod mZ (fun _ hj=>by omega)) ((pa.ext' V).mod mZ (fun _ hj=>by omega)) (by omega) (by omega) (by omega) aa X (by omega) (by omega) (by omega)
    ·refine Zd ?_
     intro C k3 gC bC e3
     have O:∀ g,Ext g k2->Ext g k3:=fun g e=>Mod.trans e e3
     have lC:=bC.lt
     simp (config:={ maxDischargeDepth:=60 }) [U.sk,U.rk,J,I,M,O]
     refine Yh (o2.ext' e3) Yq (Yl (r.ra.ext (x0.trans (((e0.trans e1).trans e2).trans e3)))) (by rw [Zx,Xea,la]) Yk rfl (by omega) (by omega) ?_
     intro ab k4 pa na V X ae
     have Z:∀ g,Ext g k3->Ext g k4:=fun g e=>Mod.trans e V
     have l4:=pa.lt X
     have z4:=V.size
     simp (config:={ maxDischargeDepth:=60 }) [U.sk,U.rk,J,I,M,O,Z]
     refine Zi (bC.ext V) rfl rfl (by simp) ?_
     intro hZ bZ mZ
     simp [-Zu]
     rw [Zu]
     have zz5_0:=e0.size
     have zz5_1:=e1.size
     have zz5_2:=e2.size
     have zz5_3:=e3.size
     have zz5_4:=V.size
     exact ad C hZ ac ab (Mod.ext ((((e0.trans e1).trans e2).trans e3).trans V) mZ (fun j hj=>by omega)) bZ ((pv.ext' ((e2.trans e3).trans V)).mod mZ (fun _ hj=>by omega)) ((pa.ext' (Mod.refl _)).mod mZ (fun _ hj=>by omega)) (by omega) (by omega) (by omega) aa X (by omega) (by omega) (by omega)
   ·refine Zd ?_
    intro C k2 gC bC e2
    have M:∀ g,Ext g k1->Ext g k2:=fun g e=>Mod.trans e e2
    have lC:=bC.lt
    simp (config:={ maxDischargeDepth:=60 }) [U.sk,U.rk,J,I,M]
    refine Yj ?_
    intro b3 k3 g3 o3 e3
    have O:∀ g,Ext g k2->Ext g k3:=fun g e=>Mod.trans e e3
    have l3:b3<k3.size:=o3.lt rfl
    simp (config:={ maxDischargeDepth:=60 }) [U.sk,U.rk,J,I,M,O]
    refine Yh (o3.ext' (Mod.refl _)) Yq (Yl (r.ra.ext (x0.trans (((e0.trans e1).trans e2).trans e3)))) (by rw [Zx,Xea,la]) Yk rfl (by omega) (by omega) ?_
    intro ab k4 pa na V X ae
    have Z:∀ g,Ext g k3->Ext g k4:=fun g e=>Mod.trans e V
    have l4:=pa.lt X
    have z4:=V.size
    simp (config:={ maxDischargeDepth:=60 }) [U.sk,U.rk,J,I,M,O,Z]
    refine Zi (bC.ext (e3.trans V)) rfl rfl (by simp) ?_
    intro hZ bZ mZ
    simp [-Zu]
    rw [Zu]
    have zz5_0:=e0.size
    have zz5_1:=e1.size
    have zz5_2:=e2.size
    have zz5_3:=e3.size
    have zz5_4:=V.size
    exact ad C hZ ac ab (Mod.ext ((((e0.trans e1).trans e2).trans e3).trans V) mZ (fun j hj=>by omega)) bZ ((pv.ext' ((e2.trans e3).trans V)).mod mZ (fun _ hj=>by omega)) ((pa.ext' (Mod.refl _)).mod mZ (fun _ hj=>by omega)) (by omega) (by omega) (by omega) aa X (by omega) (by omega) (by omega)
  ·refine ⟨?_,?_⟩
   ·refine Yj ?_
    intro b1 k1 g1 o1 e1
    have I:∀ g,Ext g k0->Ext g k1:=fun g e=>Mod.trans e e1
    have l1:b1<k1.size:=o1.lt rfl
    simp (config:={ maxDischargeDepth:=60 }) [U.sk,U.rk,J,I]
    refine ⟨?_,?_⟩
    ·refine Yh (o0.ext' e1) Yq (Yl (r.rv.ext (x0.trans (e0.trans e1)))) (by rw [Zx,Xea,lv]) Yk rfl (by omega) (by omega) ?_
     intro ac k2 pv nv e2 aa ag
     have M:∀ g,Ext g k1->Ext g k2:=fun g e=>Mod.trans e e2
     have l2:=pv.lt aa
     have z2:=e2.size
     simp (config:={ maxDischargeDepth:=60 }) [U.sk,U.rk,J,I,M]
     refine ⟨?_,?_⟩
     ·refine Yh (o1.ext' e2) Yq (Yl (r.ra.ext (x0.trans ((e0.trans e1).trans e2)))) (by rw [Zx,Xea,la]) Yk rfl (by omega) (by omega) ?_
      intro ab k3 pa na e3 X ae
      have O:∀ g,Ext g k2->Ext g k3:=fun g e=>Mod.trans e e3
      have l3:=pa.lt X
      have z3:=e3.size
      simp (config:={ maxDischargeDepth:=60 }) [U.sk,U.rk,J,I,M,O]
      refine Zd ?_
      intro C k4 gC bC V
      have Z:∀ g,Ext g k3->Ext g k4:=fun g e=>Mod.trans e V
      have lC:=bC.lt
      simp (config:={ maxDischargeDepth:=60 }) [U.sk,U.rk,J,I,M,O,Z]
      refine Zi (bC.ext (Mod.refl _)) rfl rfl (by simp) ?_
      intro hZ bZ mZ
      simp [-Zu]
      rw [Zu]
      have zz5_0:=e0.size
      have zz5_1:=e1.size
      have zz5_2:=e2.size
      have zz5_3:=e3.size
      have zz5_4:=V.size
      exact ad C hZ ac ab (Mod.ext ((((e0.trans e1).trans e2).trans e3).trans V) mZ (fun j hj=>by omega)) bZ ((pv.ext' (e3.trans V)).mod mZ (fun _ hj=>by omega)) ((pa.ext' V).mod mZ (fun _ hj=>by omega)) (by omega) (by omega) (by omega) aa X (by omega) (by omega) (by omega)
     ·refine Zd ?_
      intro C k3 gC bC e3
      have O:∀ g,Ext g k2->Ext g k3:=fun g e=>Mod.trans e e3
      have lC:=bC.lt
      simp (config:={ maxDischargeDepth:=60 }) [U.sk,U.rk,J,I,M,O]
      refine Yh (o1.ext' (e2.trans e3)) Yq (Yl (r.ra.ext (x0.trans (((e0.trans e1).trans e2).trans e3)))) (by rw [Zx,Xea,la]) Yk rfl (by omega) (by omega) ?_
      intro ab k4 pa na V X ae
      have Z:∀ g,Ext g k3->Ext g k4:=fun g e=>Mod.trans e V
      have l4:=pa.lt X
      have z4:=V.size
      simp (config:={ maxDischargeDepth:=60 }) [U.sk,U.rk,J,I,M,O,Z]
      refine Zi (bC.ext V) rfl rfl (by simp) ?_
      intro hZ bZ mZ
      simp [-Zu]
      rw [Zu]
      have zz5_0:=e0.size
      have zz5_1:=e1.size
      have zz5_2:=e2.size
      have zz5_3:=e3.size
      have zz5_4:=V.size
      exact ad C hZ ac ab (Mod.ext ((((e0.trans e1).trans e2).trans e3).trans V) mZ (fun j hj=>by omega)) bZ ((pv.ext' (e3.trans V)).mod mZ (fun _ hj=>by omega)) ((pa.ext' (Mod.refl _)).mod mZ (fun _ hj=>by omega)) (by omega) (by omega) (by omega) aa X (by omega) (by omega) (by omega)
    ·refine Zd ?_
     intro C k2 gC bC e2
     have M:∀ g,Ext g k1->Ext g k2:=fun g e=>Mod.trans e e2
     have lC:=bC.lt
     simp (config:={ maxDischargeDepth:=60 }) [U.sk,U.rk,J,I,M]
     refine Yh (o0.ext' (e1.trans e2)) Yq (Yl (r.rv.ext (x0.trans ((e0.trans e1).trans e2)))) (by rw [Zx,Xea,lv]) Yk rfl (by omega) (by omega) ?_
     intro ac k3 pv nv e3 aa ag
     have O:∀ g,Ext g k2->Ext g k3:=fun g e=>Mod.trans e e3
     have l3:=pv.lt aa
     have z3:=e3.size
     simp (config:={ maxDischargeDepth:=60 }) [U.sk,U.rk,J,I,M,O]
     refine Yh (o1.ext' (e2.trans e3)) Yq (Yl (r.ra.ext (x0.trans (((e0.trans e1).trans e2).trans e3)))) (by rw [Zx,Xea,la]) Yk rfl (by omega) (by omega) ?_
     intro ab k4 pa na V X ae
     have Z:∀ g,Ext g k3->Ext g k4:=fun g e=>Mod.trans e V
     have l4:=pa.lt X
     have z4:=V.size
     simp (config:={ maxDischargeDepth:=60 }) [U.sk,U.rk,J,I,M,O,Z]
     refine Zi (bC.ext (e3.trans V)) rfl rfl (by simp) ?_
     intro hZ bZ mZ
     simp [-Zu]
     rw [Zu]
     have zz5_0:=e0.size
     have zz5_1:=e1.size
     have zz5_2:=e2.size
     have zz5_3:=e3.size
     have zz5_4:=V.size
     exact ad C hZ ac ab (Mod.ext ((((e0.trans e1).trans e2).trans e3).trans V) mZ (fun j hj=>by omega)) bZ ((pv.ext' V).mod mZ (fun _ hj=>by omega)) ((pa.ext' (Mod.refl _)).mod mZ (fun _ hj=>by omega)) (by omega) (by omega) (by omega) aa X (by omega) (by omega) (by omega)
   ·refine Zd ?_
    intro C k1 gC bC e1
    have I:∀ g,Ext g k0->Ext g k1:=fun g e=>Mod.trans e e1
    have lC:=bC.lt
    simp (config:={ maxDischargeDepth:=60 }) [U.sk,U.rk,J,I]
    refine ⟨?_,?_⟩
    ·refine Yh (o0.ext' e1) Yq (Yl (r.rv.ext (x0.trans (e0.trans e1)))) (by rw [Zx,Xea,lv]) Yk rfl (by omega) (by omega) ?_
     intro ac k2 pv nv e2 aa ag
     have M:∀ g,Ext g k1->Ext g k2:=fun g e=>Mod.trans e e2
     have l2:=pv.lt aa
     have z2:=e2.size
     simp (config:={ maxDischargeDepth:=60 }) [U.sk,U.rk,J,I,M]
     refine Yj ?_
     intro b3 k3 g3 o3 e3
     have O:∀ g,Ext g k2->Ext g k3:=fun g e=>Mod.trans e e3
     have l3:b3<k3.size:=o3.lt rfl
     simp (config:={ maxDischargeDepth:=60 }) [U.sk,U.rk,J,I,M,O]
     refine Yh (o3.ext' (Mod.refl _)) Yq (Yl (r.ra.ext (x0.trans (((e0.trans e1).trans e2).trans e3)))) (by rw [Zx,Xea,la]) Yk rfl (by omega) (by omega) ?_
     intro ab k4 pa na V X ae
     have Z:∀ g,Ext g k3->Ext g k4:=fun g e=>Mod.trans e V
     have l4:=pa.lt X
     have z4:=V.size
     simp (config:={ maxDischargeDepth:=60 }) [U.sk,U.rk,J,I,M,O,Z]
     refine Zi (bC.ext ((e2.trans e3).trans V)) rfl rfl (by simp) ?_
     intro hZ bZ mZ
     simp [-Zu]
     rw [Zu]
     have zz5_0:=e0.size
     have zz5_1:=e1.size
     have zz5_2:=e2.size
     have zz5_3:=e3.size
     have zz5_4:=V.size
     exact ad C hZ ac ab (Mod.ext ((((e0.trans e1).trans e2).trans e3).trans V) mZ (fun j hj=>by omega)) bZ ((pv.ext' (e3.trans V)).mod mZ (fun _ hj=>by omega)) ((pa.ext' (Mod.refl _)).mod mZ (fun _ hj=>by omega)) (by omega) (by omega) (by omega) aa X (by omega) (by omega) (by omega)
    ·refine Yj ?_
     intro b2 k2 g2 o2 e2
     have M:∀ g,Ext g k1->Ext g k2:=fun g e=>Mod.trans e e2
     have l2:b2<k2.size:=o2.lt rfl
     simp (config:={ maxDischargeDepth:=60 }) [U.sk,U.rk,J,I,M]
     refine Yh (o0.ext' (e1.trans e2)) Yq (Yl (r.rv.ext (x0.trans ((e0.trans e1).trans e2)))) (by rw [Zx,Xea,lv]) Yk rfl (by omega) (by omega) ?_
     intro ac k3 pv nv e3 aa ag
     have O:∀ g,Ext g k2->Ext g k3:=fun g e=>Mod.trans e e3
     have l3:=pv.lt aa
     have z3:=e3.size
     simp (config:={ maxDischargeDepth:=60 }) [U.sk,U.rk,J,I,M,O]
     refine Yh (o2.ext' e3) Yq (Yl (r.ra.ext (x0.trans (((e0.trans e1).trans e2).trans e3)))) (by rw [Zx,Xea,la]) Yk rfl (by omega) (by omega) ?_
     intro ab k4 pa na V X ae
     have Z:∀ g,Ext g k3->Ext g k4:=fun g e=>Mod.trans e V
     have l4:=pa.lt X
     have z4:=V.size
     simp (config:={ maxDischargeDepth:=60 }) [U.sk,U.rk,J,I,M,O,Z]
     refine Zi (bC.ext ((e2.trans e3).trans V)) rfl rfl (by simp) ?_
     intro hZ bZ mZ
     simp [-Zu]
     rw [Zu]
     have zz5_0:=e0.size
     have zz5_1:=e1.size
     have zz5_2:=e2.size
     have zz5_3:=e3.size
     have zz5_4:=V.size
     exact ad C hZ ac ab (Mod.ext ((((e0.trans e1).trans e2).trans e3).trans V) mZ (fun j hj=>by omega)) bZ ((pv.ext' V).mod mZ (fun _ hj=>by omega)) ((pa.ext' (Mod.refl _)).mod mZ (fun _ hj=>by omega)) (by omega) (by omega) (by omega) aa X (by omega) (by omega) (by omega)
 ·refine ⟨?_,?_⟩
  ·refine Yj ?_
   intro b0 k0 g0 o0 e0
   have J:∀ g,Ext g hR->Ext g k0:=fun g e=>Mod.trans e e0
   have l0:b0<k0.size:=o0.lt rfl
   simp (config:={ maxDischargeDepth:=60 }) [U.sk,U.rk,J]
   refine ⟨?_,?_⟩
   ·refine Yj ?_
    intro b1 k1 g1 o1 e1
    have I:∀ g,Ext g k0->Ext g k1:=fun g e=>Mod.trans e e1
    have l1:b1<k1.size:=o1.lt rfl
    simp (config:={ maxDischargeDepth:=60 }) [U.sk,U.rk,J,I]
    refine ⟨?_,?_⟩
    ·refine Yh (o1.ext' (Mod.refl _)) Yq (Yl (r.rv.ext (x0.trans (e0.trans e1)))) (by rw [Zx,Xea,lv]) Yk rfl (by omega) (by omega) ?_
     intro ac k2 pv nv e2 aa ag
     have M:∀ g,Ext g k1->Ext g k2:=fun g e=>Mod.trans e e2
     have l2:=pv.lt aa
     have z2:=e2.size
     simp (config:={ maxDischargeDepth:=60 }) [U.sk,U.rk,J,I,M]
     refine ⟨?_,?_⟩
     ·refine Yh (o0.ext' (e1.trans e2)) Yq (Yl (r.ra.ext (x0.trans ((e0.trans e1).trans e2)))) (by rw [Zx,Xea,la]) Yk rfl (by omega) (by omega) ?_
      intro ab k3 pa na e3 X ae
      have O:∀ g,Ext g k2->Ext g k3:=fun g e=>Mod.trans e e3
      have l3:=pa.lt X
      have z3:=e3.size
      simp (config:={ maxDischargeDepth:=60 }) [U.sk,U.rk,J,I,M,O]
      refine Zd ?_
      intro C k4 gC bC V
      have Z:∀ g,Ext g k3->Ext g k4:=fun g e=>Mod.trans e V
      have lC:=bC.lt
      simp (config:={ maxDischargeDepth:=60 }) [U.sk,U.rk,J,I,M,O,Z]
      refine Zi (bC.ext (Mod.refl _)) rfl rfl (by simp) ?_
      intro hZ bZ mZ
      simp [-Zu]
      rw [Zu]
      have zz5_0:=e0.size
      have zz5_1:=e1.size
      have zz5_2:=e2.size
      have zz5_3:=e3.size
      have zz5_4:=V.size
      exact ad C hZ ac ab (Mod.ext ((((e0.trans e1).trans e2).trans e3).trans V) mZ (fun j hj=>by omega)) bZ ((pv.ext' (e3.trans V)).mod mZ (fun _ hj=>by omega)) ((pa.ext' V).mod mZ (fun _ hj=>by omega)) (by omega) (by omega) (by omega) aa X (by omega) (by omega) (by omega)
     ·refine Zd ?_
      intro C k3 gC bC e3
      have O:∀ g,Ext g k2->Ext g k3:=fun g e=>Mod.trans e e3
      have lC:=bC.lt
      simp (config:={ maxDischargeDepth:=60 }) [U.sk,U.rk,J,I,M,O]
      refine Yh (o0.ext' ((e1.trans e2).trans e3)) Yq (Yl (r.ra.ext (x0.trans (((e0.trans e1).trans e2).trans e3)))) (by rw [Zx,Xea,la]) Yk rfl (by omega) (by omega) ?_
      intro ab k4 pa na V X ae
      have Z:∀ g,Ext g k3->Ext g k4:=fun g e=>Mod.trans e V
      have l4:=pa.lt X
      have z4:=V.size
      simp (config:={ maxDischargeDepth:=60 }) [U.sk,U.rk,J,I,M,O,Z]
      refine Zi (bC.ext V) rfl rfl (by simp) ?_
      intro hZ bZ mZ
      simp [-Zu]
      rw [Zu]
      have zz5_0:=e0.size
      have zz5_1:=e1.size
      have zz5_2:=e2.size
      have zz5_3:=e3.size
      have zz5_4:=V.size
      exact ad C hZ ac ab (Mod.ext ((((e0.trans e1).trans e2).trans e3).trans V) mZ (fun j hj=>by omega)) bZ ((pv.ext' (e3.trans V)).mod mZ (fun _ hj=>by omega)) ((pa.ext' (Mod.refl _)).mod mZ (fun _ hj=>by omega)) (by omega) (by omega) (by omega) aa X (by omega) (by omega) (by omega)
    ·refine Zd ?_
     intro C k2 gC bC e2
     have M:∀ g,Ext g k1->Ext g k2:=fun g e=>Mod.trans e e2
     have lC:=bC.lt
     simp (config:={ maxDischargeDepth:=60 }) [U.sk,U.rk,J,I,M]
     refine Yh (o1.ext' e2) Yq (Yl (r.rv.ext (x0.trans ((e0.trans e1).trans e2)))) (by rw [Zx,Xea,lv]) Yk rfl (by omega) (by omega) ?_
     intro ac k3 pv nv e3 aa ag
     have O:∀ g,Ext g k2->Ext g k3:=fun g e=>Mod.trans e e3
     have l3:=pv.lt aa
     have z3:=e3.size
     simp (config:={ maxDischargeDepth:=60 }) [U.sk,U.rk,J,I,M,O]
     refine Yh (o0.ext' ((e1.trans e2).trans e3)) Yq (Yl (r.ra.ext (x0.trans (((e0.trans e1).trans e2).trans e3)))) (by rw [Zx,Xea,la]) Yk rfl (by omega) (by omega) ?_
     intro ab k4 pa na V X ae
     have Z:∀ g,Ext g k3->Ext g k4:=fun g e=>Mod.trans e V
     have l4:=pa.lt X
     have z4:=V.size
     simp (config:={ maxDischargeDepth:=60 }) [U.sk,U.rk,J,I,M,O,Z]
     refine Zi (bC.ext (e3.trans V)) rfl rfl (by simp) ?_
     intro hZ bZ mZ
     simp [-Zu]
     rw [Zu]
     have zz5_0:=e0.size
     have zz5_1:=e1.size
     have zz5_2:=e2.size
     have zz5_3:=e3.size
     have zz5_4:=V.size
     exact ad C hZ ac ab (Mod.ext ((((e0.trans e1).trans e2).trans e3).trans V) mZ (fun j hj=>by omega)) bZ ((pv.ext' V).mod mZ (fun _ hj=>by omega)) ((pa.ext' (Mod.refl _)).mod mZ (fun _ hj=>by omega)) (by omega) (by omega) (by omega) aa X (by omega) (by omega) (by omega)
   ·refine Zd ?_
    intro C k1 gC bC e1
    have I:∀ g,Ext g k0->Ext g k1:=fun g e=>Mod.trans e e1
    have lC:=bC.lt
    simp (config:={ maxDischargeDepth:=60 }) [U.sk,U.rk,J,I]
    refine Yj ?_
    intro b2 k2 g2 o2 e2
    have M:∀ g,Ext g k1->Ext g k2:=fun g e=>Mod.trans e e2
    have l2:b2<k2.size:=o2.lt rfl
    simp (config:={ maxDischargeDepth:=60 }) [U.sk,U.rk,J,I,M]
    refine Yh (o2.ext' (Mod.refl _)) Yq (Yl (r.rv.ext (x0.trans ((e0.trans e1).trans e2)))) (by rw [Zx,Xea,lv]) Yk rfl (by omega) (by omega) ?_
    intro ac k3 pv nv e3 aa ag
    have O:∀ g,Ext g k2->Ext g k3:=fun g e=>Mod.trans e e3
    have l3:=pv.lt aa
    have z3:=e3.size
    simp (config:={ maxDischargeDepth:=60 }) [U.sk,U.rk,J,I,M,O]
    refine Yh (o0.ext' ((e1.trans e2).trans e3)) Yq (Yl (r.ra.ext (x0.trans (((e0.trans e1).trans e2).trans e3)))) (by rw [Zx,Xea,la]) Yk rfl (by omega) (by omega) ?_
    intro ab k4 pa na V X ae
    have Z:∀ g,Ext g k3->Ext g k4:=fun g e=>Mod.trans e V
    have l4:=pa.lt X
    have z4:=V.size
    simp (config:={ maxDischargeDepth:=60 }) [U.sk,U.rk,J,I,M,O,Z]
    refine Zi (bC.ext ((e2.trans e3).trans V)) rfl rfl (by simp) ?_
    intro hZ bZ mZ
    simp [-Zu]
    rw [Zu]
    have zz5_0:=e0.size
    have zz5_1:=e1.size
    have zz5_2:=e2.size
    have zz5_3:=e3.size
    have zz5_4:=V.size
    exact ad C hZ ac ab (Mod.ext ((((e0.trans e1).trans e2).trans e3).trans V) mZ (fun j hj=>by omega)) bZ ((pv.ext' V).mod mZ (fun _ hj=>by omega)) ((pa.ext' (Mod.refl _)).mod mZ (fun _ hj=>by omega)) (by omega) (by omega) (by omega) aa X (by omega) (by omega) (by omega)
  ·refine Zd ?_
   intro C k0 gC bC e0
   have J:∀ g,Ext g hR->Ext g k0:=fun g e=>Mod.trans e e0
   have lC:=bC.lt
   simp (config:={ maxDischargeDepth:=60 }) [U.sk,U.rk,J]
   refine ⟨?_,?_⟩
   ·refine Yj ?_
    intro b1 k1 g1 o1 e1
    have I:∀ g,Ext g k0->Ext g k1:=fun g e=>Mod.trans e e1
    have l1:b1<k1.size:=o1.lt rfl
    simp (config:={ maxDischargeDepth:=60 }) [U.sk,U.rk,J,I]
    refine ⟨?_,?_⟩
    ·refine Yh (o1.ext' (Mod.refl _)) Yq (Yl (r.rv.ext (x0.trans (e0.trans e1)))) (by rw [Zx,Xea,lv]) Yk rfl (by omega) (by omega) ?_
     intro ac k2 pv nv e2 aa ag
     have M:∀ g,Ext g k1->Ext g k2:=fun g e=>Mod.trans e e2
     have l2:=pv.lt aa
     have z2:=e2.size
     simp (config:={ maxDischargeDepth:=60 }) [U.sk,U.rk,J,I,M]
     refine Yj ?_
     intro b3 k3 g3 o3 e3
     have O:∀ g,Ext g k2->Ext g k3:=fun g e=>Mod.trans e e3
     have l3:b3<k3.size:=o3.lt rfl
     simp (config:={ maxDischargeDepth:=60 }) [U.sk,U.rk,J,I,M,O]
     refine Yh (o3.ext' (Mod.refl _)) Yq (Yl (r.ra.ext (x0.trans (((e0.trans e1).trans e2).trans e3)))) (by rw [Zx,Xea,la]) Yk rfl (by omega) (by omega) ?_
     intro ab k4 pa na V X ae
     have Z:∀ g,Ext g k3->Ext g k4:=fun g e=>Mod.trans e V
     have l4:=pa.lt X
     have z4:=V.size
     simp (config:={ maxDischargeDepth:=60 }) [U.sk,U.rk,J,I,M,O,Z]
     refine Zi (bC.ext (((e1.trans e2).trans e3).trans V)) rfl rfl (by simp) ?_
     intro hZ bZ mZ
     simp [-Zu]
     rw [Zu]
     have zz5_0:=e0.size
     have zz5_1:=e1.size
     have zz5_2:=e2.size
     have zz5_3:=e3.size
     have zz5_4:=V.size
     exact ad C hZ ac ab (Mod.ext ((((e0.trans e1).trans e2).trans e3).trans V) mZ (fun j hj=>by omega)) bZ ((pv.ext' (e3.trans V)).mod mZ (fun _ hj=>by omega)) ((pa.ext' (Mod.refl _)).mod mZ (fun _ hj=>by omega)) (by omega) (by omega) (by omega) aa X (by omega) (by omega) (by omega)
    ·refine Yj ?_
     intro b2 k2 g2 o2 e2
     have M:∀ g,Ext g k1->Ext g k2:=fun g e=>Mod.trans e e2
     have l2:b2<k2.size:=o2.lt rfl
     simp (config:={ maxDischargeDepth:=60 }) [U.sk,U.rk,J,I,M]
     refine Yh (o1.ext' e2) Yq (Yl (r.rv.ext (x0.trans ((e0.trans e1).trans e2)))) (by rw [Zx,Xea,lv]) Yk rfl (by omega) (by omega) ?_
     intro ac k3 pv nv e3 aa ag
     have O:∀ g,Ext g k2->Ext g k3:=fun g e=>Mod.trans e e3
     have l3:=pv.lt aa
     have z3:=e3.size
     simp (config:={ maxDischargeDepth:=60 }) [U.sk,U.rk,J,I,M,O]
     refine Yh (o2.ext' e3) Yq (Yl (r.ra.ext (x0.trans (((e0.trans e1).trans e2).trans e3)))) (by rw [Zx,Xea,la]) Yk rfl (by omega) (by omega) ?_
     intro ab k4 pa na V X ae
     have Z:∀ g,Ext g k3->Ext g k4:=fun g e=>Mod.trans e V
     have l4:=pa.lt X
     have z4:=V.size
     simp (config:={ maxDischargeDepth:=60 }) [U.sk,U.rk,J,I,M,O,Z]
     refine Zi (bC.ext (((e1.trans e2).trans e3).trans V)) rfl rfl (by simp) ?_
     intro hZ bZ mZ
     simp [-Zu]
     rw [Zu]
     have zz5_0:=e0.size
     have zz5_1:=e1.size
     have zz5_2:=e2.size
     have zz5_3:=e3.size
     have zz5_4:=V.size
     exact ad C hZ ac ab (Mod.ext ((((e0.trans e1).trans e2).trans e3).trans V) mZ (fun j hj=>by omega)) bZ ((pv.ext' V).mod mZ (fun _ hj=>by omega)) ((pa.ext' (Mod.refl _)).mod mZ (fun _ hj=>by omega)) (by omega) (by omega) (by omega) aa X (by omega) (by omega) (by omega)
   ·refine Yj ?_
    intro b1 k1 g1 o1 e1
    have I:∀ g,Ext g k0->Ext g k1:=fun g e=>Mod.trans e e1
    have l1:b1<k1.size:=o1.lt rfl
    simp (config:={ maxDischargeDepth:=60 }) [U.sk,U.rk,J,I]
    refine Yj ?_
    intro b2 k2 g2 o2 e2
    have M:∀ g,Ext g k1->Ext g k2:=fun g e=>Mod.trans e e2
    have l2:b2<k2.size:=o2.lt rfl
    simp (config:={ maxDischargeDepth:=60 }) [U.sk,U.rk,J,I,M]
    refine Yh (o2.ext' (Mod.refl _)) Yq (Yl (r.rv.ext (x0.trans ((e0.trans e1).trans e2)))) (by rw [Zx,Xea,lv]) Yk rfl (by omega) (by omega) ?_
    intro ac k3 pv nv e3 aa ag
    have O:∀ g,Ext g k2->Ext g k3:=fun g e=>Mod.trans e e3
    have l3:=pv.lt aa
    have z3:=e3.size
    simp (config:={ maxDischargeDepth:=60 }) [U.sk,U.rk,J,I,M,O]
    refine Yh (o1.ext' (e2.trans e3)) Yq (Yl (r.ra.ext (x0.trans (((e0.trans e1).trans e2).trans e3)))) (by rw [Zx,Xea,la]) Yk rfl (by omega) (by omega) ?_
    intro ab k4 pa na V X ae
    have Z:∀ g,Ext g k3->Ext g k4:=fun g e=>Mod.trans e V
    have l4:=pa.lt X
    have z4:=V.size
    simp (config:={ maxDischargeDepth:=60 }) [U.sk,U.rk,J,I,M,O,Z]
    refine Zi (bC.ext (((e1.trans e2).trans e3).trans V)) rfl rfl (by simp) ?_
    intro hZ bZ mZ
    simp [-Zu]
    rw [Zu]
    have zz5_0:=e0.size
    have zz5_1:=e1.size
    have zz5_2:=e2.size
    have zz5_3:=e3.size
    have zz5_4:=V.size
    exact ad C hZ ac ab (Mod.ext ((((e0.trans e1).trans e2).trans e3).trans V) mZ (fun j hj=>by omega)) bZ ((pv.ext' V).mod mZ (fun _ hj=>by omega)) ((pa.ext' (Mod.refl _)).mod mZ (fun _ hj=>by omega)) (by omega) (by omega) (by omega) aa X (by omega) (by omega) (by omega)
end
end Go.Rm
