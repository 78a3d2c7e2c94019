import Derived.Test.YtmpamfkkaakbfaaGreatDoorT17
import Derived.Test.YtmpamfkkaakbfaaGreatDoorT02
import Derived.Test.YtmpamfkkaakbfaaGreatDoorT06
/- Parts RGraph2 RGraph3 RGraph4 RGraph5 -/
set_option linter.unusedSimpArgs false
set_option linter.unusedVariables false
namespace Go.Rm
structure Zb7 (h:Za) (lo:Nat) (s1 s2 s3:Sl) (P:List (Tab × Sl)) (N:Zg):Prop where
 o1:Yb h 3 s1 (Zs (N.vs.map Xm))
 o2:Yb h 3 s2 (Zs (N.as.map Xm))
 o3:Yb h 3 s3 (Zs (P.map Qy))
 hP:P.map Prod.fst=N.ts
 row:∀ p∈P,Zz h p.2 p.1.cs
 f1:s1.nl=false->lo<=s1.b
 f2:s2.nl=false->lo<=s2.b
 f3:s3.nl=false->lo<=s3.b
 fr:∀ p∈P,p.1.cs≠[]->lo<=p.2.b/\(s1.nl=false->p.2.b≠s1.b)/\(s2.nl=false->p.2.b≠s2.b)/\(s3.nl=false->p.2.b≠s3.b)
 d12:s1.nl=false->s2.nl=false->s1.b≠s2.b
 d13:s1.nl=false->s3.nl=false->s1.b≠s3.b
 d23:s2.nl=false->s3.nl=false->s2.b≠s3.b
section
variable {Y:Sys} {h h':Za}
theorem Zz.lt {s:Sl} {cs:List Int} (r:Zz h s cs) (D:cs≠[]):s.b<h.size:=by
 rcases Xd8 s.b h.size with q | q
 ·exact q
 ·have:=r.val 0 (List.length_pos_iff.2 D)
  simp [hc,Xfw q] at this
theorem Zb7.netH {lo:Nat} {r s2 D:Sl} {P:List (Tab × Sl)} {N:Zg} (o:Zb7 h lo r s2 D P N):Uo h r s2 D N :=
 ⟨o.o1.row3,o.o2.row3,o.o3.rowT o.hP o.row⟩
theorem Zb7.mod {S:Nat->Prop} {lo:Nat} {G s2 H:Sl} {P:List (Tab × Sl)} {N:Zg} (o:Zb7 h lo G s2 H P N) (m:Mod S h h') (hs:∀ b,S b->b<lo):Zb7 h' lo G s2 H P N :=
 {o with
  o1:=o.o1.mod m fun r hb=>by have:=hs _ hb; have:=o.f1 r; omega
  o2:=o.o2.mod m fun r hb=>by have:=hs _ hb; have:=o.f2 r; omega
  o3:=o.o3.mod m fun r hb=>by have:=hs _ hb; have:=o.f3 r; omega
  row:=fun p hp=>(o.row p hp).mod m fun D hb=>by have:=hs _ hb; have:=(o.fr p hp D).1; omega }
theorem Zb7.ext {lo:Nat} {r s2 D:Sl} {P:List (Tab × Sl)} {N:Zg} (o:Zb7 h lo r s2 D P N) (m:Ext h h'):Zb7 h' lo r s2 D P N:=o.mod m fun _ h=>h.elim
theorem Z0x {K:Value->Za->Prop} {sz n:Nat} {s:Sl} {cells:List Value} (o:Yb h sz s cells) {k:Nat} {vs:Array Value} (H:vs.size=n) (U:k+n<=cells.length) (h1:∀ v∈vs.toList,v.oneCell'=true)
  (V:∀ h',Yb h' sz s (cells.take k++vs.toList++cells.drop (k+n))->Mod (fun j=>j=s.b) h h'->K undef h'):Ef.wp h K (.store n) [.pointer (some ⟨s.b,s.o+k,none⟩),.agg vs]:=by
 have D:=o.1
 rcases o.2 with ⟨_,rfl⟩ | ⟨g1,g2,I,g3,g4,r,gb,g5,J⟩
 ·obtain rfl:n=0:=by simp at U; omega
  obtain rfl:k=0:=by simp at U; omega
  have:vs=#[]:=Array.eq_empty_of_size_eq_zero H
  subst this
  refine ⟨rfl,?_⟩
  exact V h (by simpa using o) (Mod.refl h)
 ·have X:cells.length<=r.toList.length:=by rw [<-J,Xex]; omega
  have G:k+vs.toList.length<=r.size:=by simp at X ⊢; omega
  obtain ⟨h3,q1,q2,q3,q4⟩:=Zeu (o:=k) (vs:=vs.toList) gb G h1
  refine ⟨H,?_⟩
  simp only [Zf4,g2,Xes,q1]
  refine V h3 ⟨?_,.inr ⟨g1,g2,I,g3,g4,_,q2,?_,?_⟩⟩ q3
  ·simp only [Xei,Xex,Xhc,Xfj]
   omega
  ·simp only [Xf2,Xei,Xex,Xhc,Xfj]
   simp at G
   omega
  ·simp only
   rw [<-D,<-J]
   simp only [Xfj,H]
   have e1:(r.toList.take (s.n * sz)).length=cells.length:=by rw [J]
   rw [e1]
   have e2:s.n * sz=cells.length:=D.symm
   rw [e2]
   apply Xgg
   intro i
   simp only [Xen,List.getElem?_append,Xei,Xex,Xfj,Xfg,H]
   simp only [Xfj] at X
   by_cases c1:i<k
   ·have M:i<cells.length:=by omega
    have Z:i<min k r.size:=by omega
    have a3:i<min k r.size+n:=by omega
    have a4:i<min k (min cells.length r.size):=by omega
    have a5:i<min k (min cells.length r.size)+n:=by omega
    simp [M,Z,a3,a4,a5,c1]
   ·by_cases c2:i<k+n
    ·have M:i<cells.length:=by omega
     have Z:¬ i<min k r.size:=by omega
     have a3:i<min k r.size+n:=by omega
     have a4:¬ i<min k (min cells.length r.size):=by omega
     have a5:i<min k (min cells.length r.size)+n:=by omega
     have O:min k r.size=k:=by omega
     have R:min k (min cells.length r.size)=k:=by omega
     simp [M,c1,c2,O,R]
    ·have O:min k r.size=k:=by omega
     have R:min k (min cells.length r.size)=k:=by omega
     simp only [O,R,c1,c2,if_false]
     have e3:k+n+(i-(k+n))=i:=by omega
     rw [e3]
@[simp] theorem Z4c {r D G:Value} {s t u:Sl}:Yg.sem Y h (.build #[r,D,G] [(0,1),(1,1),(2,1)] [0,1,2]) [s.v,t.v,u.v]=some (.agg #[s.v,t.v,u.v]):=Zbe rfl rfl rfl
theorem Zfi:∀ {l:List (Value × Value × Value)} {i:Nat} {x:Value × Value × Value},i<l.length->Zs (l.set i x)=(Zs l).take (i * 3)++[x.1,x.2.1,x.2.2]++(Zs l).drop (i * 3+3):=by
 intro l
 induction l with
 | nil=>intro i x D; simp at D
 | cons t r G =>
  intro i x D
  have e:Zs (t::r)=t.1::t.2.1::t.2.2::Zs r:=rfl
  cases i with
  | zero =>
   rw [e]
   simp [Zs]
  | succ i =>
   have:=G (i:=i) (x:=x) (by simpa using D)
   have H:(i+1) * 3=i * 3+1+1+1:=by omega
   have I:(i+1) * 3+3=i * 3+3+1+1+1:=by omega
   rw [e,I,H]
   simp only [Xg4,Xht,List.drop_succ_cons,Xga]
   rw [<-this]
   rfl
theorem st3 {K:Value->Za->Prop} {s:Sl} {l:List (Value × Value × Value)} (o:Yb h 3 s (Zs l)) {i:Nat} (r:i<l.length) {a b c:Value} (H:a.oneCell'=true) (hb:b.oneCell'=true) (hc:c.oneCell'=true)
  (D:∀ h',Yb h' 3 s (Zs (l.set i (a,b,c)))->Mod (fun j=>j=s.b) h h'->K undef h'):Ef.wp h K (.store 3) [.pointer (some ⟨s.b,s.o+i * 3,none⟩),.agg #[a,b,c]]:=by
 refine Z0x o (k:=i * 3) rfl (by rw [Zx]; omega) ?_ ?_
 ·intro v hv
  simp only [Xf8,Xgk,or_false] at hv
  rcases hv with rfl | rfl | rfl <;> assumption
 ·intro h' G m'
  refine D h' ?_ m'
  rw [Zfi r]
  exact G
theorem Zth {α:Type} {l:List α} {i:Nat} {x y:α} (h:x∈l.set i y):x∈l\/x=y:=(List.mem_or_eq_of_mem_set h)
def GcI (v0:Value) (B A:Nat) (s3 st:Sl) (N:Zg) (h0:Za) (e:List Value) (h':Za):Prop :=
 ∃ (i:Nat) (P:List (Tab × Sl)) (v4 v5 v9:Value),e=[v0,.pointer (some ⟨A,0,none⟩),.pointer (some ⟨B,0,none⟩),s3.v,v4,v5,st.v,.int .i64 st.n,.int .i64 i,v9]/\i<=st.n/\Yb h' 3 s3 (Zs (P.map Qy))/\P.length=st.n/\(∀ j,j<i->∃ u,P[j]? = some (Zp N.ts j,u)/\Zz h' u (Zp N.ts j).cs/\((Zp N.ts j).cs≠[]->h0.size<=u.b))/\Mod (fun j=>s3.nl=false/\j=s3.b) h0 h'
structure Z4p (Y:Sys):Prop where
 clone:Y.Has 201 Y201
 C64:Y.Has 58 Y58
 CV:Y.Has 216 Y216
 CA:Y.Has 217 Y217
set_option maxHeartbeats 1000000 in
theorem Zh1 (G:Z4p Y) {sv sa I:Sl} {N:Zg} (r:Uo h sv sa I N) (bs:Zd2 N) {R:Value->Za->Prop}
  (hr:∀ h' s1 s2 s3 P,Ext h h'->Zb7 h' h.size s1 s2 s3 P N->R (Yo s1 s2 s3) h'):Zm Y 201 [Yo sv sa I] h R:=by
 have lv:=r.rv.len
 have la:=r.ra.len
 have lt:=r.rt.len
 obtain ⟨bv,ba,bt,bc⟩:=bs
 refine .of_has G.clone rfl ?_
 simp [Y201,Xa.wp,Yo]
 refine Zd ?_
 intro A hA gA bA eA
 simp
 refine Zd ?_
 intro B hB gB bB eB
 have bA:=bA.ext eB
 have lA:=bA.lt
 have lB:=bB.lt
 have zA:=eA.size
 have zB:=eB.size
 have x0:=eA.trans eB
 simp [bA.hc]
 refine Wz (n:=I.n) (by omega) (by omega) rfl ?_
 intro T h1 gT oT e1 lT
 have x1:=x0.trans e1
 rw [Zyp] at oT
 have an:=bA.ext e1
 have z1:=e1.size
 simp [an.hc]
 rw [<-Sl.at_v]
 have tT:(Sl.at T I.n I.n).b=T/\(Sl.at T I.n I.n).n=I.n/\(Sl.at T I.n I.n).nl=false:=⟨rfl,rfl,rfl⟩
 generalize Sl.at T I.n I.n=s3 at *
 obtain ⟨tT,tN,tL⟩:=tT
 refine Zj (GcI (Yo sv sa I) B A s3 I N h1) (fun e _=>I.n-Zo e 8) ⟨0,List.replicate I.n ((⟨0,0,[]⟩:Tab),Sl.nil),_,_,_,rfl,by omega,oT,by simp,fun j O=>by omega,Mod.refl _⟩ ?_
 rintro e h2 ⟨i,P,v4,v5,v9,rfl,hi,oP,lP,U,m2⟩
 have z2:=m2.size
 have y2:Ext hB h2:=Mod.ext e1 m2 (fun j O=>by omega)
 have af:=bA.ext y2
 by_cases c:i<I.n
 ·have c':(i:Int)<I.n:=by omega
  have w1:IntKind.i64.wrap ((i:Int)+1)=(i:Int)+1:=Ze (by omega)
  obtain ⟨u,ag,_,ah⟩:=r.rt.rd (i:=i) (by omega)
  have ao:=(x0.trans y2).rd ag (fun h=>h)
  have ru:=ah.ext (x0.trans y2)
  have aB:=ru.len
  have aC:=bc i (by omega)
  have ai:(i:Int)<s3.n:=by omega
  simp [c',Zb r.rt.ok,ao]
  refine Yr (vs:=#[.int .i64 (Zp N.ts i).i,.int .i64 (Zp N.ts i).o,u.v]) rfl rfl (by simp) ?_
  intro D aD gD ap aq aj
  simp
  refine aj _ ?_
  intro hD bD eD
  clear aj ap aq
  have ak:=oP.ext' eD
  have ar:=oP.lt tL
  have lD:=bD.lt
  have zD:=eD.size
  simp [Zy bD,Zb ak.ok,ai]
  refine st3 ak (by simp; omega) rfl rfl (by simp) ?_
  intro h3 o3 m3
  have z3:=m3.size
  have au:=m3.blk bD (by omega)
  have av:=(ru.ext eD).mod m3 (fun H O=>by have:=ah.lt H; omega)
  simp [au.hc]
  refine Zg5 G.C64 av (by omega) ?_
  intro h4 u' X ou hu
  have z4:=X.size
  have o4:=o3.ext' X
  simp [Zb o4.ok,ai]
  have al:i<P.length:=by omega
  have e5:(P.map Qy).set i (.int .i64 (Zp N.ts i).i,.int .i64 (Zp N.ts i).o,u.v)=(P.set i (Zp N.ts i,u)).map Qy:=by rw [Xfb]; rfl
  rw [e5] at o4
  have am:=fun (K:Value->Za->Prop)=>stN (K:=K) o4 (k:=i * 3+2) (v:=u'.v) (by rw [Zx]; simp; omega)
  rw [Xe4]
  refine am _ ?_
  clear am
  intro h5 o5 Z
  have z5:=Z.size
  have e6:=(Zi3 (l:=(P.set i (Zp N.ts i,u)).map Qy) (i:=i) (x:=u'.v) (by simp; omega)).2.2
  rw [e6] at o5
  have e7:((P.set i (Zp N.ts i,u)).map Qy).set i ((((P.set i (Zp N.ts i,u)).map Qy).getD i (undef,undef,undef)).1,(((P.set i (Zp N.ts i,u)).map Qy).getD i (undef,undef,undef)).2.1,u'.v)=(P.set i (Zp N.ts i,u')).map Qy:=by
   rw [Xfb,Xfb,List.set_set]
   simp [al,Qy]
  rw [e7] at o5
  have aw:(Zp N.ts i).cs≠[]->h1.size<=u'.b/\u'.b<h5.size:=by
   intro H
   obtain ⟨ax,hb,_,ac⟩:=ou.blk (i:=0) (by rw [Wu]; exact List.length_pos_iff.2 H)
   have:=hu.resolve_left (by rw [ac]; simp)
   have:=hb.lt
   omega
  have ay:=ou.row64.mod Z (fun H O=>by
   obtain ⟨ax,hb,_,ac⟩:=ou.blk (i:=0) (by rw [Wu]; exact List.length_pos_iff.2 H)
   have:=hu.resolve_left (by rw [ac]; simp)
   omega)
  have mm:Mod (fun j=>s3.nl=false/\j=s3.b) h2 h5:=(((eD.mono fun _ _ h=>h.elim).trans (m3.mono fun _ _ h=>⟨tL,h⟩)).trans (X.mono fun _ _ h=>h.elim)).trans (Z.mono fun _ _ h=>⟨tL,h⟩)
  simp [w1]
  refine ⟨⟨i+1,P.set i (Zp N.ts i,u'),_,_,_,rfl,by omega,o5,by simp; omega,fun j O=>?_,m2.trans mm⟩,by simp [Zo]; omega⟩
  rcases Xd8 j i with q | q
  ·obtain ⟨w,J,aa,ab⟩:=U j q
   refine ⟨w,?_,aa.mod mm (fun H O=>by have:=ab H; have:=O.2; omega),ab⟩
   rw [Xgo (by omega)]
   exact J
  ·obtain rfl:j=i:=by omega
   exact ⟨u',by simp [al],ay,fun H=>(aw H).1⟩
 have c':¬ (i:Int)<I.n:=by omega
 obtain rfl:i=I.n:=by omega
 simp [c',af.hc]
 refine Zqm G.CV (r.rv.ext (x0.trans y2)) (by omega) ?_
 intro h3 s1 e3 o1 f1
 have az:=af.ext e3
 simp [az.hc]
 refine Zp1 G.CA (r.ra.ext ((x0.trans y2).trans e3)) (by omega) ?_
 intro h4 s2 X o2 f2
 have z3:=e3.size
 have z4:=X.size
 simp [Zbe]
 refine Zi ((bB.ext y2).ext (e3.trans X)) rfl rfl (by simp) ?_
 intro h5 b5 Z
 simp
 refine Yt rfl b5 rfl ?_
 have ar:=oP.lt tL
 have aA:P.map Prod.fst=N.ts:=by
  apply Xgg
  intro j
  rcases Xd8 j I.n with q | q
  ·obtain ⟨w,J,_⟩:=U j q
   rw [List.getElem?_map,J,Za1 (by omega),Xfe (by omega)]
   rfl
  ·rw [Xeu (by simp; omega),Xeu (by omega)]
 have V:∀ p∈P,Zz h2 p.2 p.1.cs/\(p.1.cs≠[]->h1.size<=p.2.b/\p.2.b<h2.size):=by
  intro p hp
  obtain ⟨j,O,rfl⟩:=Xfa hp
  obtain ⟨w,J,aa,ab⟩:=U j (by omega)
  rw [Xfe O] at J
  simp only [Xez] at J
  rw [J]
  exact ⟨aa,fun H=>⟨ab H,aa.lt H⟩⟩
 refine hr h5 s1 s2 s3 P (Mod.ext ((x0.trans y2).trans (e3.trans X)) Z (fun j O=>by omega))
  {o1:=(o1.ext' X).mod Z (fun M O=>by have:=f1 M; omega)
   o2:=o2.mod Z (fun M O=>by have:=f2 M; omega)
   o3:=((oP.ext' e3).ext' X).mod Z (fun M O=>by omega)
   hP:=aA
   row:=fun p hp=>(((V p hp).1.ext e3).ext X).mod Z (fun H O=>by have:=(V p hp).2 H; omega)
   f1:=fun M=>by have:=f1 M; omega
   f2:=fun M=>by have:=f2 M; omega
   f3:=fun M=>by omega
   fr:=fun p hp H=>by
    have:=(V p hp).2 H
    exact ⟨by omega,fun M=>by have:=f1 M; omega,fun M=>by have:=f2 M; omega,fun M=>by omega⟩
   d12:=fun ad ae=>by have:=f2 ae; have:=o1.lt ad; omega
   d13:=fun ad _=>by have:=f1 ad; omega
   d23:=fun ae _=>by have:=f2 ae; omega }
end
def Vi (l:List (Value × Value)):List Value:=l.flatMap fun t=>[t.1,t.2]
theorem X6 {l:List (Value × Value)}:(Vi l).length=l.length * 2:=by
 induction l with
 | nil=>rfl
 | cons t r D=>simp only [Vi,Xgj,Xei,Xfd,Xf4] at D ⊢; omega
theorem Zfx {l:List (Value × Value)}:∀ {i:Nat} (D:i<l.length),(Vi l)[i * 2]? = some l[i].1/\(Vi l)[i * 2+1]? = some l[i].2:=by
 induction l with
 | nil=>intro i D; simp at D
 | cons t r G =>
  intro i D
  have e:Vi (t::r)=t.1::t.2::Vi r:=rfl
  rw [e]
  cases i with
  | zero=>simp
  | succ i =>
   have:=G (i:=i) (by simpa using D)
   have H:(i+1) * 2=i * 2+1+1:=by omega
   have I:(i+1) * 2+1=i * 2+1+1+1:=by omega
   rw [I,H]
   simp only [Xhs,List.getElem_cons_succ]
   exact this
theorem Zlr:∀ {l:List (Value × Value)} {i:Nat} {x:Value × Value},i<l.length->Vi (l.set i x)=(Vi l).take (i * 2)++[x.1,x.2]++(Vi l).drop (i * 2+2):=by
 intro l
 induction l with
 | nil=>intro i x D; simp at D
 | cons t r G =>
  intro i x D
  have e:Vi (t::r)=t.1::t.2::Vi r:=rfl
  cases i with
  | zero =>
   rw [e]
   simp [Vi]
  | succ i =>
   have:=G (i:=i) (x:=x) (by simpa using D)
   have H:(i+1) * 2=i * 2+1+1:=by omega
   have I:(i+1) * 2+2=i * 2+2+1+1:=by omega
   rw [e,I,H]
   simp only [Xg4,Xht,List.drop_succ_cons,Xga]
   rw [<-this]
   rfl
theorem Zpw {n:Nat} {v:Value}:List.replicate (n * 2) v=Vi (List.replicate n (v,v)):=by
 induction n with
 | zero=>rfl
 | succ n r =>
  rw [show (n+1) * 2=n * 2+1+1 by omega,Xhg,Xhg,r,Xhg]
  rfl
def plc (as:List Yp) (i:Nat):List (Value × Value):=(List.range as.length).map fun j=>if j<i then (.int .i64 (cntB as j j:Nat),.int .i64 (cntA as j j:Nat)) else (.int .i64 0,.int .i64 0)
@[simp] theorem Zph {as:List Yp} {i:Nat}:(plc as i).length=as.length:=by simp [plc]
theorem Z11 {as:List Yp}:plc as 0=List.replicate as.length (.int .i64 0,.int .i64 0):=by
 apply Xem (by simp)
 intro j h1 r
 simp [plc]
theorem Z2q {as:List Yp} {i:Nat} {a b:Int} (D:i<as.length) (r:a=cntB as i i) (hb:b=cntA as i i):(plc as i).set i (.int .i64 a,.int .i64 b)=plc as (i+1):=by
 apply Xem (by simp)
 intro j h1 G
 rw [Xe9]
 simp only [plc,Xev,Xf0]
 by_cases c:i=j
 ·subst c; simp [r,hb]
 ·have:(j<i+1)=(j<i):=by simp; omega
  simp only [if_neg c,this]
theorem Z76 {as:List Yp} {j:Nat} (r:j<as.length):(plc as as.length)[j]'(by simpa using r)=(.int .i64 (cntB as j j:Nat),.int .i64 (cntA as j j:Nat)):=by
 simp [plc,r]
def ioO (x:Bool) (as:List Yp) (v:Nat):List Int:=if x then Uw as v else Zep as v
def Zfd (nv:Nat) (q:Nat->Sl):List Value:=(List.range nv).map fun v=>(q v).v
@[simp] theorem Xa0 {r:Nat} {q:Nat->Sl}:(Zfd r q).length=r:=by simp [Zfd]
theorem Zcv {r v:Nat} {q:Nat->Sl} (hv:v<r):(Zfd r q)[v]? = some (q v).v:=by simp [Zfd,hv]
theorem Zsa {r v:Nat} {q:Nat->Sl} {s:Sl}:(Zfd r q).set v s.v=Zfd r (fun u=>if u=v then s else q u):=by
 apply Xem (by simp)
 intro j h1 D
 rw [Xe9]
 simp only [Zfd,Xev,Xf0]
 by_cases c:v=j
 ·subst c; simp
 ·have:¬ j=v:=fun e=>c e.symm
  simp [c,this]
structure QOK (lo:Nat) (h:Za) (nv:Nat) (Q:Bool->Nat->Sl) (l:Bool->List Yp):Prop where
 own:∀ x v,v<nv->Yb h 1 (Q x v) (Zh (ioO x (l x) v))
 fr:∀ x v,v<nv->(Q x v).nl=false->lo<=(Q x v).b
 dj:∀ x u y v,u<nv->v<nv->(x≠y\/u≠v)->(Q x u).nl=false->(Q y v).nl=false->(Q x u).b≠(Q y v).b
section
variable {Y:Sys} {h h':Za}
theorem QOK.mod {S:Nat->Prop} {lo r:Nat} {Q:Bool->Nat->Sl} {l:Bool->List Yp} (q:QOK lo h r Q l) (m:Mod S h h') (hs:∀ b,S b->b<lo):QOK lo h' r Q l :=
 ⟨fun x v hv=>(q.own x v hv).mod m fun D hb=>by have:=hs _ hb; have:=q.fr x v hv D; omega,q.fr,q.dj⟩
theorem QOK.ext {lo r:Nat} {Q:Bool->Nat->Sl} {l:Bool->List Yp} (q:QOK lo h r Q l) (m:Ext h h'):QOK lo h' r Q l:=q.mod m fun _ h=>h.elim
theorem QOK.step {lo J t:Nat} {Q:Bool->Nat->Sl} {l l':Bool->List Yp} {x:Bool} {I:Sl} (q:QOK lo h J Q l) (ht:t<J) (M:lo<=h.size) (o:Yb h' 1 I (Zh (ioO x (l' x) t))) (m:Mod (fun j=>(Q x t).nl=false/\j=(Q x t).b) h h')
  (hs:(I.b=(Q x t).b/\I.nl=(Q x t).nl)\/(h.size<=I.b/\I.nl=false)) (O:∀ y v,v<J->(y≠x\/v≠t)->ioO y (l' y) v=ioO y (l y) v) :
  QOK lo h' J (fun y v=>if y=x/\v=t then I else Q y v) l':=by
 refine ⟨fun y v hv=>?_,fun y v hv D=>?_,fun y u z v hu hv r h1 H=>?_⟩
 ·by_cases c:y=x/\v=t
  ·obtain ⟨rfl,rfl⟩:=c
   simp only [and_self,if_true]
   exact o
  ·simp only [if_neg c]
   have hc:y≠x\/v≠t:=by
    rcases Decidable.em (y=x) with e | e
    ·exact .inr fun e2=>c ⟨e,e2⟩
    ·exact .inl e
   rw [O y v hv hc]
   exact (q.own y v hv).mod m fun D hb=>q.dj y v x t hv ht hc D hb.1 hb.2
 ·by_cases c:y=x/\v=t
  ·simp only [if_pos c] at D ⊢
   rcases hs with ⟨G,e2⟩ | ⟨G,_⟩
   ·rw [G]; exact q.fr x t ht (by rw [<-e2]; exact D)
   ·omega
  ·simp only [if_neg c] at D ⊢
   exact q.fr y v hv D
 ·have lt:∀ y v,v<J->(Q y v).nl=false->(Q y v).b<h.size:=fun y v hv D=>(q.own y v hv).lt D
  by_cases c:y=x/\u=t
  ·by_cases d:z=x/\v=t
   ·obtain ⟨rfl,rfl⟩:=c
    obtain ⟨rfl,rfl⟩:=d
    rcases r with e | e <;> exact absurd rfl e
   ·simp only [if_pos c] at h1 ⊢
    simp only [if_neg d] at H ⊢
    obtain ⟨rfl,rfl⟩:=c
    rcases hs with ⟨G,e2⟩ | ⟨G,_⟩
    ·rw [G]; exact q.dj y u z v hu hv r (by rw [<-e2]; exact h1) H
    ·have:=lt z v hv H; omega
  ·by_cases d:z=x/\v=t
   ·simp only [if_neg c] at h1 ⊢
    simp only [if_pos d] at H ⊢
    obtain ⟨rfl,rfl⟩:=d
    rcases hs with ⟨G,e2⟩ | ⟨G,_⟩
    ·rw [G]; exact q.dj y u z v hu hv r h1 (by rw [<-e2]; exact H)
    ·have:=lt y u hu h1; omega
   ·simp only [if_neg c] at h1 ⊢
    simp only [if_neg d] at H ⊢
    exact q.dj y u z v hu hv r h1 H
def Zh6 (p:Nat) (s1 si so sp:Sl) (Q:Bool->Nat->Sl) (nv:Nat) (P:List (Tab × Sl)) (b:Nat):Prop :=
 b=p\/(s1.nl=false/\b=s1.b)\/b=si.b\/b=so.b\/b=sp.b\/(∃ x v,v<nv/\(Q x v).nl=false/\b=(Q x v).b)\/∃ q∈P,q.1.cs≠[]/\b=q.2.b
structure Zcc (h:Za) (p:Nat) (N:Zg) (S:Nat->Prop) (s1 s2 s3 si so sp:Sl) (P:List (Tab × Sl)) (Q:Bool->Nat->Sl):Prop where
 blk:Ys h p #[s1.v,s2.v,s3.v,si.v,so.v,sp.v]
 o1:Yb h 3 s1 (Zs (N.vs.map Xm))
 o2:Yb h 3 s2 (Zs (N.as.map Xm))
 o3:Yb h 3 s3 (Zs (P.map Qy))
 hP:P.map Prod.fst=N.ts
 row:∀ q∈P,Zz h q.2 q.1.cs
 oi:Yb h 1 si (Zfd N.vs.length (Q false))
 oo:Yb h 1 so (Zfd N.vs.length (Q true))
 op:Yb h 2 sp (Vi (plc N.as N.as.length))
 oq:∀ x v,v<N.vs.length->Yb h 1 (Q x v) (Zh (ioO x N.as v))
 inS:∀ b,Zh6 p s1 si so sp Q N.vs.length P b->S b
 e2:s2.nl=false->S s2.b/\¬ Zh6 p s1 si so sp Q N.vs.length P s2.b
 e3:s3.nl=false->S s3.b/\¬ Zh6 p s1 si so sp Q N.vs.length P s3.b
 d23:s2.nl=false->s3.nl=false->s2.b≠s3.b
 lt:∀ b,S b->b<h.size
def Yv (h:Za) (p:Nat) (N:Zg) (S:Nat->Prop):Prop:=∃ s1 s2 s3 si so sp P Q,Zcc h p N S s1 s2 s3 si so sp P Q
theorem Zcc.netH {p:Nat} {N:Zg} {S:Nat->Prop} {r s2 D G H I:Sl} {P:List (Tab × Sl)} {Q:Bool->Nat->Sl} (g:Zcc h p N S r s2 D G H I P Q):Uo h r s2 D N :=
 ⟨g.o1.row3,g.o2.row3,g.o3.rowT g.hP g.row⟩
theorem Zcc.mod {S':Nat->Prop} {p:Nat} {N:Zg} {S:Nat->Prop} {H s2 I J M O:Sl} {P:List (Tab × Sl)} {Q:Bool->Nat->Sl} (g:Zcc h p N S H s2 I J M O P Q) (m:Mod S' h h') (hd:∀ b,S b->¬ S' b):Zcc h' p N S H s2 I J M O P Q :=
 have r:=fun b hb=>hd b (g.inS b hb)
 {g with
  blk:=m.blk g.blk (r _ (.inl rfl))
  o1:=g.o1.mod m fun D=>r _ (.inr (.inl ⟨D,rfl⟩))
  o2:=g.o2.mod m fun D=>hd _ (g.e2 D).1
  o3:=g.o3.mod m fun D=>hd _ (g.e3 D).1
  row:=fun q hq=>(g.row q hq).mod m fun G=>r _ (.inr (.inr (.inr (.inr (.inr (.inr ⟨q,hq,G,rfl⟩))))))
  oi:=g.oi.mod m fun _=>r _ (.inr (.inr (.inl rfl)))
  oo:=g.oo.mod m fun _=>r _ (.inr (.inr (.inr (.inl rfl))))
  op:=g.op.mod m fun _=>r _ (.inr (.inr (.inr (.inr (.inl rfl)))))
  oq:=fun x v hv=>(g.oq x v hv).mod m fun D=>r _ (.inr (.inr (.inr (.inr (.inr (.inl ⟨x,v,hv,D,rfl⟩))))))
  lt:=fun b hb=>Xgh (g.lt b hb) m.size }
theorem Yv.mod {S':Nat->Prop} {p:Nat} {N:Zg} {S:Nat->Prop} (g:Yv h p N S) (m:Mod S' h h') (hd:∀ b,S b->¬ S' b):Yv h' p N S:=by
 obtain ⟨r,s2,D,G,H,I,P,Q,g⟩:=g
 exact ⟨r,s2,D,G,H,I,P,Q,g.mod m hd⟩
theorem Yv.ext {p:Nat} {N:Zg} {S:Nat->Prop} (g:Yv h p N S) (m:Ext h h'):Yv h' p N S:=g.mod m fun _ _ h=>h
theorem Yv.lt {p:Nat} {N:Zg} {S:Nat->Prop} (g:Yv h p N S):∀ b,S b->b<h.size:=by
 obtain ⟨r,s2,D,G,H,I,P,Q,g⟩:=g
 exact g.lt
theorem Xh {D G H I J M a b c:Value} {x y w:Option Addr} {n m k r m' k':Nat} :
  Yg.sem Y h (.build #[D,G,H,I,J,M] [(0,3),(3,1),(4,1),(5,1)] [0,1,2,3]) [.agg #[a,b,c],.slice x n r,.slice y m m',.slice w k k']=some (.agg #[a,b,c,.slice x n r,.slice y m m',.slice w k k']):=by
 simp [Yg.sem,Instr.fill]
theorem Zm8 {p:Yp->Bool} {l:List Yp} {i:Nat} (r:i<l.length) (hp:p (Zf l i)=false):Vl p 0 (l.take (i+1))=Vl p 0 (l.take i):=by
 rw [Za9 r,hp]
 simp
@[simp] theorem Z4f {r D:Value} {a b:Int}:Yg.sem Y h (.build #[r,D] [(0,1),(1,1)] [0,1]) [.int .i64 a,.int .i64 b]=some (.agg #[.int .i64 a,.int .i64 b]):=Zde rfl rfl
def BdI (v0:Value) (A p:Nat) (si so sp sa:Sl) (N:Zg) (h0:Za) (e:List Value) (h':Za):Prop :=
 ∃ (i:Nat) (Q:Bool->Nat->Sl) (v2 v4 v5 v9:Value),e=[v0,.pointer (some ⟨A,0,none⟩),v2,.pointer (some ⟨p,0,none⟩),v4,v5,sa.v,.int .i64 sa.n,.int .i64 i,v9]/\i<=sa.n/\Yb h' 1 si (Zfd N.vs.length (Q false))/\Yb h' 1 so (Zfd N.vs.length (Q true))/\Yb h' 2 sp (Vi (plc N.as i))/\QOK h0.size h' N.vs.length Q (fun _=>N.as.take i)/\Mod (fun j=>j=si.b\/j=so.b\/j=sp.b) h0 h'
set_option maxHeartbeats 2000000 in
theorem Zt3 (HB : Y.Has 200 Y200) {lo : Nat} {I V st : Sl} {P : List (Tab × Sl)} {N : Zg} (no : Zb7 h lo I V st P N) (aW : lo ≤ h.size) (bs : Zd2 N) (hA : Z1c N) {R : Value → Za → Prop}
    (hr : ∀ h' p (S : Nat → Prop), Ext h h' → Yv h' p N S → (∀ b, S b → lo ≤ b) → R (.pointer (some ⟨p, 0, none⟩)) h') : Zm Y 200 [Yo I V st] h R := by
  have r := no.netH
  have lv := r.rv.len
  have la := r.ra.len
  have lt := r.rt.len
  obtain ⟨bv, ba, bt, bc⟩ := bs
  refine .of_has HB rfl ?_
  simp [Y200, Xa.wp, Yo]
  refine Zd ?_
  intro A ac gA U eA
  have lA := U.lt
  have zA := eA.size
  have aa : ∀ (p : Nat) (hG : Za) (si so sp : Sl), Ext ac hG → Ys hG p #[I.v, V.v, st.v, si.v, so.v, sp.v] → Yb hG 1 si (List.replicate I.n (.slice none 0 0)) → Yb hG 1 so (List.replicate I.n (.slice none 0 0)) → Yb hG 2 sp (List.replicate (V.n * 2) (.int .i64 0)) →
      si.nl = false → so.nl = false → sp.nl = false → ac.size ≤ si.b → ac.size ≤ so.b → ac.size ≤ sp.b → ac.size ≤ p → si.b ≠ so.b → si.b ≠ sp.b → so.b ≠ sp.b → p ≠ si.b → p ≠ so.b → p ≠ sp.b →
      Stmt.wp Y Y200.body.rest.rest (Q5 Y200.res R) (fun _ _ _ => False) (Q5 Y200.res R) [Yo I V st, .pointer (some ⟨A, 0, none⟩), .pointer none, .pointer (some ⟨p, 0, none⟩), undef, undef, undef, undef, undef, undef] hG := by
    intro p hG si so sp x0 bp oi oo op ni nO np fi fo fp aX d1 d2 d3 d4 d5 d6
    have zG := x0.size
    have aC := U.ext x0
    have li := oi.lt ni
    have aY := oo.lt nO
    have lp := op.lt np
    have aZ := bp.lt
    have e0 : List.replicate I.n (.slice none 0 0) = Zfd N.vs.length (fun _ => Sl.nil) := by
      rw [lv]
      apply Xem (by simp)
      intro j h1 h2
      simp [Zfd, Sl.nil_v]
    have J : List.replicate (V.n * 2) (.int .i64 0) = Vi (plc N.as 0) := by rw [Zpw, Z11, la]
    rw [e0] at oi oo
    rw [J] at op
    simp [Y200, Stmt.rest, aC.hc]
    refine Zj (BdI (Yo I V st) A p si so sp V N hG) (fun e _ => V.n - Zo e 8) ⟨0, fun _ _ => Sl.nil, _, _, _, _, rfl, by omega, oi, oo, op, ⟨fun x v _ => by cases x <;> exact Yb.nil, fun x v _ X => (by cases X), fun x u y v _ _ _ X => (by cases X)⟩, Mod.refl _⟩ ?_
    clear oi oo op e0 J
    rintro e h2 ⟨i, Q, v2, v4, v5, v9, rfl, hi, oi, oo, op, q, m2⟩
    have z2 := m2.size
    have ah : Ext ac h2 := Mod.ext x0 m2 (fun j M => by omega)
    have ak := m2.blk bp (by omega)
    have r2 := r.ext (eA.trans ah)
    by_cases c : i < V.n
    · have c' : (i : Int) < V.n := by omega
      have ci : i < N.as.length := by omega
      have w1 : IntKind.i64.wrap ((i : Int) + 1) = (i : Int) + 1 := Ze (by omega)
      obtain ⟨q1, q2⟩ := hA i ci
      simp only [Zt, decide_eq_true_eq] at q1 q2
      obtain ⟨f, hf⟩ : ∃ f : Nat, (Zf N.as i).a = f := ⟨(Zf N.as i).a.toNat, by omega⟩
      obtain ⟨g, hg⟩ : ∃ g : Nat, (Zf N.as i).b = g := ⟨(Zf N.as i).b.toNat, by omega⟩
      rw [hf] at q1
      rw [hg] at q2
      have fv : f < N.vs.length := by omega
      have gv : g < N.vs.length := by omega
      have aq := r2.ra.rd ci
      rw [hf, hg] at aq
      simp [c', Zb r2.ra.ok, aq]
      refine Yr (vs := #[.int .i64 f, .int .i64 g, .int .i64 (Zf N.as i).c]) rfl rfl (by simp) ?_
      intro D a0 gD aD aE ar
      simp
      refine ar _ ?_
      intro hD bD eD
      clear ar aD aE
      have zD := eD.size
      have lD := bD.lt
      have oi := oi.ext' eD
      have oo := oo.ext' eD
      have op := op.ext' eD
      have au : ∀ x v, v < N.vs.length → (Q x v).nl = false → (Q x v).b < h2.size := fun x v hv X => (q.own x v hv).lt X
      have q := q.ext eD
      have av := ak.ext eD
      have aF : si.n = N.vs.length := by have := oi.1; simp at this; omega
      have a1 : so.n = N.vs.length := by have := oo.1; simp at this; omega
      have a2 : sp.n = N.as.length := by have := op.1; rw [X6, Zph] at this; omega
      have gi : (g : Int) < si.n := by omega
      have ai : (f : Int) < so.n := by omega
      have aG : (i : Int) < sp.n := by omega
      have cI := oi.cell (Zcv gv)
      have cO := oo.cell (Zcv fv)
      have qI := q.own false g gv
      have qO := q.own true f fv
      have nI := qI.1
      have aw := qO.1
      rw [Wu, Xej] at nI aw
      have hB : cntB N.as i i = (Q false g).n := by
        rw [← nI]
        show _ = (Zep (N.as.take i) g).length
        rw [Zl2, Zx6 hg]
      have aH : cntA N.as i i = (Q true f).n := by
        rw [← aw]
        show _ = (Uw (N.as.take i) f).length
        rw [Zjc, Ztn hf]
      have a3 := Z4j (as := N.as) (a := i) (n := i)
      have a4 := Z6c (as := N.as) (a := i) (n := i)
      simp [av.hc, bD.hc, Zb oi.ok, Zb oo.ok, Zb op.ok, gi, ai, aG, cI, cO]
      refine Z0x op (k := i * 2) rfl (by rw [X6, Zph]; omega) (by simp) ?_
      intro h4 op m4
      have z4 := m4.size
      have op : Yb h4 2 sp (Vi (plc N.as (i + 1))) := by
        rw [← Z2q ci (a := ((Q false g).n : Int)) (b := ((Q true f).n : Int)) (by rw [hB]) (by rw [aH]), Zlr (by simpa using ci)]
        exact op
      have oi := oi.mod m4 (fun _ M => by omega)
      have oo := oo.mod m4 (fun _ M => by omega)
      have q := q.mod m4 (fun b hb => by omega)
      have al := m4.blk av (by omega)
      have am := m4.blk bD (by omega)
      have cI := oi.cell (Zcv gv)
      simp [al.hc, am.hc, Zb oi.ok, gi, cI, Qm]
      intro t
      have e5 : Ext h4 (h4.push (.cells #[.int .i64 i] t)) := Mod.push
      have aI := al.ext e5
      have aJ := am.ext e5
      have aK := e5.hc cI (fun h => h)
      simp [aI.hc, aJ.hc, Zb oi.ok, gi, aK]
      refine Zbn rfl (q.own false g gv) (by omega) (by omega) ?_
      intro s' h6 os a5 m6 ax
      have z6 := m6.size
      have qf := q.fr false g gv
      have ay := m6.blk al (fun M => by have := qf M.1; omega)
      have az := m6.blk am (fun M => by have := au false g gv M.1; have := M.2; omega)
      have oi := oi.mod m6 (fun _ M => by have := qf M.1; have := M.2; omega)
      have oo := oo.mod m6 (fun _ M => by have := qf M.1; have := M.2; omega)
      have op := op.mod m6 (fun _ M => by have := qf M.1; have := M.2; omega)
      have q := q.step (x := false) (l' := fun y => if y = false then N.as.take (i + 1) else N.as.take i) gv (by omega) (by
        have : Zh (ioO false (if false = false then N.as.take (i + 1) else N.as.take i) g) = Zh (ioO false (N.as.take i) g) ++ [.int .i64 i] := by
          simp only [if_true, ioO, Xeh, if_false, Zep]
          rw [Za9 ci]
          simp [hg, Zh]
        rw [this]
        exact os) m6 ax (fun y v hv Z => by
        cases y with
        | true => rfl
        | false =>
          have : v ≠ g := Z.resolve_left (by simp)
          simp only [if_true, ioO, Xeh, if_false, Zep]
          exact Zm8 ci (by simp [hg]; omega))
      simp [ay.hc, az.hc, Zb oi.ok, gi]
      refine stN oi (k := g) (by simpa using gv) ?_
      intro h7 oi m7
      rw [Zsa] at oi
      have z7 := m7.size
      have aT : s'.nl = false → hG.size ≤ s'.b := by
        intro X
        rcases ax with ⟨J, e2⟩ | ⟨J, _⟩
        · rw [J]; exact qf (by rw [← e2]; exact X)
        · omega
      have oo := oo.mod m7 (fun _ M => by omega)
      have op := op.mod m7 (fun _ M => by omega)
      have q := q.mod m7 (fun b hb => by omega)
      have an := m7.blk ay (by omega)
      have ao := m7.blk az (by omega)
      have cO := oo.cell (Zcv fv)
      simp [an.hc, ao.hc, Zb oo.ok, ai, cO, Qm]
      intro t
      have e8 : Ext h7 (h7.push (.cells #[.int .i64 i] t)) := Mod.push
      have aL := an.ext e8
      have aM := ao.ext e8
      have aN := e8.hc cO (fun h => h)
      simp [aL.hc, aM.hc, Zb oo.ok, ai, aN]
      have qT := q.own true f fv
      have qe : (if true = false ∧ f = g then s' else Q true f) = Q true f := by simp
      simp only [qe] at qT
      refine Zbn rfl qT (by omega) (by omega) ?_
      intro ap h9 aO aU m9 aA
      have z9 := m9.size
      have ae := q.fr true f fv
      simp only [qe] at ae
      have aP := m9.blk an (fun M => by have := ae M.1; omega)
      have aQ := m9.blk ao (fun M => by have := au true f fv M.1; have := M.2; omega)
      have oi := oi.mod m9 (fun _ M => by have := ae M.1; have := M.2; omega)
      have oo := oo.mod m9 (fun _ M => by have := ae M.1; have := M.2; omega)
      have op := op.mod m9 (fun _ M => by have := ae M.1; have := M.2; omega)
      have q := q.step (x := true) (l' := fun _ => N.as.take (i + 1)) fv (by omega) (by
        have : Zh (ioO true (N.as.take (i + 1)) f) = Zh (ioO true (N.as.take i) f) ++ [.int .i64 i] := by
          simp only [ioO, if_true, Uw]
          rw [Za9 ci]
          simp [hf, Zh]
        rw [this]
        exact aO) (by simpa only [qe] using m9) (by simpa only [qe] using aA) (fun y v hv Z => by
        cases y with
        | false => rfl
        | true =>
          have : v ≠ f := Z.resolve_left (by simp)
          simp only [ioO, if_true, Uw, Bool.true_eq_false, if_false]
          exact Zm8 ci (by simp [hf]; omega))
      simp [aP.hc, aQ.hc, Zb oo.ok, ai]
      refine stN oo (k := f) (by simpa using fv) ?_
      intro aR oo aj
      rw [Zsa] at oo
      have aV : ap.nl = false → hG.size ≤ ap.b := by
        intro X
        rcases aA with ⟨J, e2⟩ | ⟨J, _⟩
        · rw [J]; exact ae (by rw [← e2]; exact X)
        · omega
      have oi := oi.mod aj (fun _ M => by omega)
      have op := op.mod aj (fun _ M => by omega)
      have q := q.mod aj (fun b hb => by omega)
      simp [w1]
      have mm : Mod (fun j => j = si.b ∨ j = so.b ∨ j = sp.b) hG aR := by
        refine ((((((m2.trans (eD.mono fun _ _ h => h.elim)).trans (m4.mono fun _ _ h => .inr (.inr h))).then m6 (fun j M hb => ?_)).trans (m7.mono fun _ _ h => .inl h)).then m9 (fun j M hb => ?_)).trans (aj.mono fun _ _ h => .inr (.inl h)))
        · have := qf hb.1; have := hb.2; omega
        · have := ae hb.1; have := hb.2; omega
      refine ⟨⟨i + 1, fun y v => if y = true ∧ v = f then ap else if y = false ∧ v = g then s' else Q y v, _, _, _, _, rfl, by omega, ?_, ?_, op, q, mm⟩, by simp [Zo]; omega⟩
      · simpa using oi
      · simpa using oo
    have c' : ¬ (i : Int) < V.n := by omega
    obtain rfl : i = V.n := by omega
    have aS : N.as.take V.n = N.as := Xef (by omega)
    simp only [aS] at q
    rw [← la] at op
    simp [c']
    have ad := no.ext (eA.trans ah)
    have aF : si.n = N.vs.length := by have := oi.1; simp at this; omega
    have lq : ∀ x v, v < N.vs.length → (Q x v).nl = false → hG.size ≤ (Q x v).b ∧ (Q x v).b < h2.size := fun x v hv X => ⟨q.fr x v hv X, (q.own x v hv).lt X⟩
    have aB : ∀ q' ∈ P, q'.1.cs ≠ [] → q'.2.b < h.size := fun q' hq Z => (no.row q' hq).lt Z
    refine hr h2 p (fun b => lo ≤ b ∧ b < h2.size) (eA.trans ah) ⟨I, V, st, si, so, sp, P, Q, ?_⟩ (fun b hb => hb.1)
    have af : ∀ (b : Nat), b < h.size → lo ≤ b → (I.nl = false → b ≠ I.b) → (∀ q' ∈ P, q'.1.cs ≠ [] → b ≠ q'.2.b) → ¬ Zh6 p I si so sp Q N.vs.length P b := by
      intro b h1 _ h3 h4 hb
      rcases hb with hb | ⟨X, hb⟩ | hb | hb | hb | ⟨x, v, hv, X, hb⟩ | ⟨q', hq, Z, hb⟩
      · omega
      · exact h3 X hb
      · omega
      · omega
      · omega
      · have := lq x v hv X; omega
      · exact h4 q' hq Z hb
    exact { blk := ak
            o1 := ad.o1
            o2 := ad.o2
            o3 := ad.o3
            hP := ad.hP
            row := ad.row
            oi := oi
            oo := oo
            op := op
            oq := q.own
            inS := fun b hb => by
              rcases hb with hb | ⟨X, hb⟩ | hb | hb | hb | ⟨x, v, hv, X, hb⟩ | ⟨q', hq, Z, hb⟩
              · have := ak.lt; subst hb; exact ⟨by omega, this⟩
              · have := ad.o1.lt X; have := ad.f1 X; subst hb; exact ⟨by omega, by omega⟩
              · have := oi.lt ni; subst hb; exact ⟨by omega, this⟩
              · have := oo.lt nO; subst hb; exact ⟨by omega, this⟩
              · have := op.lt np; subst hb; exact ⟨by omega, this⟩
              · have := lq x v hv X; subst hb; exact ⟨by omega, by omega⟩
              · have := (ad.fr q' hq Z).1; have := aB q' hq Z; have := eA.size; have := ah.size; subst hb; exact ⟨by omega, by omega⟩
            e2 := fun X => by
              have h1 := no.o2.lt X
              have ag := no.f2 X
              exact ⟨⟨ag, by omega⟩, af _ h1 ag (fun hs e => no.d12 hs X e.symm) (fun q' hq Z e => (no.fr q' hq Z).2.2.1 X e.symm)⟩
            e3 := fun X => by
              have h1 := no.o3.lt X
              have ag := no.f3 X
              exact ⟨⟨ag, by omega⟩, af _ h1 ag (fun hs e => no.d13 hs X e.symm) (fun q' hq Z e => (no.fr q' hq Z).2.2.2 X e.symm)⟩
            d23 := no.d23
            lt := fun b hb => hb.2 }
  simp only [Y200, Stmt.rest] at aa
  simp [U.hc, Zy U]
  refine ⟨?_, ?_⟩
  · refine Wz (n := I.n) (bytes := 24) (by omega) (by omega) rfl ?_
    intro bi k0 gi oi e0 li
    rw [Vy] at oi
    have G : ∀ g, Ext g ac → Ext g k0 := fun g e => Mod.trans e e0
    have z0 := e0.size
    simp (config := { maxDischargeDepth := 60 }) [U.sk, U.rk, Xh, G]
    refine ⟨?_, ?_⟩
    · refine Wz (n := I.n) (bytes := 24) (by omega) (by omega) rfl ?_
      intro bo k1 go oo J lo
      rw [Vy] at oo
      have H : ∀ g, Ext g k0 → Ext g k1 := fun g e => Mod.trans e J
      have z1 := J.size
      simp (config := { maxDischargeDepth := 60 }) [U.sk, U.rk, Xh, G, H]
      refine Wz (n := V.n) (bytes := 16) (by omega) (by omega) rfl ?_
      intro ab k2 gp op e2 lp
      rw [Zcs] at op
      have O : ∀ g, Ext g k1 → Ext g k2 := fun g e => Mod.trans e e2
      have z2 := e2.size
      simp (config := { maxDischargeDepth := 60 }) [U.sk, U.rk, Xh, G, H, O]
      refine Zd ?_
      intro p k3 gp bp e3
      have z3 := e3.size
      have lp := bp.lt
      simp [-Zu]
      rw [Zu]
      exact aa p k3 (Sl.at bi I.n I.n) (Sl.at bo I.n I.n) (Sl.at ab V.n V.n) (((e0.trans J).trans e2).trans e3) bp (oi.ext' ((J.trans e2).trans e3)) (oo.ext' (e2.trans e3)) (op.ext' e3) rfl rfl rfl (by simp; omega) (by simp; omega) (by simp; omega) (by omega) (by simp; omega) (by simp; omega) (by simp; omega) (by simp; omega) (by simp; omega) (by simp; omega)
    · refine Wz (n := V.n) (bytes := 16) (by omega) (by omega) rfl ?_
      intro ab k1 gp op J lp
      rw [Zcs] at op
      have H : ∀ g, Ext g k0 → Ext g k1 := fun g e => Mod.trans e J
      have z1 := J.size
      simp (config := { maxDischargeDepth := 60 }) [U.sk, U.rk, Xh, G, H]
      refine Wz (n := I.n) (bytes := 24) (by omega) (by omega) rfl ?_
      intro bo k2 go oo e2 lo
      rw [Vy] at oo
      have O : ∀ g, Ext g k1 → Ext g k2 := fun g e => Mod.trans e e2
      have z2 := e2.size
      simp (config := { maxDischargeDepth := 60 }) [U.sk, U.rk, Xh, G, H, O]
      refine Zd ?_
      intro p k3 gp bp e3
      have z3 := e3.size
      have lp := bp.lt
      simp [-Zu]
      rw [Zu]
      exact aa p k3 (Sl.at bi I.n I.n) (Sl.at bo I.n I.n) (Sl.at ab V.n V.n) (((e0.trans J).trans e2).trans e3) bp (oi.ext' ((J.trans e2).trans e3)) (oo.ext' e3) (op.ext' (e2.trans e3)) rfl rfl rfl (by simp; omega) (by simp; omega) (by simp; omega) (by omega) (by simp; omega) (by simp; omega) (by simp; omega) (by simp; omega) (by simp; omega) (by simp; omega)
  · refine ⟨?_, ?_⟩
    · refine Wz (n := I.n) (bytes := 24) (by omega) (by omega) rfl ?_
      intro bo k0 go oo e0 lo
      rw [Vy] at oo
      have G : ∀ g, Ext g ac → Ext g k0 := fun g e => Mod.trans e e0
      have z0 := e0.size
      simp (config := { maxDischargeDepth := 60 }) [U.sk, U.rk, Xh, G]
      refine ⟨?_, ?_⟩
      · refine Wz (n := I.n) (bytes := 24) (by omega) (by omega) rfl ?_
        intro bi k1 gi oi J li
        rw [Vy] at oi
        have H : ∀ g, Ext g k0 → Ext g k1 := fun g e => Mod.trans e J
        have z1 := J.size
        simp (config := { maxDischargeDepth := 60 }) [U.sk, U.rk, Xh, G, H]
        refine Wz (n := V.n) (bytes := 16) (by omega) (by omega) rfl ?_
        intro ab k2 gp op e2 lp
        rw [Zcs] at op
        have O : ∀ g, Ext g k1 → Ext g k2 := fun g e => Mod.trans e e2
        have z2 := e2.size
        simp (config := { maxDischargeDepth := 60 }) [U.sk, U.rk, Xh, G, H, O]
        refine Zd ?_
        intro p k3 gp bp e3
        have z3 := e3.size
        have lp := bp.lt
        simp [-Zu]
        rw [Zu]
        exact aa p k3 (Sl.at bi I.n I.n) (Sl.at bo I.n I.n) (Sl.at ab V.n V.n) (((e0.trans J).trans e2).trans e3) bp (oi.ext' (e2.trans e3)) (oo.ext' ((J.trans e2).trans e3)) (op.ext' e3) rfl rfl rfl (by simp; omega) (by simp; omega) (by simp; omega) (by omega) (by simp; omega) (by simp; omega) (by simp; omega) (by simp; omega) (by simp; omega) (by simp; omega)
      · refine Wz (n := V.n) (bytes := 16) (by omega) (by omega) rfl ?_
        intro ab k1 gp op J lp
        rw [Zcs] at op
        have H : ∀ g, Ext g k0 → Ext g k1 := fun g e => Mod.trans e J
        have z1 := J.size
        simp (config := { maxDischargeDepth := 60 }) [U.sk, U.rk, Xh, G, H]
        refine Wz (n := I.n) (bytes := 24) (by omega) (by omega) rfl ?_
        intro bi k2 gi oi e2 li
        rw [Vy] at oi
        have O : ∀ g, Ext g k1 → Ext g k2 := fun g e => Mod.trans e e2
        have z2 := e2.size
        simp (config := { maxDischargeDepth := 60 }) [U.sk, U.rk, Xh, G, H, O]
        refine Zd ?_
        intro p k3 gp bp e3
        have z3 := e3.size
        have lp := bp.lt
        simp [-Zu]
        rw [Zu]
        exact aa p k3 (Sl.at bi I.n I.n) (Sl.at bo I.n I.n) (Sl.at ab V.n V.n) (((e0.trans J).trans e2).trans e3) bp (oi.ext' e3) (oo.ext' ((J.trans e2).trans e3)) (op.ext' (e2.trans e3)) rfl rfl rfl (by simp; omega) (by simp; omega) (by simp; omega) (by omega) (by simp; omega) (by simp; omega) (by simp; omega) (by simp; omega) (by simp; omega) (by simp; omega)
    · refine Wz (n := V.n) (bytes := 16) (by omega) (by omega) rfl ?_
      intro ab k0 gp op e0 lp
      rw [Zcs] at op
      have G : ∀ g, Ext g ac → Ext g k0 := fun g e => Mod.trans e e0
      have z0 := e0.size
      simp (config := { maxDischargeDepth := 60 }) [U.sk, U.rk, Xh, G]
      refine ⟨?_, ?_⟩
      · refine Wz (n := I.n) (bytes := 24) (by omega) (by omega) rfl ?_
        intro bi k1 gi oi J li
        rw [Vy] at oi
        have H : ∀ g, Ext g k0 → Ext g k1 := fun g e => Mod.trans e J
        have z1 := J.size
        simp (config := { maxDischargeDepth := 60 }) [U.sk, U.rk, Xh, G, H]
        refine Wz (n := I.n) (bytes := 24) (by omega) (by omega) rfl ?_
        intro bo k2 go oo e2 lo
        rw [Vy] at oo
        have O : ∀ g, Ext g k1 → Ext g k2 := fun g e => Mod.trans e e2
        have z2 := e2.size
        simp (config := { maxDischargeDepth := 60 }) [U.sk, U.rk, Xh, G, H, O]
        refine Zd ?_
        intro p k3 gp bp e3
        have z3 := e3.size
        have lp := bp.lt
        simp [-Zu]
        rw [Zu]
        exact aa p k3 (Sl.at bi I.n I.n) (Sl.at bo I.n I.n) (Sl.at ab V.n V.n) (((e0.trans J).trans e2).trans e3) bp (oi.ext' (e2.trans e3)) (oo.ext' e3) (op.ext' ((J.trans e2).trans e3)) rfl rfl rfl (by simp; omega) (by simp; omega) (by simp; omega) (by omega) (by simp; omega) (by simp; omega) (by simp; omega) (by simp; omega) (by simp; omega) (by simp; omega)
      · refine Wz (n := I.n) (bytes := 24) (by omega) (by omega) rfl ?_
        intro bo k1 go oo J lo
        rw [Vy] at oo
        have H : ∀ g, Ext g k0 → Ext g k1 := fun g e => Mod.trans e J
        have z1 := J.size
        simp (config := { maxDischargeDepth := 60 }) [U.sk, U.rk, Xh, G, H]
        refine Wz (n := I.n) (bytes := 24) (by omega) (by omega) rfl ?_
        intro bi k2 gi oi e2 li
        rw [Vy] at oi
        have O : ∀ g, Ext g k1 → Ext g k2 := fun g e => Mod.trans e e2
        have z2 := e2.size
        simp (config := { maxDischargeDepth := 60 }) [U.sk, U.rk, Xh, G, H, O]
        refine Zd ?_
        intro p k3 gp bp e3
        have z3 := e3.size
        have lp := bp.lt
        simp [-Zu]
        rw [Zu]
        exact aa p k3 (Sl.at bi I.n I.n) (Sl.at bo I.n I.n) (Sl.at ab V.n V.n) (((e0.trans J).trans e2).trans e3) bp (oi.ext' e3) (oo.ext' (e2.trans e3)) (op.ext' ((J.trans e2).trans e3)) rfl rfl rfl (by simp; omega) (by simp; omega) (by simp; omega) (by omega) (by simp; omega) (by simp; omega) (by simp; omega) (by simp; omega) (by simp; omega) (by simp; omega)
end
abbrev Zci:ByteArray:=⟨#[103,114,97,112,104]⟩
def Zcq (N:Zg) (a:Int):Int:=if Zt N.as.length a then (Zf N.as a.toNat).a else -1
def toV (N:Zg) (a:Int):Int:=if Zt N.as.length a then (Zf N.as a.toNat).b else -1
def Zl (N:Zg) (a:Int):Int:=if Zt N.as.length a then (Zf N.as a.toNat).c else Zo2
def Zhd (N:Zg) (a w:Int):Wr:=if Zt N.as.length a=false then Wy Zci a 5 else if Yi w=false then Wy Zci a 8 else Ur
def setN (N:Zg) (a w:Int):Zg:=if (Zhd N a w).2=0 then { N with as:=N.as.set a.toNat ⟨(Zf N.as a.toNat).a,(Zf N.as a.toNat).b,w⟩ } else N
def Zb3 (N:Zg) (t i k c:Int):Wr:=if Zt N.ts.length t=false then Wy Zci t 5 else Wi Zci t (Qh (Zp N.ts t.toNat).i (Zp N.ts t.toNat).o (Zp N.ts t.toNat).cs i k c)
def Zg2 (t:Tab) (i k c:Int):Tab:=⟨t.i,t.o,t.cs.set (i * t.o+k).toNat c⟩
def Zaw (N:Zg) (t i k c:Int):Zg:=if (Zb3 N t i k c).2=0 then { N with ts:=N.ts.set t.toNat (Zg2 (Zp N.ts t.toNat) i k c) } else N
section
variable {Y:Sys} {h:Za} {p:Nat} {N:Zg} {S:Nat->Prop}
theorem Za5 (H:Y.Has 211 Y211) (g:Yv h p N S) {a:Int} {R:Value->Za->Prop} (r:R (.bool (Zt N.as.length a)) h):Zm Y 211 [.pointer (some ⟨p,0,none⟩),.int .i64 a] h R:=by
 obtain ⟨G,s2,I,J,M,O,P,Q,g⟩:=g
 have D:=g.netH.ra.len
 rw [D] at r
 refine .of_has H rfl ?_
 by_cases c:0<=a
 ·have:Zt s2.n a=decide (a<s2.n):=by simp [Zt,c]
  rw [this] at r
  simp [Y211,Xa.wp,g.blk.hc,c]
  exact r
 ·have:Zt s2.n a=false:=by simp [Zt,c]
  rw [this] at r
  simp [Y211,Xa.wp,g.blk.hc,c]
  exact r
theorem Zvi (H:Y.Has 244 Y244) (g:Yv h p N S) {a:Int} {R:Value->Za->Prop} (r:R (.bool (Zt N.vs.length a)) h):Zm Y 244 [.pointer (some ⟨p,0,none⟩),.int .i64 a] h R:=by
 obtain ⟨D,s2,I,J,M,O,P,Q,g⟩:=g
 have G:=g.netH.rv.len
 rw [G] at r
 refine .of_has H rfl ?_
 by_cases c:0<=a
 ·have:Zt D.n a=decide (a<D.n):=by simp [Zt,c]
  rw [this] at r
  simp [Y244,Xa.wp,g.blk.hc,c]
  exact r
 ·have:Zt D.n a=false:=by simp [Zt,c]
  rw [this] at r
  simp [Y244,Xa.wp,g.blk.hc,c]
  exact r
theorem Zh4 (H:Y.Has 189 Y189) (g:Yv h p N S) {R:Value->Za->Prop} (r:R (.int .i64 N.vs.length) h):Zm Y 189 [.pointer (some ⟨p,0,none⟩)] h R:=by
 obtain ⟨D,s2,G,I,J,M,P,Q,g⟩:=g
 rw [g.netH.rv.len] at r
 refine .of_has H rfl ?_
 simp [Y189,Xa.wp,g.blk.hc]
 exact r
theorem Zbp (H:Y.Has 209 Y209) (g:Yv h p N S) {R:Value->Za->Prop} (r:R (.int .i64 N.as.length) h):Zm Y 209 [.pointer (some ⟨p,0,none⟩)] h R:=by
 obtain ⟨D,s2,G,I,J,M,P,Q,g⟩:=g
 rw [g.netH.ra.len] at r
 refine .of_has H rfl ?_
 simp [Y209,Xa.wp,g.blk.hc]
 exact r
theorem Zbm (H:Y.Has 193 Y193) (HA:Y.Has 211 Y211) (g:Yv h p N S) {a:Int} {R:Value->Za->Prop} (r:R (.int .i64 (Zcq N a)) h):Zm Y 193 [.pointer (some ⟨p,0,none⟩),.int .i64 a] h R:=by
 refine .of_has H rfl ?_
 simp [Y193,Xa.wp]
 refine Za5 HA g ?_
 cases c:Zt N.as.length a with
 | false =>
  simp [Zcq,c] at r
  simp
  exact r
 | true =>
  obtain ⟨G,s2,I,J,M,O,P,Q,g⟩:=g
  have U:=g.netH.ra.len
  simp [Zcq,c] at r
  simp only [Zt,decide_eq_true_eq] at c
  have D:a<s2.n:=by omega
  simp [g.blk.hc,Zb g.netH.ra.ok,c.1,D,g.netH.ra.v0 a.toNat (by omega)]
  exact r
theorem Zak (H:Y.Has 192 Y192) (HA:Y.Has 211 Y211) (g:Yv h p N S) {a:Int} {R:Value->Za->Prop} (r:R (.int .i64 (toV N a)) h):Zm Y 192 [.pointer (some ⟨p,0,none⟩),.int .i64 a] h R:=by
 refine .of_has H rfl ?_
 simp [Y192,Xa.wp]
 refine Za5 HA g ?_
 cases c:Zt N.as.length a with
 | false =>
  simp [toV,c] at r
  simp
  exact r
 | true =>
  obtain ⟨G,s2,I,J,M,O,P,Q,g⟩:=g
  have U:=g.netH.ra.len
  simp [toV,c] at r
  simp only [Zt,decide_eq_true_eq] at c
  have D:a<s2.n:=by omega
  simp [g.blk.hc,Zb g.netH.ra.ok,c.1,D,g.netH.ra.v1 a.toNat (by omega)]
  exact r
theorem U0 (H:Y.Has 233 Y233) (HA:Y.Has 211 Y211) (g:Yv h p N S) {a:Int} {R:Value->Za->Prop} (r:R (.int .i64 (Zl N a)) h):Zm Y 233 [.pointer (some ⟨p,0,none⟩),.int .i64 a] h R:=by
 refine .of_has H rfl ?_
 simp [Y233,Xa.wp]
 refine Za5 HA g ?_
 cases c:Zt N.as.length a with
 | false =>
  simp [Zl,c,Zo2] at r
  simp
  exact r
 | true =>
  obtain ⟨G,s2,I,J,M,O,P,Q,g⟩:=g
  have U:=g.netH.ra.len
  simp [Zl,c] at r
  simp only [Zt,decide_eq_true_eq] at c
  have D:a<s2.n:=by omega
  simp [g.blk.hc,Zb g.netH.ra.ok,c.1,D,g.netH.ra.v2 a.toNat (by omega)]
  exact r
theorem Zi4 (H:Y.Has 239 Y239) (HV:Y.Has 244 Y244) (HC:Y.Has 245 Y245) (g:Yv h p N S) (ba:N.as.length<=20000) {v:Int} {R:Value->Za->Prop}
  (r:∀ h' s,Ext h h'->Yb h' 1 s (Zh (if Zt N.vs.length v then Uw N.as v else []))->(s.nl=false->h.size<=s.b)->R s.v h'):Zm Y 239 [.pointer (some ⟨p,0,none⟩),.int .i64 v] h R:=by
 refine .of_has H rfl ?_
 simp [Y239,Xa.wp]
 refine Zvi HV g ?_
 cases c:Zt N.vs.length v with
 | false =>
  simp [c] at r
  simp
  exact r h Sl.nil (Mod.refl h) Yb.nil (fun h=>(by cases h))
 | true =>
  obtain ⟨U,s2,V,X,D,Z,P,Q,g⟩:=g
  simp [c] at r
  simp only [Zt,decide_eq_true_eq] at c
  have I:D.n=N.vs.length:=by have:=g.oo.1; simp at this; omega
  have G:v.toNat<N.vs.length:=by omega
  have J:v<D.n:=by omega
  have hq:=g.oq true v.toNat G
  have hv:((v.toNat:Nat):Int)=v:=by omega
  have M:=hq.1
  rw [Wu,ioO,if_pos rfl,hv] at M
  have:=Zlw (as:=N.as) (v:=v)
  simp [g.blk.hc,Zb g.oo.ok,c.1,J,g.oo.cell (Zcv G)]
  refine Zig HC hq.row64 (by omega) ?_
  intro h1 s O o1 f1
  simp only [ioO,if_true,hv] at o1
  simp
  exact r h1 s O o1 f1
theorem Zcc.plc {H s2 I J M r:Sl} {P:List (Tab × Sl)} {Q:Bool->Nat->Sl} (g:Zcc h p N S H s2 I J M r P Q) {a:Nat} (D:a<N.as.length) :
  hc h r.b (r.o+a * 2)=some (.int .i64 (cntB N.as a a:Nat))/\hc h r.b (r.o+a * 2+1)=some (.int .i64 (cntA N.as a a:Nat)):=by
 obtain ⟨h1,G⟩:=Zfx (l:=Rm.plc N.as N.as.length) (i:=a) (by simpa using D)
 rw [Z76 D] at h1 G
 exact ⟨g.op.cell h1,g.op.cell G⟩
theorem Zcc.np {D s2 G H I r:Sl} {P:List (Tab × Sl)} {Q:Bool->Nat->Sl} (g:Zcc h p N S D s2 G H I r P Q):r.n=N.as.length:=by
 have:=g.op.1
 rw [X6,Zph] at this
 omega
theorem Zj2 (H:Y.Has 231 Y231) (HA:Y.Has 211 Y211) (T:Zbw Y) (g:Yv h p N S) (ok:Yd N) {a b:Int} {R:Value->Za->Prop}
  (I:∀ h',Ext h h'->R (.int .i64 (Ye N a b)) h'):Zm Y 231 [.pointer (some ⟨p,0,none⟩),.int .i64 a,.int .i64 b] h R:=by
 refine .of_has H rfl ?_
 simp [Y231,Xa.wp]
 refine Za5 HA g ?_
 cases c1:Zt N.as.length a with
 | false =>
  rw [Ye,if_pos (.inl c1)] at I
  simp
  exact I _ (Mod.refl h)
 | true =>
 simp
 refine Za5 HA g ?_
 cases c2:Zt N.as.length b with
 | false =>
  rw [Ye,if_pos (.inr c2)] at I
  simp
  exact I _ (Mod.refl h)
 | true =>
 obtain ⟨s1,s2,s3,si,so,sp,P,Q,g⟩:=g
 have r:=g.netH
 have lv:=r.rv.len
 have la:=r.ra.len
 have lt:=r.rt.len
 have hn:=g.np
 simp only [Zt,decide_eq_true_eq] at c1 c2
 obtain ⟨a,rfl⟩:∃ n:Nat,a=n:=⟨a.toNat,by omega⟩
 obtain ⟨b,rfl⟩:∃ n:Nat,b=n:=⟨b.toNat,by omega⟩
 have X:a<N.as.length:=by omega
 have hb:b<N.as.length:=by omega
 have O:(a:Int)<s2.n:=by omega
 have U:(b:Int)<s2.n:=by omega
 have ae:(a:Int)<sp.n:=by omega
 have af:(b:Int)<sp.n:=by omega
 rw [Zp4 X hb] at I
 have G:=g.blk
 by_cases c3:(Zf N.as a).b=(Zf N.as b).a
 rotate_left
 ·have V:((Zf N.as a).b=(Zf N.as b).a)=False:=by simp [c3]
  rw [Zeg] at I
  simp only [Xd9] at I
  rw [if_pos (.inl c3)] at I
  simp [G.hc,Zb r.ra.ok,O,U,r.ra.v0 b hb,r.ra.v1 a X,V]
  exact I _ (Mod.refl h)
 have hx:Zeg N a b (cntB N.as a a) (cntA N.as b b)=atV (Zp N.ts (Zf N.vs (Zf N.as a).b.toNat).c.toNat).i (Zp N.ts (Zf N.vs (Zf N.as a).b.toNat).c.toNat).o (Zp N.ts (Zf N.vs (Zf N.as a).b.toNat).c.toNat).cs (cntB N.as a a) (cntA N.as b b):=by
  have h1:=(ok.arcs a X).2
  have hv:(Zf N.as a).b.toNat<N.vs.length:=by simp only [Zt,decide_eq_true_eq] at h1; omega
  have h2:=ok.vt _ hv
  rw [Zeg]
  simp only [Xd9]
  rw [if_neg (by rw [h1]; simp [c3]),if_neg (by simp [h2])]
 rw [hx] at I
 clear hx
 have g1:=(ok.arcs a X).2
 have cA:=r.ra.v1 a X
 have cB:=r.ra.v0 b hb
 generalize hv:(Zf N.as a).b=v at *
 have V:(v=(Zf N.as b).a)=True:=by simp [c3]
 simp only [Zt,decide_eq_true_eq] at g1
 have v0:0<=v:=g1.1
 have v1:v<s1.n:=by omega
 have v2:v.toNat<N.vs.length:=by omega
 have g2:=ok.vt _ v2
 have aa:=r.rv.rd v2
 generalize ht:(Zf N.vs v.toNat).c=t at *
 simp only [Zt,decide_eq_true_eq] at g2
 have t0:0<=t:=g2.1
 have t1:t<s3.n:=by omega
 have t2:t.toNat<N.ts.length:=by omega
 obtain ⟨u,ag,_,ru⟩:=r.rt.rd (i:=t.toNat) t2
 obtain ⟨p1,_⟩:=g.plc X
 obtain ⟨_,p2⟩:=g.plc hb
 simp [G.hc,Zb r.ra.ok,Zb r.rv.ok,O,U,cA,cB,V,v0,v1,aa]
 refine Yr (vs:=#[.int .i64 (Zf N.vs v.toNat).a,.int .i64 (Zf N.vs v.toNat).b,.int .i64 t]) rfl rfl (by simp) ?_
 intro D ak gD ah J ab
 have k:=fun (b' o:Nat) (x:Value) (hx:hc h b' o=some x)=>J.hc hx (fun h=>h)
 have G':=G.ext J
 have ac:=J.hc cA (fun h=>h)
 have M:=J.rd aa (fun h=>h)
 simp [G'.hc,Zb r.ra.ok,Zb r.rv.ok,O,U,ac,v0,v1,M]
 refine ab _ ?_
 intro hD bD Z
 clear ab ah J k G' ac M
 have G2:=G.ext Z
 have ad:=Z.rd ag (fun h=>h)
 have ai:=Z.hc p1 (fun h=>h)
 have aj:=Z.hc p2 (fun h=>h)
 simp [G2.hc,bD.hc,Zb r.rt.ok,t0,t1,ad,Zb g.op.ok,ae,af,ai,aj]
 refine Zwe T (ru.ext Z) ?_
 intro h2 e2
 simp
 exact I _ (Z.trans e2)
theorem Zd1 (H:Y.Has 243 Y243) {a c:Int} (hc:c≠0) {R:Value->Za->Prop} (r:∀ v h',Ext h h'->Z6 Y h.size h' (Wy Zci a c) v->R v h') :
  Zm Y 243 [.int .i64 a,.iface (Y.tid 49) (.int .i64 c)] h R:=by
 refine .of_has H rfl ?_
 simp [Y243,Xa.wp]
 refine Zd ?_
 intro b h1 G B D
 simp
 exact r _ _ D (fun h' m=>Zek (m.blk B (by omega)) hc)
theorem Zpn (H:Y.Has 243 Y243) {a:Int} {w:Wr} {v:Value} {lo:Nat} (G:lo<=h.size) (hv:Z6 Y lo h w v) (h0:w.2≠0) {R:Value->Za->Prop}
  (I:∀ v h',Ext h h'->Z6 Y lo h' (Wi Zci a w) v->R v h') :
  Zm Y 243 [.int .i64 a,v] h R:=by
 obtain ⟨t,u,rfl⟩:=hv.here.iface h0
 refine .of_has H rfl ?_
 simp [Y243,Xa.wp]
 refine Zd ?_
 intro b h1 J B D
 simp
 refine I _ _ D (fun h' m=>?_)
 have hb:=m.blk B (by omega)
 have r:=hv.ext D h' m
 rcases r with ⟨q,_⟩ | ⟨_,r⟩
 ·exact absurd q h0
 ·unfold Wi
  rw [if_neg h0]
  exact .inr ⟨h0,b,_,rfl,by rw [hb.hc]; rfl,by rw [hb.hc]; rfl,by rw [hb.hc]; rfl,r⟩
theorem Z1v {lo:Nat} {s:Sl} {cs:List Int} (f:Zam lo (fun h=>Zz h s cs) h) (r:cs≠[]):lo<=s.b:=by
 rcases Xd8 s.b lo with q | q
 ·have h0:=f.here.val 0 (List.length_pos_iff.2 r)
  have h1:=(f (Wm h s.b (s.o+0) .nilIface) (Mod.set q)).val 0 (List.length_pos_iff.2 r)
  rw [Z4x h0] at h1
  cases h1
 ·exact q
structure Z60 (Y:Sys):Prop where
 arc:Y.Has 211 Y211
 Set:Y.Has 232 Y232
 fault:Y.Has 243 Y243
 W:Y.Has 55 Y55
structure Z2y (Y:Sys):Prop where
 Bend:Y.Has 234 Y234
 fault:Y.Has 243 Y243
 With:Y.Has 38 Y38
 C64:Y.Has 58 Y58
theorem Zo8 {as:List Yp} {a:Nat} {w:Int} {x:Bool} {v:Nat} (D:a<as.length):ioO x (as.set a ⟨(Zf as a).a,(Zf as a).b,w⟩) v=ioO x as v:=by
 have key:∀ (p:Yp->Bool) (l:List Yp) (k a:Nat),a<l.length->p ⟨(Zf l a).a,(Zf l a).b,w⟩=p (Zf l a)->Vl p k (l.set a ⟨(Zf l a).a,(Zf l a).b,w⟩)=Vl p k l:=by
  intro p l
  induction l with
  | nil=>intro k a D; simp at D
  | cons t r G =>
   intro k a D hp
   cases a with
   | zero =>
    have e:Zf (t::r) 0=t:=by simp [Zf]
    rw [e] at hp ⊢
    rw [List.set_cons_zero,Vl,Vl,hp]
   | succ a =>
    have e:Zf (t::r) (a+1)=Zf r a:=by simp [Zf]
    rw [e] at hp ⊢
    rw [Xg4,Vl,Vl,G (k+1) a (by simpa using D) hp]
 cases x
 ·exact key _ _ _ _ D rfl
 ·exact key _ _ _ _ D rfl
theorem Qn {as:List Yp} {a j:Nat} {w:Int} (r:a<as.length):(Zf (as.set a ⟨(Zf as a).a,(Zf as a).b,w⟩) j).a=(Zf as j).a/\(Zf (as.set a ⟨(Zf as a).a,(Zf as a).b,w⟩) j).b=(Zf as j).b:=by
 rw [Zet r]
 split
 ·rename_i e; rw [e]; exact ⟨rfl,rfl⟩
 ·exact ⟨rfl,rfl⟩
theorem Zwo {as:List Yp} {a:Nat} {w:Int} (r:a<as.length) (j n:Nat) (I:n<=as.length):cntB (as.set a ⟨(Zf as a).a,(Zf as a).b,w⟩) j n=cntB as j n/\cntA (as.set a ⟨(Zf as a).a,(Zf as a).b,w⟩) j n=cntA as j n:=by
 induction n with
 | zero=>simp [cntB,cntA]
 | succ n D =>
  obtain ⟨G,H⟩:=D (by omega)
  rw [Zm5 (by simp; omega),Zm5 (by omega),Zl6 (by simp; omega),Zl6 (by omega),G,H,(Qn r).1,(Qn r).2,(Qn r).1,(Qn r).2]
  exact ⟨rfl,rfl⟩
theorem Z56 {as:List Yp} {a:Nat} {w:Int} (r:a<as.length):plc (as.set a ⟨(Zf as a).a,(Zf as a).b,w⟩) as.length=plc as as.length:=by
 apply Xem (by simp)
 intro j h1 D
 have G:j<as.length:=by simpa using D
 simp [plc,G,(Zwo (w:=w) r j j (by omega)).1,(Zwo (w:=w) r j j (by omega)).2]
theorem Zyn (G : Z60 Y) (g : Yv h p N S) {a w : Int} {R : Value → Za → Prop}
    (O : ∀ v h', Mod S h h' → Yv h' p (setN N a w) S → Z6 Y h.size h' (Zhd N a w) v → R v h') : Zm Y 232 [.pointer (some ⟨p, 0, none⟩), .int .i64 a, .int .i64 w] h R := by
  refine .of_has G.Set rfl ?_
  simp [Y232, Xa.wp]
  refine Za5 G.arc g ?_
  cases c1 : Zt N.as.length a with
  | false =>
    simp
    refine Zd1 G.fault (by omega) ?_
    intro v h1 M hv
    have I : Zhd N a w = Wy Zci a 5 := by simp [Zhd, c1]
    have r : setN N a w = N := by simp [setN, I, Wy]
    simp
    exact O v h1 (M.mono fun _ _ h => h.elim) (by rw [r]; exact g.ext M) (by rw [I]; exact hv)
  | true =>
  simp
  refine X9 G.W ?_
  cases X : Yi w with
  | false =>
    simp
    refine Zd1 G.fault (by omega) ?_
    intro v h1 M hv
    have I : Zhd N a w = Wy Zci a 8 := by simp [Zhd, c1, X]
    have r : setN N a w = N := by simp [setN, I, Wy]
    simp
    exact O v h1 (M.mono fun _ _ h => h.elim) (by rw [r]; exact g.ext M) (by rw [I]; exact hv)
  | true =>
  have I : Zhd N a w = Ur := by simp [Zhd, c1, X]
  have r : setN N a w = { N with as := N.as.set a.toNat ⟨(Zf N.as a.toNat).a, (Zf N.as a.toNat).b, w⟩ } := by simp [setN, I, Ur]
  obtain ⟨Z, s2, s3, si, so, sp, P, Q, g⟩ := g
  have la := g.netH.ra.len
  simp only [Zt, decide_eq_true_eq] at c1
  obtain ⟨a, rfl⟩ : ∃ n : Nat, a = n := ⟨a.toNat, by omega⟩
  have U : a < N.as.length := by omega
  have a1 : (a : Int) < s2.n := by omega
  simp [g.blk.hc, Zb g.netH.ra.ok, a1]
  rw [Xe4]
  refine stN g.o2 (k := a * 3 + 2) (by rw [Zx, Xea]; omega) ?_
  intro h1 o2 D
  rw [(Zwt U).2.2] at o2
  have H : s2.nl = false := by
    obtain ⟨aa, hb, _, H⟩ := g.o2.blk (i := 0) (by rw [Zx, Xea]; omega)
    exact H
  obtain ⟨e2S, e2n⟩ := g.e2 H
  simp
  refine O _ h1 (D.mono fun j _ hj => by rw [hj]; exact e2S) ?_ (by rw [I]; exact Z6.ok)
  rw [r]
  simp only [Xd9]
  have J : ∀ b, Zh6 p Z si so sp Q N.vs.length P b → b ≠ s2.b := fun b hb e => e2n (e ▸ hb)
  refine ⟨Z, s2, s3, si, so, sp, P, Q, ?_⟩
  exact { blk := D.blk g.blk (J _ (.inl rfl))
          o1 := g.o1.mod D fun r => J _ (.inr (.inl ⟨r, rfl⟩))
          o2 := o2
          o3 := g.o3.mod D fun r => (g.d23 H r).symm
          hP := g.hP
          row := fun q hq => (g.row q hq).mod D fun V => J _ (.inr (.inr (.inr (.inr (.inr (.inr ⟨q, hq, V, rfl⟩))))))
          oi := g.oi.mod D fun _ => J _ (.inr (.inr (.inl rfl)))
          oo := g.oo.mod D fun _ => J _ (.inr (.inr (.inr (.inl rfl))))
          op := by
            have := g.op.mod D fun _ => J _ (.inr (.inr (.inr (.inr (.inl rfl)))))
            simp only [List.length_set]
            rw [Z56 U]
            exact this
          oq := fun x v hv => by
            simp only
            rw [Zo8 U]
            exact (g.oq x v hv).mod D fun r => J _ (.inr (.inr (.inr (.inr (.inr (.inl ⟨x, v, hv, r, rfl⟩))))))
          inS := g.inS
          e2 := g.e2
          e3 := g.e3
          d23 := g.d23
          lt := fun b hb => Xgh (g.lt b hb) D.size }
theorem Zst (G : Z2y Y) (T : Zbw Y) (g : Yv h p N S) {t i k c : Int} {R : Value → Za → Prop}
    (hr : ∀ v h' (S' : Nat → Prop), Mod S h h' → (∀ b, S' b → S b ∨ h.size ≤ b) → (∀ b, S b → S' b) → Yv h' p (Zaw N t i k c) S' → Z6 Y h.size h' (Zb3 N t i k c) v → R v h') :
    Zm Y 234 [.pointer (some ⟨p, 0, none⟩), .int .i64 t, .int .i64 i, .int .i64 k, .int .i64 c] h R := by
  refine .of_has G.Bend rfl ?_
  have g0 := g
  obtain ⟨s1, s2, s3, si, so, sp, P, Q, g⟩ := g
  have lt := g.netH.rt.len
  have ac : Zt N.ts.length t = false → ∀ K : Value → Za → Prop, (∀ v h1, R v h1 → K v h1) → Zm Y 243 [.int .i64 t, .iface (Y.tid 49) (.int .i64 5)] h K := by
    intro hb K hK
    refine Zd1 G.fault (by omega) ?_
    intro v h1 e1 hv
    have hw : Zb3 N t i k c = Wy Zci t 5 := by simp [Zb3, hb]
    have H : Zaw N t i k c = N := by simp [Zaw, hw, Wy]
    exact hK v h1 (hr v h1 S (e1.mono fun _ _ h => h.elim) (fun b hb => .inl hb) (fun b hb => hb) (by rw [H]; exact g0.ext e1) (by rw [hw]; exact hv))
  by_cases c1 : t < 0
  · simp [Y234, Xa.wp, c1]
    refine ac (by simp [Zt]; omega) _ ?_
    intro v h1 h2
    simp
    exact h2
  by_cases c2 : (s3.n : Int) ≤ t
  · simp [Y234, Xa.wp, c1, Int.not_lt.1 c1, g.blk.hc, c2]
    refine ac (by simp [Zt]; omega) _ ?_
    intro v h1 h2
    simp
    exact h2
  obtain ⟨t, rfl⟩ : ∃ n : Nat, t = n := ⟨t.toNat, by omega⟩
  have ht : t < N.ts.length := by omega
  have t1 : (t : Int) < s3.n := by omega
  have ag : Zt N.ts.length t = true := by simp [Zt]; omega
  obtain ⟨u, ah, _, ru⟩ := g.netH.rt.rd (i := t) ht
  have ai : ¬ s3.n ≤ t := by omega
  simp [Y234, Xa.wp, g.blk.hc, ai, t1, Zb g.netH.rt.ok, ah, show t < s3.n by omega]
  refine Zxf G.With G.C64 T ru ?_
  intro h1 v e1 hv
  obtain ⟨i', o', V, ao, ue, rfl, aj, ak, aa⟩ := hv
  have ab : Zb3 N t i k c = Wi Zci t (Qh (Zp N.ts t).i (Zp N.ts t).o (Zp N.ts t).cs i k c) := by simp [Zb3, ag]
  simp [Zel]
  refine Yr (vs := #[.int .i64 i', .int .i64 o', V.v]) rfl rfl (by simp) ?_
  intro D ap gD al am ad
  simp
  refine ad _ ?_
  intro hD bD eD
  clear ad al am
  have e2 := e1.trans eD
  have X := ak.ext eD
  have I := aj.ext eD
  rcases aa with ⟨hz, rfl, rfl, rfl⟩ | ⟨hz, rfl, rfl, rfl, rfl⟩
  rotate_left
  · obtain ⟨te, uu, rfl⟩ := I.here.iface hz
    simp
    refine Zpn G.fault (lo := h.size) e2.size I hz ?_
    intro v h3 e3 hv
    have an : (Zb3 N t i k c).2 ≠ 0 := by rw [ab]; exact Zye hz
    have H : Zaw N t i k c = N := by simp [Zaw, an]
    simp
    exact hr v h3 S ((e2.trans e3).mono fun _ _ h => h.elim) (fun b hb => .inl hb) (fun b hb => hb) (by rw [H]; exact g0.ext (e2.trans e3)) (by rw [ab]; exact hv)
  have := I.here.nil hz
  subst this
  have ae : Zb3 N t i k c = Ur := by rw [ab]; unfold Wi; rw [if_pos hz]
  have H : Zaw N t i k c = { N with ts := N.ts.set t (Zg2 (Zp N.ts t) i k c) } := by simp [Zaw, ae, Ur]
  have g2 := g.mod e2 (fun b hb h => h)
  simp [g2.blk.hc, Zy bD, Zb g2.netH.rt.ok, t1]
  have hP : P.length = N.ts.length := by rw [← g.hP]; simp
  refine st3 g2.o3 (by simp; omega) rfl rfl (by simp) ?_
  intro h4 o4 J
  have z2 := e2.size
  have z4 := J.size
  have O : s3.nl = false := by
    obtain ⟨aq, hb, _, O⟩ := g.o3.blk (i := 0) (by rw [Zx, Xea]; omega)
    exact O
  obtain ⟨e3S, e3n⟩ := g.e3 O
  have nr : ∀ b, Zh6 p s1 si so sp Q N.vs.length P b → b ≠ s3.b := fun b hb e => e3n (e ▸ hb)
  have l3 := g.lt _ e3S
  have af := X h4 (J.mono fun j _ hj => by omega)
  have U : (Zp N.ts t).cs.set (i * (Zp N.ts t).o + k).toNat c ≠ [] → h.size ≤ V.b := Z1v X
  have ar : t < P.length := by omega
  have eP : (P.map Qy).set t (.int .i64 (Zp N.ts t).i, .int .i64 (Zp N.ts t).o, V.v) = (P.set t (Zg2 (Zp N.ts t) i k c, V)).map Qy := by rw [Xfb]; rfl
  rw [eP] at o4
  simp
  have Z : ∀ q ∈ P.set t (Zg2 (Zp N.ts t) i k c, V), q ∈ P ∨ q = (Zg2 (Zp N.ts t) i k c, V) := fun q hq => Zth hq
  have r : ∀ b, Zh6 p s1 si so sp Q N.vs.length (P.set t (Zg2 (Zp N.ts t) i k c, V)) b → Zh6 p s1 si so sp Q N.vs.length P b ∨ (h.size ≤ b ∧ b < h4.size) := by
    intro b hb
    rcases hb with hb | hb | hb | hb | hb | hb | ⟨q, hq, M, hb⟩
    · exact .inl (.inl hb)
    · exact .inl (.inr (.inl hb))
    · exact .inl (.inr (.inr (.inl hb)))
    · exact .inl (.inr (.inr (.inr (.inl hb))))
    · exact .inl (.inr (.inr (.inr (.inr (.inl hb)))))
    · exact .inl (.inr (.inr (.inr (.inr (.inr (.inl hb))))))
    · rcases Z q hq with g' | g'
      · exact .inl (.inr (.inr (.inr (.inr (.inr (.inr ⟨q, g', M, hb⟩))))))
      · subst g'
        right
        subst hb
        exact ⟨U M, af.lt M⟩
  refine hr _ h4 (fun b => S b ∨ (h.size ≤ b ∧ b < h4.size)) ?_ (fun b hb => hb.imp_right fun h => h.1) (fun b hb => .inl hb) ?_ (by rw [ae]; exact Z6.ok)
  · exact (e2.mono fun _ _ h => h.elim).trans (J.mono fun j _ hj => by rw [hj]; exact e3S)
  rw [H]
  refine ⟨s1, s2, s3, si, so, sp, P.set t (Zg2 (Zp N.ts t) i k c, V), Q, ?_⟩
  have lS := g.lt
  exact { blk := J.blk g2.blk (nr _ (.inl rfl))
          o1 := g2.o1.mod J fun H => nr _ (.inr (.inl ⟨H, rfl⟩))
          o2 := g2.o2.mod J fun H => g.d23 H O
          o3 := o4
          hP := by rw [Xfb, g.hP]
          row := fun q hq => by
            rcases Z q hq with g' | g'
            · exact (g2.row q g').mod J fun M => nr _ (.inr (.inr (.inr (.inr (.inr (.inr ⟨q, g', M, rfl⟩))))))
            · subst g'
              exact af
          oi := g2.oi.mod J fun _ => nr _ (.inr (.inr (.inl rfl)))
          oo := g2.oo.mod J fun _ => nr _ (.inr (.inr (.inr (.inl rfl))))
          op := g2.op.mod J fun _ => nr _ (.inr (.inr (.inr (.inr (.inl rfl)))))
          oq := fun x v hv => (g2.oq x v hv).mod J fun H => nr _ (.inr (.inr (.inr (.inr (.inr (.inl ⟨x, v, hv, H, rfl⟩))))))
          inS := fun b hb => (r b hb).imp_left (g.inS b)
          e2 := fun H => by
            obtain ⟨a1, a2⟩ := g.e2 H
            refine ⟨.inl a1, fun hb => ?_⟩
            have := lS _ a1
            rcases r _ hb with q | q
            · exact a2 q
            · omega
          e3 := fun H => by
            refine ⟨.inl e3S, fun hb => ?_⟩
            rcases r _ hb with q | q
            · exact e3n q
            · omega
          d23 := g.d23
          lt := fun b hb => by
            rcases hb with q | q
            · have := lS b q; omega
            · exact q.2 }
structure Z66 (Y:Sys):Prop where
 New:Y.Has 187 Y187
 build:Y.Has 200 Y200
 Cl:Z4p Y
 N1:Zzz Y
theorem Yd.small {N:Zg} (r:Yd N):Zd2 N:=by
 refine ⟨by have:=r.bv; omega,by have:=r.ba; omega,by have:=r.bt; omega,fun i D=>?_⟩
 obtain ⟨G,H,I,J,M,_,_⟩:=Zfy (ins:=(Zp N.ts i).i) (outs:=(Zp N.ts i).o) (cs:=(Zp N.ts i).cs) (r.tab i D)
 have:=(Zg1 ⟨G,H⟩ ⟨I,J⟩).2
 omega
theorem Zy6 (G:Z66 Y) (T:TurnCk Y) {V X Z:Sl} (r:Uo h V X Z N) {R:Value->Za->Prop}
  (H:∀ v h',Ext h h'->(Vk N).2≠0->Z6 Y h.size h' (Vk N) v->R (.tuple #[.pointer none,v]) h')
  (D:∀ h' p (S:Nat->Prop),Ext h h'->(Vk N).2=0->Yv h' p N S->(∀ b,S b->h.size<=b)->R (.tuple #[.pointer (some ⟨p,0,none⟩),.nilIface]) h'):Zm Y 187 [Yo V X Z] h R:=by
 refine .of_has G.New rfl ?_
 simp [Y187,Xa.wp,Yo]
 refine Zd ?_
 intro B hB gB J M
 have cB:∀ g,Ext g h->Ext g hB:=fun g e=>Mod.trans e M
 simp (config:={ maxDischargeDepth:=60 }) [cB,J.sk,J.rk]
 refine Zq4 G.N1 T (r.ext M) ?_
 intro v h1 e1 hv
 have I:∀ g,Ext g hB->Ext g h1:=fun g e=>Mod.trans e e1
 have O:=M.trans e1
 have zB:=M.size
 by_cases c:(Vk N).2=0
 rotate_left
 ·obtain ⟨t,u,rfl⟩:=hv.here.iface c
  simp
  exact H _ h1 O c (hv.mono zB)
 have:=hv.here.nil c
 subst this
 have U:=Zhv.1 c
 simp (config:={ maxDischargeDepth:=60 }) [cB,J.sk,J.rk,I]
 refine Zh1 G.Cl (r.ext O) U.small ?_
 intro h2 s1 s2 s3 P e2 no
 have z1:=O.size
 have z2:=e2.size
 simp
 refine Zt3 G.build (lo:=h1.size) no z2 U.small U.arcs ?_
 intro h3 p S e3 g hS
 simp
 exact D h3 p S ((O.trans e2).trans e3) c g (fun b hb=>by have:=hS b hb; omega)
theorem Zly (H:Y.Has 236 Y236) (C:Z4p Y) (g:Yv h p N S) (Z:Zd2 N) {R:Value->Za->Prop}
  (hr:∀ h' G s2 I,Ext h h'->(∀ r,Mod (fun j=>j<h.size) h' r->Uo r G s2 I N)->R (Yo G s2 I) h'):Zm Y 236 [.pointer (some ⟨p,0,none⟩)] h R:=by
 obtain ⟨G,s2,I,si,so,sp,P,Q,g⟩:=g
 refine .of_has H rfl ?_
 simp [Y236,Xa.wp]
 refine Zd ?_
 intro B O gB V M
 have cB:∀ g,Ext g h->Ext g O:=fun g e=>Mod.trans e M
 have J:=g.mod M (fun b hb h=>h)
 have U:rd O p 0 3=some [G.v,s2.v,I.v]:=by
  have:=Zal (h:=O) (b:=p) (l:=[G.v,s2.v,I.v]) (o:=0) fun i v D=>by
   rw [J.blk.hc]
   match i with
   | 0=>simp at D; subst D; rfl
   | 1=>simp at D; subst D; rfl
   | 2=>simp at D; subst D; rfl
   | i+3=>simp at D
  exact this
 simp [U]
 refine Zh1 C J.netH Z ?_
 intro h2 t1 t2 t3 P' e2 no
 have zB:=M.size
 have lB:=V.lt
 have z2:=e2.size
 simp [Yo]
 refine Zi (V.ext e2) rfl rfl (by simp) ?_
 intro h3 b3 X
 simp
 refine Yt rfl b3 rfl ?_
 refine hr h3 t1 t2 t3 (Mod.ext (M.trans e2) X (fun j hj=>by omega)) (fun r m=>?_)
 exact ((no.mod X (fun b hb=>by omega)).mod m (fun b hb=>by omega)).netH
end
section
variable {Y:Sys} {h h':Za} {Fb:Nat->Prop} {s1 s2 s3:Sl} {N:Zg}
theorem Z5d (r : Yd N) {a w : Int} : Yd (setN N a w) := by
  unfold setN
  split
  · rename_i h0
    have hc : Zt N.as.length a = true ∧ Yi w = true := by
      unfold Zhd at h0
      cases c1 : Zt N.as.length a <;> cases J : Yi w <;> simp_all [Wy, Ur]
    have G : a.toNat < N.as.length := by
      have := hc.1
      simp only [Zt, decide_eq_true_eq] at this
      omega
    have H : ∀ v, Qc (N.as.set a.toNat ⟨(Zf N.as a.toNat).a, (Zf N.as a.toNat).b, w⟩) v = Qc N.as v ∧ Wk (N.as.set a.toNat ⟨(Zf N.as a.toNat).a, (Zf N.as a.toNat).b, w⟩) v = Wk N.as v := by
      intro v
      have h1 := congrArg List.length (Zo8 (x := false) (v := v) (w := w) G)
      have I := congrArg List.length (Zo8 (x := true) (v := v) (w := w) G)
      simp only [ioO, if_true, Xeh, if_false, Zl2, Zjc] at h1 I
      exact ⟨h1, I⟩
    exact { bv := r.bv
            ba := by simpa using r.ba
            bt := r.bt
            tab := r.tab
            vx := r.vx
            vt := r.vt
            arcs := fun i D => by
              have D : i < N.as.length := by simpa using D
              simp only [(Qn G).1, (Qn G).2]
              exact r.arcs i D
            w := fun i D => by
              have D : i < N.as.length := by simpa using D
              simp only [Zet G]
              split
              · exact hc.2
              · exact r.w i D
            meet := fun i D => by
              simp only [(H i).1, (H i).2]
              exact r.meet i D }
  · exact r
theorem Zpu {cs:List Int} {j:Nat} {c:Int} (h:Wh 0 cs=none) (hc:Yi c=true):Wh 0 (cs.set j c)=none:=by
 have key:∀ (cs:List Int) (k j:Nat),Wh k cs=none->Wh k (cs.set j c)=none:=by
  intro cs
  induction cs with
  | nil=>intro k j h; exact h
  | cons x r D =>
   intro k j h
   rw [Wh] at h
   split at h
   ·rename_i hx
    cases j with
    | zero=>rw [List.set_cons_zero,Wh,if_pos hc]; exact h
    | succ j=>rw [Xg4,Wh,if_pos hx]; exact D _ _ h
   ·cases h
 exact key cs 0 j h
theorem Z13 {t:Tab} {i k c:Int} (h:(Qh t.i t.o t.cs i k c).2=0):(Qr (Zg2 t i k c)).2=0:=by
 unfold Qh at h
 split at h
 ·simp [Xu] at h
 split at h
 ·simp [Xu] at h
 split at h
 ·simp [Xu] at h
 rename_i hc
 have hc:Yi c=true:=by simpa using hc
 obtain ⟨G,H,I,J,r,D,M⟩:=Zfy h
 have hs:Xy t.i t.o=Ur:=by
  unfold Xy
  rw [if_neg (by omega),if_neg (by omega)]
 show (Uc t.i t.o (t.cs.set (i * t.o+k).toNat c)).2=0
 unfold Uc
 rw [hs,if_neg (by simp [Ur]),if_neg (by simp [r]),Zpu D hc]
 rfl
theorem Z2c (r : Yd N) {t i k c : Int} : Yd (Zaw N t i k c) := by
  unfold Zaw
  split
  · rename_i h0
    have h1 : Zt N.ts.length t = true := by
      unfold Zb3 at h0
      cases c1 : Zt N.ts.length t
      · simp [c1, Wy] at h0
      · rfl
    have G : (Qh (Zp N.ts t.toNat).i (Zp N.ts t.toNat).o (Zp N.ts t.toNat).cs i k c).2 = 0 := by
      unfold Zb3 at h0
      rw [if_neg (by simp [h1])] at h0
      unfold Wi at h0
      split at h0
      · assumption
      · exact h0
    have ht : t.toNat < N.ts.length := by
      simp only [Zt, decide_eq_true_eq] at h1
      omega
    exact { bv := r.bv
            ba := r.ba
            bt := by simpa using r.bt
            tab := fun j D => by
              have D : j < N.ts.length := by simpa using D
              simp only [Zgz ht]
              split
              · exact Z13 G
              · exact r.tab j D
            vx := r.vx
            vt := fun j D => by simpa using r.vt j D
            arcs := r.arcs
            w := r.w
            meet := fun j D => by
              simp only [Zgz ht]
              have := r.meet j D
              split
              · rename_i e
                rw [e] at this
                exact this
              · exact this }
  · exact r
end
end Go.Rm
