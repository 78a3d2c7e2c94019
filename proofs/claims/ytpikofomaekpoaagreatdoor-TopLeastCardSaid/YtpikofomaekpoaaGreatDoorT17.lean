import Derived.Test.YtpikofomaekpoaaGreatDoorT16
import Derived.Test.YtpikofomaekpoaaGreatDoorT06
/- Parts. -/
set_option linter.unusedSimpArgs false
set_option linter.unusedVariables false
namespace Go.Rm
structure Zcz (h:Zk) (lo:Nat) (s1 s2 s3:Sl) (P:List (Tab × Sl)) (N:Zr):Prop where
 o1:Ym h 3 s1 (Ye (N.vs.map Xz))
 o2:Ym h 3 s2 (Ye (N.as.map Xz))
 o3:Ym h 3 s3 (Ye (P.map X5))
 hP:P.map Prod.fst=N.ts
 row:∀ p∈P,Yd h p.2 p.1.cs
 f1:s1.nl=false->lo<=s1.b
 f2:s2.nl=false->lo<=s2.b
 f3:s3.nl=false->lo<=s3.b
 fr:∀ p∈P,p.1.cs≠[]->lo<=p.2.b/\(s1.nl=false->p.2.b≠s1.b)/\(s2.nl=false->p.2.b≠s2.b)/\(s3.nl=false->p.2.b≠s3.b)
 d12:s1.nl=false->s2.nl=false->s1.b≠s2.b
 d13:s1.nl=false->s3.nl=false->s1.b≠s3.b
 d23:s2.nl=false->s3.nl=false->s2.b≠s3.b
section
variable {Y:Sys} {h h':Zk}
theorem Yd.lt {s:Sl} {cs:Zb} (r:Yd h s cs) (D:cs≠[]):s.b<h.size:=by
 rcases Xf0 s.b h.size with q | q
 ·exact q
 have:=r.val 0 (List.length_pos_iff.2 D);simp [hc,Xhx q] at this
theorem Zcz.netH {lo:Nat} {r s2 D:Sl} {P:List (Tab × Sl)} {N:Zr} (o:Zcz h lo r s2 D P N):Ut h r s2 D N :=
 ⟨o.o1.row3,o.o2.row3,o.o3.rowT o.hP o.row⟩
theorem Zcz.mod {S:Zf} {lo:Nat} {G s2 H:Sl} {P:List (Tab × Sl)} {N:Zr} (o:Zcz h lo G s2 H P N) (m:Mod S h h') (hs:∀ b,S b->b<lo):Zcz h' lo G s2 H P N :=
 {o with
  o1:=o.o1.mod m fun r hb=>by have:=hs _ hb;have:=o.f1 r;omega
  o2:=o.o2.mod m fun r hb=>by have:=hs _ hb;have:=o.f2 r;omega
  o3:=o.o3.mod m fun r hb=>by have:=hs _ hb;have:=o.f3 r;omega
  row:=fun p hp=>(o.row p hp).mod m fun D hb=>by have:=hs _ hb;have:=(o.fr p hp D).1;omega }
theorem Zcz.ext {lo:Nat} {r s2 D:Sl} {P:List (Tab × Sl)} {N:Zr} (o:Zcz h lo r s2 D P N) (m:Ext h h'):Zcz h' lo r s2 D P N:=o.mod m fun _ h=>h.elim
theorem Z2n {K:Ze} {sz n:Nat} {s:Sl} {cells:Zc} (o:Ym h sz s cells) {k:Nat} {vs:Array Value} (H:vs.size=n) (U:k+n<=cells.length) (h1:∀ v∈vs.toList,v.oneCell'=true)
  (V:∀ h',Ym h' sz s (cells.take k++vs.toList++cells.drop (k+n))->Mod (fun j=>j=s.b) h h'->K undef h'):Ef.wp h K (.store n) [.pointer (some ⟨s.b,s.o+k,none⟩),.agg vs]:=by
 have D:=o.1;rcases o.2 with ⟨_,rfl⟩ | ⟨g1,g2,I,g3,g4,r,gb,g5,J⟩
 ·obtain rfl:n=0:=by simp at U;omega
  obtain rfl:k=0:=by simp at U;omega
  have:vs=#[]:=Array.eq_empty_of_size_eq_zero H;subst this;refine ⟨rfl,?_⟩;exact V h (by simpa using o) (Mod.refl h)
 have X:cells.length<=r.toList.length:=by rw [<-J,Xgp];omega
 have G:k+vs.toList.length<=r.size:=by simp at X ⊢;omega
 obtain ⟨h3,q1,q2,q3,q4⟩:=Zfm (o:=k) (vs:=vs.toList) gb G h1;refine ⟨H,?_⟩;simp only [Zg6,g2,Xgl,q1];refine V h3 ⟨?_,.inr ⟨g1,g2,I,g3,g4,_,q2,?_,?_⟩⟩ q3
 ·simp only [Xf9,Xgp,Xi5,Xhb];omega
 ·simp only [Xhv,Xf9,Xgp,Xi5,Xhb];simp at G;omega
 simp only;rw [<-D,<-J];simp only [Xhb,H];have e1:(r.toList.take (s.n * sz)).length=cells.length:=by rw [J]
 rw [e1];have e2:s.n * sz=cells.length:=D.symm;rw [e2];apply Xia;intro i;simp only [Xg7,List.getElem?_append,Xf9,Xgp,Xhb,Xhd,H];simp only [Xhb] at X;by_cases c1:i<k
 ·have M:i<cells.length:=by omega
  have a2:i<min k r.size:=by omega
  have a3:i<min k r.size+n:=by omega
  have Z:i<min k (min cells.length r.size):=by omega
  have a5:i<min k (min cells.length r.size)+n:=by omega
  simp [M,a2,a3,Z,a5,c1]
 by_cases c2:i<k+n
 ·have M:i<cells.length:=by omega
  have Z:¬ i<min k (min cells.length r.size):=by omega
  have O:min k r.size=k:=by omega
  have R:min k (min cells.length r.size)=k:=by omega
  simp [M,c1,c2,O,R]
 have O:min k r.size=k:=by omega
 have R:min k (min cells.length r.size)=k:=by omega
 simp only [O,R,c1,c2,if_false];have e3:k+n+(i-(k+n))=i:=by omega
 rw [e3]
@[simp] theorem Z54 {r D G:Value} {s t u:Sl}:Yo.sem Y h (.build #[r,D,G] [(0,1),(1,1),(2,1)] [0,1,2]) [s.v,t.v,u.v]=some (.agg #[s.v,t.v,u.v]):=Zdy rfl rfl rfl
theorem Zgc:∀ {l:List (Value × Value × Value)} {i:Nat} {x:Value × Value × Value},i<l.length->Ye (l.set i x)=(Ye l).take (i * 3)++[x.1,x.2.1,x.2.2]++(Ye l).drop (i * 3+3):=by
 intro l
 induction l with
 | nil=>intro i x D;simp at D
 | cons t r ih =>
  intro i x D;have e:Ye (t::r)=t.1::t.2.1::t.2.2::Ye r:=rfl
  cases i with
  | zero =>
   rw [e];simp [Ye]
  | succ i =>
   have:=ih (i:=i) (x:=x) (by simpa using D);have G:(i+1) * 3=i * 3+1+1+1:=by omega
   have H:(i+1) * 3+3=i * 3+3+1+1+1:=by omega
   rw [e,H,G];simp only [Xiw,Xjo,List.drop_succ_cons,Xh5];rw [<-this]
   rfl
theorem st3 {K:Ze} {s:Sl} {l:List (Value × Value × Value)} (o:Ym h 3 s (Ye l)) {i:Nat} (r:i<l.length) {a b c:Value} (H:a.oneCell'=true) (hb:b.oneCell'=true) (hc:c.oneCell'=true)
  (D:∀ h',Ym h' 3 s (Ye (l.set i (a,b,c)))->Mod (fun j=>j=s.b) h h'->K undef h'):Ef.wp h K (.store 3) [.pointer (some ⟨s.b,s.o+i * 3,none⟩),.agg #[a,b,c]]:=by
 refine Z2n o (k:=i * 3) rfl (by rw [Yk];omega) ?_ ?_
 ·intro v hv;simp only [Xh2,Xid,or_false] at hv;rcases hv with rfl | rfl | rfl <;> assumption
 intro h' G m';refine D h' ?_ m';rw [Zgc r];exact G
theorem Zu5 {α:Type} {l:List α} {i:Nat} {x y:α} (h:x∈l.set i y):x∈l\/x=y:=(List.mem_or_eq_of_mem_set h)
def GcI (v0:Value) (B A:Nat) (s3 st:Sl) (N:Zr) (h0:Zk) (e:Zc) (h':Zk):Prop :=
 ∃ (i:Nat) (P:List (Tab × Sl)) (v4 v5 v9:Value),e=[v0,.pointer (some ⟨A,0,none⟩),.pointer (some ⟨B,0,none⟩),s3.v,v4,v5,st.v,.int .i64 st.n,.int .i64 i,v9]/\i<=st.n/\Ym h' 3 s3 (Ye (P.map X5))/\P.length=st.n/\(∀ j,j<i->∃ u,P[j]? = some (Zz N.ts j,u)/\Yd h' u (Zz N.ts j).cs/\((Zz N.ts j).cs≠[]->h0.size<=u.b))/\Mod (fun j=>s3.nl=false/\j=s3.b) h0 h'
structure Z6h (Y:Sys):Prop where
 clone:Y.Has 201 Y201
 C64:Y.Has 58 Y58
 CV:Y.Has 216 Y216
 CA:Y.Has 217 Y217
set_option maxHeartbeats 1000000 in
theorem Zja (G:Z6h Y) {sv sa I:Sl} {N:Zr} (r:Ut h sv sa I N) (bs:Zes N) {R:Ze}
  (hr:∀ h' s1 s2 s3 P,Ext h h'->Zcz h' h.size s1 s2 s3 P N->R (Yy s1 s2 s3) h'):Zv Y 201 [Yy sv sa I] h R:=by
 have lv:=r.rv.len;have la:=r.ra.len;have lt:=r.rt.len;obtain ⟨bv,ba,bt,bc⟩:=bs;refine .of_has G.clone rfl ?_;simp [Y201,Xm.wp,Yy];refine Zn ?_;intro A hA gA bA eA;simp;refine Zn ?_;intro B hB gB bB eB;have bA:=bA.ext eB;have lA:=bA.lt;have lB:=bB.lt;have zA:=eA.size;have x0:=eA.trans eB;simp [bA.hc];refine Vs (n:=I.n) (by omega) (by omega) rfl ?_;intro T h1 gT oT e1 lT;have x1:=x0.trans e1;rw [Z0i] at oT;have am:=bA.ext e1;have z1:=e1.size;simp [am.hc];rw [<-Sl.at_v];have tT:(Sl.at T I.n I.n).b=T/\(Sl.at T I.n I.n).n=I.n/\(Sl.at T I.n I.n).nl=false:=⟨rfl,rfl,rfl⟩
 generalize Sl.at T I.n I.n=s3 at *
 obtain ⟨tT,tN,tL⟩:=tT;refine Zt (GcI (Yy sv sa I) B A s3 I N h1) (fun e _=>I.n-Zy e 8) ⟨0,List.replicate I.n ((⟨0,0,[]⟩:Tab),Sl.nil),_,_,_,rfl,by omega,oT,by simp,fun j O=>by omega,Mod.refl _⟩ ?_;rintro e h2 ⟨i,P,v4,v5,v9,rfl,hi,oP,lP,U,m2⟩;have z2:=m2.size;have y2:Ext hB h2:=Mod.ext e1 m2 (fun j O=>by omega);have ae:=bA.ext y2;by_cases c:i<I.n
 ·have c':(i:Int)<I.n:=by omega
  have w1:=Zj (i:=i) (by omega);obtain ⟨u,af,_,ag⟩:=r.rt.rd (i:=i) (by omega);have an:=(x0.trans y2).rd af (fun h=>h);have ru:=ag.ext (x0.trans y2);have aA:=ru.len;have aB:=bc i (by omega);have ah:(i:Int)<s3.n:=by omega
  simp [c',Zm r.rt.ok,an];refine Xh (vs:=#[.int .i64 (Zz N.ts i).i,.int .i64 (Zz N.ts i).o,u.v]) rfl rfl (by simp) ?_;intro D aC gD ao ap ai;simp;refine ai _ ?_;intro hD bD eD;clear ai ao ap;have aj:=oP.ext' eD;have aq:=oP.lt tL;have lD:=bD.lt;simp [Yj bD,Zm aj.ok,ah];refine st3 aj (by simp;omega) rfl rfl (by simp) ?_;intro h3 o3 m3;have z3:=m3.size;have ar:=m3.blk bD (by omega);have au:=(ru.ext eD).mod m3 (fun H O=>by have:=ag.lt H;omega);simp [ar.hc];refine Zh6 G.C64 au (by omega) ?_;intro h4 u' e4 ou hu;have o4:=o3.ext' e4;simp [Zm o4.ok,ah];have ak:i<P.length:=by omega
  have e5:(P.map X5).set i (.int .i64 (Zz N.ts i).i,.int .i64 (Zz N.ts i).o,u.v)=(P.set i (Zz N.ts i,u)).map X5:=by rw [Xg2];rfl
  rw [e5] at o4;have al:=fun (K:Ze)=>stN (K:=K) o4 (k:=i * 3+2) (v:=u'.v) (by rw [Yk];simp;omega);rw [Xg1];refine al _ ?_;clear al;intro h5 o5 X;have z5:=X.size;have e6:=(Zkc (l:=(P.set i (Zz N.ts i,u)).map X5) (i:=i) (x:=u'.v) (by simp;omega)).2.2;rw [e6] at o5;have e7:((P.set i (Zz N.ts i,u)).map X5).set i ((((P.set i (Zz N.ts i,u)).map X5).getD i (undef,undef,undef)).1,(((P.set i (Zz N.ts i,u)).map X5).getD i (undef,undef,undef)).2.1,u'.v)=(P.set i (Zz N.ts i,u')).map X5:=by
   rw [Xg2,Xg2,List.set_set];simp [ak,X5]
  rw [e7] at o5;have av:(Zz N.ts i).cs≠[]->h1.size<=u'.b/\u'.b<h5.size:=by
   intro H;obtain ⟨aw,hb,_,ab⟩:=ou.blk (i:=0) (by rw [Vm];exact List.length_pos_iff.2 H);have:=hu.resolve_left (by rw [ab];simp);have:=hb.lt;omega
  have ax:=ou.row64.mod X (fun H O=>by
   obtain ⟨aw,hb,_,ab⟩:=ou.blk (i:=0) (by rw [Vm];exact List.length_pos_iff.2 H);have:=hu.resolve_left (by rw [ab];simp);omega)
  have mm:Mod (fun j=>s3.nl=false/\j=s3.b) h2 h5:=(((eD.mono fun _ _ h=>h.elim).trans (m3.mono fun _ _ h=>⟨tL,h⟩)).trans (e4.mono fun _ _ h=>h.elim)).trans (X.mono fun _ _ h=>⟨tL,h⟩);simp [w1];refine ⟨⟨i+1,P.set i (Zz N.ts i,u'),_,_,_,rfl,by omega,o5,by simp;omega,fun j O=>?_,m2.trans mm⟩,by simp [Zy];omega⟩;rcases Xf0 j i with q | q
  ·obtain ⟨w,J,Z,aa⟩:=U j q;refine ⟨w,?_,Z.mod mm (fun H O=>by have:=aa H;have:=O.2;omega),aa⟩;rw [Xig (by omega)];exact J
  obtain rfl:j=i:=by omega
  exact ⟨u',by simp [ak],ax,fun H=>(av H).1⟩
 have c':¬ (i:Int)<I.n:=by omega
 obtain rfl:i=I.n:=by omega
 simp [c',ae.hc];refine Zr6 G.CV (r.rv.ext (x0.trans y2)) (by omega) ?_;intro h3 s1 e3 o1 f1;have ay:=ae.ext e3;simp [ay.hc];refine Zrm G.CA (r.ra.ext ((x0.trans y2).trans e3)) (by omega) ?_;intro h4 s2 e4 o2 f2;have z3:=e3.size;simp;refine Zs ((bB.ext y2).ext (e3.trans e4)) rfl rfl (by simp) ?_;intro h5 b5 X;simp;refine Xj rfl b5 rfl ?_;have aq:=oP.lt tL;have az:P.map Prod.fst=N.ts:=by
  apply Xia;intro j;rcases Xf0 j I.n with q | q
  ·obtain ⟨w,J,_⟩:=U j q;rw [List.getElem?_map,J,Zbu (by omega),Xg6 (by omega)]
   rfl
  rw [Xgn (by simp;omega),Xgn (by omega)]
 have V:∀ p∈P,Yd h2 p.2 p.1.cs/\(p.1.cs≠[]->h1.size<=p.2.b/\p.2.b<h2.size):=by
  intro p hp;obtain ⟨j,O,rfl⟩:=Xgx hp;obtain ⟨w,J,Z,aa⟩:=U j (by omega);rw [Xg6 O] at J;simp only [Xgr] at J;rw [J];exact ⟨Z,fun H=>⟨aa H,Z.lt H⟩⟩
 refine hr h5 s1 s2 s3 P (Mod.ext ((x0.trans y2).trans (e3.trans e4)) X (fun j O=>by omega))
  {o1:=(o1.ext' e4).mod X (fun M O=>by have:=f1 M;omega)
   o2:=o2.mod X (fun M O=>by have:=f2 M;omega)
   o3:=((oP.ext' e3).ext' e4).mod X (fun M O=>by omega)
   hP:=az
   row:=fun p hp=>(((V p hp).1.ext e3).ext e4).mod X (fun H O=>by have:=(V p hp).2 H;omega)
   f1:=fun M=>by have:=f1 M;omega
   f2:=fun M=>by have:=f2 M;omega
   f3:=fun M=>by omega
   fr:=fun p hp H=>by
    have:=(V p hp).2 H;exact ⟨by omega,fun M=>by have:=f1 M;omega,fun M=>by have:=f2 M;omega,fun M=>by omega⟩
   d12:=fun ac ad=>by have:=f2 ad;have:=o1.lt ac;omega
   d13:=fun ac _=>by have:=f1 ac;omega
   d23:=fun ad _=>by have:=f2 ad;omega }
def Ua (l:List (Value × Value)):Zc:=l.flatMap fun t=>[t.1,t.2]
theorem U3 {l:List (Value × Value)}:(Ua l).length=l.length * 2:=by
 induction l with
 | nil=>rfl
 | cons t r ih=>simp only [Ua,Xic,Xf9,Xg5,Xhy] at ih ⊢;omega
theorem Zgz {l:List (Value × Value)}:∀ {i:Nat} (D:i<l.length),(Ua l)[i * 2]? = some l[i].1/\(Ua l)[i * 2+1]? = some l[i].2:=by
 induction l with
 | nil=>intro i D;simp at D
 | cons t r ih =>
  intro i D;have e:Ua (t::r)=t.1::t.2::Ua r:=rfl;rw [e]
  cases i with
  | zero=>simp
  | succ i =>
   have:=ih (i:=i) (by simpa using D);have G:(i+1) * 2=i * 2+1+1:=by omega
   have H:(i+1) * 2+1=i * 2+1+1+1:=by omega
   rw [H,G];simp only [Xjn,List.getElem_cons_succ];exact this
theorem Zm5:∀ {l:List (Value × Value)} {i:Nat} {x:Value × Value},i<l.length->Ua (l.set i x)=(Ua l).take (i * 2)++[x.1,x.2]++(Ua l).drop (i * 2+2):=by
 intro l
 induction l with
 | nil=>intro i x D;simp at D
 | cons t r ih =>
  intro i x D;have e:Ua (t::r)=t.1::t.2::Ua r:=rfl
  cases i with
  | zero =>
   rw [e];simp [Ua]
  | succ i =>
   have:=ih (i:=i) (x:=x) (by simpa using D);have G:(i+1) * 2=i * 2+1+1:=by omega
   have H:(i+1) * 2+2=i * 2+2+1+1:=by omega
   rw [e,H,G];simp only [Xiw,Xjo,List.drop_succ_cons,Xh5];rw [<-this]
   rfl
theorem Zrh {n:Nat} {v:Value}:List.replicate (n * 2) v=Ua (List.replicate n (v,v)):=by
 induction n with
 | zero=>rfl
 | succ n ih =>
  rw [show (n+1) * 2=n * 2+1+1 by omega,Xi8,Xi8,ih,Xi8]
  rfl
def plc (as:List Xe) (i:Nat):List (Value × Value):=(List.range as.length).map fun j=>if j<i then (.int .i64 (cntB as j j:Nat),.int .i64 (cntA as j j:Nat)) else (.int .i64 0,.int .i64 0)
@[simp] theorem Zq2 {as:List Xe} {i:Nat}:(plc as i).length=as.length:=by simp [plc]
theorem Z3t {as:List Xe}:plc as 0=List.replicate as.length (.int .i64 0,.int .i64 0):=by
 apply Xgb (by simp);intro j h1 r;simp [plc]
theorem Z4h {as:List Xe} {i:Nat} {a b:Int} (D:i<as.length) (r:a=cntB as i i) (hb:b=cntA as i i):(plc as i).set i (.int .i64 a,.int .i64 b)=plc as (i+1):=by
 apply Xgb (by simp);intro j h1 G;rw [Xg3];simp only [plc,Xgo,Xhu];by_cases c:i=j
 ·subst c;simp [r,hb]
 have:(j<i+1)=(j<i):=by simp;omega
 simp only [if_neg c,this]
theorem Z92 {as:List Xe} {j:Nat} (r:j<as.length):(plc as as.length)[j]'(by simpa using r)=(.int .i64 (cntB as j j:Nat),.int .i64 (cntA as j j:Nat)):=by
 simp [plc,r]
def ioO (x:Bool) (as:List Xe) (v:Nat):Zb:=if x then Qd as v else Zfh as v
def Zf6 (nv:Nat) (q:Nat->Sl):Zc:=(List.range nv).map fun v=>(q v).v
@[simp] theorem Xcx {r:Nat} {q:Nat->Sl}:(Zf6 r q).length=r:=by simp [Zf6]
theorem Zdm {r v:Nat} {q:Nat->Sl} (hv:v<r):(Zf6 r q)[v]? = some (q v).v:=by simp [Zf6,hv]
theorem Ztx {r v:Nat} {q:Nat->Sl} {s:Sl}:(Zf6 r q).set v s.v=Zf6 r (fun u=>if u=v then s else q u):=by
 apply Xgb (by simp);intro j h1 D;rw [Xg3];simp only [Zf6,Xgo,Xhu];by_cases c:v=j
 ·subst c;simp
 have:¬ j=v:=fun e=>c e.symm;simp [c,this]
structure QOK (lo:Nat) (h:Zk) (nv:Nat) (Q:Bool->Nat->Sl) (l:Bool->List Xe):Prop where
 own:∀ x v,v<nv->Ym h 1 (Q x v) (Zq (ioO x (l x) v))
 fr:∀ x v,v<nv->(Q x v).nl=false->lo<=(Q x v).b
 dj:∀ x u y v,u<nv->v<nv->(x≠y\/u≠v)->(Q x u).nl=false->(Q y v).nl=false->(Q x u).b≠(Q y v).b
theorem QOK.mod {S:Zf} {lo r:Nat} {Q:Bool->Nat->Sl} {l:Bool->List Xe} (q:QOK lo h r Q l) (m:Mod S h h') (hs:∀ b,S b->b<lo):QOK lo h' r Q l :=
 ⟨fun x v hv=>(q.own x v hv).mod m fun D hb=>by have:=hs _ hb;have:=q.fr x v hv D;omega,q.fr,q.dj⟩
theorem QOK.ext {lo r:Nat} {Q:Bool->Nat->Sl} {l:Bool->List Xe} (q:QOK lo h r Q l) (m:Ext h h'):QOK lo h' r Q l:=q.mod m fun _ h=>h.elim
theorem QOK.step {lo J t:Nat} {Q:Bool->Nat->Sl} {l l':Bool->List Xe} {x:Bool} {I:Sl} (q:QOK lo h J Q l) (ht:t<J) (M:lo<=h.size) (o:Ym h' 1 I (Zq (ioO x (l' x) t))) (m:Mod (fun j=>(Q x t).nl=false/\j=(Q x t).b) h h')
  (hs:(I.b=(Q x t).b/\I.nl=(Q x t).nl)\/(h.size<=I.b/\I.nl=false)) (O:∀ y v,v<J->(y≠x\/v≠t)->ioO y (l' y) v=ioO y (l y) v) :
  QOK lo h' J (fun y v=>if y=x/\v=t then I else Q y v) l':=by
 refine ⟨fun y v hv=>?_,fun y v hv D=>?_,fun y u z v hu hv r h1 H=>?_⟩
 ·by_cases c:y=x/\v=t
  ·obtain ⟨rfl,rfl⟩:=c;simp only [and_self,if_true];exact o
  simp only [if_neg c];have hc:y≠x\/v≠t:=by
   rcases Decidable.em (y=x) with e | e
   ·exact .inr fun e2=>c ⟨e,e2⟩
   exact .inl e
  rw [O y v hv hc];exact (q.own y v hv).mod m fun D hb=>q.dj y v x t hv ht hc D hb.1 hb.2
 ·by_cases c:y=x/\v=t
  ·simp only [if_pos c] at D ⊢;rcases hs with ⟨G,e2⟩ | ⟨G,_⟩
   ·rw [G];exact q.fr x t ht (by rw [<-e2];exact D)
   omega
  simp only [if_neg c] at D ⊢;exact q.fr y v hv D
 have lt:∀ y v,v<J->(Q y v).nl=false->(Q y v).b<h.size:=fun y v hv D=>(q.own y v hv).lt D;by_cases c:y=x/\u=t
 ·by_cases d:z=x/\v=t
  ·obtain ⟨rfl,rfl⟩:=c;obtain ⟨rfl,rfl⟩:=d;rcases r with e | e <;> exact absurd rfl e
  simp only [if_pos c] at h1 ⊢;simp only [if_neg d] at H ⊢;obtain ⟨rfl,rfl⟩:=c;rcases hs with ⟨G,e2⟩ | ⟨G,_⟩
  ·rw [G];exact q.dj y u z v hu hv r (by rw [<-e2];exact h1) H
  have:=lt z v hv H;omega
 by_cases d:z=x/\v=t
 ·simp only [if_neg c] at h1 ⊢;simp only [if_pos d] at H ⊢;obtain ⟨rfl,rfl⟩:=d;rcases hs with ⟨G,e2⟩ | ⟨G,_⟩
  ·rw [G];exact q.dj y u z v hu hv r h1 (by rw [<-e2];exact H)
  have:=lt y u hu h1;omega
 simp only [if_neg c] at h1 ⊢;simp only [if_neg d] at H ⊢;exact q.dj y u z v hu hv r h1 H
def Zjf (p:Nat) (s1 si so sp:Sl) (Q:Bool->Nat->Sl) (nv:Nat) (P:List (Tab × Sl)) (b:Nat):Prop :=
 b=p\/(s1.nl=false/\b=s1.b)\/b=si.b\/b=so.b\/b=sp.b\/(∃ x v,v<nv/\(Q x v).nl=false/\b=(Q x v).b)\/∃ q∈P,q.1.cs≠[]/\b=q.2.b
structure Zc3 (h:Zk) (p:Nat) (N:Zr) (S:Zf) (s1 s2 s3 si so sp:Sl) (P:List (Tab × Sl)) (Q:Bool->Nat->Sl):Prop where
 blk:Xb h p #[s1.v,s2.v,s3.v,si.v,so.v,sp.v]
 o1:Ym h 3 s1 (Ye (N.vs.map Xz))
 o2:Ym h 3 s2 (Ye (N.as.map Xz))
 o3:Ym h 3 s3 (Ye (P.map X5))
 hP:P.map Prod.fst=N.ts
 row:∀ q∈P,Yd h q.2 q.1.cs
 oi:Ym h 1 si (Zf6 N.vs.length (Q false))
 oo:Ym h 1 so (Zf6 N.vs.length (Q true))
 op:Ym h 2 sp (Ua (plc N.as N.as.length))
 oq:∀ x v,v<N.vs.length->Ym h 1 (Q x v) (Zq (ioO x N.as v))
 inS:∀ b,Zjf p s1 si so sp Q N.vs.length P b->S b
 e2:s2.nl=false->S s2.b/\¬ Zjf p s1 si so sp Q N.vs.length P s2.b
 e3:s3.nl=false->S s3.b/\¬ Zjf p s1 si so sp Q N.vs.length P s3.b
 d23:s2.nl=false->s3.nl=false->s2.b≠s3.b
 lt:∀ b,S b->b<h.size
def Xc (h:Zk) (p:Nat) (N:Zr) (S:Zf):Prop:=∃ s1 s2 s3 si so sp P Q,Zc3 h p N S s1 s2 s3 si so sp P Q
theorem Zc3.netH {p:Nat} {N:Zr} {S:Zf} {r s2 D G H I:Sl} {P:List (Tab × Sl)} {Q:Bool->Nat->Sl} (g:Zc3 h p N S r s2 D G H I P Q):Ut h r s2 D N :=
 ⟨g.o1.row3,g.o2.row3,g.o3.rowT g.hP g.row⟩
theorem Zc3.mod {S':Zf} {p:Nat} {N:Zr} {S:Zf} {H s2 I J M O:Sl} {P:List (Tab × Sl)} {Q:Bool->Nat->Sl} (g:Zc3 h p N S H s2 I J M O P Q) (m:Mod S' h h') (hd:∀ b,S b->¬ S' b):Zc3 h' p N S H s2 I J M O P Q :=
 have r:=fun b hb=>hd b (g.inS b hb)
 {g with
  blk:=m.blk g.blk (r _ (.inl rfl))
  o1:=g.o1.mod m fun D=>r _ (.inr (.inl ⟨D,rfl⟩))
  o2:=g.o2.mod m fun D=>hd _ (g.e2 D).1
  o3:=g.o3.mod m fun D=>hd _ (g.e3 D).1
  row:=fun q hq=>(g.row q hq).mod m fun G=>r _ (.inr (.inr (.inr (.inr (.inr (.inr ⟨q,hq,G,rfl⟩))))))
  oi:=g.oi.mod m fun _=>r _ (.inr (.inr (.inl rfl)))
  oo:=g.oo.mod m fun _=>r _ (.inr (.inr (.inr (.inl rfl))))
  op:=g.op.mod m fun _=>r _ (.inr (.inr (.inr (.inr (.inl rfl)))))
  oq:=fun x v hv=>(g.oq x v hv).mod m fun D=>r _ (.inr (.inr (.inr (.inr (.inr (.inl ⟨x,v,hv,D,rfl⟩))))))
  lt:=fun b hb=>Xib (g.lt b hb) m.size }
theorem Xc.mod {S':Zf} {p:Nat} {N:Zr} {S:Zf} (g:Xc h p N S) (m:Mod S' h h') (hd:∀ b,S b->¬ S' b):Xc h' p N S:=by
 obtain ⟨r,s2,D,G,H,I,P,Q,g⟩:=g;exact ⟨r,s2,D,G,H,I,P,Q,g.mod m hd⟩
theorem Xc.ext {p:Nat} {N:Zr} {S:Zf} (g:Xc h p N S) (m:Ext h h'):Xc h' p N S:=g.mod m fun _ _ h=>h
theorem Xc.lt {p:Nat} {N:Zr} {S:Zf} (g:Xc h p N S):∀ b,S b->b<h.size:=by
 obtain ⟨r,s2,D,G,H,I,P,Q,g⟩:=g;exact g.lt
theorem Z5 {D G H I J M a b c:Value} {x y w:Option Addr} {n m k r m' k':Nat} :
  Yo.sem Y h (.build #[D,G,H,I,J,M] [(0,3),(3,1),(4,1),(5,1)] [0,1,2,3]) [.agg #[a,b,c],.slice x n r,.slice y m m',.slice w k k']=some (.agg #[a,b,c,.slice x n r,.slice y m m',.slice w k k']):=by
 simp [Yo.sem,Instr.fill]
theorem Zor {p:Xe->Bool} {l:List Xe} {i:Nat} (r:i<l.length) (hp:p (Zp l i)=false):Ud p 0 (l.take (i+1))=Ud p 0 (l.take i):=by
 rw [Zb4 r,hp];simp
@[simp] theorem Z57 {r D:Value} {a b:Int}:Yo.sem Y h (.build #[r,D] [(0,1),(1,1)] [0,1]) [.int .i64 a,.int .i64 b]=some (.agg #[.int .i64 a,.int .i64 b]):=Zd6 rfl rfl
def BdI (v0:Value) (A p:Nat) (si so sp sa:Sl) (N:Zr) (h0:Zk) (e:Zc) (h':Zk):Prop :=
 ∃ (i:Nat) (Q:Bool->Nat->Sl) (v2 v4 v5 v9:Value),e=[v0,.pointer (some ⟨A,0,none⟩),v2,.pointer (some ⟨p,0,none⟩),v4,v5,sa.v,.int .i64 sa.n,.int .i64 i,v9]/\i<=sa.n/\Ym h' 1 si (Zf6 N.vs.length (Q false))/\Ym h' 1 so (Zf6 N.vs.length (Q true))/\Ym h' 2 sp (Ua (plc N.as i))/\QOK h0.size h' N.vs.length Q (fun _=>N.as.take i)/\Mod (fun j=>j=si.b\/j=so.b\/j=sp.b) h0 h'
set_option maxHeartbeats 2000000 in
theorem Zvs (HB : Y.Has 200 Y200) {lo : Nat} {I O st : Sl} {P : List (Tab × Sl)} {N : Zr} (no : Zcz h lo I O st P N) (aV : lo ≤ h.size) (bs : Zes N) (hA : Z22 N) {R : Value → Zk → Prop}
    (hr : ∀ h' p (S : Nat → Prop), Ext h h' → Xc h' p N S → (∀ b, S b → lo ≤ b) → R (.pointer (some ⟨p, 0, none⟩)) h') : Zv Y 200 [Yy I O st] h R := by
  have r := no.netH;have lv := r.rv.len;have la := r.ra.len;obtain ⟨bv, ba, bt, bc⟩ := bs;refine .of_has HB rfl ?_;simp [Y200, Xm.wp, Yy];refine Zn ?_;intro A ac gA Z eA;have lA := Z.lt;have aa : ∀ (p : Nat) (hG : Zk) (si so sp : Sl), Ext ac hG → Xb hG p #[I.v, O.v, st.v, si.v, so.v, sp.v] → Ym hG 1 si (List.replicate I.n (.slice none 0 0)) → Ym hG 1 so (List.replicate I.n (.slice none 0 0)) → Ym hG 2 sp (List.replicate (O.n * 2) (.int .i64 0)) →
      si.nl = false → so.nl = false → sp.nl = false → ac.size ≤ si.b → ac.size ≤ so.b → ac.size ≤ sp.b → ac.size ≤ p → si.b ≠ so.b → si.b ≠ sp.b → so.b ≠ sp.b → p ≠ si.b → p ≠ so.b → p ≠ sp.b →
      Stmt.wp Y Y200.body.rest.rest (U4 Y200.res R) (fun _ _ _ => False) (U4 Y200.res R) [Yy I O st, .pointer (some ⟨A, 0, none⟩), .pointer none, .pointer (some ⟨p, 0, none⟩), undef, undef, undef, undef, undef, undef] hG := by
    intro p hG si so sp x0 bp oi oo op ni nO np fi fo fp aW d1 d2 d3 d4 d5 d6;have zG := x0.size;have aC := Z.ext x0;have li := oi.lt ni;have aX := oo.lt nO;have lp := op.lt np;have aY := bp.lt;have e0 : List.replicate I.n (.slice none 0 0) = Zf6 N.vs.length (fun _ => Sl.nil) := by
      rw [lv];apply Xgb (by simp);intro j h1 h2;simp [Zf6, Sl.nil_v]
    have U : List.replicate (O.n * 2) (.int .i64 0) = Ua (plc N.as 0) := by rw [Zrh, Z3t, la]
    rw [e0] at oi oo;rw [U] at op;simp [Y200, Stmt.rest, aC.hc];refine Zt (BdI (Yy I O st) A p si so sp O N hG) (fun e _ => O.n - Zy e 8) ⟨0, fun _ _ => Sl.nil, _, _, _, _, rfl, by omega, oi, oo, op, ⟨fun x v _ => by cases x <;> exact Ym.nil, fun x v _ V => (by cases V), fun x u y v _ _ _ V => (by cases V)⟩, Mod.refl _⟩ ?_;clear oi oo op e0 U;rintro e h2 ⟨i, Q, v2, v4, v5, v9, rfl, hi, oi, oo, op, q, m2⟩;have z2 := m2.size;have ah : Ext ac h2 := Mod.ext x0 m2 (fun j J => by omega);have aj := m2.blk bp (by omega);have r2 := r.ext (eA.trans ah);by_cases c : i < O.n
    · have c' : (i : Int) < O.n := by omega
      have ci : i < N.as.length := by omega
      have w1 : IntKind.i64.wrap ((i : Int) + 1) = (i : Int) + 1 := Zo (by omega);obtain ⟨q1, q2⟩ := hA i ci;simp only [Yf, decide_eq_true_eq] at q1 q2;obtain ⟨f, hf⟩ : ∃ f : Nat, (Zp N.as i).a = f := ⟨(Zp N.as i).a.toNat, by omega⟩
      obtain ⟨g, hg⟩ : ∃ g : Nat, (Zp N.as i).b = g := ⟨(Zp N.as i).b.toNat, by omega⟩
      rw [hf] at q1;rw [hg] at q2;have fv : f < N.vs.length := by omega
      have gv : g < N.vs.length := by omega
      have aq := r2.ra.rd ci;rw [hf, hg] at aq;simp [c', Zm r2.ra.ok, aq];refine Xh (vs := #[.int .i64 f, .int .i64 g, .int .i64 (Zp N.as i).c]) rfl rfl (by simp) ?_;intro D aZ gD aD aE ar;simp;refine ar _ ?_;intro hD bD eD;clear ar aD aE;have lD := bD.lt;have oi := oi.ext' eD;have oo := oo.ext' eD;have op := op.ext' eD;have au : ∀ x v, v < N.vs.length → (Q x v).nl = false → (Q x v).b < h2.size := fun x v hv V => (q.own x v hv).lt V;have q := q.ext eD;have av := aj.ext eD;have a0 : si.n = N.vs.length := by have := oi.1; simp at this; omega
      have a1 : so.n = N.vs.length := by have := oo.1; simp at this; omega
      have a2 : sp.n = N.as.length := by have := op.1; rw [U3, Zq2] at this; omega
      have gi : (g : Int) < si.n := by omega
      have ak : (f : Int) < so.n := by omega
      have aF : (i : Int) < sp.n := by omega
      have cI := oi.cell (Zdm gv);have cO := oo.cell (Zdm fv);have qI := q.own false g gv;have qO := q.own true f fv;have nI := qI.1;have aw := qO.1;rw [Vm, Xgd] at nI aw;have hB : cntB N.as i i = (Q false g).n := by
        rw [← nI];show _ = (Zfh (N.as.take i) g).length;rw [Zng, Zzz hg]
      have aG : cntA N.as i i = (Q true f).n := by
        rw [← aw];show _ = (Qd (N.as.take i) f).length;rw [Zkk, Zvc hf]
      have a3 := Z6b (as := N.as) (a := i) (n := i);have a4 := Z74 (as := N.as) (a := i) (n := i);simp [av.hc, bD.hc, Zm oi.ok, Zm oo.ok, Zm op.ok, gi, ak, aF, cI, cO];refine Z2n op (k := i * 2) rfl (by rw [U3, Zq2]; omega) (by simp) ?_;intro h4 op m4;have z4 := m4.size;have op : Ym h4 2 sp (Ua (plc N.as (i + 1))) := by
        rw [← Z4h ci (a := ((Q false g).n : Int)) (b := ((Q true f).n : Int)) (by rw [hB]) (by rw [aG]), Zm5 (by simpa using ci)];exact op
      have oi := oi.mod m4 (fun _ J => by omega);have oo := oo.mod m4 (fun _ J => by omega);have q := q.mod m4 (fun b hb => by omega);have al := m4.blk av (by omega);have am := m4.blk bD (by omega);have cI := oi.cell (Zdm gv);simp [al.hc, am.hc, Zm oi.ok, gi, cI, Qy];intro t;have e5 : Ext h4 (h4.push (.cells #[.int .i64 i] t)) := Mod.push;have aH := al.ext e5;have aI := am.ext e5;have aJ := e5.hc cI (fun h => h);simp [aH.hc, aI.hc, aJ];refine Zcf rfl (q.own false g gv) (by omega) (by omega) ?_;intro s' h6 os a5 m6 ax;have z6 := m6.size;have qf := q.fr false g gv;have ay := m6.blk al (fun J => by have := qf J.1; omega);have az := m6.blk am (fun J => by have := au false g gv J.1; have := J.2; omega);have oi := oi.mod m6 (fun _ J => by have := qf J.1; have := J.2; omega);have oo := oo.mod m6 (fun _ J => by have := qf J.1; have := J.2; omega);have op := op.mod m6 (fun _ J => by have := qf J.1; have := J.2; omega);have q := q.step (x := false) (l' := fun y => if y = false then N.as.take (i + 1) else N.as.take i) gv (by omega) (by
        have : Zq (ioO false (if false = false then N.as.take (i + 1) else N.as.take i) g) = Zq (ioO false (N.as.take i) g) ++ [.int .i64 i] := by
          simp only [if_true, ioO, Xga, if_false, Zfh];rw [Zb4 ci];simp [hg, Zq]
        rw [this];exact os) m6 ax (fun y v hv X => by
        cases y with
        | true => rfl
        | false =>
          have : v ≠ g := X.resolve_left (by simp);simp only [if_true, ioO, Xga, if_false, Zfh];exact Zor ci (by simp [hg]; omega))
      simp [ay.hc, az.hc, Zm oi.ok, gi];refine stN oi (k := g) (by simpa using gv) ?_;intro h7 oi m7;rw [Ztx] at oi;have z7 := m7.size;have aS : s'.nl = false → hG.size ≤ s'.b := by
        intro V;rcases ax with ⟨U, e2⟩ | ⟨U, _⟩
        · rw [U]; exact qf (by rw [← e2]; exact V)
        omega
      have oo := oo.mod m7 (fun _ J => by omega);have op := op.mod m7 (fun _ J => by omega);have q := q.mod m7 (fun b hb => by omega);have an := m7.blk ay (by omega);have ao := m7.blk az (by omega);have cO := oo.cell (Zdm fv);simp [an.hc, ao.hc, Zm oo.ok, ak, cO, Qy];intro t;have e8 : Ext h7 (h7.push (.cells #[.int .i64 i] t)) := Mod.push;have aK := an.ext e8;have aL := ao.ext e8;have aM := e8.hc cO (fun h => h);simp [aK.hc, aL.hc, aM];have qT := q.own true f fv;have qe : (if true = false ∧ f = g then s' else Q true f) = Q true f := by simp
      simp only [qe] at qT;refine Zcf rfl qT (by omega) (by omega) ?_;intro ap h9 aN aT m9 aA;have ae := q.fr true f fv;simp only [qe] at ae;have aO := m9.blk an (fun J => by have := ae J.1; omega);have aP := m9.blk ao (fun J => by have := au true f fv J.1; have := J.2; omega);have oi := oi.mod m9 (fun _ J => by have := ae J.1; have := J.2; omega);have oo := oo.mod m9 (fun _ J => by have := ae J.1; have := J.2; omega);have op := op.mod m9 (fun _ J => by have := ae J.1; have := J.2; omega);have q := q.step (x := true) (l' := fun _ => N.as.take (i + 1)) fv (by omega) (by
        have : Zq (ioO true (N.as.take (i + 1)) f) = Zq (ioO true (N.as.take i) f) ++ [.int .i64 i] := by
          simp only [ioO, if_true, Qd];rw [Zb4 ci];simp [hf, Zq]
        rw [this];exact aN) (by simpa only [qe] using m9) (by simpa only [qe] using aA) (fun y v hv X => by
        cases y with
        | false => rfl
        | true =>
          have : v ≠ f := X.resolve_left (by simp);simp only [ioO, if_true, Qd, Bool.true_eq_false, if_false];exact Zor ci (by simp [hf]; omega))
      simp [aO.hc, aP.hc, Zm oo.ok, ak];refine stN oo (k := f) (by simpa using fv) ?_;intro aQ oo ai;rw [Ztx] at oo;have aU : ap.nl = false → hG.size ≤ ap.b := by
        intro V;rcases aA with ⟨U, e2⟩ | ⟨U, _⟩
        · rw [U]; exact ae (by rw [← e2]; exact V)
        omega
      have oi := oi.mod ai (fun _ J => by omega);have op := op.mod ai (fun _ J => by omega);have q := q.mod ai (fun b hb => by omega);simp [w1];have mm : Mod (fun j => j = si.b ∨ j = so.b ∨ j = sp.b) hG aQ := by
        refine ((((((m2.trans (eD.mono fun _ _ h => h.elim)).trans (m4.mono fun _ _ h => .inr (.inr h))).then m6 (fun j J hb => ?_)).trans (m7.mono fun _ _ h => .inl h)).then m9 (fun j J hb => ?_)).trans (ai.mono fun _ _ h => .inr (.inl h)))
        · have := qf hb.1; have := hb.2; omega
        have := ae hb.1; have := hb.2; omega
      refine ⟨⟨i + 1, fun y v => if y = true ∧ v = f then ap else if y = false ∧ v = g then s' else Q y v, _, _, _, _, rfl, by omega, ?_, ?_, op, q, mm⟩, by simp [Zy]; omega⟩
      · simpa using oi
      simpa using oo
    have c' : ¬ (i : Int) < O.n := by omega
    obtain rfl : i = O.n := by omega
    have aR : N.as.take O.n = N.as := Xf7 (by omega);simp only [aR] at q;rw [← la] at op;simp [c'];have ad := no.ext (eA.trans ah);have lq : ∀ x v, v < N.vs.length → (Q x v).nl = false → hG.size ≤ (Q x v).b ∧ (Q x v).b < h2.size := fun x v hv V => ⟨q.fr x v hv V, (q.own x v hv).lt V⟩
    have aB : ∀ q' ∈ P, q'.1.cs ≠ [] → q'.2.b < h.size := fun q' hq X => (no.row q' hq).lt X;refine hr h2 p (fun b => lo ≤ b ∧ b < h2.size) (eA.trans ah) ⟨I, O, st, si, so, sp, P, Q, ?_⟩ (fun b hb => hb.1);have af : ∀ (b : Nat), b < h.size → lo ≤ b → (I.nl = false → b ≠ I.b) → (∀ q' ∈ P, q'.1.cs ≠ [] → b ≠ q'.2.b) → ¬ Zjf p I si so sp Q N.vs.length P b := by
      intro b h1 _ h3 h4 hb;rcases hb with hb | ⟨V, hb⟩ | hb | hb | hb | ⟨x, v, hv, V, hb⟩ | ⟨q', hq, X, hb⟩
      · omega
      · exact h3 V hb
      · omega
      · omega
      · omega
      · have := lq x v hv V; omega
      exact h4 q' hq X hb
    exact { blk := aj
            o1 := ad.o1
            o2 := ad.o2
            o3 := ad.o3
            hP := ad.hP
            row := ad.row
            oi := oi
            oo := oo
            op := op
            oq := q.own
            inS := fun b hb => by
              rcases hb with hb | ⟨V, hb⟩ | hb | hb | hb | ⟨x, v, hv, V, hb⟩ | ⟨q', hq, X, hb⟩
              · have := aj.lt; subst hb; exact ⟨by omega, this⟩
              · have := ad.o1.lt V; have := ad.f1 V; subst hb; exact ⟨by omega, by omega⟩
              · have := oi.lt ni; subst hb; exact ⟨by omega, this⟩
              · have := oo.lt nO; subst hb; exact ⟨by omega, this⟩
              · have := op.lt np; subst hb; exact ⟨by omega, this⟩
              · have := lq x v hv V; subst hb; exact ⟨by omega, by omega⟩
              have := (ad.fr q' hq X).1; have := aB q' hq X; have := eA.size; have := ah.size; subst hb; exact ⟨by omega, by omega⟩
            e2 := fun V => by
              have h1 := no.o2.lt V;have ag := no.f2 V;exact ⟨⟨ag, by omega⟩, af _ h1 ag (fun hs e => no.d12 hs V e.symm) (fun q' hq X e => (no.fr q' hq X).2.2.1 V e.symm)⟩
            e3 := fun V => by
              have h1 := no.o3.lt V;have ag := no.f3 V;exact ⟨⟨ag, by omega⟩, af _ h1 ag (fun hs e => no.d13 hs V e.symm) (fun q' hq X e => (no.fr q' hq X).2.2.2 V e.symm)⟩
            d23 := no.d23
            lt := fun b hb => hb.2 }
  simp only [Y200, Stmt.rest] at aa;simp [Z.hc, Yj Z];refine ⟨?_, ?_⟩
  · refine Vs (n := I.n) (bytes := 24) (by omega) (by omega) rfl ?_;intro bi k0 gi oi e0 li;rw [Uo] at oi;have G : ∀ g, Ext g ac → Ext g k0 := fun g e => Mod.trans e e0;simp (config := { maxDischargeDepth := 60 }) [Z.sk, Z.rk, G];refine ⟨?_, ?_⟩
    · refine Vs (n := I.n) (bytes := 24) (by omega) (by omega) rfl ?_;intro bo k1 go oo U lo;rw [Uo] at oo;have H : ∀ g, Ext g k0 → Ext g k1 := fun g e => Mod.trans e U;simp (config := { maxDischargeDepth := 60 }) [Z.sk, Z.rk, G, H];refine Vs (n := O.n) (bytes := 16) (by omega) (by omega) rfl ?_;intro ab k2 gp op e2 lp;rw [Zdj] at op;have M : ∀ g, Ext g k1 → Ext g k2 := fun g e => Mod.trans e e2;simp (config := { maxDischargeDepth := 60 }) [Z.rk, Z5, G, H, M];refine Zn ?_;intro p k3 gp bp e3;simp [-Yc];rw [Yc];exact aa p k3 (Sl.at bi I.n I.n) (Sl.at bo I.n I.n) (Sl.at ab O.n O.n) (((e0.trans U).trans e2).trans e3) bp (oi.ext' ((U.trans e2).trans e3)) (oo.ext' (e2.trans e3)) (op.ext' e3) rfl rfl rfl (by simp; omega) (by simp; omega) (by simp; omega) (by omega) (by simp; omega) (by simp; omega) (by simp; omega) (by simp; omega) (by simp; omega) (by simp; omega)
    refine Vs (n := O.n) (bytes := 16) (by omega) (by omega) rfl ?_;intro ab k1 gp op U lp;rw [Zdj] at op;have H : ∀ g, Ext g k0 → Ext g k1 := fun g e => Mod.trans e U;simp (config := { maxDischargeDepth := 60 }) [Z.sk, Z.rk, G, H];refine Vs (n := I.n) (bytes := 24) (by omega) (by omega) rfl ?_;intro bo k2 go oo e2 lo;rw [Uo] at oo;have M : ∀ g, Ext g k1 → Ext g k2 := fun g e => Mod.trans e e2;simp (config := { maxDischargeDepth := 60 }) [Z.rk, Z5, G, H, M];refine Zn ?_;intro p k3 gp bp e3;simp [-Yc];rw [Yc];exact aa p k3 (Sl.at bi I.n I.n) (Sl.at bo I.n I.n) (Sl.at ab O.n O.n) (((e0.trans U).trans e2).trans e3) bp (oi.ext' ((U.trans e2).trans e3)) (oo.ext' e3) (op.ext' (e2.trans e3)) rfl rfl rfl (by simp; omega) (by simp; omega) (by simp; omega) (by omega) (by simp; omega) (by simp; omega) (by simp; omega) (by simp; omega) (by simp; omega) (by simp; omega)
  refine ⟨?_, ?_⟩
  · refine Vs (n := I.n) (bytes := 24) (by omega) (by omega) rfl ?_;intro bo k0 go oo e0 lo;rw [Uo] at oo;have G : ∀ g, Ext g ac → Ext g k0 := fun g e => Mod.trans e e0;simp (config := { maxDischargeDepth := 60 }) [Z.sk, Z.rk, G];refine ⟨?_, ?_⟩
    · refine Vs (n := I.n) (bytes := 24) (by omega) (by omega) rfl ?_;intro bi k1 gi oi U li;rw [Uo] at oi;have H : ∀ g, Ext g k0 → Ext g k1 := fun g e => Mod.trans e U;simp (config := { maxDischargeDepth := 60 }) [Z.sk, Z.rk, G, H];refine Vs (n := O.n) (bytes := 16) (by omega) (by omega) rfl ?_;intro ab k2 gp op e2 lp;rw [Zdj] at op;have M : ∀ g, Ext g k1 → Ext g k2 := fun g e => Mod.trans e e2;simp (config := { maxDischargeDepth := 60 }) [Z.rk, Z5, G, H, M];refine Zn ?_;intro p k3 gp bp e3;simp [-Yc];rw [Yc];exact aa p k3 (Sl.at bi I.n I.n) (Sl.at bo I.n I.n) (Sl.at ab O.n O.n) (((e0.trans U).trans e2).trans e3) bp (oi.ext' (e2.trans e3)) (oo.ext' ((U.trans e2).trans e3)) (op.ext' e3) rfl rfl rfl (by simp; omega) (by simp; omega) (by simp; omega) (by omega) (by simp; omega) (by simp; omega) (by simp; omega) (by simp; omega) (by simp; omega) (by simp; omega)
    refine Vs (n := O.n) (bytes := 16) (by omega) (by omega) rfl ?_;intro ab k1 gp op U lp;rw [Zdj] at op;have H : ∀ g, Ext g k0 → Ext g k1 := fun g e => Mod.trans e U;simp (config := { maxDischargeDepth := 60 }) [Z.sk, Z.rk, G, H];refine Vs (n := I.n) (bytes := 24) (by omega) (by omega) rfl ?_;intro bi k2 gi oi e2 li;rw [Uo] at oi;have M : ∀ g, Ext g k1 → Ext g k2 := fun g e => Mod.trans e e2;simp (config := { maxDischargeDepth := 60 }) [Z.rk, Z5, G, H, M];refine Zn ?_;intro p k3 gp bp e3;simp [-Yc];rw [Yc];exact aa p k3 (Sl.at bi I.n I.n) (Sl.at bo I.n I.n) (Sl.at ab O.n O.n) (((e0.trans U).trans e2).trans e3) bp (oi.ext' e3) (oo.ext' ((U.trans e2).trans e3)) (op.ext' (e2.trans e3)) rfl rfl rfl (by simp; omega) (by simp; omega) (by simp; omega) (by omega) (by simp; omega) (by simp; omega) (by simp; omega) (by simp; omega) (by simp; omega) (by simp; omega)
  refine Vs (n := O.n) (bytes := 16) (by omega) (by omega) rfl ?_;intro ab k0 gp op e0 lp;rw [Zdj] at op;have G : ∀ g, Ext g ac → Ext g k0 := fun g e => Mod.trans e e0;simp (config := { maxDischargeDepth := 60 }) [Z.sk, Z.rk, G];refine ⟨?_, ?_⟩
  · refine Vs (n := I.n) (bytes := 24) (by omega) (by omega) rfl ?_;intro bi k1 gi oi U li;rw [Uo] at oi;have H : ∀ g, Ext g k0 → Ext g k1 := fun g e => Mod.trans e U;simp (config := { maxDischargeDepth := 60 }) [Z.sk, Z.rk, G, H];refine Vs (n := I.n) (bytes := 24) (by omega) (by omega) rfl ?_;intro bo k2 go oo e2 lo;rw [Uo] at oo;have M : ∀ g, Ext g k1 → Ext g k2 := fun g e => Mod.trans e e2;simp (config := { maxDischargeDepth := 60 }) [Z.rk, Z5, G, H, M];refine Zn ?_;intro p k3 gp bp e3;simp [-Yc];rw [Yc];exact aa p k3 (Sl.at bi I.n I.n) (Sl.at bo I.n I.n) (Sl.at ab O.n O.n) (((e0.trans U).trans e2).trans e3) bp (oi.ext' (e2.trans e3)) (oo.ext' e3) (op.ext' ((U.trans e2).trans e3)) rfl rfl rfl (by simp; omega) (by simp; omega) (by simp; omega) (by omega) (by simp; omega) (by simp; omega) (by simp; omega) (by simp; omega) (by simp; omega) (by simp; omega)
  refine Vs (n := I.n) (bytes := 24) (by omega) (by omega) rfl ?_;intro bo k1 go oo U lo;rw [Uo] at oo;have H : ∀ g, Ext g k0 → Ext g k1 := fun g e => Mod.trans e U;simp (config := { maxDischargeDepth := 60 }) [Z.sk, Z.rk, G, H];refine Vs (n := I.n) (bytes := 24) (by omega) (by omega) rfl ?_;intro bi k2 gi oi e2 li;rw [Uo] at oi;have M : ∀ g, Ext g k1 → Ext g k2 := fun g e => Mod.trans e e2;simp (config := { maxDischargeDepth := 60 }) [Z.rk, Z5, G, H, M];refine Zn ?_;intro p k3 gp bp e3;simp [-Yc];rw [Yc];exact aa p k3 (Sl.at bi I.n I.n) (Sl.at bo I.n I.n) (Sl.at ab O.n O.n) (((e0.trans U).trans e2).trans e3) bp (oi.ext' e3) (oo.ext' (e2.trans e3)) (op.ext' ((U.trans e2).trans e3)) rfl rfl rfl (by simp; omega) (by simp; omega) (by simp; omega) (by omega) (by simp; omega) (by simp; omega) (by simp; omega) (by simp; omega) (by simp; omega) (by simp; omega)
end
abbrev Zc8:ByteArray:=⟨#[103,114,97,112,104]⟩
def Zdg (N:Zr) (a:Int):Int:=if Yf N.as.length a then (Zp N.as a.toNat).a else -1
def toV (N:Zr) (a:Int):Int:=if Yf N.as.length a then (Zp N.as a.toNat).b else -1
def Zu (N:Zr) (a:Int):Int:=if Yf N.as.length a then (Zp N.as a.toNat).c else Zec
def Zig (N:Zr) (a w:Int):Wr:=if Yf N.as.length a=false then Vr Zc8 a 5 else if Yt w=false then Vr Zc8 a 8 else Qg
def setN (N:Zr) (a w:Int):Zr:=if (Zig N a w).2=0 then { N with as:=N.as.set a.toNat ⟨(Zp N.as a.toNat).a,(Zp N.as a.toNat).b,w⟩ } else N
def Zcv (N:Zr) (t i k c:Int):Wr:=if Yf N.ts.length t=false then Vr Zc8 t 5 else Wx Zc8 t (Qw (Zz N.ts t.toNat).i (Zz N.ts t.toNat).o (Zz N.ts t.toNat).cs i k c)
def Zh2 (t:Tab) (i k c:Int):Tab:=⟨t.i,t.o,t.cs.set (i * t.o+k).toNat c⟩
def Zbk (N:Zr) (t i k c:Int):Zr:=if (Zcv N t i k c).2=0 then { N with ts:=N.ts.set t.toNat (Zh2 (Zz N.ts t.toNat) i k c) } else N
section
variable {Y:Sys} {h:Zk} {p:Nat} {N:Zr} {S:Zf}
theorem Zbz (H:Y.Has 211 Y211) (g:Xc h p N S) {a:Int} {R:Ze} (r:R (.bool (Yf N.as.length a)) h):Zv Y 211 [.pointer (some ⟨p,0,none⟩),.int .i64 a] h R:=by
 obtain ⟨G,s2,I,J,M,O,P,Q,g⟩:=g;have D:=g.netH.ra.len;rw [D] at r;refine .of_has H rfl ?_;by_cases c:0<=a
 ·have:Yf s2.n a=decide (a<s2.n):=by simp [Yf,c]
  rw [this] at r;simp [Y211,Xm.wp,g.blk.hc,c];exact r
 have:Yf s2.n a=false:=by simp [Yf,c]
 rw [this] at r;simp [Y211,Xm.wp,c];exact r
theorem Zxa (H:Y.Has 244 Y244) (g:Xc h p N S) {a:Int} {R:Ze} (r:R (.bool (Yf N.vs.length a)) h):Zv Y 244 [.pointer (some ⟨p,0,none⟩),.int .i64 a] h R:=by
 obtain ⟨D,s2,I,J,M,O,P,Q,g⟩:=g;have G:=g.netH.rv.len;rw [G] at r;refine .of_has H rfl ?_;by_cases c:0<=a
 ·have:Yf D.n a=decide (a<D.n):=by simp [Yf,c]
  rw [this] at r;simp [Y244,Xm.wp,g.blk.hc,c];exact r
 have:Yf D.n a=false:=by simp [Yf,c]
 rw [this] at r;simp [Y244,Xm.wp,c];exact r
theorem Zjd (H:Y.Has 189 Y189) (g:Xc h p N S) {R:Ze} (r:R (.int .i64 N.vs.length) h):Zv Y 189 [.pointer (some ⟨p,0,none⟩)] h R:=by
 obtain ⟨D,s2,G,I,J,M,P,Q,g⟩:=g;rw [g.netH.rv.len] at r;refine .of_has H rfl ?_;simp [Y189,Xm.wp,g.blk.hc];exact r
theorem Zat (H:Y.Has 209 Y209) (g:Xc h p N S) {R:Ze} (r:R (.int .i64 N.as.length) h):Zv Y 209 [.pointer (some ⟨p,0,none⟩)] h R:=by
 obtain ⟨D,s2,G,I,J,M,P,Q,g⟩:=g;rw [g.netH.ra.len] at r;refine .of_has H rfl ?_;simp [Y209,Xm.wp,g.blk.hc];exact r
theorem Zap (H:Y.Has 193 Y193) (HA:Y.Has 211 Y211) (g:Xc h p N S) {a:Int} {R:Ze} (r:R (.int .i64 (Zdg N a)) h):Zv Y 193 [.pointer (some ⟨p,0,none⟩),.int .i64 a] h R:=by
 refine .of_has H rfl ?_;simp [Y193,Xm.wp];refine Zbz HA g ?_
 cases c:Yf N.as.length a with
 | false =>
  simp [Zdg,c] at r;simp;exact r
 | true =>
  obtain ⟨G,s2,I,J,M,O,P,Q,g⟩:=g;have U:=g.netH.ra.len;simp [Zdg,c] at r;simp only [Yf,decide_eq_true_eq] at c;have D:a<s2.n:=by omega
  simp [g.blk.hc,Zm g.netH.ra.ok,c.1,D,g.netH.ra.v0 a.toNat (by omega)];exact r
theorem Z2 (H:Y.Has 192 Y192) (HA:Y.Has 211 Y211) (g:Xc h p N S) {a:Int} {R:Ze} (r:R (.int .i64 (toV N a)) h):Zv Y 192 [.pointer (some ⟨p,0,none⟩),.int .i64 a] h R:=by
 refine .of_has H rfl ?_;simp [Y192,Xm.wp];refine Zbz HA g ?_
 cases c:Yf N.as.length a with
 | false =>
  simp [toV,c] at r;simp;exact r
 | true =>
  obtain ⟨G,s2,I,J,M,O,P,Q,g⟩:=g;have U:=g.netH.ra.len;simp [toV,c] at r;simp only [Yf,decide_eq_true_eq] at c;have D:a<s2.n:=by omega
  simp [g.blk.hc,Zm g.netH.ra.ok,c.1,D,g.netH.ra.v1 a.toNat (by omega)];exact r
theorem Z8 (H:Y.Has 233 Y233) (HA:Y.Has 211 Y211) (g:Xc h p N S) {a:Int} {R:Ze} (r:R (.int .i64 (Zu N a)) h):Zv Y 233 [.pointer (some ⟨p,0,none⟩),.int .i64 a] h R:=by
 refine .of_has H rfl ?_;simp [Y233,Xm.wp];refine Zbz HA g ?_
 cases c:Yf N.as.length a with
 | false =>
  simp [Zu,c,Zec] at r;simp;exact r
 | true =>
  obtain ⟨G,s2,I,J,M,O,P,Q,g⟩:=g;have U:=g.netH.ra.len;simp [Zu,c] at r;simp only [Yf,decide_eq_true_eq] at c;have D:a<s2.n:=by omega
  simp [g.blk.hc,Zm g.netH.ra.ok,c.1,D,g.netH.ra.v2 a.toNat (by omega)];exact r
theorem Zgh (H:Y.Has 239 Y239) (HV:Y.Has 244 Y244) (HC:Y.Has 245 Y245) (g:Xc h p N S) (ba:N.as.length<=20000) {v:Int} {R:Ze}
  (r:∀ h' s,Ext h h'->Ym h' 1 s (Zq (if Yf N.vs.length v then Qd N.as v else []))->(s.nl=false->h.size<=s.b)->R s.v h'):Zv Y 239 [.pointer (some ⟨p,0,none⟩),.int .i64 v] h R:=by
 refine .of_has H rfl ?_;simp [Y239,Xm.wp];refine Zxa HV g ?_
 cases c:Yf N.vs.length v with
 | false =>
  simp [c] at r;simp;exact r h Sl.nil (Mod.refl h) Ym.nil (fun h=>(by cases h))
 | true =>
  obtain ⟨U,s2,V,X,D,Z,P,Q,g⟩:=g;simp [c] at r;simp only [Yf,decide_eq_true_eq] at c;have I:D.n=N.vs.length:=by have:=g.oo.1;simp at this;omega
  have G:v.toNat<N.vs.length:=by omega
  have J:v<D.n:=by omega
  have hq:=g.oq true v.toNat G;have hv:((v.toNat:Nat):Int)=v:=by omega
  have M:=hq.1;rw [Vm,ioO,if_pos rfl,hv] at M;have:=Zna (as:=N.as) (v:=v);simp [g.blk.hc,Zm g.oo.ok,c.1,J,g.oo.cell (Zdm G)];refine Ze7 HC hq.row64 (by omega) ?_;intro h1 s O o1 f1;simp only [ioO,if_true,hv] at o1;simp;exact r h1 s O o1 f1
theorem Zc3.plc {H s2 I J M r:Sl} {P:List (Tab × Sl)} {Q:Bool->Nat->Sl} (g:Zc3 h p N S H s2 I J M r P Q) {a:Nat} (D:a<N.as.length) :
  hc h r.b (r.o+a * 2)=some (.int .i64 (cntB N.as a a:Nat))/\hc h r.b (r.o+a * 2+1)=some (.int .i64 (cntA N.as a a:Nat)):=by
 obtain ⟨h1,G⟩:=Zgz (l:=Rm.plc N.as N.as.length) (i:=a) (by simpa using D);rw [Z92 D] at h1 G;exact ⟨g.op.cell h1,g.op.cell G⟩
theorem Zc3.np {D s2 G H I r:Sl} {P:List (Tab × Sl)} {Q:Bool->Nat->Sl} (g:Zc3 h p N S D s2 G H I r P Q):r.n=N.as.length:=by
 have:=g.op.1;rw [U3,Zq2] at this;omega
theorem Zgu (H:Y.Has 231 Y231) (HA:Y.Has 211 Y211) (T:Zco Y) (g:Xc h p N S) (ok:Yl N) {a b:Int} {R:Ze}
  (I:∀ h',Ext h h'->R (.int .i64 (Yr N a b)) h'):Zv Y 231 [.pointer (some ⟨p,0,none⟩),.int .i64 a,.int .i64 b] h R:=by
 refine .of_has H rfl ?_;simp [Y231,Xm.wp];refine Zbz HA g ?_
 cases c1:Yf N.as.length a with
 | false =>
  rw [Yr,if_pos (.inl c1)] at I;simp;exact I _ (Mod.refl h)
 | true =>
 simp;refine Zbz HA g ?_
 cases c2:Yf N.as.length b with
 | false =>
  rw [Yr,if_pos (.inr c2)] at I;simp;exact I _ (Mod.refl h)
 | true =>
 obtain ⟨s1,s2,s3,si,so,sp,P,Q,g⟩:=g;have r:=g.netH;have lv:=r.rv.len;have la:=r.ra.len;have lt:=r.rt.len;have hn:=g.np;simp only [Yf,decide_eq_true_eq] at c1 c2;obtain ⟨a,rfl⟩:∃ n:Nat,a=n:=⟨a.toNat,by omega⟩
 obtain ⟨b,rfl⟩:∃ n:Nat,b=n:=⟨b.toNat,by omega⟩
 have U:a<N.as.length:=by omega
 have hb:b<N.as.length:=by omega
 have X:(a:Int)<s2.n:=by omega
 have Z:(b:Int)<s2.n:=by omega
 have ae:(a:Int)<sp.n:=by omega
 have af:(b:Int)<sp.n:=by omega
 rw [Zrp U hb] at I;have G:=g.blk;by_cases c3:(Zp N.as a).b=(Zp N.as b).a;rotate_left
 ·have O:((Zp N.as a).b=(Zp N.as b).a)=False:=by simp [c3]
  rw [Ze8] at I;simp only [Xf1] at I;rw [if_pos (.inl c3)] at I;simp [G.hc,Zm r.ra.ok,X,Z,r.ra.v0 b hb,r.ra.v1 a U,O];exact I _ (Mod.refl h)
 have hx:Ze8 N a b (cntB N.as a a) (cntA N.as b b)=atV (Zz N.ts (Zp N.vs (Zp N.as a).b.toNat).c.toNat).i (Zz N.ts (Zp N.vs (Zp N.as a).b.toNat).c.toNat).o (Zz N.ts (Zp N.vs (Zp N.as a).b.toNat).c.toNat).cs (cntB N.as a a) (cntA N.as b b):=by
  have h1:=(ok.arcs a U).2;have hv:(Zp N.as a).b.toNat<N.vs.length:=by simp only [Yf,decide_eq_true_eq] at h1;omega
  have h2:=ok.vt _ hv;rw [Ze8];simp only [Xf1];rw [if_neg (by rw [h1];simp [c3]),if_neg (by simp [h2])]
 rw [hx] at I;clear hx;have g1:=(ok.arcs a U).2;have cA:=r.ra.v1 a U;have cB:=r.ra.v0 b hb;generalize hv:(Zp N.as a).b=v at *
 have O:(v=(Zp N.as b).a)=True:=by simp [c3]
 simp only [Yf,decide_eq_true_eq] at g1;have v0:0<=v:=g1.1;have v1:v<s1.n:=by omega
 have v2:v.toNat<N.vs.length:=by omega
 have g2:=ok.vt _ v2;have aa:=r.rv.rd v2;generalize ht:(Zp N.vs v.toNat).c=t at *
 simp only [Yf,decide_eq_true_eq] at g2;have t0:0<=t:=g2.1;have t1:t<s3.n:=by omega
 have t2:t.toNat<N.ts.length:=by omega
 obtain ⟨u,ag,_,ru⟩:=r.rt.rd (i:=t.toNat) t2;obtain ⟨p1,_⟩:=g.plc U;obtain ⟨_,p2⟩:=g.plc hb;simp [G.hc,Zm r.ra.ok,Zm r.rv.ok,X,Z,cA,cB,O,v0,v1,aa];refine Xh (vs:=#[.int .i64 (Zp N.vs v.toNat).a,.int .i64 (Zp N.vs v.toNat).b,.int .i64 t]) rfl rfl (by simp) ?_;intro D ak gD ah J ab;have k:=fun (b' o:Nat) (x:Value) (hx:hc h b' o=some x)=>J.hc hx (fun h=>h);have G':=G.ext J;have ac:=J.hc cA (fun h=>h);have M:=J.rd aa (fun h=>h);simp [G'.hc,ac,M];refine ab _ ?_;intro hD bD V;clear ab ah J k G' ac M;have G2:=G.ext V;have ad:=V.rd ag (fun h=>h);have ai:=V.hc p1 (fun h=>h);have aj:=V.hc p2 (fun h=>h);simp [G2.hc,bD.hc,Zm r.rt.ok,t0,t1,ad,Zm g.op.ok,ae,af,ai,aj];refine Zx4 T (ru.ext V) ?_;intro h2 e2;simp;exact I _ (V.trans e2)
theorem Zer (H:Y.Has 243 Y243) {a c:Int} (hc:c≠0) {R:Ze} (r:∀ v h',Ext h h'->W9 Y h.size h' (Vr Zc8 a c) v->R v h') :
  Zv Y 243 [.int .i64 a,.iface (Y.tid 49) (.int .i64 c)] h R:=by
 refine .of_has H rfl ?_;simp [Y243,Xm.wp];refine Zn ?_;intro b h1 G B D;simp;exact r _ _ D (fun h' m=>Zfc (m.blk B (by omega)) hc)
theorem Zq7 (H:Y.Has 243 Y243) {a:Int} {w:Wr} {v:Value} {lo:Nat} (G:lo<=h.size) (hv:W9 Y lo h w v) (h0:w.2≠0) {R:Ze}
  (I:∀ v h',Ext h h'->W9 Y lo h' (Wx Zc8 a w) v->R v h') :
  Zv Y 243 [.int .i64 a,v] h R:=by
 obtain ⟨t,u,rfl⟩:=hv.here.iface h0;refine .of_has H rfl ?_;simp [Y243,Xm.wp];refine Zn ?_;intro b h1 J B D;simp;refine I _ _ D (fun h' m=>?_);have hb:=m.blk B (by omega);have r:=hv.ext D h' m;rcases r with ⟨q,_⟩ | ⟨_,r⟩
 ·exact absurd q h0
 unfold Wx;rw [if_neg h0];exact .inr ⟨h0,b,_,rfl,by rw [hb.hc];rfl,by rw [hb.hc];rfl,by rw [hb.hc];rfl,r⟩
theorem Z3m {lo:Nat} {s:Sl} {cs:Zb} (f:Zbb lo (fun h=>Yd h s cs) h) (r:cs≠[]):lo<=s.b:=by
 rcases Xf0 s.b lo with q | q
 ·have h0:=f.here.val 0 (List.length_pos_iff.2 r);have h1:=(f (Vd h s.b (s.o+0) .nilIface) (Mod.set q)).val 0 (List.length_pos_iff.2 r);rw [Z6p h0] at h1
  cases h1
 exact q
structure Z8v (Y:Sys):Prop where
 arc:Y.Has 211 Y211
 Set:Y.Has 232 Y232
 fault:Y.Has 243 Y243
 W:Y.Has 55 Y55
structure Z4p (Y:Sys):Prop where
 Bend:Y.Has 234 Y234
 fault:Y.Has 243 Y243
 With:Y.Has 38 Y38
 C64:Y.Has 58 Y58
theorem Zqt {as:List Xe} {a:Nat} {w:Int} {x:Bool} {v:Nat} (D:a<as.length):ioO x (as.set a ⟨(Zp as a).a,(Zp as a).b,w⟩) v=ioO x as v:=by
 have key:∀ (p:Xe->Bool) (l:List Xe) (k a:Nat),a<l.length->p ⟨(Zp l a).a,(Zp l a).b,w⟩=p (Zp l a)->Ud p k (l.set a ⟨(Zp l a).a,(Zp l a).b,w⟩)=Ud p k l:=by
  intro p l
  induction l with
  | nil=>intro k a D;simp at D
  | cons t r ih =>
   intro k a D hp
   cases a with
   | zero =>
    have e:Zp (t::r) 0=t:=by simp [Zp]
    rw [e] at hp ⊢;rw [List.set_cons_zero,Ud,Ud,hp]
   | succ a =>
    have e:Zp (t::r) (a+1)=Zp r a:=by simp [Zp]
    rw [e] at hp ⊢;rw [Xiw,Ud,Ud,ih (k+1) a (by simpa using D) hp]
 cases x
 ·exact key _ _ _ _ D rfl
 exact key _ _ _ _ D rfl
theorem Qz {as:List Xe} {a j:Nat} {w:Int} (r:a<as.length):(Zp (as.set a ⟨(Zp as a).a,(Zp as a).b,w⟩) j).a=(Zp as j).a/\(Zp (as.set a ⟨(Zp as a).a,(Zp as a).b,w⟩) j).b=(Zp as j).b:=by
 rw [Zfl r]
 split
 ·rename_i e;rw [e];exact ⟨rfl,rfl⟩
 exact ⟨rfl,rfl⟩
theorem Zyf {as:List Xe} {a:Nat} {w:Int} (r:a<as.length) (j n:Nat) (H:n<=as.length):cntB (as.set a ⟨(Zp as a).a,(Zp as a).b,w⟩) j n=cntB as j n/\cntA (as.set a ⟨(Zp as a).a,(Zp as a).b,w⟩) j n=cntA as j n:=by
 induction n with
 | zero=>simp [cntB,cntA]
 | succ n ih =>
  obtain ⟨D,G⟩:=ih (by omega);rw [Zol (by simp;omega),Zol (by omega),Znk (by simp;omega),Znk (by omega),D,G,(Qz r).1,(Qz r).2,(Qz r).1,(Qz r).2];exact ⟨rfl,rfl⟩
theorem Z7y {as:List Xe} {a:Nat} {w:Int} (r:a<as.length):plc (as.set a ⟨(Zp as a).a,(Zp as a).b,w⟩) as.length=plc as as.length:=by
 apply Xgb (by simp);intro j h1 D;have G:j<as.length:=by simpa using D
 simp [plc,G,(Zyf (w:=w) r j j (by omega)).1,(Zyf (w:=w) r j j (by omega)).2]
theorem Z0g (G : Z8v Y) (g : Xc h p N S) {a w : Int} {R : Value → Zk → Prop}
    (O : ∀ v h', Mod S h h' → Xc h' p (setN N a w) S → W9 Y h.size h' (Zig N a w) v → R v h') : Zv Y 232 [.pointer (some ⟨p, 0, none⟩), .int .i64 a, .int .i64 w] h R := by
  refine .of_has G.Set rfl ?_;simp [Y232, Xm.wp];refine Zbz G.arc g ?_
  cases c1 : Yf N.as.length a with
  | false =>
    simp;refine Zer G.fault (by omega) ?_;intro v h1 M hv;have I : Zig N a w = Vr Zc8 a 5 := by simp [Zig, c1]
    have r : setN N a w = N := by simp [setN, I, Vr]
    simp;exact O v h1 (M.mono fun _ _ h => h.elim) (by rw [r]; exact g.ext M) (by rw [I]; exact hv)
  | true =>
  simp;refine Q0 G.W ?_
  cases X : Yt w with
  | false =>
    simp;refine Zer G.fault (by omega) ?_;intro v h1 M hv;have I : Zig N a w = Vr Zc8 a 8 := by simp [Zig, c1, X]
    have r : setN N a w = N := by simp [setN, I, Vr]
    simp;exact O v h1 (M.mono fun _ _ h => h.elim) (by rw [r]; exact g.ext M) (by rw [I]; exact hv)
  | true =>
  have I : Zig N a w = Qg := by simp [Zig, c1, X]
  have r : setN N a w = { N with as := N.as.set a.toNat ⟨(Zp N.as a.toNat).a, (Zp N.as a.toNat).b, w⟩ } := by simp [setN, I, Qg]
  obtain ⟨Z, s2, s3, si, so, sp, P, Q, g⟩ := g;have la := g.netH.ra.len;simp only [Yf, decide_eq_true_eq] at c1;obtain ⟨a, rfl⟩ : ∃ n : Nat, a = n := ⟨a.toNat, by omega⟩
  have U : a < N.as.length := by omega
  have a1 : (a : Int) < s2.n := by omega
  simp [g.blk.hc, Zm g.netH.ra.ok, a1];rw [Xg1];refine stN g.o2 (k := a * 3 + 2) (by rw [Yk, Xf2]; omega) ?_;intro h1 o2 D;rw [(Zyk U).2.2] at o2;have H : s2.nl = false := by
    obtain ⟨aa, hb, _, H⟩ := g.o2.blk (i := 0) (by rw [Yk, Xf2]; omega);exact H
  obtain ⟨e2S, e2n⟩ := g.e2 H;simp;refine O _ h1 (D.mono fun j _ hj => by rw [hj]; exact e2S) ?_ (by rw [I]; exact W9.ok);rw [r];simp only [Xf1];have J : ∀ b, Zjf p Z si so sp Q N.vs.length P b → b ≠ s2.b := fun b hb e => e2n (e ▸ hb);refine ⟨Z, s2, s3, si, so, sp, P, Q, ?_⟩
  exact { blk := D.blk g.blk (J _ (.inl rfl))
          o1 := g.o1.mod D fun r => J _ (.inr (.inl ⟨r, rfl⟩))
          o2 := o2
          o3 := g.o3.mod D fun r => (g.d23 H r).symm
          hP := g.hP
          row := fun q hq => (g.row q hq).mod D fun V => J _ (.inr (.inr (.inr (.inr (.inr (.inr ⟨q, hq, V, rfl⟩))))))
          oi := g.oi.mod D fun _ => J _ (.inr (.inr (.inl rfl)))
          oo := g.oo.mod D fun _ => J _ (.inr (.inr (.inr (.inl rfl))))
          op := by
            have := g.op.mod D fun _ => J _ (.inr (.inr (.inr (.inr (.inl rfl)))));simp only [List.length_set];rw [Z7y U];exact this
          oq := fun x v hv => by
            simp only;rw [Zqt U];exact (g.oq x v hv).mod D fun r => J _ (.inr (.inr (.inr (.inr (.inr (.inl ⟨x, v, hv, r, rfl⟩))))))
          inS := g.inS
          e2 := g.e2
          e3 := g.e3
          d23 := g.d23
          lt := fun b hb => Xib (g.lt b hb) D.size }
theorem Zuf (G : Z4p Y) (T : Zco Y) (g : Xc h p N S) {t i k c : Int} {R : Value → Zk → Prop}
    (hr : ∀ v h' (S' : Nat → Prop), Mod S h h' → (∀ b, S' b → S b ∨ h.size ≤ b) → (∀ b, S b → S' b) → Xc h' p (Zbk N t i k c) S' → W9 Y h.size h' (Zcv N t i k c) v → R v h') :
    Zv Y 234 [.pointer (some ⟨p, 0, none⟩), .int .i64 t, .int .i64 i, .int .i64 k, .int .i64 c] h R := by
  refine .of_has G.Bend rfl ?_;have g0 := g;obtain ⟨s1, s2, s3, si, so, sp, P, Q, g⟩ := g;have lt := g.netH.rt.len;have ac : Yf N.ts.length t = false → ∀ K : Value → Zk → Prop, (∀ v h1, R v h1 → K v h1) → Zv Y 243 [.int .i64 t, .iface (Y.tid 49) (.int .i64 5)] h K := by
    intro hb K hK;refine Zer G.fault (by omega) ?_;intro v h1 e1 hv;have hw : Zcv N t i k c = Vr Zc8 t 5 := by simp [Zcv, hb]
    have H : Zbk N t i k c = N := by simp [Zbk, hw, Vr]
    exact hK v h1 (hr v h1 S (e1.mono fun _ _ h => h.elim) (fun b hb => .inl hb) (fun b hb => hb) (by rw [H]; exact g0.ext e1) (by rw [hw]; exact hv))
  by_cases c1 : t < 0
  · simp [Y234, Xm.wp, c1];refine ac (by simp [Yf]; omega) _ ?_;intro v h1 h2;simp;exact h2
  by_cases c2 : (s3.n : Int) ≤ t
  · simp [Y234, Xm.wp, c1, g.blk.hc, c2];refine ac (by simp [Yf]; omega) _ ?_;intro v h1 h2;simp;exact h2
  obtain ⟨t, rfl⟩ : ∃ n : Nat, t = n := ⟨t.toNat, by omega⟩
  have ht : t < N.ts.length := by omega
  have t1 : (t : Int) < s3.n := by omega
  have ag : Yf N.ts.length t = true := by simp [Yf]; omega
  obtain ⟨u, ah, _, ru⟩ := g.netH.rt.rd (i := t) ht;have ai : ¬ s3.n ≤ t := by omega
  simp [Y234, Xm.wp, g.blk.hc, ai, t1, Zm g.netH.rt.ok, ah];refine Zy9 G.With G.C64 T ru ?_;intro h1 v e1 hv;obtain ⟨i', o', V, ao, ue, rfl, aj, ak, aa⟩ := hv;have ab : Zcv N t i k c = Wx Zc8 t (Qw (Zz N.ts t).i (Zz N.ts t).o (Zz N.ts t).cs i k c) := by simp [Zcv, ag]
  simp [Zfd];refine Xh (vs := #[.int .i64 i', .int .i64 o', V.v]) rfl rfl (by simp) ?_;intro D ap gD al am ad;simp;refine ad _ ?_;intro hD bD eD;clear ad al am;have e2 := e1.trans eD;have X := ak.ext eD;have I := aj.ext eD;rcases aa with ⟨hz, rfl, rfl, rfl⟩ | ⟨hz, rfl, rfl, rfl, rfl⟩
  rotate_left
  · obtain ⟨te, uu, rfl⟩ := I.here.iface hz;simp;refine Zq7 G.fault (lo := h.size) e2.size I hz ?_;intro v h3 e3 hv;have an : (Zcv N t i k c).2 ≠ 0 := by rw [ab]; exact Zz7 hz
    have H : Zbk N t i k c = N := by simp [Zbk, an]
    simp;exact hr v h3 S ((e2.trans e3).mono fun _ _ h => h.elim) (fun b hb => .inl hb) (fun b hb => hb) (by rw [H]; exact g0.ext (e2.trans e3)) (by rw [ab]; exact hv)
  have := I.here.nil hz;subst this;have ae : Zcv N t i k c = Qg := by rw [ab]; unfold Wx; rw [if_pos hz]
  have H : Zbk N t i k c = { N with ts := N.ts.set t (Zh2 (Zz N.ts t) i k c) } := by simp [Zbk, ae, Qg]
  have g2 := g.mod e2 (fun b hb h => h);simp [g2.blk.hc, Yj bD, Zm g2.netH.rt.ok, t1];have hP : P.length = N.ts.length := by rw [← g.hP]; simp
  refine st3 g2.o3 (by simp; omega) rfl rfl (by simp) ?_;intro h4 o4 J;have z2 := e2.size;have z4 := J.size;have O : s3.nl = false := by
    obtain ⟨aq, hb, _, O⟩ := g.o3.blk (i := 0) (by rw [Yk, Xf2]; omega);exact O
  obtain ⟨e3S, e3n⟩ := g.e3 O;have nr : ∀ b, Zjf p s1 si so sp Q N.vs.length P b → b ≠ s3.b := fun b hb e => e3n (e ▸ hb);have l3 := g.lt _ e3S;have af := X h4 (J.mono fun j _ hj => by omega);have U : (Zz N.ts t).cs.set (i * (Zz N.ts t).o + k).toNat c ≠ [] → h.size ≤ V.b := Z3m X;have ar : t < P.length := by omega
  have eP : (P.map X5).set t (.int .i64 (Zz N.ts t).i, .int .i64 (Zz N.ts t).o, V.v) = (P.set t (Zh2 (Zz N.ts t) i k c, V)).map X5 := by rw [Xg2]; rfl
  rw [eP] at o4;simp;have Z : ∀ q ∈ P.set t (Zh2 (Zz N.ts t) i k c, V), q ∈ P ∨ q = (Zh2 (Zz N.ts t) i k c, V) := fun q hq => Zu5 hq;have r : ∀ b, Zjf p s1 si so sp Q N.vs.length (P.set t (Zh2 (Zz N.ts t) i k c, V)) b → Zjf p s1 si so sp Q N.vs.length P b ∨ (h.size ≤ b ∧ b < h4.size) := by
    intro b hb;rcases hb with hb | hb | hb | hb | hb | hb | ⟨q, hq, M, hb⟩
    · exact .inl (.inl hb)
    · exact .inl (.inr (.inl hb))
    · exact .inl (.inr (.inr (.inl hb)))
    · exact .inl (.inr (.inr (.inr (.inl hb))))
    · exact .inl (.inr (.inr (.inr (.inr (.inl hb)))))
    · exact .inl (.inr (.inr (.inr (.inr (.inr (.inl hb))))))
    rcases Z q hq with g' | g'
    · exact .inl (.inr (.inr (.inr (.inr (.inr (.inr ⟨q, g', M, hb⟩))))))
    subst g';right;subst hb;exact ⟨U M, af.lt M⟩
  refine hr _ h4 (fun b => S b ∨ (h.size ≤ b ∧ b < h4.size)) ?_ (fun b hb => hb.imp_right fun h => h.1) (fun b hb => .inl hb) ?_ (by rw [ae]; exact W9.ok)
  · exact (e2.mono fun _ _ h => h.elim).trans (J.mono fun j _ hj => by rw [hj]; exact e3S)
  rw [H];refine ⟨s1, s2, s3, si, so, sp, P.set t (Zh2 (Zz N.ts t) i k c, V), Q, ?_⟩;have lS := g.lt
  exact { blk := J.blk g2.blk (nr _ (.inl rfl))
          o1 := g2.o1.mod J fun H => nr _ (.inr (.inl ⟨H, rfl⟩))
          o2 := g2.o2.mod J fun H => g.d23 H O
          o3 := o4
          hP := by rw [Xg2, g.hP]
          row := fun q hq => by
            rcases Z q hq with g' | g'
            · exact (g2.row q g').mod J fun M => nr _ (.inr (.inr (.inr (.inr (.inr (.inr ⟨q, g', M, rfl⟩))))))
            subst g';exact af
          oi := g2.oi.mod J fun _ => nr _ (.inr (.inr (.inl rfl)))
          oo := g2.oo.mod J fun _ => nr _ (.inr (.inr (.inr (.inl rfl))))
          op := g2.op.mod J fun _ => nr _ (.inr (.inr (.inr (.inr (.inl rfl)))))
          oq := fun x v hv => (g2.oq x v hv).mod J fun H => nr _ (.inr (.inr (.inr (.inr (.inr (.inl ⟨x, v, hv, H, rfl⟩))))))
          inS := fun b hb => (r b hb).imp_left (g.inS b)
          e2 := fun H => by
            obtain ⟨a1, a2⟩ := g.e2 H;refine ⟨.inl a1, fun hb => ?_⟩;have := lS _ a1;rcases r _ hb with q | q
            · exact a2 q
            omega
          e3 := fun H => by
            refine ⟨.inl e3S, fun hb => ?_⟩;rcases r _ hb with q | q
            · exact e3n q
            omega
          d23 := g.d23
          lt := fun b hb => by
            rcases hb with q | q
            · have := lS b q; omega
            exact q.2 }
structure Z81 (Y:Sys):Prop where
 New:Y.Has 187 Y187
 build:Y.Has 200 Y200
 Cl:Z6h Y
 N1:Z1o Y
theorem Yl.small {N:Zr} (r:Yl N):Zes N:=by
 refine ⟨by have:=r.bv;omega,by have:=r.ba;omega,by have:=r.bt;omega,fun i D=>?_⟩;obtain ⟨G,H,I,J,M,_,_⟩:=Zg0 (ins:=(Zz N.ts i).i) (outs:=(Zz N.ts i).o) (cs:=(Zz N.ts i).cs) (r.tab i D);have:=(Zh1 ⟨G,H⟩ ⟨I,J⟩).2;omega
theorem Z0z (G:Z81 Y) (T:TurnCk Y) {U V X:Sl} (r:Ut h U V X N) {R:Ze}
  (H:∀ v h',Ext h h'->(Uc N).2≠0->W9 Y h.size h' (Uc N) v->R (.tuple #[.pointer none,v]) h')
  (D:∀ h' p (S:Zf),Ext h h'->(Uc N).2=0->Xc h' p N S->(∀ b,S b->h.size<=b)->R (.tuple #[.pointer (some ⟨p,0,none⟩),.nilIface]) h'):Zv Y 187 [Yy U V X] h R:=by
 refine .of_has G.New rfl ?_;simp [Y187,Xm.wp,Yy];refine Zn ?_;intro B hB gB Z M;simp (maxDischargeDepth:=60) [Z.rk];refine Zsn G.N1 T (r.ext M) ?_;intro v h1 e1 hv;have I:∀ g,Ext g hB->Ext g h1:=fun g e=>Mod.trans e e1;have J:=M.trans e1;have zB:=M.size;by_cases c:(Uc N).2=0;rotate_left
 ·obtain ⟨t,u,rfl⟩:=hv.here.iface c;simp;exact H _ h1 J c (hv.mono zB)
 have:=hv.here.nil c;subst this;have O:=Zi4.1 c;simp (maxDischargeDepth:=60) [Z.rk,I];refine Zja G.Cl (r.ext J) O.small ?_;intro h2 s1 s2 s3 P e2 no;have z1:=J.size;have z2:=e2.size;simp;refine Zvs G.build (lo:=h1.size) no z2 O.small O.arcs ?_;intro h3 p S e3 g hS;simp;exact D h3 p S ((J.trans e2).trans e3) c g (fun b hb=>by have:=hS b hb;omega)
theorem Znc (H:Y.Has 236 Y236) (C:Z6h Y) (g:Xc h p N S) (Z:Zes N) {R:Ze}
  (hr:∀ h' G s2 I,Ext h h'->(∀ r,Mod (fun j=>j<h.size) h' r->Ut r G s2 I N)->R (Yy G s2 I) h'):Zv Y 236 [.pointer (some ⟨p,0,none⟩)] h R:=by
 obtain ⟨G,s2,I,si,so,sp,P,Q,g⟩:=g;refine .of_has H rfl ?_;simp [Y236,Xm.wp];refine Zn ?_;intro B O gB U V;have J:=g.mod V (fun b hb h=>h);have M:rd O p 0 3=some [G.v,s2.v,I.v]:=by
  have:=Zba (h:=O) (b:=p) (l:=[G.v,s2.v,I.v]) (o:=0) fun i v D=>by
   rw [J.blk.hc]
   match i with
   | 0=>simp at D;subst D;rfl
   | 1=>simp at D;subst D;rfl
   | 2=>simp at D;subst D;rfl
   | i+3=>simp at D
  exact this
 simp [M];refine Zja C J.netH Z ?_;intro h2 t1 t2 t3 P' e2 no;have lB:=U.lt;simp [Yy];refine Zs (U.ext e2) rfl rfl (by simp) ?_;intro h3 b3 X;simp;refine Xj rfl b3 rfl ?_;refine hr h3 t1 t2 t3 (Mod.ext (V.trans e2) X (fun j hj=>by omega)) (fun r m=>?_);exact ((no.mod X (fun b hb=>by omega)).mod m (fun b hb=>by omega)).netH
end
section
variable {Y:Sys} {h h':Zk} {Fb:Zf} {s1 s2 s3:Sl} {N:Zr}
theorem Z66 (r : Yl N) {a w : Int} : Yl (setN N a w) := by
  unfold setN
  split
  · rename_i h0;have hc : Yf N.as.length a = true ∧ Yt w = true := by
      unfold Zig at h0
      cases c1 : Yf N.as.length a <;> cases J : Yt w <;> simp_all [Vr, Qg]
    have G : a.toNat < N.as.length := by
      have := hc.1;simp only [Yf, decide_eq_true_eq] at this;omega
    have H : ∀ v, Qs (N.as.set a.toNat ⟨(Zp N.as a.toNat).a, (Zp N.as a.toNat).b, w⟩) v = Qs N.as v ∧ Wz (N.as.set a.toNat ⟨(Zp N.as a.toNat).a, (Zp N.as a.toNat).b, w⟩) v = Wz N.as v := by
      intro v;have h1 := congrArg List.length (Zqt (x := false) (v := v) (w := w) G);have I := congrArg List.length (Zqt (x := true) (v := v) (w := w) G);simp only [ioO, if_true, Xga, if_false, Zng, Zkk] at h1 I;exact ⟨h1, I⟩
    exact { bv := r.bv
            ba := by simpa using r.ba
            bt := r.bt
            tab := r.tab
            vx := r.vx
            vt := r.vt
            arcs := fun i D => by
              have D : i < N.as.length := by simpa using D
              simp only [(Qz G).1, (Qz G).2];exact r.arcs i D
            w := fun i D => by
              have D : i < N.as.length := by simpa using D
              simp only [Zfl G]
              split
              · exact hc.2
              exact r.w i D
            meet := fun i D => by
              simp only [(H i).1, (H i).2];exact r.meet i D }
  exact r
theorem Zrf {cs:Zb} {j:Nat} {c:Int} (h:Wu 0 cs=none) (hc:Yt c=true):Wu 0 (cs.set j c)=none:=by
 have key:∀ (cs:Zb) (k j:Nat),Wu k cs=none->Wu k (cs.set j c)=none:=by
  intro cs
  induction cs with
  | nil=>intro k j h;exact h
  | cons x r ih =>
   intro k j h;rw [Wu] at h
   split at h
   ·rename_i hx
    cases j with
    | zero=>rw [List.set_cons_zero,Wu,if_pos hc];exact h
    | succ j=>rw [Xiw,Wu,if_pos hx];exact ih _ _ h
   cases h
 exact key cs 0 j h
theorem Z3v {t:Tab} {i k c:Int} (h:(Qw t.i t.o t.cs i k c).2=0):(Z3 (Zh2 t i k c)).2=0:=by
 unfold Qw at h
 split at h
 ·simp [Wd] at h
 split at h
 ·simp [Wd] at h
 split at h
 ·simp [Wd] at h
 rename_i hc;have hc:Yt c=true:=by simpa using hc
 obtain ⟨G,H,I,J,r,D,M⟩:=Zg0 h;have hs:Wl t.i t.o=Qg:=by
  unfold Wl;rw [if_neg (by omega),if_neg (by omega)]
 show (Us t.i t.o (t.cs.set (i * t.o+k).toNat c)).2=0;unfold Us;rw [hs,if_neg (by simp [Qg]),if_neg (by simp [r]),Zrf D hc]
 rfl
theorem Z33 (r : Yl N) {t i k c : Int} : Yl (Zbk N t i k c) := by
  unfold Zbk
  split
  · rename_i h0;have h1 : Yf N.ts.length t = true := by
      unfold Zcv at h0
      cases c1 : Yf N.ts.length t
      · simp [c1, Vr] at h0
      rfl
    have G : (Qw (Zz N.ts t.toNat).i (Zz N.ts t.toNat).o (Zz N.ts t.toNat).cs i k c).2 = 0 := by
      unfold Zcv at h0;rw [if_neg (by simp [h1])] at h0;unfold Wx at h0
      split at h0
      · assumption
      exact h0
    have ht : t.toNat < N.ts.length := by
      simp only [Yf, decide_eq_true_eq] at h1;omega
    exact { bv := r.bv
            ba := r.ba
            bt := by simpa using r.bt
            tab := fun j D => by
              have D : j < N.ts.length := by simpa using D
              simp only [Zhz ht]
              split
              · exact Z3v G
              exact r.tab j D
            vx := r.vx
            vt := fun j D => by simpa using r.vt j D
            arcs := r.arcs
            w := r.w
            meet := fun j D => by
              simp only [Zhz ht];have := r.meet j D
              split
              · rename_i e;rw [e] at this;exact this
              exact this }
  exact r
end
end Go.Rm
