import Derived.Test.YtmacmgjnmaajdaaGreatDoorT09
import Derived.Test.YtmacmgjnmaajdaaGreatDoorT06
/- Parts. -/
set_option linter.all false
namespace Go.Rm
structure Zc1(h:Zk)(lo:Nat)(s1 s2 s3:Sl)(P:List (Tab × Sl))(N:Zs):Prop where
 o1:Yh h 3 s1 (Yb (N.vs.map Xf))
 o2:Yh h 3 s2 (Yb (N.as.map Xf))
 o3:Yh h 3 s3 (Yb (P.map Zak))
 hP:P.map Prod.fst=N.ts
 row:∀p∈P,Zw h p.2 p.1.cs
 f1:s1.nl=false->lo<=s1.b
 f2:s2.nl=false->lo<=s2.b
 f3:s3.nl=false->lo<=s3.b
 fr:∀p∈P,p.1.cs≠[]->lo<=p.2.b/\(s1.nl=false->p.2.b≠s1.b)/\(s2.nl=false->p.2.b≠s2.b)/\(s3.nl=false->p.2.b≠s3.b)
 d12:s1.nl=false->s2.nl=false->s1.b≠s2.b
 d13:s1.nl=false->s3.nl=false->s1.b≠s3.b
 d23:s2.nl=false->s3.nl=false->s2.b≠s3.b
section
variable{Y:Sys}{h h':Zk}
def Zw.lt{s:Sl}{cs:Zb}(r:Zw h s cs)(G:cs≠[]):s.b<h.size:=by
 rcases Xi6 s.b h.size with q|q
 ·exact q
 have:=r.val 0 (List.length_pos_iff.2 G);simp[hc,Xk0 q] at this
def Zc1.cJ{lo:Nat}{G H I:Sl}{P:List (Tab × Sl)}{N:Zs}(o:Zc1 h lo G H I P N):Z2 h G H I N :=
 ⟨o.o1.row3,o.o2.row3,o.o3.rowT o.hP o.row⟩
def Zc1.cD{S:Zf}{lo:Nat}{J O R:Sl}{P:List (Tab × Sl)}{N:Zs}(o:Zc1 h lo J O R P N)(m:Mod S h h')(H:∀b,S b->b<lo):Zc1 h' lo J O R P N :=
 {o with
  o1:=o.o1.cD m fun G hb=>by have:=H _ hb;have:=o.f1 G;omega
  o2:=o.o2.cD m fun G hb=>by have:=H _ hb;have:=o.f2 G;omega
  o3:=o.o3.cD m fun G hb=>by have:=H _ hb;have:=o.f3 G;omega
  row:=fun p hp=>(o.row p hp).cD m fun I hb=>by have:=H _ hb;have:=(o.fr p hp I).1;omega }
def Zc1.cC{lo:Nat}{G H I:Sl}{P:List (Tab × Sl)}{N:Zs}(o:Zc1 h lo G H I P N)(m:Ext h h'):Zc1 h' lo G H I P N:=o.cD m fun _ h=>h.elim
def Z4t{K:Ze}{sz n:Nat}{s:Sl}{cells:Zc}(o:Yh h sz s cells){k:Nat}{vs:Array cR}(J:vs.size=n)(hk:k+n<=cells.length)(h1:∀v∈vs.toList,v.oneCell'=true)
  (hr:∀h',Yh h' sz s (cells.take k++vs.toList++cells.drop (k+n))->Mod (fun j=>j=s.b) h h'->K undef h'):Ef.wp h K (.store n) [.pointer (some ⟨s.b,s.o+k,none⟩),.agg vs]:=by
 have H:=o.1;rcases o.2 with⟨_,rfl⟩|⟨g1,g2,O,g3,g4,G,gb,g5,R⟩
 ·obtain rfl:n=0:=by simp at hk;omega
  obtain rfl:k=0:=by simp at hk;omega
  have:vs=#[]:=Array.eq_empty_of_size_eq_zero J;subst this;refine⟨rfl,?_⟩;exact hr h (by simpa using o) (Mod.refl h)
 have hl:cells.length<=G.toList.length:=by rw[<-R,Xjw];omega
 have I:k+vs.toList.length<=G.size:=by simp at hl ⊢;omega
 obtain⟨h3,q1,q2,q3,q4⟩:=Zcp (o:=k) (vs:=vs.toList) gb I h1;refine⟨J,?_⟩;simp only[Zg6,g2,Xjs,q1];refine hr h3 ⟨?_,.inr ⟨g1,g2,O,g3,g4,_,q2,?_,?_⟩⟩ q3
 ·simp only[List.length_append,Xjw,Xl8,Xkf];omega
 ·simp only[Xk3,List.length_append,Xjw,Xl8,Xkf];simp at I;omega
 simp only;rw[<-H,<-R];simp only[Xkf,J];have e1:(G.toList.take (s.n * sz)).length=cells.length:=by rw[R]
 rw[e1];have e2:s.n * sz=cells.length:=H.symm;rw[e2];apply Xkz;intro i;simp only[Xj8,List.getElem?_append,List.length_append,Xjw,Xkf,Xj4,J];simp only[Xkf] at hl;by_cases c1:i<k
 ·have U:i<cells.length:=by omega
  have a2:i<min k G.size:=by omega
  have a3:i<min k G.size+n:=by omega
  have a4:i<min k (min cells.length G.size):=by omega
  have a5:i<min k (min cells.length G.size)+n:=by omega
  simp[U,a2,a3,a4,a5,c1]
 by_cases c2:i<k+n
 ·have U:i<cells.length:=by omega
  have a4:¬i<min k (min cells.length G.size):=by omega
  have X:min k G.size=k:=by omega
  have a7:min k (min cells.length G.size)=k:=by omega
  simp[U,c1,c2,X,a7]
 have X:min k G.size=k:=by omega
 have a7:min k (min cells.length G.size)=k:=by omega
 simp only[X,a7,c1,c2,if_false];have e3:k+n+(i-(k+n))=i:=by omega
 rw[e3]
@[simp] theorem Z8t {G H I:Zj} {s t u:Sl}:Ym.cK Y h (.build #[G,H,I] [(0,1),(1,1),(2,1)] [0,1,2]) [s.v,t.v,u.v]=some (.agg #[s.v,t.v,u.v]):=Zd0 rfl rfl rfl
def Zgi:∀{l:List (cR × cR × cR)}{i:Nat}{x:cR × cR × cR},i<l.length->Yb (l.set i x)=(Yb l).take (i * 3)++[x.1,x.2.1,x.2.2]++(Yb l).drop (i * 3+3):=by
 intro l
 induction l with
 |nil=>intro i x G;simp at G
 |cons t r H =>
  intro i x G;have e:Yb (t::r)=t.1::t.2.1::t.2.2::Yb r:=rfl
  cases i with
  |zero =>
   rw[e];simp[Yb]
  |succ i =>
   have:=H (i:=i) (x:=x) (by simpa using G);have q0:(i+1) * 3=i * 3+1+1+1:=by omega
   have I:(i+1) * 3+3=i * 3+3+1+1+1:=by omega
   rw[e,I,q0];simp only[Xm5,Xm6,List.drop_succ_cons,Xku];rw[<-this]
   rfl
def st3{K:Ze}{s:Sl}{l:List (cR × cR × cR)}(o:Yh h 3 s (Yb l)){i:Nat}(G:i<l.length){a b c:Zj}(J:a.oneCell'=true)(hb:b.oneCell'=true)(hc:c.oneCell'=true)
  (H:∀h',Yh h' 3 s (Yb (l.set i (a,b,c)))->Mod (fun j=>j=s.b) h h'->K undef h'):Ef.wp h K (.store 3) [.pointer (some ⟨s.b,s.o+i * 3,none⟩),.agg #[a,b,c]]:=by
 refine Z4t o (k:=i * 3) rfl (by rw[Xy];omega) ?_ ?_
 ·intro v hv;simp only[Xli,Xmc,or_false] at hv;rcases hv with rfl|rfl|rfl<;>assumption
 intro h' I m';refine H h' ?_ m';rw[Zgi G];exact I
def GcI(v0:Zj)(B A:Nat)(s3 st:Sl)(N:Zs)(h0:Zk)(e:Zc)(h':Zk):Prop :=
 ∃(i:Nat)(P:List (Tab × Sl))(v4 v5 v9:Zj),e=[v0,.pointer (some ⟨A,0,none⟩),.pointer (some ⟨B,0,none⟩),s3.v,v4,v5,st.v,.int .i64 st.n,.int .i64 i,v9]/\i<=st.n/\Yh h' 3 s3 (Yb (P.map Zak))/\P.length=st.n/\(∀j,j<i->∃u,P[j]? = some (Yr N.ts j,u)/\Zw h' u (Yr N.ts j).cs/\((Yr N.ts j).cs≠[]->h0.size<=u.b))/\Mod (fun j=>s3.nl=false/\j=s3.b) h0 h'
structure Xe3(Y:Sys):Prop where
 clone:Y.cL 201 Y201
 C64:Y.cL 58 Y58
 CV:Y.cL 216 Y216
 CA:Y.cL 217 Y217
set_option maxHeartbeats 1000000 in
def Zr0(G:Xe3 Y){sv sa I:Sl}{N:Zs}(r:Z2 h sv sa I N)(bs:Zez N){R:Ze}
  (hr:∀h' s1 s2 s3 P,Ext h h'->Zc1 h' h.size s1 s2 s3 P N->R (Xp s1 s2 s3) h'):Zt Y 201 [Xp sv sa I] h R:=by
 have lv:=r.rv.len;have la:=r.ra.len;have lt:=r.rt.len;obtain⟨bv,ba,bt,bc⟩:=bs;refine .o G.clone ?_;simp[Y201,Yw.wp,Xp];refine Zo ?_;intro A hA gA bA eA;simp;refine Zo ?_;intro B hB gB bB eB;have bA:=bA.cC eB;have lA:=bA.lt;have lB:=bB.lt;have zA:=eA.size;have x0:=eA.trans eB;simp[bA.hc];refine Zh8 (n:=I.n) ?_;intro T h1 gT oT e1 lT;have x1:=x0.trans e1;rw[Z14] at oT;have ao:=bA.cC e1;have z1:=e1.size;simp[ao.hc];rw[<-Sl.at_v];have tT:(Sl.at T I.n I.n).b=T/\(Sl.at T I.n I.n).n=I.n/\(Sl.at T I.n I.n).nl=false:=⟨rfl,rfl,rfl⟩
 generalize Sl.at T I.n I.n=s3 at *
 obtain⟨tT,tN,tL⟩:=tT;refine Zp (GcI (Xp sv sa I) B A s3 I N h1) (fun e _=>I.n-Zx e 8) ⟨0,List.replicate I.n ((⟨0,0,[]⟩:Tab),Sl.nil),_,_,_,rfl,by omega,oT,by simp,fun j U=>by omega,Mod.refl _⟩ ?_;rintro e h2 ⟨i,P,v4,v5,v9,rfl,hi,oP,lP,X,m2⟩;have z2:=m2.size;have y2:Ext hB h2:=Mod.cC e1 m2 (fun j U=>by omega);have ag:=bA.cC y2;by_cases c:i<I.n
 ·have c':(i:Int)<I.n:=by omega
  have w1:=wrapS (i:=i);obtain⟨u,ah,_,ai⟩:=r.rt.rd (i:=i) (by omega);have ap:=(x0.trans y2).rd ah (fun h=>h);have ru:=ai.cC (x0.trans y2);have aC:=ru.len;have aD:=bc i (by omega);have aj:(i:Int)<s3.n:=by omega
  simp[c',Zl r.rt.ok,ap];refine Xh (vs:=#[.int .i64 (Yr N.ts i).i,.int .i64 (Yr N.ts i).o,u.v]) ?_;intro D aE gD aq ar ak;simp;refine ak _ ?_;intro hD bD eD;clear ak aq ar;have al:=oP.cF eD;have au:=oP.lt tL;have lD:=bD.lt;simp[Yf bD,Zl al.ok,aj];refine st3 al (by simp;omega) rfl rfl (by simp) ?_;intro h3 o3 m3;have z3:=m3.size;have av:=m3.cM bD (by omega);have aw:=(ru.cC eD).cD m3 (fun H U=>by have:=ai.lt H;omega);simp[av.hc];refine Zqv G.C64 aw (by omega) ?_;intro h4 u' e4 ou hu;have o4:=o3.cF e4;simp[Zl o4.ok,aj];have am:i<P.length:=by omega
  have e5:(P.map Zak).set i (.int .i64 (Yr N.ts i).i,.int .i64 (Yr N.ts i).o,u.v)=(P.set i (Yr N.ts i,u)).map Zak:=by rw[Xko];rfl
  rw[e5] at o4;have an:=fun(K:Ze)=>stN (K:=K) o4 (k:=i * 3+2) (v:=u'.v) (by rw[Xy];simp;omega);rw[Xj5];refine an _ ?_;clear an;intro h5 o5 m5;have z5:=m5.size;have e6:=(Zkn (l:=(P.set i (Yr N.ts i,u)).map Zak) (i:=i) (x:=u'.v) (by simp;omega)).2.2;rw[e6] at o5;have e7:((P.set i (Yr N.ts i,u)).map Zak).set i ((((P.set i (Yr N.ts i,u)).map Zak).getD i (undef,undef,undef)).1,(((P.set i (Yr N.ts i,u)).map Zak).getD i (undef,undef,undef)).2.1,u'.v)=(P.set i (Yr N.ts i,u')).map Zak:=by
   rw[Xko,Xko,List.set_set];simp[am,Zak]
  rw[e7] at o5;have ax:(Yr N.ts i).cs≠[]->h1.size<=u'.b/\u'.b<h5.size:=by
   intro H;obtain⟨ay,hb,_,ad⟩:=ou.cM (i:=0) (by rw[U8];exact List.length_pos_iff.2 H);have:=hu.resolve_left (by rw[ad];simp);have:=hb.lt;omega
  have az:=ou.cE.cD m5 (fun H U=>by
   obtain⟨ay,hb,_,ad⟩:=ou.cM (i:=0) (by rw[U8];exact List.length_pos_iff.2 H);have:=hu.resolve_left (by rw[ad];simp);omega)
  have mm:Mod (fun j=>s3.nl=false/\j=s3.b) h2 h5:=(((eD.mono fun _ _ h=>h.elim).trans (m3.mono fun _ _ h=>⟨tL,h⟩)).trans (e4.mono fun _ _ h=>h.elim)).trans (m5.mono fun _ _ h=>⟨tL,h⟩);simp[w1];refine nx ⟨i+1,P.set i (Yr N.ts i,u'),_,_,_,rfl,by omega,o5,by simp;omega,fun j U=>?_,m2.trans mm⟩;rcases Xi6 j i with q|q
  ·obtain⟨w,J,ab,ac⟩:=X j q;refine⟨w,?_,ab.cD mm (fun H U=>by have:=ac H;have:=U.2;omega),ac⟩;rw[Xlb (by omega)];exact J
  obtain rfl:j=i:=by omega
  exact⟨u',by simp[am],az,fun H=>(ax H).1⟩
 have c':¬(i:Int)<I.n:=by omega
 obtain rfl:i=I.n:=by omega
 simp[c',ag.hc];refine Zsv G.CV (r.rv.cC (x0.trans y2)) (by omega) ?_;intro h3 s1 e3 o1 f1;have aA:=ag.cC e3;simp[aA.hc];refine Zr8 G.CA (r.ra.cC ((x0.trans y2).trans e3)) (by omega) ?_;intro h4 s2 e4 o2 f2;have z3:=e3.size;simp;refine Zy ((bB.cC y2).cC (e3.trans e4)) ?_;intro h5 b5 m5;simp;refine Vf rfl b5 rfl ?_;have au:=oP.lt tL;have aB:P.map Prod.fst=N.ts:=by
  apply Xkz;intro j;rcases Xi6 j I.n with q|q
  ·obtain⟨w,J,_⟩:=X j q;rw[Xl5,J,Zeh,Xj3 (by omega)]
   rfl
  rw[Xjl (by simp;omega),Xjl]
 have aa:∀p∈P,Zw h2 p.2 p.1.cs/\(p.1.cs≠[]->h1.size<=p.2.b/\p.2.b<h2.size):=by
  intro p hp;obtain⟨j,U,rfl⟩:=Xju hp;obtain⟨w,J,ab,ac⟩:=X j (by omega);rw[Xj3 U] at J;simp only[Xjy] at J;rw[J];exact⟨ab,fun H=>⟨ac H,ab.lt H⟩⟩
 refine hr h5 s1 s2 s3 P (Mod.cC ((x0.trans y2).trans (e3.trans e4)) m5 (fun j U=>by omega))
  {o1:=(o1.cF e4).cD m5 (fun O U=>by have:=f1 O;omega)
   o2:=o2.cD m5 (fun O U=>by have:=f2 O;omega)
   o3:=((oP.cF e3).cF e4).cD m5 (fun O U=>by omega)
   hP:=aB
   row:=fun p hp=>(((aa p hp).1.cC e3).cC e4).cD m5 (fun H U=>by have:=(aa p hp).2 H;omega)
   f1:=fun O=>by have:=f1 O;omega
   f2:=fun O=>by have:=f2 O;omega
   f3:=fun O=>by omega
   fr:=fun p hp H=>by
    have:=(aa p hp).2 H;exact⟨by omega,fun O=>by have:=f1 O;omega,fun O=>by have:=f2 O;omega,fun O=>by omega⟩
   d12:=fun ae af=>by have:=f2 af;have:=o1.lt ae;omega
   d13:=fun ae _=>by have:=f1 ae;omega
   d23:=fun af _=>by have:=f2 af;omega }
def Vy(l:List (cR × cR)):Zc:=l.flatMap fun t=>[t.1,t.2]
def U9{l:List (cR × cR)}:(Vy l).length=l.length * 2:=by
 induction l with
 |nil=>rfl
 |cons t r G=>simp only[Vy,Xks,List.length_append,Xjn,Xld] at G ⊢;omega
def Zgy{l:List (cR × cR)}:∀{i:Nat}(G:i<l.length),(Vy l)[i * 2]? = some l[i].1/\(Vy l)[i * 2+1]? = some l[i].2:=by
 induction l with
 |nil=>intro i G;simp at G
 |cons t r H =>
  intro i G;have e:Vy (t::r)=t.1::t.2::Vy r:=rfl;rw[e]
  cases i with
  |zero=>simp
  |succ i =>
   have:=H (i:=i) (by simpa using G);have q0:(i+1) * 2=i * 2+1+1:=by omega
   have I:(i+1) * 2+1=i * 2+1+1+1:=by omega
   rw[I,q0];simp only[Xm4,List.getElem_cons_succ];exact this
def Znn:∀{l:List (cR × cR)}{i:Nat}{x:cR × cR},i<l.length->Vy (l.set i x)=(Vy l).take (i * 2)++[x.1,x.2]++(Vy l).drop (i * 2+2):=by
 intro l
 induction l with
 |nil=>intro i x G;simp at G
 |cons t r H =>
  intro i x G;have e:Vy (t::r)=t.1::t.2::Vy r:=rfl
  cases i with
  |zero =>
   rw[e];simp[Vy]
  |succ i =>
   have:=H (i:=i) (x:=x) (by simpa using G);have q0:(i+1) * 2=i * 2+1+1:=by omega
   have I:(i+1) * 2+2=i * 2+2+1+1:=by omega
   rw[e,I,q0];simp only[Xm5,Xm6,List.drop_succ_cons,Xku];rw[<-this]
   rfl
def Zr2{n:Nat}{v:Zj}:List.replicate (n * 2) v=Vy (List.replicate n (v,v)):=by
 induction n with
 |zero=>rfl
 |succ n G =>
  rw[show (n+1) * 2=n * 2+1+1 by omega,Xlu,Xlu,G,Xlu]
  rfl
def plc(as:List Yt)(i:Nat):List (cR × cR):=(List.range as.length).map fun j=>if j<i then (.int .i64 (Zgp as j j:Nat),.int .i64 (Zg0 as j j:Nat)) else (.int .i64 0,.int .i64 0)
@[simp] theorem Zrm {as:List Yt} {i:Nat}:(plc as i).length=as.length:=by simp[plc]
def Z5y{as:List Yt}:plc as 0=List.replicate as.length (.int .i64 0,.int .i64 0):=by
 apply Xjp (by simp);intro j h1 G;simp[plc]
def Z6v{as:List Yt}{i:Nat}{a b:Int}(H:i<as.length)(G:a=Zgp as i i)(hb:b=Zg0 as i i):(plc as i).set i (.int .i64 a,.int .i64 b)=plc as (i+1):=by
 apply Xjp (by simp);intro j h1 I;rw[Xky];simp only[plc,Xkd,Xlt];by_cases c:i=j
 ·subst c;simp[G,hb]
 have:(j<i+1)=(j<i):=by simp;omega
 simp only[if_neg c,this]
def Xc2{as:List Yt}{j:Nat}(G:j<as.length):(plc as as.length)[j]'(by simpa using G)=(.int .i64 (Zgp as j j:Nat),.int .i64 (Zg0 as j j:Nat)):=by
 simp[plc,G]
def ioO(x:Bool)(as:List Yt)(v:Nat):Zb:=if x then Za7 as v else Z22 as v
def Zjc(nv:Nat)(q:Nat->Sl):Zc:=(List.range nv).map fun v=>(q v).v
@[simp] theorem Xf7 {G:Nat} {q:Nat->Sl}:(Zjc G q).length=G:=by simp[Zjc]
def Zfd{G v:Nat}{q:Nat->Sl}(hv:v<G):(Zjc G q)[v]? = some (q v).v:=by simp[Zjc,hv]
def Zul{G v:Nat}{q:Nat->Sl}{s:Sl}:(Zjc G q).set v s.v=Zjc G (fun u=>if u=v then s else q u):=by
 apply Xjp (by simp);intro j h1 H;rw[Xky];simp only[Zjc,Xkd,Xlt];by_cases c:v=j
 ·subst c;simp
 have:¬j=v:=fun e=>c e.symm;simp[c,this]
structure QOK(lo:Nat)(h:Zk)(nv:Nat)(Q:Bool->Nat->Sl)(l:Bool->List Yt):Prop where
 own:∀x v,v<nv->Yh h 1 (Q x v) (Zu (ioO x (l x) v))
 fr:∀x v,v<nv->(Q x v).nl=false->lo<=(Q x v).b
 dj:∀x u y v,u<nv->v<nv->(x≠y\/u≠v)->(Q x u).nl=false->(Q y v).nl=false->(Q x u).b≠(Q y v).b
def QOK.cD{S:Zf}{lo G:Nat}{Q:Bool->Nat->Sl}{l:Bool->List Yt}(q:QOK lo h G Q l)(m:Mod S h h')(H:∀b,S b->b<lo):QOK lo h' G Q l :=
 ⟨fun x v hv=>(q.own x v hv).cD m fun I hb=>by have:=H _ hb;have:=q.fr x v hv I;omega,q.fr,q.dj⟩
def QOK.cC{lo G:Nat}{Q:Bool->Nat->Sl}{l:Bool->List Yt}(q:QOK lo h G Q l)(m:Ext h h'):QOK lo h' G Q l:=q.cD m fun _ h=>h.elim
def QOK.step{lo R t:Nat}{Q:Bool->Nat->Sl}{l l':Bool->List Yt}{x:Bool}{O:Sl}(q:QOK lo h R Q l)(ht:t<R)(X:lo<=h.size)(o:Yh h' 1 O (Zu (ioO x (l' x) t)))(m:Mod (fun j=>(Q x t).nl=false/\j=(Q x t).b) h h')
  (U:(O.b=(Q x t).b/\O.nl=(Q x t).nl)\/(h.size<=O.b/\O.nl=false)) (hl:∀y v,v<R->(y≠x\/v≠t)->ioO y (l' y) v=ioO y (l y) v) :
  QOK lo h' R (fun y v=>if y=x/\v=t then O else Q y v) l':=by
 refine⟨fun y v hv=>?_,fun y v hv H=>?_,fun y u z v hu hv G h1 J=>?_⟩
 ·by_cases c:y=x/\v=t
  ·obtain⟨rfl,rfl⟩:=c;simp only[and_self,if_true];exact o
  simp only[if_neg c];have hc:y≠x\/v≠t:=by
   rcases Decidable.em (y=x) with e|e
   ·exact .inr fun e2=>c ⟨e,e2⟩
   exact .inl e
  rw[hl y v hv hc];exact (q.own y v hv).cD m fun H hb=>q.dj y v x t hv ht hc H hb.1 hb.2
 ·by_cases c:y=x/\v=t
  ·simp only[if_pos c] at H ⊢;rcases U with⟨I,e2⟩|⟨I,_⟩
   ·rw[I];exact q.fr x t ht (by rw[<-e2];exact H)
   omega
  simp only[if_neg c] at H ⊢;exact q.fr y v hv H
 have lt:∀y v,v<R->(Q y v).nl=false->(Q y v).b<h.size:=fun y v hv H=>(q.own y v hv).lt H;by_cases c:y=x/\u=t
 ·by_cases d:z=x/\v=t
  ·obtain⟨rfl,rfl⟩:=c;obtain⟨rfl,rfl⟩:=d;rcases G with e|e<;>exact absurd rfl e
  simp only[if_pos c] at h1 ⊢;simp only[if_neg d] at J ⊢;obtain⟨rfl,rfl⟩:=c;rcases U with⟨I,e2⟩|⟨I,_⟩
  ·rw[I];exact q.dj y u z v hu hv G (by rw[<-e2];exact h1) J
  have:=lt z v hv J;omega
 by_cases d:z=x/\v=t
 ·simp only[if_neg c] at h1 ⊢;simp only[if_pos d] at J ⊢;obtain⟨rfl,rfl⟩:=d;rcases U with⟨I,e2⟩|⟨I,_⟩
  ·rw[I];exact q.dj y u z v hu hv G h1 (by rw[<-e2];exact J)
  have:=lt y u hu h1;omega
 simp only[if_neg c] at h1 ⊢;simp only[if_neg d] at J ⊢;exact q.dj y u z v hu hv G h1 J
def Zyo(p:Nat)(s1 si so sp:Sl)(Q:Bool->Nat->Sl)(nv:Nat)(P:List (Tab × Sl))(b:Nat):Prop :=
 b=p\/(s1.nl=false/\b=s1.b)\/b=si.b\/b=so.b\/b=sp.b\/(∃x v,v<nv/\(Q x v).nl=false/\b=(Q x v).b)\/∃q∈P,q.1.cs≠[]/\b=q.2.b
structure Zc4(h:Zk)(p:Nat)(N:Zs)(S:Zf)(s1 s2 s3 si so sp:Sl)(P:List (Tab × Sl))(Q:Bool->Nat->Sl):Prop where
 cM:Yo h p #[s1.v,s2.v,s3.v,si.v,so.v,sp.v]
 o1:Yh h 3 s1 (Yb (N.vs.map Xf))
 o2:Yh h 3 s2 (Yb (N.as.map Xf))
 o3:Yh h 3 s3 (Yb (P.map Zak))
 hP:P.map Prod.fst=N.ts
 row:∀q∈P,Zw h q.2 q.1.cs
 oi:Yh h 1 si (Zjc N.vs.length (Q false))
 oo:Yh h 1 so (Zjc N.vs.length (Q true))
 op:Yh h 2 sp (Vy (plc N.as N.as.length))
 oq:∀x v,v<N.vs.length->Yh h 1 (Q x v) (Zu (ioO x N.as v))
 inS:∀b,Zyo p s1 si so sp Q N.vs.length P b->S b
 e2:s2.nl=false->S s2.b/\¬Zyo p s1 si so sp Q N.vs.length P s2.b
 e3:s3.nl=false->S s3.b/\¬Zyo p s1 si so sp Q N.vs.length P s3.b
 d23:s2.nl=false->s3.nl=false->s2.b≠s3.b
 lt:∀b,S b->b<h.size
def Xi(h:Zk)(p:Nat)(N:Zs)(S:Zf):Prop:=∃s1 s2 s3 si so sp P Q,Zc4 h p N S s1 s2 s3 si so sp P Q
def Zc4.cJ{p:Nat}{N:Zs}{S:Zf}{G H I J O sp:Sl}{P:List (Tab × Sl)}{Q:Bool->Nat->Sl}(g:Zc4 h p N S G H I J O sp P Q):Z2 h G H I N :=
 ⟨g.o1.row3,g.o2.row3,g.o3.rowT g.hP g.row⟩
def Zc4.cD{S':Zf}{p:Nat}{N:Zs}{S:Zf}{J O R U X sp:Sl}{P:List (Tab × Sl)}{Q:Bool->Nat->Sl}(g:Zc4 h p N S J O R U X sp P Q)(m:Mod S' h h')(hd:∀b,S b->¬S' b):Zc4 h' p N S J O R U X sp P Q :=
 have G:=fun b hb=>hd b (g.inS b hb)
 {g with
  cM:=m.cM g.cM (G _ (.inl rfl))
  o1:=g.o1.cD m fun H=>G _ (.inr (.inl ⟨H,rfl⟩))
  o2:=g.o2.cD m fun H=>hd _ (g.e2 H).1
  o3:=g.o3.cD m fun H=>hd _ (g.e3 H).1
  row:=fun q hq=>(g.row q hq).cD m fun I=>G _ (.inr (.inr (.inr (.inr (.inr (.inr ⟨q,hq,I,rfl⟩))))))
  oi:=g.oi.cD m fun _=>G _ (.inr (.inr (.inl rfl)))
  oo:=g.oo.cD m fun _=>G _ (.inr (.inr (.inr (.inl rfl))))
  op:=g.op.cD m fun _=>G _ (.inr (.inr (.inr (.inr (.inl rfl)))))
  oq:=fun x v hv=>(g.oq x v hv).cD m fun H=>G _ (.inr (.inr (.inr (.inr (.inr (.inl ⟨x,v,hv,H,rfl⟩))))))
  lt:=fun b hb=>Xl6 (g.lt b hb) m.size }
def Xi.cD{S':Zf}{p:Nat}{N:Zs}{S:Zf}(g:Xi h p N S)(m:Mod S' h h')(hd:∀b,S b->¬S' b):Xi h' p N S:=by
 obtain⟨G,H,I,J,O,sp,P,Q,g⟩:=g;exact⟨G,H,I,J,O,sp,P,Q,g.cD m hd⟩
def Xi.cC{p:Nat}{N:Zs}{S:Zf}(g:Xi h p N S)(m:Ext h h'):Xi h' p N S:=g.cD m fun _ _ h=>h
def Xi.lt{p:Nat}{N:Zs}{S:Zf}(g:Xi h p N S):∀b,S b->b<h.size:=by
 obtain⟨G,H,I,J,O,sp,P,Q,g⟩:=g;exact g.lt
def Zpj{G H I J O R a b c:Zj}{x y w:Option Addr}{n m k n' m' k':Nat}:
  Ym.cK Y h (.build #[G,H,I,J,O,R] [(0,3),(3,1),(4,1),(5,1)] [0,1,2,3]) [.agg #[a,b,c],.slice x n n',.slice y m m',.slice w k k']=some (.agg #[a,b,c,.slice x n n',.slice y m m',.slice w k k']):=by
 simp[Ym.cK,Instr.fill]
def Zpb{p:Yt->Bool}{l:List Yt}{i:Nat}(G:i<l.length)(hp:p (Zq l i)=false):Uw p 0 (l.take (i+1))=Uw p 0 (l.take i):=by
 rw[Zfz G,hp];simp
@[simp] theorem Z8w {G H:Zj} {a b:Int}:Ym.cK Y h (.build #[G,H] [(0,1),(1,1)] [0,1]) [.int .i64 a,.int .i64 b]=some (.agg #[.int .i64 a,.int .i64 b]):=Zeb rfl rfl
def BdI(v0:Zj)(A p:Nat)(si so sp sa:Sl)(N:Zs)(h0:Zk)(e:Zc)(h':Zk):Prop :=
 ∃(i:Nat)(Q:Bool->Nat->Sl)(v2 v4 v5 v9:Zj),e=[v0,.pointer (some ⟨A,0,none⟩),v2,.pointer (some ⟨p,0,none⟩),v4,v5,sa.v,.int .i64 sa.n,.int .i64 i,v9]/\i<=sa.n/\Yh h' 1 si (Zjc N.vs.length (Q false))/\Yh h' 1 so (Zjc N.vs.length (Q true))/\Yh h' 2 sp (Vy (plc N.as i))/\QOK h0.size h' N.vs.length Q (fun _=>N.as.take i)/\Mod (fun j=>j=si.b\/j=so.b\/j=sp.b) h0 h'
set_option maxHeartbeats 2000000 in
def Zwu(HB:Y.cL 200 Y200){lo:Nat}{J O st:Sl}{P:List (Tab × Sl)}{N:Zs}(no:Zc1 h lo J O st P N)(aS:lo<=h.size)(bs:Zez N)(hA:Z49 N){R:Ze}
  (hr:∀h' p (S:Zf),Ext h h'->Xi h' p N S->(∀b,S b->lo<=b)->R (.pointer (some ⟨p,0,none⟩)) h'):Zt Y 200 [Xp J O st] h R:=by
 have r:=no.cJ;have lv:=r.rv.len;have la:=r.ra.len;obtain⟨bv,ba,bt,bc⟩:=bs;refine .o HB ?_;simp[Y200,Yw.wp,Xp];refine Zo ?_;intro A X gA bA eA;have lA:=bA.lt;have ab:∀(p:Nat)(hG:Zk)(si so sp:Sl),Ext X hG->Yo hG p #[J.v,O.v,st.v,si.v,so.v,sp.v]->Yh hG 1 si (List.replicate J.n (.slice none 0 0))->Yh hG 1 so (List.replicate J.n (.slice none 0 0))->Yh hG 2 sp (List.replicate (O.n * 2) (.int .i64 0)) ->
   si.nl=false->so.nl=false->sp.nl=false->X.size<=si.b->X.size<=so.b->X.size<=sp.b->X.size<=p->si.b≠so.b->si.b≠sp.b->so.b≠sp.b->p≠si.b->p≠so.b->p≠sp.b ->
   Stmt.wp Y Y200.body.rest.rest (Up Y200.res R) (fun _ _ _=>False) (Up Y200.res R) [Xp J O st,.pointer (some ⟨A,0,none⟩),.pointer none,.pointer (some ⟨p,0,none⟩),undef,undef,undef,undef,undef,undef] hG:=by
  intro p hG si so sp x0 bp oi oo op ni nO np fi fo fp aT d1 d2 d3 d4 d5 d6;have zG:=x0.size;have az:=bA.cC x0;have li:=oi.lt ni;have aU:=oo.lt nO;have lp:=op.lt np;have aV:=bp.lt;have e0:List.replicate J.n (.slice none 0 0)=Zjc N.vs.length (fun _=>Sl.nil):=by
   rw[lv];apply Xjp (by simp);intro j h1 h2;simp[Zjc,Sl.nil_v]
  have e1:List.replicate (O.n * 2) (.int .i64 0)=Vy (plc N.as 0):=by rw[Zr2,Z5y,la]
  rw[e0] at oi oo;rw[e1] at op;simp[Y200,Stmt.rest,az.hc];refine Zp (BdI (Xp J O st) A p si so sp O N hG) (fun e _=>O.n-Zx e 8) ⟨0,fun _ _=>Sl.nil,_,_,_,_,rfl,by omega,oi,oo,op,⟨fun x v _=>by cases x<;>exact Yh.nil,fun x v _ H=>(by cases H),fun x u y v _ _ _ H=>(by cases H)⟩,Mod.refl _⟩ ?_;clear oi oo op e0 e1;rintro e h2 ⟨i,Q,v2,v4,v5,v9,rfl,hi,oi,oo,op,q,m2⟩;have z2:=m2.size;have ae:Ext X h2:=Mod.cC x0 m2 (fun j G=>by omega);have ag:=m2.cM bp (by omega);have r2:=r.cC (eA.trans ae);by_cases c:i<O.n
  ·have c':(i:Int)<O.n:=by omega
   have ci:i<N.as.length:=by omega
   have w1:=wrapS (i:=i);obtain⟨q1,q2⟩:=hA i ci;simp only[Yi,decide_eq_true_eq] at q1 q2;obtain⟨f,hf⟩:∃f:Nat,(Zq N.as i).a=f:=⟨(Zq N.as i).a.toNat,by omega⟩
   obtain⟨g,hg⟩:∃g:Nat,(Zq N.as i).b=g:=⟨(Zq N.as i).b.toNat,by omega⟩
   rw[hf] at q1;rw[hg] at q2;have fv:f<N.vs.length:=by omega
   have gv:g<N.vs.length:=by omega
   have an:=r2.ra.rd ci;rw[hf,hg] at an;simp[c',Zl r2.ra.ok,an];refine Xh (vs:=#[.int .i64 f,.int .i64 g,.int .i64 (Zq N.as i).c]) ?_;intro D aW gD aA aB ao;simp;refine ao _ ?_;intro hD bD eD;clear ao aA aB;have lD:=bD.lt;have oi:=oi.cF eD;have oo:=oo.cF eD;have op:=op.cF eD;have ap:∀x v,v<N.vs.length->(Q x v).nl=false->(Q x v).b<h2.size:=fun x v hv H=>(q.own x v hv).lt H;have q:=q.cC eD;have aq:=ag.cC eD;have aX:si.n=N.vs.length:=by have:=oi.1;simp at this;omega
   have aY:so.n=N.vs.length:=by have:=oo.1;simp at this;omega
   have aZ:sp.n=N.as.length:=by have:=op.1;rw[U9,Zrm] at this;omega
   have gi:(g:Int)<si.n:=by omega
   have ah:(f:Int)<so.n:=by omega
   have aC:(i:Int)<sp.n:=by omega
   have cI:=oi.cell (Zfd gv);have cO:=oo.cell (Zfd fv);have qI:=q.own false g gv;have qO:=q.own true f fv;have nI:=qI.1;have ar:=qO.1;rw[U8,Xjd] at nI ar;have hB:Zgp N.as i i=(Q false g).n:=by
    rw[<-nI];show _=(Z22 (N.as.take i) g).length;rw[Z0j,Z1m hg]
   have aD:Zg0 N.as i i=(Q true f).n:=by
    rw[<-ar];show _=(Za7 (N.as.take i) f).length;rw[Zvj,Zv8 hf]
   have a0:=Z81 (as:=N.as) (a:=i) (n:=i);have a1:=Xa2 (as:=N.as) (a:=i) (n:=i);simp[aq.hc,bD.hc,Zl oi.ok,Zl oo.ok,Zl op.ok,gi,ah,aC,cI,cO];refine Z4t op (k:=i * 2) rfl (by rw[U9,Zrm];omega) (by simp) ?_;intro h4 op m4;have z4:=m4.size;have op:Yh h4 2 sp (Vy (plc N.as (i+1))):=by
    rw[<-Z6v ci (a:=((Q false g).n:Int)) (b:=((Q true f).n:Int)) (by rw[hB]) (by rw[aD]),Znn (by simpa using ci)];exact op
   have oi:=oi.cD m4 (fun _ G=>by omega);have oo:=oo.cD m4 (fun _ G=>by omega);have q:=q.cD m4 (fun b hb=>by omega);have ai:=m4.cM aq (by omega);have aj:=m4.cM bD (by omega);have cI:=oi.cell (Zfd gv);simp[ai.hc,aj.hc,Zl oi.ok,gi,cI,Zb9];intro t;have e5:Ext h4 (h4.push (.cells #[.int .i64 i] t)):=Mod.push;have aE:=ai.cC e5;have aF:=aj.cC e5;have aG:=e5.hc cI (fun h=>h);simp[aE.hc,aF.hc,aG];refine Zg4 rfl (q.own false g gv) ?_;intro s' h6 os a2 m6 au;have z6:=m6.size;have qf:=q.fr false g gv;have av:=m6.cM ai (fun G=>by have:=qf G.1;omega);have aw:=m6.cM aj (fun G=>by have:=ap false g gv G.1;have:=G.2;omega);have oi:=oi.cD m6 (fun _ G=>by have:=qf G.1;have:=G.2;omega);have oo:=oo.cD m6 (fun _ G=>by have:=qf G.1;have:=G.2;omega);have op:=op.cD m6 (fun _ G=>by have:=qf G.1;have:=G.2;omega);have q:=q.step (x:=false) (l':=fun y=>if y=false then N.as.take (i+1) else N.as.take i) gv (by omega) (by
    have:Zu (ioO false (if false=false then N.as.take (i+1) else N.as.take i) g)=Zu (ioO false (N.as.take i) g)++[.int .i64 i]:=by
     simp only[if_true,ioO,Xjh,if_false,Z22];rw[Zfz ci];simp[hg,Zu]
    rw[this];exact os) m6 au (fun y v hv I=>by
    cases y with
    |true=>rfl
    |false =>
     have:v≠g:=I.resolve_left (by simp);simp only[if_true,ioO,Xjh,if_false,Z22];exact Zpb ci (by simp[hg];omega))
   simp[av.hc,aw.hc,Zl oi.ok,gi];refine stN oi (k:=g) (by simpa using gv) ?_;intro h7 oi m7;rw[Zul] at oi;have z7:=m7.size;have aP:s'.nl=false->hG.size<=s'.b:=by
    intro H;rcases au with⟨e1,e2⟩|⟨e1,_⟩
    ·rw[e1];exact qf (by rw[<-e2];exact H)
    omega
   have oo:=oo.cD m7 (fun _ G=>by omega);have op:=op.cD m7 (fun _ G=>by omega);have q:=q.cD m7 (fun b hb=>by omega);have ak:=m7.cM av (by omega);have al:=m7.cM aw (by omega);have cO:=oo.cell (Zfd fv);simp[ak.hc,al.hc,Zl oo.ok,ah,cO,Zb9];intro t;have e8:Ext h7 (h7.push (.cells #[.int .i64 i] t)):=Mod.push;have aH:=ak.cC e8;have aI:=al.cC e8;have aJ:=e8.hc cO (fun h=>h);simp[aH.hc,aI.hc,aJ];have qT:=q.own true f fv;have qe:(if true=false/\f=g then s' else Q true f)=Q true f:=by simp
   simp only[qe] at qT;refine Zg4 rfl qT ?_;intro am h9 aK aQ m9 ax;have aa:=q.fr true f fv;simp only[qe] at aa;have aL:=m9.cM ak (fun G=>by have:=aa G.1;omega);have aM:=m9.cM al (fun G=>by have:=ap true f fv G.1;have:=G.2;omega);have oi:=oi.cD m9 (fun _ G=>by have:=aa G.1;have:=G.2;omega);have oo:=oo.cD m9 (fun _ G=>by have:=aa G.1;have:=G.2;omega);have op:=op.cD m9 (fun _ G=>by have:=aa G.1;have:=G.2;omega);have q:=q.step (x:=true) (l':=fun _=>N.as.take (i+1)) fv (by omega) (by
    have:Zu (ioO true (N.as.take (i+1)) f)=Zu (ioO true (N.as.take i) f)++[.int .i64 i]:=by
     simp only[ioO,if_true,Za7];rw[Zfz ci];simp[hf,Zu]
    rw[this];exact aK) (by simpa only[qe] using m9) (by simpa only[qe] using ax) (fun y v hv I=>by
    cases y with
    |false=>rfl
    |true =>
     have:v≠f:=I.resolve_left (by simp);simp only[ioO,if_true,Za7,Bool.true_eq_false,if_false];exact Zpb ci (by simp[hf];omega))
   simp[aL.hc,aM.hc,Zl oo.ok,ah];refine stN oo (k:=f) (by simpa using fv) ?_;intro aN oo af;rw[Zul] at oo;have aR:am.nl=false->hG.size<=am.b:=by
    intro H;rcases ax with⟨e1,e2⟩|⟨e1,_⟩
    ·rw[e1];exact aa (by rw[<-e2];exact H)
    omega
   have oi:=oi.cD af (fun _ G=>by omega);have op:=op.cD af (fun _ G=>by omega);have q:=q.cD af (fun b hb=>by omega);simp[w1];have mm:Mod (fun j=>j=si.b\/j=so.b\/j=sp.b) hG aN:=by
    refine ((((((m2.trans (eD.mono fun _ _ h=>h.elim)).trans (m4.mono fun _ _ h=>.inr (.inr h))).then m6 (fun j G hb=>?_)).trans (m7.mono fun _ _ h=>.inl h)).then m9 (fun j G hb=>?_)).trans (af.mono fun _ _ h=>.inr (.inl h)))
    ·have:=qf hb.1;have:=hb.2;omega
    have:=aa hb.1;have:=hb.2;omega
   refine nx ⟨i+1,fun y v=>if y=true/\v=f then am else if y=false/\v=g then s' else Q y v,_,_,_,_,rfl,by omega,?_,?_,op,q,mm⟩
   ·simpa using oi
   simpa using oo
  have c':¬(i:Int)<O.n:=by omega
  obtain rfl:i=O.n:=by omega
  have aO:N.as.take O.n=N.as:=Xji (by omega);simp only[aO] at q;rw[<-la] at op;simp[c'];have U:=no.cC (eA.trans ae);have lq:∀x v,v<N.vs.length->(Q x v).nl=false->hG.size<=(Q x v).b/\(Q x v).b<h2.size:=fun x v hv H=>⟨q.fr x v hv H,(q.own x v hv).lt H⟩
  have ay:∀q'∈P,q'.1.cs≠[]->q'.2.b<h.size:=fun q' hq I=>(no.row q' hq).lt I;refine hr h2 p (fun b=>lo<=b/\b<h2.size) (eA.trans ae) ⟨J,O,st,si,so,sp,P,Q,?_⟩ (fun b hb=>hb.1);have ac:∀(b:Nat),b<h.size->lo<=b->(J.nl=false->b≠J.b)->(∀q'∈P,q'.1.cs≠[]->b≠q'.2.b)->¬Zyo p J si so sp Q N.vs.length P b:=by
   intro b h1 _ h3 h4 hb;rcases hb with hb|⟨H,hb⟩|hb|hb|hb|⟨x,v,hv,H,hb⟩|⟨q',hq,I,hb⟩
   ·omega
   ·exact h3 H hb
   ·omega
   ·omega
   ·omega
   ·have:=lq x v hv H;omega
   exact h4 q' hq I hb
  refine { cM:=ag,o1:=U.o1,o2:=U.o2,o3:=U.o3,hP:=U.hP,row:=U.row,oi:=oi,oo:=oo,op:=op,oq:=q.own,inS:=?_,e2:=?_,e3:=?_,d23:=no.d23,lt:=fun b hb=>hb.2 }
  ·intro b hb;rcases hb with hb|⟨H,hb⟩|hb|hb|hb|⟨x,v,hv,H,hb⟩|⟨q',hq,I,hb⟩
   ·have:=ag.lt;subst hb;exact⟨by omega,this⟩
   ·have:=U.o1.lt H;have:=U.f1 H;subst hb;exact⟨by omega,by omega⟩
   ·have:=oi.lt ni;subst hb;exact⟨by omega,this⟩
   ·have:=oo.lt nO;subst hb;exact⟨by omega,this⟩
   ·have:=op.lt np;subst hb;exact⟨by omega,this⟩
   ·have:=lq x v hv H;subst hb;exact⟨by omega,by omega⟩
   have:=(U.fr q' hq I).1;have:=ay q' hq I;have:=eA.size;have:=ae.size;subst hb;exact⟨by omega,by omega⟩
  ·intro H;have h1:=no.o2.lt H;have ad:=no.f2 H;exact⟨⟨ad,by omega⟩,ac _ h1 ad (fun hs e=>no.d12 hs H e.symm) (fun q' hq I e=>(no.fr q' hq I).2.2.1 H e.symm)⟩
  intro H;have h1:=no.o3.lt H;have ad:=no.f3 H;exact⟨⟨ad,by omega⟩,ac _ h1 ad (fun hs e=>no.d13 hs H e.symm) (fun q' hq I e=>(no.fr q' hq I).2.2.2 H e.symm)⟩
 simp only[Y200,Stmt.rest] at ab;have x:=Mod.refl (S:=fun _=>False) X;have z:=x.size;simp[bA.hc,Yf bA]
 repeat' first
  |with_reducible refine⟨?_,?_⟩
  |((first|(have:=o0;refine Zh8 (n:=J.n) (bytes:=24) ?_;intro b2 k g o2 e l;rw[Zmc] at o2)|(refine Zh8 (n:=J.n) (bytes:=24) ?_;intro b0 k g o0 e l;rw[Zmc] at o0)|(refine Zh8 (n:=O.n) (bytes:=16) ?_;intro b4 k g o4 e l;rw[Z1d] at o4));have z:=e.size;have x:=x.trans e;have bA:=bA.cC e;(try have o0:=o0.cF e);(try have o2:=o2.cF e);(try have o4:=o4.cF e);simp[bA.hc,Yf bA,Zpj])
  |((with_reducible refine Zo ?_);intro p k g bp e;simp[-Ye];rw[Ye];first|exact ab p k (Sl.at b0 J.n J.n) (Sl.at b2 J.n J.n) (Sl.at b4 O.n O.n) (x.trans e) bp (o0.cF e) (o2.cF e) (o4.cF e) rfl rfl rfl (by simp;omega) (by simp;omega) (by simp;omega) (by omega) (by simp;omega) (by simp;omega) (by simp;omega) (by simp;omega) (by simp;omega) (by simp;omega)|exact ab p k (Sl.at b2 J.n J.n) (Sl.at b0 J.n J.n) (Sl.at b4 O.n O.n) (x.trans e) bp (o2.cF e) (o0.cF e) (o4.cF e) rfl rfl rfl (by simp;omega) (by simp;omega) (by simp;omega) (by omega) (by simp;omega) (by simp;omega) (by simp;omega) (by simp;omega) (by simp;omega) (by simp;omega))
end
def Ze3(N:Zs)(a:Int):Int:=if Yi N.as.length a then (Zq N.as a.toNat).a else -1
def toV(N:Zs)(a:Int):Int:=if Yi N.as.length a then (Zq N.as a.toNat).b else -1
def Zr(N:Zs)(a:Int):Int:=if Yi N.as.length a then (Zq N.as a.toNat).c else Zmo
section
variable{Y:Sys}{h:Zk}{p:Nat}{N:Zs}{S:Zf}
def Zc7(H:Y.cL 211 Y211)(g:Xi h p N S){a:Int}{R:Ze}(G:R (.bool (Yi N.as.length a)) h):Zt Y 211 [.pointer (some ⟨p,0,none⟩),.int .i64 a] h R:=by
 obtain⟨O,I,U,X,so,sp,P,Q,g⟩:=g;have J:=g.cJ.ra.len;rw[J] at G;refine .o H ?_;by_cases c:0<=a
 ·have:Yi I.n a=decide (a<I.n):=by simp[Yi,c]
  rw[this] at G;simp[Y211,Yw.wp,g.cM.hc,c];exact G
 have:Yi I.n a=false:=by simp[Yi,c]
 rw[this] at G;simp[Y211,Yw.wp,c];exact G
def Zyc(H:Y.cL 244 Y244)(g:Xi h p N S){a:Int}{R:Ze}(G:R (.bool (Yi N.vs.length a)) h):Zt Y 244 [.pointer (some ⟨p,0,none⟩),.int .i64 a] h R:=by
 obtain⟨I,O,U,X,so,sp,P,Q,g⟩:=g;have J:=g.cJ.rv.len;rw[J] at G;refine .o H ?_;by_cases c:0<=a
 ·have:Yi I.n a=decide (a<I.n):=by simp[Yi,c]
  rw[this] at G;simp[Y244,Yw.wp,g.cM.hc,c];exact G
 have:Yi I.n a=false:=by simp[Yi,c]
 rw[this] at G;simp[Y244,Yw.wp,c];exact G
def Zjm(H:Y.cL 189 Y189)(g:Xi h p N S){R:Ze}(G:R (.int .i64 N.vs.length) h):Zt Y 189 [.pointer (some ⟨p,0,none⟩)] h R:=by
 obtain⟨I,J,O,U,X,sp,P,Q,g⟩:=g;rw[g.cJ.rv.len] at G;refine .o H ?_;simp[Y189,Yw.wp,g.cM.hc];exact G
def Q3(H:Y.cL 209 Y209)(g:Xi h p N S){R:Ze}(G:R (.int .i64 N.as.length) h):Zt Y 209 [.pointer (some ⟨p,0,none⟩)] h R:=by
 obtain⟨I,J,O,U,X,sp,P,Q,g⟩:=g;rw[g.cJ.ra.len] at G;refine .o H ?_;simp[Y209,Yw.wp,g.cM.hc];exact G
def Zcg(H:Y.cL 193 Y193)(HA:Y.cL 211 Y211)(g:Xi h p N S){a:Int}{R:Ze}(G:R (.int .i64 (Ze3 N a)) h):Zt Y 193 [.pointer (some ⟨p,0,none⟩),.int .i64 a] h R:=by
 refine .o H ?_;simp[Y193,Yw.wp];refine Zc7 HA g ?_
 cases c:Yi N.as.length a with
 |false =>
  simp[Ze3,c] at G;simp;exact G
 |true =>
  obtain⟨O,I,U,X,so,sp,P,Q,g⟩:=g;have la:=g.cJ.ra.len;simp[Ze3,c] at G;simp only[Yi,decide_eq_true_eq] at c;have J:a<I.n:=by omega
  simp[g.cM.hc,Zl g.cJ.ra.ok,c.1,J,g.cJ.ra.v0 a.toNat (by omega)];exact G
def U0(H:Y.cL 192 Y192)(HA:Y.cL 211 Y211)(g:Xi h p N S){a:Int}{R:Ze}(G:R (.int .i64 (toV N a)) h):Zt Y 192 [.pointer (some ⟨p,0,none⟩),.int .i64 a] h R:=by
 refine .o H ?_;simp[Y192,Yw.wp];refine Zc7 HA g ?_
 cases c:Yi N.as.length a with
 |false =>
  simp[toV,c] at G;simp;exact G
 |true =>
  obtain⟨O,I,U,X,so,sp,P,Q,g⟩:=g;have la:=g.cJ.ra.len;simp[toV,c] at G;simp only[Yi,decide_eq_true_eq] at c;have J:a<I.n:=by omega
  simp[g.cM.hc,Zl g.cJ.ra.ok,c.1,J,g.cJ.ra.v1 a.toNat (by omega)];exact G
def X8(H:Y.cL 233 Y233)(HA:Y.cL 211 Y211)(g:Xi h p N S){a:Int}{R:Ze}(G:R (.int .i64 (Zr N a)) h):Zt Y 233 [.pointer (some ⟨p,0,none⟩),.int .i64 a] h R:=by
 refine .o H ?_;simp[Y233,Yw.wp];refine Zc7 HA g ?_
 cases c:Yi N.as.length a with
 |false =>
  simp[Zr,c,Zmo] at G;simp;exact G
 |true =>
  obtain⟨O,I,U,X,so,sp,P,Q,g⟩:=g;have la:=g.cJ.ra.len;simp[Zr,c] at G;simp only[Yi,decide_eq_true_eq] at c;have J:a<I.n:=by omega
  simp[g.cM.hc,Zl g.cJ.ra.ok,c.1,J,g.cJ.ra.v2 a.toNat (by omega)];exact G
def Zgj(H:Y.cL 239 Y239)(HV:Y.cL 244 Y244)(HC:Y.cL 245 Y245)(g:Xi h p N S){v:Int}{R:Ze}(G:∀h' s,Ext h h'->Yh h' 1 s (Zu (if Yi N.vs.length v then Za7 N.as v else []))->(s.nl=false->h.size<=s.b)->R s.v h')(ba:N.as.length<=20000:=by omega):Zt Y 239 [.pointer (some ⟨p,0,none⟩),.int .i64 v] h R:=by
 refine .o H ?_;simp[Y239,Yw.wp];refine Zyc HV g ?_
 cases c:Yi N.vs.length v with
 |false =>
  simp[c] at G;simp;exact G h Sl.nil (Mod.refl h) Yh.nil (fun h=>(by cases h))
 |true =>
  obtain⟨s1,s2,s3,si,I,sp,P,Q,g⟩:=g;simp[c] at G;simp only[Yi,decide_eq_true_eq] at c;have O:I.n=N.vs.length:=by have:=g.oo.1;simp at this;omega
  have J:v.toNat<N.vs.length:=by omega
  have U:v<I.n:=by omega
  have hq:=g.oq true v.toNat J;have hv:((v.toNat:Nat):Int)=v:=by omega
  have X:=hq.1;rw[U8,ioO,if_pos rfl,hv] at X;have:=Zz9 (as:=N.as) (v:=v);simp[g.cM.hc,Zl g.oo.ok,c.1,U,g.oo.cell (Zfd J)];refine Zfi HC hq.cE ?_;intro h1 s e1 o1 f1;simp only[ioO,if_true,hv] at o1;simp;exact G h1 s e1 o1 f1
def Zc4.plc{I J O R U sp:Sl}{P:List (Tab × Sl)}{Q:Bool->Nat->Sl}(g:Zc4 h p N S I J O R U sp P Q){a:Nat}(G:a<N.as.length):
  hc h sp.b (sp.o+a * 2)=some (.int .i64 (Zgp N.as a a:Nat))/\hc h sp.b (sp.o+a * 2+1)=some (.int .i64 (Zg0 N.as a a:Nat)):=by
 obtain⟨h1,H⟩:=Zgy (l:=Rm.plc N.as N.as.length) (i:=a) (by simpa using G);rw[Xc2 G] at h1 H;exact⟨g.op.cell h1,g.op.cell H⟩
def Zc4.np{G H I J O sp:Sl}{P:List (Tab × Sl)}{Q:Bool->Nat->Sl}(g:Zc4 h p N S G H I J O sp P Q):sp.n=N.as.length:=by
 have:=g.op.1;rw[U9,Zrm] at this;omega
def Zgu(H:Y.cL 231 Y231)(HA:Y.cL 211 Y211)(T:Zhg Y)(g:Xi h p N S)(ok:Yl N){a b:Int}{R:Ze}
  (I:∀h',Ext h h'->R (.int .i64 (Yp N a b)) h'):Zt Y 231 [.pointer (some ⟨p,0,none⟩),.int .i64 a,.int .i64 b] h R:=by
 refine .o H ?_;simp[Y231,Yw.wp];refine Zc7 HA g ?_
 cases c1:Yi N.as.length a with
 |false =>
  rw[Yp,if_pos (.inl c1)] at I;simp;exact I _ (Mod.refl h)
 |true =>
 simp;refine Zc7 HA g ?_
 cases c2:Yi N.as.length b with
 |false =>
  rw[Yp,if_pos (.inr c2)] at I;simp;exact I _ (Mod.refl h)
 |true =>
 obtain⟨s1,s2,s3,si,so,sp,P,Q,g⟩:=g;have r:=g.cJ;have lv:=r.rv.len;have la:=r.ra.len;have lt:=r.rt.len;have hn:=g.np;simp only[Yi,decide_eq_true_eq] at c1 c2;obtain⟨a,rfl⟩:∃n:Nat,a=n:=⟨a.toNat,by omega⟩
 obtain⟨b,rfl⟩:∃n:Nat,b=n:=⟨b.toNat,by omega⟩
 have X:a<N.as.length:=by omega
 have hb:b<N.as.length:=by omega
 have aa:(a:Int)<s2.n:=by omega
 have ab:(b:Int)<s2.n:=by omega
 have ag:(a:Int)<sp.n:=by omega
 have ah:(b:Int)<sp.n:=by omega
 rw[Z3z X hb] at I;have G:=g.cM;by_cases c3:(Zq N.as a).b=(Zq N.as b).a;rotate_left
 ·have U:((Zq N.as a).b=(Zq N.as b).a)=False:=by simp[c3]
  rw[Zjy] at I;simp only[Xi8] at I;rw[if_pos (.inl c3)] at I;simp[G.hc,Zl r.ra.ok,aa,ab,r.ra.v0 b hb,r.ra.v1 a X,U];exact I _ (Mod.refl h)
 have hx:Zjy N a b (Zgp N.as a a) (Zg0 N.as b b)=atV (Yr N.ts (Zq N.vs (Zq N.as a).b.toNat).c.toNat).i (Yr N.ts (Zq N.vs (Zq N.as a).b.toNat).c.toNat).o (Yr N.ts (Zq N.vs (Zq N.as a).b.toNat).c.toNat).cs (Zgp N.as a a) (Zg0 N.as b b):=by
  have h1:=(ok.arcs a X).2;have hv:(Zq N.as a).b.toNat<N.vs.length:=by simp only[Yi,decide_eq_true_eq] at h1;omega
  have h2:=ok.vt _ hv;rw[Zjy];simp only[Xi8];rw[if_neg (by rw[h1];simp[c3]),if_neg (by simp[h2])]
 rw[hx] at I;clear hx;have g1:=(ok.arcs a X).2;have cA:=r.ra.v1 a X;have cB:=r.ra.v0 b hb;generalize hv:(Zq N.as a).b=v at *
 have U:(v=(Zq N.as b).a)=True:=by simp[c3]
 simp only[Yi,decide_eq_true_eq] at g1;have v0:0<=v:=g1.1;have v1:v<s1.n:=by omega
 have v2:v.toNat<N.vs.length:=by omega
 have g2:=ok.vt _ v2;have ac:=r.rv.rd v2;generalize ht:(Zq N.vs v.toNat).c=t at *
 simp only[Yi,decide_eq_true_eq] at g2;have t0:0<=t:=g2.1;have t1:t<s3.n:=by omega
 have t2:t.toNat<N.ts.length:=by omega
 obtain⟨u,ai,_,ru⟩:=r.rt.rd (i:=t.toNat) t2;obtain⟨p1,_⟩:=g.plc X;obtain⟨_,p2⟩:=g.plc hb;simp[G.hc,Zl r.ra.ok,Zl r.rv.ok,aa,ab,cA,cB,U,v0,v1,ac];refine Xh (vs:=#[.int .i64 (Zq N.vs v.toNat).a,.int .i64 (Zq N.vs v.toNat).b,.int .i64 t]) ?_;intro D am gD aj J ad;have k:=fun(b' o:Nat)(x:Zj)(hx:hc h b' o=some x)=>J.hc hx (fun h=>h);have G':=G.cC J;have ae:=J.hc cA (fun h=>h);have O:=J.rd ac (fun h=>h);simp[G'.hc,ae,O];refine ad _ ?_;intro hD bD eD;clear ad aj J k G' ae O;have G2:=G.cC eD;have af:=eD.rd ai (fun h=>h);have ak:=eD.hc p1 (fun h=>h);have al:=eD.hc p2 (fun h=>h);simp[G2.hc,bD.hc,Zl r.rt.ok,t0,t1,af,Zl g.op.ok,ag,ah,ak,al];refine Xag T (ru.cC eD) ?_;intro h2 e2;simp;exact I _ (eD.trans e2)
structure Xb2(Y:Sys):Prop where
 New:Y.cL 187 Y187
 build:Y.cL 200 Y200
 Cl:Xe3 Y
 N1:Z3m Y
def Yl.small{N:Zs}(ok:Yl N):Zez N:=by
 refine⟨by have:=ok.bv;omega,by have:=ok.ba;omega,by have:=ok.bt;omega,fun i G=>?_⟩;obtain⟨H,I,J,O,R,_,_⟩:=Z6j (ins:=(Yr N.ts i).i) (cP:=(Yr N.ts i).o) (cs:=(Yr N.ts i).cs) (ok.tab i G);have:=(Zl4 ⟨H,I⟩ ⟨J,O⟩).2;omega
def Z2m(G:Xb2 Y)(T:TurnCk Y){X sa st:Sl}(r:Z2 h X sa st N){R:Ze}
  (I:∀v h',Ext h h'->(Qd N).2≠0->Zfk Y h.size h' (Qd N) v->R (.tuple #[.pointer none,v]) h')
  (H:∀h' p (S:Zf),Ext h h'->(Qd N).2=0->Xi h' p N S->(∀b,S b->h.size<=b)->R (.tuple #[.pointer (some ⟨p,0,none⟩),.nilIface]) h'):Zt Y 187 [Xp X sa st] h R:=by
 refine .o G.New ?_;simp[Y187,Yw.wp,Xp];refine Zo ?_;intro B hB gB bB U;simp (maxDischargeDepth:=60) [bB.rk];refine Ztf G.N1 T (r.cC U) ?_;intro v h1 e1 hv;have J:∀g,Ext g hB->Ext g h1:=fun g e=>Mod.trans e e1;have O:=U.trans e1;have zB:=U.size;by_cases c:(Qd N).2=0;rotate_left
 ·obtain⟨t,u,rfl⟩:=hv.cH.iface c;simp;exact I _ h1 O c (hv.mono zB)
 have:=hv.cH.nil c;subst this;have ok:=Zjf.1 c;simp (maxDischargeDepth:=60) [bB.rk,J];refine Zr0 G.Cl (r.cC O) ok.small ?_;intro h2 s1 s2 s3 P e2 no;have z1:=O.size;have z2:=e2.size;simp;refine Zwu G.build (lo:=h1.size) no z2 ok.small ok.arcs ?_;intro h3 p S e3 g hS;simp;exact H h3 p S ((O.trans e2).trans e3) c g (fun b hb=>by have:=hS b hb;omega)
end
end Go.Rm

