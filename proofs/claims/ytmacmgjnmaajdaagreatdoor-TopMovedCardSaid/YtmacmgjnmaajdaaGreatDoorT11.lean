import Derived.Test.YtmacmgjnmaajdaaGreatDoorT10
import Derived.Laws.Strings
/- Parts. -/
set_option linter.all false
namespace Go.Rm
open Go.ChangeShapes Go.WideShapes Go.Deep
instance:Inhabited Yt:=⟨⟨0,0,0⟩⟩
instance:Inhabited Tab:=⟨⟨0,0,[]⟩⟩
def Ut(fs:Array Field)(i:Nat):Option (Nat × TypeId):=(fs[i]?).map fun f=>(f.offset,f.type)
structure Z38(P:Program) where
 net:TypeId
 verts:TypeId
 arcs:TypeId
 types:TypeId
 vert:TypeId
 arc:TypeId
 tab:TypeId
 int:TypeId
 i64:TypeId
 cN:TypeId
 Z1u:Array Field
 vertF:Array Field
 arcF:Array Field
 tabF:Array Field
 u_net:P.underlying net=some (.struct Z1u)
 u_vert:P.underlying vert=some (.struct vertF)
 u_arc:P.underlying arc=some (.struct arcF)
 u_tab:P.underlying tab=some (.struct tabF)
 u_verts:P.underlying verts=some (.slice vert)
 u_arcs:P.underlying arcs=some (.slice arc)
 u_types:P.underlying types=some (.slice tab)
 u_costs:P.underlying cN=some (.slice i64)
 u_int:P.underlying int=some (.int .i64)
 u_i64:P.underlying i64=some (.int .i64)
 c_net:P.cellsOf net=3
 c_vert:P.cellsOf vert=3
 c_arc:P.cellsOf arc=3
 c_tab:P.cellsOf tab=3
 c_verts:P.cellsOf verts=1
 c_arcs:P.cellsOf arcs=1
 c_types:P.cellsOf types=1
 c_costs:P.cellsOf cN=1
 c_int:P.cellsOf int=1
 c_i64:P.cellsOf i64=1
 n0:Ut Z1u 0=some (0,verts)
 n1:Ut Z1u 1=some (1,arcs)
 n2:Ut Z1u 2=some (2,types)
 v0:Ut vertF 0=some (0,int)
 v1:Ut vertF 1=some (1,int)
 v2:Ut vertF 2=some (2,int)
 a0:Ut arcF 0=some (0,int)
 a1:Ut arcF 1=some (1,int)
 a2:Ut arcF 2=some (2,i64)
 t0:Ut tabF 0=some (0,int)
 t1:Ut tabF 1=some (1,int)
 t2:Ut tabF 2=some (2,cN)
section
variable{H:Type}{enc:TypeId × cR->H}{P:Program}{W:World}{base:Nat}
def Zku{G:Array Field}{i o:Nat}{t:TypeId}(h:Ut G i=some (o,t)):∃f,G[i]? = some f/\f.offset=o/\f.type=t:=by
 unfold Ut at h
 cases hf:G[i]? with
 |none=>rw[hf] at h;cases h
 |some f =>
  rw[hf] at h;simp only[Xlz,Xjy,Prod.mk.injEq] at h;exact⟨f,rfl,h.1,h.2⟩
def Read.gint{t u:TypeId}{G:Array Field}{cs:Zc}{i o:Nat}{k:IntKind}(h:Read enc P W base t cs)(ht:P.underlying t=some (.struct G))(hf:Ut G i=some (o,u))(I:P.underlying u=some (.int k))(hc:P.cellsOf u=1):
  ∃n,cs[o]? = some (.int k n)/\k.min<=n/\n<=k.max:=by
 obtain⟨f,h1,J,O⟩:=Zku hf;subst J;subst O;exact h.fint ht h1 I hc
def Read.gslice{t u e:TypeId}{G:Array Field}{cs:Zc}{i o:Nat}(h:Read enc P W base t cs)(ht:P.underlying t=some (.struct G))(hf:Ut G i=some (o,u))(I:P.underlying u=some (.slice e))(hc:P.cellsOf u=1):
  ∃v,cs[o]? = some v/\Read enc P W base u [v]:=by
 obtain⟨f,h1,J,O⟩:=Zku hf;subst J;subst O;exact h.fslice ht h1 I hc
def Xaa{s:Sl}{n:Nat}(ok:s.ok)(J:n=s.n){f:Nat->Yt}(hf:∀i,i<s.n->∀j,j<3->hc W.heap s.b (s.o+i * 3+j)=[Value.int .i64 (f i).a,.int .i64 (f i).b,.int .i64 (f i).c][j]?):
  Zbd W.heap s ((List.range n).map f):=by
 subst J;have g:∀i,i<s.n->Zq ((List.range s.n).map f) i=f i:=fun i I=>by simp[Zq,I]
 refine⟨ok,by simp,fun i I=>?_,fun i I=>?_,fun i I=>?_⟩
 all_goals
  have G:i<s.n:=by simpa using I
  rw[g i G]
 ·have:=hf i G 0 (by omega);simpa using this
 ·have:=hf i G 1 (by omega);simpa using this
 have:=hf i G 2 (by omega);simpa using this
def Read.tris{t e x y z:TypeId}{I:Array Field}{v:Zj}(h:Read enc P W base t [v])(ht:P.underlying t=some (.slice e))(J:P.underlying e=some (.struct I))(O:P.cellsOf e=3)
  (h0:Ut I 0=some (0,x)) (h1:Ut I 1=some (1,y)) (X:Ut I 2=some (2,z)) (ux:P.underlying x=some (.int .i64)) (uy:P.underlying y=some (.int .i64)) (uz:P.underlying z=some (.int .i64))
  (cx:P.cellsOf x=1) (cy:P.cellsOf y=1) (cz:P.cellsOf z=1):∃(s:Sl)(l:List Yt),v=s.v/\Zbd W.heap s l:=by
 obtain⟨s,e1,ok,_,hx⟩:=h.slice ht O (by omega);obtain⟨f,hf⟩:=choose_lt (α:=Yt) (n:=s.n) (p:=fun i (n:Yt)=>∀j,j<3->hc W.heap s.b (s.o+i * 3+j)=[Value.int .i64 n.a,.int .i64 n.b,.int .i64 n.c][j]?) (fun i hi=>by
  obtain⟨aa,hl,G,R⟩:=hx i hi;obtain⟨a,ha,_⟩:=R.gint J h0 ux cx;obtain⟨b,hb,_⟩:=R.gint J h1 uy cy;obtain⟨c,hc,_⟩:=R.gint J X uz cz;refine⟨⟨a,b,c⟩,fun j U=>?_⟩;rw[G j U]
  match j,U with
  |0,_=>exact ha
  |1,_=>exact hb
  |2,_=>exact hc)
 exact⟨s,_,by simpa using e1,Xaa ok rfl hf⟩
def Read.cN{t e:TypeId}{v:Zj}(h:Read enc P W base t [v])(ht:P.underlying t=some (.slice e))(R:P.underlying e=some (.int .i64))(I:P.cellsOf e=1):∃(s:Sl)(cs:Zb),v=s.v/\Zw W.heap s cs/\∀x∈cs,IntKind.i64.min<=x/\x<=IntKind.i64.max:=by
 obtain⟨s,f,U,_,O,hf⟩:=h.ints ht R I;refine⟨s,(List.range s.n).map f,by simpa using U,⟨O.ok,by simp,fun i J=>?_⟩,fun x hx=>?_⟩
 ·have G:i<s.n:=by simpa using J
  rw[O.val i G];simp[Zm,G]
 simp only[Xlg,Xme] at hx;obtain⟨i,J,rfl⟩:=hx;exact hf i J
def Read.tabs(T:Z38 P){v:Zj}(h:Read enc P W base T.types [v]):∃(s:Sl)(l:List Tab),v=s.v/\Zp6 W.heap s l:=by
 obtain⟨s,U,ok,_,hx⟩:=h.slice T.u_types T.c_tab (by omega);obtain⟨f,hf⟩:=choose_lt (α:=Tab) (n:=s.n) (p:=fun i (n:Tab)=>∃u:Sl,hc W.heap s.b (s.o+i * 3)=some (.int .i64 n.i)/\hc W.heap s.b (s.o+i * 3+1)=some (.int .i64 n.o)/\hc W.heap s.b (s.o+i * 3+2)=some u.v/\Zw W.heap u n.cs) (fun i J=>by
  obtain⟨X,hl,G,O⟩:=hx i J;obtain⟨a,ha,_⟩:=O.gint T.u_tab T.t0 T.u_int T.c_int;obtain⟨b,hb,_⟩:=O.gint T.u_tab T.t1 T.u_int T.c_int;obtain⟨w,hw,R⟩:=O.gslice T.u_tab T.t2 T.u_costs T.c_costs;obtain⟨u,cs,rfl,hu,_⟩:=R.cN T.u_costs T.u_i64 T.c_i64;exact⟨⟨a,b,cs⟩,u,by rw[<-ha,<-G 0 (by omega)];rfl,by rw[<-hb,<-G 1 (by omega)],by rw[<-hw,<-G 2 (by omega)],hu⟩)
 refine⟨s,(List.range s.n).map f,by simpa using U,ok,by simp,fun i J=>?_⟩;have I:i<s.n:=by simpa using J
 have g:Yr ((List.range s.n).map f) i=f i:=by simp[Yr,I]
 rw[g];exact hf i I
def Read.net(T:Z38 P){cs:Array cR}(O:Read enc P W base T.net cs.toList)(R:cs.size=3):∃(G I J:Sl)(N:Zs),Value.agg cs=Xp G I J/\Z2 W.heap G I J N:=by
 obtain⟨v1,U,h1⟩:=O.gslice T.u_net T.n0 T.u_verts T.c_verts;obtain⟨v2,e2,X⟩:=O.gslice T.u_net T.n1 T.u_arcs T.c_arcs;obtain⟨v3,e3,h3⟩:=O.gslice T.u_net T.n2 T.u_types T.c_types;obtain⟨G,lv,rfl,rv⟩:=h1.tris T.u_verts T.u_vert T.c_vert T.v0 T.v1 T.v2 T.u_int T.u_int T.u_int T.c_int T.c_int T.c_int;obtain⟨I,la,rfl,ra⟩:=X.tris T.u_arcs T.u_arc T.c_arc T.a0 T.a1 T.a2 T.u_int T.u_int T.u_i64 T.c_int T.c_int T.c_i64;obtain⟨J,lt,rfl,rt⟩:=h3.tabs T;refine⟨G,I,J,⟨lv,la,lt⟩,?_,rv,ra,rt⟩;unfold Xp
 congr 1
 apply Xjb;apply Xkz;intro k
 match k with
 |0=>exact U
 |1=>exact e2
 |2=>exact e3
 |k+3 =>
  rw[Xjl (by simp;omega),Xjl (by simp)]
def Zb6.net(T:Z38 P){v:Zj}(h:Zb6 enc P W T.net v):∃(I J O:Sl)(N:Zs),v=Xp I J O/\Z2 W.heap I J O N:=by
 obtain⟨cs,rfl,G,R⟩:=h.1.agg T.u_net (by rw[T.c_net];decide);rw[T.c_net] at G;exact Read.net T R G
end
end Go.Rm


namespace Go.Rm
def Yc(l:Za)(i:Nat):Zb:=l.getD i []
def Zpm{l:Za}{i:Nat}(G:i<l.length:=by omega):Yc l i=l[i]:=by simp[Yc,G]
structure Wm(h:Zk)(s:Sl)(l:Za):Prop where
 ok:s.ok
 len:l.length=s.n
 val:∀i,i<l.length->∃u:Sl,hc h s.b (s.o+i)=some u.v/\Zw h u (Yc l i)
def Wm.cC{h h':Zk}{s:Sl}{l:Za}(r:Wm h s l)(e:Ext h h'):Wm h' s l :=
 ⟨r.ok,r.len,fun i G=>by
  obtain⟨u,a,b⟩:=r.val i G;exact⟨u,e.hc a (fun h=>h),b.cC e⟩⟩
def W7(s:Sl):cR:=.agg #[s.v]
def Wp(l:Zb):Int:=l.foldl (fun m c=>if m<c+1 then c+1 else m) 0
def Zaq{l:Zb}{i:Nat}(G:i<l.length:=by omega):Wp (l.take (i+1))=if Wp (l.take i)<Zm l i+1 then Zm l i+1 else Wp (l.take i):=by
 unfold Wp;rw[Xjc G,Xlk];simp only[Xk1,List.foldl_nil];rw[show Zm l i=l[i] by simp[Zm,G]]
def Zpp{l:Zb}:∀{i:Nat},i<=l.length->0<=Wp (l.take i):=by
 intro i
 induction i with
 |zero=>intro _;simp[Wp]
 |succ i G =>
  intro H;have:=G (by omega);rw[Zaq]
  split<;>omega
def Z4f{l:Zb}:∀{i:Nat},i<=l.length->∀j,j<i->Zm l j<Wp (l.take i):=by
 intro i
 induction i with
 |zero=>intro _ j G;omega
 |succ i H =>
  intro I j G;rw[Zaq];rcases Xi6 j i with g|g
  ·have:=H (by omega) j g
   split<;>omega
  obtain rfl:j=i:=by omega
  split<;>omega
def Z79{l:Zb}{n:Int}(G:0<=n)(h:∀j,j<l.length->Zm l j<n):∀{i:Nat},i<=l.length->Wp (l.take i)<=n:=by
 intro i
 induction i with
 |zero=>intro _;simpa[Wp] using G
 |succ i H =>
  intro I;have:=H (by omega);have:=h i (by omega);rw[Zaq]
  split<;>omega
def Zc8{l:Zb}{n:Int}(G:0<=n)(h:∀j,j<l.length->Zm l j<n):0<=Wp l/\Wp l<=n/\∀j,j<l.length->Zm l j<Wp l:=by
 have e:l.take l.length=l:=Xj9;refine⟨?_,?_,?_⟩
 ·have:=Zpp (l:=l) (Xi4 l.length);rwa [e] at this
 ·have:=Z79 G h (Xi4 l.length);rwa [e] at this
 have:=Z4f (l:=l) (Xi4 l.length);rwa [e] at this
def Zgz(L:Za)(l:Int):Bool:=decide (1<=l/\l<=L.length)
def lvl(L:Za)(l:Int):Zb:=if Zgz L l then Yc L (l-1).toNat else []
section
variable{Y:Sys}{h h':Zk}
def Wm.at{s:Sl}{L:Za}(r:Wm h s L){i:Nat}(G:i<s.n):∃u:Sl,(∀g,Ext h g->hc g s.b (s.o+i)=some u.v)/\Zw h u (Yc L i):=by
 obtain⟨u,a,b⟩:=r.val i (by rw[r.len];exact G);exact⟨u,fun g e=>e.hc a (fun h=>h),b⟩
structure Zy1(Y:Sys):Prop where
 most:Y.cL 212 Y212
structure Zhj(Y:Sys):Prop where
 numbers:Y.cL 207 Y207
 Count:Y.cL 190 Y190
 row:Y.cL 208 Y208
def MoI(s:Sl)(l:Zb)(h0:Zk)(e:Zc)(h':Zk):Prop :=
 ∃(i:Nat)(v1 v4:Zj),e=[s.v,v1,Zg (Wp (l.take i)),Zg i,v4]/\i<=s.n/\h'=h0
def Zss(P:Zy1 Y){s:Sl}{l:Zb}(r:Zw h s l)(G:s.n<=1000000)(H:∀j,j<l.length->-1<=Zm l j/\Zm l j<4611686018427387904){R:Ze}(I:R (Zg (Wp l)) h):Zt Y 212 [s.v] h R:=by
 refine .o P.most ?_;have U:=r.len;simp[Y212,Yw.wp];refine Zp (MoI s l h) (fun e _=>s.n-Zx e 3) ⟨0,_,_,rfl,by omega,rfl⟩ ?_;rintro e h1 ⟨i,X,v4,rfl,hi,rfl⟩;by_cases c:i<s.n
 ·have c':(i:Int)<s.n:=by omega
  have J:=wrapS (i:=i);obtain⟨g1,g2⟩:=H i (by omega);have O:IntKind.i64.wrap (Zm l i+1)=Zm l i+1:=Zn;simp[c',Zl r.ok,r.at c,J,O,<-Zaq (l:=l) (i:=i)];refine nx ⟨i+1,_,_,rfl,by omega,rfl⟩
 have c':¬(i:Int)<s.n:=by omega
 have:l.take i=l:=Xji (by omega);simp[c',this];exact I
def Zd1(P:Zhj Y){s:Sl}{L:Za}(r:Wm h s L){l:Int}{R:Ze}(I:∀h' u,Ext h h'->Zw h u (lvl L l)->R u.v h')(X:s.n<=1000:=by omega)(hl : -9223372036854775808<=l/\l<=9223372036854775807:=by omega):Zt Y 207 [W7 s,Zg l] h R:=by
 refine .o P.numbers ?_;have hn:=r.len;simp[Y207,Yw.wp,W7];refine Zo ?_;intro B h1 g1 B1 O;by_cases c:Zgz L l=true
 ·have c':=c;simp[Zgz] at c';obtain⟨i,J⟩:∃i:Nat,l-1=i:=⟨(l-1).toNat,by omega⟩
  have w1:IntKind.i64.wrap (l-1)=(i:Int):=by rw[Zn,J]
  obtain⟨u,hu,ru⟩:=r.at (i:=i) (by omega)
  have G:lvl L l=Yc L i:=by simp[lvl,c,J]
  rw[G] at I;have c1:¬l<1:=by omega
  have U:¬(s.n:Int)<l:=by omega
  simp[c1,U,B1.hc,w1,Zl r.ok,show i<s.n by omega,hu,O];exact I h1 u O ru
 have c':Zgz L l=false:=by simpa using c
 have G:lvl L l=[]:=by simp[lvl,c']
 rw[G] at I;have H:=I h1 Sl.nil O ⟨Sl.nil_ok,rfl,fun i J=>by simp at J⟩;simp[Zgz] at c';by_cases c1:l<1
 ·simp[c1];exact H
 have U:(s.n:Int)<l:=by omega
 simp[c1,U,B1.hc];exact H
def Ztx(P:Zhj Y){s:Sl}{L:Za}(r:Wm h s L)(X:s.n<=1000){l:Int}(hl : -9223372036854775808<=l/\l<=9223372036854775807){R:Ze}
  (I:∀h' u,Ext h h'->Zw h u (lvl L l)->R u.v h'):Zt Y 208 [W7 s,Zg l] h R:=by
 refine .o P.row ?_;have hn:=r.len;simp[Y208,Yw.wp,W7];refine Zo ?_;intro B h1 g1 B1 O;by_cases c:Zgz L l=true
 ·have c':=c;simp[Zgz] at c';obtain⟨i,J⟩:∃i:Nat,l-1=i:=⟨(l-1).toNat,by omega⟩
  have w1:IntKind.i64.wrap (l-1)=(i:Int):=by rw[Zn,J]
  obtain⟨u,hu,ru⟩:=r.at (i:=i) (by omega)
  have G:lvl L l=Yc L i:=by simp[lvl,c,J]
  rw[G] at I;have c1:¬l<1:=by omega
  have U:¬(s.n:Int)<l:=by omega
  simp[c1,U,B1.hc,w1,Zl r.ok,show i<s.n by omega,hu,O];exact I h1 u O ru
 have c':Zgz L l=false:=by simpa using c
 have G:lvl L l=[]:=by simp[lvl,c']
 rw[G] at I;have H:=I h1 Sl.nil O ⟨Sl.nil_ok,rfl,fun i J=>by simp at J⟩;simp[Zgz] at c';by_cases c1:l<1
 ·simp[c1];exact H
 have U:(s.n:Int)<l:=by omega
 simp[c1,U,B1.hc];exact H
def PcI(u:Sl)(l:Zb)(h0:Zk)(e:Zc)(h':Zk):Prop :=
 ∃(i:Nat)(b c d f g h a:Zj),e=[b,c,d,f,Zg (Wp (l.take i)),g,u.v,Zg u.n,Zg i,h,a]/\i<=u.n/\h'=h0
def Ztc(P:Zhj Y){s:Sl}{L:Za}(r:Wm h s L)(G:s.n<=1000)(hb:∀i,i<L.length->(Yc L i).length<=1000000/\∀j,j<(Yc L i).length->-1<=Zm (Yc L i) j/\Zm (Yc L i) j<4611686018427387904){l:Int}(hl : -9223372036854775808<=l/\l<=9223372036854775807){R:Ze}
  (hr:∀h',Ext h h'->R (Zg (Wp (lvl L l))) h'):Zt Y 190 [W7 s,Zg l] h R:=by
 refine .o P.Count ?_;simp[Y190,Yw.wp,W7];refine Zo ?_;intro B h1 g1 B1 U;have O:(lvl L l).length<=1000000/\∀j,j<(lvl L l).length->-1<=Zm (lvl L l) j/\Zm (lvl L l) j<4611686018427387904:=by
  unfold lvl
  split
  ·rename_i c;simp[Zgz] at c;exact hb _ (by omega)
  simp
 simp[Yf B1];refine Zd1 P (r.cC U) ?_ G hl;intro h2 u e2 I;have lu:=I.len;have H:=I.cC e2;obtain⟨b1,b2⟩:=O;generalize lvl L l=q at *
 simp;refine Zp (PcI u q h2) (fun e _=>u.n-Zx e 8) ⟨0,_,_,_,_,_,_,_,rfl,by omega,rfl⟩ ?_;rintro e h3 ⟨i,a,b,f,g,k,m,aa,rfl,hi,rfl⟩;by_cases c:i<u.n
 ·have c':(i:Int)<u.n:=by omega
  have X:=wrapS (i:=i);obtain⟨g1,g2⟩:=b2 i (by omega);have w2:IntKind.i64.wrap (Zm q i+1)=Zm q i+1:=Zn;have J:=Zaq (l:=q) (i:=i);by_cases d:Wp (q.take i)<=Zm q i
  ·rw[ifP] at J;simp[c',Zl I.ok,H.at c,X,w2,d];rw[<-J];refine nx ⟨i+1,_,_,_,_,_,_,_,rfl,by omega,rfl⟩
  rw[ifN] at J;simp[c',Zl I.ok,H.at c,X,d];rw[<-J];refine nx ⟨i+1,_,_,_,_,_,_,_,rfl,by omega,rfl⟩
 have c':¬(i:Int)<u.n:=by omega
 have:q.take i=q:=Xji (by omega);simp[c',this];exact hr h3 (U.trans e2)
def Zpi(n:Nat)(row:Zb):Bool:=decide (∀v,v<n->0<=Zm row v/\Zm row v<n)
def Zed(row:Zb):Bool:=decide (∀c,c<(Wp row).toNat->∃v,v<row.length/\Zm row v=(c:Int))
def Zd5(n:Nat)(prev row:Zb):Bool:=decide (∀a,a<n->∀b,b<n->Zm prev a<=Zm prev b->Zm row a<=Zm row b)
def lvE(n:Nat)(L:Za)(i:Nat):Int :=
 if (Yc L i).length≠n then 1 else if Zpi n (Yc L i)=false then 10 else if Zed (Yc L i)=false then 10 else
 if 0<i/\Zd5 n (Yc L (i-1)) (Yc L i)=false then 10 else 0
def Zi9{n:Nat}{row:Zb}:Zpi n row=true↔∀v,v<n->0<=Zm row v/\Zm row v<n:=by simp[Zpi]
def Zsh{row:Zb}:Zed row=true↔∀c,c<(Wp row).toNat->∃v,v<row.length/\Zm row v=(c:Int):=by simp[Zed]
def Ze7{n:Nat}{G row:Zb}:Zd5 n G row=true↔∀a,a<n->∀b,b<n->Zm G a<=Zm G b->Zm row a<=Zm row b:=by simp[Zd5]
def Zbu(l:Zb)(c:Nat):Nat:=(l.filter fun x=>x=(c:Int)).length
def Zf9(n:Nat)(l:Zb):Zb:=(List.range n).map fun c=>(Zbu l c:Int)
@[simp] theorem Xeu {n:Nat} {l:Zb}:(Zf9 n l).length=n:=by simp[Zf9]
def Zqn{n c:Nat}{l:Zb}(hc:c<n):Zm (Zf9 n l) c=Zbu l c:=by simp[Zm,Zf9,hc]
def Zrv{n:Nat}:Zf9 n []=List.replicate n 0:=by
 apply Xjp (by simp);intro j h1 G;simp[Zf9,Zbu]
def Z0u{l:Zb}{i c:Nat}(G:i<l.length):Zbu (l.take (i+1)) c=Zbu (l.take i) c+if Zm l i=(c:Int) then 1 else 0:=by
 unfold Zbu;rw[Xjc G,Xmd,List.length_append,show Zm l i=l[i] by simp[Zm,G]]
 congr 1
 by_cases h:l[i]=(c:Int)<;>simp[h]
def Zyh{l:Zb}{c:Nat}:Zbu l c<=l.length:=Xki ..
def Zo0{n i t:Nat}{l:Zb}(G:i<l.length)(ht:Zm l i=(t:Int))(H:t<n):(Zf9 n (l.take i)).set t ((Zbu (l.take i) t:Int)+1)=Zf9 n (l.take (i+1)):=by
 apply Xjp (by simp);intro j h1 I;rw[Xky];simp only[Zf9,Xkd,Xlt];rw[Z0u G,ht];by_cases c:t=j
 ·subst c;simp
 have:¬(t:Int)=(j:Int):=by omega
 simp[c,this]
def Zmg{l:Zb}{c:Nat}:Zbu l c≠0↔∃v,v<l.length/\Zm l v=(c:Int):=by
 unfold Zbu;rw[Ne,Xmt,Xmu];constructor
 ·intro h;simp only[decide_eq_true_eq] at h;have ⟨x,hx,hc⟩:∃x∈l,x=(c:Int):=by
   apply Classical.byContradiction;intro G;exact h fun a H e=>G ⟨a,H,e⟩
  obtain⟨v,hv,rfl⟩:=Xju hx;exact⟨v,hv,by simp[Zm,hv];exact hc⟩
 rintro⟨v,hv,e⟩ h;have:=h l[v] (Xi7 hv);simp[Zm,hv] at e;simp[e] at this
def Ze6{row:Zb}:Zed row=true↔∀c,c<(Wp row).toNat->Zbu row c≠0:=by
 rw[Zsh];exact⟨fun h c hc=>Zmg.2 (h c hc),fun h c hc=>Zmg.1 (h c hc)⟩
structure Xf2(Y:Sys):Prop where
 P:Zy1 Y
 checkLevel:Y.cL 215 Y215
@[simp] theorem Xbp:Ym.cK Y h .len [Zi]=some (Zg 0):=rfl
def Zs5{K:Ze}{b n m:Nat}{cs:Zb}(o:Yh h 1 (Sl.at b n m) (Zu cs)){k:Nat}{y:Int}(H:∀h',Yh h' 1 (Sl.at b n m) (Zu (cs.set k y))->Mod (fun j=>j=b) h h'->K undef h')(G:k<cs.length:=by omega):Xo h b k (Zg y) K:=by
 have:=Xff o G H;simpa using this
def Xic(n B l:Nat)(w:Zj)(u:Sl)(row:Zb)(h0:Zk)(e:Zc)(h':Zk):Prop :=
 ∃(i:Nat)(x y a b c d f g h k m o p q r s t:Zj),e=[Zg n,w,Zg ((l:Int)+1),Zi,Zh B,Zg 0,u.v,Zg i,x,y,a,b,c,d,f,g,h,k,m,o,p,q,r,s,t]/\i<=n/\(∀j,j<i->0<=Zm row j/\Zm row j<n)/\h'=h0
def Xg5(n B l:Nat)(y:Zj)(u k:Sl)(row:Zb)(h0:Zk)(e:Zc)(h':Zk):Prop :=
 ∃(i:Nat)(z a c d f g h m o p q r s t w x:Zj),e=[Zg n,y,Zg ((l:Int)+1),Zi,Zh B,Zg 0,u.v,z,k.v,Zg i,a,c,d,f,g,h,m,o,p,q,r,s,t,w,x]/\i<=n/\Yh h' 1 k (Zu (Zf9 n (row.take i)))/\Mod (fun j=>j=k.b) h0 h'
def Xhu(n B l:Nat)(w:Zj)(u k:Sl)(row:Zb)(h0:Zk)(e:Zc)(h':Zk):Prop :=
 ∃(i:Nat)(x y a b c d f g h m o p q r s t:Zj),e=[Zg n,w,Zg ((l:Int)+1),Zi,Zh B,Zg 0,u.v,x,k.v,y,Zg i,a,b,c,d,f,g,h,m,o,p,q,r,s,t]/\(i:Int)<=Wp row/\(∀j,j<i->Zbu row j≠0)/\h'=h0
def Xhm(n B l:Nat)(x:Zj)(u k:Sl)(prev row:Zb)(h0:Zk)(e:Zc)(h':Zk):Prop :=
 ∃(i:Nat)(y z c d f g h j m o p q r s t w:Zj),e=[Zg n,x,Zg ((l:Int)+1),Zi,Zh B,Zg 0,u.v,y,k.v,z,c,Zg i,d,f,g,h,j,m,o,p,q,r,s,t,w]/\i<=n/\(0<l->∀a,a<i->∀b,b<n->Zm prev a<=Zm prev b->Zm row a<=Zm row b)/\h'=h0
def Xhk(n B l a:Nat)(w:Zj)(u k:Sl)(prev row:Zb)(h0:Zk)(e:Zc)(h':Zk):Prop :=
 ∃(i:Nat)(x y c d f g h j m o p q r s t:Zj),e=[Zg n,w,Zg ((l:Int)+1),Zi,Zh B,Zg 0,u.v,x,k.v,y,c,Zg a,Zg i,d,f,g,h,j,m,o,p,q,r,s,t]/\i<=n/\(∀b,b<i->Zm prev a<=Zm prev b->Zm row a<=Zm row b)/\h'=h0
def Xhi(n B l:Nat)(s:Zj)(h0:Zk)(e:Zc)(h':Zk):Prop :=
 ∃(i:Nat)(t u v w a b c d f g h j k m o p q r:Zj),e=[Zg n,s,Zg ((l:Int)+1),Zi,Zh B,Zg 0,t,u,v,w,a,b,c,Zg i,d,f,g,h,j,k,m,o,p,q,r]/\i<=n/\h'=h0
def Zx4(C:Xf2 Y){s:Sl}{L:Za}(r:Wm h s L)(bj:s.n<=1000){n l:Nat}(hn:n<=1000000)(hl:l<L.length)(aE:0<l->(Yc L (l-1)).length=n){R:Ze}
  (G:∀h',Ext h h'->R (Zg (lvE n L l)) h'):Zt Y 215 [Zg n,W7 s,Zg ((l:Int)+1),Zi] h R:=by
 refine .o C.checkLevel ?_;have lL:=r.len;simp[Y215,Yw.wp,W7];refine Zo ?_;intro B h1 g1 B1 e1;obtain⟨u,hu,ru⟩:=r.at (i:=l) (by omega)
 have lu:=ru.len;have wl:IntKind.i64.wrap ((l:Int)+1-1)=(l:Int):=by rw[Zn];omega
 have aO:IntKind.i64.wrap (l:Int)=(l:Int):=Zn;have aP:l<s.n:=by omega
 by_cases c1:(Yc L l).length=n;rotate_left
 ·have he:lvE n L l=1:=by unfold lvE;rw[if_pos c1]
  rw[he] at G;have aF:((u.n:Int)=(n:Int))=False:=by simp;omega
  simp[B1.hc,aO,Zl r.ok,aP,hu,e1,aF];exact G h1 e1
 have aF:((u.n:Int)=(n:Int))=True:=by simp;omega
 have c1n:(u.n=n)=True:=by simp;omega
 obtain⟨row,aD⟩:∃row,row=Yc L l:=⟨_,rfl⟩
 have hE:lvE n L l=if Zpi n row=false then 10 else if Zed row=false then 10 else if 0<l/\Zd5 n (Yc L (l-1)) row=false then 10 else 0:=by
  unfold lvE;rw[if_neg (by simp[c1]),aD]
 rw[hE] at G;clear hE;rw[<-aD] at ru lu c1;simp[B1.hc,aO,Zl r.ok,aP,hu,e1,aF];refine Zp (Xic n B l (.agg #[s.v]) u row h1) (fun e _=>n-Zx e 7) ⟨0,_,_,_,_,_,_,_,_,_,_,_,_,_,_,_,_,_,rfl,by omega,fun j hj=>by omega,rfl⟩ ?_;rintro e h2 ⟨i,v8,v9,bm,bn,bo,bp,bq,br,bs,bu,bv,bw,bx,bz,bA,bB,bC,rfl,hi,am,rfl⟩;have aw:=ru.cC e1;by_cases c2:i<n
 ·have an:(i:Int)<n:=by omega
  have w1:=wrapS (i:=i);have aG:i<u.n:=by omega
  have ao:(i:Int)<u.n:=by omega
  by_cases d:0<=Zm row i/\Zm row i<n
  ·have d1:¬Zm row i<0:=by omega
   have d2:¬(n:Int)<=Zm row i:=by omega
   simp[an,Zl ru.ok,ao,aw.at aG,d1,d2,w1];have aQ:∀j,j<i+1->0<=Zm row j/\Zm row j<n:=by
    intro j hj;rcases Xi6 j i with g|g
    ·exact am j g
    obtain rfl:j=i:=by omega
    exact d
   refine nx ⟨i+1,_,_,_,_,_,_,_,_,_,_,_,_,_,_,_,_,_,rfl,by omega,aQ,rfl⟩
  have he:Zpi n row=false:=by
   rw[Xk6];intro hh;exact d (Zi9.1 hh i c2)
  rw[if_pos he] at G;by_cases d1:Zm row i<0
  ·simp[an,Zl ru.ok,ao,aw.at aG,d1];exact G _ e1
  have d2:(n:Int)<=Zm row i:=by omega
  simp[an,Zl ru.ok,ao,aw.at aG,d1,d2];exact G _ e1
 have an:¬(i:Int)<n:=by omega
 obtain rfl:i=n:=by omega
 have aZ:Zpi i row=true:=Zi9.2 am;rw[if_neg (by simp[aZ])] at G;simp[an];refine Zf4 (n:=i) hn rfl ?_;intro kb h3 g3 o3 e3 l3;rw[<-Zrv] at o3;simp;refine Zp (Xg5 i B l (.agg #[s.v]) u (Sl.at kb i i) row h3) (fun e _=>i-Zx e 9) ⟨0,_,_,_,_,_,_,_,_,_,_,_,_,_,_,_,_,rfl,by omega,by simpa using o3,Mod.refl _⟩ ?_;rintro e h4 ⟨v,w7,aj,ax,H,I,J,O,U,X,aa,ab,ap,ac,ad,ae,af,rfl,hv,o4,m4⟩;have x4:Ext h2 h4:=Mod.cC e3 m4 (fun j hj=>by rw[hj];exact g3);have ak:=aw.cC x4;have ko:=o4.ok;by_cases c3:v<i
 ·have aH:(v:Int)<i:=by omega
  have w1:=wrapS (i:=v);have a0:v<u.n:=by omega
  have aR:(v:Int)<u.n:=by omega
  obtain⟨d1,d2⟩:=am v c3;obtain⟨t,ht⟩:∃t:Nat,Zm row v=t:=⟨(Zm row v).toNat,by omega⟩
  have aS:t<i:=by omega
  have kx:=Zl (Y:=Y) (h:=h4) (s:=Sl.at kb i i) (sz:=1) (k:=.i64) (i:=(t:Int)) ko (by omega) (by simp;omega);simp at kx;have kc:=o4.cE.val t (by simp;omega);simp[Zqn aS] at kc;have cl:=Zyh (l:=row.take v) (c:=t);have bD:(row.take v).length<=v:=by simp;omega
  have w2:IntKind.i64.wrap ((Zbu (row.take v) t:Int)+1)=(Zbu (row.take v) t:Int)+1:=Zn;simp[aH,Zl ru.ok,aR,ak.at a0,ht,kx,kc,w2];refine Zs5 o4 (k:=t) ?_ (by simp;omega);intro h5 o5 m5;rw[Zo0 (by omega) ht aS] at o5;simp[w1];refine nx ⟨v+1,_,_,_,_,_,_,_,_,_,_,_,_,_,_,_,_,rfl,by omega,o5,m4.trans m5⟩
 have aH:¬(v:Int)<i:=by omega
 obtain rfl:v=i:=by omega
 rw[Xji (by omega)] at o4;have a1:=o4.cE;obtain⟨bE,bF,bG⟩:=Zc8 (l:=row) (n:=(v:Int)) (by omega) (fun j hj=>(am j (by omega)).2);have kx:=fun(j:Nat)(hj:j<v)=>Zl (Y:=Y) (h:=h4) (s:=Sl.at kb v v) (sz:=1) (k:=.i64) (i:=(j:Int)) ko (by omega) (by simp;omega);have kc:=fun(j:Nat)(hj:j<v)=>a1.val j (by simp;omega);simp at kx;have ag:∀{K:Ze},K (Zg (Wp row)) h4->Zt Y 212 [u.v] h4 K:=fun hK=>Zss C.P ak (by omega) (fun j hj=>by have:=am j (by omega);omega) hK;clear o3 m4 e3;simp[aH];refine Zp (Xhu v B l (.agg #[s.v]) u (Sl.at kb v v) row h4) (fun e _=>(Wp row).toNat-Zx e 10) ⟨0,_,_,_,_,_,_,_,_,_,_,_,_,_,_,_,_,rfl,by omega,fun j hj=>by omega,rfl⟩ ?_;rintro e h5 ⟨c,w7,w9,ax,H,I,J,O,U,X,aa,ab,ap,ac,ad,ae,af,rfl,bH,aT,a2⟩;subst a2;by_cases c4:(c:Int)<Wp row
 ·have w1:=wrapS (i:=c);have ay:c<v:=by omega
  have bk:(c:Int)<v:=by omega
  have aq:=kc c ay;rw[Zqn ay] at aq;simp at aq;simp;refine ag ?_;by_cases d:Zbu row c=0
  ·have he:Zed row=false:=by
    rw[Xk6];intro hh;exact Ze6.1 hh c (by omega) d
   rw[if_pos he] at G;rw[d] at aq;simp[c4,kx c ay,aq];exact G _ (e1.trans x4)
  have d':((Zbu row c:Int)=0)=False:=by simp;omega
  simp[c4,kx c ay,aq,d,w1];have aU:∀j,j<c+1->Zbu row j≠0:=by
   intro j hj;rcases Xi6 j c with g|g
   ·exact aT j g
   obtain rfl:j=c:=by omega
   exact d
  refine nx ⟨c+1,_,_,_,_,_,_,_,_,_,_,_,_,_,_,_,_,rfl,by omega,aU,rfl⟩
 have hF:Zed row=true:=Ze6.2 (fun j hj=>aT j (by omega));rw[if_neg (by simp[hF])] at G;simp;refine ag ?_;simp[c4];clear ag;have a3:0<l->∃q:Sl,(∀g,Ext h g->hc g s.b (s.o+(l-1))=some q.v)/\Zw h q (Yc L (l-1)):=fun h0=>r.at (i:=l-1) (by omega)
 refine Zp (Xhm v B l (.agg #[s.v]) u (Sl.at kb v v) (Yc L (l-1)) row h5) (fun e _=>v-Zx e 11) ⟨0,_,_,_,_,_,_,_,_,_,_,_,_,_,_,_,_,rfl,by omega,fun _ a ha=>by omega,rfl⟩ ?_;rintro e h6 ⟨a,w7,w9,aj,H,I,J,O,U,X,aa,ab,ap,ac,ad,ae,af,rfl,ha,ah,a4⟩;subst a4;have x6:Ext h h6:=e1.trans x4;have done:(0<l->Zd5 v (Yc L (l-1)) row=true)->∀(w7 w9 aj ax H I J O U X aa ab ap ac ad ae af:Zj),Stmt.wp Y Y215.body.rest.rest.rest.rest.rest.rest.rest.rest (Up Y215.res R) (fun _ _ _=>False) (Up Y215.res R)
   [Zg v,.agg #[s.v],Zg ((l:Int)+1),Zi,Zh B,Zg 0,u.v,w7,(Sl.at kb v v).v,w9,aj,ax,H,I,J,O,U,X,aa,ab,ap,ac,ad,ae,af] h6:=by
  intro hN w7 w9 aj ax H I J O U X aa ab ap ac ad ae af;rw[if_neg (by rintro⟨q1,q2⟩;rw[hN q1] at q2;cases q2)] at G;simp[Y215,Stmt.rest];refine Zp (Xhi v B l (.agg #[s.v]) h6) (fun e _=>v-Zx e 13) ⟨0,_,_,_,_,_,_,_,_,_,_,_,_,_,_,_,_,_,_,rfl,by omega,rfl⟩ ?_;rintro e h7 ⟨i,y6,y7,y8,y9,a5,bJ,bK,a6,a7,a8,a9,ba,bb,bc,bd,be,bg,bh,rfl,hi,aI⟩;subst aI;by_cases c5:(i:Int)<v
  ·simp[c5];exact G h7 x6
  simp[c5];exact G h7 x6
 simp only[Y215,Stmt.rest] at done;by_cases c6:a<v;rotate_left
 ·have az:¬(a:Int)<v:=by omega
  have tt:=done (fun h0=>Ze7.2 (fun x hx=>ah h0 x (by omega))) w7 w9 aj (Zg a) H I J O U X aa ab (.bool false) ac ad ae af;simp at tt;simp[az];exact tt
 have az:(a:Int)<v:=by omega
 by_cases aA:0<l;rotate_left
 ·have l1:¬(1:Int)<(l:Int)+1:=by omega
  have tt:=done (fun h0=>absurd h0 aA) w7 w9 aj (Zg a) H I J O U X aa ab (.bool false) ac ad ae af;simp at tt;have l0:l=0:=by omega
  simp[az,l0] at tt ⊢;exact tt
 clear done;have l1:(1:Int)<(l:Int)+1:=by omega
 obtain⟨q,hq,rq⟩:=a3 aA;have bi:=aE aA;have lq:=rq.len;have aB:IntKind.i64.wrap ((l:Int)+1-2)=((l-1:Nat):Int):=by rw[Zn];omega
 obtain⟨m,hm⟩:∃m,m=l-1:=⟨_,rfl⟩
 rw[<-hm] at aB hq rq bi lq G ah ⊢;have bL:m<s.n:=by omega
 have ar:(m:Int)<s.n:=by omega
 have al:=rq.cC x6;have B6:=B1.cC x4;simp[az,l1];refine Zp (Xhk v B l a (.agg #[s.v]) u (Sl.at kb v v) (Yc L m) row h6) (fun e _=>v-Zx e 12) ⟨0,_,_,_,_,_,_,_,_,_,_,_,_,_,_,_,rfl,by omega,fun b hb=>by omega,rfl⟩ ?_;rintro e h7 ⟨b,y7,y9,a5,bM,a6,a7,a8,a9,ba,bb,bc,bd,be,bg,bh,rfl,hb,aJ,aI⟩;subst aI;have w1:=wrapS (i:=a);have w2:=wrapS (i:=b);by_cases c7:b<v;rotate_left
 ·have au:¬(b:Int)<v:=by omega
  simp[au,w1];have aC:0<l->∀x,x<a+1->∀y,y<v->Zm (Yc L m) x<=Zm (Yc L m) y->Zm row x<=Zm row y:=by
   intro h0 x hx y hy ai;rcases Xi6 x a with g|g
   ·exact ah h0 x g y hy ai
   obtain rfl:x=a:=by omega
   exact aJ y (by omega) ai
  refine nx ⟨a+1,_,_,_,_,_,_,_,_,_,_,_,_,_,_,_,_,rfl,by omega,aC,rfl⟩
 have au:(b:Int)<v:=by omega
 have aK:a<q.n:=by omega
 have aL:(a:Int)<q.n:=by omega
 have aM:b<q.n:=by omega
 have aN:(b:Int)<q.n:=by omega
 have aV:a<u.n:=by omega
 have aW:(a:Int)<u.n:=by omega
 have aX:b<u.n:=by omega
 have aY:(b:Int)<u.n:=by omega
 by_cases d1:Zm (Yc L m) a<=Zm (Yc L m) b;rotate_left
 ·simp[au,B6.hc,aB,Zl r.ok,ar,hq,x6,Zl rq.ok,aL,aN,al.at aK,al.at aM,d1,w2];have av:∀y,y<b+1->Zm (Yc L m) a<=Zm (Yc L m) y->Zm row a<=Zm row y:=by
   intro y hy ai;rcases Xi6 y b with g|g
   ·exact aJ y g ai
   obtain rfl:y=b:=by omega
   exact absurd ai d1
  refine nx ⟨b+1,_,_,_,_,_,_,_,_,_,_,_,_,_,_,_,rfl,by omega,av,rfl⟩
 by_cases d2:Zm row b<Zm row a
 ·have he:Zd5 v (Yc L m) row=false:=by
   rw[Xk6];intro hh;have:=Ze7.1 hh a c6 b c7 d1;omega
  rw[if_pos ⟨aA,he⟩] at G;simp[au,B6.hc,aB,Zl r.ok,ar,hq,x6,Zl rq.ok,aL,aN,al.at aK,al.at aM,d1,Zl ru.ok,aW,aY,ak.at aV,ak.at aX,d2];exact G _ x6
 simp[au,B6.hc,aB,Zl r.ok,ar,hq,x6,Zl rq.ok,aL,aN,al.at aK,al.at aM,d1,Zl ru.ok,aW,aY,ak.at aV,ak.at aX,d2,w2];have av:∀y,y<b+1->Zm (Yc L m) a<=Zm (Yc L m) y->Zm row a<=Zm row y:=by
  intro y hy ai;rcases Xi6 y b with g|g
  ·exact aJ y g ai
  obtain rfl:y=b:=by omega
  omega
 refine nx ⟨b+1,_,_,_,_,_,_,_,_,_,_,_,_,_,_,_,rfl,by omega,av,rfl⟩
abbrev Znw:ByteArray:=⟨#[112,97,114,116]⟩
def Zln(n:Nat)(L:Za):Nat->Nat->Wr
 |_,0=>wOK
 |i,k+1=>if lvE n L i≠0 then atW Znw ((i:Int)+1) (lvE n L i) else Zln n L (i+1) k
def Zcq(n:Nat)(L:Za):Wr:=if 4096<n\/6<L.length then atW Znw 0 4 else if L.length=0 then atW Znw 0 1 else Zln n L 0 L.length
structure Yq(n:Nat)(L:Za):Prop where
 bn:n<=4096
 bL:L.length<=6
 pos:0<L.length
 lv:∀i,i<L.length->lvE n L i=0
def Z0v{n:Nat}{L:Za}:∀{k i:Nat},(Zln n L i k).2=0↔∀j,j<k->lvE n L (i+j)=0:=by
 intro k
 induction k with
 |zero=>intro i;simp[Zln,wOK]
 |succ k G =>
  intro i;simp only[Zln];by_cases h:lvE n L i=0
  ·rw[if_neg (by simp[h]),G];constructor
   ·intro g j H
    cases j with
    |zero=>exact h
    |succ j=>rw[show i+(j+1)=i+1+j by omega];exact g j (by omega)
   intro g j H;rw[show i+1+j=i+(j+1) by omega];exact g (j+1) (by omega)
  rw[if_pos h];simp only[atW];exact⟨fun g=>absurd g h,fun g=>g 0 (by omega)⟩
def Zwo{n:Nat}{L:Za}:(Zcq n L).2=0↔Yq n L:=by
 unfold Zcq;by_cases h1:4096<n\/6<L.length
 ·rw[if_pos h1];simp only[atW];exact⟨fun g=>(by cases g),fun g=>by have:=g.bn;have:=g.bL;omega⟩
 rw[if_neg h1];by_cases G:L.length=0
 ·rw[if_pos G];simp only[atW];exact⟨fun g=>(by cases g),fun g=>by have:=g.pos;omega⟩
 rw[if_neg G,Z0v];constructor
 ·intro g;exact⟨by omega,by omega,by omega,fun i H=>by have:=g i H;rwa [Xjs] at this⟩
 intro g j I;rw[Xjs];exact g.lv j I
def Qp{n i:Nat}{L:Za}(h:lvE n L i=0):(Yc L i).length=n/\(∀v,v<n->0<=Zm (Yc L i) v/\Zm (Yc L i) v<n)/\(∀c,c<(Wp (Yc L i)).toNat->Zbu (Yc L i) c≠0) /\
  (0<i->∀a,a<n->∀b,b<n->Zm (Yc L (i-1)) a<=Zm (Yc L (i-1)) b->Zm (Yc L i) a<=Zm (Yc L i) b):=by
 unfold lvE at h
 split at h
 ·cases h
 rename_i h1
 split at h
 ·cases h
 rename_i G
 split at h
 ·cases h
 rename_i H
 split at h
 ·cases h
 rename_i h4;refine⟨by simpa using h1,Zi9.1 (by simpa using G),Ze6.1 (by simpa using H),fun h0=>Ze7.1 ?_⟩
 cases hq:Zd5 n (Yc L (i-1)) (Yc L i) with
 |true=>rfl
 |false=>exact absurd ⟨h0,hq⟩ h4
def Zrl(L:Za):Bool:=decide ((∀i,i<L.length->(Yc L i).length<=60)/\L.length<=10)
def Zeo(n:Nat)(L:Za):Bool:=Zrl L && decide (n<=60) && decide ((Zcq n L).2=0)
structure Xf8(Y:Sys):Prop where
 C:Xf2 Y
 CheckPart:Y.cL 199 Y199
 At:Y.cL 50 Y50
def Xhz(n B W:Nat)(c:Zj)(L:Za)(h0:Zk)(e:Zc)(h':Zk):Prop :=
 ∃(i:Nat)(d f g h a b:Zj),e=[Zg n,c,Zi,Zh B,Zh W,Zg ((i:Int)+1),d,f,g,h,a,b]/\i<=L.length/\(∀j,j<i->lvE n L j=0)/\Zln n L 0 L.length=Zln n L i (L.length-i)/\Ext h0 h'
def Zmh(C:Xf8 Y){s:Sl}{L:Za}(r:Wm h s L)(aa:s.n<=1000){n:Nat}(hn:n<=1000000){R:Ze}
  (hr:∀h' v,Ext h h'->FWr h.size h' (Zcq n L) v->R v h'):Zt Y 199 [Zg n,W7 s,Zi] h R:=by
 refine .o C.CheckPart ?_;have lL:=r.len;simp[Y199,Yw.wp,W7];refine Zo ?_;intro B h1 g1 B1 e1;simp;refine Zo ?_;intro W h2 g2 W2 e2;have ab:=e1.trans e2;have z1:=e1.size;have z2:=e2.size;have lW:=W2.lt;have G:∀{O h4:Zk}{v:Zj},Ext h2 O->FWr h2.size O (Zcq n L) v->Mod (fun j=>j=W) O h4->R v h4:=by
  intro O h4 v e3 fw I;exact hr h4 v (Mod.cC (ab.trans e3) I (fun j hj=>by omega)) ((fw.step I (fun j hj=>by omega)).mono (by omega))
 have n0:¬(n:Int)<0:=by omega
 by_cases c1:4096<n
 ·have H:(4096:Int)<n:=by omega
  have hp:Zcq n L=atW Znw 0 4:=by unfold Zcq;rw[if_pos (.inl c1)]
  rw[hp] at G;simp[n0,H];refine Zda C.At ?_;intro O v e3 hv;obtain⟨s5,rfl⟩:=hv.cH.shape;simp;refine Zy (W2.cC e3) ?_;intro h4 W4 I;simp;exact Vf rfl W4 rfl (G e3 hv I)
 have H:¬(4096:Int)<n:=by omega
 by_cases c2:6<s.n
 ·have U:(6:Int)<s.n:=by omega
  have hp:Zcq n L=atW Znw 0 4:=by unfold Zcq;rw[if_pos (.inr (by omega))]
  rw[hp] at G;simp[n0,H,U,B1.sk,e2];refine Zda C.At ?_;intro O v e3 hv;obtain⟨s5,rfl⟩:=hv.cH.shape;simp;refine Zy (W2.cC e3) ?_;intro h4 W4 I;simp;exact Vf rfl W4 rfl (G e3 hv I)
 have U:¬(6:Int)<s.n:=by omega
 by_cases c3:s.n=0
 ·have hp:Zcq n L=atW Znw 0 1:=by unfold Zcq;rw[ifN,ifP]
  rw[hp] at G;simp[n0,H,B1.sk,e2,c3];refine Zda C.At ?_;intro O v e3 hv;obtain⟨s5,rfl⟩:=hv.cH.shape;simp;refine Zy (W2.cC e3) ?_;intro h4 W4 I;simp;exact Vf rfl W4 rfl (G e3 hv I)
 have ae:((s.n:Int)=0)=False:=by simp;omega
 have hp:Zcq n L=Zln n L 0 L.length:=by unfold Zcq;rw[ifN,ifN]
 rw[hp] at G;simp[n0,H,U,B1.sk,e2,c3];refine Zp (Xhz n B W (.agg #[s.v]) L h2) (fun e _=>L.length+1-Zx e 5) ⟨0,_,_,_,_,_,_,rfl,by omega,fun j hj=>by omega,rfl,Mod.refl _⟩ ?_;rintro e O ⟨i,v6,v7,v8,v9,af,ag,rfl,hi,hz,J,e3⟩;have B3:=(B1.cC e2).cC e3;by_cases c4:i<s.n
 ·have X:(i:Int)+1<=s.n:=by omega
  simp[B3.hc,X,Yf B3];refine Zx4 C.C (r.cC (ab.trans e3)) aa hn (by omega) (fun h0=>?_) ?_
  ·exact (Qp (hz (i-1) (by omega))).1
  intro h4 e4;have w1:IntKind.i64.wrap ((i:Int)+1+1)=(i:Int)+1+1:=Zn;have hk:L.length-i=(L.length-(i+1))+1:=by omega
  rw[hk] at J;by_cases d:lvE n L i=0
  ·simp only[Zln] at J;rw[if_neg (by simp[d])] at J;have ad:∀j,j<i+1->lvE n L j=0:=by
    intro j hj;rcases Xi6 j i with g|g
    ·exact hz j g
    obtain rfl:j=i:=by omega
    exact d
   simp[d,w1];exact nx ⟨i+1,_,_,_,_,_,_,by rfl,by omega,ad,J,e3.trans e4⟩
  simp only[Zln] at J;rw[if_pos d] at J;rw[J] at G;simp[d];refine Zda C.At ?_;intro h5 v e5 hv;obtain⟨s5,rfl⟩:=hv.cH.shape;simp;have ac:=(e3.trans e4).trans e5;refine Zy (W2.cC ac) ?_;intro h6 W6 m6;have:=e3.size;have:=e4.size;simp;exact Vf rfl W6 rfl (G ac (hv.mono (by omega)) m6)
 have X:¬(i:Int)+1<=s.n:=by omega
 have hk:L.length-i=0:=by omega
 rw[hk] at J;simp only[Zln] at J;rw[J] at G;simp[B3.hc,X];refine Zy (W2.cC e3) ?_;intro h4 W4 I;simp;exact Vf rfl W4 rfl (G e3 FWr.ok I)
structure Zpo(Y:Sys):Prop where
 Pt:Xf8 Y
 Few13:Y.cL 198 Y198
 May13:Y.cL 186 Y186
 Few3:Y.cL 98 Y98
 May3:Y.cL 104 Y104
 RN:Z8d Y
 RC:Z3f Y
def FpI(B:Nat)(v0:Zj)(L:Za)(h0:Zk)(e:Zc)(h':Zk):Prop :=
 ∃(i:Nat)(v2 v4 v5:Zj),e=[v0,Zh B,v2,Zg i,v4,v5]/\i<=L.length/\(∀j,j<i->(Yc L j).length<=60)/\h'=h0
def Zw5(M:Zpo Y){s:Sl}{L:Za}(r:Wm h s L)(X:s.n<=9223372036854775807){R:Ze}(G:∀h',Ext h h'->R (.bool (Zrl L)) h'):Zt Y 198 [W7 s] h R:=by
 refine .o M.Few13 ?_;have lL:=r.len;have aa:=r.ok;simp[Y198,Yw.wp,W7];refine Zo ?_;intro B h1 g1 B1 H;simp;refine Zp (FpI B (.agg #[s.v]) L h1) (fun e _=>L.length-Zx e 3) ⟨0,_,_,_,rfl,by omega,fun j hj=>by omega,rfl⟩ ?_;rintro e h2 ⟨i,v2,v4,v5,rfl,hi,hz,I⟩;subst I;by_cases c:i<s.n
 ·have c':(i:Int)<s.n:=by omega
  have w1:=wrapS (i:=i);obtain⟨u,hu,ru⟩:=r.at (i:=i) c;have lu:=ru.len;by_cases d:60<u.n
  ·have J:(60:Int)<u.n:=by omega
   have hf:Zrl L=false:=by
    unfold Zrl;have:¬∀j,j<L.length->(Yc L j).length<=60:=fun I=>by have:=I i (by omega);omega
    simp[this]
   rw[hf] at G;simp[B1.hc,c',Zl r.ok,hu,H,J];exact G _ H
  have J:¬(60:Int)<u.n:=by omega
  have O:∀j,j<i+1->(Yc L j).length<=60:=by
   intro j hj;rcases Xi6 j i with g|g
   ·exact hz j g
   obtain rfl:j=i:=by omega
   omega
  simp[B1.hc,c',Zl r.ok,hu,H,J,w1];refine nx ⟨i+1,_,_,_,rfl,by omega,O,rfl⟩
 have c':¬(i:Int)<s.n:=by omega
 have hf:Zrl L=decide (L.length<=10):=by
  unfold Zrl;have:∀j,j<L.length->(Yc L j).length<=60:=fun j hj=>hz j (by omega);simp only[eq_true this,true_and]
 rw[hf] at G;have U:decide ((s.n:Int)<=10)=decide (L.length<=10):=by rw[lL];congr 1;simp;omega
 simp[B1.hc,c',U];exact G _ H
def Zx9(M:Zpo Y){s:Sl}{L:Za}(r:Wm h s L)(H:s.n<=9223372036854775807){n:Nat}{R:Ze}(G:∀h',Ext h h'->R (.bool (Zeo n L)) h'):Zt Y 186 [Zg n,W7 s] h R:=by
 refine .o M.May13 ?_;have U:=r.len;simp[Y186,Yw.wp,W7];refine Zo ?_;intro B h1 X B1 O;simp[Yf B1];refine Zw5 M (r.cC O) H ?_;intro h2 e2;have I:=O.trans e2;by_cases c:Zrl L=true;rotate_left
 ·have c':Zrl L=false:=by simpa using c
  have hf:Zeo n L=false:=by simp[Zeo,c']
  rw[hf] at G;simp[c'];exact G _ I
 by_cases d:n<=60;rotate_left
 ·have J:¬(n:Int)<=60:=by omega
  have hf:Zeo n L=false:=by simp[Zeo,d]
  rw[hf] at G;simp[c,J];exact G _ I
 have J:(n:Int)<=60:=by omega
 have hf:Zeo n L=decide ((Zcq n L).2=0):=by simp[Zeo,c,d]
 rw[hf] at G;have c':=c;simp[Zrl] at c';simp[c,J,Yf (B1.cC e2)];refine Zmh M.Pt (r.cC I) (by omega) (by omega) ?_;intro h3 v e3 hv;obtain⟨s5,rfl⟩:=hv.cH.shape;simp;exact G _ (I.trans e3)
def Z0w(M:Zpo Y){I J O:Sl}{N:Zs}(r:Z2 h I J O N){R:Ze}(G:∀h',Ext h h'->R (.bool (Zqb N)) h'):Zt Y 104 [Xp I J O] h R:=by
 refine .o M.May3 ?_;simp[Y104,Yw.wp,Xp];refine Zo ?_;intro B hB gB U X;simp[Yf U];refine Z33 M.Few3 (r.cC X) ?_;intro h1 e1;have H:=X.trans e1;by_cases c:Zay N=true;rotate_left
 ·have c':Zay N=false:=by simpa using c
  simp[Zqb,c'] at G;simp[c'];exact G _ H
 simp[Zqb,c] at G;simp[c,Yf (U.cC e1)];refine Zlk M.RN M.RC (r.cC H) ?_;intro h2 v e2 hv;obtain⟨s5,rfl⟩:=hv.cH.shape;simp;exact G _ (H.trans e2)
def Zq7(lo:Nat)(h:Zk)(s:Sl)(P:List (Zb × Sl)):Prop :=
 ∀q∈P,Zw h q.2 q.1/\(q.1≠[]->lo<=q.2.b/\(s.nl=false->q.2.b≠s.b)/\q.2.b<h.size)
def Yh.rowL{s:Sl}{P:List (Zb × Sl)}{l:Za}(o:Yh h 1 s (P.map fun p=>p.2.v))(I:P.map Prod.fst=l)(hP:∀p∈P,Zw h p.2 p.1):Wm h s l:=by
 have H:=o.1;simp at H;subst I;refine⟨o.ok,by simpa using H,fun i G=>?_⟩;have G:i<P.length:=by simpa using G
 have e:Yc (P.map Prod.fst) i=P[i].1:=by rw[Zpm (by simpa using G)];simp
 rw[e];exact⟨P[i].2,o.cell (by simp[G]),hP _ (Xi7 G)⟩
def Xg{K:Ze}{z v:Zj}(G:∀(b:Nat)(h':Zk),h.size<=b->Yo h' b #[v]->Ext h h'->K (.slice (some ⟨b,0,none⟩) 1 1) h')(hv:v.oneCell'=true:=by rfl):
  Ef.wp h K (.bslice 1 1 #[z] [0]) [v]:=by
 rw[Zlr hv];exact fun t=>G _ _ (Xi4 _) Yo.new Mod.push
def Wa{K:Ze}{bytes b:Nat}{z v:Zj}{s:Sl}{cells:Zc}(hv:v.oneCell'=true)(o:Yh h 1 s cells)(hb:Yo h b #[v])(J:∀(G:Sl)(h':Zk),Yh h' 1 G (cells++[v])->G.n=s.n+1->Mod (fun j=>s.nl=false/\j=s.b) h h'->((G.b=s.b/\G.nl=s.nl)\/(h.size<=G.b/\G.nl=false))->K G.v h')(H:(s.n+1) * bytes<=140737488355328:=by omega)(I:s.n+1<=9223372036854775807:=by omega) :
  Ef.wp h K (.append 1 bytes #[z]) [s.v,.slice (some ⟨b,0,none⟩) 1 1]:=by
 have O:Wi h 1 1 (.slice (some ⟨b,0,none⟩) 1 1)=some [v]:=by
  rw[Zik];exact Yf hb rfl
 exact Ul o (m:=1) (nw:=[v]) rfl O rfl (by simpa using hv) rfl H I J
structure Z4u(Y:Sys):Prop where
 To:Y.cL 173 Y173
def CtI(B rb M:Nat)(v0:Zj)(L:Za)(h0:Zk)(e:Zc)(h':Zk):Prop :=
 ∃(i:Nat)(s1:Sl)(P:List (Zb × Sl))(v5:Zj),e=[v0,.pointer (some ⟨B,0,none⟩),.pointer (some ⟨rb,0,none⟩),.pointer (some ⟨M,0,none⟩),.int .i64 i,v5]/\i<=L.length/\Yo h' M #[s1.v]/\Yh h' 1 s1 (P.map fun p=>p.2.v)/\P.map Prod.fst=L.take i/\Zq7 h0.size h' s1 P/\(s1.nl=true\/h0.size<=s1.b)/\Mod (fun j=>j=M) h0 h'
def Zsg(C:Z4u Y){s:Sl}{L:Za}(r:Wm h s L)(ak:s.n<=1000)(ac:∀i,i<L.length->(Yc L i).length<=1000000){R:Ze}
  (hr:∀h' s',Ext h h'->Wm h' s' L->s'.n<=1000->R (W7 s') h'):Zt Y 173 [W7 s] h R:=by
 refine .o C.To ?_;have lL:=r.len;simp[Y173,Yw.wp,W7];refine Zo ?_;intro B h1 g1 B1 e1;simp;refine Zo ?_;intro rb h2 g2 R2 e2;simp;refine Zo ?_;intro M h3 g3 M3 e3;have x3:=(e1.trans e2).trans e3;have lM:=M3.lt;have lR:=R2.lt;have lB:=B1.lt;have B3:=(B1.cC e2).cC e3;have R3:=R2.cC e3;simp;refine Zp (CtI B rb M (.agg #[s.v]) L h3) (fun e _=>L.length-Zx e 4) ⟨0,Sl.nil,[],_,rfl,by omega,M3,by simpa using Yh.nil,by simp,by intro q hq;simp at hq,.inl rfl,Mod.refl _⟩ ?_;rintro e h4 ⟨i,U,P,v5,rfl,hi,M4,o4,hP,hT,ag,m4⟩;have B4:=m4.cM B3 (by omega);have R4:=m4.cM R3 (by omega);have x4:Ext h h4:=Mod.cC x3 m4 (fun j hj=>by omega);have n4:=o4.1;simp at n4;have al:P.length=i:=by
  have:=congrArg List.length hP;simp at this;omega
 have H:U.nl=false->h3.size<=U.b:=fun G=>ag.resolve_left (by rw[G];simp);have l1:U.nl=false->U.b<h4.size:=fun G=>o4.lt G;have z4:=m4.size;by_cases c:i<s.n;rotate_left
 ·have c':¬(i:Int)<s.n:=by omega
  simp[B4.hc,c',Yf M4];refine Zy R4 ?_;intro h5 R5 m5;simp;refine Vf rfl R5 rfl ?_;rw[Xji (by omega)] at hP;refine hr h5 U (Mod.cC x4 m5 (fun j hj=>by omega)) ?_ (by omega);refine Yh.rowL (o4.cD m5 (fun G=>by have:=H G;omega)) hP ?_;intro q hq;obtain⟨a,b⟩:=hT q hq;exact a.cD m5 (fun G=>by have:=(b G).1;omega)
 have c':(i:Int)<s.n:=by omega
 have w1:=wrapS (i:=i);obtain⟨u,hu,ru⟩:=r.at (i:=i) c;have lu:=ru.len;have am:=ac i (by omega);simp[B4.hc,M4.hc,c',Zl r.ok,hu,x4];refine Ww ?_;intro b5 h5 g5 o5 e5;have x5:=x4.trans e5;have M5:=M4.cC e5;simp[hu,x5,(B4.cC e5).hc,M5.hc];refine Zdy (s0:=Sl.at b5 0 0) (ru.cC x5) (by omega) o5 (.inr g5) e5 ?_;intro J h6 o6 ah I;have M6:=M4.cC I;simp[M6.hc];refine Xg ?_;intro b7 h7 g7 V7 e7;have M7:=M6.cC e7;have o7:=(o4.cF I).cF e7;have z7:=e7.size;simp[M7.hc];refine Wa (bytes:=24) rfl o7 V7 ?_;intro O h8 o8 an m8 ad;have M8:=m8.cM M7 (fun hq=>by have:=H hq.1;omega);have z6:=I.size;have z8:=m8.size;have X:O.nl=false->h3.size<=O.b:=by
  intro hq;rcases ad with⟨q1,q2⟩|⟨q1,q2⟩
  ·rw[q1];exact H (by rw[<-q2];exact hq)
  omega
 simp;refine stB M8 (by simp) ?_;intro h9 M9 m9;have z9:=m9.size;simp[w1];have aa:Yc L i≠[]->J.nl=false/\J.b<h6.size:=fun ab=>by
  obtain⟨_,hb,_,ae⟩:=o6.cM (i:=0) (by have:=List.length_pos_iff.2 ab;simpa[Zu] using this);exact⟨ae,o6.lt ae⟩
 have ub:Yc L i≠[]->h4.size<=J.b:=fun ab=>ah.resolve_left (by rw[(aa ab).1];simp);have af:∀k,k<h6.size->(U.nl=false->k≠U.b)->O.nl=false->k≠O.b:=by
  intro k hk h1 hq;rcases ad with⟨q1,q2⟩|⟨q1,q2⟩
  ·rw[q1];exact h1 (by rw[<-q2];exact hq)
  omega
 have o9:Yh h9 1 O ((P++[(Yc L i,J)]).map fun p=>p.2.v):=by
  have:=o8.cD m9 (fun hq=>by have:=X hq;omega);simpa using this
 have ai:Zq7 h3.size h9 O (P++[(Yc L i,J)]):=by
  intro q hq;rcases List.mem_append.1 hq with g|g
  ·obtain⟨g1,g3⟩:=hT q g;refine⟨(((g1.cC I).cC e7).cD m8 (fun G hq=>(g3 G).2.1 hq.1 hq.2)).cD m9 (fun G=>by have:=(g3 G).1;omega),fun G=>⟨(g3 G).1,?_,by have:=(g3 G).2.2;omega⟩⟩;exact af _ (by have:=(g3 G).2.2;omega) (g3 G).2.1
  simp only[Xlj] at g;subst g;refine⟨((o6.cE.cC e7).cD m8 (fun G hq=>by have:=ub G;have:=l1 hq.1;have:=hq.2;omega)).cD m9 (fun G=>by have:=ub G;omega),fun G=>⟨?_,?_,?_⟩⟩
  ·have:=ub G;show h3.size<=J.b;omega
  ·exact af J.b (aa G).2 (fun hq=>by have:=ub G;have:=l1 hq;omega)
  have:=(aa G).2;show J.b<h9.size;omega
 have aj:(P++[(Yc L i,J)]).map Prod.fst=L.take (i+1):=by
  rw[Xjc (by omega),Xjj,hP,Zpm];simp
 have hN:O.nl=true\/h3.size<=O.b:=by
  cases hq:O.nl with
  |true=>exact .inl rfl
  |false=>exact .inr (X hq)
 have mm:Mod (fun j=>j=M) h3 h9:=by
  have q1:Mod (fun j=>j=M\/(U.nl=false/\j=U.b)) h4 h9 :=
   (((I.trans e7).mono (fun _ _ h=>h.elim)).trans (m8.mono (fun _ _ h=>.inr h))).trans (m9.mono (fun _ _ h=>.inl h))
  refine Mod.then m4 q1 ?_;intro k hk hq;rcases hq with hq|hq
  ·exact hq
  have:=H hq.1;omega
 refine nx ⟨i+1,O,P++[(Yc L i,J)],_,rfl,by omega,by simpa using M9,o9,aj,ai,hN,mm⟩
structure Zzk(Y:Sys):Prop where
 Made:Y.cL 172 Y172
 To3:Y.cL 100 Y100
 To2:Y.cL 35 Y35
 GN:Xb2 Y
 T:TurnCk Y
def Zn3(M:Zzk Y){I J O:Sl}{N:Zs}(r:Z2 h I J O N)(hf:Zay N=true)(ok:Yl N){R:Ze}
  (U:∀h' p (S:Zf),Ext h h'->Xi h' p N S->(∀b,S b->h.size<=b)->R (.pointer (some ⟨p,0,none⟩)) h'):Zt Y 172 [Xp I J O] h R:=by
 refine .o M.Made ?_;obtain⟨a,b,c,d⟩:=Zdd.1 hf;simp[Y172,Yw.wp,Xp];refine Zo ?_;intro B h1 g1 B1 G;simp[Yf B1];refine Z6x M.To3 M.To2 (r.cC G) (by omega) (by omega) (by omega) (fun i X=>by have:=d i X;omega) ?_;intro h2 s1 s2 s3 e2 r2;have z1:=G.size;have z2:=e2.size;simp;refine Z2m M.GN M.T r2 (fun v h' _ H _=>absurd (by rw[Z84 ok];rfl) H) ?_;intro h3 p S e3 _ g3 hS;simp;exact U h3 p S ((G.trans e2).trans e3) g3 (fun b hb=>by have:=hS b hb;omega)
end
end Go.Rm


namespace Go.Rm
def Zhz{n:Int}(h:0<=n/\n<18446744073709551616:=by omega):IntKind.u64.wrap n=n:=by
 simp[IntKind.wrap,IntKind.bits,IntKind.signed];omega
def Xcw{k j:IntKind}{a b:Int}(h:0<=b):Z5 .shr k a j b=some (.int k (a.fdiv (2 ^ (min b.toNat k.bits)))):=by simp[Z5];omega
section
variable{Y:Sys}{h h':Zk}
def Zp0{u:Nat}{j:IntKind}:Z5 .shr .u64 (u:Int) j 1=some (.int .u64 ((u / 2:Nat):Int)):=by
 rw[Xcw (by omega)];have:min (1:Int).toNat IntKind.u64.bits=1:=by decide
 rw[this]
 congr 2
 rw[Int.fdiv_eq_ediv_of_nonneg _ (by decide)];simp
end
def zz(v:Int):Nat:=if v<0 then 2 * (-1-v).toNat+1 else 2 * v.toNat
end Go.Rm

namespace Go.Rm
section
variable{Y:Sys}{h:Zk}
def Mod.toExt{p:Nat}{h0 h h':Zk}(x:Ext h0 h)(m:Mod (fun j=>j=p) h h')(hp:h0.size<=p):Ext h0 h':=Mod.cC x m (fun j G=>by omega)
end
end Go.Rm
