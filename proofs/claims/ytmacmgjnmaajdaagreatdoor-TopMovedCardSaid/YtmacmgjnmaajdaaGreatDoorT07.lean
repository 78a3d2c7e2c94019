import Derived.Test.YtmacmgjnmaajdaaGreatDoorT05
/- Parts. -/
set_option linter.all false
namespace Go.Rm
def Xe(l:Zd)(i:Nat):Nat:=l.getD i 0
def Zm(l:Zb)(i:Nat):Int:=l.getD i 0
def U3{l:Zd}{i j k:Nat}(G:i<l.length):Xe (l.set i k) j=if j=i then k else Xe l j:=by
 simp only[Xe,Xja,Xk5]
 split
 ·rename_i h;subst h;simp
 rename_i h;rw[if_neg (fun e=>h e.symm)]
def Vj{l:Zb}{i j:Nat}{k:Int}(G:i<l.length:=by omega):Zm (l.set i k) j=if j=i then k else Zm l j:=by
 simp only[Zm,Xja,Xk5]
 split
 ·rename_i h;subst h;simp
 rename_i h;rw[if_neg (fun e=>h e.symm)]
def Zhb{l:Zd}{i n:Nat}(G:i<n):Xe (l.take n) i=Xe l i:=by
 simp[Xe,Xja,G]
def Za4{l m:Zd}{i:Nat}(G:i<l.length):Xe (l++m) i=Xe l i:=by
 simp[Xe,Xja,Xjm G]
def Zeq{l:Zd}{k:Nat}:Xe (l++[k]) l.length=k:=by
 simp[Xe,Xja]
def klt(cN:Zb)(a b:Nat):Prop:=Zm cN a<Zm cN b\/(Zm cN a=Zm cN b/\a<b)
instance(cN:Zb)(a b:Nat):Decidable (klt cN a b):=by unfold klt;infer_instance
def Za0{cN:Zb}{a:Nat}:¬klt cN a a:=by unfold klt;omega
def Ziu{cN:Zb}{a b c:Nat}(h1:klt cN a b)(G:klt cN b c):klt cN a c:=by unfold klt at *;omega
def Zio{cN:Zb}{a b c:Nat}(h1:¬klt cN b a)(G:¬klt cN c b):¬klt cN c a:=by unfold klt at *;omega
def Zzz{cN:Zb}{a b c:Nat}(h1:klt cN a b)(G:¬klt cN c b):¬klt cN c a:=by unfold klt at *;omega
structure Qq(row:Zd)(n:Nat)(cQ:Zd):Prop where
 len:cQ.length=n
 rv:∀i,i<row.length->Xe row i<n
 rs:∀i,i<row.length->Xe cQ (Xe row i)=i+1
 sv:∀k,k<n->Xe cQ k≠0->Xe cQ k-1<row.length/\Xe row (Xe cQ k-1)=k
def Xz(row:Zd)(i j:Nat):Zd:=(row.set i (Xe row j)).set j (Xe row i)
def Vv(row cQ:Zd)(i j:Nat):Zd:=(cQ.set (Xe (Xz row i j) i) (i+1)).set (Xe (Xz row i j) j) (j+1)
@[simp] theorem Zus {row:Zd} {i j:Nat}:(Xz row i j).length=row.length:=by simp[Xz]
@[simp] theorem Z8r {row G:Zd} {i j:Nat}:(Vv row G i j).length=G.length:=by simp[Vv]
def Xk{row:Zd}{i j:Nat}(G:i<row.length)(H:j<row.length)(k:Nat):
  Xe (Xz row i j) k=if k=j then Xe row i else if k=i then Xe row j else Xe row k:=by
 unfold Xz;rw[U3 (by simpa using H),U3 G]
def Qq.inj{row:Zd}{n:Nat}{G:Zd}(V:Qq row n G){i j:Nat}(H:i<row.length)(I:j<row.length)(h:Xe row i=Xe row j):i=j:=by
 have h1:=V.rs i H;have J:=V.rs j I;rw[h] at h1;omega
def Zc2{row:Zd}{n:Nat}{G:Zd}{i j:Nat}(V:Qq row n G)(H:i<row.length)(I:j<row.length)(k:Nat):
  Xe (Vv row G i j) k=if k=Xe row i then j+1 else if k=Xe row j then i+1 else Xe G k:=by
 have h1:Xe (Xz row i j) i=Xe row j:=by
  rw[Xk H I]
  split
  ·rename_i h;rw[h]
  simp
 have J:Xe (Xz row i j) j=Xe row i:=by rw[Xk H I];simp
 unfold Vv;rw[h1,J,U3 (by simp;rw[V.len];exact V.rv i H),U3 (by rw[V.len];exact V.rv j I)]
def Qq.swap{row:Zd}{n:Nat}{G:Zd}(V:Qq row n G){i j:Nat}(H:i<row.length)(I:j<row.length):
  Qq (Xz row i j) n (Vv row G i j):=by
 refine⟨by simpa using V.len,?_,?_,?_⟩
 ·intro k J;simp at J;rw[Xk H I];have:=V.rv i H;have:=V.rv j I;have:=V.rv k J
  split<;>(try split)<;>assumption
 ·intro k J;simp at J;rw[Zc2 V H I,Xk H I];have e:=V.rs k J;by_cases O:k=j
  ·subst O;simp
  by_cases R:k=i
  ·subst R;simp only[O,if_false,if_true]
   split
   ·rename_i h;have:=V.inj I H h;omega
   rfl
  simp only[O,R,if_false]
  split
  ·rename_i h;exact absurd (V.inj J H h) R
  split
  ·rename_i h;exact absurd (V.inj J I h) O
  exact e
 intro k J U;rw[Zc2 V H I] at U ⊢;simp only[Zus]
 split
 ·rename_i h;refine⟨by simpa using I,?_⟩;rw[Xk H I];simp[h]
 rename_i h
 split
 ·rename_i X;refine⟨by simpa using H,?_⟩;rw[Xk H I];simp only[Xlh]
  split
  ·rename_i h3;rw[X,<-h3]
  simp[X]
 rename_i X;rw[if_neg h,if_neg X] at U;obtain⟨q1,q2⟩:=V.sv k J U;refine⟨q1,?_⟩;rw[Xk H I]
 split
 ·rename_i h3;rw[h3] at q2;exact absurd q2.symm X
 split
 ·rename_i h3;rw[h3] at q2;exact absurd q2.symm h
 exact q2
def Zq0{row:Zd}{n:Nat}{G:Zd}(V:Qq row n G){i j:Nat}(H:i<row.length)(I:j<row.length)(k:Nat):
  Xe (Vv row G i j) k=0↔Xe G k=0:=by
 rw[Zc2 V H I]
 split
 ·rename_i h;have:=V.rs i H;rw[<-h] at this;omega
 split
 ·rename_i h;have:=V.rs j I;rw[<-h] at this;omega
 rfl
def Yu(j:Nat):Nat:=(j-1) / 2
structure Zq6(row:Zd)(cN:Zb)(i:Nat):Prop where
 a:∀j,0<j->j<row.length->j≠i->¬klt cN (Xe row j) (Xe row (Yu j))
 b:0<i->∀j,0<j->j<row.length->Yu j=i->¬klt cN (Xe row j) (Xe row (Yu i))
structure Zt5(row:Zd)(cN:Zb)(i:Nat):Prop where
 a:∀j,0<j->j<row.length->Yu j≠i->¬klt cN (Xe row j) (Xe row (Yu j))
 b:0<i->∀j,0<j->j<row.length->Yu j=i->¬klt cN (Xe row j) (Xe row (Yu i))
def Ord(row:Zd)(cN:Zb):Prop:=∀j,0<j->j<row.length->¬klt cN (Xe row j) (Xe row (Yu j))
def Vb{j:Nat}(h:0<j):Yu j<j:=by unfold Yu;omega
def Zq6.step{row:Zd}{cN:Zb}{i:Nat}(O:Zq6 row cN i)(h0:0<i)(hi:i<row.length)(U:klt cN (Xe row i) (Xe row (Yu i))):
  Zq6 (Xz row i (Yu i)) cN (Yu i):=by
 have hp:=Vb h0;have I:Yu i<row.length:=by omega
 refine⟨?_,?_⟩
 ·intro j H J R;simp at J;rw[Xk hi I,Xk hi I,if_neg R];by_cases G:j=i
  ·subst G;simp only[if_true];exact fun h=>Za0 (Ziu h U)
  rw[if_neg G];by_cases h1:Yu j=Yu i
  ·rw[if_pos h1];have:=O.a j H J G;rw[h1] at this;exact Zzz U this
  rw[if_neg h1];by_cases h2:Yu j=i
  ·rw[if_pos h2];exact O.b h0 j H J h2
  rw[if_neg h2];exact O.a j H J G
 intro X j H J R;simp at J;have ab:=Vb X;rw[Xk hi I,Xk hi I];have hg:¬klt cN (Xe row (Yu i)) (Xe row (Yu (Yu i))):=O.a (Yu i) X I (by omega);rw[if_neg (show Yu (Yu i)≠Yu i by omega),if_neg (show Yu (Yu i)≠i by omega)];have aa:j≠Yu i:=by intro e;have:=Vb H;omega
 rw[if_neg aa];by_cases G:j=i
 ·rw[if_pos G];exact hg
 rw[if_neg G];have:=O.a j H J G;rw[R] at this;exact Zio hg this
def Zq6.fin{row:Zd}{cN:Zb}{i:Nat}(O:Zq6 row cN i)(h:0<i->¬klt cN (Xe row i) (Xe row (Yu i))):Ord row cN:=by
 intro j G I;by_cases H:j=i
 ·subst H;exact h G
 exact O.a j G I H
def Zt5.step{row:Zd}{cN:Zb}{i c:Nat}(O:Zt5 row cN i)(U:0<c)(hc:c<row.length)(H:Yu c=i)(ab:klt cN (Xe row c) (Xe row i))
  (X:∀j,0<j->j<row.length->Yu j=i->¬klt cN (Xe row j) (Xe row c)):Zt5 (Xz row i c) cN c:=by
 have ad:i<c:=by have:=Vb U;omega
 have hi:i<row.length:=by omega
 refine⟨?_,?_⟩
 ·intro j G R I;simp at R;have ac:=Vb G;rw[Xk hi hc,Xk hi hc];by_cases aa:j=c
  ·subst aa;simp only[if_true];rw[H,ifN,if_pos rfl];exact fun h=>Za0 (Ziu h ab)
  rw[if_neg aa,if_neg I];by_cases h1:Yu j=i
  ·rw[if_pos h1,if_neg (show j≠i by omega)];exact X j G R h1
  rw[if_neg h1];by_cases J:j=i
  ·rw[if_pos J];subst J;exact O.b G c U hc H
  rw[if_neg J];exact O.a j G R h1
 intro _ j G R I;simp at R;have ac:=Vb G;rw[Xk hi hc,Xk hi hc,H,if_neg (show j≠c by omega),if_neg (show j≠i by omega),if_neg (show i≠c by omega),if_pos rfl];have:=O.a j G R (by omega);rw[I] at this;exact this
def Zt5.fin{row:Zd}{cN:Zb}{i:Nat}(O:Zt5 row cN i)(h:∀j,0<j->j<row.length->Yu j=i->¬klt cN (Xe row j) (Xe row i)):Ord row cN:=by
 intro j H I;by_cases G:Yu j=i
 ·rw[G];exact h j H I G
 exact O.a j H I G
def Ord.least{row:Zd}{cN:Zb}(O:Ord row cN):∀j,j<row.length->¬klt cN (Xe row j) (Xe row 0):=by
 intro j
 induction j using Nat.strongRecOn with
 |_ j G =>
  intro H;rcases Xkr j with h|h
  ·subst h;exact Za0
  have hp:=Vb h;exact Zio (G (Yu j) hp (by omega)) (O j h H)
def Zl3{l:Zd}{k i:Nat}(G:i<(l++[k]).length):Xe (l++[k]) i=if i=l.length then k else Xe l i:=by
 split
 ·rename_i h;rw[h,Zeq]
 rename_i h;simp at G;exact Za4 (by omega)
def Zv0{row:Zd}{n:Nat}{G:Zd}{k:Nat}(V:Qq row n G)(O:k<n)(h0:Xe G k=0):Qq (row++[k]) n (G.set k (row.length+1)):=by
 have I:k<G.length:=by rw[V.len];exact O
 refine⟨by simpa using V.len,?_,?_,?_⟩
 ·intro i J;rw[Zl3 J];simp at J
  split
  ·exact O
  exact V.rv i (by omega)
 ·intro i J;rw[Zl3 J,U3 I];simp at J
  split
  ·rename_i h;simp[h]
  rename_i h;have:=V.rs i (by omega)
  split
  ·rename_i R;rw[R] at this;omega
  exact this
 intro j U H;rw[U3 I] at H ⊢
 split
 ·rename_i h;refine⟨by simp,?_⟩;simp only[Xlh];rw[Zeq,h]
 rename_i h;rw[if_neg h] at H;obtain⟨X,q2⟩:=V.sv j U H;exact⟨by simp;omega,by rw[Za4 X];exact q2⟩
def Qq.ne{row:Zd}{n:Nat}{G:Zd}{k i:Nat}(V:Qq row n G)(h0:Xe G k=0)(H:i<row.length):Xe row i≠k:=by
 intro e;have:=V.rs i H;rw[e] at this;omega
def Z04{row:Zd}{n:Nat}{G:Zd}{cN:Zb}{k:Nat}{c:Int}(V:Qq row n G)(hc:k<cN.length)(h0:Xe G k=0)(O:Ord row cN):
  Zq6 (row++[k]) (cN.set k c) row.length:=by
 have R:∀i,i<row.length->Zm (cN.set k c) (Xe row i)=Zm cN (Xe row i):=fun i U=>by rw[Vj hc,if_neg (V.ne h0 U)]
 refine⟨?_,?_⟩
 ·intro j H J X;have I:j<row.length:=by simp at J;omega
  have hp:Yu j<row.length:=by have:=Vb H;omega
  rw[Za4 I,Za4 hp];have:=O j H I;unfold klt at *
  rw[R j I,R _ hp];exact this
 intro _ j H J hp;have:=Vb H;simp at J;omega
def Zvc{row:Zd}{n:Nat}{G:Zd}{cN:Zb}{k:Nat}{c:Int}(V:Qq row n G)(hk:k<n)(hc:k<cN.length)(h0:Xe G k≠0)(O:Ord row cN)(ab:c<Zm cN k):
  Zq6 row (cN.set k c) (Xe G k-1):=by
 obtain⟨q1,q2⟩:=V.sv k hk h0;have U:∀i,i<row.length->i≠Xe G k-1->Zm (cN.set k c) (Xe row i)=Zm cN (Xe row i):=by
  intro i hi I;rw[Vj hc,if_neg];intro e;apply I;have:=V.rs i hi;rw[e] at this;omega
 have aa:Zm (cN.set k c) (Xe row (Xe G k-1))=c:=by rw[q2,Vj hc];simp
 refine⟨?_,?_⟩
 ·intro j H R I;have hp:Yu j<row.length:=by have:=Vb H;omega
  have:=O j H R;by_cases J:Yu j=Xe G k-1
  ·unfold klt at *
   rw[U j R I,J,aa];rw[J,q2] at this;omega
  unfold klt at *
  rw[U j R I,U _ hp J];exact this
 intro X j H R hp;have ac:=Vb H;have ad:=Vb X;have h1:=O j H R;have h2:=O (Xe G k-1) X q1;rw[hp] at h1;have h3:=Zio h2 h1;have e1:=U j R (by omega);have e2:=U (Yu (Xe G k-1)) (by omega) (by omega);unfold klt at *
 rw[e1,e2];exact h3
section
variable{Y:Sys}{h h':Zk}
@[simp] theorem Xci {k:IntKind} {n:Int}:(Value.int k n).cells=#[.int k n]:=rfl
@[simp] theorem Xbt {b:Bool}:(Value.bool b).cells=#[.bool b]:=rfl
@[simp] theorem Z8o {b:ByteArray}:(Value.string b).cells=#[.string b]:=rfl
@[simp] theorem Xea {b:Option Addr}:(Value.pointer b).cells=#[.pointer b]:=rfl
@[simp] theorem Z9w {b:Option Addr} {n c:Nat}:(Value.slice b n c).cells=#[.slice b n c]:=rfl
@[simp] theorem Z96 {t:TypeId} {v:Zj}:(Value.iface t v).cells=#[.iface t v]:=rfl
@[simp] theorem Z28:(Value.nilIface).cells=#[.nilIface]:=rfl
@[simp] theorem Zg6 {c:Array cR}:(Value.agg c).cells=c:=rfl
def Zdm{v:Zj}(hv:v.oneCell'=true):v.cells=#[v]:=by cases v<;>first|rfl|(cases hv)
@[simp] theorem Xdf {zero:Array cR} {G:List (Nat × Nat)}:Ym.cK Y h (.build zero G []) []=some (.agg zero):=rfl
def Zeb{G H a b:Zj}(I:a.oneCell'=true)(hb:b.oneCell'=true):
  Ym.cK Y h (.build #[G,H] [(0,1),(1,1)] [0,1]) [a,b]=some (.agg #[a,b]):=by
 simp[Ym.cK,Instr.fill,Zdm I,Zdm hb]
def Zd0{G H I a b c:Zj}(J:a.oneCell'=true)(hb:b.oneCell'=true)(hc:c.oneCell'=true):
  Ym.cK Y h (.build #[G,H,I] [(0,1),(1,1),(2,1)] [0,1,2]) [a,b,c]=some (.agg #[a,b,c]):=by
 simp[Ym.cK,Instr.fill,Zdm J,Zdm hb,Zdm hc]
@[simp] theorem Z3b {G H I:Zj} {p:ByteArray} {k:IntKind} {a:Int} {t:TypeId} {v:Zj}:Ym.cK Y h (.build #[G,H,I] [(0,1),(1,1),(2,1)] [0,1,2]) [.string p,.int k a,.iface t v]=some (.agg #[.string p,.int k a,.iface t v]):=Zd0 rfl rfl rfl
@[simp] theorem Z6h {G H:Zj} {p:ByteArray} {k:IntKind} {a:Int}:Ym.cK Y h (.build #[G,H] [(0,1),(1,1)] [0,1]) [.string p,.int k a]=some (.agg #[.string p,.int k a]):=Zeb rfl rfl
@[simp] theorem Z29 {G H:Zj} {s:Sl} {k:IntKind} {a:Int}:Ym.cK Y h (.build #[G,H] [(0,1),(1,1)] [0,1]) [s.v,.int k a]=some (.agg #[s.v,.int k a]):=Zeb rfl rfl
@[simp] theorem Z1v {G H:Zj} {x:Option Addr} {n c:Nat} {k:IntKind} {a:Int}:Ym.cK Y h (.build #[G,H] [(0,1),(1,1)] [0,1]) [.slice x n c,.int k a]=some (.agg #[.slice x n c,.int k a]):=Zeb rfl rfl
@[simp] theorem Z8q {G H I:Zj} {k j:IntKind} {a b:Int} {s:Sl}:Ym.cK Y h (.build #[G,H,I] [(0,1),(1,1),(2,1)] [0,1,2]) [.int k a,.int j b,s.v]=some (.agg #[.int k a,.int j b,s.v]):=Zd0 rfl rfl rfl
@[simp] theorem Xbz {neg:Bool} {s:Sl}:Ym.cK Y h (.eqs neg) [s.v,.slice none 0 0]=some (.bool (if neg then !s.nl else s.nl)):=by
 unfold Sl.v
 cases s.nl<;>cases neg<;>rfl
def Zo{K:Ze}{v:Zj}(G:∀(b:Nat)(h':Zk),h.size<=b->Yo h' b v.cells->Ext h h'->K (.pointer (some ⟨b,0,none⟩)) h'):Ef.wp h K .new [v] :=
 fun _=>G _ _ (Xi4 _) Yo.new Mod.push
def Yo.cC{b:Nat}{c:Array cR}(hb:Yo h b c)(G:Ext h h'):Yo h' b c:=G.cM hb (fun h=>h)
def Zy{K:Ze}{b n:Nat}{c vs:Array cR}(hb:Yo h b c)(I:∀h',Yo h' b vs->Mod (fun j=>j=b) h h'->K undef h')(G:vs.size=n:=by rfl)(hc:c.size=n:=by rfl)(h1:∀v∈vs.toList,v.oneCell'=true:=by simp):Ef.wp h K (.store n) [.pointer (some ⟨b,0,none⟩),.agg vs]:=by
 obtain⟨h',J,H,O,R⟩:=Zcp (o:=0) (vs:=vs.toList) hb (by simp;omega) h1;refine⟨G,?_⟩;simp only[Zg6,J];refine I h' ?_ O;have e:(c.toList.take 0++vs.toList++c.toList.drop (0+vs.toList.length)).toArray=vs:=by
  apply Xjb;simp[G,hc]
 rw[e] at H;exact H
def Yf{b n:Nat}{vs:Array cR}(hb:Yo h b vs)(G:vs.size=n):rd h b 0 n=some vs.toList:=by
 have:=Zbg (h:=h) (b:=b) (l:=vs.toList) (o:=0) fun i v H=>by rw[hb.hc];simpa using H
 rw[<-G];simpa using this
def Vf{R:Ze}{e:Zc}{i n b:Nat}{vs:Array cR}(G:e.getD i undef = .pointer (some ⟨b,0,none⟩))(hb:Yo h b vs)(H:vs.size=n)(I:R (.agg vs) h):
  Up [.box i n true] R e h:=by
 unfold Up;simp only[Zbo,Res.ev,G,Yf hb H,if_true,Xjq];simpa using I
def Zkc{R:Ze}{e:Zc}{i n b j:Nat}{vs:Array cR}(G:e.getD i undef = .pointer (some ⟨b,0,none⟩))(hb:Yo h b vs)(H:vs.size=n)(I:R (.tuple #[.agg vs,e.getD j undef]) h):
  Up [.box i n true,.n j] R e h:=by
 unfold Up;simp only[Zbo,Res.ev,G,Yf hb H,if_true,Xjq];simpa using I
structure Zw(h:Zk)(s:Sl)(cs:Zb):Prop where
 ok:s.ok
 len:cs.length=s.n
 val:∀i,i<cs.length->hc h s.b (s.o+i)=some (.int .i64 (Zm cs i))
def Zw.cC{s:Sl}{cs:Zb}(r:Zw h s cs)(G:Ext h h'):Zw h' s cs:=⟨r.ok,r.len,fun i H=>G.hc (r.val i H) (fun h=>h)⟩
def Zw.cD{S:Zf}{s:Sl}{cs:Zb}(r:Zw h s cs)(H:Mod S h h')(I:cs≠[]->¬S s.b):Zw h' s cs:=⟨r.ok,r.len,fun i G=>H.hc (r.val i G) (I (by intro e;rw[e] at G;simp at G))⟩
def Zw.at{s:Sl}{cs:Zb}{i:Nat}(r:Zw h s cs)(G:i<s.n):hc h s.b (s.o+i)=some (.int .i64 (Zm cs i)):=r.val i (by rw[r.len];exact G)
def Zu(l:Zb):Zc:=l.map fun(k:Int)=>Value.int .i64 k
def Zmm{l:Zb}{i:Nat}(h:i<l.length):(Zu l)[i]? = some (.int .i64 (Zm l i)):=by
 simp[Zu,Zm,h]
@[simp] theorem U8 {l:Zb}:(Zu l).length=l.length:=by simp[Zu]
def Um{l:Zb}{i:Nat}{k:Int}:(Zu l).set i (.int .i64 k)=Zu (l.set i k):=by simp[Zu,Xko]
def Zb5{l:Zb}:∀v∈Zu l,v.oneCell'=true:=by
 intro v hv;simp only[Zu,Xlg] at hv;obtain⟨k,_,rfl⟩:=hv
 rfl
def Yh.cE{s:Sl}{cs:Zb}(o:Yh h 1 s (Zu cs)):Zw h s cs :=
 ⟨o.ok,by have:=o.1;simpa using this,fun i G=>o.cell (Zmm G)⟩
def Z7b{s:Sl}{cs:Zb}(r:Zw h s cs):rd h s.b s.o cs.length=some (Zu cs):=by
 have:=Zbg (h:=h) (b:=s.b) (l:=Zu cs) (o:=s.o) fun i v H=>by
  have G:i<cs.length:=by
   have:=(List.getElem?_eq_some_iff.1 H).1;simpa using this
  rw[Zmm G] at H
  cases H
  exact r.val i G
 simpa using this
def Zdg{n:Nat}{t:TypeId}(G:n<=9223372036854775807:=by omega):Yh (h.push (.cells (Array.replicate n (.int .i64 0)) t)) 1 (Sl.at h.size n n) (Zu (List.replicate n 0)):=by
 refine⟨by simp,.inr ⟨rfl,rfl,rfl,Xi4 _,G,_,Yo.new,by simp,by simp[Zu]⟩⟩
def Zi0{t:TypeId}{sz:Nat}:Yh (h.push (.cells #[] t)) sz (Sl.at h.size 0 0) []:=by
 refine⟨by simp,.inr ⟨rfl,rfl,rfl,Xi4 _,by simp,_,Yo.new,by simp,by simp⟩⟩
def Zgo{K:Ze}{sz:Nat}:Ef.wp h K (.bslice 0 sz #[] []) [] = ∀t:TypeId,K (.slice (some ⟨h.size,0,none⟩) 0 0) (h.push (.cells #[] t)):=by
 have e:Xv #[] (0 * sz)=#[]:=Array.eq_empty_of_size_eq_zero (by simp[Xv]);simp only[Nat.zero_mul] at e;simp[Ef.wp,e,Instr.fill]
def Za8{s:Sl}{cs:Zb}(r:Zw h s cs):Wi h 1 s.n s.v=some (Zu cs):=by
 have I:=Z7b r;rw[r.len] at I;unfold Sl.v
 cases G:s.nl with
 |true =>
  have:cs=[]:=Xjr (by rw[r.len];exact (r.ok.nil G).1);subst this
  rfl
 |false =>
  cases H:s.sp with
  |none=>simp only[Xjh,if_false,Wi,Xjd];exact I
  |some q =>
   have h0:s.n=0:=by
    have:=r.ok.spot.resolve_left (by rw[H];simp);have:=r.ok.le;omega
   have:cs=[]:=Xjr (by rw[r.len];exact h0);subst this;simp[Wi,h0,Zu]
def Zdy{K:Ze}{s:Sl}{cs:Zb}(r:Zw h s cs)(hn:s.n<=17592186044416){h0:Zk}{s0:Sl}(o:Yh h 1 s0 [])(hb:s0.nl=true\/h0.size<=s0.b)(H:Ext h0 h)
  (J:∀(G:Sl)(h':Zk),Yh h' 1 G (Zu cs)->(G.nl=true\/h0.size<=G.b)->Ext h0 h'->K G.v h'):Ef.wp h K (.append 1 8 #[.int .i64 0]) [s0.v,s.v]:=by
 have hz:s0.n=0:=by have:=o.1;simpa using this.symm
 refine Ul o (m:=s.n) (nw:=Zu cs) Qn (Za8 r) (by simp[r.len]) Zb5 rfl (by omega) (by omega) ?_;intro G h' O R U hs';refine J G h' (by simpa using O) ?_ ?_
 ·rcases hs' with⟨I,e2⟩|⟨I,e2⟩
  ·rw[I,e2];exact hb
  have:=H.size;exact .inr (by omega)
 refine Mod.cC H U ?_;rintro b ⟨X,q2⟩;rcases hb with hb|hb
 ·rw[X] at hb;cases hb
 rw[q2];exact hb
end
abbrev inf:Int:=1152921504606846976
def Xa(a:Int):Bool:=decide (0<=a/\a<=2147483648) ||decide (a=1152921504606846976)
abbrev Xbr:ByteArray:=⟨#[116,117,114,110]⟩
abbrev Wr:=List (ByteArray × Int) × Int
def wOK:Wr:=([],0)
def Ui(at' e:Int):Wr:=([(Xbr,at')],e)
def Uc:Nat->Zb->Option Nat
 |_,[]=>none
 |i,c::r=>if Xa c then Uc (i+1) r else some i
def Wy(ins cP:Int):Wr:=if ins<0\/16<ins then Ui 0 1 else if cP<0\/16<cP then Ui 1 1 else wOK
def Qt(ins cP:Int)(cs:Zb):Wr :=
 if (Wy ins cP).2≠0 then Wy ins cP
 else if (cs.length:Int)≠ins * cP then Ui 2 9
 else match Uc 0 cs with
  |some i=>Ui (3+i) 8
  |none=>wOK
def Zhh{l:Zb}{i:Nat}(G:i<l.length:=by omega):Uc i (l.drop i)=if Xa (Zm l i) then Uc (i+1) (l.drop (i+1)) else some i:=by
 rw[Xjz G];simp only[Uc,Zm,Xja,Xj3 G,Xlq]
section
variable{Y:Sys}{h:Zk}
def Err(Y:Sys)(h:Zk)(w:Wr)(v:Zj):Prop:=Xhy Y h w.1 w.2 v
def Err.ok:Err Y h wOK .nilIface:=.inl ⟨rfl,rfl⟩
def Err.nil{v:Zj}{w:Wr}(e:Err Y h w v)(h0:w.2=0):v = .nilIface:=by
 rcases e with⟨_,e⟩|⟨e,_⟩
 ·exact e
 exact absurd h0 e
def Err.iface{v:Zj}{w:Wr}(e:Err Y h w v)(h0:w.2≠0):∃t u,v = .iface t u:=by
 rcases e with⟨e,_⟩|⟨_,e⟩
 ·exact absurd e h0
 obtain⟨l,c⟩:=w
 cases l with
 |nil=>exact⟨_,_,e⟩
 |cons p ps=>obtain⟨b,u,e,_⟩:=e;exact⟨_,_,e⟩
def Zdr(lo:Nat)(P:Zk->Prop)(h:Zk):Prop:=∀h',Mod (fun j=>j<lo) h h'->P h'
def Zdr.cH{lo:Nat}{P:Zk->Prop}{h:Zk}(f:Zdr lo P h):P h:=f h (Mod.refl h)
def Zdr.mono{lo G:Nat}{P:Zk->Prop}{h:Zk}(f:Zdr lo P h)(H:G<=lo):Zdr G P h:=fun h' m=>f h' (m.mono fun _ _ h=>Xl6 h H)
def Zdr.step{lo:Nat}{S:Zf}{P:Zk->Prop}{h h':Zk}(f:Zdr lo P h)(m:Mod S h h')(H:∀j,S j->j<lo):Zdr lo P h':=fun G m'=>f G ((m.mono fun j _ h=>H j h).trans m')
def Zdr.cC{lo:Nat}{P:Zk->Prop}{h h':Zk}(f:Zdr lo P h)(m:Ext h h'):Zdr lo P h':=f.step m (fun _ h=>h.elim)
abbrev Zfk(Y:Sys)(lo:Nat)(h:Zk)(w:Wr)(v:Zj):Prop:=Zdr lo (fun h=>Err Y h w v) h
def Zfk.ok{lo:Nat}:Zfk Y lo h wOK .nilIface:=fun _ _=>Err.ok
def Zjs(H:Y.cL 55 Y55){a:Int}{R:Ze}(G:R (.bool (Xa a)) h):Zt Y 55 [.int .i64 a] h R:=by
 refine .o H ?_;simp[Y55,Yw.wp];by_cases h0:a=1152921504606846976
 ·have:Xa a=true:=by simp[Xa,h0]
  rw[this] at G;simp[h0,G]
 by_cases h1:0<=a
 ·have:Xa a=decide (a<=2147483648):=by simp[Xa,h0,h1]
  rw[this] at G;simp[h0,h1,G]
 have:Xa a=false:=by simp[Xa,h0];omega
 rw[this] at G;simp[h0,h1,G]
def Zuv{b:Nat}{p:ByteArray}{a c:Int}(hb:Yo h b #[.string p,.int .i64 a,.iface (Y.tid 49) (.int .i64 c)])(hc:c≠0):
  Err Y h ([(p,a)],c) (.iface (Y.tid 50) (.pointer (some ⟨b,0,none⟩))) :=
 .inr ⟨hc,b,_,rfl,by rw[hb.hc];rfl,by rw[hb.hc];rfl,by rw[hb.hc];rfl,rfl⟩
def Zcx(H:Y.cL 54 Y54){a c:Int}(hc:c≠0){R:Ze}(G:∀v h',Ext h h'->Zfk Y h.size h' (Ui a c) v->(∃t u,v = .iface t u)->R v h'):
  Zt Y 54 [.int .i64 a,.int .i64 c] h R:=by
 refine .o H ?_;simp[Y54,Yw.wp];refine Zo ?_;intro b h1 J B I;simp;exact G _ _ I (fun h' m=>Zuv (m.cM B (by omega)) hc) ⟨_,_,rfl⟩
def Zk8(H:Y.cL 53 Y53)(Hf:Y.cL 54 Y54){ins cP:Int}{R:Ze}(O:∀v h',Ext h h'->Zfk Y h.size h' (Wy ins cP) v->R v h'):
  Zt Y 53 [.int .i64 ins,.int .i64 cP] h R:=by
 refine .o H ?_;by_cases c1:ins<0\/16<ins
 ·have U:Wy ins cP=Ui 0 1:=by simp[Wy,c1]
  rw[U] at O;have G:Zt Y 54 [.int .i64 0,.int .i64 1] h fun v h'=>R v h':=Zcx Hf (by omega) fun v h' e he _=>O v h' e he;by_cases I:ins<0
  ·simp[Y53,Yw.wp,I];exact Zt.mono G fun v h' hv=>by simpa using hv
  have J:16<ins:=by omega
  simp[Y53,Yw.wp,I,J];exact Zt.mono G fun v h' hv=>by simpa using hv
 have I:¬ins<0:=by omega
 have J:¬16<ins:=by omega
 by_cases d1:cP<0\/16<cP
 ·have U:Wy ins cP=Ui 1 1:=by simp[Wy,I,J,d1]
  rw[U] at O;have G:Zt Y 54 [.int .i64 1,.int .i64 1] h fun v h'=>R v h':=Zcx Hf (by omega) fun v h' e he _=>O v h' e he;by_cases X:cP<0
  ·simp[Y53,Yw.wp,I,J,X];exact Zt.mono G fun v h' hv=>by simpa using hv
  have d3:16<cP:=by omega
  simp[Y53,Yw.wp,I,J,X,d3];exact Zt.mono G fun v h' hv=>by simpa using hv
 have X:¬cP<0:=by omega
 have d3:¬16<cP:=by omega
 have U:Wy ins cP=wOK:=by simp[Wy,I,J,X,d3]
 rw[U] at O;simp[Y53,Yw.wp,I,J,X,d3];exact O _ _ (Mod.refl h) Zfk.ok
def Znl(ins cP:Int)(s:Sl):cR:=.agg #[.int .i64 ins,.int .i64 cP,s.v]
structure TurnCk(Y:Sys):Prop where
 Check:Y.cL 34 Y34
 sides:Y.cL 53 Y53
 fault:Y.cL 54 Y54
 Weight:Y.cL 55 Y55
structure Zhg(Y:Sys):Prop extends TurnCk Y where
 At:Y.cL 40 Y40
instance:Coe (Zhg Y) (TurnCk Y):=⟨Zhg.toTurnCk⟩
def Zlv{ins cP:Int}(h0:(Wy ins cP).2=0):Wy ins cP=wOK/\0<=ins/\ins<=16/\0<=cP/\cP<=16:=by
 unfold Wy at h0 ⊢
 split at h0
 ·simp[Ui] at h0
 split at h0
 ·simp[Ui] at h0
 rename_i h1 G;rw[if_neg h1,if_neg G];refine⟨rfl,?_,?_,?_,?_⟩<;>omega
def Zl4{a b:Int}(G:0<=a/\a<=16)(hb:0<=b/\b<=16):IntKind.i64.wrap (a * b)=a * b/\0<=a * b/\a * b<=256:=by
 have h1:0<=a * b:=Xkk G.1 hb.1;have H:a * b<=16 * 16:=Xma G.2 hb.2 hb.1 (by omega);exact⟨Zn,h1,by omega⟩
def Xio(s:Sl)(cs:Zb)(tv:Zj)(b:Nat)(h0:Zk)(e:Zc)(h':Zk):Prop :=
 ∃(i:Nat)(d f g h j a c:Zj),e=[tv,.pointer (some ⟨b,0,none⟩),.nilIface,d,f,g,h,j,s.v,.int .i64 s.n,.int .i64 i,a,c]/\i<=s.n/\Uc 0 cs=Uc i (cs.drop i)/\Ext h0 h'
def Zvu(T:TurnCk Y){ins cP:Int}{s:Sl}{cs:Zb}(r:Zw h s cs){R:Ze}(J:∀v h',Ext h h'->Zfk Y h.size h' (Qt ins cP cs) v->R v h'):
  Zt Y 34 [Znl ins cP s] h R:=by
 refine .o T.Check ?_;simp[Y34,Yw.wp,Znl];refine Zo ?_;intro b h1 g1 B1 e1;simp[B1.hc];refine Zk8 T.sides T.fault ?_;intro v h2 e2 he;have H:=e1.trans e2;have B2:=B1.cC e2;by_cases h0:(Wy ins cP).2=0
 ·obtain⟨hs,a1,a2,a3,a4⟩:=Zlv h0;have:=he.cH.nil h0;subst this;obtain⟨m1,m2,m3⟩:=Zl4 ⟨a1,a2⟩ ⟨a3,a4⟩;have hl:=r.len;by_cases c1:(s.n:Int)=ins * cP
  ·have U:Qt ins cP cs=match Uc 0 cs with|some i=>Ui (3+i) 8|none=>wOK:=by
    simp only[Qt,h0,hl,c1];simp
   rw[U] at J;simp[B2.hc,m1,c1];refine Zp (Xio s cs (.agg #[.int .i64 ins,.int .i64 cP,s.v]) b h) (fun e _=>s.n-Zx e 10) ⟨0,_,_,_,_,_,_,_,by rw[c1];rfl,by omega,by simp,H⟩ ?_;clear e1 e2 H he B1 B2;rintro e h3 ⟨i,v3,v4,v5,v6,v7,ab,ac,rfl,hi,G,e3⟩;have r3:=r.cC e3;by_cases aa:i<s.n
   ·have I:(i:Int)<s.n:=by omega
    have w1:=wrapS (i:=i);have w3:IntKind.i64.wrap (3+(i:Int))=3+(i:Int):=Zn;rw[Zhh] at G;simp[I,Zl r3.ok,r3.at aa];refine Zjs T.Weight ?_
    cases X:Xa (Zm cs i) with
    |true =>
     rw[X] at G;simp[w1];exact nx ⟨i+1,_,_,_,_,_,_,_,rfl,by omega,by simpa using G,e3⟩
    |false =>
     rw[X] at G;simp at G;rw[G] at J;simp[w3];refine Zcx T.fault (by omega) ?_;intro v h4 e4 O _;simp;exact J _ _ (e3.trans e4) (O.mono e3.size)
   have I:¬(i:Int)<s.n:=by omega
   rw[Xj2] at G;simp only[Uc] at G;rw[G] at J;simp[I];exact J _ _ e3 Zfk.ok
  have U:Qt ins cP cs=Ui 2 9:=by
   simp only[Qt,h0,hl];simp[c1]
  rw[U] at J;simp[B2.hc,m1,c1];refine Zcx T.fault (by omega) ?_;intro v h4 e4 O _;simp;exact J _ _ (H.trans e4) (O.mono H.size)
 obtain⟨t,u,hv⟩:=he.cH.iface h0;have U:Qt ins cP cs=Wy ins cP:=by simp[Qt,h0]
 rw[U] at J;subst hv;simp;exact J _ _ H (he.mono e1.size)
def atV(ins cP:Int)(cs:Zb)(i k:Int):Int :=
 if i<0\/ins<=i\/k<0\/cP<=k\/(Wy ins cP).2≠0 then 1152921504606846976
 else if i * cP+k<cs.length then Zm cs (i * cP+k).toNat else 1152921504606846976
def Zwv{ins cP i k:Int}(h1:0<=i)(I:i<ins)(J:0<=k)(h4:k<cP)(O:ins<=16)(G:cP<=16):
  IntKind.i64.wrap (i * cP)=i * cP/\IntKind.i64.wrap (i * cP+k)=i * cP+k/\0<=i * cP+k/\i * cP+k<ins * cP:=by
 have R:0<=i * cP:=Xkk h1 (by omega);have U:i * cP<=16 * 16:=Xma (by omega) G (by omega) (by omega);have H:(i+1) * cP<=ins * cP:=Xkl (by omega) (by omega);rw[Int.add_mul,Xmb] at H;exact⟨Zn,Zn,by omega,by omega⟩
def Xag(T:Zhg Y){ins cP i k:Int}{s:Sl}{cs:Zb}(r:Zw h s cs){R:Ze}(G:∀h',Ext h h'->R (.int .i64 (atV ins cP cs i k)) h'):
  Zt Y 40 [Znl ins cP s,.int .i64 i,.int .i64 k] h R:=by
 refine .o T.At ?_;simp[Y40,Yw.wp,Znl];refine Zo ?_;intro b h1 g1 B1 U;by_cases c1:i<0
 ·have hv:atV ins cP cs i k=1152921504606846976:=by simp[atV,c1]
  rw[hv] at G;simp[c1];exact G _ U
 by_cases I:ins<=i
 ·have hv:atV ins cP cs i k=1152921504606846976:=by simp[atV,I]
  rw[hv] at G;simp[c1,B1.hc,I];exact G _ U
 by_cases O:k<0
 ·have hv:atV ins cP cs i k=1152921504606846976:=by simp[atV,O]
  rw[hv] at G;simp[c1,B1.hc,I,O];exact G _ U
 by_cases X:cP<=k
 ·have hv:atV ins cP cs i k=1152921504606846976:=by simp[atV,X]
  rw[hv] at G;simp[c1,B1.hc,I,O,X];exact G _ U
 simp[c1,B1.hc,I,O,X];refine Zk8 T.sides T.fault ?_;intro v h2 e2 he;have H:=U.trans e2;have B2:=B1.cC e2;have r2:=r.cC H;by_cases h0:(Wy ins cP).2=0
 ·obtain⟨hs,a1,a2,a3,a4⟩:=Zlv h0;have:=he.cH.nil h0;subst this;obtain⟨w1,w2,p0,p1⟩:=Zwv (ins:=ins) (cP:=cP) (i:=i) (k:=k) (by omega) (by omega) (by omega) (by omega) a2 a4;have hl:=r.len;by_cases c5:i * cP+k<s.n
  ·have hv:atV ins cP cs i k=Zm cs (i * cP+k).toNat:=by
    simp only[atV,c1,I,O,X,h0,hl];simp[c5]
   rw[hv] at G;have J:=r2.at (i:=(i * cP+k).toNat) (by omega)
   simp[B2.hc,w1,w2,c5,Zl r2.ok,p0,J];exact G _ H
  have hv:atV ins cP cs i k=1152921504606846976:=by
   simp only[atV,c1,I,O,X,h0,hl];simp[c5]
  rw[hv] at G;simp[B2.hc,w1,w2,c5];exact G _ H
 obtain⟨t,u,hv⟩:=he.cH.iface h0;have aa:atV ins cP cs i k=1152921504606846976:=by simp[atV,h0]
 rw[aa] at G;subst hv;simp;exact G _ H
def Z8f{a b:Zb}(G:a.length=b.length)(h:∀j,j<a.length->Zm a j=Zm b j):a=b:=by
 apply Xjp G;intro i h1 H;have:=h i h1;simpa[Zm,h1,H] using this
def Zqv(HC:Y.cL 58 Y58){s:Sl}{cs:Zb}(r:Zw h s cs)(I:s.n<=17592186044416){R:Ze}
  (J:∀h' H,Ext h h'->Yh h' 1 H (Zu cs)->(H.nl=true\/h.size<=H.b)->R H.v h'):Zt Y 58 [s.v] h R:=by
 refine .o HC ?_
 cases G:s.nl with
 |true =>
  have:cs=[]:=Xjr (by rw[r.len];exact (r.ok.nil G).1);subst this;simp[Y58,Yw.wp,G];exact J h Sl.nil (Mod.refl h) Yh.nil (.inl rfl)
 |false =>
  simp[Y58,Yw.wp,G,Zgo];intro t;have O:Ext h (h.push (.cells #[] t)):=Mod.push;refine Zdy (r.cC O) I Zi0 (.inr (Xi4 _)) O ?_;intro H h' o hb U;simp;exact J h' H U o hb
def Z6j{ins cP:Int}{cs:Zb}(h0:(Qt ins cP cs).2=0):0<=ins/\ins<=16/\0<=cP/\cP<=16/\(cs.length:Int)=ins * cP/\Uc 0 cs=none/\Qt ins cP cs=wOK:=by
 unfold Qt at h0 ⊢
 split at h0
 ·rename_i h1;exact absurd h0 h1
 rename_i h1;have h1:(Wy ins cP).2=0:=by simpa using h1
 obtain⟨_,H,I,J,O⟩:=Zlv h1
 split at h0
 ·simp[Ui] at h0
 rename_i G;have G:(cs.length:Int)=ins * cP:=by simpa using G
 refine⟨H,I,J,O,G,?_⟩
 split at h0
 ·simp[Ui] at h0
 rename_i R;exact⟨R,by simp[h1,G]⟩
end
end Go.Rm

namespace Go.Rm
section
variable{Y:Sys}{h:Zk}
def Zfq{K:Ze}{H I p a:Zj}:
  Ef.wp h K (.bslice 1 2 #[H,I] [0]) [.agg #[p,a]] = ∀t:TypeId,K (.slice (some ⟨h.size,0,none⟩) 1 1) (h.push (.cells #[p,a] t)):=by
 have e:Instr.fill (fun i=>some (i * 2,2)) (Xv #[H,I] (1 * 2)) ([0].zip [.agg #[p,a]])=some #[p,a]:=by
  simp[Instr.fill,Xv];apply Xkp
  ·simp
  intro i h1 G
  match i,G with
  |0,_=>simp
  |1,_=>simp
  |i+2,G=>exact absurd G (by simp)
 simp only[Ef.wp,e]
abbrev FWr(lo:Nat)(h:Zk)(w:Wr)(v:Zj):Prop:=Zdr lo (fun h=>Zgn h w.1 w.2 v) h
def FWr.ok{lo:Nat}:FWr lo h wOK (.agg #[.slice none 0 0,.int .i64 0]):=fun h' _=>⟨Sl.nil,rfl,Sl.nil_ok,rfl,fun i x hx=>by simp[wOK] at hx⟩
def Zgn.shape{w:Wr}{v:Zj}(G:Zgn h w.1 w.2 v):∃s:Sl,v = .agg #[s.v,.int .i64 w.2]:=by
 obtain⟨s,e,_⟩:=G;exact⟨s,e⟩
def Zda(HA:Y.cL 50 Y50){p:ByteArray}{a c:Int}{R:Ze}(I:∀h' v,Ext h h'->FWr h.size h' ([(p,a)],c) v->R v h'):
  Zt Y 50 [.string p,.int .i64 a,.int .i64 c] h R:=by
 refine .o HA ?_;simp[Y50,Yw.wp];refine Zo ?_;intro b h1 U B1 G;simp[Zfq];intro t;have P2:Yo (h1.push (.cells #[.string p,.int .i64 a] t)) h1.size #[.string p,.int .i64 a]:=Yo.new;have e2:Ext h1 (h1.push (.cells #[.string p,.int .i64 a] t)):=Mod.push;have B2:=B1.cC e2;have X:=G.size;have B1lt:=B1.lt;generalize h1.push (.cells #[.string p,.int .i64 a] t)=h2 at *
 refine Zy B2 ?_;intro J B3 H;simp;refine Vf rfl B3 rfl ?_;refine I J _ ((G.trans e2).cC H (fun j hj=>by omega)) ?_;have P3:=H.cM P2 (by omega);intro h4 O;have P4:=O.cM P3 (by omega);refine⟨Sl.at h1.size 1 1,rfl,⟨fun h=>(by cases h),by simp,.inl rfl⟩,rfl,?_⟩;intro i x hx
 match i with
 |0 =>
  simp at hx;subst hx;exact⟨by rw[show (Sl.at h1.size 1 1).b=h1.size from rfl,P4.hc];rfl,by rw[show (Sl.at h1.size 1 1).b=h1.size from rfl,P4.hc];rfl⟩
 |i+1=>simp at hx
def Zif(H:Y.cL 49 Y49){a:Int}{R:Ze}(G:R (.bool (Xa a)) h):Zt Y 49 [.int .i64 a] h R:=by
 refine .o H ?_;simp[Y49,Yw.wp];by_cases h1:0<=a
 ·by_cases I:a<=2147483648
  ·have:Xa a=true:=by simp[Xa,h1,I]
   rw[this] at G;simp[h1,I,G]
  have:Xa a=decide (a=1152921504606846976):=by simp[Xa,h1,I]
  rw[this] at G;simp[h1,I,G]
 have:Xa a=decide (a=1152921504606846976):=by simp[Xa,h1]
 rw[this] at G;simp[h1,G]
structure Z3f(Y:Sys):Prop where
 At:Y.cL 50 Y50
 Weight:Y.cL 49 Y49
 Check:Y.cL 32 Y32
def Xga(s:Sl)(cs:Zb)(tv:Zj)(b rb:Nat)(ins cP:Int)(h0:Zk)(e:Zc)(h':Zk):Prop :=
 ∃(i:Nat)(v4 v5 v6 v7 v8:Zj),e=[tv,.pointer (some ⟨b,0,none⟩),.pointer (some ⟨rb,0,none⟩),.int .i64 i,v4,v5,v6,v7,v8]/\i<=s.n/\Uc 0 cs=Uc i (cs.drop i)/\h'=h0
def Zsy(T:Z3f Y){ins cP:Int}{s:Sl}{cs:Zb}(r:Zw h s cs){R:Ze}(hr:∀h' v,Ext h h'->FWr h.size h' (Qt ins cP cs) v->R v h'):
  Zt Y 32 [Znl ins cP s] h R:=by
 refine .o T.Check ?_;simp[Y32,Yw.wp,Znl];refine Zo ?_;intro b h1 g1 B1 e1;simp;refine Zo ?_;intro rb h2 g2 B2 e2;have B1':=B1.cC e2;have ab:=e1.trans e2;have z1:=e1.size;have z2:=e2.size;have B2lt:=B2.lt;have r2:=r.cC ab;have hl:=r.len;have O:∀{a e:Int}{K:Ze},Qt ins cP cs=Ui a e->(∀h' v (hx:FWr h.size h' (Qt ins cP cs) v),Ext h h'->Yo h' rb #[.slice none 0 0,.int .i64 0]->rb<h2.size ->
   FWr h2.size h' (Qt ins cP cs) v->K v h')->Zt Y 50 [.string Xbr,.int .i64 a,.int .i64 e] h2 K:=by
  intro a e K J hk;refine Zda T.At ?_;intro h' v e3 G;have G:FWr h2.size h' (Qt ins cP cs) v:=by rw[J];exact G
  exact hk h' v (G.mono (by omega)) (ab.trans e3) (B2.cC e3) B2lt G
 have I:∀{h':Zk}{v:Zj}{K:Ze},Ext h h'->Yo h' rb #[.slice none 0 0,.int .i64 0]->FWr h2.size h' (Qt ins cP cs) v->(∀h4 s',v = .agg s'->Yo h4 rb s'->s'.size=2->R v h4->K undef h4) ->
   Ef.wp h' K (.store 2) [.pointer (some ⟨rb,0,none⟩),v]:=by
  intro h' v K e3 B3 G hk;obtain⟨s',rfl⟩:=G.cH.shape;refine Zy B3 ?_;intro h4 B4 m4;exact hk h4 _ rfl B4 rfl (hr h4 _ (Mod.cC e3 m4 (fun j hj=>by omega)) ((G.step m4 (fun j hj=>by omega)).mono (by omega)))
 by_cases c1:ins<0
 ·have J:Qt ins cP cs=Ui 0 1:=by simp[Qt,Wy,c1,Ui]
  simp[B1'.hc,c1];refine O J ?_;intro h' v _ e3 B3 _ G;simp;refine I e3 B3 G ?_;rintro h4 s' rfl B4 U X;simp;exact Vf rfl B4 U X
 by_cases c2:16<ins
 ·have J:Qt ins cP cs=Ui 0 1:=by simp[Qt,Wy,c2,Ui]
  simp[B1'.hc,c1,c2];refine O J ?_;intro h' v _ e3 B3 _ G;simp;refine I e3 B3 G ?_;rintro h4 s' rfl B4 U X;simp;exact Vf rfl B4 U X
 by_cases c3:cP<0
 ·have J:Qt ins cP cs=Ui 1 1:=by simp[Qt,Wy,c1,c2,c3,Ui]
  simp[B1'.hc,c1,c2,c3];refine O J ?_;intro h' v _ e3 B3 _ G;simp;refine I e3 B3 G ?_;rintro h4 s' rfl B4 U X;simp;exact Vf rfl B4 U X
 by_cases c4:16<cP
 ·have J:Qt ins cP cs=Ui 1 1:=by simp[Qt,Wy,c1,c2,c4,Ui]
  simp[B1'.hc,c1,c2,c3,c4];refine O J ?_;intro h' v _ e3 B3 _ G;simp;refine I e3 B3 G ?_;rintro h4 s' rfl B4 U X;simp;exact Vf rfl B4 U X
 have ac:Wy ins cP=wOK:=by simp[Wy,c1,c2,c3,c4]
 obtain⟨m1,m2,m3⟩:=Zl4 (a:=ins) (b:=cP) (by omega) (by omega);by_cases c5:(s.n:Int)=ins * cP
 ·have J:Qt ins cP cs=match Uc 0 cs with|some i=>Ui (3+i) 8|none=>wOK:=by
   simp only[Qt,ac,hl,c5,wOK];simp<;>rfl
  simp[B1'.hc,c1,c2,c3,c4,m1,c5];refine Zp (Xga s cs (.agg #[.int .i64 ins,.int .i64 cP,s.v]) b rb ins cP h2) (fun e _=>s.n-Zx e 3) ⟨0,_,_,_,_,_,rfl,by omega,by simp,rfl⟩ ?_;rintro e h3 ⟨i,v4,v5,v6,v7,v8,rfl,hi,H,rfl⟩;by_cases ae:i<s.n
  ·have aa:(i:Int)<s.n:=by omega
   have w1:=wrapS (i:=i);have w3:IntKind.i64.wrap (3+(i:Int))=3+(i:Int):=Zn;rw[Zhh] at H;simp[B1'.hc,aa,Zl r2.ok,r2.at ae];refine Zif T.Weight ?_
   cases ad:Xa (Zm cs i) with
   |true =>
    rw[ad] at H;simp[w1];exact nx ⟨i+1,_,_,_,_,_,rfl,by omega,by simpa using H,rfl⟩
   |false =>
    rw[ad] at H;simp at H;rw[H] at J;simp[w3];refine O J ?_;intro h' v _ e3 B3 _ G;simp;refine I e3 B3 G ?_;rintro h4 s' rfl B4 U X;simp;exact Vf rfl B4 U X
  have aa:¬(i:Int)<s.n:=by omega
  rw[Xj2] at H;simp only[Uc] at H;rw[H] at J;simp[B1'.hc,aa];refine Zy B2 ?_;intro h4 B4 m4;simp;refine Vf rfl B4 rfl (hr h4 _ (Mod.cC ab m4 (fun j hj=>by omega)) ?_);rw[J];exact FWr.ok
 have J:Qt ins cP cs=Ui 2 9:=by
  simp only[Qt,ac,hl,wOK];simp[c5]
 simp[B1'.hc,c1,c2,c3,c4,m1,c5];refine O J ?_;intro h' v _ e3 B3 _ G;simp;refine I e3 B3 G ?_;rintro h4 s' rfl B4 U X;simp;exact Vf rfl B4 U X
end
end Go.Rm


namespace Go.Rm
section
variable{Y:Sys}{h:Zk}
def Xh{K:Ze}{v:Zj}{n:Nat}{vs:Array cR}(R:∀(b:Nat)(G:Zk),h.size<=b->Yo G b v.cells->Ext h G->(∀K2:Ze,(∀H,Yo H b vs->Ext h H->K2 undef H)->Ef.wp G K2 (.store n) [.pointer (some ⟨b,0,none⟩),.agg vs]) ->
   K (.pointer (some ⟨b,0,none⟩)) G)(J:v.cells.size=n:=by rfl)(O:vs.size=n:=by rfl)(h1:∀v∈vs.toList,v.oneCell'=true:=by simp):Ef.wp h K .new [v]:=by
 refine Zo ?_;intro b G g2 B2 e2;refine R b G g2 B2 e2 ?_;intro K2 I;refine Zy B2 ?_ O J h1;intro H B3 U;exact I H B3 (Mod.cC e2 U (fun j X=>by omega))
end
end Go.Rm
