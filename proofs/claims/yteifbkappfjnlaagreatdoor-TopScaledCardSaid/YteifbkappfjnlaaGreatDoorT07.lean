import Derived.Test.YteifbkappfjnlaaGreatDoorT05
/- Parts. -/
set_option linter.all false
namespace Go.Rm
def Xd(l:Zd)(i:Nat):Nat:=l.getD i 0
def Zm(l:Zb)(i:Nat):Int:=l.getD i 0
def V0{l:Zd}{i j k:Nat}(G:i<l.length):Xd (l.set i k) j=if j=i then k else Xd l j:=by
 simp only[Xd,Xiy,Xkt]
 split
 ·rename_i h;subst h;simp
 rename_i h;rw[if_neg (fun e=>h e.symm)]
def Vf{l:Zb}{i j:Nat}{k:Int}(G:i<l.length:=by omega):Zm (l.set i k) j=if j=i then k else Zm l j:=by
 simp only[Zm,Xiy,Xkt]
 split
 ·rename_i h;subst h;simp
 rename_i h;rw[if_neg (fun e=>h e.symm)]
def Zg3{l:Zd}{i n:Nat}(G:i<n):Xd (l.take n) i=Xd l i:=by
 simp[Xd,Xiy,G]
def Zax{l m:Zd}{i:Nat}(G:i<l.length):Xd (l++m) i=Xd l i:=by
 simp[Xd,Xiy,Xjb G]
def Zeh{l:Zd}{k:Nat}:Xd (l++[k]) l.length=k:=by
 simp[Xd,Xiy]
def klt(cN:Zb)(a b:Nat):Prop:=Zm cN a<Zm cN b\/(Zm cN a=Zm cN b/\a<b)
instance(cN:Zb)(a b:Nat):Decidable (klt cN a b):=by unfold klt;infer_instance
def Zas{cN:Zb}{a:Nat}:¬klt cN a a:=by unfold klt;omega
def Zim{cN:Zb}{a b c:Nat}(h1:klt cN a b)(G:klt cN b c):klt cN a c:=by unfold klt at *;omega
def Zig{cN:Zb}{a b c:Nat}(h1:¬klt cN b a)(G:¬klt cN c b):¬klt cN c a:=by unfold klt at *;omega
def Zzi{cN:Zb}{a b c:Nat}(h1:klt cN a b)(G:¬klt cN c b):¬klt cN c a:=by unfold klt at *;omega
structure Qm(row:Zd)(n:Nat)(cQ:Zd):Prop where
 len:cQ.length=n
 rv:∀i,i<row.length->Xd row i<n
 rs:∀i,i<row.length->Xd cQ (Xd row i)=i+1
 sv:∀k,k<n->Xd cQ k≠0->Xd cQ k-1<row.length/\Xd row (Xd cQ k-1)=k
def Wc(row:Zd)(i j:Nat):Zd:=(row.set i (Xd row j)).set j (Xd row i)
def Vr(row cQ:Zd)(i j:Nat):Zd:=(cQ.set (Xd (Wc row i j) i) (i+1)).set (Xd (Wc row i j) j) (j+1)
@[simp] theorem Zuh {row:Zd} {i j:Nat}:(Wc row i j).length=row.length:=by simp[Wc]
@[simp] theorem Z8c {row G:Zd} {i j:Nat}:(Vr row G i j).length=G.length:=by simp[Vr]
def Xm{row:Zd}{i j:Nat}(G:i<row.length)(H:j<row.length)(k:Nat):
  Xd (Wc row i j) k=if k=j then Xd row i else if k=i then Xd row j else Xd row k:=by
 unfold Wc;rw[V0 (by simpa using H),V0 G]
def Qm.inj{row:Zd}{n:Nat}{G:Zd}(V:Qm row n G){i j:Nat}(H:i<row.length)(I:j<row.length)(h:Xd row i=Xd row j):i=j:=by
 have h1:=V.rs i H;have J:=V.rs j I;rw[h] at h1;omega
def Zcw{row:Zd}{n:Nat}{G:Zd}{i j:Nat}(V:Qm row n G)(H:i<row.length)(I:j<row.length)(k:Nat):
  Xd (Vr row G i j) k=if k=Xd row i then j+1 else if k=Xd row j then i+1 else Xd G k:=by
 have h1:Xd (Wc row i j) i=Xd row j:=by
  rw[Xm H I]
  split
  ·rename_i h;rw[h]
  simp
 have J:Xd (Wc row i j) j=Xd row i:=by rw[Xm H I];simp
 unfold Vr;rw[h1,J,V0 (by simp;rw[V.len];exact V.rv i H),V0 (by rw[V.len];exact V.rv j I)]
def Qm.swap{row:Zd}{n:Nat}{G:Zd}(V:Qm row n G){i j:Nat}(H:i<row.length)(I:j<row.length):
  Qm (Wc row i j) n (Vr row G i j):=by
 refine⟨by simpa using V.len,?_,?_,?_⟩
 ·intro k J;simp at J;rw[Xm H I];have:=V.rv i H;have:=V.rv j I;have:=V.rv k J
  split<;>(try split)<;>assumption
 ·intro k J;simp at J;rw[Zcw V H I,Xm H I];have e:=V.rs k J;by_cases O:k=j
  ·subst O;simp
  by_cases R:k=i
  ·subst R;simp only[O,if_false,if_true]
   split
   ·rename_i h;have:=V.inj I H h;omega
   rfl
  simp only[O,R,if_false]
  split
  ·rename_i h;exact absurd (V.inj J H h) R
  split
  ·rename_i h;exact absurd (V.inj J I h) O
  exact e
 intro k J U;rw[Zcw V H I] at U ⊢;simp only[Zuh]
 split
 ·rename_i h;refine⟨by simpa using I,?_⟩;rw[Xm H I];simp[h]
 rename_i h
 split
 ·rename_i X;refine⟨by simpa using H,?_⟩;rw[Xm H I];simp only[Xk7]
  split
  ·rename_i h3;rw[X,<-h3]
  simp[X]
 rename_i X;rw[if_neg h,if_neg X] at U;obtain⟨q1,q2⟩:=V.sv k J U;refine⟨q1,?_⟩;rw[Xm H I]
 split
 ·rename_i h3;rw[h3] at q2;exact absurd q2.symm X
 split
 ·rename_i h3;rw[h3] at q2;exact absurd q2.symm h
 exact q2
def Zqr{row:Zd}{n:Nat}{G:Zd}(V:Qm row n G){i j:Nat}(H:i<row.length)(I:j<row.length)(k:Nat):
  Xd (Vr row G i j) k=0↔Xd G k=0:=by
 rw[Zcw V H I]
 split
 ·rename_i h;have:=V.rs i H;rw[<-h] at this;omega
 split
 ·rename_i h;have:=V.rs j I;rw[<-h] at this;omega
 rfl
def Ys(j:Nat):Nat:=(j-1) / 2
structure Zqx(row:Zd)(cN:Zb)(i:Nat):Prop where
 a:∀j,0<j->j<row.length->j≠i->¬klt cN (Xd row j) (Xd row (Ys j))
 b:0<i->∀j,0<j->j<row.length->Ys j=i->¬klt cN (Xd row j) (Xd row (Ys i))
structure Ztu(row:Zd)(cN:Zb)(i:Nat):Prop where
 a:∀j,0<j->j<row.length->Ys j≠i->¬klt cN (Xd row j) (Xd row (Ys j))
 b:0<i->∀j,0<j->j<row.length->Ys j=i->¬klt cN (Xd row j) (Xd row (Ys i))
def Ord(row:Zd)(cN:Zb):Prop:=∀j,0<j->j<row.length->¬klt cN (Xd row j) (Xd row (Ys j))
def Wz{j:Nat}(h:0<j):Ys j<j:=by unfold Ys;omega
def Zqx.step{row:Zd}{cN:Zb}{i:Nat}(O:Zqx row cN i)(h0:0<i)(hi:i<row.length)(U:klt cN (Xd row i) (Xd row (Ys i))):
  Zqx (Wc row i (Ys i)) cN (Ys i):=by
 have hp:=Wz h0;have I:Ys i<row.length:=by omega
 refine⟨?_,?_⟩
 ·intro j H J R;simp at J;rw[Xm hi I,Xm hi I,if_neg R];by_cases G:j=i
  ·subst G;simp only[if_true];exact fun h=>Zas (Zim h U)
  rw[if_neg G];by_cases h1:Ys j=Ys i
  ·rw[if_pos h1];have:=O.a j H J G;rw[h1] at this;exact Zzi U this
  rw[if_neg h1];by_cases h2:Ys j=i
  ·rw[if_pos h2];exact O.b h0 j H J h2
  rw[if_neg h2];exact O.a j H J G
 intro X j H J R;simp at J;have ab:=Wz X;rw[Xm hi I,Xm hi I];have hg:¬klt cN (Xd row (Ys i)) (Xd row (Ys (Ys i))):=O.a (Ys i) X I (by omega);rw[if_neg (show Ys (Ys i)≠Ys i by omega),if_neg (show Ys (Ys i)≠i by omega)];have aa:j≠Ys i:=by intro e;have:=Wz H;omega
 rw[if_neg aa];by_cases G:j=i
 ·rw[if_pos G];exact hg
 rw[if_neg G];have:=O.a j H J G;rw[R] at this;exact Zig hg this
def Zqx.fin{row:Zd}{cN:Zb}{i:Nat}(O:Zqx row cN i)(h:0<i->¬klt cN (Xd row i) (Xd row (Ys i))):Ord row cN:=by
 intro j G I;by_cases H:j=i
 ·subst H;exact h G
 exact O.a j G I H
def Ztu.step{row:Zd}{cN:Zb}{i c:Nat}(O:Ztu row cN i)(U:0<c)(hc:c<row.length)(H:Ys c=i)(ab:klt cN (Xd row c) (Xd row i))
  (X:∀j,0<j->j<row.length->Ys j=i->¬klt cN (Xd row j) (Xd row c)):Ztu (Wc row i c) cN c:=by
 have ad:i<c:=by have:=Wz U;omega
 have hi:i<row.length:=by omega
 refine⟨?_,?_⟩
 ·intro j G R I;simp at R;have ac:=Wz G;rw[Xm hi hc,Xm hi hc];by_cases aa:j=c
  ·subst aa;simp only[if_true];rw[H,ifN,if_pos rfl];exact fun h=>Zas (Zim h ab)
  rw[if_neg aa,if_neg I];by_cases h1:Ys j=i
  ·rw[if_pos h1,if_neg (show j≠i by omega)];exact X j G R h1
  rw[if_neg h1];by_cases J:j=i
  ·rw[if_pos J];subst J;exact O.b G c U hc H
  rw[if_neg J];exact O.a j G R h1
 intro _ j G R I;simp at R;have ac:=Wz G;rw[Xm hi hc,Xm hi hc,H,if_neg (show j≠c by omega),if_neg (show j≠i by omega),if_neg (show i≠c by omega),if_pos rfl];have:=O.a j G R (by omega);rw[I] at this;exact this
def Ztu.fin{row:Zd}{cN:Zb}{i:Nat}(O:Ztu row cN i)(h:∀j,0<j->j<row.length->Ys j=i->¬klt cN (Xd row j) (Xd row i)):Ord row cN:=by
 intro j H I;by_cases G:Ys j=i
 ·rw[G];exact h j H I G
 exact O.a j H I G
def Ord.least{row:Zd}{cN:Zb}(O:Ord row cN):∀j,j<row.length->¬klt cN (Xd row j) (Xd row 0):=by
 intro j
 induction j using Nat.strongRecOn with
 |_ j G =>
  intro H;rcases Xk3 j with h|h
  ·subst h;exact Zas
  have hp:=Wz h;exact Zig (G (Ys j) hp (by omega)) (O j h H)
def Zls{l:Zd}{k i:Nat}(G:i<(l++[k]).length):Xd (l++[k]) i=if i=l.length then k else Xd l i:=by
 split
 ·rename_i h;rw[h,Zeh]
 rename_i h;simp at G;exact Zax (by omega)
def Zvm{row:Zd}{n:Nat}{G:Zd}{k:Nat}(V:Qm row n G)(O:k<n)(h0:Xd G k=0):Qm (row++[k]) n (G.set k (row.length+1)):=by
 have I:k<G.length:=by rw[V.len];exact O
 refine⟨by simpa using V.len,?_,?_,?_⟩
 ·intro i J;rw[Zls J];simp at J
  split
  ·exact O
  exact V.rv i (by omega)
 ·intro i J;rw[Zls J,V0 I];simp at J
  split
  ·rename_i h;simp[h]
  rename_i h;have:=V.rs i (by omega)
  split
  ·rename_i R;rw[R] at this;omega
  exact this
 intro j U H;rw[V0 I] at H ⊢
 split
 ·rename_i h;refine⟨by simp,?_⟩;simp only[Xk7];rw[Zeh,h]
 rename_i h;rw[if_neg h] at H;obtain⟨X,q2⟩:=V.sv j U H;exact⟨by simp;omega,by rw[Zax X];exact q2⟩
def Qm.ne{row:Zd}{n:Nat}{G:Zd}{k i:Nat}(V:Qm row n G)(h0:Xd G k=0)(H:i<row.length):Xd row i≠k:=by
 intro e;have:=V.rs i H;rw[e] at this;omega
def Z0p{row:Zd}{n:Nat}{G:Zd}{cN:Zb}{k:Nat}{c:Int}(V:Qm row n G)(hc:k<cN.length)(h0:Xd G k=0)(O:Ord row cN):
  Zqx (row++[k]) (cN.set k c) row.length:=by
 have R:∀i,i<row.length->Zm (cN.set k c) (Xd row i)=Zm cN (Xd row i):=fun i U=>by rw[Vf hc,if_neg (V.ne h0 U)]
 refine⟨?_,?_⟩
 ·intro j H J X;have I:j<row.length:=by simp at J;omega
  have hp:Ys j<row.length:=by have:=Wz H;omega
  rw[Zax I,Zax hp];have:=O j H I;unfold klt at *
  rw[R j I,R _ hp];exact this
 intro _ j H J hp;have:=Wz H;simp at J;omega
def Zuz{row:Zd}{n:Nat}{G:Zd}{cN:Zb}{k:Nat}{c:Int}(V:Qm row n G)(hk:k<n)(hc:k<cN.length)(h0:Xd G k≠0)(O:Ord row cN)(ab:c<Zm cN k):
  Zqx row (cN.set k c) (Xd G k-1):=by
 obtain⟨q1,q2⟩:=V.sv k hk h0;have U:∀i,i<row.length->i≠Xd G k-1->Zm (cN.set k c) (Xd row i)=Zm cN (Xd row i):=by
  intro i hi I;rw[Vf hc,if_neg];intro e;apply I;have:=V.rs i hi;rw[e] at this;omega
 have aa:Zm (cN.set k c) (Xd row (Xd G k-1))=c:=by rw[q2,Vf hc];simp
 refine⟨?_,?_⟩
 ·intro j H R I;have hp:Ys j<row.length:=by have:=Wz H;omega
  have:=O j H R;by_cases J:Ys j=Xd G k-1
  ·unfold klt at *
   rw[U j R I,J,aa];rw[J,q2] at this;omega
  unfold klt at *
  rw[U j R I,U _ hp J];exact this
 intro X j H R hp;have ac:=Wz H;have ad:=Wz X;have h1:=O j H R;have h2:=O (Xd G k-1) X q1;rw[hp] at h1;have h3:=Zig h2 h1;have e1:=U j R (by omega);have e2:=U (Ys (Xd G k-1)) (by omega) (by omega);unfold klt at *
 rw[e1,e2];exact h3
section
variable{Y:Sys}{h h':Zk}
@[simp] theorem Xb5 {k:IntKind} {n:Int}:(Value.int k n).cells=#[.int k n]:=rfl
@[simp] theorem Xbh {b:Bool}:(Value.bool b).cells=#[.bool b]:=rfl
@[simp] theorem Z79 {b:ByteArray}:(Value.string b).cells=#[.string b]:=rfl
@[simp] theorem Xdw {b:Option Addr}:(Value.pointer b).cells=#[.pointer b]:=rfl
@[simp] theorem Z9h {b:Option Addr} {n c:Nat}:(Value.slice b n c).cells=#[.slice b n c]:=rfl
@[simp] theorem Z9s {t:TypeId} {v:Zj}:(Value.iface t v).cells=#[.iface t v]:=rfl
@[simp] theorem Z2u:(Value.nilIface).cells=#[.nilIface]:=rfl
@[simp] theorem Zgy {c:Array cR}:(Value.agg c).cells=c:=rfl
def Zdh{v:Zj}(hv:v.oneCell'=true):v.cells=#[v]:=by cases v<;>first|rfl|(cases hv)
@[simp] theorem Xc2 {zero:Array cR} {G:List (Nat × Nat)}:Ym.cK Y h (.build zero G []) []=some (.agg zero):=rfl
def Zd4{G H a b:Zj}(I:a.oneCell'=true)(hb:b.oneCell'=true):
  Ym.cK Y h (.build #[G,H] [(0,1),(1,1)] [0,1]) [a,b]=some (.agg #[a,b]):=by
 simp[Ym.cK,Instr.fill,Zdh I,Zdh hb]
def Zdu{G H I a b c:Zj}(J:a.oneCell'=true)(hb:b.oneCell'=true)(hc:c.oneCell'=true):
  Ym.cK Y h (.build #[G,H,I] [(0,1),(1,1),(2,1)] [0,1,2]) [a,b,c]=some (.agg #[a,b,c]):=by
 simp[Ym.cK,Instr.fill,Zdh J,Zdh hb,Zdh hc]
@[simp] theorem Z2x {G H I:Zj} {p:ByteArray} {k:IntKind} {a:Int} {t:TypeId} {v:Zj}:Ym.cK Y h (.build #[G,H,I] [(0,1),(1,1),(2,1)] [0,1,2]) [.string p,.int k a,.iface t v]=some (.agg #[.string p,.int k a,.iface t v]):=Zdu rfl rfl rfl
@[simp] theorem Z54 {G H:Zj} {p:ByteArray} {k:IntKind} {a:Int}:Ym.cK Y h (.build #[G,H] [(0,1),(1,1)] [0,1]) [.string p,.int k a]=some (.agg #[.string p,.int k a]):=Zd4 rfl rfl
@[simp] theorem Z2v {G H:Zj} {s:Sl} {k:IntKind} {a:Int}:Ym.cK Y h (.build #[G,H] [(0,1),(1,1)] [0,1]) [s.v,.int k a]=some (.agg #[s.v,.int k a]):=Zd4 rfl rfl
@[simp] theorem Z1g {G H:Zj} {x:Option Addr} {n c:Nat} {k:IntKind} {a:Int}:Ym.cK Y h (.build #[G,H] [(0,1),(1,1)] [0,1]) [.slice x n c,.int k a]=some (.agg #[.slice x n c,.int k a]):=Zd4 rfl rfl
@[simp] theorem Z8b {G H I:Zj} {k j:IntKind} {a b:Int} {s:Sl}:Ym.cK Y h (.build #[G,H,I] [(0,1),(1,1),(2,1)] [0,1,2]) [.int k a,.int j b,s.v]=some (.agg #[.int k a,.int j b,s.v]):=Zdu rfl rfl rfl
@[simp] theorem Xbl {neg:Bool} {s:Sl}:Ym.cK Y h (.eqs neg) [s.v,.slice none 0 0]=some (.bool (if neg then !s.nl else s.nl)):=by
 unfold Sl.v
 cases s.nl<;>cases neg<;>rfl
def Zo{K:Ze}{v:Zj}(G:∀(b:Nat)(h':Zk),h.size<=b->Yo h' b v.cells->Ext h h'->K (.pointer (some ⟨b,0,none⟩)) h'):Ef.wp h K .new [v] :=
 fun _=>G _ _ (Xit _) Yo.new Mod.push
def Yo.cC{b:Nat}{c:Array cR}(hb:Yo h b c)(G:Ext h h'):Yo h' b c:=G.cM hb (fun h=>h)
def Zz{K:Ze}{b n:Nat}{c vs:Array cR}(hb:Yo h b c)(I:∀h',Yo h' b vs->Mod (fun j=>j=b) h h'->K undef h')(G:vs.size=n:=by rfl)(hc:c.size=n:=by rfl)(h1:∀v∈vs.toList,v.oneCell'=true:=by simp):Ef.wp h K (.store n) [.pointer (some ⟨b,0,none⟩),.agg vs]:=by
 obtain⟨h',J,H,O,R⟩:=Zck (o:=0) (vs:=vs.toList) hb (by simp;omega) h1;refine⟨G,?_⟩;simp only[Zgy,J];refine I h' ?_ O;have e:(c.toList.take 0++vs.toList++c.toList.drop (0+vs.toList.length)).toArray=vs:=by
  apply Xi0;simp[G,hc]
 rw[e] at H;exact H
def Ye{b n:Nat}{vs:Array cR}(hb:Yo h b vs)(G:vs.size=n):rd h b 0 n=some vs.toList:=by
 have:=Zba (h:=h) (b:=b) (l:=vs.toList) (o:=0) fun i v H=>by rw[hb.hc];simpa using H
 rw[<-G];simpa using this
def Vc{R:Ze}{e:Zc}{i n b:Nat}{vs:Array cR}(G:e.getD i undef = .pointer (some ⟨b,0,none⟩))(hb:Yo h b vs)(H:vs.size=n)(I:R (.agg vs) h):
  Ux [.box i n true] R e h:=by
 unfold Ux;simp only[Zbi,Res.ev,G,Ye hb H,if_true,Xje];simpa using I
def Zpr{R:Ze}{e:Zc}{i n b j:Nat}{vs:Array cR}(G:e.getD i undef = .pointer (some ⟨b,0,none⟩))(hb:Yo h b vs)(H:vs.size=n)(I:R (.tuple #[.agg vs,e.getD j undef]) h):
  Ux [.box i n true,.n j] R e h:=by
 unfold Ux;simp only[Zbi,Res.ev,G,Ye hb H,if_true,Xje];simpa using I
structure Zv(h:Zk)(s:Sl)(cs:Zb):Prop where
 ok:s.ok
 len:cs.length=s.n
 val:∀i,i<cs.length->hc h s.b (s.o+i)=some (.int .i64 (Zm cs i))
def Zv.cC{s:Sl}{cs:Zb}(r:Zv h s cs)(G:Ext h h'):Zv h' s cs:=⟨r.ok,r.len,fun i H=>G.hc (r.val i H) (fun h=>h)⟩
def Zv.cD{S:Zf}{s:Sl}{cs:Zb}(r:Zv h s cs)(H:Mod S h h')(I:cs≠[]->¬S s.b):Zv h' s cs:=⟨r.ok,r.len,fun i G=>H.hc (r.val i G) (I (by intro e;rw[e] at G;simp at G))⟩
def Zv.at{s:Sl}{cs:Zb}{i:Nat}(r:Zv h s cs)(G:i<s.n):hc h s.b (s.o+i)=some (.int .i64 (Zm cs i)):=r.val i (by rw[r.len];exact G)
def Zr(l:Zb):Zc:=l.map fun(k:Int)=>Value.int .i64 k
def Zma{l:Zb}{i:Nat}(h:i<l.length):(Zr l)[i]? = some (.int .i64 (Zm l i)):=by
 simp[Zr,Zm,h]
@[simp] theorem Z2 {l:Zb}:(Zr l).length=l.length:=by simp[Zr]
def Vt{l:Zb}{i:Nat}{k:Int}:(Zr l).set i (.int .i64 k)=Zr (l.set i k):=by simp[Zr,Xj9]
def Zb0{l:Zb}:∀v∈Zr l,v.oneCell'=true:=by
 intro v hv;simp only[Zr,Xll] at hv;obtain⟨k,_,rfl⟩:=hv
 rfl
def Yi.cE{s:Sl}{cs:Zb}(o:Yi h 1 s (Zr cs)):Zv h s cs :=
 ⟨o.ok,by have:=o.1;simpa using this,fun i G=>o.cell (Zma G)⟩
def Z6y{s:Sl}{cs:Zb}(r:Zv h s cs):rd h s.b s.o cs.length=some (Zr cs):=by
 have:=Zba (h:=h) (b:=s.b) (l:=Zr cs) (o:=s.o) fun i v H=>by
  have G:i<cs.length:=by
   have:=(List.getElem?_eq_some_iff.1 H).1;simpa using this
  rw[Zma G] at H
  cases H
  exact r.val i G
 simpa using this
def Zdb{n:Nat}{t:TypeId}(G:n<=9223372036854775807:=by omega):Yi (h.push (.cells (Array.replicate n (.int .i64 0)) t)) 1 (Sl.at h.size n n) (Zr (List.replicate n 0)):=by
 refine⟨by simp,.inr ⟨rfl,rfl,rfl,Xit _,G,_,Yo.new,by simp,by simp[Zr]⟩⟩
def Zit{t:TypeId}{sz:Nat}:Yi (h.push (.cells #[] t)) sz (Sl.at h.size 0 0) []:=by
 refine⟨by simp,.inr ⟨rfl,rfl,rfl,Xit _,by simp,_,Yo.new,by simp,by simp⟩⟩
def Zgf{K:Ze}{sz:Nat}:Ef.wp h K (.bslice 0 sz #[] []) [] = ∀t:TypeId,K (.slice (some ⟨h.size,0,none⟩) 0 0) (h.push (.cells #[] t)):=by
 have e:Xw #[] (0 * sz)=#[]:=Array.eq_empty_of_size_eq_zero (by simp[Xw]);simp only[Nat.zero_mul] at e;simp[Ef.wp,e,Instr.fill]
def Za1{s:Sl}{cs:Zb}(r:Zv h s cs):Wj h 1 s.n s.v=some (Zr cs):=by
 have I:=Z6y r;rw[r.len] at I;unfold Sl.v
 cases G:s.nl with
 |true =>
  have:cs=[]:=Xjf (by rw[r.len];exact (r.ok.nil G).1);subst this
  rfl
 |false =>
  cases H:s.sp with
  |none=>simp only[Xi6,if_false,Wj,Xi2];exact I
  |some q =>
   have h0:s.n=0:=by
    have:=r.ok.spot.resolve_left (by rw[H];simp);have:=r.ok.le;omega
   have:cs=[]:=Xjf (by rw[r.len];exact h0);subst this;simp[Wj,h0,Zr]
def Zds{K:Ze}{s:Sl}{cs:Zb}(r:Zv h s cs)(hn:s.n<=17592186044416){h0:Zk}{s0:Sl}(o:Yi h 1 s0 [])(hb:s0.nl=true\/h0.size<=s0.b)(H:Ext h0 h)
  (J:∀(G:Sl)(h':Zk),Yi h' 1 G (Zr cs)->(G.nl=true\/h0.size<=G.b)->Ext h0 h'->K G.v h'):Ef.wp h K (.append 1 8 #[.int .i64 0]) [s0.v,s.v]:=by
 have hz:s0.n=0:=by have:=o.1;simpa using this.symm
 refine Uj o (m:=s.n) (nw:=Zr cs) Qh (Za1 r) (by simp[r.len]) Zb0 rfl (by omega) (by omega) ?_;intro G h' O R U hs';refine J G h' (by simpa using O) ?_ ?_
 ·rcases hs' with⟨I,e2⟩|⟨I,e2⟩
  ·rw[I,e2];exact hb
  have:=H.size;exact .inr (by omega)
 refine Mod.cC H U ?_;rintro b ⟨X,q2⟩;rcases hb with hb|hb
 ·rw[X] at hb;cases hb
 rw[q2];exact hb
end
abbrev inf:Int:=1152921504606846976
def Yx(a:Int):Bool:=decide (0<=a/\a<=2147483648) ||decide (a=1152921504606846976)
abbrev Xbf:ByteArray:=⟨#[116,117,114,110]⟩
abbrev Wr:=List (ByteArray × Int) × Int
def Q6:Wr:=([],0)
def Ug(at' e:Int):Wr:=([(Xbf,at')],e)
def Vz:Nat->Zb->Option Nat
 |_,[]=>none
 |i,c::r=>if Yx c then Vz (i+1) r else some i
def Ww(ins cP:Int):Wr:=if ins<0\/16<ins then Ug 0 1 else if cP<0\/16<cP then Ug 1 1 else Q6
def Qp(ins cP:Int)(cs:Zb):Wr :=
 if (Ww ins cP).2≠0 then Ww ins cP
 else if (cs.length:Int)≠ins * cP then Ug 2 9
 else match Vz 0 cs with
  |some i=>Ug (3+i) 8
  |none=>Q6
def Zha{l:Zb}{i:Nat}(G:i<l.length:=by omega):Vz i (l.drop i)=if Yx (Zm l i) then Vz (i+1) (l.drop (i+1)) else some i:=by
 rw[Xjp G];simp only[Vz,Zm,Xiy,Xju G,Xlh]
section
variable{Y:Sys}{h:Zk}
def Err(Y:Sys)(h:Zk)(w:Wr)(v:Zj):Prop:=Xho Y h w.1 w.2 v
def Err.ok:Err Y h Q6 .nilIface:=.inl ⟨rfl,rfl⟩
def Err.nil{v:Zj}{w:Wr}(e:Err Y h w v)(h0:w.2=0):v = .nilIface:=by
 rcases e with⟨_,e⟩|⟨e,_⟩
 ·exact e
 exact absurd h0 e
def Err.iface{v:Zj}{w:Wr}(e:Err Y h w v)(h0:w.2≠0):∃t u,v = .iface t u:=by
 rcases e with⟨e,_⟩|⟨_,e⟩
 ·exact absurd e h0
 obtain⟨l,c⟩:=w
 cases l with
 |nil=>exact⟨_,_,e⟩
 |cons p ps=>obtain⟨b,u,e,_⟩:=e;exact⟨_,_,e⟩
def Zdm(lo:Nat)(P:Zk->Prop)(h:Zk):Prop:=∀h',Mod (fun j=>j<lo) h h'->P h'
def Zdm.cH{lo:Nat}{P:Zk->Prop}{h:Zk}(f:Zdm lo P h):P h:=f h (Mod.refl h)
def Zdm.mono{lo G:Nat}{P:Zk->Prop}{h:Zk}(f:Zdm lo P h)(H:G<=lo):Zdm G P h:=fun h' m=>f h' (m.mono fun _ _ h=>Xlx h H)
def Zdm.step{lo:Nat}{S:Zf}{P:Zk->Prop}{h h':Zk}(f:Zdm lo P h)(m:Mod S h h')(H:∀j,S j->j<lo):Zdm lo P h':=fun G m'=>f G ((m.mono fun j _ h=>H j h).trans m')
def Zdm.cC{lo:Nat}{P:Zk->Prop}{h h':Zk}(f:Zdm lo P h)(m:Ext h h'):Zdm lo P h':=f.step m (fun _ h=>h.elim)
abbrev Zfa(Y:Sys)(lo:Nat)(h:Zk)(w:Wr)(v:Zj):Prop:=Zdm lo (fun h=>Err Y h w v) h
def Zfa.ok{lo:Nat}:Zfa Y lo h Q6 .nilIface:=fun _ _=>Err.ok
def Zjk(H:Y.cL 55 Y55){a:Int}{R:Ze}(G:R (.bool (Yx a)) h):Zu Y 55 [.int .i64 a] h R:=by
 refine .o H ?_;simp[Y55,Yw.wp];by_cases h0:a=1152921504606846976
 ·have:Yx a=true:=by simp[Yx,h0]
  rw[this] at G;simp[h0,G]
 by_cases h1:0<=a
 ·have:Yx a=decide (a<=2147483648):=by simp[Yx,h0,h1]
  rw[this] at G;simp[h0,h1,G]
 have:Yx a=false:=by simp[Yx,h0];omega
 rw[this] at G;simp[h0,h1,G]
def Zuk{b:Nat}{p:ByteArray}{a c:Int}(hb:Yo h b #[.string p,.int .i64 a,.iface (Y.tid 49) (.int .i64 c)])(hc:c≠0):
  Err Y h ([(p,a)],c) (.iface (Y.tid 50) (.pointer (some ⟨b,0,none⟩))) :=
 .inr ⟨hc,b,_,rfl,by rw[hb.hc];rfl,by rw[hb.hc];rfl,by rw[hb.hc];rfl,rfl⟩
def Zcs(H:Y.cL 54 Y54){a c:Int}(hc:c≠0){R:Ze}(G:∀v h',Ext h h'->Zfa Y h.size h' (Ug a c) v->(∃t u,v = .iface t u)->R v h'):
  Zu Y 54 [.int .i64 a,.int .i64 c] h R:=by
 refine .o H ?_;simp[Y54,Yw.wp];refine Zo ?_;intro b h1 J B I;simp;exact G _ _ I (fun h' m=>Zuk (m.cM B (by omega)) hc) ⟨_,_,rfl⟩
def Zkx(H:Y.cL 53 Y53)(Hf:Y.cL 54 Y54){ins cP:Int}{R:Ze}(O:∀v h',Ext h h'->Zfa Y h.size h' (Ww ins cP) v->R v h'):
  Zu Y 53 [.int .i64 ins,.int .i64 cP] h R:=by
 refine .o H ?_;by_cases c1:ins<0\/16<ins
 ·have U:Ww ins cP=Ug 0 1:=by simp[Ww,c1]
  rw[U] at O;have G:Zu Y 54 [.int .i64 0,.int .i64 1] h fun v h'=>R v h':=Zcs Hf (by omega) fun v h' e he _=>O v h' e he;by_cases I:ins<0
  ·simp[Y53,Yw.wp,I];exact Zu.mono G fun v h' hv=>by simpa using hv
  have J:16<ins:=by omega
  simp[Y53,Yw.wp,I,J];exact Zu.mono G fun v h' hv=>by simpa using hv
 have I:¬ins<0:=by omega
 have J:¬16<ins:=by omega
 by_cases d1:cP<0\/16<cP
 ·have U:Ww ins cP=Ug 1 1:=by simp[Ww,I,J,d1]
  rw[U] at O;have G:Zu Y 54 [.int .i64 1,.int .i64 1] h fun v h'=>R v h':=Zcs Hf (by omega) fun v h' e he _=>O v h' e he;by_cases X:cP<0
  ·simp[Y53,Yw.wp,I,J,X];exact Zu.mono G fun v h' hv=>by simpa using hv
  have d3:16<cP:=by omega
  simp[Y53,Yw.wp,I,J,X,d3];exact Zu.mono G fun v h' hv=>by simpa using hv
 have X:¬cP<0:=by omega
 have d3:¬16<cP:=by omega
 have U:Ww ins cP=Q6:=by simp[Ww,I,J,X,d3]
 rw[U] at O;simp[Y53,Yw.wp,I,J,X,d3];exact O _ _ (Mod.refl h) Zfa.ok
def Zna(ins cP:Int)(s:Sl):cR:=.agg #[.int .i64 ins,.int .i64 cP,s.v]
structure TurnCk(Y:Sys):Prop where
 Check:Y.cL 34 Y34
 sides:Y.cL 53 Y53
 fault:Y.cL 54 Y54
 Weight:Y.cL 55 Y55
structure Zg9(Y:Sys):Prop extends TurnCk Y where
 At:Y.cL 40 Y40
instance:Coe (Zg9 Y) (TurnCk Y):=⟨Zg9.toTurnCk⟩
def Zll{ins cP:Int}(h0:(Ww ins cP).2=0):Ww ins cP=Q6/\0<=ins/\ins<=16/\0<=cP/\cP<=16:=by
 unfold Ww at h0 ⊢
 split at h0
 ·simp[Ug] at h0
 split at h0
 ·simp[Ug] at h0
 rename_i h1 G;rw[if_neg h1,if_neg G];refine⟨rfl,?_,?_,?_,?_⟩<;>omega
def Zlt{a b:Int}(G:0<=a/\a<=16)(hb:0<=b/\b<=16):IntKind.i64.wrap (a * b)=a * b/\0<=a * b/\a * b<=256:=by
 have h1:0<=a * b:=Xjl G.1 hb.1;have H:a * b<=16 * 16:=Xj4 G.2 hb.2 hb.1 (by omega);exact⟨Zn,h1,by omega⟩
def Xid(s:Sl)(cs:Zb)(tv:Zj)(b:Nat)(h0:Zk)(e:Zc)(h':Zk):Prop :=
 ∃(i:Nat)(d f g h j a c:Zj),e=[tv,.pointer (some ⟨b,0,none⟩),.nilIface,d,f,g,h,j,s.v,.int .i64 s.n,.int .i64 i,a,c]/\i<=s.n/\Vz 0 cs=Vz i (cs.drop i)/\Ext h0 h'
def Zvg(T:TurnCk Y){ins cP:Int}{s:Sl}{cs:Zb}(r:Zv h s cs){R:Ze}(J:∀v h',Ext h h'->Zfa Y h.size h' (Qp ins cP cs) v->R v h'):
  Zu Y 34 [Zna ins cP s] h R:=by
 refine .o T.Check ?_;simp[Y34,Yw.wp,Zna];refine Zo ?_;intro b h1 g1 B1 e1;simp[B1.hc];refine Zkx T.sides T.fault ?_;intro v h2 e2 he;have H:=e1.trans e2;have B2:=B1.cC e2;by_cases h0:(Ww ins cP).2=0
 ·obtain⟨hs,a1,a2,a3,a4⟩:=Zll h0;have:=he.cH.nil h0;subst this;obtain⟨m1,m2,m3⟩:=Zlt ⟨a1,a2⟩ ⟨a3,a4⟩;have hl:=r.len;by_cases c1:(s.n:Int)=ins * cP
  ·have U:Qp ins cP cs=match Vz 0 cs with|some i=>Ug (3+i) 8|none=>Q6:=by
    simp only[Qp,h0,hl,c1];simp
   rw[U] at J;simp[B2.hc,m1,c1];refine Zp (Xid s cs (.agg #[.int .i64 ins,.int .i64 cP,s.v]) b h) (fun e _=>s.n-Zw e 10) ⟨0,_,_,_,_,_,_,_,by rw[c1];rfl,by omega,by simp,H⟩ ?_;clear e1 e2 H he B1 B2;rintro e h3 ⟨i,v3,v4,v5,v6,v7,ab,ac,rfl,hi,G,e3⟩;have r3:=r.cC e3;by_cases aa:i<s.n
   ·have I:(i:Int)<s.n:=by omega
    have w1:=wrapS (i:=i);have w3:IntKind.i64.wrap (3+(i:Int))=3+(i:Int):=Zn;rw[Zha] at G;simp[I,Zl r3.ok,r3.at aa];refine Zjk T.Weight ?_
    cases X:Yx (Zm cs i) with
    |true =>
     rw[X] at G;simp[w1];exact nx ⟨i+1,_,_,_,_,_,_,_,rfl,by omega,by simpa using G,e3⟩
    |false =>
     rw[X] at G;simp at G;rw[G] at J;simp[w3];refine Zcs T.fault (by omega) ?_;intro v h4 e4 O _;simp;exact J _ _ (e3.trans e4) (O.mono e3.size)
   have I:¬(i:Int)<s.n:=by omega
   rw[Xjt] at G;simp only[Vz] at G;rw[G] at J;simp[I];exact J _ _ e3 Zfa.ok
  have U:Qp ins cP cs=Ug 2 9:=by
   simp only[Qp,h0,hl];simp[c1]
  rw[U] at J;simp[B2.hc,m1,c1];refine Zcs T.fault (by omega) ?_;intro v h4 e4 O _;simp;exact J _ _ (H.trans e4) (O.mono H.size)
 obtain⟨t,u,hv⟩:=he.cH.iface h0;have U:Qp ins cP cs=Ww ins cP:=by simp[Qp,h0]
 rw[U] at J;subst hv;simp;exact J _ _ H (he.mono e1.size)
def atV(ins cP:Int)(cs:Zb)(i k:Int):Int :=
 if i<0\/ins<=i\/k<0\/cP<=k\/(Ww ins cP).2≠0 then 1152921504606846976
 else if i * cP+k<cs.length then Zm cs (i * cP+k).toNat else 1152921504606846976
def Zwi{ins cP i k:Int}(h1:0<=i)(I:i<ins)(J:0<=k)(h4:k<cP)(O:ins<=16)(G:cP<=16):
  IntKind.i64.wrap (i * cP)=i * cP/\IntKind.i64.wrap (i * cP+k)=i * cP+k/\0<=i * cP+k/\i * cP+k<ins * cP:=by
 have R:0<=i * cP:=Xjl h1 (by omega);have U:i * cP<=16 * 16:=Xj4 (by omega) G (by omega) (by omega);have H:(i+1) * cP<=ins * cP:=Xkd (by omega) (by omega);rw[Int.add_mul,Int.one_mul] at H;exact⟨Zn,Zn,by omega,by omega⟩
def Z92(T:Zg9 Y){ins cP i k:Int}{s:Sl}{cs:Zb}(r:Zv h s cs){R:Ze}(G:∀h',Ext h h'->R (.int .i64 (atV ins cP cs i k)) h'):
  Zu Y 40 [Zna ins cP s,.int .i64 i,.int .i64 k] h R:=by
 refine .o T.At ?_;simp[Y40,Yw.wp,Zna];refine Zo ?_;intro b h1 g1 B1 U;by_cases c1:i<0
 ·have hv:atV ins cP cs i k=1152921504606846976:=by simp[atV,c1]
  rw[hv] at G;simp[c1];exact G _ U
 by_cases I:ins<=i
 ·have hv:atV ins cP cs i k=1152921504606846976:=by simp[atV,I]
  rw[hv] at G;simp[c1,B1.hc,I];exact G _ U
 by_cases O:k<0
 ·have hv:atV ins cP cs i k=1152921504606846976:=by simp[atV,O]
  rw[hv] at G;simp[c1,B1.hc,I,O];exact G _ U
 by_cases X:cP<=k
 ·have hv:atV ins cP cs i k=1152921504606846976:=by simp[atV,X]
  rw[hv] at G;simp[c1,B1.hc,I,O,X];exact G _ U
 simp[c1,B1.hc,I,O,X];refine Zkx T.sides T.fault ?_;intro v h2 e2 he;have H:=U.trans e2;have B2:=B1.cC e2;have r2:=r.cC H;by_cases h0:(Ww ins cP).2=0
 ·obtain⟨hs,a1,a2,a3,a4⟩:=Zll h0;have:=he.cH.nil h0;subst this;obtain⟨w1,w2,p0,p1⟩:=Zwi (ins:=ins) (cP:=cP) (i:=i) (k:=k) (by omega) (by omega) (by omega) (by omega) a2 a4;have hl:=r.len;by_cases c5:i * cP+k<s.n
  ·have hv:atV ins cP cs i k=Zm cs (i * cP+k).toNat:=by
    simp only[atV,c1,I,O,X,h0,hl];simp[c5]
   rw[hv] at G;have J:=r2.at (i:=(i * cP+k).toNat) (by omega)
   simp[B2.hc,w1,w2,c5,Zl r2.ok,p0,J];exact G _ H
  have hv:atV ins cP cs i k=1152921504606846976:=by
   simp only[atV,c1,I,O,X,h0,hl];simp[c5]
  rw[hv] at G;simp[B2.hc,w1,w2,c5];exact G _ H
 obtain⟨t,u,hv⟩:=he.cH.iface h0;have aa:atV ins cP cs i k=1152921504606846976:=by simp[atV,h0]
 rw[aa] at G;subst hv;simp;exact G _ H
def Z71{a b:Zb}(G:a.length=b.length)(h:∀j,j<a.length->Zm a j=Zm b j):a=b:=by
 apply Xjd G;intro i h1 H;have:=h i h1;simpa[Zm,h1,H] using this
def Zqm(HC:Y.cL 58 Y58){s:Sl}{cs:Zb}(r:Zv h s cs)(I:s.n<=17592186044416){R:Ze}
  (J:∀h' H,Ext h h'->Yi h' 1 H (Zr cs)->(H.nl=true\/h.size<=H.b)->R H.v h'):Zu Y 58 [s.v] h R:=by
 refine .o HC ?_
 cases G:s.nl with
 |true =>
  have:cs=[]:=Xjf (by rw[r.len];exact (r.ok.nil G).1);subst this;simp[Y58,Yw.wp,G];exact J h Sl.nil (Mod.refl h) Yi.nil (.inl rfl)
 |false =>
  simp[Y58,Yw.wp,G,Zgf];intro t;have O:Ext h (h.push (.cells #[] t)):=Mod.push;refine Zds (r.cC O) I Zit (.inr (Xit _)) O ?_;intro H h' o hb U;simp;exact J h' H U o hb
def Z56{ins cP:Int}{cs:Zb}(h0:(Qp ins cP cs).2=0):0<=ins/\ins<=16/\0<=cP/\cP<=16/\(cs.length:Int)=ins * cP/\Vz 0 cs=none/\Qp ins cP cs=Q6:=by
 unfold Qp at h0 ⊢
 split at h0
 ·rename_i h1;exact absurd h0 h1
 rename_i h1;have h1:(Ww ins cP).2=0:=by simpa using h1
 obtain⟨_,H,I,J,O⟩:=Zll h1
 split at h0
 ·simp[Ug] at h0
 rename_i G;have G:(cs.length:Int)=ins * cP:=by simpa using G
 refine⟨H,I,J,O,G,?_⟩
 split at h0
 ·simp[Ug] at h0
 rename_i R;exact⟨R,by simp[h1,G]⟩
end
end Go.Rm

namespace Go.Rm
section
variable{Y:Sys}{h:Zk}
def Zfg{K:Ze}{H I p a:Zj}:
  Ef.wp h K (.bslice 1 2 #[H,I] [0]) [.agg #[p,a]] = ∀t:TypeId,K (.slice (some ⟨h.size,0,none⟩) 1 1) (h.push (.cells #[p,a] t)):=by
 have e:Instr.fill (fun i=>some (i * 2,2)) (Xw #[H,I] (1 * 2)) ([0].zip [.agg #[p,a]])=some #[p,a]:=by
  simp[Instr.fill,Xw];apply Xkf
  ·simp
  intro i h1 G
  match i,G with
  |0,_=>simp
  |1,_=>simp
  |i+2,G=>exact absurd G (by simp)
 simp only[Ef.wp,e]
abbrev FWr(lo:Nat)(h:Zk)(w:Wr)(v:Zj):Prop:=Zdm lo (fun h=>Zge h w.1 w.2 v) h
def FWr.ok{lo:Nat}:FWr lo h Q6 (.agg #[.slice none 0 0,.int .i64 0]):=fun h' _=>⟨Sl.nil,rfl,Sl.nil_ok,rfl,fun i x hx=>by simp[Q6] at hx⟩
def Zge.shape{w:Wr}{v:Zj}(G:Zge h w.1 w.2 v):∃s:Sl,v = .agg #[s.v,.int .i64 w.2]:=by
 obtain⟨s,e,_⟩:=G;exact⟨s,e⟩
def Zc5(HA:Y.cL 50 Y50){p:ByteArray}{a c:Int}{R:Ze}(I:∀h' v,Ext h h'->FWr h.size h' ([(p,a)],c) v->R v h'):
  Zu Y 50 [.string p,.int .i64 a,.int .i64 c] h R:=by
 refine .o HA ?_;simp[Y50,Yw.wp];refine Zo ?_;intro b h1 U B1 G;simp[Zfg];intro t;have P2:Yo (h1.push (.cells #[.string p,.int .i64 a] t)) h1.size #[.string p,.int .i64 a]:=Yo.new;have e2:Ext h1 (h1.push (.cells #[.string p,.int .i64 a] t)):=Mod.push;have B2:=B1.cC e2;have X:=G.size;have B1lt:=B1.lt;generalize h1.push (.cells #[.string p,.int .i64 a] t)=h2 at *
 refine Zz B2 ?_;intro J B3 H;simp;refine Vc rfl B3 rfl ?_;refine I J _ ((G.trans e2).cC H (fun j hj=>by omega)) ?_;have P3:=H.cM P2 (by omega);intro h4 O;have P4:=O.cM P3 (by omega);refine⟨Sl.at h1.size 1 1,rfl,⟨fun h=>(by cases h),by simp,.inl rfl⟩,rfl,?_⟩;intro i x hx
 match i with
 |0 =>
  simp at hx;subst hx;exact⟨by rw[show (Sl.at h1.size 1 1).b=h1.size from rfl,P4.hc];rfl,by rw[show (Sl.at h1.size 1 1).b=h1.size from rfl,P4.hc];rfl⟩
 |i+1=>simp at hx
def Zh6(H:Y.cL 49 Y49){a:Int}{R:Ze}(G:R (.bool (Yx a)) h):Zu Y 49 [.int .i64 a] h R:=by
 refine .o H ?_;simp[Y49,Yw.wp];by_cases h1:0<=a
 ·by_cases I:a<=2147483648
  ·have:Yx a=true:=by simp[Yx,h1,I]
   rw[this] at G;simp[h1,I,G]
  have:Yx a=decide (a=1152921504606846976):=by simp[Yx,h1,I]
  rw[this] at G;simp[h1,I,G]
 have:Yx a=decide (a=1152921504606846976):=by simp[Yx,h1]
 rw[this] at G;simp[h1,G]
structure Z22(Y:Sys):Prop where
 At:Y.cL 50 Y50
 Weight:Y.cL 49 Y49
 Check:Y.cL 32 Y32
def Xfz(s:Sl)(cs:Zb)(tv:Zj)(b rb:Nat)(ins cP:Int)(h0:Zk)(e:Zc)(h':Zk):Prop :=
 ∃(i:Nat)(v4 v5 v6 v7 v8:Zj),e=[tv,.pointer (some ⟨b,0,none⟩),.pointer (some ⟨rb,0,none⟩),.int .i64 i,v4,v5,v6,v7,v8]/\i<=s.n/\Vz 0 cs=Vz i (cs.drop i)/\h'=h0
def Zso(T:Z22 Y){ins cP:Int}{s:Sl}{cs:Zb}(r:Zv h s cs){R:Ze}(hr:∀h' v,Ext h h'->FWr h.size h' (Qp ins cP cs) v->R v h'):
  Zu Y 32 [Zna ins cP s] h R:=by
 refine .o T.Check ?_;simp[Y32,Yw.wp,Zna];refine Zo ?_;intro b h1 g1 B1 e1;simp;refine Zo ?_;intro rb h2 g2 B2 e2;have B1':=B1.cC e2;have ab:=e1.trans e2;have z1:=e1.size;have z2:=e2.size;have B2lt:=B2.lt;have r2:=r.cC ab;have hl:=r.len;have O:∀{a e:Int}{K:Ze},Qp ins cP cs=Ug a e->(∀h' v (hx:FWr h.size h' (Qp ins cP cs) v),Ext h h'->Yo h' rb #[.slice none 0 0,.int .i64 0]->rb<h2.size ->
   FWr h2.size h' (Qp ins cP cs) v->K v h')->Zu Y 50 [.string Xbf,.int .i64 a,.int .i64 e] h2 K:=by
  intro a e K J hk;refine Zc5 T.At ?_;intro h' v e3 G;have G:FWr h2.size h' (Qp ins cP cs) v:=by rw[J];exact G
  exact hk h' v (G.mono (by omega)) (ab.trans e3) (B2.cC e3) B2lt G
 have I:∀{h':Zk}{v:Zj}{K:Ze},Ext h h'->Yo h' rb #[.slice none 0 0,.int .i64 0]->FWr h2.size h' (Qp ins cP cs) v->(∀h4 s',v = .agg s'->Yo h4 rb s'->s'.size=2->R v h4->K undef h4) ->
   Ef.wp h' K (.store 2) [.pointer (some ⟨rb,0,none⟩),v]:=by
  intro h' v K e3 B3 G hk;obtain⟨s',rfl⟩:=G.cH.shape;refine Zz B3 ?_;intro h4 B4 m4;exact hk h4 _ rfl B4 rfl (hr h4 _ (Mod.cC e3 m4 (fun j hj=>by omega)) ((G.step m4 (fun j hj=>by omega)).mono (by omega)))
 by_cases c1:ins<0
 ·have J:Qp ins cP cs=Ug 0 1:=by simp[Qp,Ww,c1,Ug]
  simp[B1'.hc,c1];refine O J ?_;intro h' v _ e3 B3 _ G;simp;refine I e3 B3 G ?_;rintro h4 s' rfl B4 U X;simp;exact Vc rfl B4 U X
 by_cases c2:16<ins
 ·have J:Qp ins cP cs=Ug 0 1:=by simp[Qp,Ww,c2,Ug]
  simp[B1'.hc,c1,c2];refine O J ?_;intro h' v _ e3 B3 _ G;simp;refine I e3 B3 G ?_;rintro h4 s' rfl B4 U X;simp;exact Vc rfl B4 U X
 by_cases c3:cP<0
 ·have J:Qp ins cP cs=Ug 1 1:=by simp[Qp,Ww,c1,c2,c3,Ug]
  simp[B1'.hc,c1,c2,c3];refine O J ?_;intro h' v _ e3 B3 _ G;simp;refine I e3 B3 G ?_;rintro h4 s' rfl B4 U X;simp;exact Vc rfl B4 U X
 by_cases c4:16<cP
 ·have J:Qp ins cP cs=Ug 1 1:=by simp[Qp,Ww,c1,c2,c4,Ug]
  simp[B1'.hc,c1,c2,c3,c4];refine O J ?_;intro h' v _ e3 B3 _ G;simp;refine I e3 B3 G ?_;rintro h4 s' rfl B4 U X;simp;exact Vc rfl B4 U X
 have ac:Ww ins cP=Q6:=by simp[Ww,c1,c2,c3,c4]
 obtain⟨m1,m2,m3⟩:=Zlt (a:=ins) (b:=cP) (by omega) (by omega);by_cases c5:(s.n:Int)=ins * cP
 ·have J:Qp ins cP cs=match Vz 0 cs with|some i=>Ug (3+i) 8|none=>Q6:=by
   simp only[Qp,ac,hl,c5,Q6];simp<;>rfl
  simp[B1'.hc,c1,c2,c3,c4,m1,c5];refine Zp (Xfz s cs (.agg #[.int .i64 ins,.int .i64 cP,s.v]) b rb ins cP h2) (fun e _=>s.n-Zw e 3) ⟨0,_,_,_,_,_,rfl,by omega,by simp,rfl⟩ ?_;rintro e h3 ⟨i,v4,v5,v6,v7,v8,rfl,hi,H,rfl⟩;by_cases ae:i<s.n
  ·have aa:(i:Int)<s.n:=by omega
   have w1:=wrapS (i:=i);have w3:IntKind.i64.wrap (3+(i:Int))=3+(i:Int):=Zn;rw[Zha] at H;simp[B1'.hc,aa,Zl r2.ok,r2.at ae];refine Zh6 T.Weight ?_
   cases ad:Yx (Zm cs i) with
   |true =>
    rw[ad] at H;simp[w1];exact nx ⟨i+1,_,_,_,_,_,rfl,by omega,by simpa using H,rfl⟩
   |false =>
    rw[ad] at H;simp at H;rw[H] at J;simp[w3];refine O J ?_;intro h' v _ e3 B3 _ G;simp;refine I e3 B3 G ?_;rintro h4 s' rfl B4 U X;simp;exact Vc rfl B4 U X
  have aa:¬(i:Int)<s.n:=by omega
  rw[Xjt] at H;simp only[Vz] at H;rw[H] at J;simp[B1'.hc,aa];refine Zz B2 ?_;intro h4 B4 m4;simp;refine Vc rfl B4 rfl (hr h4 _ (Mod.cC ab m4 (fun j hj=>by omega)) ?_);rw[J];exact FWr.ok
 have J:Qp ins cP cs=Ug 2 9:=by
  simp only[Qp,ac,hl,Q6];simp[c5]
 simp[B1'.hc,c1,c2,c3,c4,m1,c5];refine O J ?_;intro h' v _ e3 B3 _ G;simp;refine I e3 B3 G ?_;rintro h4 s' rfl B4 U X;simp;exact Vc rfl B4 U X
end
end Go.Rm


namespace Go.Rm
section
variable{Y:Sys}{h:Zk}
def Xk{K:Ze}{v:Zj}{n:Nat}{vs:Array cR}(R:∀(b:Nat)(G:Zk),h.size<=b->Yo G b v.cells->Ext h G->(∀K2:Ze,(∀H,Yo H b vs->Ext h H->K2 undef H)->Ef.wp G K2 (.store n) [.pointer (some ⟨b,0,none⟩),.agg vs]) ->
   K (.pointer (some ⟨b,0,none⟩)) G)(J:v.cells.size=n:=by rfl)(O:vs.size=n:=by rfl)(h1:∀v∈vs.toList,v.oneCell'=true:=by simp):Ef.wp h K .new [v]:=by
 refine Zo ?_;intro b G g2 B2 e2;refine R b G g2 B2 e2 ?_;intro K2 I;refine Zz B2 ?_ O J h1;intro H B3 U;exact I H B3 (Mod.cC e2 U (fun j X=>by omega))
end
end Go.Rm
