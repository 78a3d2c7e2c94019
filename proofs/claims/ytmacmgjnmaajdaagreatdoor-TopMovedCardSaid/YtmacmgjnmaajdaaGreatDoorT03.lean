import Derived.IntWalk
import Derived.Test.YtmacmgjnmaajdaaGreatDoorT01
import Derived.ProofKit
import Derived.WideKeyArgs
import GoSem.ClaimSeven
import Derived.Deep.Slices
/- Parts. -/
set_option linter.all false
namespace Go.Rm
def Zt(Y:Sys)(f:Nat)(xs:Zc)(h:Zk)(R:Ze):Prop:=Y.C (Y.fid f) xs h R
def Zt.o{Y:Sys}{f:Nat}{S:Yw}(H:Y.cL f S){xs:Zc}{h:Zk}{R:Ze}(I:S.wp Y xs h R)(G:xs.length=S.np:=by rfl):Zt Y f xs h R:=H.2 xs h R G I
def Zt.mono{Y:Sys}{f:Nat}{xs:Zc}{h:Zk}{R R':Ze}(hc:Zt Y f xs h R)(G:∀v h',R v h'->R' v h'):Zt Y f xs h R':=Y.mono hc G
def Xbs(v:Zj)(A B:Prop):Prop :=
 match v with
 |.bool c=>if c=true then A else B
 |_=>False
section
variable{Y:Sys}{kn:Zc->Zk->Prop}{ke:Nat->Zc->Zk->Prop}{kr:Zc->Zk->Prop}{e T:Zc}{h:Zk}{K:V2}
def Xgj(Y:Sys)(b:Stmt)(kn:Zc->Zk->Prop)(ke:Nat->Zc->Zk->Prop)(kr:Zc->Zk->Prop):Zc->Zk->Prop:=fun e h=>b.wp Y kn ke kr e h
def Xfx(kn:Zc->Zk->Prop):V2:=fun e _ h=>kn e h
def Z3o(id:Nat)(kn:Zc->Zk->Prop)(ke:Nat->Zc->Zk->Prop):Nat->Zc->Zk->Prop:=fun i e h=>if i=id then kn e h else ke i e h
def Zy9(I:Zc->Zk->Prop)(μ:Zc->Zk->Nat)(m:Nat):Zc->Zk->Prop:=fun e h=>I e h/\μ e h<m
def OpK(Y:Sys)(K:V2)(k:IL)(d:W1)(e T:Zc)(h:Zk):cR->Prop:=fun v=>IL.wp Y K k (d.e v e) (d.T v T) h
def EfK(Y:Sys)(K:V2)(k:IL)(d:W1)(e T:Zc):Ze:=fun v h=>IL.wp Y K k (d.e v e) (d.T v T) h
def Zyy(Y:Sys)(s:Stmt)(kn:Zc->Zk->Prop)(ke:Nat->Zc->Zk->Prop)(kr:Zc->Zk->Prop)(e:Zc)(h:Zk):Prop:=s.wp Y kn ke kr e h
@[simp] theorem Ye {b:Stmt}:Xgj Y b kn ke kr e h=Stmt.wp Y b kn ke kr e h:=(rfl)
@[simp] theorem Xgt:Xfx kn e T h=kn e h:=(rfl)
@[simp] theorem Xem {id i:Nat}:Z3o id kn ke i e h=if i=id then kn e h else ke i e h:=(rfl)
@[simp] theorem Xey {I:Zc->Zk->Prop} {μ:Zc->Zk->Nat} {m:Nat}:Zy9 I μ m e h=(I e h/\μ e h<m):=(rfl)
@[simp] theorem Xhw {k:IL} {d:W1} {v:Zj}:OpK Y K k d e T h v=IL.wp Y K k (d.e v e) (d.T v T) h:=(rfl)
@[simp] theorem Xh3 {k:IL} {d:W1} {v:Zj}:EfK Y K k d e T v h=IL.wp Y K k (d.e v e) (d.T v T) h:=(rfl)
@[simp] theorem Z86 {v:Zj} {k:cR->Prop}:Zll (some v) k=k v:=(rfl)
@[simp] theorem Xdc {c:Bool} {a b:Stmt}:Xbs (.bool c) (Zyy Y a kn ke kr e h) (Zyy Y b kn ke kr e h)=if c=true then Stmt.wp Y a kn ke kr e h else Stmt.wp Y b kn ke kr e h:=(rfl)
@[simp] theorem Xe8:Stmt.wp Y .skip kn ke kr e h=kn e h:=(rfl)
@[simp] theorem Xgx {a b:Stmt}:Stmt.wp Y (.seq a b) kn ke kr e h=a.wp Y (Xgj Y b kn ke kr) ke kr e h:=(rfl)
@[simp] theorem Xg0 {l:IL}:Stmt.wp Y (.reg l) kn ke kr e h=l.wp Y (Xfx kn) e [] h:=(rfl)
@[simp] theorem Xfq {x:Xw} {a b:Stmt}:Stmt.wp Y (.cond x a b) kn ke kr e h=Xbs (x.ev Y e []) (Zyy Y a kn ke kr e h) (Zyy Y b kn ke kr e h):=(rfl)
@[simp] theorem Xej {id:Nat} {s:Stmt}:Stmt.wp Y (.block id s) kn ke kr e h=s.wp Y kn (Z3o id kn ke) kr e h:=(rfl)
@[simp] theorem Xe6 {id:Nat}:Stmt.wp Y (.exit id) kn ke kr e h=ke id e h:=(rfl)
@[simp] theorem Xgz:Stmt.wp Y .ret kn ke kr e h=kr e h:=(rfl)
def Zp{s:Stmt}(I:Zc->Zk->Prop)(μ:Zc->Zk->Nat)(h0:I e h)
  (G:∀e h,I e h->s.wp Y (Zy9 I μ (μ e h)) ke kr e h):Stmt.wp Y (.loop s) kn ke kr e h:=⟨I,μ,h0,G⟩
@[simp] theorem Xh9:IL.wp Y K .nil e T h=K e T h:=(rfl)
@[simp] theorem Xiv {o:Ym} {xs:List Xw} {d:W1} {k:IL}:IL.wp Y K (.op (.op o xs d) k) e T h=Zll (o.cK Y h (xs.map (Xw.ev Y e T))) (OpK Y K k d e T h):=(rfl)
@[simp] theorem Xiw {f:Ef} {xs:List Xw} {d:W1} {k:IL}:IL.wp Y K (.op (.ef f xs d) k) e T h=f.wp h (EfK Y K k d e T) (xs.map (Xw.ev Y e T)):=(rfl)
@[simp] theorem Xg3 {f:Nat} {xs:List Xw} {d:W1} {k:IL}:IL.wp Y K (.op (.call f xs d) k) e T h=Zt Y f (xs.map (Xw.ev Y e T)) h (EfK Y K k d e T):=(rfl)
@[simp] theorem Xgv {o:Ym} {xs:List Xw} {v:Xw} {k:IL}:IL.wp Y K (.op (.stab o xs v) k) e T h=(o.cK Y h (xs.map (Xw.ev Y e T))=some (v.ev Y e T)/\IL.wp Y K k e T h):=(rfl)
@[simp] theorem Xiy {g:Xw} {w:Bool} {b:IL} {ds:List W1} {k:IL}:IL.wp Y K (.gd g w b ds k) e T h=if gdB (g.ev Y e T) w then IL.wp Y (IL.wp Y K k) b e T h else IL.wp Y K k (Znc ds e) (Znb ds T) h:=(rfl)
@[simp] theorem Xha {a b:IL}:IL.wp Y K (.alt a b) e T h=(IL.wp Y K a e T h/\IL.wp Y K b e T h):=(rfl)
@[simp] theorem Xfk {b w:Bool}:gdB (.bool b) w=(b == w):=rfl
@[simp] theorem Xdv {w:Bool}:gdB undef w=false:=rfl
@[simp] theorem Xi1 {i:Nat}:Xw.ev Y e T (.n i)=e.getD i undef:=rfl
@[simp] theorem Xi2 {i:Nat}:Xw.ev Y e T (.t i)=T.getD i undef:=rfl
@[simp] theorem Xiz {v:Zj}:Xw.ev Y e T (.c v)=v:=rfl
@[simp] theorem Xi0 {j:Nat}:Xw.ev Y e T (.f j) = .func (.func (Y.fid j)) #[] #[]:=rfl
@[simp] theorem Xgm {v:Zj}:W1.e v e .drop=e:=rfl
@[simp] theorem Xg2 {v:Zj}:W1.e v e .push=e:=rfl
@[simp] theorem Xhl {v:Zj} {i:Nat}:W1.e v e (.set i)=e.set i v:=rfl
@[simp] theorem Xgy {v:Zj}:W1.T v T .drop=T:=rfl
@[simp] theorem Xgq {v:Zj}:W1.T v T .push=T++[v]:=rfl
@[simp] theorem Xhh {v:Zj} {i:Nat}:W1.T v T (.set i)=T:=rfl
@[simp] theorem Xev:Znc [] e=e:=rfl
@[simp] theorem Xen {d:W1} {r:List W1}:Znc (d::r) e=Znc r (d.e undef e):=rfl
@[simp] theorem Xfr:Znb [] T=T:=rfl
@[simp] theorem Xep {d:W1} {r:List W1}:Znb (d::r) T=Znb r (d.T undef T):=rfl
@[simp] theorem Xhp {x:Zj}:Ym.cK Y h .mv [x]=some x:=rfl
@[simp] theorem Xfw {c:Bool} {a b:Zj}:Ym.cK Y h .pick [.bool c,a,b]=some (if c then a else b):=rfl
@[simp] theorem Xei {a:Addr}:Ym.cK Y h .nilck [.pointer (some a)]=some (.pointer (some a)):=rfl
@[simp] theorem Xik {op:BinOp} {k j:IntKind} {a b:Int}:Ym.cK Y h (.ib op) [.int k a,.int j b]=Z5 op k a j b:=rfl
@[simp] theorem Xhd {k:IntKind} {a b:Int}:Z5 .add k a k b=some (.int k (k.wrap (a+b))):=by simp[Z5]
@[simp] theorem Xh6 {k:IntKind} {a b:Int}:Z5 .sub k a k b=some (.int k (k.wrap (a-b))):=by simp[Z5]
@[simp] theorem Xhc {k:IntKind} {a b:Int}:Z5 .mul k a k b=some (.int k (k.wrap (a * b))):=by simp[Z5]
def Zre{k:IntKind}{a b:Int}(hb:b≠0):Z5 .quo k a k b=some (.int k (k.wrap (a.tdiv b))):=by simp[Z5,hb]
def Zxr{k:IntKind}{a b:Int}(hb:b≠0):Z5 .rem k a k b=some (.int k (a.tmod b)):=by simp[Z5,hb]
@[simp] theorem Xhg {k:IntKind} {a b:Int}:Z5 .lss k a k b=some (.bool (decide (a<b))):=by simp[Z5]
@[simp] theorem Xg7 {k:IntKind} {a b:Int}:Z5 .leq k a k b=some (.bool (decide (a<=b))):=by simp[Z5]
@[simp] theorem Xih {k:IntKind} {a b:Int}:Z5 .gtr k a k b=some (.bool (decide (b<a))):=by simp[Z5]
@[simp] theorem Xh2 {k:IntKind} {a b:Int}:Z5 .geq k a k b=some (.bool (decide (b<=a))):=by simp[Z5]
@[simp] theorem Xhx {k:IntKind} {a b:Int}:Z5 .eql k a k b=some (.bool (decide (a=b))):=by
 simp[Z5];rw[Xmn];simp
@[simp] theorem Xie {k:IntKind} {a b:Int}:Z5 .neq k a k b=some (.bool (decide (a≠b))):=by
 simp[Z5];rw[Xmn];simp
@[simp] theorem Xgu {b:Bool}:Ym.cK Y h (.un .not) [.bool b]=some (.bool !b):=rfl
@[simp] theorem Xgp {k:IntKind} {n:Int}:Ym.cK Y h (.un .neg) [.int k n]=some (.int k (k.wrap (0-n))):=rfl
@[simp] theorem Xgc {k j:IntKind} {n:Int}:Ym.cK Y h (.conv k) [.int j n]=some (.int k (k.wrap n)):=rfl
@[simp] theorem Xe2 {G b o:Nat}:Ym.cK Y h (.fadr G) [.pointer (some ⟨b,o,none⟩)]=some (.pointer (some ⟨b,o+G,none⟩)):=rfl
@[simp] theorem Xec {n b o:Nat}:Ym.cK Y h (.load n false) [.pointer (some ⟨b,o,none⟩)]=hc h b o:=rfl
@[simp] theorem Xed {n b o:Nat}:Ym.cK Y h (.load n true) [.pointer (some ⟨b,o,none⟩)]=(rd h b o n).bind fun l=>some (.agg l.toArray):=rfl
@[simp] theorem Xh8 {k j:IntKind} {x y:Int}:Ym.cK Y h .mn [.int k x,.int j y]=some (.int k (if y<x then y else x)):=rfl
@[simp] theorem Xip {k j:IntKind} {x y:Int}:Ym.cK Y h .mx [.int k x,.int j y]=some (.int k (if x<y then y else x)):=rfl
@[simp] theorem Xg1 {i:Nat} {vs:Array cR}:Ym.cK Y h (.cC i) [.tuple vs]=vs[i]? := rfl
@[simp] theorem Xgw {neg a b:Bool}:Ym.cK Y h (.eqb neg) [.bool a,.bool b]=some (.bool (if neg then !(a == b) else (a == b))):=rfl
@[simp] theorem Xbb {neg:Bool} {b:Option Addr}:Ym.cK Y h (.eqp neg) [.pointer none,.pointer b]=some (.bool (if neg then !b.isNone else b.isNone)):=rfl
@[simp] theorem Z94 {neg:Bool} {a:Addr}:Ym.cK Y h (.eqp neg) [.pointer (some a),.pointer none]=some (.bool neg):=by cases neg<;>rfl
@[simp] theorem Xdq {neg:Bool}:Ym.cK Y h (.eqi neg true) [.nilIface,.nilIface]=some (.bool (!neg)):=by cases neg<;>rfl
@[simp] theorem Xcv {neg G:Bool} {t:TypeId} {v:Zj}:Ym.cK Y h (.eqi neg G) [.iface t v,.nilIface]=some (.bool neg):=by cases neg<;>rfl
@[simp] theorem Xgs {t:Nat} {v:Zj}:Ym.cK Y h (.mkI t) [v]=some (.iface (Y.tid t) v):=rfl
@[simp] theorem Xe4 {G n:Nat} {cs:Array cR}:Ym.cK Y h (.fld G n false) [.agg cs]=cs[G]? := rfl
@[simp] theorem Xfu {G n:Nat} {cs:Array cR}:Ym.cK Y h (.fld G n true) [.agg cs]=some (.agg (cs.extract G (G+n))):=rfl
@[simp] theorem Xew {n:Nat} {v:Zj}:Ym.cK Y h (.lenA n) [v]=some (.int .i64 n):=rfl
@[simp] theorem Xfj {s:ByteArray}:Ym.cK Y h .lenS [.string s]=some (.int .i64 s.size):=rfl
@[simp] theorem Xhs {op:BinOp} {a b:ByteArray}:Ym.cK Y h (.sb op) [.string a,.string b]=Zyb op a b:=rfl
def Zn{n:Int}(h : -9223372036854775808<=n/\n<=9223372036854775807:=by omega):IntKind.i64.wrap n=n:=by rw[IntKind.wrap_i64];omega
def wrapS{i:Nat}(h:i<9223372036854775807:=by omega):IntKind.i64.wrap ((i:Int)+1)=(i:Int)+1:=Zn
@[simp] theorem Xf6 {R:Ze}:Up [] R e h=R (.tuple #[]) h:=(rfl)
@[simp] theorem Xis {R:Ze} {i:Nat}:Up [.n i] R e h=R (e.getD i undef) h:=(rfl)
@[simp] theorem Xgr {R:Ze} {i j:Nat}:Up [.n i,.n j] R e h=R (.tuple #[e.getD i undef,e.getD j undef]) h:=(rfl)
@[simp] theorem Xgn {R:Ze} {i j k:Nat}:Up [.n i,.n j,.n k] R e h=R (.tuple #[e.getD i undef,e.getD j undef,e.getD k undef]) h:=(rfl)
end
structure Sl where
 b:Nat
 o:Nat
 n:Nat
 c:Nat
 nl:Bool
 sp:Option Nat:=none
def Sl.v(s:Sl):cR:=.slice (if s.nl then none else some ⟨s.b,s.o,s.sp⟩) s.n s.c
structure Sl.ok(s:Sl):Prop where
 nil:s.nl=true->s.n=0/\s.c=0
 le:s.n<=s.c
 spot:s.sp=none\/s.c=0
def Sl.nil:Sl:=⟨0,0,0,0,true,none⟩
def Sl.nil_v:Sl.nil.v = .slice none 0 0:=rfl
def Sl.nil_ok:Sl.nil.ok:=⟨fun _=>⟨rfl,rfl⟩,Xi4 _,.inl rfl⟩
def Sl.at(b n c:Nat):Sl:=⟨b,0,n,c,false,none⟩
@[simp] theorem Sl.at_sp {b n c:Nat}:(Sl.at b n c).sp=none:=rfl
@[simp] theorem Sl.at_v {b n c:Nat}:(Sl.at b n c).v = .slice (some ⟨b,0,none⟩) n c:=rfl
@[simp] theorem Sl.at_n {b n c:Nat}:(Sl.at b n c).n=n:=rfl
@[simp] theorem Sl.at_c {b n c:Nat}:(Sl.at b n c).c=c:=rfl
@[simp] theorem Sl.at_o {b n c:Nat}:(Sl.at b n c).o=0:=rfl
@[simp] theorem Sl.at_b {b n c:Nat}:(Sl.at b n c).b=b:=rfl
@[simp] theorem Sl.at_nl {b n c:Nat}:(Sl.at b n c).nl=false:=rfl
section
variable{Y:Sys}{h:Zk}
@[simp] theorem Xbk {k:IntKind} {n:Int}:(Value.int k n).oneCell'=true:=rfl
@[simp] theorem Xa4 {b:Bool}:(Value.bool b).oneCell'=true:=rfl
@[simp] theorem Z60 {b:ByteArray}:(Value.string b).oneCell'=true:=rfl
@[simp] theorem Z3a {b:Option Addr}:(Value.pointer b).oneCell'=true:=rfl
@[simp] theorem Z8p {b:Option Addr} {n c:Nat}:(Value.slice b n c).oneCell'=true:=rfl
@[simp] theorem Z8m {t:TypeId} {v:Zj}:(Value.iface t v).oneCell'=true:=rfl
@[simp] theorem Z1e:(Value.nilIface).oneCell'=true:=rfl
@[simp] theorem Xb6 {s:Sl}:s.v.oneCell'=true:=rfl
@[simp] theorem Xef {s:Sl}:s.v.cells=#[s.v]:=rfl
@[simp] theorem Xg4 {s:Sl}:Ym.cK Y h .len [s.v]=some (.int .i64 s.n):=rfl
@[simp] theorem Xgh {a:Option Addr} {n c:Nat}:Ym.cK Y h .len [.slice a n c]=some (.int .i64 n):=rfl
def Zl{s:Sl}{sz:Nat}{k:IntKind}{i:Int}(G:s.ok)(h0:0<=i)(h1:i<s.n):
  Ym.cK Y h (.idxa sz) [s.v,.int k i]=some (.pointer (some ⟨s.b,s.o+i.toNat * sz,none⟩)):=by
 have J:s.nl=false:=by
  cases H:s.nl with
  |false=>rfl
  |true=>have:=(G.nil H).1;omega
 have I:s.sp=none:=by
  rcases G.spot with h|h
  ·exact h
  have:=G.le;omega
 have hv:s.v = .slice (some ⟨s.b,s.o,none⟩) s.n s.c:=by simp[Sl.v,J,I]
 rw[hv];show (if 0<=i/\i<s.n then some (Value.pointer (some ⟨s.b,s.o+i.toNat * sz,none⟩)) else none)=_;rw[if_pos ⟨h0,h1⟩]
def X1{s:Sl}{sz:Nat}{k:IntKind}{j:Int}(I:s.ok)(h0:0<=j)(h1:j<=s.c):
  Ym.cK Y h (.slc sz false true) [s.v,.int k j]=some (Sl.v { s with n:=j.toNat }):=by
 have hc:W8 s.n s.c false true [.int k j]=some (0,j.toNat):=by
  show (if 0<=j/\j<=s.c then some (0,j.toNat) else none)=_;rw[if_pos ⟨h0,h1⟩]
 cases G:s.nl with
 |true =>
  have hv:s.v = .slice none s.n s.c:=by simp[Sl.v,G]
  rw[hv];show (W8 s.n s.c false true [.int k j]).bind _=_;rw[hc];simp only[Xjq,Sl.v]
  first|rfl|(congr 1;simp)|simp
 |false =>
  cases H:s.sp with
  |some q =>
   have J:s.c=0:=I.spot.resolve_left (by rw[H];simp);have hv:s.v = .slice (some ⟨s.b,s.o,some q⟩) s.n s.c:=by simp[Sl.v,G,H]
   rw[hv];show (W8 s.n s.c false true [.int k j]).bind _=_;rw[hc];simp only[Xjq,Sl.v];simp[J]
  |none =>
  have hv:s.v = .slice (some ⟨s.b,s.o,none⟩) s.n s.c:=by simp[Sl.v,G,H]
  rw[hv];show (W8 s.n s.c false true [.int k j]).bind _=_;rw[hc];simp only[Xjq,Sl.v]
  first|rfl|(congr 1;simp)|simp
def Zb8{s:Sl}{sz:Nat}{k:IntKind}{j:Int}(I:s.ok)(h0:0<=j:=by omega)(h1:j<=s.n:=by omega):
  Ym.cK Y h (.slc sz true false) [s.v,.int k j]=some (Sl.v { s with o:=if s.c=j.toNat then s.o else s.o+j.toNat * sz,n:=s.n-j.toNat,c:=s.c-j.toNat }):=by
 have hc:W8 s.n s.c true false [.int k j]=some (j.toNat,s.n):=by
  show (if 0<=j/\j<=s.n then some (j.toNat,s.n) else none)=_;rw[if_pos ⟨h0,h1⟩]
 cases G:s.nl with
 |true =>
  have hv:s.v = .slice none s.n s.c:=by simp[Sl.v,G]
  rw[hv];show (W8 s.n s.c true false [.int k j]).bind _=_;rw[hc];simp only[Xjq,Sl.v]
  first|rfl|(congr 1;simp)|simp
 |false =>
  cases H:s.sp with
  |some q =>
   have J:s.c=0:=I.spot.resolve_left (by rw[H];simp);have O:=I.le;have hv:s.v = .slice (some ⟨s.b,s.o,some q⟩) s.n s.c:=by simp[Sl.v,G,H]
   rw[hv];show (W8 s.n s.c true false [.int k j]).bind _=_;rw[hc];simp only[Xjq,Sl.v];have R:j.toNat=0:=by omega
   simp[J,R]
  |none =>
  have hv:s.v = .slice (some ⟨s.b,s.o,none⟩) s.n s.c:=by simp[Sl.v,G,H]
  rw[hv];show (W8 s.n s.c true false [.int k j]).bind _=_;rw[hc];simp only[Xjq,Sl.v]
  first|rfl|(congr 1;simp)|simp
def Zbw{s:Sl}{sz:Nat}{k k':IntKind}{i j:Int}(I:s.ok)(h0:0<=i)(h1:i<=j)(O:j<=s.c):
  Ym.cK Y h (.slc sz true true) [s.v,.int k i,.int k' j]=some (Sl.v { s with o:=if s.c=i.toNat then s.o else s.o+i.toNat * sz,n:=j.toNat-i.toNat,c:=s.c-i.toNat }):=by
 have hc:W8 s.n s.c true true [.int k i,.int k' j]=some (i.toNat,j.toNat):=by
  show (if 0<=i/\i<=j/\j<=s.c then some (i.toNat,j.toNat) else none)=_;rw[if_pos ⟨h0,h1,O⟩]
 cases G:s.nl with
 |true =>
  have hv:s.v = .slice none s.n s.c:=by simp[Sl.v,G]
  rw[hv];show (W8 s.n s.c true true [.int k i,.int k' j]).bind _=_;rw[hc];simp only[Xjq,Sl.v]
  first|rfl|(congr 1;simp)|simp
 |false =>
  cases H:s.sp with
  |some q =>
   have J:s.c=0:=I.spot.resolve_left (by rw[H];simp);have hv:s.v = .slice (some ⟨s.b,s.o,some q⟩) s.n s.c:=by simp[Sl.v,G,H]
   rw[hv];show (W8 s.n s.c true true [.int k i,.int k' j]).bind _=_;rw[hc];simp only[Xjq,Sl.v];have R:i.toNat=0:=by omega
   simp[J,R]
  |none =>
  have hv:s.v = .slice (some ⟨s.b,s.o,none⟩) s.n s.c:=by simp[Sl.v,G,H]
  rw[hv];show (W8 s.n s.c true true [.int k i,.int k' j]).bind _=_;rw[hc];simp only[Xjq,Sl.v]
  first|rfl|(congr 1;simp)|simp
def Yo(h:Zk)(b:Nat)(c:Array cR):Prop:=∃t,h[b]? = some (.cells c t (0,0))
def Yo.lt{b:Nat}{c:Array cR}(hb:Yo h b c):b<h.size:=by
 obtain⟨t,ht⟩:=hb;exact (Array.getElem?_eq_some_iff.1 ht).1
def Yo.hc{b o:Nat}{c:Array cR}(hb:Yo h b c):hc h b o=c[o]? := by
 obtain⟨t,ht⟩:=hb;simp[Rm.hc,ht]
def Yo.hfz{b o:Nat}{c:Array cR}(hb:Yo h b c):hfz h b o=false:=by
 obtain⟨t,ht⟩:=hb;simp[Rm.hfz,ht]
def Zs8{b o:Nat}{v:Zj}{j:Nat}(G:j≠b):(Vw h b o v)[j]? = h[j]? := by
 unfold Vw;rw[Xk4];rw[if_neg (fun e=>G (Eq.symm e))]
@[simp] theorem Xel {b o:Nat} {v:Zj}:(Vw h b o v).size=h.size:=by simp[Vw]
def Yo.set{b o:Nat}{c:Array cR}{v:Zj}(hb:Yo h b c):Yo (Vw h b o v) b (c.setIfInBounds o v):=by
 obtain⟨t,ht⟩:=hb;refine⟨t,?_⟩;unfold Vw;rw[Xk4,ht];simp
def Yo.set_ne{b H o:Nat}{c:Array cR}{v:Zj}(hb:Yo h b c)(G:b≠H):Yo (Vw h H o v) b c:=by
 obtain⟨t,ht⟩:=hb;exact⟨t,by rw[Zs8 G];exact ht⟩
def Yo.push{b:Nat}{c:Array cR}{x:Obj}(hb:Yo h b c):Yo (h.push x) b c:=by
 obtain⟨t,ht⟩:=hb;have:=(Array.getElem?_eq_some_iff.1 ht).1;exact⟨t,by rw[Xmo this];exact (Xj7 this).symm.trans ht⟩
def Yo.new{c:Array cR}{t:TypeId}:Yo (h.push (.cells c t)) h.size c:=⟨t,by simp⟩
def Z1s{K:Ze}{b o:Nat}{v:Zj}(hv:v.oneCell'=true)(G:(hc h b o).isSome=true)(hf:hfz h b o=false)(I:K undef (Vw h b o v)):
  Ef.wp h K (.store 1) [.pointer (some ⟨b,o,none⟩),v]:=by
 have H:v.cells=#[v]:=by cases v<;>first|rfl|(cases hv)
 have J:hst h b o v.cells.toList=some (Vw h b o v):=by simp[H,hst,G,hf,hv]
 refine⟨by simp[H],?_⟩;rw[J];exact I
def Xdj{K:Ze}{v:Zj}:Ef.wp h K .new [v] = ∀t:TypeId,K (.pointer (some ⟨h.size,0,none⟩)) (h.push (.cells v.cells t)):=rfl
def Va{K:Ze}{sz bytes:Nat}{zero:Array cR}{j k:IntKind}{l c:Int}:
  Ef.wp h K (.mkslice sz bytes zero) [.int j l,.int k c]=(0<=l/\l<=c/\c<=9223372036854775807/\(bytes:Int) * c<=281474976710656 /\
   ∀t:TypeId,K (.slice (some ⟨h.size,0,none⟩) l.toNat c.toNat) (h.push (.cells (Xv zero (c.toNat * sz)) t))):=rfl
def Vm{v:Zj}{n:Nat}:Xv #[v] n=Array.replicate n v:=by
 apply Xkp
 ·simp[Xv]
 intro i h1 G;simp[Xv,Nat.mod_one]
structure Mod(S:Zf)(h h':Zk):Prop where
 size:h.size<=h'.size
 get:∀b,b<h.size->¬S b->h'[b]? = h[b]?
def Mod.refl{S:Zf}(h:Zk):Mod S h h:=⟨Xi4 _,fun _ _ _=>rfl⟩
def Mod.trans{S:Zf}{a b c:Zk}(h1:Mod S a b)(G:Mod S b c):Mod S a c :=
 ⟨Xjo h1.size G.size,fun i H I=>(G.get i (Xl6 H h1.size) I).trans (h1.get i H I)⟩
def Mod.then{S S':Zf}{a b c:Zk}(h1:Mod S a b)(H:Mod S' b c)(J:∀i,i<a.size->S' i->S i):Mod S a c :=
 ⟨Xjo h1.size H.size,fun i G I=>(H.get i (Xl6 G h1.size) (fun h=>I (J i G h))).trans (h1.get i G I)⟩
def Mod.mono{S S':Zf}{a b:Zk}(h:Mod S a b)(H:∀i,i<a.size->S i->S' i):Mod S' a b:=⟨h.size,fun i G I=>h.get i G fun J=>I (H i G J)⟩
def Mod.set{S:Zf}{b o:Nat}{v:Zj}(hb:S b):Mod S h (Vw h b o v):=⟨by simp,fun i _ G=>Zs8 fun e=>G (e ▸ hb)⟩
def Mod.push{S:Zf}{x:Obj}:Mod S h (h.push x):=⟨by simp,fun i G _=>by rw[Xmo G];exact (Xj7 G).symm⟩
def Mod.cM{S:Zf}{h':Zk}{b:Nat}{c:Array cR}(G:Mod S h h')(hb:Yo h b c)(H:¬S b):Yo h' b c:=by
 obtain⟨t,ht⟩:=hb;exact⟨t,by rw[G.get b (Yo.lt ⟨t,ht⟩) H];exact ht⟩
def Mod.hc{S:Zf}{h':Zk}{b o:Nat}{v:Zj}(H:Mod S h h')(hb:hc h b o=some v)(I:¬S b):hc h' b o=some v:=by
 have G:b<h.size:=by
  rcases Xi6 b h.size with h1|h1
  ·exact h1
  simp[Rm.hc,Xk0 h1] at hb
 unfold Rm.hc at *
 rw[H.get b G I];exact hb
abbrev Ext(h h':Zk):Prop:=Mod (fun _=>False) h h'
def Yh(h:Zk)(sz:Nat)(s:Sl)(cells:Zc):Prop :=
 cells.length=s.n * sz/\((s=Sl.nil/\cells=[]) \/
  (s.nl=false/\s.o=0/\s.sp=none/\s.n<=s.c/\s.c<=9223372036854775807/\∃arr:Array cR,Yo h s.b arr/\arr.size=s.c * sz/\arr.toList.take (s.n * sz)=cells))
def Yh.ok{sz:Nat}{s:Sl}{cells:Zc}(H:Yh h sz s cells):s.ok:=by
 rcases H.2 with⟨rfl,_⟩|⟨h1,J,G,I,_⟩
 ·exact Sl.nil_ok
 exact⟨fun h=>absurd h (by rw[h1];simp),I,.inl G⟩
def Yh.nil{sz:Nat}:Yh h sz Sl.nil []:=⟨by simp[Sl.nil],.inl ⟨rfl,rfl⟩⟩
def Yh.lt{sz:Nat}{s:Sl}{cells:Zc}(G:Yh h sz s cells)(H:s.nl=false):s.b<h.size:=by
 rcases G.2 with⟨rfl,_⟩|⟨_,_,_,_,_,I,hb,_⟩
 ·cases H
 ·exact hb.lt
def Yh.cell{sz:Nat}{s:Sl}{cells:Zc}(H:Yh h sz s cells){i:Nat}{v:Zj}(G:cells[i]? = some v):hc h s.b (s.o+i)=some v:=by
 rcases H.2 with⟨_,rfl⟩|⟨h1,I,J,R,_,O,hb,U,ht⟩
 ·cases G
 ·rw[hb.hc,I,Xjs];rw[<-ht,Xj8] at G
  split at G
  ·simpa using G
  cases G
def Yh.cD{S:Zf}{h':Zk}{sz:Nat}{s:Sl}{cells:Zc}(I:Yh h sz s cells)(J:Mod S h h')(O:s.nl=false->¬S s.b):Yh h' sz s cells:=by
 refine⟨I.1,?_⟩;rcases I.2 with h1|⟨h1,R,G,U,h4,H,hb,X,h6⟩
 ·exact .inl h1
 exact .inr ⟨h1,R,G,U,h4,H,J.cM hb (O h1),X,h6⟩
def Yh.set{s:Sl}{cells:Zc}(I:Yh h 1 s cells){i:Nat}{v:Zj}(O:i<cells.length):Yh (Vw h s.b (s.o+i) v) 1 s (cells.set i v):=by
 refine⟨by simp[I.1],?_⟩;rcases I.2 with⟨_,rfl⟩|⟨h1,J,G,R,h4,H,hb,U,X⟩
 ·simp at O
 refine .inr ⟨h1,J,G,R,h4,H.setIfInBounds (s.o+i) v,hb.set,by simp[U],?_⟩;rw[J,Xjs,Xl7,<-X,List.take_set]
def Yh.cM{sz:Nat}{s:Sl}{cells:Zc}(H:Yh h sz s cells){i:Nat}(I:i<cells.length):∃G,Yo h s.b G/\s.o+i<G.size/\s.nl=false:=by
 rcases H.2 with⟨_,rfl⟩|⟨h1,R,J,U,h4,G,hb,X,O⟩
 ·simp at I
 refine⟨G,hb,?_,h1⟩;have:cells.length<=G.size:=by rw[<-O,Xjw];simp;omega
 omega
def Yh.take{sz:Nat}{s:Sl}{cells:Zc}(O:Yh h sz s cells){k:Nat}(H:k<=s.n):Yh h sz { s with n:=k } (cells.take (k * sz)):=by
 rcases O.2 with⟨rfl,rfl⟩|⟨h1,R,I,U,h4,J,hb,X,h6⟩
 ·have:k=0:=Nat.le_zero.1 H;subst this;exact⟨by simp,.inl ⟨rfl,by simp⟩⟩
 have G:k * sz<=s.n * sz:=Xkm _ H;refine⟨by rw[Xjw,O.1,Xke G],.inr ⟨h1,R,I,Xjo H U,h4,J,hb,X,?_⟩⟩;rw[<-h6,Xlr,Xke G]
def Zcp{b:Nat}:∀{vs:Zc}{o:Nat}{G:Array cR}{h:Zk},Yo h b G->o+vs.length<=G.size->(∀v∈vs,v.oneCell'=true) ->
  ∃h',hst h b o vs=some h'/\Yo h' b (G.toList.take o++vs++G.toList.drop (o+vs.length)).toArray/\Mod (fun j=>j=b) h h'/\h'.size=h.size:=by
 intro vs
 induction vs with
 |nil =>
  intro o G h hb _ _;refine⟨h,rfl,?_,Mod.refl h,rfl⟩;simpa using hb
 |cons v r R =>
  intro o G h hb I h1;have J:o<G.size:=by simp at I;omega
  obtain⟨h',U,g2,X,g4⟩:=R (o:=o+1) (h:=Vw h b o v) hb.set (by simp at I ⊢;omega) (fun u hu=>h1 u (Xjt _ hu));refine⟨h',?_,?_,Mod.trans (S:=fun j=>j=b) (Mod.set (S:=fun j=>j=b) rfl) X,by rw[g4];simp⟩
  ·have H:(hc h b o).isSome=true:=by rw[hb.hc];simp[J]
   simp only[hst,H,hb.hfz,h1 v (by simp),Bool.not_false,Bool.and_self,if_true,U]
  have he:(G.toList.take o++(v::r)++G.toList.drop (o+(v::r).length))=((G.setIfInBounds o v).toList.take (o+1)++r++(G.setIfInBounds o v).toList.drop (o+1+r.length)):=by
   rw[Xl7];have O:o<G.toList.length:=by simpa using J
   have h1:(G.toList.set o v).take (o+1)=G.toList.take o++[v]:=by
    rw[Xnc,if_pos O,List.take_append,Xjw,Xke (Nat.le_of_lt O),Xji (by simp;omega)];simp
   have h2:(G.toList.set o v).drop (o+1+r.length)=G.toList.drop (o+(v::r).length):=by
    rw[List.drop_set_of_lt (by omega)];simp only[Xjn]
    congr 1
    omega
   rw[h1,h2];simp
  rw[he];exact g2
def Zbg{b:Nat}:∀{l:Zc}{o:Nat},(∀i v,l[i]? = some v->hc h b (o+i)=some v)->rd h b o l.length=some l:=by
 intro l
 induction l with
 |nil=>intro o _;rfl
 |cons v l H =>
  intro o G;have h0:hc h b o=some v:=by have:=G 0 v rfl;simpa using this
  have h1:=H (o:=o+1) fun i u I=>by have:=G (i+1) u (by simpa using I);rwa [show o+1+i=o+(i+1) by omega]
  simp only[Xjn,rd,h0,Xjq,h1]
def Zbn(z:Array cR)(n:Nat):(Builtin.zeroCells z n).size=n * z.size:=by simp[Builtin.zeroCells]
def Ul{K:Ze}{sz bytes m:Nat}{zero:Array cR}{s:Sl}{cells nw:Zc}{x:Zj}(ho:Yh h sz s cells)(hx:Zfa x=some m)(ab:Wi h sz m x=some nw)
  (hl:nw.length=m * sz) (h1:∀v∈nw,v.oneCell'=true) (hz:zero.size=sz) (hb:(s.n+m) * bytes<=140737488355328) (ac:s.n+m<=9223372036854775807)
  (hk:∀(U:Sl)(h':Zk),Yh h' sz U (cells++nw)->U.n=s.n+m->Mod (fun j=>s.nl=false/\j=s.b) h h'->((U.b=s.b/\U.nl=s.nl)\/(h.size<=U.b/\U.nl=false))->K U.v h') :
  Ef.wp h K (.append sz bytes zero) [s.v,x]:=by
 have G:(cells++nw).length=(s.n+m) * sz:=by rw[List.length_append,ho.1,hl,Xj0]
 have ae:s.v = .slice (if s.nl then none else some ⟨s.b,s.o,s.sp⟩) s.n s.c:=rfl;rw[ae];simp only[Ef.wp,hx,ab];have I:∀(J:Zc)(t:TypeId)(H:Nat),J=cells->s.n+m<=H->H<=9223372036854775807 ->
   K (.slice (some ⟨h.size,0,none⟩) (s.n+m) H) (h.push (.cells (J.toArray++nw.toArray++Builtin.zeroCells zero (H-(s.n+m))) t)):=by
  intro J t H he hge O;subst he;have hO:Yh (h.push (.cells (J.toArray++nw.toArray++Builtin.zeroCells zero (H-(s.n+m))) t)) sz (Sl.at h.size (s.n+m) H) (J++nw):=by
   refine⟨G,.inr ⟨rfl,rfl,rfl,hge,O,_,Yo.new,?_,?_⟩⟩
   ·simp only[Xl4,Xk3,Zbn,hz,ho.1,hl,<-Xj0,Sl.at_c]
    congr 1
    omega
   simp only[Array.toList_append,Sl.at_n];rw[<-G];exact Xls
  exact hk (Sl.at h.size (s.n+m) H) _ hO rfl Mod.push (.inr ⟨Xi4 _,rfl⟩)
 rcases ho.2 with⟨rfl,rfl⟩|⟨g1,g2,X,g3,g4,af,gb,g5,g6⟩
 ·have aa:Sl.nil.n=0:=rfl;simp only[Sl.nil,if_true];by_cases hm:0+m<=0
  ·rw[if_pos hm];have ag:m=0:=by omega
   subst ag;have ah:nw=[]:=Xjr (by simpa using hl);subst ah;exact hk Sl.nil h Yh.nil rfl (Mod.refl h) (.inl ⟨rfl,rfl⟩)
  rw[if_neg hm];refine⟨by simpa[aa] using ac,by simpa[aa] using hb,?_⟩;simp only[Wi];intro t H hge O;exact I [] t H rfl (by simpa[aa] using hge) O
 simp only[g1,X,Xjh,if_false];have R:rd h s.b s.o (s.n * sz)=some cells:=by
  rw[<-ho.1];exact Zbg fun i v hi=>ho.cell hi
 by_cases hr:s.n+m<=s.c
 ·rw[if_pos hr];have ad:s.n * sz+nw.length<=af.size:=by rw[hl,g5,<-Xj0];exact Xkm _ hr
  obtain⟨h',q1,q2,q3,q4⟩:=Zcp (o:=s.n * sz) (vs:=nw) gb ad h1;rw[g2,Xjs,q1];have hO:Yh h' sz { s with n:=s.n+m } (cells++nw):=by
   refine⟨G,.inr ⟨g1,g2,X,hr,g4,_,q2,?_,?_⟩⟩
   ·simp only[Xk3,List.length_append,Xjw,Xl8,Xkf];omega
   simp only;rw[g6,<-G];exact Xls
  have:=hk { s with n:=s.n+m } h' hO rfl (q3.mono fun i _ hi=>⟨g1,hi⟩) (.inl ⟨rfl,rfl⟩);simpa only[Sl.v,g1,g2,X,Xjh,if_false] using this
 rw[if_neg hr];refine⟨ac,hb,?_⟩;simp only[Wi,R];intro t H hge O;exact I cells t H rfl hge O
def Qn{s:Sl}:Zfa s.v=some s.n:=rfl
def Zik{b n c sz m:Nat}:Wi h sz m (.slice (some ⟨b,0,none⟩) n c)=rd h b 0 (m * sz):=rfl
def Z5i{z v:Zj}(hv:v.oneCell'=true):Instr.fill (fun i=>some (i * 1,1)) (Xv #[z] (1 * 1)) ([0].zip [v])=some #[v]:=by
 have G:v.cells=#[v]:=by cases v<;>first|rfl|(cases hv)
 simp[Vm,Instr.fill,G]
def Zlr{K:Ze}{z v:Zj}(hv:v.oneCell'=true):
  Ef.wp h K (.bslice 1 1 #[z] [0]) [v] = ∀t:TypeId,K (.slice (some ⟨h.size,0,none⟩) 1 1) (h.push (.cells #[v] t)):=by
 simp only[Ef.wp,Z5i hv]
def Zb9{K:Ze}{z:Zj}{k:IntKind}{n:Int}:
  Ef.wp h K (.bslice 1 1 #[z] [0]) [.int k n] = ∀t:TypeId,K (.slice (some ⟨h.size,0,none⟩) 1 1) (h.push (.cells #[.int k n] t)):=Zlr rfl
def Zg4{K:Ze}{bytes:Nat}{z v:Zj}{s:Sl}{cells:Zc}{t:TypeId}(hv:v.oneCell'=true)(O:Yh h 1 s cells)
  (R:∀(G:Sl)(h':Zk),Yh h' 1 G (cells++[v])->G.n=s.n+1->Mod (fun j=>s.nl=false/\j=s.b) h h'->((G.b=s.b/\G.nl=s.nl)\/(h.size<=G.b/\G.nl=false))->K G.v h')(hb:(s.n+1) * bytes<=140737488355328:=by omega)(I:s.n+1<=9223372036854775807:=by omega) :
  Ef.wp (h.push (.cells #[v] t)) K (.append 1 bytes #[z]) [s.v,.slice (some ⟨h.size,0,none⟩) 1 1]:=by
 have J:Yh (h.push (.cells #[v] t)) 1 s cells:=O.cD (S:=fun _=>False) Mod.push (fun _ h=>h);have H:Yo (h.push (.cells #[v] t)) h.size #[v]:=Yo.new;refine Ul J (m:=1) rfl (nw:=[v]) ?_ rfl (by simpa using hv) rfl hb I ?_
 ·rw[Zik];exact Zbg (l:=[v]) fun i u U=>by rw[H.hc];simpa using U
 intro G h' h1 X h3 h4;refine R G h' h1 X ?_ ?_
 ·exact Mod.trans (S:=fun j=>s.nl=false/\j=s.b) Mod.push h3
 rcases h4 with h4|h4
 ·exact .inl h4
 refine .inr ⟨?_,h4.2⟩;have:=h4.1;simp at this;omega
def Zpw{K:Ze}{sz:Nat}{p q:Zj}(G:Ef.wp h K (.store sz) [p,q]):
  ∃b o h',p = .pointer (some ⟨b,o,none⟩)/\q.cells.size=sz/\hst h b o q.cells.toList=some h'/\K undef h':=by
 cases p with
 |pointer a =>
  cases a with
  |none=>exact G.elim
  |some a =>
   obtain⟨b,o,s⟩:=a
   cases s with
   |some s=>exact G.elim
   |none =>
    obtain⟨h1,H⟩:=G
    cases I:hst h b o q.cells.toList with
    |none=>rw[I] at H;exact H.elim
    |some h'=>rw[I] at H;exact⟨b,o,h',rfl,h1,I,H⟩
 |_=>exact G.elim
def Uh{K:Ze}{b o:Nat}{v:Zj}(hv:v.oneCell'=true):
  Ef.wp h K (.store 1) [.pointer (some ⟨b,o,none⟩),v]=((hc h b o).isSome=true/\hfz h b o=false/\K undef (Vw h b o v)):=by
 have H:v.cells=#[v]:=by cases v<;>first|rfl|(cases hv)
 apply propext;constructor
 ·intro I;obtain⟨U,X,h',e,_,G,J⟩:=Zpw I
  cases e
  simp only[H,hst] at G
  split at G
  ·rename_i hc;simp only[Xjf,Xkw] at hc
   cases G
   exact⟨hc.1.1,hc.1.2,J⟩
  cases G
 rintro⟨h1,O,R⟩;exact Z1s hv h1 O R
section stores
variable{K:Ze}{b o:Nat}
def Xo(h:Zk)(b o:Nat)(v:Zj)(k:Ze):Prop:=(hc h b o).isSome=true/\hfz h b o=false/\k undef (Vw h b o v)
def Xo.open{v:Zj}{k:Ze}:Xo h b o v k=((hc h b o).isSome=true/\hfz h b o=false/\k undef (Vw h b o v)):=rfl
@[simp] theorem Xad {k:IntKind} {n:Int}:Ef.wp h K (.store 1) [.pointer (some ⟨b,o,none⟩),.int k n]=Xo h b o (.int k n) K:=Uh rfl
@[simp] theorem Z8l {c:Bool}:Ef.wp h K (.store 1) [.pointer (some ⟨b,o,none⟩),.bool c]=Xo h b o (.bool c) K:=Uh rfl
@[simp] theorem Xab {s:Sl}:Ef.wp h K (.store 1) [.pointer (some ⟨b,o,none⟩),s.v]=Xo h b o s.v K:=Uh rfl
@[simp] theorem Z98 {a:Option Addr}:Ef.wp h K (.store 1) [.pointer (some ⟨b,o,none⟩),.pointer a]=Xo h b o (.pointer a) K:=Uh rfl
end stores
def Zfm(c:Array cR)(o:Nat):Zc->Array cR
 | []=>c
 |v::r=>Zfm (c.setIfInBounds o v) (o+1) r
def Znd:∀{vs:Zc}{c:Array cR}{o:Nat},o+vs.length<=c.size->(Zfm c o vs).toList=c.toList.take o++vs++c.toList.drop (o+vs.length):=by
 intro vs
 induction vs with
 |nil=>intro c o _;simp[Zfm]
 |cons v r I =>
  intro c o G;simp only[Xjn] at G;rw[Zfm,I (by simp;omega)];have H:o<c.toList.length:=by simp;omega
  have h1:(c.toList.set o v).take (o+1)=c.toList.take o++[v]:=by
   rw[Xnc,if_pos H,List.take_append,Xjw,Xke (Nat.le_of_lt H),Xji (by simp;omega)];simp
  have J:(c.toList.set o v).drop (o+1+r.length)=c.toList.drop (o+(v::r).length):=by
   rw[List.drop_set_of_lt (by omega)];simp only[Xjn]
   congr 1
   omega
  rw[Xl7,h1,J];simp
end
structure Zc0(h:Zk)(s:Sl)(k:IntKind)(f:Nat->Int):Prop where
 ok:s.ok
 val:∀i,i<s.n->hc h s.b (s.o+i)=some (.int k (f i))
def Zc0.cC{h:Zk}{s:Sl}{k:IntKind}{f:Nat->Int}(a:Zc0 h s k f){h':Zk}(G:Ext h h'):Zc0 h' s k f :=
 ⟨a.ok,fun i H=>G.hc (a.val i H) (fun h=>h)⟩
def Zx(e:Zc)(k:Nat):Nat :=
 match e.getD k undef with
 |.int _ n=>n.toNat
 |_=>0
theorem nx{a b:Prop}(h:a)(k:b:=by simp[Zx];omega):a∧b:=⟨h,k⟩
def Xf0(e:Zc)(k:Nat):Int:=match e.getD k undef with|.int _ n=>n|_=>0
def Mod.cC{S:Zf}{h0 h h':Zk}(h1:Ext h0 h)(G:Mod S h h')(H:∀b,S b->h0.size<=b):Ext h0 h' :=
 Mod.then h1 G fun i J I=>absurd (H i I) (by omega)
end Go.Rm
namespace Go.Rm
open Go.ChangeShapes Go.WideShapes Go.ChangeAt Go.RowKit
section
variable{H:Type}{enc:TypeId × cR->H}{P:Program}
def Ext.same{W W':World}(G:Ext W.heap W'.heap){p:MemPlace}(hp:p.block<W.heap.size):W.sameAt W' p:=by
 cases p with
 |cell b o =>
  have:=G.get b hp (fun h=>h);simp only[World.sameAt,World.cell?,this]
 |map b=>exact G.get b hp (fun h=>h)
def Ext.kept{W W':World}(O:Ext W.heap W'.heap)(J:Same W W')(G:MemPlace->Prop):W.keptBut W' G:=by
 refine⟨J.2.1,J.2.2.1,fun i R=>?_⟩;rw[O.get i R (fun h=>h)]
 cases hx:W.heap[i]? with
 |none=>trivial
 |some x =>
  cases x with
  |cells c t fr=>exact⟨rfl,rfl,rfl,fun _ _=>rfl⟩
  |map U I=>exact .inr ⟨rfl,rfl⟩
  |_=>rfl
def Ze4{W W':World}(J:laidOutB P=true)(O:Ext W.heap W'.heap){sp:Nat->Bool}:
  ∀{ts:List TypeId}{vs:Zc}{ds:List (DataW H)}{ps:List MemPlace},(∀t∈ts,P.readableRec t=true/\t<P.types.size)->DataW.TrodAll enc P W 0 (fun _=>true) true ts vs ds ps ->
   (∀p∈ps,p.block<W.heap.size)->(∀p∈ps,sp p.block=true)->DataW.TrodAll enc P W' 0 sp true ts vs ds ps
 | [],_,_,_,_,h,_,_=>by
  obtain⟨rfl,rfl,rfl⟩:=trodAll_nil h
  rfl
 |t::ts,_,_,_,ht,h,G,I=>by
  obtain⟨v,R,d,U,a,b,rfl,rfl,rfl,h1,X⟩:=trodAll_cons h;obtain⟨g1,g2⟩:=ht t (by simp);exact⟨a,b,Go.WideElems.Trod_stays J g1 g2 h1 (fun p hp=>O.same (G p (Xm3 _ hp))) (fun p hp=>I p (Xm3 _ hp)),
   Ze4 J O (fun u hu=>ht u (Xjt _ hu)) X (fun p hp=>G p (Xk8 _ hp)) (fun p hp=>I p (Xk8 _ hp)),rfl⟩
def Zjx{I:Nat}{G:Nat->Bool}{Vz:Bool}{w:World}:∀{ts:List TypeId}{vs:Zc}{ds:List (DataW H)}{ps:List MemPlace},DataW.TrodAll enc P w I G Vz ts vs ds ps->ds.length=ts.length
 | [],_,_,_,h=>by
  obtain⟨rfl,rfl,_⟩:=trodAll_nil h
  rfl
 |_::_,_,_,_,h=>by
  obtain⟨v,J,d,O,a,b,rfl,rfl,rfl,_,R⟩:=trodAll_cons h;simp[Zjx R]
def Zy0(s:ChangeSpec)(n:Nat):Prop:=s.vars=[]/\∀(H:Type)(ds:List (DataW H)),ds.length=n->s.fn H ds = { results:=[.lit (.bool true)],args:=ds }
def Z6n{O:Func}{s:ChangeSpec}{Zcf U G X:Bool}{W W':World}{args:Array cR}{ds gs:List (DataW H)}{I:List MemPlace}{tb:TypeId}
  (hs:Zy0 s O.params.size) (hl:laidOutB P=true) (hr:∀t∈O.params.toList,P.readableRec t=true/\t<P.types.size) (hb:O.resultTypes=#[tb]) (ac:P.underlying tb=some .bool)
  (hW:DataW.Whole enc P O.params.toList s.vars Zcf W args.toList ds gs I) (he:Ext W.heap W'.heap) (aa:Same W W') :
  s.post enc P O Zcf U G X W args (.bool true) W':=by
 have J:=hW.lt;have ae:=hW;obtain⟨p,q,hA,hV,rfl,hz,hn⟩:=hW;rw[hs.1] at hV;obtain⟨rfl,rfl⟩:=trodVars_none hV;simp only[Xk9] at *
 have ad:ds.length=O.params.size:=by have:=Zjx hA;simpa using this
 have ab:=hs.2 H ds ad;have R:∀(b:Nat)(sp:Nat->Bool)(hd:Bool),DataW.TrodAll enc P W' b sp hd O.resultTypes.toList ((Value.bool true).resultList O.resultTypes.size) (s.fn H ds).results []:=by
  intro b sp hd;rw[ab,hb];exact trodAll_mk1 ⟨1,by simp[DataW.trod,ac,Value.cells]⟩
 refine⟨ds,[],p,[],p,[],ae,?_,?_,?_,he.kept aa _,fun _=>?_⟩
 ·simpa using R _ _ _
 ·simp only[Xk9];rw[ab];exact Ze4 hl he hr hA J (fun x hx=>by simpa using J x hx)
 ·rw[hs.1];simp only[Xk9];rw[ab];rfl
 refine⟨?_,_,[],p,⟨p,[],trodAll_append (Ze4 hl he hr hA J (fun _ _=>rfl)) (R _ _ _),by rw[hs.1];rfl,by simp,?_,?_⟩,fun x hx _=>hx⟩
 ·intro j t r h1 h2;rw[hb] at h1 h2
  match j with
  |0 =>
   have e1:t=tb:=by simpa using h1.symm
   have e2:r = .bool true:=by simpa[Value.resultList] using h2.symm
   subst e1;subst e2;simp[Value.okWide,ac,Cell.okWide,Cell.ok]
  |j+1=>simp at h1
 ·intro b af hp;have h1:=hz b af hp;have h2:=he.get b (J _ hp) (fun h=>h);simp only[World.frozen?,h2] at h1 ⊢;exact h1
 intro ha;exact hn ha
def Read(enc:TypeId × cR->H)(P:Program)(W:World)(base:Nat)(t:TypeId)(cs:Zc):Prop:=∃n x,DataW.trod enc P W base (fun _=>true) true n t cs=some x
def Read.of{W:World}{G:Nat}{t:TypeId}{v:Zj}{d:DataW H}{ps:List MemPlace}(h:DataW.Trod enc P W G (fun _=>true) true t v d ps):Read enc P W G t v.cells.toList:=by
 obtain⟨n,h⟩:=h;exact⟨n,_,h⟩
def Zhw(P:Program)(t:TypeId)(v:Zj):Prop :=
 (match P.underlying t with
 |some (.struct _)|some (.array _ _)=>∃cs,v = .agg cs
 |_=>v.cells=#[v])/\∀a n c,v = .slice (some a) n c->a.spot=none
def Zhw.of{W:World}{r:Reach}{G:Nat}{t:TypeId}{v:Zj}(h:Value.okWide P W r G t v):Zhw P t v:=by
 unfold Value.okWide at h;unfold Zhw
 split at h
 ·rename_i I hf;obtain⟨cs,rfl,_⟩:=h;exact⟨by rw[hf];exact⟨_,rfl⟩,fun a n c e=>by cases e⟩
 ·rename_i n e hf;obtain⟨cs,rfl,_⟩:=h;exact⟨by rw[hf];exact⟨_,rfl⟩,fun a n c e=>by cases e⟩
 rename_i h1 J;constructor
 ·split
  ·rename_i I hf;exact absurd hf (h1 I)
  ·rename_i n e hf;exact absurd hf (J n e)
  cases v with
  |agg cs =>
   unfold Cell.okWide at h
   split at h<;>simp_all[Cell.ok]
  |_=>rfl
 rintro a n c rfl;unfold Cell.okWide at h
 split at h<;>simp_all[Cell.ok]
 split at h
 all_goals first|exact h.elim|skip
 all_goals simp_all
 exact h.2.2.2.1
def Zb6(enc:TypeId × cR->H)(P:Program)(W:World)(t:TypeId)(v:Zj):Prop:=Read enc P W 0 t v.cells.toList/\Zhw P t v
def Xcg(enc:TypeId × cR->H)(P:Program)(W:World):List TypeId->Zc->Prop
 | [],[]=>True
 |t::ts,v::vs=>Zb6 enc P W t v/\Xcg enc P W ts vs
 |_,_=>False
def Zye{W:World}{r:Reach}{G:Nat}:∀{ts:List TypeId}{vs:Zc}{ds:List (DataW H)}{ps:List MemPlace},DataW.TrodAll enc P W 0 (fun _=>true) true ts vs ds ps ->
  (∀(j:Nat) t v,ts[j]? = some t->vs[j]? = some v->Value.okWide P W r G t v)->Xcg enc P W ts vs
 | [],_,_,_,h,_=>by
  obtain⟨rfl,rfl,rfl⟩:=trodAll_nil h
  trivial
 |t::ts,_,_,_,h,hv=>by
  obtain⟨v,I,d,J,a,b,rfl,rfl,rfl,h1,O⟩:=trodAll_cons h;exact⟨⟨Read.of h1,Zhw.of (hv 0 t v rfl rfl)⟩,Zye O fun j R U X e2=>hv (j+1) R U (by simpa using X) (by simpa using e2)⟩
def Z78{C:Checked}{os:Os}{f:FuncId}{U:Func}{s:ChangeSpec}{I:List PathCond}{Zcf ab J ac:Bool}{tb:TypeId}{X:World->Array cR->Prop}
  (hX:∀(w w':World)(args:Array cR),w.heap=w'.heap->X w args->X w' args)
  (ah:ownKnob C.prog.godebug=none) (O:os.Started) (aa:C.prog.inits.idxOf? f=none) (ai:C.prog.funcs[f]? = some U)
  (R:∃(w:World)(G:Tape)(i:Input),w.os=os/\(w.forCall G i).Shaped C.prog/\i.vars=[]/\Input.okWide C.prog (w.forCall G i) .any w.heap.size f i /\
   ((s.pre enc C.prog U I Zcf (w.forCall G i).memory i.args/\X (w.forCall G i).memory i.args)/\sizedMet enc C.prog U (OpenSpec.ofChange s) Zcf (w.forCall G i).memory i.args)/\({}:Assume).holds C.prog (lone (Frame.enter C.prog f i.args .normal) [] (w.forCall G i)))
  (hs:Zy0 s U.params.size) (hl:laidOutB C.prog=true) (hr:∀t∈U.params.toList,C.prog.readableRec t=true/\t<C.prog.types.size) (hb:U.resultTypes=#[tb]) (aj:C.prog.underlying tb=some .bool)
  (ak:∀(W:World)(vs:Zc),(∃args,X W args)->Xcg enc C.prog W U.params.toList vs->Zip C.prog f vs W.heap fun v h'=>v = .bool true/\Ext W.heap h') :
  ReturnsInHanded {} C os f .any (fun w args=>(s.pre enc C.prog U I Zcf w args/\X w args)/\sizedMet enc C.prog U (OpenSpec.ofChange s) Zcf w args) (s.post enc C.prog U Zcf ab J ac):=by
 refine returnsInHanded_of_change_and (C:=C) hX ah O aa ai R ?_;intro W al args ds gs ag ae hW am _ hx _;obtain⟨p,q,hA,hV,he,hz,hn⟩:=id hW;have:=ak W args.toList ⟨args,hx⟩ (Zye hA fun j t v h1 h2=>ae j t v (by simpa using h1) (by simpa using h2)) W rfl;simp only[Xmy] at this;refine this.mono ?_;rintro e W' ⟨v,rfl,⟨rfl,af⟩,ad⟩;exact⟨_,rfl,Z6n hs hl hr hb aj hW af ad⟩
def Xch{P:Program}{ts:Array TypeId}(h:(ts.toList.all fun t=>!P.wantsStandIn t)=true):∀(j:Nat)(t:TypeId),ts[j]? = some t->P.wantsStandIn t=false:=by
 intro j t ht;have G:t∈ts.toList:=by
  have:=Array.mem_of_getElem? ht;simpa using this
 have:=List.all_eq_true.1 h t G;simpa using this
end
def Xgo{s:Zat}{j f:Nat}(I:s.fns.lookup j=some f){xs:Zc}{h:Zk}{R:Ze}(hc:Zt s.sys j xs h R):Zip s.P f xs h R:=by
 have G:s.sys.fid j=f:=by simp[Zat.sys,I]
 unfold Zt at hc;rw[G] at hc;exact hc
def Xbo{P:Program}{ts:List TypeId}(h:(ts.all fun t=>P.readableRec t && decide (t<P.types.size))=true):∀t∈ts,P.readableRec t=true/\t<P.types.size:=by
 intro t ht;have:=List.all_eq_true.1 h t ht;simpa using this
end Go.Rm
namespace Go.Rm
open Go.ChangeShapes Go.WideShapes Go.Deep
section
variable{H:Type}{enc:TypeId × cR->H}{P:Program}{W:World}{base:Nat}
def Z5p{k:IntKind}{n:Int}(h:(Lit.int k n).wf=true):k.min<=n/\n<=k.max:=by
 simpa[Lit.wf] using h
def Read.int{t:TypeId}{k:IntKind}{cs:Zc}(ht:P.underlying t=some (.int k))(h:Read enc P W base t cs):∃n,cs=[.int k n]/\k.min<=n/\n<=k.max:=by
 obtain⟨m,x,h⟩:=h;obtain⟨n,rfl,_,G⟩:=DataW.trod_int ht h;exact⟨n,rfl,Z5p G⟩
def Zua(b o:Nat)(sp:Option Nat)(j:Nat)(G:sp=none):(Addr.mk b o sp).add j=⟨b,o+j,none⟩:=by
 subst G;unfold Addr.add
 split
 ·rename_i h;subst h;rfl
 rfl
def Read.slice{t e:TypeId}{sz:Nat}{cs:Zc}(ht:P.underlying t=some (.slice e))(X:P.cellsOf e=sz)(h0:0<sz)(h:Read enc P W base t cs):
  ∃s:Sl,cs=[s.v]/\s.ok/\s.c<=maxLen/\∀i,i<s.n->∃G,G.length=sz/\(∀j,j<sz->hc W.heap s.b (s.o+i * sz+j)=G[j]?)/\Read enc P W base e G:=by
 obtain⟨m,x,h⟩:=h;subst X;rcases open_slice ht h with⟨rfl,rfl⟩|⟨⟨b,o,sp⟩,len,cap,m,n,D,Pl,rfl,hb,hl,hm,O,rfl,hx⟩
 ·exact⟨Sl.nil,rfl,Sl.nil_ok,by simp[Sl.nil],fun i U=>by simp[Sl.nil] at U⟩
 simp only[if_true] at O;subst O;have R:sp=none\/m=0:=by
  rcases Xkr m with h|h
  ·exact .inr h
  left;obtain⟨G,h1,_⟩:=hx 0 h;obtain⟨_,J,I⟩:=World.cells?_some h1
  cases sp with
  |none=>rfl
  |some q =>
   have:=I 0 h0;rw[Xj3 (by omega)] at this;simp[Addr.add,World.cell?] at this
   split at this<;>cases this
 refine⟨⟨b,o,len,m,false,sp⟩,rfl,⟨fun h=>(by cases h),hl,R⟩,hm,fun i U=>?_⟩;have U:i<len:=U;obtain⟨G,h1,h2⟩:=hx i (by omega);obtain⟨_,J,I⟩:=World.cells?_some h1;refine⟨G,J,fun j hj=>?_,⟨n,_,h2⟩⟩;have:=I j hj;have hs:sp=none:=R.resolve_right (by omega);rw[Zua _ _ _ _ hs,Zua _ _ _ _ rfl] at this;rw[<-Zkm];exact this
def Read.ints{t e:TypeId}{k:IntKind}{cs:Zc}(ht:P.underlying t=some (.slice e))(R:P.underlying e=some (.int k))(J:P.cellsOf e=1)(h:Read enc P W base t cs):
  ∃(s:Sl)(f:Nat->Int),cs=[s.v]/\s.c<=maxLen/\Zc0 W.heap s k f/\∀i,i<s.n->k.min<=f i/\f i<=k.max:=by
 obtain⟨s,rfl,O,U,hx⟩:=h.slice ht J (by omega);obtain⟨f,hf⟩:=choose_lt (α:=Int) (n:=s.n) (p:=fun i n=>hc W.heap s.b (s.o+i)=some (.int k n)/\k.min<=n/\n<=k.max) (fun i G=>by
  obtain⟨X,hl,I,hr⟩:=hx i G;obtain⟨n,rfl,h1,h2⟩:=hr.int R;have:=I 0 (by omega);simp at this;exact⟨n,this,h1,h2⟩)
 exact⟨s,f,rfl,U,⟨O,fun i G=>(hf i G).1⟩,fun i G=>(hf i G).2⟩
def Read.struct{t:TypeId}{G:Array Field}{cs:Zc}(ht:P.underlying t=some (.struct G))(h:Read enc P W base t cs):
  cs.length=P.cellsOf t/\∀(i:Nat)(f:Field),G[i]? = some f->Read enc P W base f.type ((cs.drop f.offset).take (P.cellsOf f.type)):=by
 obtain⟨m,x,h⟩:=h;obtain⟨xs,n,_,rfl,O,I,hf⟩:=DataW.trod_struct ht h;refine⟨O,fun i f J=>?_⟩;have h1:=hf i f J;have R:i<G.size:=(Array.getElem?_eq_some_iff.1 J).1;rw[Xj3 (by omega)] at h1;exact⟨n,_,h1⟩
def Zb6.int{t:TypeId}{k:IntKind}{v:Zj}(h:Zb6 enc P W t v)(ht:P.underlying t=some (.int k)):∃n,v = .int k n/\k.min<=n/\n<=k.max:=by
 obtain⟨n,h1,G⟩:=h.1.int ht;have:=h.2.1;simp only[ht] at this;rw[this] at h1;exact⟨n,by simpa using h1,G⟩
def Zb6.slice{t e:TypeId}{v:Zj}(h:Zb6 enc P W t v)(ht:P.underlying t=some (.slice e)):Read enc P W 0 t [v]:=by
 have:=h.2.1;simp only[ht] at this;have h1:=h.1;rw[this] at h1;exact h1
def Zb6.ints{t e:TypeId}{k:IntKind}{v:Zj}(h:Zb6 enc P W t v)(ht:P.underlying t=some (.slice e))(I:P.underlying e=some (.int k))(G:P.cellsOf e=1):
  ∃(s:Sl)(f:Nat->Int),v=s.v/\s.c<=maxLen/\Zc0 W.heap s k f/\∀i,i<s.n->k.min<=f i/\f i<=k.max:=by
 obtain⟨s,f,h1,J⟩:=(h.slice ht).ints ht I G;exact⟨s,f,by simpa using h1,J⟩
def Zc3{l:Zc}{o:Nat}{v:Zj}(h:(l.drop o).take 1=[v]):l[o]? = some v:=by
 have:((l.drop o).take 1)[0]? = some v:=by rw[h];rfl
 rw[Xm7 (by omega),Xj4] at this;simpa using this
def Read.fint{t:TypeId}{G:Array Field}{cs:Zc}{i:Nat}{f:Field}{k:IntKind}(h:Read enc P W base t cs)(ht:P.underlying t=some (.struct G))(hf:G[i]? = some f)(I:P.underlying f.type=some (.int k))
  (hc:P.cellsOf f.type=1):∃n,cs[f.offset]? = some (.int k n)/\k.min<=n/\n<=k.max:=by
 have:=(h.struct ht).2 i f hf;rw[hc] at this;obtain⟨n,h1,J⟩:=this.int I;exact⟨n,Zc3 h1,J⟩
def Read.fslice{t e:TypeId}{I:Array Field}{cs:Zc}{i:Nat}{f:Field}(h:Read enc P W base t cs)(ht:P.underlying t=some (.struct I))(hf:I[i]? = some f)(J:P.underlying f.type=some (.slice e))
  (hc:P.cellsOf f.type=1):∃v,cs[f.offset]? = some v/\Read enc P W base f.type [v]:=by
 have:=(h.struct ht).2 i f hf;rw[hc] at this;have h0:=this;obtain⟨m,x,h⟩:=h0;rcases open_slice J h with⟨G,_⟩|⟨_,_,_,_,_,_,_,G,_⟩
 ·exact⟨_,Zc3 G,by rw[<-G];exact this⟩
 exact⟨_,Zc3 G,by rw[<-G];exact this⟩
def Read.agg{t:TypeId}{I:Array Field}{v:Zj}(h:Read enc P W base t v.cells.toList)(ht:P.underlying t=some (.struct I))(hc:P.cellsOf t≠1):∃cs,v = .agg cs/\cs.size=P.cellsOf t/\Read enc P W base t cs.toList:=by
 have G:=(h.struct ht).1
 cases v with
 |agg cs=>exact⟨cs,rfl,by simpa[Value.cells] using G,h⟩
 |_=>simp[Value.cells] at G;exact absurd G.symm hc
end
noncomputable section
inductive U7 where
 |cells (cs:Zc) (sz:Nat) (ex fz:Bool)
 |dead
 |map (es:List MapEntry)
inductive Tr where
 |e
 |l (v:U7)
 |n (a b:Tr)
def ob{α β:Type}(o:Option α)(f:α->Option β):Option β:=Option.rec (motive:=fun _=>Option β) none f o
def bf{α:Type}(b:Bool)(x y:α):α:=Bool.rec (motive:=fun _=>α) y x b
def Tr.get(d:Nat):Tr->Nat->Option U7:=Nat.rec (motive:=fun _=>Tr->Nat->Option U7)
 (fun t _=>Tr.rec (motive:=fun _=>Option U7) none (fun v=>some v) (fun _ _ _ _=>none) t)
 (fun _ ih t i=>Tr.rec (motive:=fun _=>Option U7) none (fun _=>none) (fun a b _ _=>bf (Nat.beq (Nat.mod i 2) 0) (ih a (Nat.div i 2)) (ih b (Nat.div i 2))) t) d
def Tr.set(d:Nat):Tr->Nat->U7->Tr:=Nat.rec (motive:=fun _=>Tr->Nat->U7->Tr)
 (fun _ _ v=>.l v)
 (fun _ ih t i v=>Tr.rec (motive:=fun _=>Tr) (bf (Nat.beq (Nat.mod i 2) 0) (.n (ih .e (Nat.div i 2) v) .e) (.n .e (ih .e (Nat.div i 2) v)))
  (fun _=>bf (Nat.beq (Nat.mod i 2) 0) (.n (ih .e (Nat.div i 2) v) .e) (.n .e (ih .e (Nat.div i 2) v))) (fun a b _ _=>bf (Nat.beq (Nat.mod i 2) 0) (.n (ih a (Nat.div i 2) v) b) (.n a (ih b (Nat.div i 2) v))) t) d
inductive AH where
 |mk (n:Nat) (t:Tr) (w:Nat)
def lg(l:Zc):Nat->cR:=List.rec (motive:=fun _=>Nat->cR) (fun _=>undef) (fun x _ ih n=>Nat.rec (motive:=fun _=>cR) x (fun m _=>ih m) n) l
def lgo(l:Zc):Nat->Option cR:=List.rec (motive:=fun _=>Nat->Option cR) (fun _=>none) (fun x _ ih n=>Nat.rec (motive:=fun _=>Option cR) (some x) (fun m _=>ih m) n) l
def Z5l(l:Zc):Nat->cR->Zc:=List.rec (motive:=fun _=>Nat->cR->Zc) (fun _ _=>[]) (fun x r ih n v=>Nat.rec (motive:=fun _=>Zc) (v::r) (fun m _=>x::ih m v) n) l
def Zdk(l m:Zc):Zc:=List.rec (motive:=fun _=>Zc) m (fun x _ ih=>x::ih) l
def Xbx(n:Nat):Zc->Zc:=Nat.rec (motive:=fun _=>Zc->Zc) (fun l=>l) (fun _ ih l=>List.rec (motive:=fun _=>Zc) [] (fun _ r _=>ih r) l) n
def Z34(n:Nat):Zc->Option Zc:=Nat.rec (motive:=fun _=>Zc->Option Zc) (fun _=>some []) (fun _ ih l=>List.rec (motive:=fun _=>Option Zc) none (fun x r _=>ob (ih r) fun r'=>some (x::r')) l) n
def unk:cR:=.chan none
def Zqz(v:Zj):Bool:=match v with
 |.agg _|.tuple _|.chan _=>false
 |_=>true
def Zzy(vs:Zc):Zc->Option Zc:=List.rec (motive:=fun _=>Zc->Option Zc) (fun l=>some l) (fun v _ ih l=>List.rec (motive:=fun _=>Option Zc) none (fun _ r _=>bf (Zqz v) (ob (ih r) fun r'=>some (v::r')) none) l) vs
def Zpq(o:Nat)(vs:Zc):Zc->Option Zc:=Nat.rec (motive:=fun _=>Zc->Option Zc) (fun l=>Zzy vs l) (fun _ ih l=>List.rec (motive:=fun _=>Option Zc) none (fun x r _=>ob (ih r) fun r'=>some (x::r')) l) o
def onC{α:Type}(o:Option U7)(f:Zc->Nat->Bool->Bool->Option α):Option α:=ob o fun x=>U7.rec (motive:=fun _=>Option α) f none (fun _=>none) x
def AH.gt(h:AH)(i:Nat):Option U7:=AH.rec (motive:=fun _=>Option U7) (fun _ t _=>Tr.get 13 t i) h
def AH.sz(h:AH):Nat:=AH.rec (motive:=fun _=>Nat) (fun n _ _=>n) h
def AH.low(h:AH):Nat:=AH.rec (motive:=fun _=>Nat) (fun _ _ w=>w) h
def Zmn(a b:Nat):Nat:=bf (Nat.ble a b) a b
def AH.put(h:AH)(i:Nat)(v:U7):AH:=AH.rec (motive:=fun _=>AH) (fun n t w=>.mk n (Tr.set 13 t i v) (Zmn w (Nat.mod i 8192))) h
def AH.cell(h:AH)(b o:Nat):Option cR:=onC (h.gt b) fun cs _ _ _=>lgo cs o
def AH.rd(h:AH)(b o n:Nat):Option Zc:=onC (h.gt b) fun cs _ _ _=>Z34 n (Xbx o cs)
def AH.wr(h:AH)(b o:Nat)(vs:Zc):Option AH:=onC (h.gt b) fun cs sz ex fz=>ob (Zpq o vs cs) fun cs'=>some (h.put b (.cells cs' sz ex fz))
def AH.nw{α:Type}(h:AH)(v:U7)(f:Nat->AH->Option α):Option α:=AH.rec (motive:=fun _=>Option α) (fun n t w=>bf (Nat.ble n 8000) (f n (.mk (Nat.succ n) (Tr.set 13 t n v) w)) none) h
def Y0:Sys:=⟨id,id,id,fun _ _ _ _=>False,fun h _=>h.elim,fun _=>False⟩
def Z2d(h:AH)(r:Option Nat):Option (List MapEntry):=Option.rec (motive:=fun _=>Option (List MapEntry)) (some []) (fun r=>ob (h.gt r) fun x=>U7.rec (motive:=fun _=>Option (List MapEntry)) (fun _ _ _ _=>none) none (fun es=>some es) x) r
def on1{α:Type}(xs:Zc)(f:cR->Option α):Option α:=List.rec (motive:=fun _=>Option α) none (fun x r _=>List.rec (motive:=fun _=>Option α) (f x) (fun _ _ _=>none) r) xs
def on2{α:Type}(xs:Zc)(f:cR->cR->Option α):Option α:=List.rec (motive:=fun _=>Option α) none (fun x r _=>on1 r (f x)) xs
def on3{α:Type}(xs:Zc)(f:cR->cR->cR->Option α):Option α:=List.rec (motive:=fun _=>Option α) none (fun x r _=>on2 r (f x)) xs
def Znr:IntKind->IntKind->Bool
 |.i64,.i64=>true
 |.u8,.u8=>true
 |.u16,.u16=>true
 |.u32,.u32=>true
 |.u64,.u64=>true
 |.i32,.i32=>true
 |.i8,.i8=>true
 |.i16,.i16=>true
 |_,_=>false
def onI{α:Type}(n:Int)(f g:Nat->α):α:=Int.rec (motive:=fun _=>α) f g n
def iEq(a b:Int):Bool:=onI a (fun x=>onI b (fun y=>Nat.beq x y) fun _=>false) fun x=>onI b (fun _=>false) fun y=>Nat.beq x y
def iLe(a b:Int):Bool:=onI a (fun x=>onI b (fun y=>Nat.ble x y) fun _=>false) fun x=>onI b (fun _=>true) fun y=>Nat.ble y x
def Xgi(a b:Int):Int:=onI a (fun x=>onI b (fun y=>.ofNat (Nat.add x y)) fun y=>bf (Nat.ble (Nat.succ y) x) (.ofNat (Nat.sub x (Nat.succ y))) (.negSucc (Nat.sub y x)))
 fun x=>onI b (fun y=>bf (Nat.ble (Nat.succ x) y) (.ofNat (Nat.sub y (Nat.succ x))) (.negSucc (Nat.sub x y))) fun y=>.negSucc (Nat.succ (Nat.add x y))
def Xfn(a b:Int):Int:=onI a (fun x=>onI b (fun y=>bf (Nat.ble y x) (.ofNat (Nat.sub x y)) (.negSucc (Nat.sub (Nat.sub y x) 1))) fun y=>.ofNat (Nat.add x (Nat.succ y)))
 fun x=>onI b (fun y=>.negSucc (Nat.add x y)) fun y=>bf (Nat.ble x y) (.ofNat (Nat.sub y x)) (.negSucc (Nat.sub (Nat.sub x y) 1))
def frc{α:Type}(n:Nat)(f:Nat->α):α:=Nat.rec (motive:=fun _=>α) (f 0) (fun m _=>f (Nat.succ m)) n
def Xbm:IntKind->Bool
 |.i64=>true
 |_=>false
def Zy5(k:IntKind)(n:Int):Option cR:=bf (Xbm k)
 (onI n (fun a=>bf (Nat.ble a 9223372036854775807) (frc a fun a=>some (.int k (.ofNat a))) (some (.int k (k.wrap n)))) (fun a=>bf (Nat.ble a 9223372036854775807) (frc a fun a=>some (.int k (.negSucc a))) (some (.int k (k.wrap n)))))
 (some (.int k (k.wrap n)))
def bl(b:Bool):Option cR:=bf b (some (.bool true)) (some (.bool false))
def ibF(op:BinOp)(k:IntKind)(a:Int)(yk:IntKind)(b:Int):Option cR :=
 match op with
 |.add=>bf (Znr k yk) (Zy5 k (Xgi a b)) none
 |.sub=>bf (Znr k yk) (Zy5 k (Xfn a b)) none
 |.eql=>bf (Znr k yk) (bl (iEq a b)) none
 |.neq=>bf (Znr k yk) (bl (Bool.not (iEq a b))) none
 |.lss=>bf (Znr k yk) (bl (Bool.not (iLe b a))) none
 |.leq=>bf (Znr k yk) (bl (iLe a b)) none
 |.gtr=>bf (Znr k yk) (bl (Bool.not (iLe a b))) none
 |.geq=>bf (Znr k yk) (bl (iLe b a)) none
 |op=>Z5 op k a yk b
def Xge(op:BinOp):cR->cR->Option cR
 |.int k a,.int yk b=>ibF op k a yk b
 |_,_=>none
def Z71:cR->cR->cR->Option cR
 |.bool c,a,b=>bf c (some a) (some b)
 |_,_,_=>none
def onP{α:Type}(v:Zj)(f:Nat->Nat->Option α):Option α:=match v with
 |.pointer (some ⟨b,o,none⟩)=>f b o
 |_=>none
def Z31(off:Nat)(v:Zj):Option cR:=onP v fun b o=>frc (Nat.add o off) fun o=>some (.pointer (some ⟨b,o,none⟩))
def Zw3(sz:Nat):cR->cR->Option cR
 |.slice (some ⟨b,o,none⟩) n _,.int _ (.ofNat i)=>bf (Nat.ble (Nat.succ i) n) (frc (Nat.add o (Nat.mul i sz)) fun o=>some (.pointer (some ⟨b,o,none⟩))) none
 |_,_=>none
def Zpu(h:AH)(sz:Nat)(v:Zj):Option cR:=onP v fun b o=>ob (h.rd b o sz) fun l=>some (.agg l.toArray)
def Xb3:cR->Option cR
 |.slice _ n _=>some (.int .i64 (.ofNat n))
 |_=>none
def Xix:cR->Option cR
 |.bool b=>bl (Bool.not b)
 |_=>none
def Xbn(i:Nat):cR->Option cR
 |.tuple vs=>lgo vs.toList i
 |_=>none
def E0:cR:=.slice (some ⟨0,0,some 0⟩) 0 0
def Z5f(h:AH)(sz:Nat)(a:Option Addr)(n c:Nat)(x:Nat × Nat):Option cR:=match a with
 |none=>some (.slice none (Nat.sub x.2 x.1) (Nat.sub c x.1))
 |some ⟨b,o,none⟩=>onC (h.gt b) fun _ _ ex _=>bf (Bool.or (Nat.ble (Nat.succ x.1) c) ex)
   (frc (bf (Nat.beq c x.1) o (Nat.add o (Nat.mul x.1 sz))) fun o'=>some (.slice (some ⟨b,o',none⟩) (Nat.sub x.2 x.1) (Nat.sub c x.1)))
   (some E0)
 |some ⟨_,_,some _⟩=>some E0
def Xby(h:AH)(sz:Nat)(lo hi:Bool):Zc->Option cR
 |.slice a n c::r=>bf (Nat.ble n c) (ob (W8 n c lo hi r) fun x=>Z5f h sz a n c x) none
 |_=>none
def Xfz(h:AH)(v:Zj):Option cR:=match v with
  |.slice none _ _=>some (.string .empty)
  |.slice (some ⟨b,o,none⟩) n _=>ob (h.rd b o n) fun l=>ob (Zcc l) fun s=>some (.string ⟨s.toArray⟩)
  |_=>none
def Xe1(h:AH)(v:Zj):Option cR:=match v with
  |.slice none _ c=>some (.int .i64 (.ofNat c))
  |.slice (some ⟨b,_,none⟩) _ c=>onC (h.gt b) fun _ _ ex _=>bf ex (some (.int .i64 (.ofNat c))) none
  |_=>none
def Z5j(xs:Zc):Option cR:=match xs with
  | [.slice a _ c,.int _ (.ofNat l),.int _ (.ofNat i),.int _ (.ofNat m)]=>bf (Nat.ble l i) (bf (Nat.ble i m) (bf (Nat.ble m c) (match a with
   |none=>some unk
   |some ⟨_,_,none⟩=>some unk
   |_=>none) none) none) none
  |_=>none
def Xbu(h:AH)(kk:Option Nat)(ok:Bool)(zero:Zj)(m key:Zj):Option cR:=match m with
  |.map r=>bf (Zb3 kk key) (ob (Z2d h r) fun es=>ob (Uf kk key es 0) fun a=>match a with
   |some (_,v)=>some (bf ok (.tuple #[v,.bool true]) v)
   |none=>some (bf ok (.tuple #[zero,.bool false]) zero)) none
  |_=>none
def Xbh(h:AH)(v:Zj):Option cR:=match v with
  |.map r=>ob (Z2d h r) fun es=>some (.int .i64 (.ofNat es.length))
  |_=>none
def Xcj:Ym->Bool
 |.nilck|.cntS|.idxBS|.sb _|.eqb _|.eqp _|.eqi _ _|.eqs _|.eqf _|.eqa _ _|.un _|.conv _|.idxA _ _|.idxS|.idxV _ _ _|.fld _ _ _|.slcS _ _|.build _ _ _|.buildA _ _ _|.mkI _|.lenS|.lenA _|.mn|.mx|.mkf _ _=>true
 |_=>false
def nt(v:Zj):Bool:=match v with
 |.tuple _|.chan _=>false
 |_=>true
def Vg(xs:Zc):Bool:=List.rec (motive:=fun _=>Bool) true (fun x _ ih=>bf (nt x) ih false) xs
def opA(h:AH)(o:Ym)(xs:Zc):Option cR :=
 match o with
 |.mv=>on1 xs some
 |.pick=>on3 xs Z71
 |.ib op=>on2 xs (Xge op)
 |.fadr off=>on1 xs (Z31 off)
 |.idxa sz=>on2 xs (Zw3 sz)
 |.len=>on1 xs Xb3
 |.cC i=>on1 xs (Xbn i)
 |.load sz agg=>bf agg (on1 xs (Zpu h sz)) (on1 xs fun v=>onP v fun b o=>h.cell b o)
 |.slc sz lo hi=>Xby h sz lo hi xs
 |.cap=>on1 xs (Xe1 h)
 |.slc3 _=>Z5j xs
 |.b2s=>on1 xs (Xfz h)
 |.lookup kk ok zero=>on2 xs (Xbu h kk ok zero)
 |.lenM=>on1 xs (Xbh h)
 |op=>bf (Xcj op) (bf (Vg xs) (Ym.cK Y0 #[] op xs) none) none
def Z41(h:AH)(sz n:Nat):cR->Option Zc
 |.slice (some ⟨b,o,none⟩) _ _=>h.rd b o (Nat.mul n sz)
 |.slice (some ⟨_,_,some _⟩) _ _=>bf (Nat.beq n 0) (some []) none
 |.slice none _ _=>some []
 |.string s=>some ((s.extract 0 n).data.toList.map fun b=>.int .u8 b.toNat)
 |_=>none
def rep(n:Nat)(l:Zc):Zc:=Nat.rec (motive:=fun _=>Zc) [] (fun _ ih=>Zdk l ih) n
inductive EfR where
 |mk (v:Zj) (h:AH)
def killA{α:Type}(h:AH)(sz c:Nat)(a:Option Addr)(f:AH->Bool->Option α):Option α:=match a with
 |none=>f h false
 |some ⟨b,o,none⟩=>onC (h.gt b) fun cs z ex fz=>bf ex (f h false) (bf (Nat.beq (Nat.add o (Nat.mul c sz)) cs.length) (bf (Nat.beq z sz) (f (h.put b .dead) fz) none) none)
 |_=>none
def Zqw(xs:Zc):Bool:=List.rec (motive:=fun _=>Bool) true (fun x _ ih=>bf (Zqz x) ih false) xs
def onX(h:AH)(a:Option Addr):Option Bool:=match a with
 |none=>some true
 |some ⟨b,_,none⟩=>onC (h.gt b) fun _ _ ex _=>bf ex (some true) none
 |_=>none
def Xdm(h:AH)(sz bytes:Nat)(zero:Array cR)(s x:Zj):Option EfR:=match s with
 |.slice a n c=>ob (Zfa x) fun m=>ob (Z41 h sz m x) fun nw =>
   bf (Nat.ble (Nat.add n m) c)
    (match a with
    |some ⟨b,o,none⟩=>ob (h.wr b (Nat.add o (Nat.mul n sz)) nw) fun h'=>frc (Nat.add n m) fun nm=>some (.mk (.slice a nm c) h')
    |none=>some (.mk (.slice none (Nat.add n m) c) h)
    |_=>none)
   (ob (Z41 h sz n s) fun old=>bf (Zqw nw) (bf (Nat.beq nw.length (Nat.mul m sz)) (bf (Nat.ble n c) (bf (Nat.ble (Nat.add n m) 4096) (bf (Nat.ble bytes 4096) (bf (Nat.beq zero.size sz) (killA h sz c a fun h1 fz =>
    h1.nw (.cells (Zdk old nw) sz false fz) fun b h'=>frc (Nat.add n m) fun nm=>some (.mk (.slice (some ⟨b,0,none⟩) nm nm) h')) none) none) none) none) none) none)
 |_=>none
def Z3p (h:AH) (sz bytes:Nat) (zero:Array cR) (s x:Zj):Option EfR:=match s,x with
 | .slice a n c,.int .i64 (.ofNat m)=>bf (Nat.ble 1 m) (bf (Nat.ble (Nat.succ c) (Nat.add n m)) (ob (Z41 h sz n s) fun old=>ob (onX h a) fun _=>bf (Nat.ble (Nat.add n m) 4096) (bf (Nat.ble bytes 4096) (bf (Nat.beq zero.size sz)
    (h.nw (.cells (Zdk old (rep m zero.toList)) sz false false) fun b h'=>frc (Nat.add n m) fun nm=>some (.mk (.slice (some ⟨b,0,none⟩) nm nm) h')) none) none) none) none) none
 | _,_=>none
def efA(h:AH)(o:Ef)(xs:Zc):Option EfR:=match o with
 |.store sz=>on2 xs fun p v=>onP p fun b o=>bf (Nat.beq v.cells.toList.length sz) (ob (h.wr b o v.cells.toList) fun h'=>some (.mk undef h')) none
 |.new=>on1 xs fun v=>bf (nt v) (h.nw (.cells v.cells.toList 0 true false) fun n h'=>some (.mk (.pointer (some ⟨n,0,none⟩)) h')) none
 |.bslice len sz zero pl=>bf (Vg xs) (ob (Instr.fill (fun i=>some (i * sz,sz)) (Xv zero (len * sz)) (pl.zip xs)) fun cs=>h.nw (.cells cs.toList sz true false) fun n h'=>some (.mk (.slice (some ⟨n,0,none⟩) len len) h')) none
 |.mkslice sz bytes zero=>on2 xs fun l c=>match l,c with
  |.int _ (.ofNat l),.int _ (.ofNat c)=>bf (Nat.ble l c) (bf (Nat.ble c 4096) (bf (Nat.ble bytes 4096) (bf (Nat.beq zero.size sz) (h.nw (.cells (rep c zero.toList) sz true false) fun n h'=>some (.mk (.slice (some ⟨n,0,none⟩) l c) h')) none) none) none) none
  |_,_=>none
 |.append sz bytes zero=>on2 xs (Xdm h sz bytes zero)
 |.appz sz bytes zero=>on2 xs (Z3p h sz bytes zero)
 |.clr sz zero=>on1 xs fun s=>match s with
  |.slice none _ _=>some (.mk undef h)
  |.slice (some ⟨b,o,none⟩) n _=>bf (Nat.beq n 0) (some (.mk undef h)) (ob (h.wr b o (rep n zero.toList)) fun h'=>some (.mk undef h'))
  |_=>none
 |.b2b=>on1 xs fun s=>match s with
  |.slice (some ⟨b,o,none⟩) n c=>onC (h.gt b) fun cs sz ex fz=>bf fz none (some (.mk s (h.put b (.cells cs sz ex true))))
  |_=>none
 |.copy sz=>on2 xs fun s x=>match s with
  |.slice a n _=>ob (Zfa x) fun m=>ob (Z41 h sz (min m n) x) fun nw =>
   match a with
   |some ⟨b,o,none⟩=>ob (h.wr b o nw) fun h'=>some (.mk (.int .i64 (min m n:Nat)) h')
   |none=>some (.mk (.int .i64 (min m n:Nat)) h)
   |_=>none
  |_=>none
 |.s2b=>on1 xs fun v=>match v with
  |.string s=>h.nw (.cells (s.data.toList.map fun b=>Value.int .u8 b.toNat) 1 false true) fun n h'=>some (.mk (.slice (some ⟨n,0,none⟩) s.size s.size) h')
  |_=>none
 |.mkmap=>(match xs with
  | [] | [.int _ _]=>h.nw (.map []) fun n h'=>some (.mk (.map (some n)) h')
  |_=>none)
 |.mupd kk=>on3 xs fun m key val=>match m with
  |.map (some r)=>ob (Z2d h (some r)) fun es=>bf (Zb3 kk key) (ob (Uf kk key es 0) fun a=>match a with
    |some (i,_)=>some (.mk undef (h.put r (.map (es.modify i fun e=>{ e with key,val }))))
    |none=>some (.mk undef (h.put r (.map (es++[⟨key,val,0⟩]))))) none
  |_=>none
inductive Out where
 |nx
 |ex (i:Nat)
 |rt
def Xcr(h:AH)(e:Zc)(r:Res):Option cR:=match r with
 |.n i=>some (lg e i)
 |.box i sz agg=>onP (lg e i) fun b o=>bf agg (ob (h.rd b o sz) fun l=>some (.agg l.toArray)) (h.cell b o)
def Zj8(h:AH)(e:Zc):List Res->Option Zc
 | []=>some []
 |r::l=>ob (Xcr h e r) fun v=>ob (Zj8 h e l) fun vs=>some (v::vs)
def Z4p(h:AH)(e:Zc)(l:List Res):Option cR:=ob (Zj8 h e l) fun vs=>match vs with
 | [v]=>some v
 |vs=>some (.tuple vs.toArray)
def evA(e T:Zc)(k:Nat)(a:Xw):cR:=Xw.rec (motive:=fun _=>cR) (fun i=>lg e i) (fun i=>bf (Nat.ble (Nat.succ i) k) (lg T (Nat.sub k (Nat.succ i))) undef) (fun v=>v) (fun j=>.func (.func j) #[] #[]) (fun j=>unk) a
def evs(e T:Zc)(k:Nat)(l:List Xw):Zc:=List.rec (motive:=fun _=>Zc) [] (fun a _ ih=>evA e T k a::ih) l
abbrev Zdf:=Nat->Zc->AH->Option EfR
inductive ILR where
 |mk (e T:Zc) (k:Nat) (h:AH)
def stepD(d:W1)(v:Zj)(e T:Zc)(k:Nat)(h:AH):Option ILR:=W1.rec (motive:=fun _=>Option ILR) (some (.mk e T k h)) (some (.mk e (v::T) (Nat.succ k) h)) (fun i=>some (.mk (Z5l e i v) T k h)) d
def onR{α:Type}(r:Option EfR)(f:cR->AH->Option α):Option α:=ob r fun x=>EfR.rec (motive:=fun _=>Option α) f x
def onL{α:Type}(r:Option ILR)(f:Zc->Zc->Nat->AH->Option α):Option α:=ob r fun x=>ILR.rec (motive:=fun _=>Option α) f x
def Zdc:cR->cR->Bool
 |.int k a,.int j b=>Bool.and (Znr k j) (iEq a b)
 |.bool a,.bool b=>bf a b (Bool.not b)
 |.pointer (some ⟨b,o,none⟩),.pointer (some ⟨b',o',none⟩)=>Bool.and (Nat.beq b b') (Nat.beq o o')
 |.pointer none,.pointer none=>true
 |.slice (some ⟨b,o,none⟩) n c,.slice (some ⟨b',o',none⟩) n' c'=>Bool.and (Bool.and (Nat.beq b b') (Nat.beq o o')) (Bool.and (Nat.beq n n') (Nat.beq c c'))
 |.slice none n c,.slice none n' c'=>Bool.and (Nat.beq n n') (Nat.beq c c')
 |.string a,.string b=>a.data.toList == b.data.toList
 |.nilIface,.nilIface=>true
 |.map none,.map none=>true
 |.map (some a),.map (some b)=>Nat.beq a b
 |_,_=>false
def Z5d(l:Zc):Zc->Bool:=List.rec (motive:=fun _=>Zc->Bool) (fun m=>List.rec (motive:=fun _=>Bool) true (fun _ _ _=>false) m) (fun x _ ih m=>List.rec (motive:=fun _=>Bool) false (fun y s _=>bf (Zdc x y) (ih s) false) m) l
def vEq:cR->cR->Bool
 |.agg a,.agg b=>Z5d a.toList b.toList
 |.func (.func i) a c,.func (.func j) a' c'=>Bool.and (Nat.beq i j) (Bool.and (Z5d a.toList a'.toList) (Z5d c.toList c'.toList))
 |a,b=>Zdc a b
abbrev X2:=List (Nat × Nat)
def Zux(p:X2)(b:Nat):Option Nat:=List.rec (motive:=fun _=>Option Nat) none (fun x _ ih=>bf (Nat.beq x.1 b) (some x.2) ih) p
def Zbp(p:X2)(a:Nat):Bool:=List.rec (motive:=fun _=>Bool) false (fun x _ ih=>bf (Nat.beq x.2 a) true ih) p
def Zut(n0:Nat)(p:X2)(a b:Nat):Option X2:=bf (Nat.ble (Nat.succ b) n0) (bf (Nat.beq a b) (some p) none)
 (match Zux p b with
 |some a'=>bf (Nat.beq a a') (some p) none
 |none=>bf (Nat.ble (Nat.succ a) n0) none (bf (Zbp p a) none (some ((b,a)::p))))
def Z1o(n0:Nat)(p:X2):cR->cR->Option X2
 |.pointer (some ⟨a,o,none⟩),.pointer (some ⟨b,o',none⟩)=>bf (Nat.beq o o') (Zut n0 p a b) none
 |.slice (some ⟨a,o,none⟩) n c,.slice (some ⟨b,o',none⟩) n' c'=>bf (Nat.beq o o') (bf (Nat.beq n n') (bf (Nat.beq c c') (Zut n0 p a b) none) none) none
 |.map (some a),.map (some b)=>Zut n0 p a b
 |.tuple x,.tuple y=>bf (Nat.beq x.size 0) (bf (Nat.beq y.size 0) (some p) none) none
 |.chan none,_=>some p
 |x,y=>bf (Zdc x y) (some p) none
def rnL(n0:Nat)(l:Zc):Zc->X2->Option X2:=List.rec (motive:=fun _=>Zc->X2->Option X2) (fun m p=>List.rec (motive:=fun _=>Option X2) (some p) (fun _ _ _=>none) m)
 (fun x _ ih m p=>List.rec (motive:=fun _=>Option X2) none (fun y s _=>ob (Z1o n0 p x y) fun p'=>ih s p') m) l
def rnV(n0:Nat)(p:X2):cR->cR->Option X2
 |.agg a,.agg b=>rnL n0 a.toList b.toList p
 |.func (.func i) a c,.func (.func j) a' c'=>bf (Nat.beq i j) (ob (rnL n0 a.toList a'.toList p) fun q=>rnL n0 c.toList c'.toList q) none
 |.nilFunc,.nilFunc=>some p
 |x,y=>Z1o n0 p x y
def rnE(n0:Nat)(l:Zc):Zc->X2->Option X2:=List.rec (motive:=fun _=>Zc->X2->Option X2) (fun m p=>List.rec (motive:=fun _=>Option X2) (some p) (fun _ _ _=>none) m)
 (fun x _ ih m p=>List.rec (motive:=fun _=>Option X2) none (fun y s _=>ob (rnV n0 p x y) fun p'=>ih s p') m) l
def bEq(a b:Bool):Bool:=bf a b (Bool.not b)
def Zzx(n0:Nat)(p:X2)(x y:U7):Option X2:=match x,y with
 |.cells cs sz ex fz,.cells cs' sz' ex' fz'=>bf (Nat.beq sz sz') (bf (bEq ex ex') (bf (bEq fz fz') (rnL n0 cs cs' p) none) none) none
 |.map [],.map []=>some p
 |_,_=>none
def Zha(n0:Nat)(ha hb:AH)(k:Nat):X2->X2->Option X2:=Nat.rec (motive:=fun _=>X2->X2->Option X2) (fun _ _=>none)
 (fun _ ih done p=>List.rec (motive:=fun _=>Option X2) (some done) (fun x r _=>bf (Nat.ble (Nat.succ x.2) ha.sz) (bf (Nat.ble (Nat.succ x.1) hb.sz) (ob (ha.gt x.2) fun u=>ob (hb.gt x.1) fun v=>ob (Zzx n0 (lappR r (x::done)) u v) fun q=>ih (x::done) (lcut q (x::done))) none) none) p) k
where
 lappR (r s:X2):X2:=List.rec (motive:=fun _=>X2) s (fun x _ ih=>x::ih) r
 lcut (q s:X2):X2:=List.rec (motive:=fun _=>Nat->X2) (fun _=>[]) (fun x _ ih n=>Nat.rec (motive:=fun _=>X2) [] (fun m _=>x::ih m) n) q (Nat.sub q.length s.length)
def Zs0(call:Zdf)(e T:Zc)(k:Nat)(h:AH)(i:Instr):Option ILR:=Instr.rec (motive:=fun _=>Option ILR)
 (fun o xs d=>ob (opA h o (evs e T k xs)) fun v=>stepD d v e T k h)
 (fun o xs d=>onR (efA h o (evs e T k xs)) fun v h'=>stepD d v e T k h')
 (fun j xs d=>onR (call j (evs e T k xs) h) fun v h'=>stepD d v e T k h')
 (fun x xs d=>match evA e T k x with
  |.func (.func j) first cap=>onR (call j (Zdk first.toList (Zdk (evs e T k xs) cap.toList)) h) fun v h'=>stepD d v e T k h'
  |_=>none)
 (fun o xs v=>ob (opA h o (evs e T k xs)) fun w=>bf (vEq w (evA e T k v)) (some (.mk e T k h)) none) i
def Zsq(ds:List W1)(T:Zc)(k:Nat){α:Type}(f:Zc->Nat->Option α):Option α:=List.rec (motive:=fun _=>Zc->Nat->Option α) f (fun d _ ih T k=>W1.rec (motive:=fun _=>Option α) (ih T k) (ih (undef::T) (Nat.succ k)) (fun _=>ih T k) d) ds T k
def Zoi(ds:List W1)(e:Zc):Zc:=List.rec (motive:=fun _=>Zc->Zc) (fun e=>e) (fun d _ ih e=>W1.rec (motive:=fun _=>Zc) (ih e) (ih e) (fun i=>ih (Z5l e i undef)) d) ds e
def gdA{α:Type}(v:Zj)(want:Bool)(x y:Option α):Option α:=match v with
 |.bool b=>bf (bf b want (Bool.not want)) x y
 |.chan _=>none
 |_=>y
def forget(k:Nat):Zc:=Nat.rec (motive:=fun _=>Zc) [] (fun _ ih=>unk::ih) k
def Zag(n0:Nat)(p:X2)(m:Nat):AH->AH:=Nat.rec (motive:=fun _=>AH->AH) (fun h=>h) (fun i ih h=>bf (Nat.ble (Nat.succ i) n0) h (ih (bf (Zbp p i) h (h.put i .dead)))) m
def AH.reset(h:AH)(w:Nat):AH:=AH.rec (motive:=fun _=>AH) (fun n t _=>.mk n t w) h
def Xax(fa fb:AH->Option ILR)(h:AH):Option ILR :=
 onL (fa (h.reset 100000)) fun ea _ ka ha=>onL (fb (h.reset 100000)) fun eb _ kb hb =>
  bf (Nat.beq ka kb) (bf (Nat.ble h.sz ha.low) (bf (Nat.ble h.sz hb.low) (ob (rnE h.sz ea eb []) fun p=>ob (Zha h.sz ha hb 64 [] p) fun q =>
   some (.mk ea (forget ka) ka ((Zag h.sz q ha.sz ha).reset h.low))) none) none) none
def Zaf(call:Zdf)(l:IL):Zc->Zc->Nat->AH->Option ILR:=IL.rec (motive:=fun _=>Zc->Zc->Nat->AH->Option ILR)
 (fun e T k h=>some (.mk e T k h))
 (fun i _ ih e T k h=>onL (Zs0 call e T k h i) ih)
 (fun g want _ ds _ ihb ihk e T k h=>gdA (evA e T k g) want (onL (ihb e T k h) ihk) (Zsq ds T k fun T k=>ihk (Zoi ds e) T k h))
 (fun _ _ iha ihb e T k h=>Xax (iha e T k) (ihb e T k) h) l
inductive SR where
 |mk (o:Out) (e:Zc) (h:AH)
def onS(r:Option SR)(fn:Zc->AH->Option SR)(fx:Nat->Zc->AH->Option SR)(fr:Zc->AH->Option SR):Option SR :=
 ob r fun x=>SR.rec (motive:=fun _=>Option SR) (fun o e h=>Out.rec (motive:=fun _=>Option SR) (fn e h) (fun i=>fx i e h) (fr e h) o) x
def sx(i:Nat)(e:Zc)(h:AH):Option SR:=some (.mk (.ex i) e h)
def sr(e:Zc)(h:AH):Option SR:=some (.mk .rt e h)
def sn(e:Zc)(h:AH):Option SR:=some (.mk .nx e h)
def Zr9(f:Zc->AH->Option SR)(n:Nat):Zc->AH->Option SR:=Nat.rec (motive:=fun _=>Zc->AH->Option SR) (fun _ _=>none) (fun _ ih e h=>onS (f e h) ih sx sr) n
def Za6(call:Zdf)(m:Nat)(s:Stmt):Zc->AH->Option SR:=Stmt.rec (motive:=fun _=>Zc->AH->Option SR)
 sn
 (fun _ _ iha ihb e h=>onS (iha e h) ihb sx sr)
 (fun l e h=>onL (Zaf call l e [] 0 h) fun e' _ _ h'=>sn e' h')
 (fun x _ _ iha ihb e h=>match evA e [] 0 x with
  |.bool c=>bf c (iha e h) (ihb e h)
  |_=>none)
 (fun id _ ih e h=>onS (ih e h) sn (fun i e' h'=>bf (Nat.beq i id) (sn e' h') (sx i e' h')) sr)
 (fun _ ih e h=>Zr9 ih m e h)
 (fun i e h=>sx i e h)
 sr s
def Zqx(n:Nat):Zc:=Nat.rec (motive:=fun _=>Zc) [] (fun _ ih=>undef::ih) n
def Z43(call:Zdf)(m:Nat)(S:Yw)(args:Zc)(h:AH):Option EfR:=Yw.rec (motive:=fun _=>Option EfR) (fun np nn body res =>
  onS' (Za6 call m body (Zdk args (Zqx (Nat.sub nn np))) h) fun e' h'=>ob (Z4p h' e' res) fun v=>some (.mk v h')) S
where onS' (r:Option SR) (f:Zc->AH->Option EfR):Option EfR:=ob r fun x=>SR.rec (motive:=fun _=>Option EfR) (fun o e h=>Out.rec (motive:=fun _=>Option EfR) (f e h) (fun _=>none) (f e h) o) x
def Z54(tb:Nat->Option Yw)(m:Nat)(d:Nat):Zdf:=Nat.rec (motive:=fun _=>Zdf) (fun _ _ _=>none)
 (fun _ ih j args h=>ob (tb j) fun S=>bf (Nat.beq args.length S.np) (Z43 ih m S args h) none) d
end
def Yj{α β:Type}{o:Option α}{f:α->Option β}{y:β}:ob o f=some y↔∃x,o=some x/\f x=some y:=by
 cases o with
 |none=>exact⟨fun h=>(by cases h),fun ⟨_,h,_⟩=>(by cases h)⟩
 |some x=>exact⟨fun h=>⟨x,rfl,h⟩,fun ⟨_,h,k⟩=>(by cases h;exact k)⟩
@[simp] theorem Ql {α:Type} {x y:α}:bf true x y=x:=rfl
@[simp] theorem Ve {α:Type} {x y:α}:bf false x y=y:=rfl
def Yd{α:Type}{b:Bool}{x:Option α}{y:α}:bf b x none=some y↔b=true/\x=some y:=by
 cases b<;>simp
def Zzg{l:Zc}:∀{n:Nat},lg l n=l.getD n undef:=by
 induction l with
 |nil=>intro n;rfl
 |cons x l G=>intro n;cases n with
  |zero=>rfl
  |succ n=>exact G
def Z7s{l:Zc}:∀{n:Nat},lgo l n=l[n]? := by
 induction l with
 |nil=>intro n;rfl
 |cons x l G=>intro n;cases n with
  |zero=>rfl
  |succ n=>exact G
def Zzl{l:Zc}{v:Zj}:∀{n:Nat},Z5l l n v=l.set n v:=by
 induction l with
 |nil=>intro n;rfl
 |cons x l G=>intro n;cases n with
  |zero=>rfl
  |succ n=>exact congrArg (x :: ·) G
def Zcv{l m:Zc}:Zdk l m=l++m:=by
 induction l with
 |nil=>rfl
 |cons x l G=>exact congrArg (x :: ·) G
def Zuy{n:Nat}:∀{l:Zc},Xbx n l=l.drop n:=by
 induction n with
 |zero=>intro l;rfl
 |succ n G=>intro l;cases l with
  |nil=>rfl
  |cons x l=>exact G
def Zm2{n:Nat}:∀{l r:Zc},Z34 n l=some r->n<=l.length/\r=l.take n:=by
 induction n with
 |zero=>intro l r h;cases h;exact⟨Xle _,rfl⟩
 |succ n H =>
  intro l r h
  cases l with
  |nil=>cases h
  |cons x l =>
   obtain⟨G,h1,I⟩:=Yj.1 (show ob (Z34 n l) (fun G=>some (x::G))=some r from h)
   cases I
   obtain⟨J,rfl⟩:=H h1;exact⟨Nat.succ_le_succ J,rfl⟩
def Zw4{vs:Zc}:∀{l r:Zc},Zzy vs l=some r->vs.length<=l.length/\(∀v,v∈vs->Zqz v=true)/\r=vs++l.drop vs.length:=by
 induction vs with
 |nil=>intro l r h;cases h;exact⟨Xle _,fun v hv=>(by cases hv),rfl⟩
 |cons v vs H =>
  intro l r h
  cases l with
  |nil=>cases h
  |cons x l =>
   have h:bf (Zqz v) (ob (Zzy vs l) fun G=>some (v::G)) none=some r:=h;obtain⟨h0,h⟩:=Yd.1 h;obtain⟨G,h1,I⟩:=Yj.1 h
   cases I
   obtain⟨J,h4,rfl⟩:=H h1;refine⟨Nat.succ_le_succ J,fun u hu=>?_,rfl⟩;rcases List.mem_cons.1 hu with rfl|hu
   ·exact h0
   exact h4 u hu
def Zij{o:Nat}{vs:Zc}:∀{l r:Zc},Zpq o vs l=some r->o+vs.length<=l.length/\(∀v,v∈vs->Zqz v=true)/\r=l.take o++vs++l.drop (o+vs.length):=by
 induction o with
 |zero =>
  intro l r h;obtain⟨h1,G,H⟩:=Zw4 (show Zzy vs l=some r from h);exact⟨by omega,G,by rw[H];simp⟩
 |succ o J =>
  intro l r h
  cases l with
  |nil=>cases h
  |cons x l =>
   obtain⟨I,h1,G⟩:=Yj.1 (show ob (Zpq o vs l) (fun I=>some (x::I))=some r from h)
   cases G
   obtain⟨H,h4,rfl⟩:=J h1;refine⟨by simp only[Xjn];omega,h4,?_⟩;rw[show o+1+vs.length=(o+vs.length)+1 by omega]
   rfl
def Xd3{n:Nat}{l:Zc}:rep n l=(List.replicate n l).flatten:=by
 induction n with
 |zero=>rfl
 |succ n G =>
  show Zdk l (rep n l)=_;rw[Zcv,G]
  rfl
def Tr.get_set{d:Nat}:∀{t:Tr}{i j:Nat}{v:U7},i<2 ^ d->j<2 ^ d->Tr.get d (Tr.set d t i v) j=if i=j then some v else Tr.get d t j:=by
 induction d with
 |zero =>
  intro t i j v hi hj;have:i=j:=by omega
  rw[if_pos this]
  rfl
 |succ d ih =>
  intro t i j v hi hj;have R:i / 2<2 ^ d:=by rw[Nat.pow_succ] at hi;omega
  have U:j / 2<2 ^ d:=by rw[Nat.pow_succ] at hj;omega
  have X:∀(a b:Tr)(k:Nat),Tr.get (d+1) (.n a b) k=bf (Nat.beq (k % 2) 0) (Tr.get d a (k / 2)) (Tr.get d b (k / 2)):=fun _ _ _=>rfl;have gE:∀k,Tr.get d .e k=none:=fun k=>by cases d<;>rfl
  have hb:∀k,Nat.beq (k % 2) 0=decide (k % 2=0):=fun k=>by
   by_cases h:k % 2=0
   ·simp[h]
   have:Nat.beq (k % 2) 0=false:=by
    cases q:Nat.beq (k % 2) 0 with
    |false=>rfl
    |true=>exact absurd (Xi9 q) h
   simp[this,h]
  have H:∀(a b:Tr),(∀k,Tr.get (d+1) t k=bf (Nat.beq (k % 2) 0) (Tr.get d a (k / 2)) (Tr.get d b (k / 2))) ->
    Tr.get (d+1) (bf (Nat.beq (i % 2) 0) (.n (Tr.set d a (i / 2) v) b) (.n a (Tr.set d b (i / 2) v))) j=if i=j then some v else Tr.get (d+1) t j:=by
   intro a b ht;rw[ht];by_cases J:i % 2=0<;>by_cases O:j % 2=0
   ·have I:Nat.beq (i % 2) 0=true:=by rw[hb];simp[J]
    have G:Nat.beq (j % 2) 0=true:=by rw[hb];simp[O]
    rw[I,G,Ql,Ql,X,G,Ql,ih R U];by_cases e:i=j
    ·subst e;simp
    rw[ifN,if_neg e]
   ·have e:¬i=j:=fun e=>O (e ▸ J);have I:Nat.beq (i % 2) 0=true:=by rw[hb];simp[J]
    have G:Nat.beq (j % 2) 0=false:=by rw[hb];simp[O]
    rw[I,G,Ql,Ve,X,G,Ve,if_neg e]
   ·have e:¬i=j:=fun e=>J (e ▸ O);have I:Nat.beq (i % 2) 0=false:=by rw[hb];simp[J]
    have G:Nat.beq (j % 2) 0=true:=by rw[hb];simp[O]
    rw[I,G,Ql,Ve,X,G,Ql,if_neg e]
   have I:Nat.beq (i % 2) 0=false:=by rw[hb];simp[J]
   have G:Nat.beq (j % 2) 0=false:=by rw[hb];simp[O]
   rw[I,G,Ve,Ve,X,G,Ve,ih R U];by_cases e:i=j
   ·subst e;simp
   rw[ifN,if_neg e]
  cases t with
  |e=>exact H .e .e fun k=>by rw[gE];cases Nat.beq (k % 2) 0<;>rfl
  |l w=>exact H .e .e fun k=>by rw[gE];cases Nat.beq (k % 2) 0<;>rfl
  |n a b=>exact H a b fun k=>rfl
structure Loc where
 rb:Nat
 base:Nat
 dl:Nat
abbrev Qe:=Nat->Option Loc
def PLe(φ φ':Qe):Prop:=∀b l,φ b=some l->φ' b=some l
def PLe.refl{φ:Qe}:PLe φ φ:=fun _ _ h=>h
def PLe.trans{φ φ' φ'':Qe}(h:PLe φ φ')(k:PLe φ' φ''):PLe φ φ'':=fun b l e=>k b l (h b l e)
inductive VR(Y:Sys)(φ:Qe):cR->cR->Prop where
 |any (v:Zj):VR Y φ (.chan none) v
 |bool (b:Bool):VR Y φ (.bool b) (.bool b)
 |int (k:IntKind) (n:Int):VR Y φ (.int k n) (.int k n)
 |string (s:ByteArray):VR Y φ (.string s) (.string s)
 |ptr0:VR Y φ (.pointer none) (.pointer none)
 |ptr {b o:Nat} {l:Loc} (h:φ b=some l):VR Y φ (.pointer (some ⟨b,o,none⟩)) (.pointer (some ⟨l.rb,l.base+o,none⟩))
 |slc0 (n c:Nat):VR Y φ (.slice none n c) (.slice none n c)
 |slc {b o n c:Nat} {l:Loc} (h:φ b=some l):VR Y φ (.slice (some ⟨b,o,none⟩) n c) (.slice (some ⟨l.rb,l.base+o,none⟩) n (c+l.dl))
 |slcE (b o c:Nat):VR Y φ (.slice (some ⟨0,0,some 0⟩) 0 0) (.slice (some ⟨b,o,none⟩) 0 c)
 |map0:VR Y φ (.map none) (.map none)
 |map {r:Nat} {l:Loc} (h:φ r=some l):VR Y φ (.map (some r)) (.map (some l.rb))
 |func {j:Nat} {a c a' c':Array cR} (ha:a.size=a'.size) (hc:c.size=c'.size) (ia:(∀(i:Nat)(v v':Zj),a[i]? = some v->a'[i]? = some v'->VR Y φ v v')) (ic:(∀(i:Nat)(v v':Zj),c[i]? = some v->c'[i]? = some v'->VR Y φ v v')):VR Y φ (.func (.func j) a c) (.func (.func (Y.fid j)) a' c')
 |nilFunc:VR Y φ .nilFunc .nilFunc
 |iface {t:Nat} {v v':Zj} (h:VR Y φ v v'):VR Y φ (.iface t v) (.iface (Y.tid t) v')
 |nilIface:VR Y φ .nilIface .nilIface
 |agg {a a':Array cR} (ha:a.size=a'.size) (ia:(∀(i:Nat)(v v':Zj),a[i]? = some v->a'[i]? = some v'->VR Y φ v v')):VR Y φ (.agg a) (.agg a')
 |tuple {a a':Array cR} (ha:a.size=a'.size) (ia:(∀(i:Nat)(v v':Zj),a[i]? = some v->a'[i]? = some v'->VR Y φ v v')):VR Y φ (.tuple a) (.tuple a')
def VL(Y:Sys)(φ:Qe)(l l':Zc):Prop:=l.length=l'.length/\∀(i:Nat)(v v':Zj),l[i]? = some v->l'[i]? = some v'->VR Y φ v v'
section
variable{Y:Sys}{φ φ':Qe}
def VR.mono(p:PLe φ φ'):∀{v I:Zj},VR Y φ v I->VR Y φ' v I:=by
 intro v I h
 induction h with
 |any v=>exact .any v
 |bool b=>exact .bool b
 |int k n=>exact .int k n
 |string s=>exact .string s
 |ptr0=>exact .ptr0
 |ptr h=>exact .ptr (p _ _ h)
 |slc0 n c=>exact .slc0 n c
 |slc h=>exact .slc (p _ _ h)
 |slcE b o c=>exact .slcE b o c
 |map0=>exact .map0
 |map h=>exact .map (p _ _ h)
 |func G hc _ _ H J=>exact .func G hc H J
 |nilFunc=>exact .nilFunc
 |iface _ O=>exact .iface O
 |nilIface=>exact .nilIface
 |agg G _ H=>exact .agg G H
 |tuple G _ H=>exact .tuple G H
def VL.nil:VL Y φ [] []:=⟨rfl,fun i v G h=>by simp at h⟩
def VL.cons{a b:Zj}{l l':Zc}(h:VR Y φ a b)(k:VL Y φ l l'):VL Y φ (a::l) (b::l'):=by
 refine⟨by simp[k.1],fun i v H h1 G=>?_⟩
 cases i with
 |zero=>simp at h1 G;subst h1;subst G;exact h
 |succ i=>simp at h1 G;exact k.2 i v H h1 G
def VL.uncons{a:Zj}{l m:Zc}(h:VL Y φ (a::l) m):∃b l',m=b::l'/\VR Y φ a b/\VL Y φ l l':=by
 cases m with
 |nil=>cases h.1
 |cons b l'=>exact⟨b,l',rfl,h.2 0 a b rfl rfl,by simpa using h.1,fun i v G h1 H=>h.2 (i+1) v G (by simpa using h1) (by simpa using H)⟩
def VL.unnil{m:Zc}(h:VL Y φ [] m):m=[]:=Xjr h.1.symm
def VL.mono(p:PLe φ φ'){l l':Zc}(h:VL Y φ l l'):VL Y φ' l l':=⟨h.1,fun i v G a b=>(h.2 i v G a b).mono p⟩
def VL.get{l l':Zc}(h:VL Y φ l l'){i:Nat}{v:Zj}(e:l[i]? = some v):∃H,l'[i]? = some H/\VR Y φ v H:=by
 have I:i<l.length:=(List.getElem?_eq_some_iff.1 e).1;have G:i<l'.length:=by rw[<-h.1];exact I
 exact⟨l'[i],by simp[G],h.2 i v _ e (by simp[G])⟩
def VL.getD{l l':Zc}(h:VL Y φ l l')(i:Nat):VR Y φ (l.getD i undef) (l'.getD i undef):=by
 by_cases G:i<l.length
 ·have e:l[i]? = some l[i]:=by simp[G]
  obtain⟨H,a,b⟩:=h.get e;simp only[Xja,e,a,Xlq];exact b
 have e:l[i]? = none:=by simp;omega
 have I:l'[i]? = none:=by have:=h.1;simp;omega
 simp only[Xja,e,I,Option.getD_none];exact .tuple rfl (fun i v H h=>by simp at h)
def VL.set{l l':Zc}(h:VL Y φ l l'){v H:Zj}(hv:VR Y φ v H)(i:Nat):VL Y φ (l.set i v) (l'.set i H):=by
 refine⟨by simp[h.1],fun j a b G hb=>?_⟩;rw[Xk5] at G hb
 split at G
 ·rename_i e;subst e
  split at G
  ·rw[if_pos rfl] at hb
   split at hb
   ·cases G;cases hb;exact hv
   ·cases hb
  cases G
 rename_i e;rw[if_neg e] at hb;exact h.2 j a b G hb
def VL.app{l l' m m':Zc}(h:VL Y φ l l')(k:VL Y φ m m'):VL Y φ (l++m) (l'++m'):=by
 refine⟨by simp[h.1,k.1],fun i v H h1 G=>?_⟩;by_cases c:i<l.length
 ·rw[Xjm c] at h1;rw[Xjm (by rw[<-h.1];exact c)] at G;exact h.2 i v H h1 G
 rw[Xjv (by omega)] at h1;rw[Xjv (by rw[<-h.1];omega),<-h.1] at G;exact k.2 _ v H h1 G
def VL.take{l l':Zc}(h:VL Y φ l l')(n:Nat):VL Y φ (l.take n) (l'.take n):=by
 refine⟨by simp[h.1],fun i v H h1 G=>?_⟩;rw[Xj8] at h1 G
 split at h1
 ·rename_i c;rw[if_pos c] at G;exact h.2 i v H h1 G
 cases h1
def VL.drop{l l':Zc}(h:VL Y φ l l')(n:Nat):VL Y φ (l.drop n) (l'.drop n):=by
 refine⟨by simp[h.1],fun i v H h1 G=>?_⟩;rw[Xj4] at h1 G;exact h.2 _ v H h1 G
def VR.arr{a a':Array cR}:VL Y φ a.toList a'.toList↔a.size=a'.size/\∀(i:Nat)(v G:Zj),a[i]? = some v->a'[i]? = some G->VR Y φ v G:=by
 constructor
 ·intro h;exact⟨by simpa using h.1,fun i v G h1 H=>h.2 i v G (by simpa using h1) (by simpa using H)⟩
 intro h;exact⟨by simpa using h.1,fun i v G h1 H=>h.2 i v G (by simpa using h1) (by simpa using H)⟩
def VR.agg'{l l':Zc}(h:VL Y φ l l'):VR Y φ (.agg l.toArray) (.agg l'.toArray):=by
 have:=VR.arr (a:=l.toArray) (a':=l'.toArray).1 (by simpa using h);exact .agg this.1 this.2
def VR.un_agg{a:Array cR}{v:Zj}(h:VR Y φ (.agg a) v):∃a',v = .agg a'/\VL Y φ a.toList a'.toList:=by
 cases h with
 |agg G H=>exact⟨_,rfl,VR.arr.2 ⟨G,H⟩⟩
def VR.und:VR Y φ undef undef:=.tuple rfl (fun i v G h=>by simp at h)
def VR.cells{v I:Zj}(h:VR Y φ v I)(J:nt v=true):VL Y φ v.cells.toList I.cells.toList:=by
 cases h with
 |any=>cases J
 |tuple G H=>cases J
 |agg G H=>exact VR.arr.2 ⟨G,H⟩
 |bool b=>exact VL.cons (.bool b) .nil
 |int k n=>exact VL.cons (.int k n) .nil
 |string s=>exact VL.cons (.string s) .nil
 |ptr0=>exact VL.cons .ptr0 .nil
 |ptr h=>exact VL.cons (.ptr h) .nil
 |slc0 n c=>exact VL.cons (.slc0 n c) .nil
 |slc h=>exact VL.cons (.slc h) .nil
 |slcE b o c=>exact VL.cons (.slcE b o c) .nil
 |map0=>exact VL.cons .map0 .nil
 |map h=>exact VL.cons (.map h) .nil
 |func G hc H O=>exact VL.cons (.func G hc H O) .nil
 |nilFunc=>exact VL.cons .nilFunc .nil
 |iface h=>exact VL.cons (.iface h) .nil
 |nilIface=>exact VL.cons .nilIface .nil
def VR.one{v G:Zj}(h:VR Y φ v G)(H:Zqz v=true):G.oneCell'=true:=by
 cases h<;>first|rfl|(cases H;done)
end
noncomputable def AH.add (h:AH) (v:U7):AH:=.mk (h.sz+1) (Tr.set 13 (AH.rec (motive:=fun _=>Tr) (fun _ t _=>t) h) h.sz v) h.low
def Zbs{α:Type}{h:AH}{v:U7}{f:Nat->AH->Option α}{r:α}(e:h.nw v f=some r):h.sz<=8000/\f h.sz (h.add v)=some r:=by
 cases h with
 |mk n t w =>
  have e:bf (Nat.ble n 8000) (f n (.mk (n+1) (Tr.set 13 t n v) w)) none=some r:=e;obtain⟨h1,G⟩:=Yd.1 e;exact⟨Xjk h1,G⟩
@[simp] theorem Xg6 {h:AH} {v:U7}:(h.add v).sz=h.sz+1:=rfl
@[simp] theorem Xdg {h:AH} {i:Nat} {v:U7}:(h.put i v).sz=h.sz:=by cases h;rfl
@[simp] theorem Zse {h:AH} {w:Nat}:(h.reset w).sz=h.sz:=by cases h;rfl
@[simp] theorem Zmi {h:AH} {w i:Nat}:(h.reset w).gt i=h.gt i:=by cases h;rfl
def Zx7{h:AH}{v:U7}{j:Nat}(G:h.sz<8192:=by omega)(H:j<8192:=by omega):(h.add v).gt j=if h.sz=j then some v else h.gt j:=by
 cases h with
 |mk n t w=>exact Tr.get_set (d:=13) G H
def Zk2{h:AH}{i j:Nat}{v:U7}(G:i<8192:=by omega)(H:j<8192:=by omega):(h.put i v).gt j=if i=j then some v else h.gt j:=by
 cases h with
 |mk n t w=>exact Tr.get_set (d:=13) G H
structure Ze2(Y:Sys)(φ:Qe)(h:Zk)(l:Loc)(cs:Zc)(sz:Nat)(fz:Bool):Prop where
 ex:∃rcs t f,h[l.rb]? = some (.cells rcs t f)/\l.base+cs.length+l.dl * sz<=rcs.size/\(fz=false->f=(0,0))/\(∀o,l.base<=o->o<l.base+cs.length+l.dl * sz->¬(f.1<=o/\o<f.2)) /\
  ∀(i:Nat)(v v':Zj),cs[i]? = some v->rcs[l.base+i]? = some v'->VR Y φ v v'
def EsR(Y:Sys)(φ:Qe)(es es':List MapEntry):Prop:=es.length=es'.length/\∀(i:Nat)(a b:MapEntry),es[i]? = some a->es'[i]? = some b->b.key=a.key/\VR Y φ a.val b.val
def Live(A:AH)(b:Nat):Prop:=∃x,A.gt b=some x/\x≠.dead
structure HR(Y:Sys)(φ:Qe)(A:AH)(h0 h:Zk):Prop where
 sz:A.sz<=8001
 dom:∀b l,φ b=some l->b<A.sz
 fresh:∀b l,φ b=some l->h0.size<=l.rb
 cC:Ext h0 h
 cells:∀b cs sz ex fz,b<A.sz->A.gt b=some (.cells cs sz ex fz)->∃l,φ b=some l/\(ex=true->l.dl=0)/\Ze2 Y φ h l cs sz fz
 maps:∀b es,b<A.sz->A.gt b=some (.map es)->∃l,φ b=some l/\∃es' clock,h[l.rb]? = some (.map es' clock)/\EsR Y φ es es'.toList
 disj:∀b b' l l',b≠b'->φ b=some l->φ b'=some l'->Live A b->Live A b'->l.rb≠l'.rb
section
variable{Y:Sys}{φ φ':Qe}{A:AH}{h0 h:Zk}
def Ze2.mono(p:PLe φ φ'){l:Loc}{cs:Zc}{sz:Nat}{fz:Bool}(c:Ze2 Y φ h l cs sz fz):Ze2 Y φ' h l cs sz fz:=by
 obtain⟨rcs,t,f,a,b,c,d,e⟩:=c.ex;exact⟨rcs,t,f,a,b,c,d,fun i v G h1 H=>(e i v G h1 H).mono p⟩
def Ze2.lt{l:Loc}{cs:Zc}{sz:Nat}{fz:Bool}(c:Ze2 Y φ h l cs sz fz):l.rb<h.size:=by
 obtain⟨rcs,t,f,a,_⟩:=c.ex;exact (Array.getElem?_eq_some_iff.1 a).1
def Ze2.heap{l:Loc}{cs:Zc}{sz:Nat}{fz:Bool}{h':Zk}(c:Ze2 Y φ h l cs sz fz)(e:h'[l.rb]? = h[l.rb]?):Ze2 Y φ h' l cs sz fz:=by
 obtain⟨rcs,t,f,a,r⟩:=c.ex;exact⟨rcs,t,f,by rw[e];exact a,r⟩
def EsR.mono(p:PLe φ φ'){H G:List MapEntry}(e:EsR Y φ H G):EsR Y φ' H G:=⟨e.1,fun i a b h1 I=>⟨(e.2 i a b h1 I).1,(e.2 i a b h1 I).2.mono p⟩⟩
def Qe.add(φ:Qe)(n:Nat)(l:Loc):Qe:=fun b=>if b=n then some l else φ b
def Qe.add_le{n:Nat}{l:Loc}(H:HR Y φ A h0 h)(G:A.sz<=n):PLe φ (φ.add n l):=fun b l' e=>by
 have:=H.dom b l' e;unfold Qe.add;rw[ifN];exact e
def Qe.add_at{n:Nat}{l:Loc}:φ.add n l n=some l:=by simp[Qe.add]
def Z7a{x:Obj}(e:Ext h0 h):Ext h0 (h.push x):=e.trans Mod.push
def HR.alloc(H:HR Y φ A h0 h)(hs:A.sz<=8000){cs:Zc}{sz dl:Nat}{ex fz:Bool}{rcs:Array cR}{t:TypeId}{f:Nat × Nat}(af:ex=true->dl=0)(aa:cs.length+dl * sz<=rcs.size)
  (hf:fz=false->f=(0,0)) (hfz:∀o,o<cs.length+dl * sz->¬(f.1<=o/\o<f.2)) (hv:∀(i:Nat)(v v':Zj),cs[i]? = some v->rcs[i]? = some v'->VR Y φ v v') :
  HR Y (φ.add A.sz ⟨h.size,0,dl⟩) (A.add (.cells cs sz ex fz)) h0 (h.push (.cells rcs t f)):=by
 have p:PLe φ (φ.add A.sz ⟨h.size,0,dl⟩):=Qe.add_le H (Xi4 _);have gt:∀b,b<A.sz+1->(A.add (.cells cs sz ex fz)).gt b=if A.sz=b then some (.cells cs sz ex fz) else A.gt b:=fun b hb=>Zx7
 have ab:∀b,b<h.size->(h.push (.cells rcs t f))[b]? = h[b]? := fun b hb=>by rw[Xmo hb];exact (Xj7 hb).symm
 have lv:∀b l,b≠A.sz->(φ.add A.sz ⟨h.size,0,dl⟩) b=some l->φ b=some l:=fun b l hb e=>by
  unfold Qe.add at e;rwa [if_neg hb] at e
 have G:∀b l,φ b=some l->Live A b->l.rb<h.size:=fun b l e lb=>by
  obtain⟨x,hx,hd⟩:=lb;have hb:=H.dom b l e
  cases x with
  |dead=>exact absurd rfl hd
  |cells cs sz ex fz =>
   obtain⟨l',R,_,c⟩:=H.cells b cs sz ex fz hb hx;rw[e] at R;cases R;exact c.lt
  |map es =>
   obtain⟨l',R,ac,J,hh,_⟩:=H.maps b es hb hx;rw[e] at R;cases R;exact (Array.getElem?_eq_some_iff.1 hh).1
 have I:∀b,b<A.sz->Live (A.add (.cells cs sz ex fz)) b->Live A b:=fun b hb ⟨x,hx,hd⟩=>⟨x,by rwa [gt b (by omega),ifN] at hx,hd⟩
 refine⟨by simp;omega,?_,?_,Z7a H.cC,?_,?_,?_⟩
 ·intro b l e;by_cases c:b=A.sz
  ·subst c;simp
  have:=H.dom b l (lv b l c e);simp;omega
 ·intro b l e;by_cases c:b=A.sz
  ·subst c;rw[Qe.add_at] at e
   cases e
   exact H.cC.size
  exact H.fresh b l (lv b l c e)
 ·intro b ag ah ai aj hb U;simp at hb;rw[gt b hb] at U
  split at U
  ·rename_i e
   cases U
   subst e;refine⟨_,Qe.add_at,af,⟨rcs,t,f,by simp,by simpa using aa,hf,fun o _ ho=>hfz o (by simpa using ho),fun i v v' h1 h2=>(hv i v v' h1 (by simpa using h2)).mono p⟩⟩
  rename_i e;obtain⟨l,e1,e2,e3⟩:=H.cells b ag ah ai aj (by omega) U;exact⟨l,p b l e1,e2,(e3.mono p).heap (ab _ e3.lt)⟩
 ·intro b es hb U;simp at hb;rw[gt b hb] at U
  split at U
  ·cases U
  ·rename_i e;obtain⟨l,e1,ac,J,e2,e3⟩:=H.maps b es (by omega) U;exact⟨l,p b l e1,ac,J,by rw[ab _ (Array.getElem?_eq_some_iff.1 e2).1];exact e2,e3.mono p⟩
 intro b X l l' ad e R lb ae;by_cases c:b=A.sz
 ·subst c;rw[Qe.add_at] at e
  cases e
  have O:=lv X l' (Ne.symm ad) R;have:=G X l' O (I X (H.dom _ _ O) ae);simp only;omega
 by_cases c':X=A.sz
 ·subst c';rw[Qe.add_at] at R
  cases R
  have hb:=lv b l c e;have:=G b l hb (I b (H.dom _ _ hb) lb);simp only;omega
 have hb:=lv b l c e;have O:=lv X l' c' R;exact H.disj b X l l' ad hb O (I b (H.dom _ _ hb) lb) (I X (H.dom _ _ O) ae)
end
section
variable{Y:Sys}{φ φ':Qe}{A A':AH}{h0 h:Zk}
def Z3d:∀(vs:Zc){h:Zk}{H o:Nat}{rcs:Array cR}{t:TypeId}{f:Nat × Nat},h[H]? = some (.cells rcs t f)->o+vs.length<=rcs.size ->
  (∀k,o<=k->k<o+vs.length->¬(f.1<=k/\k<f.2))->(∀v,v∈vs->v.oneCell'=true) ->
  ∃h' G,hst h H o vs=some h'/\h'[H]? = some (.cells G t f)/\G.size=rcs.size/\(∀k,G[k]? = if o<=k/\k<o+vs.length then vs[k-o]? else rcs[k]?)/\(∀j,j≠H->h'[j]? = h[j]?)/\h'.size=h.size:=by
 intro vs
 induction vs with
 |nil =>
  intro h H o rcs t f hb _ _ _;exact⟨h,rcs,rfl,hb,rfl,fun k=>by rw[if_neg (by simp<;>omega)],fun _ _=>rfl,rfl⟩
 |cons v vs R =>
  intro h H o rcs t f hb J hf O;have lo:o<rcs.size:=by simp at J;omega
  have h1:(hc h H o).isSome=true:=by simp[hc,hb,lo]
  have U:hfz h H o=false:=by
   have:=hf o (Xi4 _) (by simp);unfold hfz;rw[hb];obtain⟨f1,f2⟩:=f;simp only at this ⊢;rw[Xk6];intro e;rw[Xjf] at e;simp at e;exact this e
  have X:v.oneCell'=true:=O v (Xlc ..);have I:(Vw h H o v)[H]? = some (.cells (rcs.setIfInBounds o v) t f):=by
   unfold Vw;rw[Xk4];simp[hb]
  obtain⟨h',G,a1,a2,a3,a4,a5,a6⟩:=R I (o:=o+1) (by simp at J ⊢;omega) (fun k k1 k2=>hf k (by omega) (by simp;omega)) (fun u hu=>O u (Xjt _ hu));refine⟨h',G,?_,a2,by simpa using a3,?_,?_,by simpa[Vw] using a6⟩
  ·rw[hst,if_pos (by simp[h1,U,X])];exact a1
  ·intro k;rw[a4 k];by_cases c:o+1<=k/\k<o+1+vs.length
   ·rw[if_pos c,if_pos (by simp;omega)];rw[show k-o=(k-(o+1))+1 by omega];simp
   rw[if_neg c];by_cases c2:k=o
   ·subst c2;rw[if_pos (by simp<;>omega)];simp[lo]
   rw[if_neg (by simp;omega),Array.getElem?_setIfInBounds];rw[ifN]
  intro j hj;rw[a5 j hj];unfold Vw;rw[Xk4];rw[ifN]
def HR.change(H:HR Y φ A h0 h){b:Nat}{l:Loc}(hb:φ b=some l)(G:Live A b){x:U7}{h':Zk}(hx:x≠.dead)
  (I:∀j,j≠l.rb->h'[j]? = h[j]?) (ac:h'.size=h.size)
  (hc:∀cs sz ex fz,x = .cells cs sz ex fz->(ex=true->l.dl=0)/\Ze2 Y φ h' l cs sz fz)
  (hm:∀es,x = .map es->∃U J,h'[l.rb]? = some (.map U J)/\EsR Y φ es U.toList):HR Y φ (A.put b x) h0 h':=by
 have lb:=H.dom b l hb;have hs:=H.sz;have gt:∀j,j<A.sz->(A.put b x).gt j=if b=j then some x else A.gt j:=fun j O=>Zk2
 have aa:∀j,j<A.sz->Live (A.put b x) j->Live A j:=fun j O ⟨y,hy,hd⟩=>by
  rw[gt j O] at hy
  split at hy
  ·rename_i e;subst e;exact G
  exact⟨y,hy,hd⟩
 refine⟨by simpa using H.sz,fun j l' e=>by simpa using H.dom j l' e,H.fresh,?_,?_,?_,?_⟩
 ·refine H.cC.then (S':=fun j=>j=l.rb) ⟨by omega,fun j _ O=>I j O⟩ fun j O e=>?_;have:=H.fresh b l hb;omega
 ·intro j cs sz ex fz O R;simp at O;rw[gt j O] at R
  split at R
  ·rename_i e;subst e
   cases R
   obtain⟨h1,h2⟩:=hc cs sz ex fz rfl;exact⟨l,hb,h1,h2⟩
  rename_i e;obtain⟨l',X,e2,e3⟩:=H.cells j cs sz ex fz O R;exact⟨l',X,e2,e3.heap (I _ (H.disj j b l' l (Ne.symm e) X hb ⟨_,R,by simp⟩ G))⟩
 ·intro j es O R;simp at O;rw[gt j O] at R
  split at R
  ·rename_i e;subst e
   cases R
   exact⟨l,hb,hm es rfl⟩
  rename_i e;obtain⟨l',X,U,J,e2,e3⟩:=H.maps j es O R;exact⟨l',X,U,J,by rw[I _ (H.disj j b l' l (Ne.symm e) X hb ⟨_,R,by simp⟩ G)];exact e2,e3⟩
 intro j j' l1 l2 ab X e2 h1 h2;exact H.disj j j' l1 l2 ab X e2 (aa j (H.dom _ _ X) h1) (aa j' (H.dom _ _ e2) h2)
def Qo{α:Type}{o:Option U7}{f:Zc->Nat->Bool->Bool->Option α}{r:α}(h:onC o f=some r):∃cs sz ex fz,o=some (.cells cs sz ex fz)/\f cs sz ex fz=some r:=by
 obtain⟨x,hx,G⟩:=Yj.1 h
 cases x with
 |cells cs sz ex fz=>exact⟨cs,sz,ex,fz,hx,G⟩
 |dead=>cases G
 |map H=>cases G
def HR.write(H:HR Y φ A h0 h){b o:Nat}{l:Loc}{vs G:Zc}(hb:φ b=some l)(J:A.wr b o vs=some A')(hv:VL Y φ vs G):
  ∃h',hst h l.rb (l.base+o) G=some h'/\HR Y φ A' h0 h':=by
 obtain⟨cs,sz,ex,fz,hg,J⟩:=Qo J;obtain⟨U,hs,J⟩:=Yj.1 J
 cases J
 obtain⟨s1,s2,s3⟩:=Zij hs;have lb:=H.dom b l hb;obtain⟨l',e1,e2,e3⟩:=H.cells b cs sz ex fz lb hg;rw[hb] at e1;cases e1;obtain⟨rcs,t,f,c1,c2,c3,c4,c5⟩:=e3.ex;have lv:=hv.1;have X:∀v,v∈G->v.oneCell'=true:=fun v hm=>by
  obtain⟨i,hi,rfl⟩:=Xju hm;have O:i<vs.length:=by omega
  exact (hv.2 i vs[i] G[i] (by simp[O]) (by simp[hi])).one (s2 _ (Xi7 O))
 obtain⟨h',R,a1,a2,a3,a4,a5,a6⟩:=Z3d G c1 (o:=l.base+o) (by omega) (fun k k1 k2=>c4 k (by omega) (by omega)) X;refine⟨h',a1,H.change hb ⟨_,hg,by simp⟩ (by simp) a5 a6 ?_ (fun es e=>by cases e)⟩;rintro aa ab ac ad ⟨rfl,rfl,rfl,rfl⟩;have ll:U.length=cs.length:=by rw[s3];simp;omega
 refine⟨e2,⟨R,t,f,a2,by rw[ll,a3];exact c2,c3,fun k k1 k2=>c4 k k1 (by rw[ll] at k2;exact k2),fun i v v' h1 I=>?_⟩⟩;rw[a4] at I;rw[s3] at h1;by_cases q1:i<o
 ·rw[ifN] at I;rw[Xje,Xjm (by simp;omega),Xj8,if_pos q1] at h1;exact c5 i v v' h1 I
 by_cases q2:i<o+vs.length
 ·rw[ifP] at I;rw[Xje,Xjv (by simp;omega),Xjm (by simp;omega)] at h1;simp at h1;rw[Xke (by omega)] at h1;rw[show l.base+i-(l.base+o)=i-o by omega] at I;exact hv.2 _ v v' h1 I
 rw[ifN] at I;rw[Xjv (by simp;omega)] at h1;simp at h1;rw[Xke (by omega),show o+vs.length+(i-(o+vs.length))=i by omega] at h1;exact c5 i v v' h1 I
def HR.read(H:HR Y φ A h0 h){b o n:Nat}{l:Loc}{r:Zc}(hb:φ b=some l)(I:A.rd b o n=some r):∃O,rd h l.rb (l.base+o) n=some O/\VL Y φ r O:=by
 obtain⟨cs,sz,ex,fz,hg,I⟩:=Qo I;rw[Zuy] at I;obtain⟨s1,R⟩:=Zm2 I;have lb:=H.dom b l hb;obtain⟨l',U,e2,e3⟩:=H.cells b cs sz ex fz lb hg;rw[hb] at U;cases U;obtain⟨rcs,t,f,c1,c2,c3,c4,c5⟩:=e3.ex;have X:(cs.drop o).length=cs.length-o:=by simp
 refine⟨(rcs.toList.drop (l.base+o)).take n,?_,?_⟩
 ·have hn:n<=(rcs.toList.drop (l.base+o)).length:=by
   simp;omega
  have:=Zbg (h:=h) (b:=l.rb) (l:=(rcs.toList.drop (l.base+o)).take n) (o:=l.base+o) fun i v G=>by
   rw[Xj8] at G
   split at G
   ·rw[Xj4] at G;simp only[hc,c1];simpa using G
   cases G
  rw[Xjw,Xke hn] at this;exact this
 refine⟨by rw[R];simp;omega,fun i v v' h1 J=>?_⟩;rw[R] at h1;rw[Xj8] at h1 J
 split at h1
 ·rename_i G;rw[if_pos G] at J;rw[Xj4] at h1 J;exact c5 (o+i) v v' h1 (by rw[<-Xj5];simpa using J)
 cases h1
def HR.cell1(H:HR Y φ A h0 h){b o:Nat}{l:Loc}{v:Zj}(hb:φ b=some l)(G:A.cell b o=some v):∃I,hc h l.rb (l.base+o)=some I/\VR Y φ v I:=by
 obtain⟨cs,sz,ex,fz,R,G⟩:=Qo G;rw[Z7s] at G;have U:=H.dom b l hb;obtain⟨l',J,e2,e3⟩:=H.cells b cs sz ex fz U R;rw[hb] at J;cases J;obtain⟨rcs,t,f,c1,c2,c3,c4,X⟩:=e3.ex;have ho:o<cs.length:=(List.getElem?_eq_some_iff.1 G).1;have O:l.base+o<rcs.size:=by omega
 exact⟨rcs[l.base+o],by simp[hc,c1,O],X o v _ G (by simp[O])⟩
end
def Vh:cR->Bool
 |.bool _|.int _ _|.string _|.pointer none|.slice none _ _|.map none|.nilFunc|.nilIface=>true
 |_=>false
def Zh4:cR->Bool
 |.agg xs=>xs.toList.all Vh
 |v=>Vh v
section
variable{Y:Sys}{φ:Qe}{A A':AH}{h0 h:Zk}
def Zk7{v:Zj}(h:Vh v=true):VR Y φ v v:=by
 unfold Vh at h
 split at h
 ·exact .bool _
 ·exact .int _ _
 ·exact .string _
 ·exact .ptr0
 ·exact .slc0 _ _
 ·exact .map0
 ·exact .nilFunc
 ·exact .nilIface
 cases h
def U5{l:Zc}(h:l.all Vh=true):VL Y φ l l:=by
 refine⟨rfl,fun i v H h1 G=>?_⟩;rw[h1] at G
 cases G
 exact Zk7 (List.all_eq_true.1 h v (Xmp h1))
def Zgr{v:Zj}(h:Zh4 v=true):VR Y φ v v:=by
 unfold Zh4 at h
 split at h
 ·rename_i xs;have:=VR.arr.1 (U5 (Y:=Y) (φ:=φ) h);exact .agg this.1 this.2
 exact Zk7 h
def Vx{α:Type}{xs:Zc}{f:cR->Option α}{r:α}(h:on1 xs f=some r):∃x,xs=[x]/\f x=some r:=by
 cases xs with
 |nil=>cases h
 |cons x xs=>cases xs with
  |nil=>exact⟨x,rfl,h⟩
  |cons y G=>cases h
def V8{α:Type}{xs:Zc}{f:cR->cR->Option α}{r:α}(h:on2 xs f=some r):∃x y,xs=[x,y]/\f x y=some r:=by
 cases xs with
 |nil=>cases h
 |cons x xs =>
  obtain⟨y,rfl,h⟩:=Vx (show on1 xs (f x)=some r from h);exact⟨x,y,rfl,h⟩
def Zk4{α:Type}{xs:Zc}{f:cR->cR->cR->Option α}{r:α}(h:on3 xs f=some r):∃x y z,xs=[x,y,z]/\f x y z=some r:=by
 cases xs with
 |nil=>cases h
 |cons x xs =>
  obtain⟨y,z,rfl,h⟩:=V8 (show on2 xs (f x)=some r from h);exact⟨x,y,z,rfl,h⟩
def Zb4{α:Type}{n:Nat}{f:Nat->α}:frc n f=f n:=by cases n<;>rfl
def VL.un1{a:Zj}{m:Zc}(h:VL Y φ [a] m):∃b,m=[b]/\VR Y φ a b:=by
 obtain⟨b,l,rfl,h1,G⟩:=h.uncons;rw[G.unnil];exact⟨b,rfl,h1⟩
def VL.un2{a b:Zj}{m:Zc}(h:VL Y φ [a,b] m):∃a' G,m=[a',G]/\VR Y φ a a'/\VR Y φ b G:=by
 obtain⟨a',l,rfl,h1,H⟩:=h.uncons;obtain⟨G,rfl,I⟩:=H.un1;exact⟨a',G,rfl,h1,I⟩
def VL.un3{a b c:Zj}{m:Zc}(h:VL Y φ [a,b,c] m):∃a' G c',m=[a',G,c']/\VR Y φ a a'/\VR Y φ b G/\VR Y φ c c':=by
 obtain⟨a',l,rfl,h1,H⟩:=h.uncons;obtain⟨G,c',rfl,I,h4⟩:=H.un2;exact⟨a',G,c',rfl,h1,I,h4⟩
def VR.i{k:IntKind}{n:Int}{v:Zj}(h:VR Y φ (.int k n) v):v = .int k n:=by cases h;rfl
def VR.b{b:Bool}{v:Zj}(h:VR Y φ (.bool b) v):v = .bool b:=by cases h;rfl
def VR.s{b:ByteArray}{v:Zj}(h:VR Y φ (.string b) v):v = .string b:=by cases h;rfl
def VR.p{b o:Nat}{v:Zj}(h:VR Y φ (.pointer (some ⟨b,o,none⟩)) v):∃l,φ b=some l/\v = .pointer (some ⟨l.rb,l.base+o,none⟩):=by cases h with|ptr h=>exact⟨_,h,rfl⟩
def VR.p0{v:Zj}(h:VR Y φ (.pointer none) v):v = .pointer none:=by cases h;rfl
def VR.ps{a:Addr}{v:Zj}(h:VR Y φ (.pointer (some a)) v):∃b,v = .pointer (some b):=by cases h;exact⟨_,rfl⟩
def VR.c0{n c:Nat}{v:Zj}(h:VR Y φ (.slice none n c) v):v = .slice none n c:=by cases h;rfl
def VR.c{b o n c:Nat}{v:Zj}(h:VR Y φ (.slice (some ⟨b,o,none⟩) n c) v):∃l,φ b=some l/\v = .slice (some ⟨l.rb,l.base+o,none⟩) n (c+l.dl):=by cases h with|slc h=>exact⟨_,h,rfl⟩
def VR.cs{a:Addr}{n c:Nat}{v:Zj}(h:VR Y φ (.slice (some a) n c) v):∃b o c':Nat,v = .slice (some ⟨b,o,none⟩) n c':=by
 cases h with
 |slc h=>exact⟨_,_,_,rfl⟩
 |slcE b o c=>exact⟨_,_,_,rfl⟩
def VR.cn{a:Option Addr}{n c:Nat}{v:Zj}(h:VR Y φ (.slice a n c) v):∃b c',v = .slice b n c'/\b.isNone=a.isNone:=by
 cases h with
 |slc0 n c=>exact⟨_,_,rfl,rfl⟩
 |slc h=>exact⟨_,_,rfl,rfl⟩
 |slcE b o c=>exact⟨_,_,rfl,rfl⟩
def VR.m{r:Nat}{v:Zj}(h:VR Y φ (.map (some r)) v):∃l,φ r=some l/\v = .map (some l.rb):=by cases h with|map h=>exact⟨_,h,rfl⟩
def VR.m0{v:Zj}(h:VR Y φ (.map none) v):v = .map none:=by cases h;rfl
def VR.nI{v:Zj}(h:VR Y φ .nilIface v):v = .nilIface:=by cases h;rfl
def VR.nF{v:Zj}(h:VR Y φ .nilFunc v):v = .nilFunc:=by cases h;rfl
def VR.f{j:Nat}{a c:Array cR}{v:Zj}(h:VR Y φ (.func (.func j) a c) v):∃a' c',v = .func (.func (Y.fid j)) a' c'/\VL Y φ a.toList a'.toList/\VL Y φ c.toList c'.toList:=by
 cases h with|func G hc H I=>exact⟨_,_,rfl,VR.arr.2 ⟨G,H⟩,VR.arr.2 ⟨hc,I⟩⟩
def VR.t{t:Nat}{x v:Zj}(h:VR Y φ (.iface t x) v):∃G,v = .iface (Y.tid t) G/\VR Y φ x G:=by cases h with|iface h=>exact⟨_,rfl,h⟩
def VR.a{xs:Array cR}{v:Zj}(h:VR Y φ (.agg xs) v):∃G,v = .agg G/\VL Y φ xs.toList G.toList:=h.un_agg
def Zhr{a b:Nat}:Nat.beq a b=decide (a=b):=by
 by_cases h:a=b
 ·subst h;simp
 rw[decide_eq_false h]
 cases q:Nat.beq a b with
 |false=>rfl
 |true=>exact absurd (Xi9 q) h
def Za3{a b:Nat}:Nat.ble a b=decide (a<=b):=by
 by_cases h:a<=b
 ·rw[decide_eq_true h];exact Xlf h
 rw[decide_eq_false h]
 cases q:Nat.ble a b with
 |false=>rfl
 |true=>exact absurd (Xjk q) h
def Zq9{a b:IntKind}(h:Znr a b=true):a=b:=by cases a<;>cases b<;>first|rfl|(cases h)
def Zva{a b:Int}:iEq a b=(a == b):=by
 cases a with
 |ofNat x=>cases b with
  |ofNat y =>
   show Nat.beq x y=_;rw[Zhr];by_cases h:x=y
   ·subst h;simp
   have:(Int.ofNat x == Int.ofNat y)=false:=by rw[beq_eq_false_iff_ne];exact fun e=>h (Int.ofNat.inj e)
   rw[this,decide_eq_false h]
  |negSucc y=>show false=_;simp
 |negSucc x=>cases b with
  |ofNat y=>show false=_;simp
  |negSucc y =>
   show Nat.beq x y=_;rw[Zhr];by_cases h:x=y
   ·subst h;simp
   have:(Int.negSucc x == Int.negSucc y)=false:=by rw[beq_eq_false_iff_ne];exact fun e=>h (Int.negSucc.inj e)
   rw[this,decide_eq_false h]
def Xct{a b:Int}:iLe a b=decide (a<=b):=by
 cases a with
 |ofNat x=>cases b with
  |ofNat y=>show Nat.ble x y=_;rw[Za3];apply decide_eq_decide.2;simp
  |negSucc y=>show false=_;symm;rw[decide_eq_false_iff_not];simp;omega
 |negSucc x=>cases b with
  |ofNat y=>show true=_;symm;rw[decide_eq_true_eq];simp;omega
  |negSucc y=>show Nat.ble y x=_;rw[Za3];apply decide_eq_decide.2;omega
def Zd6{α:Type}{p:Prop}[Decidable p]{x y:α}:bf (decide p) x y=if p then x else y:=by
 by_cases h:p<;>simp[h]
def Z85{a b:Int}:Xgi a b=a+b:=by
 cases a with
 |ofNat x=>cases b with
  |ofNat y=>rfl
  |negSucc y =>
   show bf (Nat.ble (y+1) x) (Int.ofNat (x-(y+1))) (Int.negSucc (y-x))=_;rw[Za3,Zd6]
   split<;>(try simp only[Xkg])<;>omega
 |negSucc x=>cases b with
  |ofNat y =>
   show bf (Nat.ble (x+1) y) (Int.ofNat (y-(x+1))) (Int.negSucc (x-y))=_;rw[Za3,Zd6]
   split<;>(try simp only[Xkg])<;>omega
  |negSucc y=>show Int.negSucc (x+y+1)=_;omega
def Xai{a b:Int}:Xfn a b=a-b:=by
 cases a with
 |ofNat x=>cases b with
  |ofNat y =>
   show bf (Nat.ble y x) (Int.ofNat (x-y)) (Int.negSucc (y-x-1))=_;rw[Za3,Zd6]
   split<;>(try simp only[Xkg])<;>omega
  |negSucc y=>show Int.ofNat (x+(y+1))=_;simp only[Xkg];omega
 |negSucc x=>cases b with
  |ofNat y=>show Int.negSucc (x+y)=_;rw[Xkg];omega
  |negSucc y =>
   show bf (Nat.ble x y) (Int.ofNat (y-x)) (Int.negSucc (x-y-1))=_;rw[Za3,Zd6]
   split<;>(try simp only[Xkg])<;>omega
def Zth{k:IntKind}{n:Int}:Zy5 k n=some (.int k (k.wrap n)):=by
 unfold Zy5
 cases G:Xbm k with
 |false=>rfl
 |true =>
  have:k = .i64:=by cases k<;>first|rfl|(cases G)
  subst this;rw[Ql]
  cases n with
  |ofNat a =>
   show bf (Nat.ble a 9223372036854775807) (frc a fun a=>some (Value.int .i64 (.ofNat a))) (some (Value.int .i64 (IntKind.i64.wrap (.ofNat a))))=_;rw[Za3,Zd6]
   split
   ·rw[Zb4,Zn (by simp only[Xkg];omega)]
   rfl
  |negSucc a =>
   show bf (Nat.ble a 9223372036854775807) (frc a fun a=>some (Value.int .i64 (.negSucc a))) (some (Value.int .i64 (IntKind.i64.wrap (.negSucc a))))=_;rw[Za3,Zd6]
   split
   ·rw[Zb4,Zn]
   rfl
def Xb0{b:Bool}:bl b=some (.bool b):=by cases b<;>rfl
def Xdw {op:BinOp} {k H:IntKind} {a b:Int} {v:Zj} (h:ibF op k a H b=some v):Z5 op k a H b=some v:=by
  unfold ibF at h
  split at h
  all_goals first
    | exact h
    | (obtain ⟨h1,G⟩:=Yd.1 h
       have:=Zq9 h1;subst this
       first
         | rw [Zth,Z85] at G
         | rw [Zth,Xai] at G
         | rw [Xb0,Zva] at G
         | rw [Xb0,Xct] at G
       rw [<-G];simp [Z5]
       try first | rfl | (rw [<-decide_not];exact decide_eq_decide.2 (by omega)))
end
def opC:Ym->Bool
 |.build z _ _=>z.toList.all Vh
 |.buildA _ z _=>z.toList.all Vh
 |.lookup _ _ z=>Zh4 z
 |_=>true
section
variable{Y:Sys}{φ:Qe}{A A':AH}{h0 h:Zk}
def Zwd{x:Zj}{xs:Zc}(h:Vg (x::xs)=true):nt x=true/\Vg xs=true:=by
 have h:bf (nt x) (Vg xs) false=true:=h
 cases q:nt x with
 |false=>rw[q] at h;cases h
 |true=>rw[q] at h;exact⟨rfl,h⟩
def Zur:∀{xs G:Zc}{b:Bool},Z9 xs G=some b->∀{H I},VL Y φ xs H->VL Y φ G I->H=xs/\I=G:=by
 intro xs
 induction xs with
 |nil =>
  intro G b e H I h1 J
  cases G with
  |nil=>exact⟨h1.unnil,J.unnil⟩
  |cons y G=>cases e
 |cons x xs O =>
  intro G b e H I h1 J
  cases G with
  |nil=>cases x<;>cases e
  |cons y G =>
   cases x<;>first|(cases e;done)|skip
   cases y<;>first|(cases e;done)|skip
   rename_i k a j c;simp only[Z9] at e
   split at e
   ·simp only[Xi5] at e;obtain⟨d,R,e2⟩:=e;obtain⟨x',l',rfl,U,g2⟩:=h1.uncons;obtain⟨y',m',rfl,X,g4⟩:=J.uncons;obtain⟨r1,r2⟩:=O R g2 g4;rw[U.i,X.i,r1,r2];exact⟨rfl,rfl⟩
   cases e
def Z9q{n:Nat}:∀(vs H:Zc),VL Y φ vs H->∀(k G:Nat)(c c':Array cR),VL Y φ c.toList c'.toList ->
  VL Y φ ((vs.zipIdx k).foldl (fun(cs:Array cR)(x:cR × Nat)=>cs.setIfInBounds (G+x.2) x.1) c).toList ((H.zipIdx k).foldl (fun(cs:Array cR)(x:cR × Nat)=>cs.setIfInBounds (G+x.2) x.1) c').toList:=by
 intro vs
 induction vs with
 |nil=>intro H hv k G c c' hc;rw[hv.unnil];exact hc
 |cons v vs I =>
  intro H hv k G c c' hc;obtain⟨O,l',rfl,h1,J⟩:=hv.uncons;simp only[List.zipIdx_cons,Xk1];refine I l' J (k+1) G _ _ ?_;simp only[Xl7];exact hc.set h1 _
def Zrf{G:Nat->Option (Nat × Nat)}:∀{I:Zd}{xs H:Zc}{c c' cs:Array cR},VL Y φ xs H->Vg xs=true->VL Y φ c.toList c'.toList->Instr.fill G c (I.zip xs)=some cs ->
  ∃J,Instr.fill G c' (I.zip H)=some J/\VL Y φ cs.toList J.toList:=by
 intro I
 induction I with
 |nil =>
  intro xs H c c' cs hx X hc e;simp[Instr.fill] at e;subst e;exact⟨c',by simp[Instr.fill],hc⟩
 |cons i I ih =>
  intro xs H c c' cs hx X hc e
  cases xs with
  |nil =>
   rw[hx.unnil];simp[Instr.fill] at e;subst e;exact⟨c',by simp[Instr.fill],hc⟩
  |cons x xs =>
   obtain⟨x',l',rfl,h1,h2⟩:=hx.uncons;obtain⟨n1,n2⟩:=Zwd X;simp only[Xm0,Instr.fill] at e ⊢
   cases hp:G i with
   |none=>rw[hp] at e;cases e
   |some p =>
    obtain⟨R,aa⟩:=p;rw[hp] at e;have O:=h1.cells n1;have hs:x'.cells.size=x.cells.size:=by simpa using O.1.symm
    have U:c'.size=c.size:=by simpa using hc.1.symm
    simp only[hs,U] at e ⊢
    split at e
    ·cases e
    ·rename_i hq;rw[if_neg hq];refine ih h2 n2 ?_ e;have:=Z9q (n:=0) x.cells.toList x'.cells.toList O 0 R c c' hc;simpa only[<-Array.foldl_toList,Array.toList_zipIdx] using this
end
section
variable{Y:Sys}{φ:Qe}{A A':AH}{h0 h:Zk}
def Qc(Y:Sys)(φ:Qe)(h:Zk)(op:Ym)(xs:Zc)(v:Zj):Prop:=∀xs',VL Y φ xs xs'->∃v',Ym.cK Y h op xs'=some v'/\VR Y φ v v'
def Xa8{op:BinOp}{k j:IntKind}{a b:Int}{v:Zj}(e:Z5 op k a j b=some v):VR Y φ v v:=by
 have:(∃k n,v = .int k n)\/∃b,v = .bool b:=by
  unfold Z5 at e
  split at e
  ·split at e
   ·cases e
   ·cases e;exact .inl ⟨_,_,rfl⟩
  ·split at e
   ·cases e
   ·cases e;exact .inl ⟨_,_,rfl⟩
  split at e
  ·cases e
  ·split at e
   all_goals first
    |(cases e;done)
    |(cases e;first|exact .inl ⟨_,_,rfl⟩|exact .inr ⟨_,rfl⟩)
    |(split at e;(cases e);(cases e;exact .inl ⟨_,_,rfl⟩))
 rcases this with⟨k,n,rfl⟩|⟨b,rfl⟩
 ·exact .int k n
 exact .bool b
def Z9p{op:BinOp}{a b:ByteArray}{v:Zj}(e:Zyb op a b=some v):VR Y φ v v:=by
 have:(∃s,v = .string s)\/∃b,v = .bool b:=by
  unfold Zyb at e
  split at e
  all_goals first
   |(cases e;done)
   |(cases e;first|exact .inl ⟨_,rfl⟩|exact .inr ⟨_,rfl⟩)
   |(split at e;(cases e;exact .inl ⟨_,rfl⟩);(cases e))
 rcases this with⟨s,rfl⟩|⟨b,rfl⟩
 ·exact .string s
 exact .bool b
def Xgb{op:BinOp}{xs:Zc}{v:Zj}(e:on2 xs (Xge op)=some v):Qc Y φ h (.ib op) xs v:=by
 intro I hx;obtain⟨x,y,G,H⟩:=V8 e;clear e;subst G;obtain⟨O,y',rfl,h1,J⟩:=hx.un2
 cases x with
 |int k a =>
  cases y with
  |int j b =>
   have e:=Xdw (show ibF op k a j b=some v from H);rw[h1.i,J.i];exact⟨v,e,Xa8 e⟩
  |_=>cases H
 |_=>cases H
def Xet{op:BinOp}{xs:Zc}{v:Zj}(e:Ym.cK Y0 #[] (.sb op) xs=some v):Qc Y φ h (.sb op) xs v:=by
 intro G hx;rcases xs with _|⟨x,_|⟨y,_|⟨z,r⟩⟩⟩
 ·cases e
 ·cases x<;>cases e
 ·cases x<;>first|(cases e;done)|skip
  cases y<;>first|(cases e;done)|skip
  obtain⟨I,y',rfl,h1,H⟩:=hx.un2;rw[h1.s,H.s];exact⟨v,e,Z9p e⟩
 ·cases x<;>first|(cases e;done)|skip
  cases y<;>cases e
def Xdo{neg:Bool}{xs:Zc}{v:Zj}(e:Ym.cK Y0 #[] (.eqb neg) xs=some v):Qc Y φ h (.eqb neg) xs v:=by
 intro G hx;rcases xs with _|⟨x,_|⟨y,_|⟨z,r⟩⟩⟩
 ·cases e
 ·cases x<;>cases e
 ·cases x<;>first|(cases e;done)|skip
  cases y<;>first|(cases e;done)|skip
  obtain⟨I,y',rfl,h1,H⟩:=hx.un2;rw[h1.b,H.b]
  cases e
  exact⟨_,rfl,.bool _⟩
 ·cases x<;>first|(cases e;done)|skip
  cases y<;>cases e
def Xdp{neg:Bool}{xs:Zc}{v:Zj}(e:Ym.cK Y0 #[] (.eqp neg) xs=some v):Qc Y φ h (.eqp neg) xs v:=by
 intro H hx;rcases xs with _|⟨x,_|⟨y,_|⟨z,r⟩⟩⟩
 ·cases e
 ·cases x<;>first|(cases e;done)|skip
  rename_i a
  cases a<;>cases e
 ·cases x<;>first|(cases e;done)|skip
  rename_i a
  cases a with
  |none =>
   cases y<;>first|(cases e;done)|skip
   rename_i b;obtain⟨I,y',rfl,h1,G⟩:=hx.un2;rw[h1.p0]
   cases e
   cases b with
   |none=>rw[G.p0];exact⟨_,rfl,.bool _⟩
   |some b=>obtain⟨J,rfl⟩:=G.ps;exact⟨_,rfl,.bool _⟩
  |some a =>
   cases y<;>first|(cases e;done)|skip
   rename_i b;obtain⟨I,y',rfl,h1,G⟩:=hx.un2
   cases b with
   |none =>
    obtain⟨a',rfl⟩:=h1.ps;rw[G.p0]
    cases e
    exact⟨_,rfl,.bool _⟩
   |some b=>cases e
 ·cases x<;>first|(cases e;done)|skip
  rename_i a
  cases a<;>cases y<;>first|(cases e;done)|skip
  rename_i b
  cases b<;>cases e
def Xda{neg G:Bool}{xs:Zc}{v:Zj}(e:Ym.cK Y0 #[] (.eqi neg G) xs=some v):Qc Y φ h (.eqi neg G) xs v:=by
 intro I hx;rcases xs with _|⟨x,_|⟨y,_|⟨z,r⟩⟩⟩
 ·cases e
 ·cases x<;>cases e
 ·obtain⟨J,y',rfl,h1,H⟩:=hx.un2
  cases x<;>first|(cases e;done)|skip
  ·cases y<;>first|(cases e;done)|skip
   obtain⟨u,rfl,_⟩:=h1.t;rw[H.nI]
   cases e
   exact⟨_,rfl,.bool _⟩
  ·cases y<;>first|(cases e;done)|skip
   ·obtain⟨u,rfl,_⟩:=H.t;rw[h1.nI]
    cases e
    exact⟨_,rfl,.bool _⟩
   rw[h1.nI,H.nI]
   cases G with
   |false=>cases e
   |true=>cases e;exact⟨_,rfl,.bool _⟩
 cases x<;>first|(cases e;done)|skip
 all_goals (cases y<;>cases e)
def Xcu{neg:Bool}{xs:Zc}{v:Zj}(e:Ym.cK Y0 #[] (.eqs neg) xs=some v):Qc Y φ h (.eqs neg) xs v:=by
 intro H hx;rcases xs with _|⟨x,_|⟨y,_|⟨z,r⟩⟩⟩
 ·cases e
 ·cases x<;>first|(cases e;done)|skip
  rename_i a n c
  cases a<;>cases e
 ·obtain⟨I,y',rfl,h1,G⟩:=hx.un2
  cases x<;>first|(cases e;done)|skip
  rename_i a n c
  cases a with
  |none =>
   cases y<;>first|(cases e;done)|skip
   obtain⟨J,c',rfl,hb⟩:=G.cn;rw[h1.c0]
   cases e
   refine⟨_,rfl,?_⟩;rw[hb];exact .bool _
  |some a =>
   cases y<;>first|(cases e;done)|skip
   rename_i b n' c'
   cases b with
   |none =>
    obtain⟨O,o1,c1,rfl⟩:=h1.cs;rw[G.c0]
    cases e
    exact⟨_,rfl,.bool _⟩
   |some b=>cases e
 cases x<;>first|(cases e;done)|skip
 rename_i a n c
 cases a<;>cases y<;>first|(cases e;done)|skip
 rename_i b _ _
 cases b<;>cases e
def Xc4{neg:Bool}{xs:Zc}{v:Zj}(e:Ym.cK Y0 #[] (.eqf neg) xs=some v):Qc Y φ h (.eqf neg) xs v:=by
 intro H hx;rcases xs with _|⟨x,_|⟨y,_|⟨z,r⟩⟩⟩
 ·cases e
 ·cases x<;>cases e
 ·obtain⟨I,y',rfl,h1,G⟩:=hx.un2
  cases x<;>first|(cases e;done)|skip
  ·cases y<;>first|(cases e;done)|skip
   rw[G.nF]
   cases h1 with
   |func=>cases e;exact⟨_,rfl,.bool _⟩
  ·cases y<;>first|(cases e;done)|skip
   rw[h1.nF,G.nF]
   cases e
   exact⟨_,rfl,.bool _⟩
 cases x<;>first|(cases e;done)|skip
 all_goals (cases y<;>cases e)
def Xc7{neg:Bool}{n:Nat}{xs:Zc}{v:Zj}(e:Ym.cK Y0 #[] (.eqa neg n) xs=some v):Qc Y φ h (.eqa neg n) xs v:=by
 intro G hx;rcases xs with _|⟨x,_|⟨y,_|⟨z,r⟩⟩⟩
 ·cases e
 ·cases x<;>cases e
 ·obtain⟨x',y',rfl,h1,R⟩:=hx.un2
  cases x<;>first|(cases e;done)|skip
  cases y<;>first|(cases e;done)|skip
  rename_i xs U;obtain⟨G,rfl,X⟩:=h1.a;obtain⟨I,rfl,g2⟩:=R.a;have H:=e;simp only[Ym.cK] at H
  split at H
  ·obtain⟨b,e1,e2⟩:=Option.bind_eq_some_iff.1 H;obtain⟨J,O⟩:=Zur e1 X g2;have J:G=xs:=Xjb J;have O:I=U:=Xjb O;rw[J,O];unfold Zax at e2
   cases e2
   exact⟨_,e,.bool _⟩
  cases H
 cases x<;>first|(cases e;done)|skip
 cases y<;>cases e
end
section
variable{Y:Sys}{φ:Qe}{A A':AH}{h0 h:Zk}
def Z7z{xs:Zc}{v:Zj}(e:Ym.cK Y0 #[] .nilck xs=some v):Qc Y φ h .nilck xs v:=by
 intro G hx;rcases xs with _|⟨x,_|⟨y,r⟩⟩
 ·cases e
 ·obtain⟨H,rfl,h1⟩:=hx.un1
  cases x with
  |pointer a =>
   cases a with
   |none=>cases e
   |some a =>
    have e:some (Value.pointer (some a))=some v:=e
    cases e
    cases h1 with
    |ptr hp=>exact⟨_,rfl,.ptr hp⟩
  |iface t u =>
   have e:some (Value.iface t u)=some v:=e
   cases e
   obtain⟨I,rfl,g⟩:=h1.t;exact⟨_,rfl,.iface g⟩
  |func f a c =>
   cases f with
   |func j =>
    have e:some (Value.func (.func j) a c)=some v:=e
    cases e
    obtain⟨a',c',rfl,J,g2⟩:=h1.f;exact⟨_,rfl,h1⟩
   |_=>cases e
  |_=>cases e
 cases x with
 |pointer a=>cases a<;>cases e
 |func f a c=>cases f<;>cases e
 |_=>cases e
def Xfa{op:UnOp}{xs:Zc}{v:Zj}(e:Ym.cK Y0 #[] (.un op) xs=some v):Qc Y φ h (.un op) xs v:=by
 intro G hx;rcases xs with _|⟨x,_|⟨y,r⟩⟩
 ·cases op<;>cases e
 ·obtain⟨H,rfl,h1⟩:=hx.un1
  cases op<;>cases x<;>first|(cases e;done)|skip
  ·rw[h1.i];cases e;exact⟨_,rfl,.int _ _⟩
  rw[h1.b];cases e;exact⟨_,rfl,.bool _⟩
 cases op<;>cases x<;>cases e
def Xaq{k:IntKind}{xs:Zc}{v:Zj}(e:Ym.cK Y0 #[] (.conv k) xs=some v):Qc Y φ h (.conv k) xs v:=by
 intro G hx;rcases xs with _|⟨x,_|⟨y,r⟩⟩
 ·cases e
 ·obtain⟨H,rfl,h1⟩:=hx.un1
  cases x<;>first|(cases e;done)|skip
  rw[h1.i];cases e;exact⟨_,rfl,.int _ _⟩
 cases x<;>cases e
def Xa6{xs:Zc}{v:Zj}(e:Ym.cK Y0 #[] .lenS xs=some v):Qc Y φ h .lenS xs v:=by
 intro G hx;rcases xs with _|⟨x,_|⟨y,r⟩⟩
 ·cases e
 ·obtain⟨H,rfl,h1⟩:=hx.un1
  cases x<;>first|(cases e;done)|skip
  rw[h1.s];cases e;exact⟨_,rfl,.int _ _⟩
 cases x<;>cases e
def Xar{n:Nat}{xs:Zc}{v:Zj}(e:Ym.cK Y0 #[] (.lenA n) xs=some v):Qc Y φ h (.lenA n) xs v:=by
 intro G hx;rcases xs with _|⟨x,_|⟨y,r⟩⟩
 ·cases e
 ·obtain⟨H,rfl,h1⟩:=hx.un1;have e:some (Value.int .i64 n)=some v:=e
  cases e
  exact⟨_,rfl,.int _ _⟩
 cases e
def Xd4{t:Nat}{xs:Zc}{v:Zj}(e:Ym.cK Y0 #[] (.mkI t) xs=some v):Qc Y φ h (.mkI t) xs v:=by
 intro G hx;rcases xs with _|⟨x,_|⟨y,r⟩⟩
 ·cases e
 ·obtain⟨H,rfl,h1⟩:=hx.un1;have e:some (Value.iface t x)=some v:=e
  cases e
  exact⟨_,rfl,.iface h1⟩
 cases e
def Xfs{xs:Zc}{v:Zj}(e:Ym.cK Y0 #[] .mn xs=some v):Qc Y φ h .mn xs v:=by
 intro G hx;rcases xs with _|⟨x,_|⟨y,_|⟨z,r⟩⟩⟩
 ·cases e
 ·cases x<;>cases e
 ·cases x<;>first|(cases e;done)|skip
  cases y<;>first|(cases e;done)|skip
  obtain⟨I,y',rfl,h1,H⟩:=hx.un2;rw[h1.i,H.i];cases e;exact⟨_,rfl,.int _ _⟩
 ·cases x<;>first|(cases e;done)|skip
  cases y<;>cases e
def Xgk{xs:Zc}{v:Zj}(e:Ym.cK Y0 #[] .mx xs=some v):Qc Y φ h .mx xs v:=by
 intro G hx;rcases xs with _|⟨x,_|⟨y,_|⟨z,r⟩⟩⟩
 ·cases e
 ·cases x<;>cases e
 ·cases x<;>first|(cases e;done)|skip
  cases y<;>first|(cases e;done)|skip
  obtain⟨I,y',rfl,h1,H⟩:=hx.un2;rw[h1.i,H.i];cases e;exact⟨_,rfl,.int _ _⟩
 ·cases x<;>first|(cases e;done)|skip
  cases y<;>cases e
def Z88{xs:Zc}{v:Zj}(e:Ym.cK Y0 #[] .cntS xs=some v):Qc Y φ h .cntS xs v:=by
 intro G hx;rcases xs with _|⟨x,_|⟨y,_|⟨z,r⟩⟩⟩
 ·cases e
 ·cases x<;>cases e
 ·cases x with
  |string s=>cases y with
   |int k n=>cases k with
    |u8 =>
     obtain⟨I,y',rfl,h1,H⟩:=hx.un2;rw[h1.s,H.i];cases e;exact⟨_,rfl,.int _ _⟩
    |_=>cases e
   |_=>cases e
  |_=>cases e
 ·cases x with
  |string s=>cases y with
   |int k n=>cases k<;>cases e
   |_=>cases e
  |_=>cases e
def Z7p{xs:Zc}{v:Zj}(e:Ym.cK Y0 #[] .idxBS xs=some v):Qc Y φ h .idxBS xs v:=by
 intro G hx;rcases xs with _|⟨x,_|⟨y,_|⟨z,r⟩⟩⟩
 ·cases e
 ·cases x<;>cases e
 ·cases x with
  |string s=>cases y with
   |int k n=>cases k with
    |u8 =>
     obtain⟨I,y',rfl,h1,H⟩:=hx.un2;rw[h1.s,H.i];cases e;exact⟨_,rfl,.int _ _⟩
    |_=>cases e
   |_=>cases e
  |_=>cases e
 ·cases x with
  |string s=>cases y with
   |int k n=>cases k<;>cases e
   |_=>cases e
  |_=>cases e
def Z9l{xs:Zc}{v:Zj}(e:Ym.cK Y0 #[] .idxS xs=some v):Qc Y φ h .idxS xs v:=by
 intro G hx;rcases xs with _|⟨x,_|⟨y,_|⟨z,r⟩⟩⟩
 ·cases e
 ·cases x<;>cases e
 ·cases x<;>first|(cases e;done)|skip
  cases y<;>first|(cases e;done)|skip
  obtain⟨I,y',rfl,h1,H⟩:=hx.un2;rw[h1.s,H.i];refine⟨v,e,?_⟩;simp only[Ym.cK] at e
  split at e
  ·obtain⟨b,_,e⟩:=Option.bind_eq_some_iff.1 e
   cases e
   exact .int _ _
  cases e
 ·cases x<;>first|(cases e;done)|skip
  cases y<;>cases e
def Z9n{n sz:Nat}{xs:Zc}{v:Zj}(e:Ym.cK Y0 #[] (.idxA n sz) xs=some v):Qc Y φ h (.idxA n sz) xs v:=by
 intro G hx;rcases xs with _|⟨x,_|⟨y,_|⟨z,r⟩⟩⟩
 ·cases e
 ·cases x with
  |pointer a=>cases a with
   |none=>cases e
   |some a=>obtain⟨b,o,s⟩:=a;cases s<;>cases e
  |_=>cases e
 ·cases x with
  |pointer a=>cases a with
   |none=>cases e
   |some a =>
    obtain⟨b,o,s⟩:=a
    cases s with
    |some s=>cases e
    |none =>
     cases y<;>first|(cases e;done)|skip
     obtain⟨J,y',rfl,h1,H⟩:=hx.un2;obtain⟨l,I,rfl⟩:=h1.p;rw[H.i];simp only[Ym.cK] at e ⊢
     split at e
     ·rename_i hc
      cases e
      rw[if_pos hc];exact⟨_,rfl,by rw[Xj5];exact .ptr I⟩
     cases e
  |_=>cases e
 ·cases x with
  |pointer a=>cases a with
   |none=>cases e
   |some a =>
    obtain⟨b,o,s⟩:=a
    cases s with
    |some s=>cases e
    |none=>cases y<;>cases e
  |_=>cases e
def VL.extract{xs G:Array cR}(h:VL Y φ xs.toList G.toList)(a b:Nat):VR Y φ (.agg (xs.extract a b)) (.agg (G.extract a b)):=by
 have g:VL Y φ (xs.extract a b).toList (G.extract a b).toList:=by
  simp only[Array.toList_extract,List.extract_eq_take_drop];exact (h.drop a).take _
 have:=VR.arr.1 g;exact .agg this.1 this.2
def Zy8{sz G:Nat}{agg:Bool}{xs H:Array cR}{v:Zj}(h:VL Y φ xs.toList H.toList)(e:Zam sz agg xs G=some v):∃I,Zam sz agg H G=some I/\VR Y φ v I:=by
 unfold Zam at e ⊢
 cases agg with
 |true =>
  simp only[if_true] at e ⊢
  cases e
  exact⟨_,rfl,h.extract _ _⟩
 |false =>
  simp only[Xjh,if_false] at e ⊢;obtain⟨I,a,b⟩:=h.get (show xs.toList[G]? = some v by simpa using e);exact⟨I,by simpa using a,b⟩
def Xdh{G sz:Nat}{agg:Bool}{xs:Zc}{v:Zj}(e:Ym.cK Y0 #[] (.fld G sz agg) xs=some v):Qc Y φ h (.fld G sz agg) xs v:=by
 intro H hx;rcases xs with _|⟨x,_|⟨y,r⟩⟩
 ·cases e
 ·obtain⟨I,rfl,h1⟩:=hx.un1
  cases x<;>first|(cases e;done)|skip
  obtain⟨J,rfl,g⟩:=h1.a;exact Zy8 g e
 cases x<;>cases e
def Z9j{n sz:Nat}{agg:Bool}{xs:Zc}{v:Zj}(e:Ym.cK Y0 #[] (.idxV n sz agg) xs=some v):Qc Y φ h (.idxV n sz agg) xs v:=by
 intro G hx;rcases xs with _|⟨x,_|⟨y,_|⟨z,r⟩⟩⟩
 ·cases e
 ·cases x<;>cases e
 ·cases x<;>first|(cases e;done)|skip
  cases y<;>first|(cases e;done)|skip
  obtain⟨I,y',rfl,h1,H⟩:=hx.un2;obtain⟨J,rfl,g⟩:=h1.a;rw[H.i];simp only[Ym.cK] at e ⊢
  split at e
  ·rename_i hc;rw[if_pos hc];exact Zy8 g e
  cases e
 ·cases x<;>first|(cases e;done)|skip
  cases y<;>cases e
def Zyu{n c:Nat}{lo H:Bool}{xs G:Zc}{r:Nat × Nat}(e:W8 n c lo H xs=some r)(hx:VL Y φ xs G):G=xs:=by
 cases lo<;>cases H
 ·rcases xs with _|⟨x,r⟩
  ·exact hx.unnil
  cases e
 ·rcases xs with _|⟨x,_|⟨y,r⟩⟩
  ·cases e
  ·cases x<;>first|(cases e;done)|skip
   obtain⟨I,rfl,h1⟩:=hx.un1;rw[h1.i]
  ·cases x<;>cases e
 ·rcases xs with _|⟨x,_|⟨y,r⟩⟩
  ·cases e
  ·cases x<;>first|(cases e;done)|skip
   obtain⟨I,rfl,h1⟩:=hx.un1;rw[h1.i]
  ·cases x<;>cases e
 rcases xs with _|⟨x,_|⟨y,_|⟨z,r⟩⟩⟩
 ·cases e
 ·cases x<;>cases e
 ·cases x<;>first|(cases e;done)|skip
  cases y<;>first|(cases e;done)|skip
  obtain⟨I,y',rfl,h1,J⟩:=hx.un2;rw[h1.i,J.i]
 ·cases x<;>first|(cases e;done)|skip
  cases y<;>cases e
def Z8x{lo G:Bool}{xs:Zc}{v:Zj}(e:Ym.cK Y0 #[] (.slcS lo G) xs=some v):Qc Y φ h (.slcS lo G) xs v:=by
 intro I hx;rcases xs with _|⟨x,r⟩
 ·cases e
 ·cases x<;>first|(cases e;done)|skip
  obtain⟨R,U,rfl,h1,J⟩:=hx.uncons;have H:=e;simp only[Ym.cK] at H;obtain⟨z,O,e2⟩:=Option.bind_eq_some_iff.1 H;rw[h1.s,Zyu O J]
  cases e2
  exact⟨_,e,.string _⟩
def Z40{z:Array cR}{G:List (Nat × Nat)}{H:Zd}{xs:Zc}{v:Zj}(hz:z.toList.all Vh=true)(O:Vg xs=true)(e:Ym.cK Y0 #[] (.build z G H) xs=some v):Qc Y φ h (.build z G H) xs v:=by
 intro I hx;have e:(Instr.fill (fun i=>G[i]?) z (H.zip xs)).bind (fun cs=>some (Value.agg cs))=some v:=e;obtain⟨cs,R,e2⟩:=Option.bind_eq_some_iff.1 e
 cases e2
 obtain⟨J,U,g2⟩:=Zrf hx O (U5 (Y:=Y) (φ:=φ) hz) R;have:=VR.arr.1 g2;refine⟨.agg J,?_,.agg this.1 this.2⟩;show (Instr.fill (fun i=>G[i]?) z (H.zip I)).bind (fun cs=>some (Value.agg cs))=_;rw[U];rfl
def Z1k{sz:Nat}{z:Array cR}{G:Zd}{xs:Zc}{v:Zj}(hz:z.toList.all Vh=true)(J:Vg xs=true)(e:Ym.cK Y0 #[] (.buildA sz z G) xs=some v):Qc Y φ h (.buildA sz z G) xs v:=by
 intro H hx;have e:(Instr.fill (fun i=>some (i * sz,sz)) z (G.zip xs)).bind (fun cs=>some (Value.agg cs))=some v:=e;obtain⟨cs,O,e2⟩:=Option.bind_eq_some_iff.1 e
 cases e2
 obtain⟨I,R,g2⟩:=Zrf hx J (U5 (Y:=Y) (φ:=φ) hz) O;have:=VR.arr.1 g2;refine⟨.agg I,?_,.agg this.1 this.2⟩;show (Instr.fill (fun i=>some (i * sz,sz)) z (G.zip H)).bind (fun cs=>some (Value.agg cs))=_;rw[R];rfl
def Xd5{f k:Nat}{xs:Zc}{v:Zj}(e:Ym.cK Y0 #[] (.mkf f k) xs=some v):Qc Y φ h (.mkf f k) xs v:=by
 intro G hx;have e:some (Value.func (.func f) (xs.take k).toArray (xs.drop k).toArray)=some v:=e
 cases e
 refine⟨.func (.func (Y.fid f)) (G.take k).toArray (G.drop k).toArray,rfl,?_⟩;have H:=VR.arr.1 (show VL Y φ (xs.take k).toArray.toList (G.take k).toArray.toList by simpa using hx.take k);have g2:=VR.arr.1 (show VL Y φ (xs.drop k).toArray.toList (G.drop k).toArray.toList by simpa using hx.drop k);exact .func H.1 g2.1 H.2 g2.2
end
section
variable{Y:Sys}{φ:Qe}{A A':AH}{h0 h:Zk}
def Xfh{xs:Zc}{v:Zj}(e:on1 xs some=some v):Qc Y φ h .mv xs v:=by
 intro G hx;obtain⟨x,rfl,e⟩:=Vx e
 cases e
 obtain⟨H,rfl,h1⟩:=hx.un1;exact⟨H,rfl,h1⟩
def Z9d{xs:Zc}{v:Zj}(e:on3 xs Z71=some v):Qc Y φ h .pick xs v:=by
 intro G hx;obtain⟨x,y,z,rfl,e⟩:=Zk4 e;obtain⟨O,y',H,rfl,h1,I,J⟩:=hx.un3
 cases x with
 |bool c =>
  rw[h1.b]
  cases c with
  |true=>cases e;exact⟨y',rfl,I⟩
  |false=>cases e;exact⟨H,rfl,J⟩
 |_=>cases e
def Zdq{α:Type}{v:Zj}{f:Nat->Nat->Option α}{r:α}(e:onP v f=some r):∃b o,v = .pointer (some ⟨b,o,none⟩)/\f b o=some r:=by
 unfold onP at e
 split at e
 ·exact⟨_,_,rfl,e⟩
 cases e
def Xbc{G:Nat}{xs:Zc}{v:Zj}(I:on1 xs (Z31 G)=some v):Qc Y φ h (.fadr G) xs v:=by
 intro J hx;obtain⟨x,H,O⟩:=Vx I;subst H;obtain⟨U,rfl,h1⟩:=hx.un1;obtain⟨b,o,hp,e⟩:=Zdq (show onP x _=some v from O);subst hp;rw[Zb4] at e
 cases e
 obtain⟨l,R,rfl⟩:=h1.p;exact⟨_,rfl,by rw[Xj5];exact .ptr R⟩
def Z9h{sz:Nat}{xs:Zc}{v:Zj}(H:on2 xs (Zw3 sz)=some v):Qc Y φ h (.idxa sz) xs v:=by
 intro I hx;obtain⟨x,y,G,e⟩:=V8 H;subst G;clear H;obtain⟨U,y',rfl,h1,J⟩:=hx.un2;unfold Zw3 at e
 split at e
 ·rename_i b o n c k i;obtain⟨l,O,rfl⟩:=h1.c;rw[J.i];obtain⟨R,e2⟩:=Yd.1 e;rw[Zb4] at e2
  cases e2
  have X:=Xjk R;refine⟨.pointer (some ⟨l.rb,l.base+(o+i * sz),none⟩),?_,.ptr O⟩;simp only[Ym.cK];rw[if_pos (by simp only[Xkg];omega),Xj5]
  rfl
 cases e
def Xcn{xs:Zc}{v:Zj}(e:on1 xs Xb3=some v):Qc Y φ h .len xs v:=by
 intro G hx;obtain⟨x,rfl,e⟩:=Vx e;obtain⟨H,rfl,h1⟩:=hx.un1
 cases x with
 |slice a n c =>
  cases e
  obtain⟨b,c',rfl,_⟩:=h1.cn;exact⟨_,rfl,.int _ _⟩
 |_=>cases e
def Xcb{i:Nat}{xs:Zc}{v:Zj}(e:on1 xs (Xbn i)=some v):Qc Y φ h (.cC i) xs v:=by
 intro G hx;obtain⟨x,rfl,e⟩:=Vx e;obtain⟨R,rfl,h1⟩:=hx.un1
 cases x with
 |tuple vs =>
  have e:lgo vs.toList i=some v:=e;rw[Z7s] at e
  cases h1 with
  |tuple H I =>
   obtain⟨J,O,g2⟩:=(VR.arr.2 ⟨H,I⟩).get e;exact⟨J,by simpa[Ym.cK] using O,g2⟩
 |_=>cases e
def Xaz{sz:Nat}{agg:Bool}(H:HR Y φ A h0 h){xs:Zc}{v:Zj}(e:bf agg (on1 xs (Zpu A sz)) (on1 xs fun v=>onP v fun b o=>A.cell b o)=some v):Qc Y φ h (.load sz agg) xs v:=by
 intro J hx
 cases agg with
 |true =>
  obtain⟨x,rfl,e⟩:=Vx (show on1 xs (Zpu A sz)=some v from e);obtain⟨O,rfl,h1⟩:=hx.un1;obtain⟨b,o,rfl,e⟩:=Zdq (show onP x _=some v from e);obtain⟨r,R,e2⟩:=Yj.1 e
  cases e2
  obtain⟨l,G,rfl⟩:=h1.p;obtain⟨U,I,g2⟩:=H.read G R;exact⟨.agg U.toArray,by simp[Ym.cK,I],VR.agg' g2⟩
 |false =>
  obtain⟨x,rfl,e⟩:=Vx (show on1 xs _=some v from e);obtain⟨O,rfl,h1⟩:=hx.un1;obtain⟨b,o,rfl,e⟩:=Zdq e;obtain⟨l,G,rfl⟩:=h1.p;obtain⟨X,I,g2⟩:=H.cell1 G e;exact⟨X,by simpa[Ym.cK] using I,g2⟩
def Xb4{b o c:Nat}:VR Y φ E0 (.slice (some ⟨b,o,none⟩) 0 c):=.slcE b o c
def Zon{n c d:Nat}{lo G:Bool}{xs:Zc}{r:Nat × Nat}(e:W8 n c lo G xs=some r)(H:n<=c\/G=true\/True):W8 n (c+d) lo G xs=some r:=by
 cases lo<;>cases G
 ·rcases xs with _|⟨x,q⟩
  ·exact e
  cases e
 ·rcases xs with _|⟨x,_|⟨y,q⟩⟩
  ·cases e
  ·cases x<;>first|(cases e;done)|skip
   simp only[W8] at e ⊢
   split at e
   ·rename_i hb
    cases e
    rw[ifP]
   cases e
  ·cases x<;>cases e
 ·rcases xs with _|⟨x,_|⟨y,q⟩⟩
  ·cases e
  ·cases x<;>first|(cases e;done)|skip
   exact e
  ·cases x<;>cases e
 rcases xs with _|⟨x,_|⟨y,_|⟨z,q⟩⟩⟩
 ·cases e
 ·cases x<;>cases e
 ·cases x<;>first|(cases e;done)|skip
  cases y<;>first|(cases e;done)|skip
  simp only[W8] at e ⊢
  split at e
  ·rename_i hb
   cases e
   rw[ifP]
  cases e
 ·cases x<;>first|(cases e;done)|skip
  cases y<;>cases e
def Zn5{n:Nat}{lo G:Bool}{xs:Zc}{r:Nat × Nat}{c:Nat}(e:W8 n c lo G xs=some r)(H:n<=c):r.1<=r.2/\r.2<=c:=by
 cases lo<;>cases G
 ·rcases xs with _|⟨x,q⟩
  ·cases e;exact⟨Xle _,H⟩
  ·cases e
 ·rcases xs with _|⟨x,_|⟨y,q⟩⟩
  ·cases e
  ·cases x<;>first|(cases e;done)|skip
   simp only[W8] at e
   split at e
   ·cases e;simp only;omega
   ·cases e
  ·cases x<;>cases e
 ·rcases xs with _|⟨x,_|⟨y,q⟩⟩
  ·cases e
  ·cases x<;>first|(cases e;done)|skip
   simp only[W8] at e
   split at e
   ·cases e;simp only;omega
   ·cases e
  ·cases x<;>cases e
 rcases xs with _|⟨x,_|⟨y,_|⟨z,q⟩⟩⟩
 ·cases e
 ·cases x<;>cases e
 ·cases x<;>first|(cases e;done)|skip
  cases y<;>first|(cases e;done)|skip
  simp only[W8] at e
  split at e
  ·cases e;simp only;omega
  ·cases e
 ·cases x<;>first|(cases e;done)|skip
  cases y<;>cases e
def Z37{n c:Nat}{lo G:Bool}{xs:Zc}{r:Nat × Nat}(e:W8 n c lo G xs=some r)(hz:¬r.1+1<=c)(H:n<=c):r.2-r.1=0:=by
 have:=Zn5 e H;omega
def Xd0{sz:Nat}{lo X:Bool}(H:HR Y φ A h0 h){xs:Zc}{v:Zj}(J:Xby A sz lo X xs=some v):Qc Y φ h (.slc sz lo X) xs v:=by
 intro ac hx;rcases xs with _|⟨x,r⟩
 ·cases J
 obtain⟨x',r',rfl,h1,h2⟩:=hx.uncons
 cases x with
 |slice a n c =>
  obtain⟨I,J⟩:=Yd.1 (show bf (Nat.ble n c) (ob (W8 n c lo X r) fun x=>Z5f A sz a n c x) none=some v from J);have I:=Xjk I;obtain⟨z,O,e⟩:=Yj.1 J;clear J;rw[Zyu O h2]
  cases a with
  |none =>
   cases e
   rw[h1.c0];exact⟨.slice none (z.2-z.1) (c-z.1),by simp[Ym.cK,O],.slc0 _ _⟩
  |some ad =>
   obtain⟨b,o,s⟩:=ad
   cases s with
   |none =>
    obtain⟨l,U,rfl⟩:=h1.c;have G:=Zon (d:=l.dl) O (.inr (.inr trivial));obtain⟨cs,aa,ex,fz,hg,e⟩:=Qo e;obtain⟨l',R,ab,_⟩:=H.cells b cs aa ex fz (H.dom b l U) hg;rw[U] at R;cases R;simp only[Ym.cK,G,Xjq];by_cases hz:z.1+1<=c
    ·have hb:Nat.ble (Nat.succ z.1) c=true:=Xlf hz;rw[hb,Bool.true_or,Ql,Zb4] at e
     cases e
     rw[Zhr,Zd6,ifN,ifN];refine⟨_,rfl,?_⟩;have:=VR.slc (Y:=Y) (o:=o+z.1 * sz) (n:=z.2-z.1) (c:=c-z.1) U;rw[show l.base+o+z.1 * sz=l.base+(o+z.1 * sz) by omega,show c+l.dl-z.1=c-z.1+l.dl by omega];exact this
    have hb:Nat.ble (Nat.succ z.1) c=false:=by rw[Za3];exact decide_eq_false hz
    rw[hb,Bool.false_or] at e
    cases ex with
    |true =>
     have hd:=ab rfl;rw[Ql,Zb4] at e
     cases e
     rw[Zhr,Zd6];have:=VR.slc (Y:=Y) (o:=if c=z.1 then o else o+z.1 * sz) (n:=z.2-z.1) (c:=c-z.1) U;refine⟨_,rfl,?_⟩;rw[hd] at this ⊢;simp only[Nat.add_zero] at this ⊢;have e2:l.base+(if c=z.1 then o else o+z.1 * sz)=if c=z.1 then l.base+o else l.base+o+z.1 * sz:=by split<;>omega
     rw[e2] at this;exact this
    |false =>
     cases e
     rw[Z37 O hz I];exact⟨_,rfl,Xb4⟩
   |some s =>
    cases e
    cases h1 with
    |slcE b' o' c' =>
     have G:=Zon (d:=c') O (.inr (.inr trivial));rw[Xjs] at G;have:=Zn5 O (Xi4 _);simp only[Ym.cK,G,Xjq];rw[show z.2-z.1=0 by omega];exact⟨_,rfl,Xb4⟩
 |_=>cases J
end
section
variable{Y:Sys}{φ:Qe}{A A':AH}{h0 h:Zk}
def Z2g:∀{l:Zc}{s:List UInt8}{l':Zc},Zcc l=some s->VL Y φ l l'->l'=l:=by
 intro l
 induction l with
 |nil=>intro s l' _ hx;exact hx.unnil
 |cons v l G =>
  intro s l' e hx;obtain⟨J,O,rfl,h1,H⟩:=hx.uncons
  cases v with
  |int k n =>
   cases k with
   |u8 =>
    obtain⟨q,I,_⟩:=Option.bind_eq_some_iff.1 (show (Zcc l).bind _=some s from e);rw[h1.i,G I H]
   |_=>cases e
  |_=>cases e
def Xd6(H:HR Y φ A h0 h){xs:Zc}{v:Zj}(I:on1 xs (Xfz A)=some v):Qc Y φ h .b2s xs v:=by
 intro O hx;obtain⟨x,G,e⟩:=Vx I;subst G;clear I;obtain⟨x',rfl,h1⟩:=hx.un1
 cases x with
 |slice a n c =>
  cases a with
  |none=>cases e;rw[h1.c0];exact⟨_,rfl,.string _⟩
  |some R =>
   obtain⟨b,o,s⟩:=R
   cases s with
   |none =>
    obtain⟨l,U,e⟩:=Yj.1 (show ob (A.rd b o n) (fun l=>ob (Zcc l) fun s=>some (.string ⟨s.toArray⟩))=some v from e);obtain⟨s,e2,e3⟩:=Yj.1 e
    cases e3
    obtain⟨lc,X,rfl⟩:=h1.c;obtain⟨r',J,g2⟩:=H.read X U;rw[Z2g e2 g2] at J;exact⟨_,by simp[Ym.cK,J,e2],.string _⟩
   |some s=>cases e
 |_=>cases e
def Xdk(H:HR Y φ A h0 h){xs:Zc}{v:Zj}(O:on1 xs (Xe1 A)=some v):Qc Y φ h .cap xs v:=by
 intro U hx;obtain⟨x,I,e⟩:=Vx O;subst I;clear O;obtain⟨x',rfl,h1⟩:=hx.un1
 cases x with
 |slice a n c =>
  cases a with
  |none=>cases e;rw[h1.c0];exact⟨_,rfl,.int _ _⟩
  |some X =>
   obtain⟨b,o,s⟩:=X
   cases s with
   |none =>
    obtain⟨cs,sz,ex,fz,hg,e⟩:=Qo (show onC (A.gt b) (fun _ _ ex _=>bf ex (some (.int .i64 (.ofNat c))) none)=some v from e);obtain⟨l,R,rfl⟩:=h1.c;obtain⟨l',G,J,_⟩:=H.cells b cs sz ex fz (H.dom b l R) hg;rw[R] at G;cases G;obtain⟨e1,e2⟩:=Yd.1 e
    cases e2
    exact⟨_,rfl,by rw[J e1];exact .int _ _⟩
   |some s=>cases e
 |_=>cases e
def Z91{sz:Nat}{xs:Zc}{v:Zj}(e:Z5j xs=some v):Qc Y φ h (.slc3 sz) xs v:=by
 intro J hx;unfold Z5j at e
 split at e
 rotate_left
 ·cases e
 rename_i a n c k1 l k2 i k3 m;obtain⟨x1,r1,rfl,h1,O⟩:=hx.uncons;obtain⟨x2,x3,x4,rfl,R,U,h4⟩:=O.un3;rw[R.i,U.i,h4.i];obtain⟨G,e⟩:=Yd.1 e;obtain⟨H,e⟩:=Yd.1 e;obtain⟨I,e⟩:=Yd.1 e;have G:=Xjk G;have H:=Xjk H;have I:=Xjk I
 cases a with
 |none =>
  cases e
  rw[h1.c0];simp only[Ym.cK];rw[if_pos (by simp only[Xkg];omega)];exact⟨_,rfl,.any _⟩
 |some X =>
  obtain⟨b,o,s⟩:=X
  cases s with
  |none =>
   cases e
   obtain⟨lc,hl,rfl⟩:=h1.c;simp only[Ym.cK];rw[if_pos (by simp only[Xkg];omega)];exact⟨_,rfl,.any _⟩
  |some s=>cases e
def Zoq(H:HR Y φ A h0 h){r:Option Nat}{J:List MapEntry}{R:Zj}(e:Z2d A r=some J)(hx:VR Y φ (.map r) R):
  ∃U G,R = .map U/\We h U=some G/\EsR Y φ J G:=by
 cases r with
 |none =>
  cases e
  rw[hx.m0];exact⟨none,[],rfl,rfl,rfl,fun i a b h=>by simp at h⟩
 |some r =>
  obtain⟨x,hg,e⟩:=Yj.1 (show ob (A.gt r) _=some J from e)
  cases x with
  |map G =>
   cases e
   obtain⟨l,X,rfl⟩:=hx.m;obtain⟨l',I,G,O,g1,g2⟩:=H.maps r J (H.dom r l X) hg;rw[X] at I;cases I;exact⟨some l.rb,G.toList,rfl,by simp[We,g1],g2⟩
  |_=>cases e
def EsR.uncons{a:MapEntry}{H m:List MapEntry}(e:EsR Y φ (a::H) m):∃b G,m=b::G/\b.key=a.key/\VR Y φ a.val b.val/\EsR Y φ H G:=by
 cases m with
 |nil=>cases e.1
 |cons b G =>
  have:=e.2 0 a b rfl rfl;exact⟨b,G,rfl,this.1,this.2,by simpa using e.1,fun i x y h1 I=>e.2 (i+1) x y (by simpa using h1) (by simpa using I)⟩
def Zph{I:Option Nat}{key:Zj}:∀{H G:List MapEntry}{i:Nat}{a:Option (Nat × cR)},EsR Y φ H G->Uf I key H i=some a ->
  ∃a',Uf I key G i=some a'/\((a=none/\a'=none)\/∃j v J,a=some (j,v)/\a'=some (j,J)/\VR Y φ v J):=by
 intro H
 induction H with
 |nil =>
  intro G i a h e;have:G=[]:=Xjr h.1.symm;subst this
  cases e
  exact⟨none,rfl,.inl ⟨rfl,rfl⟩⟩
 |cons x H O =>
  intro G i a h e;obtain⟨b,G,rfl,h1,R,U⟩:=h.uncons;simp only[Uf,h1] at e ⊢
  split at e
  ·rename_i X
   cases e
   exact⟨_,rfl,.inr ⟨_,_,_,rfl,rfl,R⟩⟩
  ·exact O U e
  cases e
def Zkv{O:Option Nat}{key G:Zj}(e:Zb3 O key=true)(hx:VR Y φ key G):G=key:=by
 cases key with
 |int k n=>exact hx.i
 |agg xs =>
  obtain⟨I,rfl,g⟩:=hx.a;have H:xs.toList.all Zvo=true:=by
   simp only[Zb3] at e
   split at e
   ·rw[Xjf] at e;exact e.2
   cases e
  have:I=xs:=by
   apply Xjb;apply Xjp g.1.symm;intro i h1 J;have:=List.all_eq_true.1 H xs.toList[i] (Xi7 J);have q:=g.2 i xs.toList[i] I.toList[i] (Xj3 J) (Xj3 h1)
   cases hv:xs.toList[i] with
   |int k n=>rw[hv] at q;exact q.i
   |_=>rw[hv] at this;cases this
  rw[this]
 |_=>cases e
def Xfl{a a' b G:Zj}(h1:VR Y φ a a')(H:VR Y φ b G):VR Y φ (.tuple #[a,b]) (.tuple #[a',G]):=by
 have:=VR.arr.1 (show VL Y φ (#[a,b]:Array cR).toList (#[a',G]:Array cR).toList from VL.cons h1 (VL.cons H .nil));exact .tuple this.1 this.2
def Z11{G:Option Nat}{ok:Bool}{zero:Zj}(hz:Zh4 zero=true)(H:HR Y φ A h0 h){xs:Zc}{v:Zj}(J:on2 xs (Xbu A G ok zero)=some v):Qc Y φ h (.lookup G ok zero) xs v:=by
 intro U hx;obtain⟨x,y,I,e⟩:=V8 J;subst I;clear J;obtain⟨x',y',rfl,h1,X⟩:=hx.un2
 cases x with
 |map r =>
  obtain⟨O,e⟩:=Yd.1 (show bf (Zb3 G y) _ none=some v from e);obtain⟨es,e2,e⟩:=Yj.1 e;obtain⟨a,e3,e⟩:=Yj.1 e;obtain⟨r',aa,rfl,g1,g2⟩:=Zoq H e2 h1;rw[Zkv O X];obtain⟨a',g3,g4⟩:=Zph g2 e3;simp only[Ym.cK,Zgc,O,if_true,g1,Xjq,g3,Xlz];rcases g4 with⟨rfl,rfl⟩|⟨j,u,u',rfl,rfl,R⟩
  ·cases e
   cases ok with
   |true=>exact⟨_,rfl,Xfl (Zgr hz) (.bool _)⟩
   |false=>exact⟨_,rfl,Zgr hz⟩
  ·cases e
   cases ok with
   |true=>exact⟨_,rfl,Xfl R (.bool _)⟩
   |false=>exact⟨_,rfl,R⟩
 |_=>cases e
def Z9b(H:HR Y φ A h0 h){xs:Zc}{v:Zj}(J:on1 xs (Xbh A)=some v):Qc Y φ h .lenM xs v:=by
 intro O hx;obtain⟨x,G,e⟩:=Vx J;subst G;clear J;obtain⟨U,rfl,h1⟩:=hx.un1
 cases x with
 |map r =>
  obtain⟨X,e2,e⟩:=Yj.1 (show ob (Z2d A r) _=some v from e)
  cases e
  obtain⟨r',I,rfl,R,g2⟩:=Zoq H e2 h1;refine⟨.int .i64 I.length,by simp[Ym.cK,R],?_⟩;rw[<-g2.1];exact .int _ _
 |_=>cases e
def Z4o{o:Ym}(H:HR Y φ A h0 h)(hc:opC o=true){xs:Zc}{v:Zj}(e:opA A o xs=some v):Qc Y φ h o xs v:=by
 cases o with
 |mv=>exact Xfh e
 |pick=>exact Z9d e
 |ib op=>exact Xgb e
 |fadr G=>exact Xbc e
 |idxa sz=>exact Z9h e
 |len=>exact Xcn e
 |cC i=>exact Xcb e
 |load sz agg=>exact Xaz H e
 |slc sz lo I=>exact Xd0 H e
 |cap=>exact Xdk H e
 |slc3 sz=>exact Z91 e
 |b2s=>exact Xd6 H e
 |lookup O ok z=>exact Z11 hc H e
 |lenM=>exact Z9b H e
 |nilck=>exact Z7z (Yd.1 (show bf (Vg xs) _ none=some v from e)).2
 |cntS=>exact Z88 (Yd.1 (show bf (Vg xs) _ none=some v from e)).2
 |idxBS=>exact Z7p (Yd.1 (show bf (Vg xs) _ none=some v from e)).2
 |sb op=>exact Xet (Yd.1 (show bf (Vg xs) _ none=some v from e)).2
 |eqb n=>exact Xdo (Yd.1 (show bf (Vg xs) _ none=some v from e)).2
 |eqp n=>exact Xdp (Yd.1 (show bf (Vg xs) _ none=some v from e)).2
 |eqi n l=>exact Xda (Yd.1 (show bf (Vg xs) _ none=some v from e)).2
 |eqs n=>exact Xcu (Yd.1 (show bf (Vg xs) _ none=some v from e)).2
 |eqf n=>exact Xc4 (Yd.1 (show bf (Vg xs) _ none=some v from e)).2
 |eqa n k=>exact Xc7 (Yd.1 (show bf (Vg xs) _ none=some v from e)).2
 |un op=>exact Xfa (Yd.1 (show bf (Vg xs) _ none=some v from e)).2
 |conv k=>exact Xaq (Yd.1 (show bf (Vg xs) _ none=some v from e)).2
 |idxA n sz=>exact Z9n (Yd.1 (show bf (Vg xs) _ none=some v from e)).2
 |idxS=>exact Z9l (Yd.1 (show bf (Vg xs) _ none=some v from e)).2
 |idxV n sz agg=>exact Z9j (Yd.1 (show bf (Vg xs) _ none=some v from e)).2
 |fld G sz agg=>exact Xdh (Yd.1 (show bf (Vg xs) _ none=some v from e)).2
 |slcS lo I=>exact Z8x (Yd.1 (show bf (Vg xs) _ none=some v from e)).2
 |build z R J=>exact Z40 hc (Yd.1 (show bf (Vg xs) _ none=some v from e)).1 (Yd.1 (show bf (Vg xs) _ none=some v from e)).2
 |buildA sz z J=>exact Z1k hc (Yd.1 (show bf (Vg xs) _ none=some v from e)).1 (Yd.1 (show bf (Vg xs) _ none=some v from e)).2
 |mkI t=>exact Xd4 (Yd.1 (show bf (Vg xs) _ none=some v from e)).2
 |lenS=>exact Xa6 (Yd.1 (show bf (Vg xs) _ none=some v from e)).2
 |lenA n=>exact Xar (Yd.1 (show bf (Vg xs) _ none=some v from e)).2
 |mn=>exact Xfs (Yd.1 (show bf (Vg xs) _ none=some v from e)).2
 |mx=>exact Xgk (Yd.1 (show bf (Vg xs) _ none=some v from e)).2
 |mkf f k=>exact Xd5 (Yd.1 (show bf (Vg xs) _ none=some v from e)).2
 |slcA n sz lo I=>cases e
 |ta t ok z=>cases e
end
def efC:Ef->Bool
 |.bslice _ _ z _=>z.toList.all Vh
 |.mkslice _ _ z=>z.toList.all Vh
 |.append _ _ z=>z.toList.all Vh
 |.appz _ _ z=>z.toList.all Vh
 |.clr _ z=>z.toList.all Vh
 |_=>true
section
variable{Y:Sys}{φ:Qe}{A A':AH}{h0 h:Zk}
def Z72(H:HR Y φ A h0 h){b:Nat}{l:Loc}(e:φ b=some l)(J:Live A b):l.rb<h.size:=by
 obtain⟨x,hx,hd⟩:=J;have hb:=H.dom b l e
 cases x with
 |dead=>exact absurd rfl hd
 |cells cs sz ex fz =>
  obtain⟨l',G,_,c⟩:=H.cells b cs sz ex fz hb hx;rw[e] at G;cases G;exact c.lt
 |map O =>
  obtain⟨l',G,R,I,U,_⟩:=H.maps b O hb hx;rw[e] at G;cases G;exact (Array.getElem?_eq_some_iff.1 U).1
def HR.adopt(H:HR Y φ A h0 h)(hs:A.sz<=8000){l:Loc}{x:U7}{h':Zk}(ad:h0.size<=l.rb)(aa:∀b l',φ b=some l'->Live A b->l'.rb≠l.rb)(J:∀j,j<h.size->j≠l.rb->h'[j]? = h[j]?)(ae:h.size<=h'.size)
  (hc:∀cs sz ex fz,x = .cells cs sz ex fz->(ex=true->l.dl=0)/\Ze2 Y (φ.add A.sz l) h' l cs sz fz)
  (hm:∀es,x = .map es->∃U G,h'[l.rb]? = some (.map U G)/\EsR Y (φ.add A.sz l) es U.toList):HR Y (φ.add A.sz l) (A.add x) h0 h':=by
 have p:PLe φ (φ.add A.sz l):=Qe.add_le H (Xi4 _);have gt:∀b,b<A.sz+1->(A.add x).gt b=if A.sz=b then some x else A.gt b:=fun b hb=>Zx7
 have lv:∀b l',b≠A.sz->(φ.add A.sz l) b=some l'->φ b=some l':=fun b l' hb e=>by
  unfold Qe.add at e;rwa [if_neg hb] at e
 have I:∀b,b<A.sz->Live (A.add x) b->Live A b:=fun b hb ⟨y,hy,hd⟩=>⟨y,by rwa [gt b (by omega),ifN] at hy,hd⟩
 have X:∀b l',φ b=some l'->Live A b->h'[l'.rb]? = h[l'.rb]? := fun b l' e lb=>J _ (Z72 H e lb) (aa b l' e lb);refine⟨by simp;omega,?_,?_,?_,?_,?_,?_⟩
 ·intro b l' e;by_cases c:b=A.sz
  ·subst c;simp
  have:=H.dom b l' (lv b l' c e);simp;omega
 ·intro b l' e;by_cases c:b=A.sz
  ·subst c;rw[Qe.add_at] at e
   cases e
   exact ad
  exact H.fresh b l' (lv b l' c e)
 ·exact H.cC.then (S':=fun j=>j=l.rb) ⟨ae,fun j hj hn=>J j hj hn⟩ fun j hj e=>by omega
 ·intro b af ag ah ai hb O;simp at hb;rw[gt b hb] at O
  split at O
  ·rename_i e
   cases O
   subst e;obtain⟨h1,h2⟩:=hc _ _ _ _ rfl;exact⟨l,Qe.add_at,h1,h2⟩
  rename_i e;obtain⟨l',e1,e2,e3⟩:=H.cells b af ag ah ai (by omega) O;exact⟨l',p b l' e1,e2,(e3.mono p).heap (X b l' e1 ⟨_,O,by simp⟩)⟩
 ·intro b es hb O;simp at hb;rw[gt b hb] at O
  split at O
  ·rename_i e
   cases O
   subst e;exact⟨l,Qe.add_at,hm es rfl⟩
  rename_i e;obtain⟨l',e1,U,G,e2,e3⟩:=H.maps b es (by omega) O;exact⟨l',p b l' e1,U,G,by rw[X b l' e1 ⟨_,O,by simp⟩];exact e2,e3.mono p⟩
 intro b b' l1 l2 ab e e' lb ac;by_cases c:b=A.sz
 ·subst c;rw[Qe.add_at] at e
  cases e
  have R:=lv b' l2 (Ne.symm ab) e';exact Ne.symm (aa b' l2 R (I b' (H.dom _ _ R) ac))
 by_cases c':b'=A.sz
 ·subst c';rw[Qe.add_at] at e'
  cases e'
  have hb:=lv b l1 c e;exact aa b l1 hb (I b (H.dom _ _ hb) lb)
 have hb:=lv b l1 c e;have R:=lv b' l2 c' e';exact H.disj b b' l1 l2 ab hb R (I b (H.dom _ _ hb) lb) (I b' (H.dom _ _ R) ac)
def HR.newmap(H:HR Y φ A h0 h)(J:A.sz<=8000){G:Nat}:HR Y (φ.add A.sz ⟨h.size,0,0⟩) (A.add (.map [])) h0 (h.push (.map #[] G)):=by
 refine H.adopt J H.cC.size (fun b l e O=>by have:=Z72 H e O;simp only;omega) (fun j I _=>by rw[Xmo I];exact (Xj7 I).symm) (by simp) (fun cs sz ex fz e=>by cases e) (fun R e=>?_)
 cases e
 exact⟨#[],G,by simp,rfl,fun i a b h=>by simp at h⟩
def HR.kill(H:HR Y φ A h0 h){b:Nat}(hb:b<A.sz):HR Y φ (A.put b .dead) h0 h:=by
 have hs:=H.sz;have O:∀j,j<A.sz->(A.put b .dead).gt j=if b=j then some .dead else A.gt j:=fun j G=>Zk2
 have J:∀j,j<A.sz->Live (A.put b .dead) j->Live A j:=fun j G ⟨y,hy,hd⟩=>by
  rw[O j G] at hy
  split at hy
  ·cases hy;exact absurd rfl hd
  ·exact⟨y,hy,hd⟩
 refine⟨by simpa using H.sz,fun j l e=>by simpa using H.dom j l e,H.fresh,H.cC,?_,?_,?_⟩
 ·intro j cs sz ex fz G I;simp at G;rw[O j G] at I
  split at I
  ·cases I
  ·exact H.cells j cs sz ex fz G I
 ·intro j X G I;simp at G;rw[O j G] at I
  split at I
  ·cases I
  ·exact H.maps j X G I
 intro j j' l1 l2 R U e2 h1 h2;exact H.disj j j' l1 l2 R U e2 (J j (H.dom _ _ U) h1) (J j' (H.dom _ _ e2) h2)
def Zm9(H:HR Y φ A h0 h){b:Nat}(hb:b<A.sz):¬Live (A.put b .dead) b:=by
 rintro⟨y,hy,hd⟩;have G:=H.sz;rw[Zk2,if_pos rfl] at hy
 cases hy
 exact hd rfl
def HR.low(H:HR Y φ A h0 h){w:Nat}:HR Y φ (A.reset w) h0 h :=
 ⟨by simpa using H.sz,fun b l e=>by simpa using H.dom b l e,H.fresh,H.cC,fun b cs sz ex fz hb I=>H.cells b cs sz ex fz (by simpa using hb) (by simpa using I),fun b J hb I=>H.maps b J (by simpa using hb) (by simpa using I),
  fun b O l l' R e U hb G=>H.disj b O l l' R e U (by unfold Live at hb ⊢;simpa using hb) (by unfold Live at G ⊢;simpa using G)⟩
def Zz1{l:Zc}:∀{c i:Nat},(rep c l)[i]? = if i<c * l.length then l[i % l.length]? else none:=by
 intro c
 induction c with
 |zero=>intro i;rw[ifN];rfl
 |succ c I =>
  intro i;have e:rep (c+1) l=l++rep c l:=by show Zdk l (rep c l)=_;rw[Zcv]
  rw[e];have H:(c+1) * l.length=c * l.length+l.length:=Nat.succ_mul ..;by_cases h:i<l.length
  ·rw[Xjm h,if_pos (by rw[H];omega),Nat.mod_eq_of_lt h]
  rw[Xjv (by omega),I];by_cases G:i<(c+1) * l.length
  ·rw[if_pos (by rw[H] at G;omega),if_pos G,Nat.mod_eq_sub_mod (a:=i) (by omega)]
  rw[if_neg (by rw[H] at G;omega),if_neg G]
def Z99{l:Zc}{c:Nat}:(rep c l).length=c * l.length:=by
 rw[Xd3];simp[List.length_flatten]
def Zny{z:Array cR}{c:Nat}:(Xv z (c * z.size)).toList=rep c z.toList:=by
 apply Xkz;intro i;rw[Zz1];by_cases h:i<c * z.size
 ·have hz:0<z.size:=by
   rcases Xkr z.size with q|q
   ·rw[q,Nat.mul_zero] at h;omega
   exact q
  have G:=Xkn i hz;rw[if_pos (by simpa using h)];simp[Xv,h,G]
 rw[if_neg (by simpa using h)];simp[Xv];omega
def Zc6{z:Array cR}{c:Nat}:(Builtin.zeroCells z c).toList=rep c z.toList:=Zny
def Zgk{z:Array cR}{c:Nat}(h:z.toList.all Vh=true):VL Y φ (rep c z.toList) (rep c z.toList):=by
 refine U5 ?_;rw[Xkc] at h ⊢;intro v hv;obtain⟨i,G,rfl⟩:=Xju hv;have e:(rep c z.toList)[i]? = some (rep c z.toList)[i]:=by simp[G]
 rw[Zz1] at e
 split at e
 ·exact h _ (Xmp e)
 cases e
def Zqj{z:Array cR}{n:Nat}(h:z.toList.all Vh=true):(Xv z n).toList.all Vh=true:=by
 rw[Xkc] at h ⊢;intro v hv;simp only[Xv,Xly,Xlg] at hv;obtain⟨i,_,rfl⟩:=hv;by_cases q:i % z.size<z.size
 ·rw[getElem!_pos z _ q];exact h _ (by simp)
 rw[getElem!_neg z _ q]
 rfl
end
end Go.Rm
