import Derived.IntWalk
import Derived.Test.YtpikofomaekpoaaGreatDoorT01
import Derived.ProofKit
import Derived.WideKeyArgs
import GoSem.ClaimSeven
import Derived.Deep.Slices
/- Parts. -/
set_option linter.unusedSimpArgs false
set_option linter.unusedVariables false
namespace Go.Rm
def Zv (Y:Sys) (f:Nat) (xs:Zc) (h:Zk) (R:Ze):Prop:=Y.C (Y.fid f) xs h R
theorem Zv.of_has {Y:Sys} {f:Nat} {S:Xm} (H:Y.Has f S) {xs:Zc} {h:Zk} {R:Ze} (r:xs.length=S.np) (D:S.wp Y xs h R):Zv Y f xs h R:=H.2 xs h R r D
theorem Zv.mono {Y:Sys} {f:Nat} {xs:Zc} {h:Zk} {R R':Ze} (hc:Zv Y f xs h R) (r:∀ v h',R v h'->R' v h'):Zv Y f xs h R':=Y.mono hc r
def Z8s (v:Value) (A B:Prop):Prop :=
 match v with
 | .bool c=>if c=true then A else B
 | _=>False
section
variable {Y:Sys} {kn:Zc->Zk->Prop} {ke:Nat->Zc->Zk->Prop} {kr:Zc->Zk->Prop} {e T:Zc} {h:Zk} {K:W5}
def Xc7 (Y:Sys) (b:Stmt) (kn:Zc->Zk->Prop) (ke:Nat->Zc->Zk->Prop) (kr:Zc->Zk->Prop):Zc->Zk->Prop:=fun e h=>b.wp Y kn ke kr e h
def Xco (kn:Zc->Zk->Prop):W5:=fun e _ h=>kn e h
def Z1q (id:Nat) (kn:Zc->Zk->Prop) (ke:Nat->Zc->Zk->Prop):Nat->Zc->Zk->Prop:=fun i e h=>if i=id then kn e h else ke i e h
def Zx0 (I:Zc->Zk->Prop) (μ:Zc->Zk->Nat) (m:Nat):Zc->Zk->Prop:=fun e h=>I e h/\μ e h<m
def OpK (Y:Sys) (K:W5) (k:IL) (d:X3) (e T:Zc) (h:Zk):Value->Prop:=fun v=>IL.wp Y K k (d.e v e) (d.T v T) h
def EfK (Y:Sys) (K:W5) (k:IL) (d:X3) (e T:Zc):Ze:=fun v h=>IL.wp Y K k (d.e v e) (d.T v T) h
def Zxp (Y:Sys) (s:Stmt) (kn:Zc->Zk->Prop) (ke:Nat->Zc->Zk->Prop) (kr:Zc->Zk->Prop) (e:Zc) (h:Zk):Prop:=s.wp Y kn ke kr e h
@[simp] theorem Yc {b:Stmt}:Xc7 Y b kn ke kr e h=Stmt.wp Y b kn ke kr e h:=(rfl)
@[simp] theorem Xdg:Xco kn e T h=kn e h:=(rfl)
@[simp] theorem Xbi {id i:Nat}:Z1q id kn ke i e h=if i=id then kn e h else ke i e h:=(rfl)
@[simp] theorem Xbu {I:Zc->Zk->Prop} {μ:Zc->Zk->Nat} {m:Nat}:Zx0 I μ m e h=(I e h/\μ e h<m):=(rfl)
@[simp] theorem Xer {k:IL} {d:X3} {v:Value}:OpK Y K k d e T h v=IL.wp Y K k (d.e v e) (d.T v T) h:=(rfl)
@[simp] theorem Xey {k:IL} {d:X3} {v:Value}:EfK Y K k d e T v h=IL.wp Y K k (d.e v e) (d.T v T) h:=(rfl)
@[simp] theorem Z6g {v:Value} {k:Value->Prop}:Zlb (some v) k=k v:=(rfl)
@[simp] theorem Xac {c:Bool} {a b:Stmt}:Z8s (.bool c) (Zxp Y a kn ke kr e h) (Zxp Y b kn ke kr e h)=if c=true then Stmt.wp Y a kn ke kr e h else Stmt.wp Y b kn ke kr e h:=(rfl)
@[simp] theorem Xb4:Stmt.wp Y .skip kn ke kr e h=kn e h:=(rfl)
@[simp] theorem Xdk {a b:Stmt}:Stmt.wp Y (.seq a b) kn ke kr e h=a.wp Y (Xc7 Y b kn ke kr) ke kr e h:=(rfl)
@[simp] theorem Xdn {l:IL}:Stmt.wp Y (.reg l) kn ke kr e h=l.wp Y (Xco kn) e [] h:=(rfl)
@[simp] theorem Xci {x:Wa} {a b:Stmt}:Stmt.wp Y (.cond x a b) kn ke kr e h=Z8s (x.ev Y e []) (Zxp Y a kn ke kr e h) (Zxp Y b kn ke kr e h):=(rfl)
@[simp] theorem Xbf {id:Nat} {s:Stmt}:Stmt.wp Y (.block id s) kn ke kr e h=s.wp Y kn (Z1q id kn ke) kr e h:=(rfl)
@[simp] theorem Xb2 {id:Nat}:Stmt.wp Y (.exit id) kn ke kr e h=ke id e h:=(rfl)
@[simp] theorem Xdm:Stmt.wp Y .ret kn ke kr e h=kr e h:=(rfl)
theorem Zt {s:Stmt} (I:Zc->Zk->Prop) (μ:Zc->Zk->Nat) (h0:I e h)
  (hs:∀ e h,I e h->s.wp Y (Zx0 I μ (μ e h)) ke kr e h):Stmt.wp Y (.loop s) kn ke kr e h:=⟨I,μ,h0,hs⟩
@[simp] theorem Xe4:IL.wp Y K .nil e T h=K e T h:=(rfl)
@[simp] theorem Xfq {o:Yo} {xs:List Wa} {d:X3} {k:IL}:IL.wp Y K (.op (.op o xs d) k) e T h=Zlb (o.sem Y h (xs.map (Wa.ev Y e T))) (OpK Y K k d e T h):=(rfl)
@[simp] theorem Xfr {f:Ef} {xs:List Wa} {d:X3} {k:IL}:IL.wp Y K (.op (.ef f xs d) k) e T h=f.wp h (EfK Y K k d e T) (xs.map (Wa.ev Y e T)):=(rfl)
@[simp] theorem Xdq {f:Nat} {xs:List Wa} {d:X3} {k:IL}:IL.wp Y K (.op (.call f xs d) k) e T h=Zv Y f (xs.map (Wa.ev Y e T)) h (EfK Y K k d e T):=(rfl)
@[simp] theorem Xdi {o:Yo} {xs:List Wa} {v:Wa} {k:IL}:IL.wp Y K (.op (.stab o xs v) k) e T h=(o.sem Y h (xs.map (Wa.ev Y e T))=some (v.ev Y e T)/\IL.wp Y K k e T h):=(rfl)
@[simp] theorem Xft {g:Wa} {w:Bool} {b:IL} {ds:List X3} {k:IL}:IL.wp Y K (.gd g w b ds k) e T h=if gdB (g.ev Y e T) w then IL.wp Y (IL.wp Y K k) b e T h else IL.wp Y K k (Zmw ds e) (Zmv ds T) h:=(rfl)
@[simp] theorem Xdx {a b:IL}:IL.wp Y K (.alt a b) e T h=(IL.wp Y K a e T h/\IL.wp Y K b e T h):=(rfl)
@[simp] theorem Xce {b w:Bool}:gdB (.bool b) w=(b == w):=rfl
@[simp] theorem Xat {w:Bool}:gdB undef w=false:=rfl
@[simp] theorem Xfw {i:Nat}:Wa.ev Y e T (.n i)=e.getD i undef:=rfl
@[simp] theorem Xfx {i:Nat}:Wa.ev Y e T (.t i)=T.getD i undef:=rfl
@[simp] theorem Xfu {v:Value}:Wa.ev Y e T (.c v)=v:=rfl
@[simp] theorem Xfv {j:Nat}:Wa.ev Y e T (.f j) = .func (.func (Y.fid j)) #[] #[]:=rfl
@[simp] theorem Xc9 {v:Value}:X3.e v e .drop=e:=rfl
@[simp] theorem Xdp {v:Value}:X3.e v e .push=e:=rfl
@[simp] theorem Xec {v:Value} {i:Nat}:X3.e v e (.set i)=e.set i v:=rfl
@[simp] theorem Xdl {v:Value}:X3.T v T .drop=T:=rfl
@[simp] theorem Xdd {v:Value}:X3.T v T .push=T++[v]:=rfl
@[simp] theorem Xd6 {v:Value} {i:Nat}:X3.T v T (.set i)=T:=rfl
@[simp] theorem Xbq:Zmw [] e=e:=rfl
@[simp] theorem Xbj {d:X3} {r:List X3}:Zmw (d::r) e=Zmw r (d.e undef e):=rfl
@[simp] theorem Xcj:Zmv [] T=T:=rfl
@[simp] theorem Xbl {d:X3} {r:List X3}:Zmv (d::r) T=Zmv r (d.T undef T):=rfl
@[simp] theorem Xeg {x:Value}:Yo.sem Y h .mv [x]=some x:=rfl
@[simp] theorem Xcn {c:Bool} {a b:Value}:Yo.sem Y h .pick [.bool c,a,b]=some (if c then a else b):=rfl
@[simp] theorem Xbe {a:Addr}:Yo.sem Y h .nilck [.pointer (some a)]=some (.pointer (some a)):=rfl
@[simp] theorem Xff {op:BinOp} {k j:IntKind} {a b:Int}:Yo.sem Y h (.ib op) [.int k a,.int j b]=X8 op k a j b:=rfl
@[simp] theorem Xd0 {k:IntKind} {a b:Int}:X8 .add k a k b=some (.int k (k.wrap (a+b))):=by simp [X8]
@[simp] theorem Xe1 {k:IntKind} {a b:Int}:X8 .sub k a k b=some (.int k (k.wrap (a-b))):=by simp [X8]
@[simp] theorem Xdz {k:IntKind} {a b:Int}:X8 .mul k a k b=some (.int k (k.wrap (a * b))):=by simp [X8]
theorem Zwq {k:IntKind} {a b:Int} (hb:b≠0):X8 .quo k a k b=some (.int k (k.wrap (a.tdiv b))):=by simp [X8,hb]
@[simp] theorem Xd5 {k:IntKind} {a b:Int}:X8 .lss k a k b=some (.bool (decide (a<b))):=by simp [X8]
@[simp] theorem Xdu {k:IntKind} {a b:Int}:X8 .leq k a k b=some (.bool (decide (a<=b))):=by simp [X8]
@[simp] theorem Xfd {k:IntKind} {a b:Int}:X8 .gtr k a k b=some (.bool (decide (b<a))):=by simp [X8]
@[simp] theorem Xex {k:IntKind} {a b:Int}:X8 .geq k a k b=some (.bool (decide (b<=a))):=by simp [X8]
@[simp] theorem Xes {k:IntKind} {a b:Int}:X8 .eql k a k b=some (.bool (decide (a=b))):=by
 simp [X8];rw [Xhz];simp
@[simp] theorem Xe9 {k:IntKind} {a b:Int}:X8 .neq k a k b=some (.bool (decide (a≠b))):=by
 simp [X8];rw [Xhz];simp
@[simp] theorem Xdh {b:Bool}:Yo.sem Y h (.un .not) [.bool b]=some (.bool !b):=rfl
@[simp] theorem Xdc {k:IntKind} {n:Int}:Yo.sem Y h (.un .neg) [.int k n]=some (.int k (k.wrap (0-n))):=rfl
@[simp] theorem Xc1 {k j:IntKind} {n:Int}:Yo.sem Y h (.conv k) [.int j n]=some (.int k (k.wrap n)):=rfl
@[simp] theorem Xbz {r b o:Nat}:Yo.sem Y h (.fadr r) [.pointer (some ⟨b,o,none⟩)]=some (.pointer (some ⟨b,o+r,none⟩)):=rfl
@[simp] theorem Xa9 {n b o:Nat}:Yo.sem Y h (.load n false) [.pointer (some ⟨b,o,none⟩)]=hc h b o:=rfl
@[simp] theorem Xba {n b o:Nat}:Yo.sem Y h (.load n true) [.pointer (some ⟨b,o,none⟩)]=(rd h b o n).bind fun l=>some (.agg l.toArray):=rfl
@[simp] theorem Xe3 {k j:IntKind} {x y:Int}:Yo.sem Y h .mn [.int k x,.int j y]=some (.int k (if y<x then y else x)):=rfl
@[simp] theorem Xfj {k j:IntKind} {x y:Int}:Yo.sem Y h .mx [.int k x,.int j y]=some (.int k (if x<y then y else x)):=rfl
@[simp] theorem Xdo {i:Nat} {vs:Array Value}:Yo.sem Y h (.ext i) [.tuple vs]=vs[i]? := rfl
@[simp] theorem Xdj {neg a b:Bool}:Yo.sem Y h (.eqb neg) [.bool a,.bool b]=some (.bool (if neg then !(a == b) else (a == b))):=rfl
@[simp] theorem Z8d {neg:Bool} {b:Option Addr}:Yo.sem Y h (.eqp neg) [.pointer none,.pointer b]=some (.bool (if neg then !b.isNone else b.isNone)):=rfl
@[simp] theorem Z7b {neg:Bool} {a:Addr}:Yo.sem Y h (.eqp neg) [.pointer (some a),.pointer none]=some (.bool neg):=by cases neg <;> rfl
@[simp] theorem Xao {neg:Bool}:Yo.sem Y h (.eqi neg true) [.nilIface,.nilIface]=some (.bool (!neg)):=by cases neg <;> rfl
@[simp] theorem Z9v {neg r:Bool} {t:TypeId} {v:Value}:Yo.sem Y h (.eqi neg r) [.iface t v,.nilIface]=some (.bool neg):=by cases neg <;> rfl
@[simp] theorem Xdf {t:Nat} {v:Value}:Yo.sem Y h (.mkI t) [v]=some (.iface (Y.tid t) v):=rfl
@[simp] theorem Xb0 {r n:Nat} {cs:Array Value}:Yo.sem Y h (.fld r n false) [.agg cs]=cs[r]? := rfl
@[simp] theorem Xcm {r n:Nat} {cs:Array Value}:Yo.sem Y h (.fld r n true) [.agg cs]=some (.agg (cs.extract r (r+n))):=rfl
@[simp] theorem Xbr {n:Nat} {v:Value}:Yo.sem Y h (.lenA n) [v]=some (.int .i64 n):=rfl
@[simp] theorem Xcd {s:ByteArray}:Yo.sem Y h .lenS [.string s]=some (.int .i64 s.size):=rfl
@[simp] theorem Xej {op:BinOp} {a b:ByteArray}:Yo.sem Y h (.sb op) [.string a,.string b]=Zw9 op a b:=rfl
theorem Zo {n:Int} (h : -9223372036854775808<=n/\n<=9223372036854775807):IntKind.i64.wrap n=n:=by rw [IntKind.wrap_i64];omega
theorem Zj {i:Nat} (h:i<9223372036854775807):IntKind.i64.wrap ((i:Int)+1)=(i:Int)+1:=Zo (by omega)
@[simp] theorem Xcw {R:Ze}:U4 [] R e h=R (.tuple #[]) h:=(rfl)
@[simp] theorem Xfn {R:Ze} {i:Nat}:U4 [.n i] R e h=R (e.getD i undef) h:=(rfl)
@[simp] theorem Xde {R:Ze} {i j:Nat}:U4 [.n i,.n j] R e h=R (.tuple #[e.getD i undef,e.getD j undef]) h:=(rfl)
@[simp] theorem Xda {R:Ze} {i j k:Nat}:U4 [.n i,.n j,.n k] R e h=R (.tuple #[e.getD i undef,e.getD j undef,e.getD k undef]) h:=(rfl)
end
structure Sl where
 b:Nat
 o:Nat
 n:Nat
 c:Nat
 nl:Bool
 sp:Option Nat:=none
def Sl.v (s:Sl):Value:=.slice (if s.nl then none else some ⟨s.b,s.o,s.sp⟩) s.n s.c
structure Sl.ok (s:Sl):Prop where
 nil:s.nl=true->s.n=0/\s.c=0
 le:s.n<=s.c
 spot:s.sp=none\/s.c=0
def Sl.nil:Sl:=⟨0,0,0,0,true,none⟩
theorem Sl.nil_v:Sl.nil.v = .slice none 0 0:=rfl
theorem Sl.nil_ok:Sl.nil.ok:=⟨fun _=>⟨rfl,rfl⟩,Xfy _,.inl rfl⟩
def Sl.at (b n c:Nat):Sl:=⟨b,0,n,c,false,none⟩
@[simp] theorem Sl.at_sp {b n c:Nat}:(Sl.at b n c).sp=none:=rfl
@[simp] theorem Sl.at_v {b n c:Nat}:(Sl.at b n c).v = .slice (some ⟨b,0,none⟩) n c:=rfl
@[simp] theorem Sl.at_n {b n c:Nat}:(Sl.at b n c).n=n:=rfl
@[simp] theorem Sl.at_c {b n c:Nat}:(Sl.at b n c).c=c:=rfl
@[simp] theorem Sl.at_o {b n c:Nat}:(Sl.at b n c).o=0:=rfl
@[simp] theorem Sl.at_b {b n c:Nat}:(Sl.at b n c).b=b:=rfl
@[simp] theorem Sl.at_nl {b n c:Nat}:(Sl.at b n c).nl=false:=rfl
section
variable {Y:Sys} {h:Zk}
@[simp] theorem Z8l {k:IntKind} {n:Int}:(Value.int k n).oneCell'=true:=rfl
@[simp] theorem Z78 {b:Bool}:(Value.bool b).oneCell'=true:=rfl
@[simp] theorem Z4m {b:ByteArray}:(Value.string b).oneCell'=true:=rfl
@[simp] theorem Z1g {b:Option Addr}:(Value.pointer b).oneCell'=true:=rfl
@[simp] theorem Z50 {b:Option Addr} {n c:Nat}:(Value.slice b n c).oneCell'=true:=rfl
@[simp] theorem Z5x {t:TypeId} {v:Value}:(Value.iface t v).oneCell'=true:=rfl
@[simp] theorem Zzs:(Value.nilIface).oneCell'=true:=rfl
@[simp] theorem Z86 {s:Sl}:s.v.oneCell'=true:=rfl
@[simp] theorem Xbc {s:Sl}:s.v.cells=#[s.v]:=rfl
@[simp] theorem Xdr {s:Sl}:Yo.sem Y h .len [s.v]=some (.int .i64 s.n):=rfl
@[simp] theorem Xc5 {a:Option Addr} {n c:Nat}:Yo.sem Y h .len [.slice a n c]=some (.int .i64 n):=rfl
theorem Zm {s:Sl} {sz:Nat} {k:IntKind} {i:Int} (r:s.ok) (h0:0<=i) (h1:i<s.n) :
  Yo.sem Y h (.idxa sz) [s.v,.int k i]=some (.pointer (some ⟨s.b,s.o+i.toNat * sz,none⟩)):=by
 have H:s.nl=false:=by
  cases D:s.nl with
  | false=>rfl
  | true=>have:=(r.nil D).1;omega
 have G:s.sp=none:=by
  rcases r.spot with h | h
  ·exact h
  have:=r.le;omega
 have hv:s.v = .slice (some ⟨s.b,s.o,none⟩) s.n s.c:=by simp [Sl.v,H,G]
 rw [hv];show (if 0<=i/\i<s.n then some (Value.pointer (some ⟨s.b,s.o+i.toNat * sz,none⟩)) else none)=_;rw [if_pos ⟨h0,h1⟩]
theorem Zch {s:Sl} {sz:Nat} {k:IntKind} {j:Int} (G:s.ok) (h0:0<=j) (h1:j<=s.c) :
  Yo.sem Y h (.slc sz false true) [s.v,.int k j]=some (Sl.v { s with n:=j.toNat }):=by
 have hc:W0 s.n s.c false true [.int k j]=some (0,j.toNat):=by
  show (if 0<=j/\j<=s.c then some (0,j.toNat) else none)=_;rw [if_pos ⟨h0,h1⟩]
 cases r:s.nl with
 | true =>
  have hv:s.v = .slice none s.n s.c:=by simp [Sl.v,r]
  rw [hv];show (W0 s.n s.c false true [.int k j]).bind _=_;rw [hc];simp only [Xgj,Sl.v]
  first | rfl | (congr 1;simp) | simp
 | false =>
  cases D:s.sp with
  | some q =>
   have H:s.c=0:=G.spot.resolve_left (by rw [D];simp);have hv:s.v = .slice (some ⟨s.b,s.o,some q⟩) s.n s.c:=by simp [Sl.v,r,D]
   rw [hv];show (W0 s.n s.c false true [.int k j]).bind _=_;rw [hc];simp only [Xgj,Sl.v];simp [H]
  | none =>
  have hv:s.v = .slice (some ⟨s.b,s.o,none⟩) s.n s.c:=by simp [Sl.v,r,D]
  rw [hv];show (W0 s.n s.c false true [.int k j]).bind _=_;rw [hc];simp only [Xgj,Sl.v]
  first | rfl | (congr 1;simp) | simp
theorem Zdw {s:Sl} {sz:Nat} {k:IntKind} {j:Int} (G:s.ok) (h0:0<=j) (h1:j<=s.n) :
  Yo.sem Y h (.slc sz true false) [s.v,.int k j]=some (Sl.v { s with o:=if s.c=j.toNat then s.o else s.o+j.toNat * sz,n:=s.n-j.toNat,c:=s.c-j.toNat }):=by
 have hc:W0 s.n s.c true false [.int k j]=some (j.toNat,s.n):=by
  show (if 0<=j/\j<=s.n then some (j.toNat,s.n) else none)=_;rw [if_pos ⟨h0,h1⟩]
 cases r:s.nl with
 | true =>
  have hv:s.v = .slice none s.n s.c:=by simp [Sl.v,r]
  rw [hv];show (W0 s.n s.c true false [.int k j]).bind _=_;rw [hc];simp only [Xgj,Sl.v]
  first | rfl | (congr 1;simp) | simp
 | false =>
  cases D:s.sp with
  | some q =>
   have H:s.c=0:=G.spot.resolve_left (by rw [D];simp);have I:=G.le;have hv:s.v = .slice (some ⟨s.b,s.o,some q⟩) s.n s.c:=by simp [Sl.v,r,D]
   rw [hv];show (W0 s.n s.c true false [.int k j]).bind _=_;rw [hc];simp only [Xgj,Sl.v];have J:j.toNat=0:=by omega
   simp [H,J]
  | none =>
  have hv:s.v = .slice (some ⟨s.b,s.o,none⟩) s.n s.c:=by simp [Sl.v,r,D]
  rw [hv];show (W0 s.n s.c true false [.int k j]).bind _=_;rw [hc];simp only [Xgj,Sl.v]
  first | rfl | (congr 1;simp) | simp
theorem Zia {s:Sl} {sz:Nat} {k k':IntKind} {i j:Int} (G:s.ok) (h0:0<=i) (h1:i<=j) (I:j<=s.c) :
  Yo.sem Y h (.slc sz true true) [s.v,.int k i,.int k' j]=some (Sl.v { s with o:=if s.c=i.toNat then s.o else s.o+i.toNat * sz,n:=j.toNat-i.toNat,c:=s.c-i.toNat }):=by
 have hc:W0 s.n s.c true true [.int k i,.int k' j]=some (i.toNat,j.toNat):=by
  show (if 0<=i/\i<=j/\j<=s.c then some (i.toNat,j.toNat) else none)=_;rw [if_pos ⟨h0,h1,I⟩]
 cases r:s.nl with
 | true =>
  have hv:s.v = .slice none s.n s.c:=by simp [Sl.v,r]
  rw [hv];show (W0 s.n s.c true true [.int k i,.int k' j]).bind _=_;rw [hc];simp only [Xgj,Sl.v]
  first | rfl | (congr 1;simp) | simp
 | false =>
  cases D:s.sp with
  | some q =>
   have H:s.c=0:=G.spot.resolve_left (by rw [D];simp);have hv:s.v = .slice (some ⟨s.b,s.o,some q⟩) s.n s.c:=by simp [Sl.v,r,D]
   rw [hv];show (W0 s.n s.c true true [.int k i,.int k' j]).bind _=_;rw [hc];simp only [Xgj,Sl.v];have J:i.toNat=0:=by omega
   simp [H,J]
  | none =>
  have hv:s.v = .slice (some ⟨s.b,s.o,none⟩) s.n s.c:=by simp [Sl.v,r,D]
  rw [hv];show (W0 s.n s.c true true [.int k i,.int k' j]).bind _=_;rw [hc];simp only [Xgj,Sl.v]
  first | rfl | (congr 1;simp) | simp
def Xb (h:Zk) (b:Nat) (c:Array Value):Prop:=∃ t,h[b]? = some (.cells c t (0,0))
theorem Xb.lt {b:Nat} {c:Array Value} (hb:Xb h b c):b<h.size:=by
 obtain ⟨t,ht⟩:=hb;exact (Array.getElem?_eq_some_iff.1 ht).1
theorem Xb.hc {b o:Nat} {c:Array Value} (hb:Xb h b c):hc h b o=c[o]? := by
 obtain ⟨t,ht⟩:=hb;simp [Rm.hc,ht]
theorem Xb.hfz {b o:Nat} {c:Array Value} (hb:Xb h b c):hfz h b o=false:=by
 obtain ⟨t,ht⟩:=hb;simp [Rm.hfz,ht]
theorem Zsi {b o:Nat} {v:Value} {j:Nat} (r:j≠b):(Vd h b o v)[j]? = h[j]? := by
 unfold Vd;rw [Xh0];rw [if_neg (fun e=>r (Eq.symm e))]
@[simp] theorem Xbh {b o:Nat} {v:Value}:(Vd h b o v).size=h.size:=by simp [Vd]
theorem Xb.set {b o:Nat} {c:Array Value} {v:Value} (hb:Xb h b c):Xb (Vd h b o v) b (c.setIfInBounds o v):=by
 obtain ⟨t,ht⟩:=hb;refine ⟨t,?_⟩;unfold Vd;rw [Xh0,ht];simp
theorem Xb.set_ne {b b' o:Nat} {c:Array Value} {v:Value} (hb:Xb h b c) (r:b≠b'):Xb (Vd h b' o v) b c:=by
 obtain ⟨t,ht⟩:=hb;exact ⟨t,by rw [Zsi r];exact ht⟩
theorem Xb.push {b:Nat} {c:Array Value} {x:Obj} (hb:Xb h b c):Xb (h.push x) b c:=by
 obtain ⟨t,ht⟩:=hb;have:=(Array.getElem?_eq_some_iff.1 ht).1;exact ⟨t,by rw [Xi4 this];exact (Xg0 this).symm.trans ht⟩
theorem Xb.new {c:Array Value} {t:TypeId}:Xb (h.push (.cells c t)) h.size c:=⟨t,by simp⟩
theorem Zz5 {K:Ze} {b o:Nat} {v:Value} (hv:v.oneCell'=true) (r:(hc h b o).isSome=true) (hf:hfz h b o=false) (G:K undef (Vd h b o v)) :
  Ef.wp h K (.store 1) [.pointer (some ⟨b,o,none⟩),v]:=by
 have D:v.cells=#[v]:=by cases v <;> first | rfl | (cases hv)
 have H:hst h b o v.cells.toList=some (Vd h b o v):=by simp [D,hst,r,hf,hv]
 refine ⟨by simp [D],?_⟩;rw [H];exact G
theorem Xah {K:Ze} {v:Value}:Ef.wp h K .new [v] = ∀ t:TypeId,K (.pointer (some ⟨h.size,0,none⟩)) (h.push (.cells v.cells t)):=rfl
theorem Vq {K:Ze} {sz bytes:Nat} {zero:Array Value} {j k:IntKind} {l c:Int} :
  Ef.wp h K (.mkslice sz bytes zero) [.int j l,.int k c]=(0<=l/\l<=c/\c<=9223372036854775807/\(bytes:Int) * c<=281474976710656 /\
   ∀ t:TypeId,K (.slice (some ⟨h.size,0,none⟩) l.toNat c.toNat) (h.push (.cells (Xy zero (c.toNat * sz)) t))):=rfl
theorem Ui {v:Value} {n:Nat}:Xy #[v] n=Array.replicate n v:=by
 apply Xhm
 ·simp [Xy]
 intro i h1 r;simp [Xy,Nat.mod_one]
structure Mod (S:Zf) (h h':Zk):Prop where
 size:h.size<=h'.size
 get:∀ b,b<h.size->¬ S b->h'[b]? = h[b]?
theorem Mod.refl {S:Zf} (h:Zk):Mod S h h:=⟨Xfy _,fun _ _ _=>rfl⟩
theorem Mod.trans {S:Zf} {a b c:Zk} (h1:Mod S a b) (r:Mod S b c):Mod S a c :=
 ⟨Xgk h1.size r.size,fun i D hs=>(r.get i (Xib D h1.size) hs).trans (h1.get i D hs)⟩
theorem Mod.then {S S':Zf} {a b c:Zk} (h1:Mod S a b) (D:Mod S' b c) (hs:∀ i,i<a.size->S' i->S i):Mod S a c :=
 ⟨Xgk h1.size D.size,fun i r G=>(D.get i (Xib r h1.size) (fun h=>G (hs i r h))).trans (h1.get i r G)⟩
theorem Mod.mono {S S':Zf} {a b:Zk} (h:Mod S a b) (hs:∀ i,i<a.size->S i->S' i):Mod S' a b:=⟨h.size,fun i r D=>h.get i r fun G=>D (hs i r G)⟩
theorem Mod.set {S:Zf} {b o:Nat} {v:Value} (hb:S b):Mod S h (Vd h b o v):=⟨by simp,fun i _ r=>Zsi fun e=>r (e ▸ hb)⟩
theorem Mod.push {S:Zf} {x:Obj}:Mod S h (h.push x):=⟨by simp,fun i r _=>by rw [Xi4 r];exact (Xg0 r).symm⟩
theorem Mod.blk {S:Zf} {h':Zk} {b:Nat} {c:Array Value} (r:Mod S h h') (hb:Xb h b c) (hs:¬ S b):Xb h' b c:=by
 obtain ⟨t,ht⟩:=hb;exact ⟨t,by rw [r.get b (Xb.lt ⟨t,ht⟩) hs];exact ht⟩
theorem Mod.hc {S:Zf} {h':Zk} {b o:Nat} {v:Value} (D:Mod S h h') (hb:hc h b o=some v) (hs:¬ S b):hc h' b o=some v:=by
 have r:b<h.size:=by
  rcases Xf0 b h.size with h1 | h1
  ·exact h1
  simp [Rm.hc,Xhx h1] at hb
 unfold Rm.hc at *
 rw [D.get b r hs];exact hb
abbrev Ext (h h':Zk):Prop:=Mod (fun _=>False) h h'
def Ym (h:Zk) (sz:Nat) (s:Sl) (cells:Zc):Prop :=
 cells.length=s.n * sz/\((s=Sl.nil/\cells=[]) \/
  (s.nl=false/\s.o=0/\s.sp=none/\s.n<=s.c/\s.c<=9223372036854775807/\∃ arr:Array Value,Xb h s.b arr/\arr.size=s.c * sz/\arr.toList.take (s.n * sz)=cells))
theorem Ym.ok {sz:Nat} {s:Sl} {cells:Zc} (D:Ym h sz s cells):s.ok:=by
 rcases D.2 with ⟨rfl,_⟩ | ⟨h1,H,r,G,_⟩
 ·exact Sl.nil_ok
 exact ⟨fun h=>absurd h (by rw [h1];simp),G,.inl r⟩
theorem Ym.nil {sz:Nat}:Ym h sz Sl.nil []:=⟨by simp [Sl.nil],.inl ⟨rfl,rfl⟩⟩
theorem Ym.lt {sz:Nat} {s:Sl} {cells:Zc} (r:Ym h sz s cells) (D:s.nl=false):s.b<h.size:=by
 rcases r.2 with ⟨rfl,_⟩ | ⟨_,_,_,_,_,G,hb,_⟩
 ·cases D
 ·exact hb.lt
theorem Ym.cell {sz:Nat} {s:Sl} {cells:Zc} (D:Ym h sz s cells) {i:Nat} {v:Value} (r:cells[i]? = some v):hc h s.b (s.o+i)=some v:=by
 rcases D.2 with ⟨_,rfl⟩ | ⟨h1,G,H,J,_,I,hb,hs,ht⟩
 ·cases r
 ·rw [hb.hc,G,Xgl];rw [<-ht,Xg7] at r
  split at r
  ·simpa using r
  cases r
theorem Ym.mod {S:Zf} {h':Zk} {sz:Nat} {s:Sl} {cells:Zc} (G:Ym h sz s cells) (H:Mod S h h') (hs:s.nl=false->¬ S s.b):Ym h' sz s cells:=by
 refine ⟨G.1,?_⟩;rcases G.2 with h1 | ⟨h1,I,r,J,h4,D,hb,M,O⟩
 ·exact .inl h1
 exact .inr ⟨h1,I,r,J,h4,D,H.blk hb (hs h1),M,O⟩
theorem Ym.set {s:Sl} {cells:Zc} (G:Ym h 1 s cells) {i:Nat} {v:Value} (I:i<cells.length):Ym (Vd h s.b (s.o+i) v) 1 s (cells.set i v):=by
 refine ⟨by simp [G.1],?_⟩;rcases G.2 with ⟨_,rfl⟩ | ⟨h1,H,r,J,h4,D,hb,M,O⟩
 ·simp at I
 refine .inr ⟨h1,H,r,J,h4,D.setIfInBounds (s.o+i) v,hb.set,by simp [M],?_⟩;rw [H,Xgl,Xip,<-O,List.take_set]
theorem Ym.blk {sz:Nat} {s:Sl} {cells:Zc} (D:Ym h sz s cells) {i:Nat} (G:i<cells.length):∃ r,Xb h s.b r/\s.o+i<r.size/\s.nl=false:=by
 rcases D.2 with ⟨_,rfl⟩ | ⟨h1,J,H,M,h4,r,hb,O,I⟩
 ·simp at G
 refine ⟨r,hb,?_,h1⟩;have:cells.length<=r.size:=by rw [<-I,Xgp];simp;omega
 omega
theorem Ym.take {sz:Nat} {s:Sl} {cells:Zc} (I:Ym h sz s cells) {k:Nat} (D:k<=s.n):Ym h sz { s with n:=k } (cells.take (k * sz)):=by
 rcases I.2 with ⟨rfl,rfl⟩ | ⟨h1,J,G,M,h4,H,hb,O,R⟩
 ·have:k=0:=Nat.le_zero.1 D;subst this;exact ⟨by simp,.inl ⟨rfl,by simp⟩⟩
 have r:k * sz<=s.n * sz:=Xgi _ D;refine ⟨by rw [Xgp,I.1,Xg8 r],.inr ⟨h1,J,G,Xgk D M,h4,H,hb,O,?_⟩⟩;rw [<-R,Xiq,Xg8 r]
theorem Zfm {b:Nat}:∀ {vs:Zc} {o:Nat} {D:Array Value} {h:Zk},Xb h b D->o+vs.length<=D.size->(∀ v∈vs,v.oneCell'=true) ->
  ∃ h',hst h b o vs=some h'/\Xb h' b (D.toList.take o++vs++D.toList.drop (o+vs.length)).toArray/\Mod (fun j=>j=b) h h'/\h'.size=h.size:=by
 intro vs
 induction vs with
 | nil =>
  intro o D h hb _ _;refine ⟨h,rfl,?_,Mod.refl h,rfl⟩;simpa using hb
 | cons v r ih =>
  intro o D h hb H h1;have I:o<D.size:=by simp at H;omega
  obtain ⟨h',M,g2,O,R⟩:=ih (o:=o+1) (h:=Vd h b o v) hb.set (by simp at H ⊢;omega) (fun u hu=>h1 u (Xgg _ hu));refine ⟨h',?_,?_,Mod.trans (S:=fun j=>j=b) (Mod.set (S:=fun j=>j=b) rfl) O,by rw [R];simp⟩
  ·have G:(hc h b o).isSome=true:=by rw [hb.hc];simp [I]
   simp only [hst,G,hb.hfz,h1 v (by simp),Bool.not_false,Bool.and_self,if_true,M]
  have U:(D.toList.take o++(v::r)++D.toList.drop (o+(v::r).length))=((D.setIfInBounds o v).toList.take (o+1)++r++(D.setIfInBounds o v).toList.drop (o+1+r.length)):=by
   rw [Xip];have J:o<D.toList.length:=by simpa using I
   have h1:(D.toList.set o v).take (o+1)=D.toList.take o++[v]:=by
    rw [Xjq,if_pos J,List.take_append,Xgp,Xg8 (Nat.le_of_lt J),Xf7 (by simp;omega)];simp
   have V:(D.toList.set o v).drop (o+1+r.length)=D.toList.drop (o+(v::r).length):=by
    rw [List.drop_set_of_lt (by omega)];simp only [Xg5]
    congr 1
    omega
   rw [h1,V];simp
  rw [U];exact g2
theorem Zba {b:Nat}:∀ {l:Zc} {o:Nat},(∀ i v,l[i]? = some v->hc h b (o+i)=some v)->rd h b o l.length=some l:=by
 intro l
 induction l with
 | nil=>intro o _;rfl
 | cons v l ih =>
  intro o r;have h0:hc h b o=some v:=by have:=r 0 v rfl;simpa using this
  have h1:=ih (o:=o+1) fun i u D=>by have:=r (i+1) u (by simpa using D);rwa [show o+1+i=o+(i+1) by omega]
  simp only [Xg5,rd,h0,Xgj,h1]
theorem Zei (z:Array Value) (n:Nat):(Builtin.zeroCells z n).size=n * z.size:=by simp [Builtin.zeroCells]
theorem Vg {K:Ze} {sz bytes m:Nat} {zero:Array Value} {s:Sl} {cells nw:Zc} {x:Value} (U:Ym h sz s cells) (hx:Zf2 x=some m) (V:Vl h sz m x=some nw)
  (hl:nw.length=m * sz) (h1:∀ v∈nw,v.oneCell'=true) (hz:zero.size=sz) (hb:(s.n+m) * bytes<=140737488355328) (X:s.n+m<=9223372036854775807)
  (hk:∀ (M:Sl) (h':Zk),Ym h' sz M (cells++nw)->M.n=s.n+m->Mod (fun j=>s.nl=false/\j=s.b) h h'->((M.b=s.b/\M.nl=s.nl)\/(h.size<=M.b/\M.nl=false))->K M.v h') :
  Ef.wp h K (.append sz bytes zero) [s.v,x]:=by
 have r:(cells++nw).length=(s.n+m) * sz:=by rw [Xf9,U.1,hl,Xgm]
 have aa:s.v = .slice (if s.nl then none else some ⟨s.b,s.o,s.sp⟩) s.n s.c:=rfl;rw [aa];simp only [Ef.wp,hx,V];have G:∀ (H:Zc) (t:TypeId) (D:Nat),H=cells->s.n+m<=D->D<=9223372036854775807 ->
   K (.slice (some ⟨h.size,0,none⟩) (s.n+m) D) (h.push (.cells (H.toArray++nw.toArray++Builtin.zeroCells zero (D-(s.n+m))) t)):=by
  intro H t D he hge I;subst he;have hO:Ym (h.push (.cells (H.toArray++nw.toArray++Builtin.zeroCells zero (D-(s.n+m))) t)) sz (Sl.at h.size (s.n+m) D) (H++nw):=by
   refine ⟨r,.inr ⟨rfl,rfl,rfl,hge,I,_,Xb.new,?_,?_⟩⟩
   ·simp only [Xio,Xhv,Zei,hz,U.1,hl,<-Xgm,Sl.at_c]
    congr 1
    omega
   simp only [Array.toList_append,Sl.at_n];rw [<-r];exact Xir
  exact hk (Sl.at h.size (s.n+m) D) _ hO rfl Mod.push (.inr ⟨Xfy _,rfl⟩)
 rcases U.2 with ⟨rfl,rfl⟩ | ⟨g1,g2,O,g3,g4,ab,gb,g5,g6⟩
 ·have R:Sl.nil.n=0:=rfl;simp only [Sl.nil,if_true];by_cases hm:0+m<=0
  ·rw [if_pos hm];have ac:m=0:=by omega
   subst ac;have ad:nw=[]:=Xgw (by simpa using hl);subst ad;exact hk Sl.nil h Ym.nil rfl (Mod.refl h) (.inl ⟨rfl,rfl⟩)
  rw [if_neg hm];refine ⟨by simpa [R] using X,by simpa [R] using hb,?_⟩;simp only [Vl];intro t D hge I;exact G [] t D rfl (by simpa [R] using hge) I
 simp only [g1,O,Xga,if_false];have J:rd h s.b s.o (s.n * sz)=some cells:=by
  rw [<-U.1];exact Zba fun i v hi=>U.cell hi
 by_cases hr:s.n+m<=s.c
 ·rw [if_pos hr];have Z:s.n * sz+nw.length<=ab.size:=by rw [hl,g5,<-Xgm];exact Xgi _ hr
  obtain ⟨h',q1,q2,q3,q4⟩:=Zfm (o:=s.n * sz) (vs:=nw) gb Z h1;rw [g2,Xgl,q1];have hO:Ym h' sz { s with n:=s.n+m } (cells++nw):=by
   refine ⟨r,.inr ⟨g1,g2,O,hr,g4,_,q2,?_,?_⟩⟩
   ·simp only [Xhv,Xf9,Xgp,Xi5,Xhb];omega
   simp only;rw [g6,<-r];exact Xir
  have:=hk { s with n:=s.n+m } h' hO rfl (q3.mono fun i _ hi=>⟨g1,hi⟩) (.inl ⟨rfl,rfl⟩);simpa only [Sl.v,g1,g2,O,Xga,if_false] using this
 rw [if_neg hr];refine ⟨X,hb,?_⟩;simp only [Vl,J];intro t D hge I;exact G cells t D rfl hge I
theorem Xf {s:Sl}:Zf2 s.v=some s.n:=rfl
theorem Zfj {b n c sz m:Nat}:Vl h sz m (.slice (some ⟨b,0,none⟩) n c)=rd h b 0 (m * sz):=rfl
theorem Z3a {z v:Value} (hv:v.oneCell'=true):Instr.fill (fun i=>some (i * 1,1)) (Xy #[z] (1 * 1)) ([0].zip [v])=some #[v]:=by
 have r:v.cells=#[v]:=by cases v <;> first | rfl | (cases hv)
 simp [Ui,Instr.fill,r]
theorem Zlh {K:Ze} {z v:Value} (hv:v.oneCell'=true) :
  Ef.wp h K (.bslice 1 1 #[z] [0]) [v] = ∀ t:TypeId,K (.slice (some ⟨h.size,0,none⟩) 1 1) (h.push (.cells #[v] t)):=by
 simp only [Ef.wp,Z3a hv]
theorem Qy {K:Ze} {z:Value} {k:IntKind} {n:Int} :
  Ef.wp h K (.bslice 1 1 #[z] [0]) [.int k n] = ∀ t:TypeId,K (.slice (some ⟨h.size,0,none⟩) 1 1) (h.push (.cells #[.int k n] t)):=Zlh rfl
theorem Zcf {K:Ze} {bytes:Nat} {z v:Value} {s:Sl} {cells:Zc} {t:TypeId} (hv:v.oneCell'=true) (I:Ym h 1 s cells)
  (hb:(s.n+1) * bytes<=140737488355328) (G:s.n+1<=9223372036854775807)
  (J:∀ (r:Sl) (h':Zk),Ym h' 1 r (cells++[v])->r.n=s.n+1->Mod (fun j=>s.nl=false/\j=s.b) h h'->((r.b=s.b/\r.nl=s.nl)\/(h.size<=r.b/\r.nl=false))->K r.v h') :
  Ef.wp (h.push (.cells #[v] t)) K (.append 1 bytes #[z]) [s.v,.slice (some ⟨h.size,0,none⟩) 1 1]:=by
 have H:Ym (h.push (.cells #[v] t)) 1 s cells:=I.mod (S:=fun _=>False) Mod.push (fun _ h=>h);have D:Xb (h.push (.cells #[v] t)) h.size #[v]:=Xb.new;refine Vg H (m:=1) rfl (nw:=[v]) ?_ rfl (by simpa using hv) rfl hb G ?_
 ·rw [Zfj];exact Zba (l:=[v]) fun i u M=>by rw [D.hc];simpa using M
 intro r h' h1 O R h4;refine J r h' h1 O ?_ ?_
 ·exact Mod.trans (S:=fun j=>s.nl=false/\j=s.b) Mod.push R
 rcases h4 with h4 | h4
 ·exact .inl h4
 refine .inr ⟨?_,h4.2⟩;have:=h4.1;simp at this;omega
theorem Zpi {K:Ze} {sz:Nat} {p q:Value} (hs:Ef.wp h K (.store sz) [p,q]) :
  ∃ b o h',p = .pointer (some ⟨b,o,none⟩)/\q.cells.size=sz/\hst h b o q.cells.toList=some h'/\K undef h':=by
 cases p with
 | pointer a =>
  cases a with
  | none=>exact hs.elim
  | some a =>
   obtain ⟨b,o,s⟩:=a
   cases s with
   | some s=>exact hs.elim
   | none =>
    obtain ⟨h1,r⟩:=hs
    cases D:hst h b o q.cells.toList with
    | none=>rw [D] at r;exact r.elim
    | some h'=>rw [D] at r;exact ⟨b,o,h',rfl,h1,D,r⟩
 | _=>exact hs.elim
theorem Qh {K:Ze} {b o:Nat} {v:Value} (hv:v.oneCell'=true) :
  Ef.wp h K (.store 1) [.pointer (some ⟨b,o,none⟩),v]=((hc h b o).isSome=true/\hfz h b o=false/\K undef (Vd h b o v)):=by
 have D:v.cells=#[v]:=by cases v <;> first | rfl | (cases hv)
 apply propext;constructor
 ·intro G;obtain ⟨b',M,h',e,_,r,H⟩:=Zpi G
  cases e
  simp only [D,hst] at r
  split at r
  ·rename_i hc;simp only [Xf4,Xhg] at hc
   cases r
   exact ⟨hc.1.1,hc.1.2,H⟩
  cases r
 rintro ⟨h1,I,J⟩;exact Zz5 hv h1 I J
section stores
variable {K:Ze} {b o:Nat}
def Xt (h:Zk) (b o:Nat) (v:Value) (k:Ze):Prop:=(hc h b o).isSome=true/\hfz h b o=false/\k undef (Vd h b o v)
theorem Xt.open {v:Value} {k:Ze}:Xt h b o v k=((hc h b o).isSome=true/\hfz h b o=false/\k undef (Vd h b o v)):=rfl
@[simp] theorem Z7j {k:IntKind} {n:Int}:Ef.wp h K (.store 1) [.pointer (some ⟨b,o,none⟩),.int k n]=Xt h b o (.int k n) K:=Qh rfl
@[simp] theorem Z5w {c:Bool}:Ef.wp h K (.store 1) [.pointer (some ⟨b,o,none⟩),.bool c]=Xt h b o (.bool c) K:=Qh rfl
@[simp] theorem Z7i {s:Sl}:Ef.wp h K (.store 1) [.pointer (some ⟨b,o,none⟩),s.v]=Xt h b o s.v K:=Qh rfl
@[simp] theorem Z7f {a:Option Addr}:Ef.wp h K (.store 1) [.pointer (some ⟨b,o,none⟩),.pointer a]=Xt h b o (.pointer a) K:=Qh rfl
end stores
def Zfa (c:Array Value) (o:Nat):Zc->Array Value
 | []=>c
 | v::r=>Zfa (c.setIfInBounds o v) (o+1) r
theorem Zmx:∀ {vs:Zc} {c:Array Value} {o:Nat},o+vs.length<=c.size->(Zfa c o vs).toList=c.toList.take o++vs++c.toList.drop (o+vs.length):=by
 intro vs
 induction vs with
 | nil=>intro c o _;simp [Zfa]
 | cons v r ih =>
  intro c o D;simp only [Xg5] at D;rw [Zfa,ih (by simp;omega)];have G:o<c.toList.length:=by simp;omega
  have h1:(c.toList.set o v).take (o+1)=c.toList.take o++[v]:=by
   rw [Xjq,if_pos G,List.take_append,Xgp,Xg8 (Nat.le_of_lt G),Xf7 (by simp;omega)];simp
  have H:(c.toList.set o v).drop (o+1+r.length)=c.toList.drop (o+(v::r).length):=by
   rw [List.drop_set_of_lt (by omega)];simp only [Xg5]
   congr 1
   omega
  rw [Xip,h1,H];simp
end
structure Z9d (h:Zk) (s:Sl) (k:IntKind) (f:Nat->Int):Prop where
 ok:s.ok
 val:∀ i,i<s.n->hc h s.b (s.o+i)=some (.int k (f i))
def Zy (e:Zc) (k:Nat):Nat :=
 match e.getD k undef with
 | .int _ n=>n.toNat
 | _=>0
def Xcr (e:Zc) (k:Nat):Int:=match e.getD k undef with | .int _ n=>n | _=>0
theorem Mod.ext {S:Zf} {h0 h h':Zk} (h1:Ext h0 h) (r:Mod S h h') (hs:∀ b,S b->h0.size<=b):Ext h0 h' :=
 Mod.then h1 r fun i G D=>absurd (hs i D) (by omega)
end Go.Rm
namespace Go.Rm
open Go.ChangeShapes Go.WideShapes Go.ChangeAt Go.RowKit
section
variable {H:Type} {enc:TypeId × Value->H} {P:Program}
theorem Ext.same {W W':World} (r:Ext W.heap W'.heap) {p:MemPlace} (hp:p.block<W.heap.size):W.sameAt W' p:=by
 cases p with
 | cell b o =>
  have:=r.get b hp (fun h=>h);simp only [World.sameAt,World.cell?,this]
 | map b=>exact r.get b hp (fun h=>h)
theorem Ext.kept {W W':World} (G:Ext W.heap W'.heap) (hs:Same W W') (r:MemPlace->Prop):W.keptBut W' r:=by
 refine ⟨hs.2.1,hs.2.2,fun i I=>?_⟩;rw [G.get i I (fun h=>h)]
 cases hx:W.heap[i]? with
 | none=>trivial
 | some x =>
  cases x with
  | cells c t fr=>exact ⟨rfl,rfl,rfl,fun _ _=>rfl⟩
  | map J D=>exact .inr ⟨rfl,rfl⟩
  | _=>rfl
theorem Zex {W W':World} (G:laidOutB P=true) (I:Ext W.heap W'.heap) {J:Nat->Bool} :
  ∀ {ts:List TypeId} {vs:Zc} {ds:List (DataW H)} {ps:List MemPlace},(∀ t∈ts,P.readableRec t=true/\t<P.types.size)->DataW.TrodAll enc P W 0 (fun _=>true) true ts vs ds ps ->
   (∀ p∈ps,p.block<W.heap.size)->(∀ p∈ps,J p.block=true)->DataW.TrodAll enc P W' 0 J true ts vs ds ps
 | [],_,_,_,_,h,_,_=>by
  obtain ⟨rfl,rfl,rfl⟩:=trodAll_nil h
  rfl
 | t::ts,_,_,_,ht,h,r,D=>by
  obtain ⟨v,M,d,O,a,b,rfl,rfl,rfl,h1,R⟩:=trodAll_cons h;obtain ⟨U,g2⟩:=ht t (by simp);exact ⟨a,b,Go.WideElems.Trod_stays G U g2 h1 (fun p hp=>I.same (r p (Xjm _ hp))) (fun p hp=>D p (Xjm _ hp)),
   Zex G I (fun u hu=>ht u (Xgg _ hu)) R (fun p hp=>r p (Xhs _ hp)) (fun p hp=>D p (Xhs _ hp)),rfl⟩
theorem Zjo {D:Nat} {r:Nat->Bool} {Ww:Bool} {w:World}:∀ {ts:List TypeId} {vs:Zc} {ds:List (DataW H)} {ps:List MemPlace},DataW.TrodAll enc P w D r Ww ts vs ds ps->ds.length=ts.length
 | [],_,_,_,h=>by
  obtain ⟨rfl,rfl,_⟩:=trodAll_nil h
  rfl
 | _::_,_,_,_,h=>by
  obtain ⟨v,G,d,I,a,b,rfl,rfl,rfl,_,J⟩:=trodAll_cons h;simp [Zjo J]
def Zxq (s:ChangeSpec) (n:Nat):Prop:=s.vars=[]/\∀ (H:Type) (ds:List (DataW H)),ds.length=n->s.fn H ds = { results:=[.lit (.bool true)],args:=ds }
theorem Z4a {J:Func} {s:ChangeSpec} {Zcs O D R:Bool} {W W':World} {args:Array Value} {ds gs:List (DataW H)} {G:List MemPlace} {tb:TypeId}
  (hs:Zxq s J.params.size) (hl:laidOutB P=true) (hr:∀ t∈J.params.toList,P.readableRec t=true/\t<P.types.size) (hb:J.resultTypes=#[tb]) (X:P.underlying tb=some .bool)
  (hW:DataW.Whole enc P J.params.toList s.vars Zcs W args.toList ds gs G) (he:Ext W.heap W'.heap) (U:Same W W') :
  s.post enc P J Zcs O D R W args (.bool true) W':=by
 have I:=hW.lt;have aa:=hW;obtain ⟨p,q,hA,hV,rfl,hz,hn⟩:=hW;rw [hs.1] at hV;obtain ⟨rfl,rfl⟩:=trodVars_none hV;simp only [Xie] at *
 have Z:ds.length=J.params.size:=by have:=Zjo hA;simpa using this
 have V:=hs.2 H ds Z;have M:∀ (b:Nat) (sp:Nat->Bool) (hd:Bool),DataW.TrodAll enc P W' b sp hd J.resultTypes.toList ((Value.bool true).resultList J.resultTypes.size) (s.fn H ds).results []:=by
  intro b sp hd;rw [V,hb];exact trodAll_mk1 ⟨1,by simp [DataW.trod,X,Value.cells]⟩
 refine ⟨ds,[],p,[],p,[],aa,?_,?_,?_,he.kept U _,fun _=>?_⟩
 ·simpa using M _ _ _
 ·simp only [Xie];rw [V];exact Zex hl he hr hA I (fun x hx=>by simpa using I x hx)
 ·rw [hs.1];simp only [Xie];rw [V];rfl
 refine ⟨?_,_,[],p,⟨p,[],trodAll_append (Zex hl he hr hA I (fun _ _=>rfl)) (M _ _ _),by rw [hs.1];rfl,by simp,?_,?_⟩,fun x hx _=>hx⟩
 ·intro j t r h1 h2;rw [hb] at h1 h2
  match j with
  | 0 =>
   have e1:t=tb:=by simpa using h1.symm
   have e2:r = .bool true:=by simpa [Value.resultList] using h2.symm
   subst e1;subst e2;simp [Value.okWide,X,Cell.okWide,Cell.ok]
  | j+1=>simp at h1
 ·intro b ab hp;have h1:=hz b ab hp;have h2:=he.get b (I _ hp) (fun h=>h);simp only [World.frozen?,h2] at h1 ⊢;exact h1
 intro ha;exact hn ha
def Read (enc:TypeId × Value->H) (P:Program) (W:World) (base:Nat) (t:TypeId) (cs:Zc):Prop:=∃ n x,DataW.trod enc P W base (fun _=>true) true n t cs=some x
theorem Read.of {W:World} {r:Nat} {t:TypeId} {v:Value} {d:DataW H} {ps:List MemPlace} (h:DataW.Trod enc P W r (fun _=>true) true t v d ps):Read enc P W r t v.cells.toList:=by
 obtain ⟨n,h⟩:=h;exact ⟨n,_,h⟩
def Zhs (P:Program) (t:TypeId) (v:Value):Prop :=
 (match P.underlying t with
 | some (.struct _) | some (.array _ _)=>∃ cs,v = .agg cs
 | _=>v.cells=#[v])/\∀ a n c,v = .slice (some a) n c->a.spot=none
theorem Zhs.of {W:World} {r:Reach} {D:Nat} {t:TypeId} {v:Value} (h:Value.okWide P W r D t v):Zhs P t v:=by
 unfold Value.okWide at h;unfold Zhs
 split at h
 ·rename_i G hf;obtain ⟨cs,rfl,_⟩:=h;exact ⟨by rw [hf];exact ⟨_,rfl⟩,fun a n c e=>by cases e⟩
 ·rename_i n e hf;obtain ⟨cs,rfl,_⟩:=h;exact ⟨by rw [hf];exact ⟨_,rfl⟩,fun a n c e=>by cases e⟩
 rename_i h1 I;constructor
 ·split
  ·rename_i G hf;exact absurd hf (h1 G)
  ·rename_i n e hf;exact absurd hf (I n e)
  cases v with
  | agg cs =>
   unfold Cell.okWide at h
   split at h <;> simp_all [Cell.ok]
  | _=>rfl
 rintro a n c rfl;unfold Cell.okWide at h
 split at h <;> simp_all [Cell.ok]
 split at h
 all_goals first | exact h.elim | skip
 all_goals simp_all
 exact h.2.2.2.1
def Zb7 (enc:TypeId × Value->H) (P:Program) (W:World) (t:TypeId) (v:Value):Prop:=Read enc P W 0 t v.cells.toList/\Zhs P t v
def Z9g (enc:TypeId × Value->H) (P:Program) (W:World):List TypeId->Zc->Prop
 | [],[]=>True
 | t::ts,v::vs=>Zb7 enc P W t v/\Z9g enc P W ts vs
 | _,_=>False
theorem Zxc {W:World} {r:Reach} {D:Nat}:∀ {ts:List TypeId} {vs:Zc} {ds:List (DataW H)} {ps:List MemPlace},DataW.TrodAll enc P W 0 (fun _=>true) true ts vs ds ps ->
  (∀ (j:Nat) t v,ts[j]? = some t->vs[j]? = some v->Value.okWide P W r D t v)->Z9g enc P W ts vs
 | [],_,_,_,h,_=>by
  obtain ⟨rfl,rfl,rfl⟩:=trodAll_nil h
  trivial
 | t::ts,_,_,_,h,hv=>by
  obtain ⟨v,G,d,I,a,b,rfl,rfl,rfl,h1,J⟩:=trodAll_cons h;exact ⟨⟨Read.of h1,Zhs.of (hv 0 t v rfl rfl)⟩,Zxc J fun j M O R e2=>hv (j+1) M O (by simpa using R) (by simpa using e2)⟩
theorem Z5l {C:Checked} {os:Os} {f:FuncId} {M:Func} {s:ChangeSpec} {D:List PathCond} {Zcs R G U:Bool} {tb:TypeId} {X:World->Array Value->Prop}
  (hX:∀ (w w':World) (args:Array Value),w.heap=w'.heap->X w args->X w' args)
  (own:ownKnob C.prog.godebug=none) (I:os.Started) (O:C.prog.inits.idxOf? f=none) (ac:C.prog.funcs[f]? = some M)
  (J:∃ (w:World) (r:Tape) (i:Input),w.os=os/\(w.forCall r i).Shaped C.prog/\i.vars=[]/\Input.okWide C.prog (w.forCall r i) .any w.heap.size f i /\
   ((s.pre enc C.prog M D Zcs (w.forCall r i).memory i.args/\X (w.forCall r i).memory i.args)/\sizedMet enc C.prog M (OpenSpec.ofChange s) Zcs (w.forCall r i).memory i.args)/\({}:Assume).holds C.prog (lone (Frame.enter C.prog f i.args .normal) [] (w.forCall r i)))
  (hs:Zxq s M.params.size) (hl:laidOutB C.prog=true) (hr:∀ t∈M.params.toList,C.prog.readableRec t=true/\t<C.prog.types.size) (hb:M.resultTypes=#[tb]) (ad:C.prog.underlying tb=some .bool)
  (ae:∀ (W:World) (vs:Zc),(∃ args,X W args)->Z9g enc C.prog W M.params.toList vs->Zpe C.prog f vs W.heap fun v h'=>v = .bool true/\Ext W.heap h') :
  ReturnsInHanded {} C os f .any (fun w args=>(s.pre enc C.prog M D Zcs w args/\X w args)/\sizedMet enc C.prog M (OpenSpec.ofChange s) Zcs w args) (s.post enc C.prog M Zcs R G U):=by
 refine returnsInHanded_of_change_and (C:=C) hX own I O ac J ?_;intro W af args ds gs ab Z hW ag _ hx _;obtain ⟨p,q,hA,hV,he,hz,hn⟩:=id hW;have:=ae W args.toList ⟨args,hx⟩ (Zxc hA fun j t v h1 h2=>Z j t v (by simpa using h1) (by simpa using h2)) W rfl;simp only [Xjd] at this;refine this.mono ?_;rintro e W' ⟨v,rfl,⟨rfl,aa⟩,V⟩;exact ⟨_,rfl,Z4a hs hl hr hb ad hW aa V⟩
theorem Z9h {P:Program} {ts:Array TypeId} (h:(ts.toList.all fun t=>!P.wantsStandIn t)=true):∀ (j:Nat) (t:TypeId),ts[j]? = some t->P.wantsStandIn t=false:=by
 intro j t ht;have r:t∈ts.toList:=by
  have:=Array.mem_of_getElem? ht;simpa using this
 have:=List.all_eq_true.1 h t r;simpa using this
end
theorem Xdb {s:Zal} {j f:Nat} (D:s.fns.lookup j=some f) {xs:Zc} {h:Zk} {R:Ze} (hc:Zv s.sys j xs h R):Zpe s.P f xs h R:=by
 have r:s.sys.fid j=f:=by simp [Zal.sys,D]
 unfold Zv at hc;rw [r] at hc;exact hc
theorem Z8o {P:Program} {ts:List TypeId} (h:(ts.all fun t=>P.readableRec t && decide (t<P.types.size))=true):∀ t∈ts,P.readableRec t=true/\t<P.types.size:=by
 intro t ht;have:=List.all_eq_true.1 h t ht;simpa using this
end Go.Rm
namespace Go.Rm
open Go.ChangeShapes Go.WideShapes Go.Deep
section
variable {H:Type} {enc:TypeId × Value->H} {P:Program} {W:World} {base:Nat}
theorem Z3h {k:IntKind} {n:Int} (h:(Lit.int k n).wf=true):k.min<=n/\n<=k.max:=by
 simpa [Lit.wf] using h
theorem Read.int {t:TypeId} {k:IntKind} {cs:Zc} (ht:P.underlying t=some (.int k)) (h:Read enc P W base t cs):∃ n,cs=[.int k n]/\k.min<=n/\n<=k.max:=by
 obtain ⟨m,x,h⟩:=h;obtain ⟨n,rfl,_,r⟩:=DataW.trod_int ht h;exact ⟨n,rfl,Z3h r⟩
theorem Ztm (b o:Nat) (D:Option Nat) (j:Nat) (r:D=none):(Addr.mk b o D).add j=⟨b,o+j,none⟩:=by
 subst r;unfold Addr.add
 split
 ·rename_i h;subst h;rfl
 rfl
theorem Read.slice {t e:TypeId} {sz:Nat} {cs:Zc} (ht:P.underlying t=some (.slice e)) (U:P.cellsOf e=sz) (h0:0<sz) (h:Read enc P W base t cs) :
  ∃ s:Sl,cs=[s.v]/\s.ok/\s.c<=maxLen/\∀ i,i<s.n->∃ r,r.length=sz/\(∀ j,j<sz->hc W.heap s.b (s.o+i * sz+j)=r[j]?)/\Read enc P W base e r:=by
 obtain ⟨m,x,h⟩:=h;subst U;rcases open_slice ht h with ⟨rfl,rfl⟩ | ⟨⟨b,o,O⟩,len,cap,m,n,D,Pl,rfl,hb,V,X,J,rfl,hx⟩
 ·exact ⟨Sl.nil,rfl,Sl.nil_ok,by simp [Sl.nil],fun i R=>by simp [Sl.nil] at R⟩
 simp only [if_true] at J;subst J;have M:O=none\/m=0:=by
  rcases Xhj m with h | h
  ·exact .inr h
  left;obtain ⟨r,h1,_⟩:=hx 0 h;obtain ⟨_,I,G⟩:=World.cells?_some h1
  cases O with
  | none=>rfl
  | some q =>
   have:=G 0 h0;rw [Xg6 (by omega)] at this;simp [Addr.add,World.cell?] at this
   split at this <;> cases this
 refine ⟨⟨b,o,len,m,false,O⟩,rfl,⟨fun h=>(by cases h),V,M⟩,X,fun i R=>?_⟩;have R:i<len:=R;obtain ⟨r,h1,Z⟩:=hx i (by omega);obtain ⟨_,I,G⟩:=World.cells?_some h1;refine ⟨r,I,fun j hj=>?_,⟨n,_,Z⟩⟩;have:=G j hj;have hs:O=none:=M.resolve_right (by omega);rw [Ztm _ _ _ _ hs,Ztm _ _ _ _ rfl] at this;rw [<-Zkb];exact this
theorem Read.ints {t e:TypeId} {k:IntKind} {cs:Zc} (ht:P.underlying t=some (.slice e)) (J:P.underlying e=some (.int k)) (G:P.cellsOf e=1) (h:Read enc P W base t cs) :
  ∃ (s:Sl) (f:Nat->Int),cs=[s.v]/\s.c<=maxLen/\Z9d W.heap s k f/\∀ i,i<s.n->k.min<=f i/\f i<=k.max:=by
 obtain ⟨s,rfl,I,M,hx⟩:=h.slice ht G (by omega);obtain ⟨f,hf⟩:=choose_lt (α:=Int) (n:=s.n) (p:=fun i n=>hc W.heap s.b (s.o+i)=some (.int k n)/\k.min<=n/\n<=k.max) (fun i r=>by
  obtain ⟨O,V,D,R⟩:=hx i r;obtain ⟨n,rfl,h1,U⟩:=R.int J;have:=D 0 (by omega);simp at this;exact ⟨n,this,h1,U⟩)
 exact ⟨s,f,rfl,M,⟨I,fun i r=>(hf i r).1⟩,fun i r=>(hf i r).2⟩
theorem Read.struct {t:TypeId} {r:Array Field} {cs:Zc} (ht:P.underlying t=some (.struct r)) (h:Read enc P W base t cs) :
  cs.length=P.cellsOf t/\∀ (i:Nat) (f:Field),r[i]? = some f->Read enc P W base f.type ((cs.drop f.offset).take (P.cellsOf f.type)):=by
 obtain ⟨m,x,h⟩:=h;obtain ⟨xs,n,_,rfl,I,D,hf⟩:=DataW.trod_struct ht h;refine ⟨I,fun i f G=>?_⟩;have h1:=hf i f G;have J:i<r.size:=(Array.getElem?_eq_some_iff.1 G).1;rw [Xg6 (by omega)] at h1;exact ⟨n,_,h1⟩
theorem Zb7.int {t:TypeId} {k:IntKind} {v:Value} (h:Zb7 enc P W t v) (ht:P.underlying t=some (.int k)):∃ n,v = .int k n/\k.min<=n/\n<=k.max:=by
 obtain ⟨n,h1,r⟩:=h.1.int ht;have:=h.2.1;simp only [ht] at this;rw [this] at h1;exact ⟨n,by simpa using h1,r⟩
theorem Zb7.slice {t e:TypeId} {v:Value} (h:Zb7 enc P W t v) (ht:P.underlying t=some (.slice e)):Read enc P W 0 t [v]:=by
 have:=h.2.1;simp only [ht] at this;have h1:=h.1;rw [this] at h1;exact h1
theorem Zc2 {l:Zc} {o:Nat} {v:Value} (h:(l.drop o).take 1=[v]):l[o]? = some v:=by
 have:((l.drop o).take 1)[0]? = some v:=by rw [h];rfl
 rw [List.getElem?_take_of_lt (by omega),Xhd] at this;simpa using this
theorem Read.fint {t:TypeId} {r:Array Field} {cs:Zc} {i:Nat} {f:Field} {k:IntKind} (h:Read enc P W base t cs) (ht:P.underlying t=some (.struct r)) (hf:r[i]? = some f) (D:P.underlying f.type=some (.int k))
  (hc:P.cellsOf f.type=1):∃ n,cs[f.offset]? = some (.int k n)/\k.min<=n/\n<=k.max:=by
 have:=(h.struct ht).2 i f hf;rw [hc] at this;obtain ⟨n,h1,G⟩:=this.int D;exact ⟨n,Zc2 h1,G⟩
theorem Read.fslice {t e:TypeId} {D:Array Field} {cs:Zc} {i:Nat} {f:Field} (h:Read enc P W base t cs) (ht:P.underlying t=some (.struct D)) (hf:D[i]? = some f) (G:P.underlying f.type=some (.slice e))
  (hc:P.cellsOf f.type=1):∃ v,cs[f.offset]? = some v/\Read enc P W base f.type [v]:=by
 have:=(h.struct ht).2 i f hf;rw [hc] at this;have h0:=this;obtain ⟨m,x,h⟩:=h0;rcases open_slice G h with ⟨r,_⟩ | ⟨_,_,_,_,_,_,_,r,_⟩
 ·exact ⟨_,Zc2 r,by rw [<-r];exact this⟩
 exact ⟨_,Zc2 r,by rw [<-r];exact this⟩
theorem Read.agg {t:TypeId} {D:Array Field} {v:Value} (h:Read enc P W base t v.cells.toList) (ht:P.underlying t=some (.struct D)) (hc:P.cellsOf t≠1):∃ cs,v = .agg cs/\cs.size=P.cellsOf t/\Read enc P W base t cs.toList:=by
 have r:=(h.struct ht).1
 cases v with
 | agg cs=>exact ⟨cs,rfl,by simpa [Value.cells] using r,h⟩
 | _=>simp [Value.cells] at r;exact absurd r.symm hc
end
noncomputable section
inductive U2 where
 | cells (cs:Zc) (sz:Nat) (ex fz:Bool)
 | dead
 | map (es:List MapEntry)
inductive Tr where
 | e
 | l (v:U2)
 | n (a b:Tr)
def ob {α β:Type} (o:Option α) (f:α->Option β):Option β:=Option.rec (motive:=fun _=>Option β) none f o
def bf {α:Type} (b:Bool) (x y:α):α:=Bool.rec (motive:=fun _=>α) y x b
def Tr.get (d:Nat):Tr->Nat->Option U2:=Nat.rec (motive:=fun _=>Tr->Nat->Option U2)
 (fun t _=>Tr.rec (motive:=fun _=>Option U2) none (fun v=>some v) (fun _ _ _ _=>none) t)
 (fun _ ih t i=>Tr.rec (motive:=fun _=>Option U2) none (fun _=>none) (fun a b _ _=>bf (Nat.beq (Nat.mod i 2) 0) (ih a (Nat.div i 2)) (ih b (Nat.div i 2))) t) d
def Tr.set (d:Nat):Tr->Nat->U2->Tr:=Nat.rec (motive:=fun _=>Tr->Nat->U2->Tr)
 (fun _ _ v=>.l v)
 (fun _ ih t i v=>Tr.rec (motive:=fun _=>Tr) (bf (Nat.beq (Nat.mod i 2) 0) (.n (ih .e (Nat.div i 2) v) .e) (.n .e (ih .e (Nat.div i 2) v)))
  (fun _=>bf (Nat.beq (Nat.mod i 2) 0) (.n (ih .e (Nat.div i 2) v) .e) (.n .e (ih .e (Nat.div i 2) v))) (fun a b _ _=>bf (Nat.beq (Nat.mod i 2) 0) (.n (ih a (Nat.div i 2) v) b) (.n a (ih b (Nat.div i 2) v))) t) d
inductive AH where
 | mk (n:Nat) (t:Tr) (w:Nat)
def lg (l:Zc):Nat->Value:=List.rec (motive:=fun _=>Nat->Value) (fun _=>undef) (fun x _ ih n=>Nat.rec (motive:=fun _=>Value) x (fun m _=>ih m) n) l
def lgo (l:Zc):Nat->Option Value:=List.rec (motive:=fun _=>Nat->Option Value) (fun _=>none) (fun x _ ih n=>Nat.rec (motive:=fun _=>Option Value) (some x) (fun m _=>ih m) n) l
def Z3d (l:Zc):Nat->Value->Zc:=List.rec (motive:=fun _=>Nat->Value->Zc) (fun _ _=>[]) (fun x r ih n v=>Nat.rec (motive:=fun _=>Zc) (v::r) (fun m _=>x::ih m v) n) l
def Zdk (l m:Zc):Zc:=List.rec (motive:=fun _=>Zc) m (fun x _ ih=>x::ih) l
def Z8w (n:Nat):Zc->Zc:=Nat.rec (motive:=fun _=>Zc->Zc) (fun l=>l) (fun _ ih l=>List.rec (motive:=fun _=>Zc) [] (fun _ r _=>ih r) l) n
def Z12 (n:Nat):Zc->Option Zc:=Nat.rec (motive:=fun _=>Zc->Option Zc) (fun _=>some []) (fun _ ih l=>List.rec (motive:=fun _=>Option Zc) none (fun x r _=>ob (ih r) fun r'=>some (x::r')) l) n
def unk:Value:=.chan none
def Zqf (v:Value):Bool:=match v with
 | .agg _ | .tuple _ | .chan _=>false
 | _=>true
def Zym (vs:Zc):Zc->Option Zc:=List.rec (motive:=fun _=>Zc->Option Zc) (fun l=>some l) (fun v _ ih l=>List.rec (motive:=fun _=>Option Zc) none (fun _ r _=>bf (Zqf v) (ob (ih r) fun r'=>some (v::r')) none) l) vs
def Zpb (o:Nat) (vs:Zc):Zc->Option Zc:=Nat.rec (motive:=fun _=>Zc->Option Zc) (fun l=>Zym vs l) (fun _ ih l=>List.rec (motive:=fun _=>Option Zc) none (fun x r _=>ob (ih r) fun r'=>some (x::r')) l) o
def onC {α:Type} (o:Option U2) (f:Zc->Nat->Bool->Bool->Option α):Option α:=ob o fun x=>U2.rec (motive:=fun _=>Option α) f none (fun _=>none) x
def AH.gt (h:AH) (i:Nat):Option U2:=AH.rec (motive:=fun _=>Option U2) (fun _ t _=>Tr.get 13 t i) h
def AH.sz (h:AH):Nat:=AH.rec (motive:=fun _=>Nat) (fun n _ _=>n) h
def AH.low (h:AH):Nat:=AH.rec (motive:=fun _=>Nat) (fun _ _ w=>w) h
def Zmb (a b:Nat):Nat:=bf (Nat.ble a b) a b
def AH.put (h:AH) (i:Nat) (v:U2):AH:=AH.rec (motive:=fun _=>AH) (fun n t w=>.mk n (Tr.set 13 t i v) (Zmb w (Nat.mod i 8192))) h
def AH.cell (h:AH) (b o:Nat):Option Value:=onC (h.gt b) fun cs _ _ _=>lgo cs o
def AH.rd (h:AH) (b o n:Nat):Option Zc:=onC (h.gt b) fun cs _ _ _=>Z12 n (Z8w o cs)
def AH.wr (h:AH) (b o:Nat) (vs:Zc):Option AH:=onC (h.gt b) fun cs sz ex fz=>ob (Zpb o vs cs) fun cs'=>some (h.put b (.cells cs' sz ex fz))
def AH.nw {α:Type} (h:AH) (v:U2) (f:Nat->AH->Option α):Option α:=AH.rec (motive:=fun _=>Option α) (fun n t w=>bf (Nat.ble n 8000) (f n (.mk (Nat.succ n) (Tr.set 13 t n v) w)) none) h
def Y0:Sys:=⟨id,id,id,fun _ _ _ _=>False,fun h _=>h.elim,fun _=>False⟩
def Z0r (h:AH) (r:Option Nat):Option (List MapEntry):=Option.rec (motive:=fun _=>Option (List MapEntry)) (some []) (fun r=>ob (h.gt r) fun x=>U2.rec (motive:=fun _=>Option (List MapEntry)) (fun _ _ _ _=>none) none (fun es=>some es) x) r
def on1 {α:Type} (xs:Zc) (f:Value->Option α):Option α:=List.rec (motive:=fun _=>Option α) none (fun x r _=>List.rec (motive:=fun _=>Option α) (f x) (fun _ _ _=>none) r) xs
def on2 {α:Type} (xs:Zc) (f:Value->Value->Option α):Option α:=List.rec (motive:=fun _=>Option α) none (fun x r _=>on1 r (f x)) xs
def on3 {α:Type} (xs:Zc) (f:Value->Value->Value->Option α):Option α:=List.rec (motive:=fun _=>Option α) none (fun x r _=>on2 r (f x)) xs
def Zm9:IntKind->IntKind->Bool
 | .i64,.i64=>true
 | .u8,.u8=>true
 | .u16,.u16=>true
 | .u32,.u32=>true
 | .u64,.u64=>true
 | .i32,.i32=>true
 | .i8,.i8=>true
 | .i16,.i16=>true
 | _,_=>false
def onI {α:Type} (n:Int) (f g:Nat->α):α:=Int.rec (motive:=fun _=>α) f g n
def iEq (a b:Int):Bool:=onI a (fun x=>onI b (fun y=>Nat.beq x y) fun _=>false) fun x=>onI b (fun _=>false) fun y=>Nat.beq x y
def iLe (a b:Int):Bool:=onI a (fun x=>onI b (fun y=>Nat.ble x y) fun _=>false) fun x=>onI b (fun _=>true) fun y=>Nat.ble y x
def Xc6 (a b:Int):Int:=onI a (fun x=>onI b (fun y=>.ofNat (Nat.add x y)) fun y=>bf (Nat.ble (Nat.succ y) x) (.ofNat (Nat.sub x (Nat.succ y))) (.negSucc (Nat.sub y x)))
 fun x=>onI b (fun y=>bf (Nat.ble (Nat.succ x) y) (.ofNat (Nat.sub y (Nat.succ x))) (.negSucc (Nat.sub x y))) fun y=>.negSucc (Nat.succ (Nat.add x y))
def Xch (a b:Int):Int:=onI a (fun x=>onI b (fun y=>bf (Nat.ble y x) (.ofNat (Nat.sub x y)) (.negSucc (Nat.sub (Nat.sub y x) 1))) fun y=>.ofNat (Nat.add x (Nat.succ y)))
 fun x=>onI b (fun y=>.negSucc (Nat.add x y)) fun y=>bf (Nat.ble x y) (.ofNat (Nat.sub y x)) (.negSucc (Nat.sub (Nat.sub x y) 1))
def frc {α:Type} (n:Nat) (f:Nat->α):α:=Nat.rec (motive:=fun _=>α) (f 0) (fun m _=>f (Nat.succ m)) n
def Z8m:IntKind->Bool
 | .i64=>true
 | _=>false
def Zxw (k:IntKind) (n:Int):Option Value:=bf (Z8m k)
 (onI n (fun a=>bf (Nat.ble a 9223372036854775807) (frc a fun a=>some (.int k (.ofNat a))) (some (.int k (k.wrap n)))) (fun a=>bf (Nat.ble a 9223372036854775807) (frc a fun a=>some (.int k (.negSucc a))) (some (.int k (k.wrap n)))))
 (some (.int k (k.wrap n)))
def bl (b:Bool):Option Value:=bf b (some (.bool true)) (some (.bool false))
def ibF (op:BinOp) (k:IntKind) (a:Int) (yk:IntKind) (b:Int):Option Value :=
 match op with
 | .add=>bf (Zm9 k yk) (Zxw k (Xc6 a b)) none
 | .sub=>bf (Zm9 k yk) (Zxw k (Xch a b)) none
 | .eql=>bf (Zm9 k yk) (bl (iEq a b)) none
 | .neq=>bf (Zm9 k yk) (bl (Bool.not (iEq a b))) none
 | .lss=>bf (Zm9 k yk) (bl (Bool.not (iLe b a))) none
 | .leq=>bf (Zm9 k yk) (bl (iLe a b)) none
 | .gtr=>bf (Zm9 k yk) (bl (Bool.not (iLe a b))) none
 | .geq=>bf (Zm9 k yk) (bl (iLe b a)) none
 | op=>X8 op k a yk b
def Xc3 (op:BinOp):Value->Value->Option Value
 | .int k a,.int yk b=>ibF op k a yk b
 | _,_=>none
def Z5g:Value->Value->Value->Option Value
 | .bool c,a,b=>bf c (some a) (some b)
 | _,_,_=>none
def onP {α:Type} (v:Value) (f:Nat->Nat->Option α):Option α:=match v with
 | .pointer (some ⟨b,o,none⟩)=>f b o
 | _=>none
def Z1z (off:Nat) (v:Value):Option Value:=onP v fun b o=>frc (Nat.add o off) fun o=>some (.pointer (some ⟨b,o,none⟩))
def Zv0 (sz:Nat):Value->Value->Option Value
 | .slice (some ⟨b,o,none⟩) n _,.int _ (.ofNat i)=>bf (Nat.ble (Nat.succ i) n) (frc (Nat.add o (Nat.mul i sz)) fun o=>some (.pointer (some ⟨b,o,none⟩))) none
 | _,_=>none
def Zph (h:AH) (sz:Nat) (v:Value):Option Value:=onP v fun b o=>ob (h.rd b o sz) fun l=>some (.agg l.toArray)
def Z82:Value->Option Value
 | .slice _ n _=>some (.int .i64 (.ofNat n))
 | _=>none
def Xfs:Value->Option Value
 | .bool b=>bl (Bool.not b)
 | _=>none
def Z8n (i:Nat):Value->Option Value
 | .tuple vs=>lgo vs.toList i
 | _=>none
def E0:Value:=.slice (some ⟨0,0,some 0⟩) 0 0
def Z29 (h:AH) (sz:Nat) (a:Option Addr) (n c:Nat) (x:Nat × Nat):Option Value:=match a with
 | none=>some (.slice none (Nat.sub x.2 x.1) (Nat.sub c x.1))
 | some ⟨b,o,none⟩=>onC (h.gt b) fun _ _ ex _=>bf (Bool.or (Nat.ble (Nat.succ x.1) c) ex)
   (frc (bf (Nat.beq c x.1) o (Nat.add o (Nat.mul x.1 sz))) fun o'=>some (.slice (some ⟨b,o',none⟩) (Nat.sub x.2 x.1) (Nat.sub c x.1)))
   (some E0)
 | some ⟨_,_,some _⟩=>some E0
def Z8x (h:AH) (sz:Nat) (lo hi:Bool):Zc->Option Value
 | .slice a n c::r=>bf (Nat.ble n c) (ob (W0 n c lo hi r) fun x=>Z29 h sz a n c x) none
 | _=>none
def Xcq (h:AH) (v:Value):Option Value:=match v with
  | .slice none _ _=>some (.string .empty)
  | .slice (some ⟨b,o,none⟩) n _=>ob (h.rd b o n) fun l=>ob (Zcc l) fun s=>some (.string ⟨s.toArray⟩)
  | _=>none
def Xby (h:AH) (v:Value):Option Value:=match v with
  | .slice none _ c=>some (.int .i64 (.ofNat c))
  | .slice (some ⟨b,_,none⟩) _ c=>onC (h.gt b) fun _ _ ex _=>bf ex (some (.int .i64 (.ofNat c))) none
  | _=>none
def Z3b (xs:Zc):Option Value:=match xs with
  | [.slice a _ c,.int _ (.ofNat l),.int _ (.ofNat i),.int _ (.ofNat m)]=>bf (Nat.ble l i) (bf (Nat.ble i m) (bf (Nat.ble m c) (match a with
   | none=>some unk
   | some ⟨_,_,none⟩=>some unk
   | _=>none) none) none) none
  | _=>none
def Z8u (h:AH) (kk:Option Nat) (ok:Bool) (zero:Value) (m key:Value):Option Value:=match m with
  | .map r=>bf (Za1 kk key) (ob (Z0r h r) fun es=>ob (Ue kk key es 0) fun a=>match a with
   | some (_,v)=>some (bf ok (.tuple #[v,.bool true]) v)
   | none=>some (bf ok (.tuple #[zero,.bool false]) zero)) none
  | _=>none
def Z8k (h:AH) (v:Value):Option Value:=match v with
  | .map r=>ob (Z0r h r) fun es=>some (.int .i64 (.ofNat es.length))
  | _=>none
def Z9j:Yo->Bool
 | .nilck | .cntS | .idxBS | .sb _ | .eqb _ | .eqp _ | .eqi _ _ | .eqs _ | .eqf _ | .eqa _ _ | .un _ | .conv _ | .idxA _ _ | .idxS | .idxV _ _ _ | .fld _ _ _ | .slcS _ _ | .build _ _ _ | .buildA _ _ _ | .mkI _ | .lenS | .lenA _ | .mn | .mx | .mkf _ _=>true
 | _=>false
def nt (v:Value):Bool:=match v with
 | .tuple _ | .chan _=>false
 | _=>true
def Vf (xs:Zc):Bool:=List.rec (motive:=fun _=>Bool) true (fun x _ ih=>bf (nt x) ih false) xs
def opA (h:AH) (o:Yo) (xs:Zc):Option Value :=
 match o with
 | .mv=>on1 xs some
 | .pick=>on3 xs Z5g
 | .ib op=>on2 xs (Xc3 op)
 | .fadr off=>on1 xs (Z1z off)
 | .idxa sz=>on2 xs (Zv0 sz)
 | .len=>on1 xs Z82
 | .ext i=>on1 xs (Z8n i)
 | .load sz agg=>bf agg (on1 xs (Zph h sz)) (on1 xs fun v=>onP v fun b o=>h.cell b o)
 | .slc sz lo hi=>Z8x h sz lo hi xs
 | .cap=>on1 xs (Xby h)
 | .slc3 _=>Z3b xs
 | .b2s=>on1 xs (Xcq h)
 | .lookup kk ok zero=>on2 xs (Z8u h kk ok zero)
 | .lenM=>on1 xs (Z8k h)
 | op=>bf (Z9j op) (bf (Vf xs) (Yo.sem Y0 #[] op xs) none) none
def Z2u (h:AH) (sz n:Nat):Value->Option Zc
 | .slice (some ⟨b,o,none⟩) _ _=>h.rd b o (Nat.mul n sz)
 | .slice (some ⟨_,_,some _⟩) _ _=>bf (Nat.beq n 0) (some []) none
 | .slice none _ _=>some []
 | .string s=>some ((s.extract 0 n).data.toList.map fun b=>.int .u8 b.toNat)
 | _=>none
def rep (n:Nat) (l:Zc):Zc:=Nat.rec (motive:=fun _=>Zc) [] (fun _ ih=>Zdk l ih) n
inductive EfR where
 | mk (v:Value) (h:AH)
def killA {α:Type} (h:AH) (sz c:Nat) (a:Option Addr) (f:AH->Bool->Option α):Option α:=match a with
 | none=>f h false
 | some ⟨b,o,none⟩=>onC (h.gt b) fun cs z ex fz=>bf ex (f h false) (bf (Nat.beq (Nat.add o (Nat.mul c sz)) cs.length) (bf (Nat.beq z sz) (f (h.put b .dead) fz) none) none)
 | _=>none
def Zqc (xs:Zc):Bool:=List.rec (motive:=fun _=>Bool) true (fun x _ ih=>bf (Zqf x) ih false) xs
def onX (h:AH) (a:Option Addr):Option Bool:=match a with
 | none=>some true
 | some ⟨b,_,none⟩=>onC (h.gt b) fun _ _ ex _=>bf ex (some true) none
 | _=>none
def Xak (h:AH) (sz bytes:Nat) (zero:Array Value) (s x:Value):Option EfR:=match s with
 | .slice a n c=>ob (Zf2 x) fun m=>ob (Z2u h sz m x) fun nw =>
   bf (Nat.ble (Nat.add n m) c)
    (match a with
    | some ⟨b,o,none⟩=>ob (h.wr b (Nat.add o (Nat.mul n sz)) nw) fun h'=>frc (Nat.add n m) fun nm=>some (.mk (.slice a nm c) h')
    | none=>some (.mk (.slice none (Nat.add n m) c) h)
    | _=>none)
   (ob (Z2u h sz n s) fun old=>bf (Zqc nw) (bf (Nat.beq nw.length (Nat.mul m sz)) (bf (Nat.ble n c) (bf (Nat.ble (Nat.add n m) 4096) (bf (Nat.ble bytes 4096) (bf (Nat.beq zero.size sz) (killA h sz c a fun h1 fz =>
    h1.nw (.cells (Zdk old nw) sz false fz) fun b h'=>frc (Nat.add n m) fun nm=>some (.mk (.slice (some ⟨b,0,none⟩) nm nm) h')) none) none) none) none) none) none)
 | _=>none
def Z1r (h:AH) (sz bytes:Nat) (zero:Array Value) (s x:Value):Option EfR:=match s,x with
 | .slice a n c,.int .i64 (.ofNat m)=>bf (Nat.ble 1 m) (bf (Nat.ble (Nat.succ c) (Nat.add n m)) (ob (Z2u h sz n s) fun old=>ob (onX h a) fun _=>bf (Nat.ble (Nat.add n m) 4096) (bf (Nat.ble bytes 4096) (bf (Nat.beq zero.size sz)
    (h.nw (.cells (Zdk old (rep m zero.toList)) sz false false) fun b h'=>frc (Nat.add n m) fun nm=>some (.mk (.slice (some ⟨b,0,none⟩) nm nm) h')) none) none) none) none) none
 | _,_=>none
def efA (h:AH) (o:Ef) (xs:Zc):Option EfR:=match o with
 | .store sz=>on2 xs fun p v=>onP p fun b o=>bf (Nat.beq v.cells.toList.length sz) (ob (h.wr b o v.cells.toList) fun h'=>some (.mk undef h')) none
 | .new=>on1 xs fun v=>bf (nt v) (h.nw (.cells v.cells.toList 0 true false) fun n h'=>some (.mk (.pointer (some ⟨n,0,none⟩)) h')) none
 | .bslice len sz zero pl=>bf (Vf xs) (ob (Instr.fill (fun i=>some (i * sz,sz)) (Xy zero (len * sz)) (pl.zip xs)) fun cs=>h.nw (.cells cs.toList sz true false) fun n h'=>some (.mk (.slice (some ⟨n,0,none⟩) len len) h')) none
 | .mkslice sz bytes zero=>on2 xs fun l c=>match l,c with
  | .int _ (.ofNat l),.int _ (.ofNat c)=>bf (Nat.ble l c) (bf (Nat.ble c 4096) (bf (Nat.ble bytes 4096) (bf (Nat.beq zero.size sz) (h.nw (.cells (rep c zero.toList) sz true false) fun n h'=>some (.mk (.slice (some ⟨n,0,none⟩) l c) h')) none) none) none) none
  | _,_=>none
 | .append sz bytes zero=>on2 xs (Xak h sz bytes zero)
 | .appz sz bytes zero=>on2 xs (Z1r h sz bytes zero)
 | .clr sz zero=>on1 xs fun s=>match s with
  | .slice none _ _=>some (.mk undef h)
  | .slice (some ⟨b,o,none⟩) n _=>bf (Nat.beq n 0) (some (.mk undef h)) (ob (h.wr b o (rep n zero.toList)) fun h'=>some (.mk undef h'))
  | _=>none
 | .b2b=>on1 xs fun s=>match s with
  | .slice (some ⟨b,o,none⟩) n c=>onC (h.gt b) fun cs sz ex fz=>bf fz none (some (.mk s (h.put b (.cells cs sz ex true))))
  | _=>none
 | .copy sz=>on2 xs fun s x=>match s with
  | .slice a n _=>ob (Zf2 x) fun m=>ob (Z2u h sz (min m n) x) fun nw =>
   match a with
   | some ⟨b,o,none⟩=>ob (h.wr b o nw) fun h'=>some (.mk (.int .i64 (min m n:Nat)) h')
   | none=>some (.mk (.int .i64 (min m n:Nat)) h)
   | _=>none
  | _=>none
 | .s2b=>on1 xs fun v=>match v with
  | .string s=>h.nw (.cells (s.data.toList.map fun b=>Value.int .u8 b.toNat) 1 false true) fun n h'=>some (.mk (.slice (some ⟨n,0,none⟩) s.size s.size) h')
  | _=>none
 | .mkmap=>(match xs with
  | [] | [.int _ _]=>h.nw (.map []) fun n h'=>some (.mk (.map (some n)) h')
  | _=>none)
 | .mupd kk=>on3 xs fun m key val=>match m with
  | .map (some r)=>ob (Z0r h (some r)) fun es=>bf (Za1 kk key) (ob (Ue kk key es 0) fun a=>match a with
    | some (i,_)=>some (.mk undef (h.put r (.map (es.modify i fun e=>{ e with key,val }))))
    | none=>some (.mk undef (h.put r (.map (es++[⟨key,val,0⟩]))))) none
  | _=>none
inductive Out where
 | nx
 | ex (i:Nat)
 | rt
def Z9r (h:AH) (e:Zc) (r:Res):Option Value:=match r with
 | .n i=>some (lg e i)
 | .box i sz agg=>onP (lg e i) fun b o=>bf agg (ob (h.rd b o sz) fun l=>some (.agg l.toArray)) (h.cell b o)
def Zjy (h:AH) (e:Zc):List Res->Option Zc
 | []=>some []
 | r::l=>ob (Z9r h e r) fun v=>ob (Zjy h e l) fun vs=>some (v::vs)
def Z2j (h:AH) (e:Zc) (l:List Res):Option Value:=ob (Zjy h e l) fun vs=>match vs with
 | [v]=>some v
 | vs=>some (.tuple vs.toArray)
def evA (e T:Zc) (k:Nat) (a:Wa):Value:=Wa.rec (motive:=fun _=>Value) (fun i=>lg e i) (fun i=>bf (Nat.ble (Nat.succ i) k) (lg T (Nat.sub k (Nat.succ i))) undef) (fun v=>v) (fun j=>.func (.func j) #[] #[]) (fun j=>unk) a
def evs (e T:Zc) (k:Nat) (l:List Wa):Zc:=List.rec (motive:=fun _=>Zc) [] (fun a _ ih=>evA e T k a::ih) l
abbrev Zdf:=Nat->Zc->AH->Option EfR
inductive ILR where
 | mk (e T:Zc) (k:Nat) (h:AH)
def stepD (d:X3) (v:Value) (e T:Zc) (k:Nat) (h:AH):Option ILR:=X3.rec (motive:=fun _=>Option ILR) (some (.mk e T k h)) (some (.mk e (v::T) (Nat.succ k) h)) (fun i=>some (.mk (Z3d e i v) T k h)) d
def onR {α:Type} (r:Option EfR) (f:Value->AH->Option α):Option α:=ob r fun x=>EfR.rec (motive:=fun _=>Option α) f x
def onL {α:Type} (r:Option ILR) (f:Zc->Zc->Nat->AH->Option α):Option α:=ob r fun x=>ILR.rec (motive:=fun _=>Option α) f x
def Zdd:Value->Value->Bool
 | .int k a,.int j b=>Bool.and (Zm9 k j) (iEq a b)
 | .bool a,.bool b=>bf a b (Bool.not b)
 | .pointer (some ⟨b,o,none⟩),.pointer (some ⟨b',o',none⟩)=>Bool.and (Nat.beq b b') (Nat.beq o o')
 | .pointer none,.pointer none=>true
 | .slice (some ⟨b,o,none⟩) n c,.slice (some ⟨b',o',none⟩) n' c'=>Bool.and (Bool.and (Nat.beq b b') (Nat.beq o o')) (Bool.and (Nat.beq n n') (Nat.beq c c'))
 | .slice none n c,.slice none n' c'=>Bool.and (Nat.beq n n') (Nat.beq c c')
 | .string a,.string b=>a.data.toList == b.data.toList
 | .nilIface,.nilIface=>true
 | .map none,.map none=>true
 | .map (some a),.map (some b)=>Nat.beq a b
 | _,_=>false
def Z27 (l:Zc):Zc->Bool:=List.rec (motive:=fun _=>Zc->Bool) (fun m=>List.rec (motive:=fun _=>Bool) true (fun _ _ _=>false) m) (fun x _ ih m=>List.rec (motive:=fun _=>Bool) false (fun y s _=>bf (Zdd x y) (ih s) false) m) l
def vEq:Value->Value->Bool
 | .agg a,.agg b=>Z27 a.toList b.toList
 | .func (.func i) a c,.func (.func j) a' c'=>Bool.and (Nat.beq i j) (Bool.and (Z27 a.toList a'.toList) (Z27 c.toList c'.toList))
 | a,b=>Zdd a b
abbrev Z4:=List (Nat × Nat)
def Zt7 (p:Z4) (b:Nat):Option Nat:=List.rec (motive:=fun _=>Option Nat) none (fun x _ ih=>bf (Nat.beq x.1 b) (some x.2) ih) p
def Zbi (p:Z4) (a:Nat):Bool:=List.rec (motive:=fun _=>Bool) false (fun x _ ih=>bf (Nat.beq x.2 a) true ih) p
def Zt4 (n0:Nat) (p:Z4) (a b:Nat):Option Z4:=bf (Nat.ble (Nat.succ b) n0) (bf (Nat.beq a b) (some p) none)
 (match Zt7 p b with
 | some a'=>bf (Nat.beq a a') (some p) none
 | none=>bf (Nat.ble (Nat.succ a) n0) none (bf (Zbi p a) none (some ((b,a)::p))))
def Zz1 (n0:Nat) (p:Z4):Value->Value->Option Z4
 | .pointer (some ⟨a,o,none⟩),.pointer (some ⟨b,o',none⟩)=>bf (Nat.beq o o') (Zt4 n0 p a b) none
 | .slice (some ⟨a,o,none⟩) n c,.slice (some ⟨b,o',none⟩) n' c'=>bf (Nat.beq o o') (bf (Nat.beq n n') (bf (Nat.beq c c') (Zt4 n0 p a b) none) none) none
 | .map (some a),.map (some b)=>Zt4 n0 p a b
 | .tuple x,.tuple y=>bf (Nat.beq x.size 0) (bf (Nat.beq y.size 0) (some p) none) none
 | .chan none,_=>some p
 | x,y=>bf (Zdd x y) (some p) none
def rnL (n0:Nat) (l:Zc):Zc->Z4->Option Z4:=List.rec (motive:=fun _=>Zc->Z4->Option Z4) (fun m p=>List.rec (motive:=fun _=>Option Z4) (some p) (fun _ _ _=>none) m)
 (fun x _ ih m p=>List.rec (motive:=fun _=>Option Z4) none (fun y s _=>ob (Zz1 n0 p x y) fun p'=>ih s p') m) l
def rnV (n0:Nat) (p:Z4):Value->Value->Option Z4
 | .agg a,.agg b=>rnL n0 a.toList b.toList p
 | .func (.func i) a c,.func (.func j) a' c'=>bf (Nat.beq i j) (ob (rnL n0 a.toList a'.toList p) fun q=>rnL n0 c.toList c'.toList q) none
 | .nilFunc,.nilFunc=>some p
 | x,y=>Zz1 n0 p x y
def rnE (n0:Nat) (l:Zc):Zc->Z4->Option Z4:=List.rec (motive:=fun _=>Zc->Z4->Option Z4) (fun m p=>List.rec (motive:=fun _=>Option Z4) (some p) (fun _ _ _=>none) m)
 (fun x _ ih m p=>List.rec (motive:=fun _=>Option Z4) none (fun y s _=>ob (rnV n0 p x y) fun p'=>ih s p') m) l
def bEq (a b:Bool):Bool:=bf a b (Bool.not b)
def Zyl (n0:Nat) (p:Z4) (x y:U2):Option Z4:=match x,y with
 | .cells cs sz ex fz,.cells cs' sz' ex' fz'=>bf (Nat.beq sz sz') (bf (bEq ex ex') (bf (bEq fz fz') (rnL n0 cs cs' p) none) none) none
 | .map [],.map []=>some p
 | _,_=>none
def Zha (n0:Nat) (ha hb:AH) (k:Nat):Z4->Z4->Option Z4:=Nat.rec (motive:=fun _=>Z4->Z4->Option Z4) (fun _ _=>none)
 (fun _ ih done p=>List.rec (motive:=fun _=>Option Z4) (some done) (fun x r _=>bf (Nat.ble (Nat.succ x.2) ha.sz) (bf (Nat.ble (Nat.succ x.1) hb.sz) (ob (ha.gt x.2) fun u=>ob (hb.gt x.1) fun v=>ob (Zyl n0 (lappR r (x::done)) u v) fun q=>ih (x::done) (lcut q (x::done))) none) none) p) k
where
 lappR (r s:Z4):Z4:=List.rec (motive:=fun _=>Z4) s (fun x _ ih=>x::ih) r
 lcut (q s:Z4):Z4:=List.rec (motive:=fun _=>Nat->Z4) (fun _=>[]) (fun x _ ih n=>Nat.rec (motive:=fun _=>Z4) [] (fun m _=>x::ih m) n) q (Nat.sub q.length s.length)
def Zsb (call:Zdf) (e T:Zc) (k:Nat) (h:AH) (i:Instr):Option ILR:=Instr.rec (motive:=fun _=>Option ILR)
 (fun o xs d=>ob (opA h o (evs e T k xs)) fun v=>stepD d v e T k h)
 (fun o xs d=>onR (efA h o (evs e T k xs)) fun v h'=>stepD d v e T k h')
 (fun j xs d=>onR (call j (evs e T k xs) h) fun v h'=>stepD d v e T k h')
 (fun x xs d=>match evA e T k x with
  | .func (.func j) first cap=>onR (call j (Zdk first.toList (Zdk (evs e T k xs) cap.toList)) h) fun v h'=>stepD d v e T k h'
  | _=>none)
 (fun o xs v=>ob (opA h o (evs e T k xs)) fun w=>bf (vEq w (evA e T k v)) (some (.mk e T k h)) none) i
def Zr2 (ds:List X3) (T:Zc) (k:Nat) {α:Type} (f:Zc->Nat->Option α):Option α:=List.rec (motive:=fun _=>Zc->Nat->Option α) f (fun d _ ih T k=>X3.rec (motive:=fun _=>Option α) (ih T k) (ih (undef::T) (Nat.succ k)) (fun _=>ih T k) d) ds T k
def Zn1 (ds:List X3) (e:Zc):Zc:=List.rec (motive:=fun _=>Zc->Zc) (fun e=>e) (fun d _ ih e=>X3.rec (motive:=fun _=>Zc) (ih e) (ih e) (fun i=>ih (Z3d e i undef)) d) ds e
def gdA {α:Type} (v:Value) (want:Bool) (x y:Option α):Option α:=match v with
 | .bool b=>bf (bf b want (Bool.not want)) x y
 | .chan _=>none
 | _=>y
def forget (k:Nat):Zc:=Nat.rec (motive:=fun _=>Zc) [] (fun _ ih=>unk::ih) k
def Zae (n0:Nat) (p:Z4) (m:Nat):AH->AH:=Nat.rec (motive:=fun _=>AH->AH) (fun h=>h) (fun i ih h=>bf (Nat.ble (Nat.succ i) n0) h (ih (bf (Zbi p i) h (h.put i .dead)))) m
def AH.reset (h:AH) (w:Nat):AH:=AH.rec (motive:=fun _=>AH) (fun n t _=>.mk n t w) h
def Z70 (fa fb:AH->Option ILR) (h:AH):Option ILR :=
 onL (fa (h.reset 100000)) fun ea _ ka ha=>onL (fb (h.reset 100000)) fun eb _ kb hb =>
  bf (Nat.beq ka kb) (bf (Nat.ble h.sz ha.low) (bf (Nat.ble h.sz hb.low) (ob (rnE h.sz ea eb []) fun p=>ob (Zha h.sz ha hb 64 [] p) fun q =>
   some (.mk ea (forget ka) ka ((Zae h.sz q ha.sz ha).reset h.low))) none) none) none
def Zab (call:Zdf) (l:IL):Zc->Zc->Nat->AH->Option ILR:=IL.rec (motive:=fun _=>Zc->Zc->Nat->AH->Option ILR)
 (fun e T k h=>some (.mk e T k h))
 (fun i _ ih e T k h=>onL (Zsb call e T k h i) ih)
 (fun g want _ ds _ ihb ihk e T k h=>gdA (evA e T k g) want (onL (ihb e T k h) ihk) (Zr2 ds T k fun T k=>ihk (Zn1 ds e) T k h))
 (fun _ _ iha ihb e T k h=>Z70 (iha e T k) (ihb e T k) h) l
inductive SR where
 | mk (o:Out) (e:Zc) (h:AH)
def onS (r:Option SR) (fn:Zc->AH->Option SR) (fx:Nat->Zc->AH->Option SR) (fr:Zc->AH->Option SR):Option SR :=
 ob r fun x=>SR.rec (motive:=fun _=>Option SR) (fun o e h=>Out.rec (motive:=fun _=>Option SR) (fn e h) (fun i=>fx i e h) (fr e h) o) x
def sx (i:Nat) (e:Zc) (h:AH):Option SR:=some (.mk (.ex i) e h)
def sr (e:Zc) (h:AH):Option SR:=some (.mk .rt e h)
def sn (e:Zc) (h:AH):Option SR:=some (.mk .nx e h)
def Zrn (f:Zc->AH->Option SR) (n:Nat):Zc->AH->Option SR:=Nat.rec (motive:=fun _=>Zc->AH->Option SR) (fun _ _=>none) (fun _ ih e h=>onS (f e h) ih sx sr) n
def Za2 (call:Zdf) (m:Nat) (s:Stmt):Zc->AH->Option SR:=Stmt.rec (motive:=fun _=>Zc->AH->Option SR)
 sn
 (fun _ _ iha ihb e h=>onS (iha e h) ihb sx sr)
 (fun l e h=>onL (Zab call l e [] 0 h) fun e' _ _ h'=>sn e' h')
 (fun x _ _ iha ihb e h=>match evA e [] 0 x with
  | .bool c=>bf c (iha e h) (ihb e h)
  | _=>none)
 (fun id _ ih e h=>onS (ih e h) sn (fun i e' h'=>bf (Nat.beq i id) (sn e' h') (sx i e' h')) sr)
 (fun _ ih e h=>Zrn ih m e h)
 (fun i e h=>sx i e h)
 sr s
def Zqd (n:Nat):Zc:=Nat.rec (motive:=fun _=>Zc) [] (fun _ ih=>undef::ih) n
def Z2v (call:Zdf) (m:Nat) (S:Xm) (args:Zc) (h:AH):Option EfR:=Xm.rec (motive:=fun _=>Option EfR) (fun np nn body res =>
  onS' (Za2 call m body (Zdk args (Zqd (Nat.sub nn np))) h) fun e' h'=>ob (Z2j h' e' res) fun v=>some (.mk v h')) S
where onS' (r:Option SR) (f:Zc->AH->Option EfR):Option EfR:=ob r fun x=>SR.rec (motive:=fun _=>Option EfR) (fun o e h=>Out.rec (motive:=fun _=>Option EfR) (f e h) (fun _=>none) (f e h) o) x
def Z3x (tb:Nat->Option Xm) (m:Nat) (d:Nat):Zdf:=Nat.rec (motive:=fun _=>Zdf) (fun _ _ _=>none)
 (fun _ ih j args h=>ob (tb j) fun S=>bf (Nat.beq args.length S.np) (Z2v ih m S args h) none) d
end
theorem Yn {α β:Type} {o:Option α} {f:α->Option β} {y:β}:ob o f=some y↔∃ x,o=some x/\f x=some y:=by
 cases o with
 | none=>exact ⟨fun h=>(by cases h),fun ⟨_,h,_⟩=>(by cases h)⟩
 | some x=>exact ⟨fun h=>⟨x,rfl,h⟩,fun ⟨_,h,k⟩=>(by cases h;exact k)⟩
@[simp] theorem Qm {α:Type} {x y:α}:bf true x y=x:=rfl
@[simp] theorem Vc {α:Type} {x y:α}:bf false x y=y:=rfl
theorem Yb {α:Type} {b:Bool} {x:Option α} {y:α}:bf b x none=some y↔b=true/\x=some y:=by
 cases b <;> simp
theorem Zya {l:Zc}:∀ {n:Nat},lg l n=l.getD n undef:=by
 induction l with
 | nil=>intro n;rfl
 | cons x l ih=>intro n;cases n with
  | zero=>rfl
  | succ n=>exact ih
theorem Z49 {l:Zc}:∀ {n:Nat},lgo l n=l[n]? := by
 induction l with
 | nil=>intro n;rfl
 | cons x l ih=>intro n;cases n with
  | zero=>rfl
  | succ n=>exact ih
theorem Zye {l:Zc} {v:Value}:∀ {n:Nat},Z3d l n v=l.set n v:=by
 induction l with
 | nil=>intro n;rfl
 | cons x l ih=>intro n;cases n with
  | zero=>rfl
  | succ n=>exact congrArg (x :: ·) ih
theorem Zct {l m:Zc}:Zdk l m=l++m:=by
 induction l with
 | nil=>rfl
 | cons x l ih=>exact congrArg (x :: ·) ih
theorem Zt8 {n:Nat}:∀ {l:Zc},Z8w n l=l.drop n:=by
 induction n with
 | zero=>intro l;rfl
 | succ n ih=>intro l;cases l with
  | nil=>rfl
  | cons x l=>exact ih
theorem Zmn {n:Nat}:∀ {l r:Zc},Z12 n l=some r->n<=l.length/\r=l.take n:=by
 induction n with
 | zero=>intro l r h;cases h;exact ⟨Nat.zero_le _,rfl⟩
 | succ n ih =>
  intro l r h
  cases l with
  | nil=>cases h
  | cons x l =>
   obtain ⟨D,h1,G⟩:=Yn.1 (show ob (Z12 n l) (fun D=>some (x::D))=some r from h)
   cases G
   obtain ⟨H,rfl⟩:=ih h1;exact ⟨Nat.succ_le_succ H,rfl⟩
theorem Zv1 {vs:Zc}:∀ {l r:Zc},Zym vs l=some r->vs.length<=l.length/\(∀ v,v∈vs->Zqf v=true)/\r=vs++l.drop vs.length:=by
 induction vs with
 | nil=>intro l r h;cases h;exact ⟨Nat.zero_le _,fun v hv=>(by cases hv),rfl⟩
 | cons v vs ih =>
  intro l r h
  cases l with
  | nil=>cases h
  | cons x l =>
   have h:bf (Zqf v) (ob (Zym vs l) fun D=>some (v::D)) none=some r:=h;obtain ⟨h0,h⟩:=Yb.1 h;obtain ⟨D,h1,G⟩:=Yn.1 h
   cases G
   obtain ⟨H,h4,rfl⟩:=ih h1;refine ⟨Nat.succ_le_succ H,fun u hu=>?_,rfl⟩;rcases List.mem_cons.1 hu with rfl | hu
   ·exact h0
   exact h4 u hu
theorem Zif {o:Nat} {vs:Zc}:∀ {l r:Zc},Zpb o vs l=some r->o+vs.length<=l.length/\(∀ v,v∈vs->Zqf v=true)/\r=l.take o++vs++l.drop (o+vs.length):=by
 induction o with
 | zero =>
  intro l r h;obtain ⟨h1,D,G⟩:=Zv1 (show Zym vs l=some r from h);exact ⟨by omega,D,by rw [G];simp⟩
 | succ o ih =>
  intro l r h
  cases l with
  | nil=>cases h
  | cons x l =>
   obtain ⟨H,h1,D⟩:=Yn.1 (show ob (Zpb o vs l) (fun H=>some (x::H))=some r from h)
   cases D
   obtain ⟨G,h4,rfl⟩:=ih h1;refine ⟨by simp only [Xg5];omega,h4,?_⟩;rw [show o+1+vs.length=(o+vs.length)+1 by omega]
   rfl
theorem Xa2 {n:Nat} {l:Zc}:rep n l=(List.replicate n l).flatten:=by
 induction n with
 | zero=>rfl
 | succ n ih =>
  show Zdk l (rep n l)=_;rw [Zct,ih]
  rfl
theorem Tr.get_set {d:Nat}:∀ {t:Tr} {i j:Nat} {v:U2},i<2 ^ d->j<2 ^ d->Tr.get d (Tr.set d t i v) j=if i=j then some v else Tr.get d t j:=by
 induction d with
 | zero =>
  intro t i j v R U;have:i=j:=by omega
  rw [if_pos this]
  rfl
 | succ d ih =>
  intro t i j v R U;have J:i / 2<2 ^ d:=by rw [Nat.pow_succ] at R;omega
  have M:j / 2<2 ^ d:=by rw [Nat.pow_succ] at U;omega
  have O:∀ (a b:Tr) (k:Nat),Tr.get (d+1) (.n a b) k=bf (Nat.beq (k % 2) 0) (Tr.get d a (k / 2)) (Tr.get d b (k / 2)):=fun _ _ _=>rfl;have V:∀ k,Tr.get d .e k=none:=fun k=>by cases d <;> rfl
  have hb:∀ k,Nat.beq (k % 2) 0=decide (k % 2=0):=fun k=>by
   by_cases h:k % 2=0
   ·simp [h]
   have:Nat.beq (k % 2) 0=false:=by
    cases q:Nat.beq (k % 2) 0 with
    | false=>rfl
    | true=>exact absurd (Xf3 q) h
   simp [this,h]
  have D:∀ (a b:Tr),(∀ k,Tr.get (d+1) t k=bf (Nat.beq (k % 2) 0) (Tr.get d a (k / 2)) (Tr.get d b (k / 2))) ->
    Tr.get (d+1) (bf (Nat.beq (i % 2) 0) (.n (Tr.set d a (i / 2) v) b) (.n a (Tr.set d b (i / 2) v))) j=if i=j then some v else Tr.get (d+1) t j:=by
   intro a b ht;rw [ht];by_cases H:i % 2=0 <;> by_cases I:j % 2=0
   ·have G:Nat.beq (i % 2) 0=true:=by rw [hb];simp [H]
    have r:Nat.beq (j % 2) 0=true:=by rw [hb];simp [I]
    rw [G,r,Qm,Qm,O,r,Qm,ih J M];by_cases e:i=j
    ·subst e;simp
    rw [if_neg (by omega),if_neg e]
   ·have e:¬ i=j:=fun e=>I (e ▸ H);have G:Nat.beq (i % 2) 0=true:=by rw [hb];simp [H]
    have r:Nat.beq (j % 2) 0=false:=by rw [hb];simp [I]
    rw [G,r,Qm,Vc,O,r,Vc,if_neg e]
   ·have e:¬ i=j:=fun e=>H (e ▸ I);have G:Nat.beq (i % 2) 0=false:=by rw [hb];simp [H]
    have r:Nat.beq (j % 2) 0=true:=by rw [hb];simp [I]
    rw [G,r,Qm,Vc,O,r,Qm,if_neg e]
   have G:Nat.beq (i % 2) 0=false:=by rw [hb];simp [H]
   have r:Nat.beq (j % 2) 0=false:=by rw [hb];simp [I]
   rw [G,r,Vc,Vc,O,r,Vc,ih J M];by_cases e:i=j
   ·subst e;simp
   rw [if_neg (by omega),if_neg e]
  cases t with
  | e=>exact D .e .e fun k=>by rw [V];cases Nat.beq (k % 2) 0 <;> rfl
  | l w=>exact D .e .e fun k=>by rw [V];cases Nat.beq (k % 2) 0 <;> rfl
  | n a b=>exact D a b fun k=>rfl
structure Loc where
 rb:Nat
 base:Nat
 dl:Nat
abbrev Qc:=Nat->Option Loc
def PLe (φ φ':Qc):Prop:=∀ b l,φ b=some l->φ' b=some l
theorem PLe.refl {φ:Qc}:PLe φ φ:=fun _ _ h=>h
theorem PLe.trans {φ φ' φ'':Qc} (h:PLe φ φ') (k:PLe φ' φ''):PLe φ φ'':=fun b l e=>k b l (h b l e)
inductive VR (Y:Sys) (φ:Qc):Value->Value->Prop where
 | any (v:Value):VR Y φ (.chan none) v
 | bool (b:Bool):VR Y φ (.bool b) (.bool b)
 | int (k:IntKind) (n:Int):VR Y φ (.int k n) (.int k n)
 | string (s:ByteArray):VR Y φ (.string s) (.string s)
 | ptr0:VR Y φ (.pointer none) (.pointer none)
 | ptr {b o:Nat} {l:Loc} (h:φ b=some l):VR Y φ (.pointer (some ⟨b,o,none⟩)) (.pointer (some ⟨l.rb,l.base+o,none⟩))
 | slc0 (n c:Nat):VR Y φ (.slice none n c) (.slice none n c)
 | slc {b o n c:Nat} {l:Loc} (h:φ b=some l):VR Y φ (.slice (some ⟨b,o,none⟩) n c) (.slice (some ⟨l.rb,l.base+o,none⟩) n (c+l.dl))
 | slcE (b o c:Nat):VR Y φ (.slice (some ⟨0,0,some 0⟩) 0 0) (.slice (some ⟨b,o,none⟩) 0 c)
 | map0:VR Y φ (.map none) (.map none)
 | map {r:Nat} {l:Loc} (h:φ r=some l):VR Y φ (.map (some r)) (.map (some l.rb))
 | func {j:Nat} {a c a' c':Array Value} (ha:a.size=a'.size) (hc:c.size=c'.size) (ia:(∀ (i:Nat) (v v':Value),a[i]? = some v->a'[i]? = some v'->VR Y φ v v')) (ic:(∀ (i:Nat) (v v':Value),c[i]? = some v->c'[i]? = some v'->VR Y φ v v')):VR Y φ (.func (.func j) a c) (.func (.func (Y.fid j)) a' c')
 | nilFunc:VR Y φ .nilFunc .nilFunc
 | iface {t:Nat} {v v':Value} (h:VR Y φ v v'):VR Y φ (.iface t v) (.iface (Y.tid t) v')
 | nilIface:VR Y φ .nilIface .nilIface
 | agg {a a':Array Value} (ha:a.size=a'.size) (ia:(∀ (i:Nat) (v v':Value),a[i]? = some v->a'[i]? = some v'->VR Y φ v v')):VR Y φ (.agg a) (.agg a')
 | tuple {a a':Array Value} (ha:a.size=a'.size) (ia:(∀ (i:Nat) (v v':Value),a[i]? = some v->a'[i]? = some v'->VR Y φ v v')):VR Y φ (.tuple a) (.tuple a')
def VL (Y:Sys) (φ:Qc) (l l':Zc):Prop:=l.length=l'.length/\∀ (i:Nat) (v v':Value),l[i]? = some v->l'[i]? = some v'->VR Y φ v v'
section
variable {Y:Sys} {φ φ':Qc}
theorem VR.mono (p:PLe φ φ'):∀ {v G:Value},VR Y φ v G->VR Y φ' v G:=by
 intro v G h
 induction h with
 | any v=>exact .any v
 | bool b=>exact .bool b
 | int k n=>exact .int k n
 | string s=>exact .string s
 | ptr0=>exact .ptr0
 | ptr h=>exact .ptr (p _ _ h)
 | slc0 n c=>exact .slc0 n c
 | slc h=>exact .slc (p _ _ h)
 | slcE b o c=>exact .slcE b o c
 | map0=>exact .map0
 | map h=>exact .map (p _ _ h)
 | func r hc _ _ D H=>exact .func r hc D H
 | nilFunc=>exact .nilFunc
 | iface _ ih=>exact .iface ih
 | nilIface=>exact .nilIface
 | agg r _ D=>exact .agg r D
 | tuple r _ D=>exact .tuple r D
theorem VL.nil:VL Y φ [] []:=⟨rfl,fun i v r h=>by simp at h⟩
theorem VL.cons {a b:Value} {l l':Zc} (h:VR Y φ a b) (k:VL Y φ l l'):VL Y φ (a::l) (b::l'):=by
 refine ⟨by simp [k.1],fun i v D h1 r=>?_⟩
 cases i with
 | zero=>simp at h1 r;subst h1;subst r;exact h
 | succ i=>simp at h1 r;exact k.2 i v D h1 r
theorem VL.uncons {a:Value} {l m:Zc} (h:VL Y φ (a::l) m):∃ b l',m=b::l'/\VR Y φ a b/\VL Y φ l l':=by
 cases m with
 | nil=>cases h.1
 | cons b l'=>exact ⟨b,l',rfl,h.2 0 a b rfl rfl,by simpa using h.1,fun i v r h1 D=>h.2 (i+1) v r (by simpa using h1) (by simpa using D)⟩
theorem VL.unnil {m:Zc} (h:VL Y φ [] m):m=[]:=Xgw h.1.symm
theorem VL.mono (p:PLe φ φ') {l l':Zc} (h:VL Y φ l l'):VL Y φ' l l':=⟨h.1,fun i v r a b=>(h.2 i v r a b).mono p⟩
theorem VL.get {l l':Zc} (h:VL Y φ l l') {i:Nat} {v:Value} (e:l[i]? = some v):∃ D,l'[i]? = some D/\VR Y φ v D:=by
 have G:i<l.length:=(List.getElem?_eq_some_iff.1 e).1;have r:i<l'.length:=by rw [<-h.1];exact G
 exact ⟨l'[i],by simp [r],h.2 i v _ e (by simp [r])⟩
theorem VL.getD {l l':Zc} (h:VL Y φ l l') (i:Nat):VR Y φ (l.getD i undef) (l'.getD i undef):=by
 by_cases r:i<l.length
 ·have e:l[i]? = some l[i]:=by simp [r]
  obtain ⟨D,a,b⟩:=h.get e;simp only [Xf5,e,a,Xh9];exact b
 have e:l[i]? = none:=by simp;omega
 have e':l'[i]? = none:=by have:=h.1;simp;omega
 simp only [Xf5,e,e',Option.getD_none];exact .tuple rfl (fun i v D h=>by simp at h)
theorem VL.set {l l':Zc} (h:VL Y φ l l') {v D:Value} (hv:VR Y φ v D) (i:Nat):VL Y φ (l.set i v) (l'.set i D):=by
 refine ⟨by simp [h.1],fun j a b r hb=>?_⟩;rw [Xhp] at r hb
 split at r
 ·rename_i e;subst e
  split at r
  ·rw [if_pos rfl] at hb
   split at hb
   ·cases r;cases hb;exact hv
   ·cases hb
  cases r
 rename_i e;rw [if_neg e] at hb;exact h.2 j a b r hb
theorem VL.app {l l' m m':Zc} (h:VL Y φ l l') (k:VL Y φ m m'):VL Y φ (l++m) (l'++m'):=by
 refine ⟨by simp [h.1,k.1],fun i v D h1 r=>?_⟩;by_cases c:i<l.length
 ·rw [Xgh c] at h1;rw [Xgh (by rw [<-h.1];exact c)] at r;exact h.2 i v D h1 r
 rw [Xgv (by omega)] at h1;rw [Xgv (by rw [<-h.1];omega),<-h.1] at r;exact k.2 _ v D h1 r
theorem VL.take {l l':Zc} (h:VL Y φ l l') (n:Nat):VL Y φ (l.take n) (l'.take n):=by
 refine ⟨by simp [h.1],fun i v D h1 r=>?_⟩;rw [Xg7] at h1 r
 split at h1
 ·rename_i c;rw [if_pos c] at r;exact h.2 i v D h1 r
 cases h1
theorem VL.drop {l l':Zc} (h:VL Y φ l l') (n:Nat):VL Y φ (l.drop n) (l'.drop n):=by
 refine ⟨by simp [h.1],fun i v D h1 r=>?_⟩;rw [Xhd] at h1 r;exact h.2 _ v D h1 r
theorem VR.arr {a a':Array Value}:VL Y φ a.toList a'.toList↔a.size=a'.size/\∀ (i:Nat) (v r:Value),a[i]? = some v->a'[i]? = some r->VR Y φ v r:=by
 constructor
 ·intro h;exact ⟨by simpa using h.1,fun i v r h1 D=>h.2 i v r (by simpa using h1) (by simpa using D)⟩
 intro h;exact ⟨by simpa using h.1,fun i v r h1 D=>h.2 i v r (by simpa using h1) (by simpa using D)⟩
theorem VR.agg' {l l':Zc} (h:VL Y φ l l'):VR Y φ (.agg l.toArray) (.agg l'.toArray):=by
 have:=VR.arr (a:=l.toArray) (a':=l'.toArray).1 (by simpa using h);exact .agg this.1 this.2
theorem VR.un_agg {a:Array Value} {v:Value} (h:VR Y φ (.agg a) v):∃ a',v = .agg a'/\VL Y φ a.toList a'.toList:=by
 cases h with
 | agg r D=>exact ⟨_,rfl,VR.arr.2 ⟨r,D⟩⟩
theorem VR.und:VR Y φ undef undef:=.tuple rfl (fun i v r h=>by simp at h)
theorem VR.cells {v G:Value} (h:VR Y φ v G) (H:nt v=true):VL Y φ v.cells.toList G.cells.toList:=by
 cases h with
 | any=>cases H
 | tuple r D=>cases H
 | agg r D=>exact VR.arr.2 ⟨r,D⟩
 | bool b=>exact VL.cons (.bool b) .nil
 | int k n=>exact VL.cons (.int k n) .nil
 | string s=>exact VL.cons (.string s) .nil
 | ptr0=>exact VL.cons .ptr0 .nil
 | ptr h=>exact VL.cons (.ptr h) .nil
 | slc0 n c=>exact VL.cons (.slc0 n c) .nil
 | slc h=>exact VL.cons (.slc h) .nil
 | slcE b o c=>exact VL.cons (.slcE b o c) .nil
 | map0=>exact VL.cons .map0 .nil
 | map h=>exact VL.cons (.map h) .nil
 | func r hc D I=>exact VL.cons (.func r hc D I) .nil
 | nilFunc=>exact VL.cons .nilFunc .nil
 | iface h=>exact VL.cons (.iface h) .nil
 | nilIface=>exact VL.cons .nilIface .nil
theorem VR.one {v r:Value} (h:VR Y φ v r) (D:Zqf v=true):r.oneCell'=true:=by
 cases h <;> first | rfl | (cases D;done)
end
noncomputable def AH.add (h:AH) (v:U2):AH:=.mk (h.sz+1) (Tr.set 13 (AH.rec (motive:=fun _=>Tr) (fun _ t _=>t) h) h.sz v) h.low
theorem Zbm {α:Type} {h:AH} {v:U2} {f:Nat->AH->Option α} {r:α} (e:h.nw v f=some r):h.sz<=8000/\f h.sz (h.add v)=some r:=by
 cases h with
 | mk n t w =>
  have e:bf (Nat.ble n 8000) (f n (.mk (n+1) (Tr.set 13 t n v) w)) none=some r:=e;obtain ⟨h1,D⟩:=Yb.1 e;exact ⟨Xge h1,D⟩
@[simp] theorem Xdt {h:AH} {v:U2}:(h.add v).sz=h.sz+1:=rfl
@[simp] theorem Xae {h:AH} {i:Nat} {v:U2}:(h.put i v).sz=h.sz:=by cases h;rfl
@[simp] theorem Zrq {h:AH} {w:Nat}:(h.reset w).sz=h.sz:=by cases h;rfl
@[simp] theorem Zl7 {h:AH} {w i:Nat}:(h.reset w).gt i=h.gt i:=by cases h;rfl
theorem Zw3 {h:AH} {v:U2} {j:Nat} (r:h.sz<8192) (D:j<8192):(h.add v).gt j=if h.sz=j then some v else h.gt j:=by
 cases h with
 | mk n t w=>exact Tr.get_set (d:=13) r D
theorem Zkq {h:AH} {i j:Nat} {v:U2} (r:i<8192) (D:j<8192):(h.put i v).gt j=if i=j then some v else h.gt j:=by
 cases h with
 | mk n t w=>exact Tr.get_set (d:=13) r D
structure Zew (Y:Sys) (φ:Qc) (h:Zk) (l:Loc) (cs:Zc) (sz:Nat) (fz:Bool):Prop where
 ex:∃ rcs t f,h[l.rb]? = some (.cells rcs t f)/\l.base+cs.length+l.dl * sz<=rcs.size/\(fz=false->f=(0,0))/\(∀ o,l.base<=o->o<l.base+cs.length+l.dl * sz->¬ (f.1<=o/\o<f.2)) /\
  ∀ (i:Nat) (v v':Value),cs[i]? = some v->rcs[l.base+i]? = some v'->VR Y φ v v'
def EsR (Y:Sys) (φ:Qc) (es es':List MapEntry):Prop:=es.length=es'.length/\∀ (i:Nat) (a b:MapEntry),es[i]? = some a->es'[i]? = some b->b.key=a.key/\VR Y φ a.val b.val
def Live (A:AH) (b:Nat):Prop:=∃ x,A.gt b=some x/\x≠.dead
structure HR (Y:Sys) (φ:Qc) (A:AH) (h0 h:Zk):Prop where
 sz:A.sz<=8001
 dom:∀ b l,φ b=some l->b<A.sz
 fresh:∀ b l,φ b=some l->h0.size<=l.rb
 ext:Ext h0 h
 cells:∀ b cs sz ex fz,b<A.sz->A.gt b=some (.cells cs sz ex fz)->∃ l,φ b=some l/\(ex=true->l.dl=0)/\Zew Y φ h l cs sz fz
 maps:∀ b es,b<A.sz->A.gt b=some (.map es)->∃ l,φ b=some l/\∃ es' clock,h[l.rb]? = some (.map es' clock)/\EsR Y φ es es'.toList
 disj:∀ b b' l l',b≠b'->φ b=some l->φ b'=some l'->Live A b->Live A b'->l.rb≠l'.rb
section
variable {Y:Sys} {φ φ':Qc} {A:AH} {h0 h:Zk}
theorem Zew.mono (p:PLe φ φ') {l:Loc} {cs:Zc} {sz:Nat} {fz:Bool} (c:Zew Y φ h l cs sz fz):Zew Y φ' h l cs sz fz:=by
 obtain ⟨rcs,t,f,a,b,c,d,e⟩:=c.ex;exact ⟨rcs,t,f,a,b,c,d,fun i v r h1 D=>(e i v r h1 D).mono p⟩
theorem Zew.lt {l:Loc} {cs:Zc} {sz:Nat} {fz:Bool} (c:Zew Y φ h l cs sz fz):l.rb<h.size:=by
 obtain ⟨rcs,t,f,a,_⟩:=c.ex;exact (Array.getElem?_eq_some_iff.1 a).1
theorem Zew.heap {l:Loc} {cs:Zc} {sz:Nat} {fz:Bool} {h':Zk} (c:Zew Y φ h l cs sz fz) (e:h'[l.rb]? = h[l.rb]?):Zew Y φ h' l cs sz fz:=by
 obtain ⟨rcs,t,f,a,r⟩:=c.ex;exact ⟨rcs,t,f,by rw [e];exact a,r⟩
theorem EsR.mono (p:PLe φ φ') {D r:List MapEntry} (e:EsR Y φ D r):EsR Y φ' D r:=⟨e.1,fun i a b h1 G=>⟨(e.2 i a b h1 G).1,(e.2 i a b h1 G).2.mono p⟩⟩
def Qc.add (φ:Qc) (n:Nat) (l:Loc):Qc:=fun b=>if b=n then some l else φ b
theorem Qc.add_le {n:Nat} {l:Loc} (H:HR Y φ A h0 h) (r:A.sz<=n):PLe φ (φ.add n l):=fun b l' e=>by
 have:=H.dom b l' e;unfold Qc.add;rw [if_neg (by omega)];exact e
theorem Qc.add_at {n:Nat} {l:Loc}:φ.add n l n=some l:=by simp [Qc.add]
theorem Z4x {x:Obj} (e:Ext h0 h):Ext h0 (h.push x):=e.trans Mod.push
theorem HR.alloc (H:HR Y φ A h0 h) (hs:A.sz<=8000) {cs:Zc} {sz dl:Nat} {ex fz:Bool} {rcs:Array Value} {t:TypeId} {f:Nat × Nat} (aa:ex=true->dl=0) (M:cs.length+dl * sz<=rcs.size)
  (hf:fz=false->f=(0,0)) (hfz:∀ o,o<cs.length+dl * sz->¬ (f.1<=o/\o<f.2)) (hv:∀ (i:Nat) (v X:Value),cs[i]? = some v->rcs[i]? = some X->VR Y φ v X) :
  HR Y (φ.add A.sz ⟨h.size,0,dl⟩) (A.add (.cells cs sz ex fz)) h0 (h.push (.cells rcs t f)):=by
 have p:PLe φ (φ.add A.sz ⟨h.size,0,dl⟩):=Qc.add_le H (Xfy _);have gt:∀ b,b<A.sz+1->(A.add (.cells cs sz ex fz)).gt b=if A.sz=b then some (.cells cs sz ex fz) else A.gt b:=fun b hb=>Zw3 (by omega) (by omega)
 have O:∀ b,b<h.size->(h.push (.cells rcs t f))[b]? = h[b]? := fun b hb=>by rw [Xi4 hb];exact (Xg0 hb).symm
 have lv:∀ b l,b≠A.sz->(φ.add A.sz ⟨h.size,0,dl⟩) b=some l->φ b=some l:=fun b l hb e=>by
  unfold Qc.add at e;rwa [if_neg hb] at e
 have r:∀ b l,φ b=some l->Live A b->l.rb<h.size:=fun b l e Z=>by
  obtain ⟨x,hx,hd⟩:=Z;have hb:=H.dom b l e
  cases x with
  | dead=>exact absurd rfl hd
  | cells cs sz ex fz =>
   obtain ⟨l',e',_,c⟩:=H.cells b cs sz ex fz hb hx;rw [e] at e';cases e';exact c.lt
  | map es =>
   obtain ⟨l',e',R,G,hh,_⟩:=H.maps b es hb hx;rw [e] at e';cases e';exact (Array.getElem?_eq_some_iff.1 hh).1
 have D:∀ b,b<A.sz->Live (A.add (.cells cs sz ex fz)) b->Live A b:=fun b hb ⟨x,hx,hd⟩=>⟨x,by rwa [gt b (by omega),if_neg (by omega)] at hx,hd⟩
 refine ⟨by simp;omega,?_,?_,Z4x H.ext,?_,?_,?_⟩
 ·intro b l e;by_cases c:b=A.sz
  ·subst c;simp
  have:=H.dom b l (lv b l c e);simp;omega
 ·intro b l e;by_cases c:b=A.sz
  ·subst c;rw [Qc.add_at] at e
   cases e
   exact H.ext.size
  exact H.fresh b l (lv b l c e)
 ·intro b ab ac ad ae hb J;simp at hb;rw [gt b hb] at J
  split at J
  ·rename_i e
   cases J
   subst e;refine ⟨_,Qc.add_at,aa,⟨rcs,t,f,by simp,by simpa using M,hf,fun o _ ho=>hfz o (by simpa using ho),fun i v X h1 h2=>(hv i v X h1 (by simpa using h2)).mono p⟩⟩
  rename_i e;obtain ⟨l,e1,e2,e3⟩:=H.cells b ab ac ad ae (by omega) J;exact ⟨l,p b l e1,e2,(e3.mono p).heap (O _ e3.lt)⟩
 ·intro b es hb J;simp at hb;rw [gt b hb] at J
  split at J
  ·cases J
  ·rename_i e;obtain ⟨l,e1,R,G,e2,e3⟩:=H.maps b es (by omega) J;exact ⟨l,p b l e1,R,G,by rw [O _ (Array.getElem?_eq_some_iff.1 e2).1];exact e2,e3.mono p⟩
 intro b b' l l' U e e' Z V;by_cases c:b=A.sz
 ·subst c;rw [Qc.add_at] at e
  cases e
  have I:=lv b' l' (Ne.symm U) e';have:=r b' l' I (D b' (H.dom _ _ I) V);simp only;omega
 by_cases c':b'=A.sz
 ·subst c';rw [Qc.add_at] at e'
  cases e'
  have hb:=lv b l c e;have:=r b l hb (D b (H.dom _ _ hb) Z);simp only;omega
 have hb:=lv b l c e;have I:=lv b' l' c' e';exact H.disj b b' l l' U hb I (D b (H.dom _ _ hb) Z) (D b' (H.dom _ _ I) V)
end
section
variable {Y:Sys} {φ φ':Qc} {A A':AH} {h0 h:Zk}
theorem Z1j:∀ (vs:Zc) {h:Zk} {D o:Nat} {rcs:Array Value} {t:TypeId} {f:Nat × Nat},h[D]? = some (.cells rcs t f)->o+vs.length<=rcs.size ->
  (∀ k,o<=k->k<o+vs.length->¬ (f.1<=k/\k<f.2))->(∀ v,v∈vs->v.oneCell'=true) ->
  ∃ h' r,hst h D o vs=some h'/\h'[D]? = some (.cells r t f)/\r.size=rcs.size/\(∀ k,r[k]? = if o<=k/\k<o+vs.length then vs[k-o]? else rcs[k]?)/\(∀ j,j≠D->h'[j]? = h[j]?)/\h'.size=h.size:=by
 intro vs
 induction vs with
 | nil =>
  intro h D o rcs t f hb _ _ _;exact ⟨h,rcs,rfl,hb,rfl,fun k=>by rw [if_neg (by simp <;> omega)],fun _ _=>rfl,rfl⟩
 | cons v vs ih =>
  intro h D o rcs t f hb H hf I;have lo:o<rcs.size:=by simp at H;omega
  have h1:(hc h D o).isSome=true:=by simp [hc,hb,lo]
  have J:hfz h D o=false:=by
   have:=hf o (Xfy _) (by simp);unfold hfz;rw [hb];obtain ⟨f1,f2⟩:=f;simp only at this ⊢;rw [Xhk];intro e;rw [Xf4] at e;simp at e;exact this e
  have M:v.oneCell'=true:=I v (Xhw ..);have G:(Vd h D o v)[D]? = some (.cells (rcs.setIfInBounds o v) t f):=by
   unfold Vd;rw [Xh0];simp [hb]
  obtain ⟨h',r,O,R,U,V,X,Z⟩:=ih G (o:=o+1) (by simp at H ⊢;omega) (fun k k1 k2=>hf k (by omega) (by simp;omega)) (fun u hu=>I u (Xgg _ hu));refine ⟨h',r,?_,R,by simpa using U,?_,?_,by simpa [Vd] using Z⟩
  ·rw [hst,if_pos (by simp [h1,J,M])];exact O
  ·intro k;rw [V k];by_cases c:o+1<=k/\k<o+1+vs.length
   ·rw [if_pos c,if_pos (by simp;omega)];rw [show k-o=(k-(o+1))+1 by omega];simp
   rw [if_neg c];by_cases c2:k=o
   ·subst c2;rw [if_pos (by simp <;> omega)];simp [lo]
   rw [if_neg (by simp;omega),Array.getElem?_setIfInBounds];rw [if_neg (by omega)]
  intro j hj;rw [X j hj];unfold Vd;rw [Xh0];rw [if_neg (by omega)]
theorem HR.change (H:HR Y φ A h0 h) {b:Nat} {l:Loc} (hb:φ b=some l) (r:Live A b) {x:U2} {h':Zk} (hx:x≠.dead)
  (D:∀ j,j≠l.rb->h'[j]? = h[j]?) (aa:h'.size=h.size)
  (hc:∀ cs sz ex fz,x = .cells cs sz ex fz->(ex=true->l.dl=0)/\Zew Y φ h' l cs sz fz)
  (hm:∀ R,x = .map R->∃ M G,h'[l.rb]? = some (.map M G)/\EsR Y φ R M.toList):HR Y φ (A.put b x) h0 h':=by
 have lb:=H.dom b l hb;have hs:=H.sz;have V:∀ j,j<A.sz->(A.put b x).gt j=if b=j then some x else A.gt j:=fun j I=>Zkq (by omega) (by omega)
 have U:∀ j,j<A.sz->Live (A.put b x) j->Live A j:=fun j I ⟨y,hy,hd⟩=>by
  rw [V j I] at hy
  split at hy
  ·rename_i e;subst e;exact r
  exact ⟨y,hy,hd⟩
 refine ⟨by simpa using H.sz,fun j l' e=>by simpa using H.dom j l' e,H.fresh,?_,?_,?_,?_⟩
 ·refine H.ext.then (S':=fun j=>j=l.rb) ⟨by omega,fun j _ I=>D j I⟩ fun j I e=>?_;have:=H.fresh b l hb;omega
 ·intro j cs sz ex fz I J;simp at I;rw [V j I] at J
  split at J
  ·rename_i e;subst e
   cases J
   obtain ⟨h1,X⟩:=hc cs sz ex fz rfl;exact ⟨l,hb,h1,X⟩
  rename_i e;obtain ⟨l',O,e2,e3⟩:=H.cells j cs sz ex fz I J;exact ⟨l',O,e2,e3.heap (D _ (H.disj j b l' l (Ne.symm e) O hb ⟨_,J,by simp⟩ r))⟩
 ·intro j R I J;simp at I;rw [V j I] at J
  split at J
  ·rename_i e;subst e
   cases J
   exact ⟨l,hb,hm R rfl⟩
  rename_i e;obtain ⟨l',O,M,G,e2,e3⟩:=H.maps j R I J;exact ⟨l',O,M,G,by rw [D _ (H.disj j b l' l (Ne.symm e) O hb ⟨_,J,by simp⟩ r)];exact e2,e3⟩
 intro j j' l1 l2 Z O e2 h1 X;exact H.disj j j' l1 l2 Z O e2 (U j (H.dom _ _ O) h1) (U j' (H.dom _ _ e2) X)
theorem Qo {α:Type} {o:Option U2} {f:Zc->Nat->Bool->Bool->Option α} {r:α} (h:onC o f=some r):∃ cs sz ex fz,o=some (.cells cs sz ex fz)/\f cs sz ex fz=some r:=by
 obtain ⟨x,hx,D⟩:=Yn.1 h
 cases x with
 | cells cs sz ex fz=>exact ⟨cs,sz,ex,fz,hx,D⟩
 | dead=>cases D
 | map G=>cases D
theorem HR.write (H:HR Y φ A h0 h) {b o:Nat} {l:Loc} {vs r:Zc} (hb:φ b=some l) (G:A.wr b o vs=some A') (hv:VL Y φ vs r) :
  ∃ h',hst h l.rb (l.base+o) r=some h'/\HR Y φ A' h0 h':=by
 obtain ⟨cs,sz,ex,fz,V,G⟩:=Qo G;obtain ⟨M,hs,G⟩:=Yn.1 G
 cases G
 obtain ⟨s1,s2,X⟩:=Zif hs;have lb:=H.dom b l hb;obtain ⟨l',Z,e2,e3⟩:=H.cells b cs sz ex fz lb V;rw [hb] at Z;cases Z;obtain ⟨rcs,t,f,c1,c2,c3,c4,c5⟩:=e3.ex;have lv:=hv.1;have O:∀ v,v∈r->v.oneCell'=true:=fun v hm=>by
  obtain ⟨i,hi,rfl⟩:=Xgx hm;have I:i<vs.length:=by omega
  exact (hv.2 i vs[i] r[i] (by simp [I]) (by simp [hi])).one (s2 _ (Xgf I))
 obtain ⟨h',J,a1,a2,a3,a4,a5,a6⟩:=Z1j r c1 (o:=l.base+o) (by omega) (fun k k1 R=>c4 k (by omega) (by omega)) O;refine ⟨h',a1,H.change hb ⟨_,V,by simp⟩ (by simp) a5 a6 ?_ (fun es e=>by cases e)⟩;rintro aa ab ac ad ⟨rfl,rfl,rfl,rfl⟩;have ll:M.length=cs.length:=by rw [X];simp;omega
 refine ⟨e2,⟨J,t,f,a2,by rw [ll,a3];exact c2,c3,fun k k1 R=>c4 k k1 (by rw [ll] at R;exact R),fun i v U h1 D=>?_⟩⟩;rw [a4] at D;rw [X] at h1;by_cases q1:i<o
 ·rw [if_neg (by omega)] at D;rw [Xgu,Xgh (by simp;omega),Xg7,if_pos q1] at h1;exact c5 i v U h1 D
 by_cases q2:i<o+vs.length
 ·rw [if_pos (by omega)] at D;rw [Xgu,Xgv (by simp;omega),Xgh (by simp;omega)] at h1;simp at h1;rw [Xg8 (by omega)] at h1;rw [show l.base+i-(l.base+o)=i-o by omega] at D;exact hv.2 _ v U h1 D
 rw [if_neg (by omega)] at D;rw [Xgv (by simp;omega)] at h1;simp at h1;rw [Xg8 (by omega),show o+vs.length+(i-(o+vs.length))=i by omega] at h1;exact c5 i v U h1 D
theorem HR.read (H:HR Y φ A h0 h) {b o n:Nat} {l:Loc} {r:Zc} (hb:φ b=some l) (G:A.rd b o n=some r):∃ J,rd h l.rb (l.base+o) n=some J/\VL Y φ r J:=by
 obtain ⟨cs,sz,ex,fz,R,G⟩:=Qo G;rw [Zt8] at G;obtain ⟨s1,s2⟩:=Zmn G;have U:=H.dom b l hb;obtain ⟨l',M,e2,e3⟩:=H.cells b cs sz ex fz U R;rw [hb] at M;cases M;obtain ⟨rcs,t,f,c1,c2,c3,c4,V⟩:=e3.ex;have O:(cs.drop o).length=cs.length-o:=by simp
 refine ⟨(rcs.toList.drop (l.base+o)).take n,?_,?_⟩
 ·have X:n<=(rcs.toList.drop (l.base+o)).length:=by
   simp;omega
  have:=Zba (h:=h) (b:=l.rb) (l:=(rcs.toList.drop (l.base+o)).take n) (o:=l.base+o) fun i v D=>by
   rw [Xg7] at D
   split at D
   ·rw [Xhd] at D;simp only [hc,c1];simpa using D
   cases D
  rw [Xgp,Xg8 X] at this;exact this
 refine ⟨by rw [s2];simp;omega,fun i v Z h1 I=>?_⟩;rw [s2] at h1;rw [Xg7] at h1 I
 split at h1
 ·rename_i D;rw [if_pos D] at I;rw [Xhd] at h1 I;exact V (o+i) v Z h1 (by rw [<-Xg1];simpa using I)
 cases h1
theorem HR.cell1 (H:HR Y φ A h0 h) {b o:Nat} {l:Loc} {v:Value} (hb:φ b=some l) (r:A.cell b o=some v):∃ D,hc h l.rb (l.base+o)=some D/\VR Y φ v D:=by
 obtain ⟨cs,sz,ex,fz,J,r⟩:=Qo r;rw [Z49] at r;have M:=H.dom b l hb;obtain ⟨l',G,e2,e3⟩:=H.cells b cs sz ex fz M J;rw [hb] at G;cases G;obtain ⟨rcs,t,f,c1,R,U,V,O⟩:=e3.ex;have X:o<cs.length:=(List.getElem?_eq_some_iff.1 r).1;have I:l.base+o<rcs.size:=by omega
 exact ⟨rcs[l.base+o],by simp [hc,c1,I],O o v _ r (by simp [I])⟩
end
def Vi:Value->Bool
 | .bool _ | .int _ _ | .string _ | .pointer none | .slice none _ _ | .map none | .nilFunc | .nilIface=>true
 | _=>false
def Zhw:Value->Bool
 | .agg xs=>xs.toList.all Vi
 | v=>Vi v
section
variable {Y:Sys} {φ:Qc} {A A':AH} {h0 h:Zk}
theorem Zkt {v:Value} (h:Vi v=true):VR Y φ v v:=by
 unfold Vi at h
 split at h
 ·exact .bool _
 ·exact .int _ _
 ·exact .string _
 ·exact .ptr0
 ·exact .slc0 _ _
 ·exact .map0
 ·exact .nilFunc
 ·exact .nilIface
 cases h
theorem U0 {l:Zc} (h:l.all Vi=true):VL Y φ l l:=by
 refine ⟨rfl,fun i v D h1 r=>?_⟩;rw [h1] at r
 cases r
 exact Zkt (List.all_eq_true.1 h v (Xjk h1))
theorem Zgr {v:Value} (h:Zhw v=true):VR Y φ v v:=by
 unfold Zhw at h
 split at h
 ·rename_i xs;have:=VR.arr.1 (U0 (Y:=Y) (φ:=φ) h);exact .agg this.1 this.2
 exact Zkt h
theorem Vz {α:Type} {xs:Zc} {f:Value->Option α} {r:α} (h:on1 xs f=some r):∃ x,xs=[x]/\f x=some r:=by
 cases xs with
 | nil=>cases h
 | cons x xs=>cases xs with
  | nil=>exact ⟨x,rfl,h⟩
  | cons y D=>cases h
theorem W8 {α:Type} {xs:Zc} {f:Value->Value->Option α} {r:α} (h:on2 xs f=some r):∃ x y,xs=[x,y]/\f x y=some r:=by
 cases xs with
 | nil=>cases h
 | cons x xs =>
  obtain ⟨y,rfl,h⟩:=Vz (show on1 xs (f x)=some r from h);exact ⟨x,y,rfl,h⟩
theorem Zkr {α:Type} {xs:Zc} {f:Value->Value->Value->Option α} {r:α} (h:on3 xs f=some r):∃ x y z,xs=[x,y,z]/\f x y z=some r:=by
 cases xs with
 | nil=>cases h
 | cons x xs =>
  obtain ⟨y,z,rfl,h⟩:=W8 (show on2 xs (f x)=some r from h);exact ⟨x,y,z,rfl,h⟩
theorem Zb6 {α:Type} {n:Nat} {f:Nat->α}:frc n f=f n:=by cases n <;> rfl
theorem VL.un1 {a:Value} {m:Zc} (h:VL Y φ [a] m):∃ b,m=[b]/\VR Y φ a b:=by
 obtain ⟨b,l,rfl,h1,r⟩:=h.uncons;rw [r.unnil];exact ⟨b,rfl,h1⟩
theorem VL.un2 {a b:Value} {m:Zc} (h:VL Y φ [a,b] m):∃ a' b',m=[a',b']/\VR Y φ a a'/\VR Y φ b b':=by
 obtain ⟨a',l,rfl,h1,r⟩:=h.uncons;obtain ⟨b',rfl,D⟩:=r.un1;exact ⟨a',b',rfl,h1,D⟩
theorem VL.un3 {a b c:Value} {m:Zc} (h:VL Y φ [a,b,c] m):∃ a' b' c',m=[a',b',c']/\VR Y φ a a'/\VR Y φ b b'/\VR Y φ c c':=by
 obtain ⟨a',l,rfl,h1,r⟩:=h.uncons;obtain ⟨b',c',rfl,D,h4⟩:=r.un2;exact ⟨a',b',c',rfl,h1,D,h4⟩
theorem VR.i {k:IntKind} {n:Int} {v:Value} (h:VR Y φ (.int k n) v):v = .int k n:=by cases h;rfl
theorem VR.b {b:Bool} {v:Value} (h:VR Y φ (.bool b) v):v = .bool b:=by cases h;rfl
theorem VR.s {b:ByteArray} {v:Value} (h:VR Y φ (.string b) v):v = .string b:=by cases h;rfl
theorem VR.p {b o:Nat} {v:Value} (h:VR Y φ (.pointer (some ⟨b,o,none⟩)) v):∃ l,φ b=some l/\v = .pointer (some ⟨l.rb,l.base+o,none⟩):=by cases h with | ptr h=>exact ⟨_,h,rfl⟩
theorem VR.p0 {v:Value} (h:VR Y φ (.pointer none) v):v = .pointer none:=by cases h;rfl
theorem VR.ps {a:Addr} {v:Value} (h:VR Y φ (.pointer (some a)) v):∃ b,v = .pointer (some b):=by cases h;exact ⟨_,rfl⟩
theorem VR.c0 {n c:Nat} {v:Value} (h:VR Y φ (.slice none n c) v):v = .slice none n c:=by cases h;rfl
theorem VR.c {b o n c:Nat} {v:Value} (h:VR Y φ (.slice (some ⟨b,o,none⟩) n c) v):∃ l,φ b=some l/\v = .slice (some ⟨l.rb,l.base+o,none⟩) n (c+l.dl):=by cases h with | slc h=>exact ⟨_,h,rfl⟩
theorem VR.cs {a:Addr} {n c:Nat} {v:Value} (h:VR Y φ (.slice (some a) n c) v):∃ b o c':Nat,v = .slice (some ⟨b,o,none⟩) n c':=by
 cases h with
 | slc h=>exact ⟨_,_,_,rfl⟩
 | slcE b o c=>exact ⟨_,_,_,rfl⟩
theorem VR.cn {a:Option Addr} {n c:Nat} {v:Value} (h:VR Y φ (.slice a n c) v):∃ b c',v = .slice b n c'/\b.isNone=a.isNone:=by
 cases h with
 | slc0 n c=>exact ⟨_,_,rfl,rfl⟩
 | slc h=>exact ⟨_,_,rfl,rfl⟩
 | slcE b o c=>exact ⟨_,_,rfl,rfl⟩
theorem VR.m {r:Nat} {v:Value} (h:VR Y φ (.map (some r)) v):∃ l,φ r=some l/\v = .map (some l.rb):=by cases h with | map h=>exact ⟨_,h,rfl⟩
theorem VR.m0 {v:Value} (h:VR Y φ (.map none) v):v = .map none:=by cases h;rfl
theorem VR.nI {v:Value} (h:VR Y φ .nilIface v):v = .nilIface:=by cases h;rfl
theorem VR.nF {v:Value} (h:VR Y φ .nilFunc v):v = .nilFunc:=by cases h;rfl
theorem VR.f {j:Nat} {a c:Array Value} {v:Value} (h:VR Y φ (.func (.func j) a c) v):∃ a' c',v = .func (.func (Y.fid j)) a' c'/\VL Y φ a.toList a'.toList/\VL Y φ c.toList c'.toList:=by
 cases h with | func r hc D G=>exact ⟨_,_,rfl,VR.arr.2 ⟨r,D⟩,VR.arr.2 ⟨hc,G⟩⟩
theorem VR.t {t:Nat} {x v:Value} (h:VR Y φ (.iface t x) v):∃ r,v = .iface (Y.tid t) r/\VR Y φ x r:=by cases h with | iface h=>exact ⟨_,rfl,h⟩
theorem VR.a {xs:Array Value} {v:Value} (h:VR Y φ (.agg xs) v):∃ r,v = .agg r/\VL Y φ xs.toList r.toList:=h.un_agg
theorem Zhn {a b:Nat}:Nat.beq a b=decide (a=b):=by
 by_cases h:a=b
 ·subst h;simp
 rw [decide_eq_false h]
 cases q:Nat.beq a b with
 | false=>rfl
 | true=>exact absurd (Xf3 q) h
theorem Zaw {a b:Nat}:Nat.ble a b=decide (a<=b):=by
 by_cases h:a<=b
 ·rw [decide_eq_true h];exact Xh1 h
 rw [decide_eq_false h]
 cases q:Nat.ble a b with
 | false=>rfl
 | true=>exact absurd (Xge q) h
theorem Zqq {a b:IntKind} (h:Zm9 a b=true):a=b:=by cases a <;> cases b <;> first | rfl | (cases h)
theorem Zue {a b:Int}:iEq a b=(a == b):=by
 cases a with
 | ofNat x=>cases b with
  | ofNat y =>
   show Nat.beq x y=_;rw [Zhn];by_cases h:x=y
   ·subst h;simp
   have:(Int.ofNat x == Int.ofNat y)=false:=by rw [beq_eq_false_iff_ne];exact fun e=>h (Int.ofNat.inj e)
   rw [this,decide_eq_false h]
  | negSucc y=>show false=_;simp
 | negSucc x=>cases b with
  | ofNat y=>show false=_;simp
  | negSucc y =>
   show Nat.beq x y=_;rw [Zhn];by_cases h:x=y
   ·subst h;simp
   have:(Int.negSucc x == Int.negSucc y)=false:=by rw [beq_eq_false_iff_ne];exact fun e=>h (Int.negSucc.inj e)
   rw [this,decide_eq_false h]
theorem Z9t {a b:Int}:iLe a b=decide (a<=b):=by
 cases a with
 | ofNat x=>cases b with
  | ofNat y=>show Nat.ble x y=_;rw [Zaw];apply decide_eq_decide.2;simp
  | negSucc y=>show false=_;symm;rw [decide_eq_false_iff_not];simp;omega
 | negSucc x=>cases b with
  | ofNat y=>show true=_;symm;rw [decide_eq_true_eq];simp;omega
  | negSucc y=>show Nat.ble y x=_;rw [Zaw];apply decide_eq_decide.2;omega
theorem Zd2 {α:Type} {p:Prop} [Decidable p] {x y:α}:bf (decide p) x y=if p then x else y:=by
 by_cases h:p <;> simp [h]
theorem Z6f {a b:Int}:Xc6 a b=a+b:=by
 cases a with
 | ofNat x=>cases b with
  | ofNat y=>rfl
  | negSucc y =>
   show bf (Nat.ble (y+1) x) (Int.ofNat (x-(y+1))) (Int.negSucc (y-x))=_;rw [Zaw,Zd2]
   split <;> (try simp only [Xg9]) <;> omega
 | negSucc x=>cases b with
  | ofNat y =>
   show bf (Nat.ble (x+1) y) (Int.ofNat (y-(x+1))) (Int.negSucc (x-y))=_;rw [Zaw,Zd2]
   split <;> (try simp only [Xg9]) <;> omega
  | negSucc y=>show Int.negSucc (x+y+1)=_;omega
theorem Z7n {a b:Int}:Xch a b=a-b:=by
 cases a with
 | ofNat x=>cases b with
  | ofNat y =>
   show bf (Nat.ble y x) (Int.ofNat (x-y)) (Int.negSucc (y-x-1))=_;rw [Zaw,Zd2]
   split <;> (try simp only [Xg9]) <;> omega
  | negSucc y=>show Int.ofNat (x+(y+1))=_;simp only [Xg9];omega
 | negSucc x=>cases b with
  | ofNat y=>show Int.negSucc (x+y)=_;rw [Xg9];omega
  | negSucc y =>
   show bf (Nat.ble x y) (Int.ofNat (y-x)) (Int.negSucc (x-y-1))=_;rw [Zaw,Zd2]
   split <;> (try simp only [Xg9]) <;> omega
theorem Zsq {k:IntKind} {n:Int}:Zxw k n=some (.int k (k.wrap n)):=by
 unfold Zxw
 cases r:Z8m k with
 | false=>rfl
 | true =>
  have:k = .i64:=by cases k <;> first | rfl | (cases r)
  subst this;rw [Qm]
  cases n with
  | ofNat a =>
   show bf (Nat.ble a 9223372036854775807) (frc a fun a=>some (Value.int .i64 (.ofNat a))) (some (Value.int .i64 (IntKind.i64.wrap (.ofNat a))))=_;rw [Zaw,Zd2]
   split
   ·rw [Zb6,Zo (by simp only [Xg9];omega)]
   rfl
  | negSucc a =>
   show bf (Nat.ble a 9223372036854775807) (frc a fun a=>some (Value.int .i64 (.negSucc a))) (some (Value.int .i64 (IntKind.i64.wrap (.negSucc a))))=_;rw [Zaw,Zd2]
   split
   ·rw [Zb6,Zo (by omega)]
   rfl
theorem Z8z {b:Bool}:bl b=some (.bool b):=by cases b <;> rfl
theorem Xav {op:BinOp} {k D:IntKind} {a b:Int} {v:Value} (h:ibF op k a D b=some v):X8 op k a D b=some v:=by
  unfold ibF at h
  split at h
  all_goals first
    | exact h
    | (obtain ⟨h1,r⟩:=Yb.1 h
       have:=Zqq h1;subst this
       first
         | rw [Zsq,Z6f] at r
         | rw [Zsq,Z7n] at r
         | rw [Z8z,Zue] at r
         | rw [Z8z,Z9t] at r
       rw [<-r];simp [X8]
       try first | rfl | (rw [<-decide_not];exact decide_eq_decide.2 (by omega)))
end
def opC:Yo->Bool
 | .build z _ _=>z.toList.all Vi
 | .buildA _ z _=>z.toList.all Vi
 | .lookup _ _ z=>Zhw z
 | _=>true
section
variable {Y:Sys} {φ:Qc} {A A':AH} {h0 h:Zk}
theorem Zvh {x:Value} {xs:Zc} (h:Vf (x::xs)=true):nt x=true/\Vf xs=true:=by
 have h:bf (nt x) (Vf xs) false=true:=h
 cases q:nt x with
 | false=>rw [q] at h;cases h
 | true=>rw [q] at h;exact ⟨rfl,h⟩
theorem Zt1:∀ {xs r:Zc} {b:Bool},Qv xs r=some b->∀ {D G},VL Y φ xs D->VL Y φ r G->D=xs/\G=r:=by
 intro xs
 induction xs with
 | nil =>
  intro r b e D G h1 H
  cases r with
  | nil=>exact ⟨h1.unnil,H.unnil⟩
  | cons y r=>cases e
 | cons x xs ih =>
  intro r b e D G h1 H
  cases r with
  | nil=>cases x <;> cases e
  | cons y r =>
   cases x <;> first | (cases e;done) | skip
   cases y <;> first | (cases e;done) | skip
   rename_i k a j c;simp only [Qv] at e
   split at e
   ·simp only [Xfz] at e;obtain ⟨d,I,e2⟩:=e;obtain ⟨V,l',rfl,J,g2⟩:=h1.uncons;obtain ⟨X,m',rfl,M,O⟩:=H.uncons;obtain ⟨R,U⟩:=ih I g2 O;rw [J.i,M.i,R,U];exact ⟨rfl,rfl⟩
   cases e
theorem Z6z {n:Nat}:∀ (vs D:Zc),VL Y φ vs D->∀ (k r:Nat) (c c':Array Value),VL Y φ c.toList c'.toList ->
  VL Y φ ((vs.zipIdx k).foldl (fun (cs:Array Value) (x:Value × Nat)=>cs.setIfInBounds (r+x.2) x.1) c).toList ((D.zipIdx k).foldl (fun (cs:Array Value) (x:Value × Nat)=>cs.setIfInBounds (r+x.2) x.1) c').toList:=by
 intro vs
 induction vs with
 | nil=>intro D hv k r c c' hc;rw [hv.unnil];exact hc
 | cons v vs ih =>
  intro D hv k r c c' hc;obtain ⟨H,l',rfl,h1,G⟩:=hv.uncons;simp only [List.zipIdx_cons,Xh7];refine ih l' G (k+1) r _ _ ?_;simp only [Xip];exact hc.set h1 _
theorem Zqv {r:Nat->Option (Nat × Nat)}:∀ {G:Zd} {xs D:Zc} {c c' cs:Array Value},VL Y φ xs D->Vf xs=true->VL Y φ c.toList c'.toList->Instr.fill r c (G.zip xs)=some cs ->
  ∃ H,Instr.fill r c' (G.zip D)=some H/\VL Y φ cs.toList H.toList:=by
 intro G
 induction G with
 | nil =>
  intro xs D c c' cs hx O hc e;simp [Instr.fill] at e;subst e;exact ⟨c',by simp [Instr.fill],hc⟩
 | cons i G ih =>
  intro xs D c c' cs hx O hc e
  cases xs with
  | nil =>
   rw [hx.unnil];simp [Instr.fill] at e;subst e;exact ⟨c',by simp [Instr.fill],hc⟩
  | cons x xs =>
   obtain ⟨R,l',rfl,h1,V⟩:=hx.uncons;obtain ⟨n1,n2⟩:=Zvh O;simp only [Xjf,Instr.fill] at e ⊢
   cases hp:r i with
   | none=>rw [hp] at e;cases e
   | some p =>
    obtain ⟨J,U⟩:=p;rw [hp] at e;have I:=h1.cells n1;have hs:R.cells.size=x.cells.size:=by simpa using I.1.symm
    have M:c'.size=c.size:=by simpa using hc.1.symm
    simp only [hs,M] at e ⊢
    split at e
    ·cases e
    ·rename_i hq;rw [if_neg hq];refine ih V n2 ?_ e;have:=Z6z (n:=0) x.cells.toList R.cells.toList I 0 J c c' hc;simpa only [<-Array.foldl_toList,Array.toList_zipIdx] using this
end
section
variable {Y:Sys} {φ:Qc} {A A':AH} {h0 h:Zk}
def Qb (Y:Sys) (φ:Qc) (h:Zk) (op:Yo) (xs:Zc) (v:Value):Prop:=∀ xs',VL Y φ xs xs'->∃ v',Yo.sem Y h op xs'=some v'/\VR Y φ v v'
theorem Z8b {op:BinOp} {k j:IntKind} {a b:Int} {v:Value} (e:X8 op k a j b=some v):VR Y φ v v:=by
 have:(∃ k n,v = .int k n)\/∃ b,v = .bool b:=by
  unfold X8 at e
  split at e
  ·split at e
   ·cases e
   ·cases e;exact .inl ⟨_,_,rfl⟩
  ·split at e
   ·cases e
   ·cases e;exact .inl ⟨_,_,rfl⟩
  split at e
  ·cases e
  ·split at e
   all_goals first
    | (cases e;done)
    | (cases e;first | exact .inl ⟨_,_,rfl⟩ | exact .inr ⟨_,rfl⟩)
    | (split at e;(cases e);(cases e;exact .inl ⟨_,_,rfl⟩))
 rcases this with ⟨k,n,rfl⟩ | ⟨b,rfl⟩
 ·exact .int k n
 exact .bool b
theorem Z6x {op:BinOp} {a b:ByteArray} {v:Value} (e:Zw9 op a b=some v):VR Y φ v v:=by
 have:(∃ s,v = .string s)\/∃ b,v = .bool b:=by
  unfold Zw9 at e
  split at e
  all_goals first
   | (cases e;done)
   | (cases e;first | exact .inl ⟨_,rfl⟩ | exact .inr ⟨_,rfl⟩)
   | (split at e;(cases e;exact .inl ⟨_,rfl⟩);(cases e))
 rcases this with ⟨s,rfl⟩ | ⟨b,rfl⟩
 ·exact .string s
 exact .bool b
theorem Xc0 {op:BinOp} {xs:Zc} {v:Value} (e:on2 xs (Xc3 op)=some v):Qb Y φ h (.ib op) xs v:=by
 intro G hx;obtain ⟨x,y,r,D⟩:=W8 e;clear e;subst r;obtain ⟨I,J,rfl,h1,H⟩:=hx.un2
 cases x with
 | int k a =>
  cases y with
  | int j b =>
   have e:=Xav (show ibF op k a j b=some v from D);rw [h1.i,H.i];exact ⟨v,e,Z8b e⟩
  | _=>cases D
 | _=>cases D
theorem Xbo {op:BinOp} {xs:Zc} {v:Value} (e:Yo.sem Y0 #[] (.sb op) xs=some v):Qb Y φ h (.sb op) xs v:=by
 intro D hx;rcases xs with _ | ⟨x,_ | ⟨y,_ | ⟨z,r⟩⟩⟩
 ·cases e
 ·cases x <;> cases e
 ·cases x <;> first | (cases e;done) | skip
  cases y <;> first | (cases e;done) | skip
  obtain ⟨H,I,rfl,h1,G⟩:=hx.un2;rw [h1.s,G.s];exact ⟨v,e,Z6x e⟩
 ·cases x <;> first | (cases e;done) | skip
  cases y <;> cases e
theorem Xam {neg:Bool} {xs:Zc} {v:Value} (e:Yo.sem Y0 #[] (.eqb neg) xs=some v):Qb Y φ h (.eqb neg) xs v:=by
 intro D hx;rcases xs with _ | ⟨x,_ | ⟨y,_ | ⟨z,r⟩⟩⟩
 ·cases e
 ·cases x <;> cases e
 ·cases x <;> first | (cases e;done) | skip
  cases y <;> first | (cases e;done) | skip
  obtain ⟨H,I,rfl,h1,G⟩:=hx.un2;rw [h1.b,G.b]
  cases e
  exact ⟨_,rfl,.bool _⟩
 ·cases x <;> first | (cases e;done) | skip
  cases y <;> cases e
theorem Xan {neg:Bool} {xs:Zc} {v:Value} (e:Yo.sem Y0 #[] (.eqp neg) xs=some v):Qb Y φ h (.eqp neg) xs v:=by
 intro G hx;rcases xs with _ | ⟨x,_ | ⟨y,_ | ⟨z,r⟩⟩⟩
 ·cases e
 ·cases x <;> first | (cases e;done) | skip
  rename_i a
  cases a <;> cases e
 ·cases x <;> first | (cases e;done) | skip
  rename_i a
  cases a with
  | none =>
   cases y <;> first | (cases e;done) | skip
   rename_i b;obtain ⟨H,I,rfl,h1,D⟩:=hx.un2;rw [h1.p0]
   cases e
   cases b with
   | none=>rw [D.p0];exact ⟨_,rfl,.bool _⟩
   | some b=>obtain ⟨b',rfl⟩:=D.ps;exact ⟨_,rfl,.bool _⟩
  | some a =>
   cases y <;> first | (cases e;done) | skip
   rename_i b;obtain ⟨H,I,rfl,h1,D⟩:=hx.un2
   cases b with
   | none =>
    obtain ⟨a',rfl⟩:=h1.ps;rw [D.p0]
    cases e
    exact ⟨_,rfl,.bool _⟩
   | some b=>cases e
 ·cases x <;> first | (cases e;done) | skip
  rename_i a
  cases a <;> cases y <;> first | (cases e;done) | skip
  rename_i b
  cases b <;> cases e
theorem Xaa {neg D:Bool} {xs:Zc} {v:Value} (e:Yo.sem Y0 #[] (.eqi neg D) xs=some v):Qb Y φ h (.eqi neg D) xs v:=by
 intro H hx;rcases xs with _ | ⟨x,_ | ⟨y,_ | ⟨z,r⟩⟩⟩
 ·cases e
 ·cases x <;> cases e
 ·obtain ⟨I,J,rfl,h1,G⟩:=hx.un2
  cases x <;> first | (cases e;done) | skip
  ·cases y <;> first | (cases e;done) | skip
   obtain ⟨u,rfl,_⟩:=h1.t;rw [G.nI]
   cases e
   exact ⟨_,rfl,.bool _⟩
  ·cases y <;> first | (cases e;done) | skip
   ·obtain ⟨u,rfl,_⟩:=G.t;rw [h1.nI]
    cases e
    exact ⟨_,rfl,.bool _⟩
   rw [h1.nI,G.nI]
   cases D with
   | false=>cases e
   | true=>cases e;exact ⟨_,rfl,.bool _⟩
 cases x <;> first | (cases e;done) | skip
 all_goals (cases y <;> cases e)
theorem Z9u {neg:Bool} {xs:Zc} {v:Value} (e:Yo.sem Y0 #[] (.eqs neg) xs=some v):Qb Y φ h (.eqs neg) xs v:=by
 intro G hx;rcases xs with _ | ⟨x,_ | ⟨y,_ | ⟨z,r⟩⟩⟩
 ·cases e
 ·cases x <;> first | (cases e;done) | skip
  rename_i a n c
  cases a <;> cases e
 ·obtain ⟨H,I,rfl,h1,D⟩:=hx.un2
  cases x <;> first | (cases e;done) | skip
  rename_i a n c
  cases a with
  | none =>
   cases y <;> first | (cases e;done) | skip
   obtain ⟨b',c',rfl,hb⟩:=D.cn;rw [h1.c0]
   cases e
   refine ⟨_,rfl,?_⟩;rw [hb];exact .bool _
  | some a =>
   cases y <;> first | (cases e;done) | skip
   rename_i b J c'
   cases b with
   | none =>
    obtain ⟨M,o1,c1,rfl⟩:=h1.cs;rw [D.c0]
    cases e
    exact ⟨_,rfl,.bool _⟩
   | some b=>cases e
 cases x <;> first | (cases e;done) | skip
 rename_i a n c
 cases a <;> cases y <;> first | (cases e;done) | skip
 rename_i b _ _
 cases b <;> cases e
theorem Z94 {neg:Bool} {xs:Zc} {v:Value} (e:Yo.sem Y0 #[] (.eqf neg) xs=some v):Qb Y φ h (.eqf neg) xs v:=by
 intro G hx;rcases xs with _ | ⟨x,_ | ⟨y,_ | ⟨z,r⟩⟩⟩
 ·cases e
 ·cases x <;> cases e
 ·obtain ⟨H,I,rfl,h1,D⟩:=hx.un2
  cases x <;> first | (cases e;done) | skip
  ·cases y <;> first | (cases e;done) | skip
   rw [D.nF]
   cases h1 with
   | func=>cases e;exact ⟨_,rfl,.bool _⟩
  ·cases y <;> first | (cases e;done) | skip
   rw [h1.nF,D.nF]
   cases e
   exact ⟨_,rfl,.bool _⟩
 cases x <;> first | (cases e;done) | skip
 all_goals (cases y <;> cases e)
theorem Z98 {neg:Bool} {n:Nat} {xs:Zc} {v:Value} (e:Yo.sem Y0 #[] (.eqa neg n) xs=some v):Qb Y φ h (.eqa neg n) xs v:=by
 intro D hx;rcases xs with _ | ⟨x,_ | ⟨y,_ | ⟨z,r⟩⟩⟩
 ·cases e
 ·cases x <;> cases e
 ·obtain ⟨U,V,rfl,h1,J⟩:=hx.un2
  cases x <;> first | (cases e;done) | skip
  cases y <;> first | (cases e;done) | skip
  rename_i xs M;obtain ⟨D,rfl,O⟩:=h1.a;obtain ⟨G,rfl,g2⟩:=J.a;have e':=e;simp only [Yo.sem] at e'
  split at e'
  ·obtain ⟨b,R,e2⟩:=Option.bind_eq_some_iff.1 e';obtain ⟨H,I⟩:=Zt1 R O g2;have H:D=xs:=Xf6 H;have I:G=M:=Xf6 I;rw [H,I];unfold Zam at e2
   cases e2
   exact ⟨_,e,.bool _⟩
  cases e'
 cases x <;> first | (cases e;done) | skip
 cases y <;> cases e
end
section
variable {Y:Sys} {φ:Qc} {A A':AH} {h0 h:Zk}
theorem Z5e {xs:Zc} {v:Value} (e:Yo.sem Y0 #[] .nilck xs=some v):Qb Y φ h .nilck xs v:=by
 intro D hx;rcases xs with _ | ⟨x,_ | ⟨y,r⟩⟩
 ·cases e
 ·obtain ⟨G,rfl,h1⟩:=hx.un1
  cases x with
  | pointer a =>
   cases a with
   | none=>cases e
   | some a =>
    have e:some (Value.pointer (some a))=some v:=e
    cases e
    cases h1 with
    | ptr hp=>exact ⟨_,rfl,.ptr hp⟩
  | iface t u =>
   have e:some (Value.iface t u)=some v:=e
   cases e
   obtain ⟨H,rfl,g⟩:=h1.t;exact ⟨_,rfl,.iface g⟩
  | func f a c =>
   cases f with
   | func j =>
    have e:some (Value.func (.func j) a c)=some v:=e
    cases e
    obtain ⟨a',c',rfl,I,g2⟩:=h1.f;exact ⟨_,rfl,h1⟩
   | _=>cases e
  | _=>cases e
 cases x with
 | pointer a=>cases a <;> cases e
 | func f a c=>cases f <;> cases e
 | _=>cases e
theorem Xb6 {op:UnOp} {xs:Zc} {v:Value} (e:Yo.sem Y0 #[] (.un op) xs=some v):Qb Y φ h (.un op) xs v:=by
 intro D hx;rcases xs with _ | ⟨x,_ | ⟨y,r⟩⟩
 ·cases op <;> cases e
 ·obtain ⟨G,rfl,h1⟩:=hx.un1
  cases op <;> cases x <;> first | (cases e;done) | skip
  ·rw [h1.i];cases e;exact ⟨_,rfl,.int _ _⟩
  rw [h1.b];cases e;exact ⟨_,rfl,.bool _⟩
 cases op <;> cases x <;> cases e
theorem Z7u {k:IntKind} {xs:Zc} {v:Value} (e:Yo.sem Y0 #[] (.conv k) xs=some v):Qb Y φ h (.conv k) xs v:=by
 intro D hx;rcases xs with _ | ⟨x,_ | ⟨y,r⟩⟩
 ·cases e
 ·obtain ⟨G,rfl,h1⟩:=hx.un1
  cases x <;> first | (cases e;done) | skip
  rw [h1.i];cases e;exact ⟨_,rfl,.int _ _⟩
 cases x <;> cases e
theorem Z79 {xs:Zc} {v:Value} (e:Yo.sem Y0 #[] .lenS xs=some v):Qb Y φ h .lenS xs v:=by
 intro D hx;rcases xs with _ | ⟨x,_ | ⟨y,r⟩⟩
 ·cases e
 ·obtain ⟨G,rfl,h1⟩:=hx.un1
  cases x <;> first | (cases e;done) | skip
  rw [h1.s];cases e;exact ⟨_,rfl,.int _ _⟩
 cases x <;> cases e
theorem Z7v {n:Nat} {xs:Zc} {v:Value} (e:Yo.sem Y0 #[] (.lenA n) xs=some v):Qb Y φ h (.lenA n) xs v:=by
 intro D hx;rcases xs with _ | ⟨x,_ | ⟨y,r⟩⟩
 ·cases e
 ·obtain ⟨G,rfl,h1⟩:=hx.un1;have e:some (Value.int .i64 n)=some v:=e
  cases e
  exact ⟨_,rfl,.int _ _⟩
 cases e
theorem Xa3 {t:Nat} {xs:Zc} {v:Value} (e:Yo.sem Y0 #[] (.mkI t) xs=some v):Qb Y φ h (.mkI t) xs v:=by
 intro D hx;rcases xs with _ | ⟨x,_ | ⟨y,r⟩⟩
 ·cases e
 ·obtain ⟨G,rfl,h1⟩:=hx.un1;have e:some (Value.iface t x)=some v:=e
  cases e
  exact ⟨_,rfl,.iface h1⟩
 cases e
theorem Xck {xs:Zc} {v:Value} (e:Yo.sem Y0 #[] .mn xs=some v):Qb Y φ h .mn xs v:=by
 intro D hx;rcases xs with _ | ⟨x,_ | ⟨y,_ | ⟨z,r⟩⟩⟩
 ·cases e
 ·cases x <;> cases e
 ·cases x <;> first | (cases e;done) | skip
  cases y <;> first | (cases e;done) | skip
  obtain ⟨H,I,rfl,h1,G⟩:=hx.un2;rw [h1.i,G.i];cases e;exact ⟨_,rfl,.int _ _⟩
 ·cases x <;> first | (cases e;done) | skip
  cases y <;> cases e
theorem Xc8 {xs:Zc} {v:Value} (e:Yo.sem Y0 #[] .mx xs=some v):Qb Y φ h .mx xs v:=by
 intro D hx;rcases xs with _ | ⟨x,_ | ⟨y,_ | ⟨z,r⟩⟩⟩
 ·cases e
 ·cases x <;> cases e
 ·cases x <;> first | (cases e;done) | skip
  cases y <;> first | (cases e;done) | skip
  obtain ⟨H,I,rfl,h1,G⟩:=hx.un2;rw [h1.i,G.i];cases e;exact ⟨_,rfl,.int _ _⟩
 ·cases x <;> first | (cases e;done) | skip
  cases y <;> cases e
theorem Z6j {xs:Zc} {v:Value} (e:Yo.sem Y0 #[] .cntS xs=some v):Qb Y φ h .cntS xs v:=by
 intro D hx;rcases xs with _ | ⟨x,_ | ⟨y,_ | ⟨z,r⟩⟩⟩
 ·cases e
 ·cases x <;> cases e
 ·cases x with
  | string s=>cases y with
   | int k n=>cases k with
    | u8 =>
     obtain ⟨H,I,rfl,h1,G⟩:=hx.un2;rw [h1.s,G.i];cases e;exact ⟨_,rfl,.int _ _⟩
    | _=>cases e
   | _=>cases e
  | _=>cases e
 ·cases x with
  | string s=>cases y with
   | int k n=>cases k <;> cases e
   | _=>cases e
  | _=>cases e
theorem Z47 {xs:Zc} {v:Value} (e:Yo.sem Y0 #[] .idxBS xs=some v):Qb Y φ h .idxBS xs v:=by
 intro D hx;rcases xs with _ | ⟨x,_ | ⟨y,_ | ⟨z,r⟩⟩⟩
 ·cases e
 ·cases x <;> cases e
 ·cases x with
  | string s=>cases y with
   | int k n=>cases k with
    | u8 =>
     obtain ⟨H,I,rfl,h1,G⟩:=hx.un2;rw [h1.s,G.i];cases e;exact ⟨_,rfl,.int _ _⟩
    | _=>cases e
   | _=>cases e
  | _=>cases e
 ·cases x with
  | string s=>cases y with
   | int k n=>cases k <;> cases e
   | _=>cases e
  | _=>cases e
theorem Z6u {xs:Zc} {v:Value} (e:Yo.sem Y0 #[] .idxS xs=some v):Qb Y φ h .idxS xs v:=by
 intro D hx;rcases xs with _ | ⟨x,_ | ⟨y,_ | ⟨z,r⟩⟩⟩
 ·cases e
 ·cases x <;> cases e
 ·cases x <;> first | (cases e;done) | skip
  cases y <;> first | (cases e;done) | skip
  obtain ⟨H,I,rfl,h1,G⟩:=hx.un2;rw [h1.s,G.i];refine ⟨v,e,?_⟩;simp only [Yo.sem] at e
  split at e
  ·obtain ⟨b,_,e⟩:=Option.bind_eq_some_iff.1 e
   cases e
   exact .int _ _
  cases e
 ·cases x <;> first | (cases e;done) | skip
  cases y <;> cases e
theorem Z6v {n sz:Nat} {xs:Zc} {v:Value} (e:Yo.sem Y0 #[] (.idxA n sz) xs=some v):Qb Y φ h (.idxA n sz) xs v:=by
 intro D hx;rcases xs with _ | ⟨x,_ | ⟨y,_ | ⟨z,r⟩⟩⟩
 ·cases e
 ·cases x with
  | pointer a=>cases a with
   | none=>cases e
   | some a=>obtain ⟨b,o,s⟩:=a;cases s <;> cases e
  | _=>cases e
 ·cases x with
  | pointer a=>cases a with
   | none=>cases e
   | some a =>
    obtain ⟨b,o,s⟩:=a
    cases s with
    | some s=>cases e
    | none =>
     cases y <;> first | (cases e;done) | skip
     obtain ⟨I,J,rfl,h1,G⟩:=hx.un2;obtain ⟨l,H,rfl⟩:=h1.p;rw [G.i];simp only [Yo.sem] at e ⊢
     split at e
     ·rename_i hc
      cases e
      rw [if_pos hc];exact ⟨_,rfl,by rw [Xg1];exact .ptr H⟩
     cases e
  | _=>cases e
 ·cases x with
  | pointer a=>cases a with
   | none=>cases e
   | some a =>
    obtain ⟨b,o,s⟩:=a
    cases s with
    | some s=>cases e
    | none=>cases y <;> cases e
  | _=>cases e
theorem VL.extract {xs r:Array Value} (h:VL Y φ xs.toList r.toList) (a b:Nat):VR Y φ (.agg (xs.extract a b)) (.agg (r.extract a b)):=by
 have g:VL Y φ (xs.extract a b).toList (r.extract a b).toList:=by
  simp only [Array.toList_extract,List.extract_eq_take_drop];exact (h.drop a).take _
 have:=VR.arr.1 g;exact .agg this.1 this.2
theorem Zxz {sz r:Nat} {agg:Bool} {xs D:Array Value} {v:Value} (h:VL Y φ xs.toList D.toList) (e:Zah sz agg xs r=some v):∃ G,Zah sz agg D r=some G/\VR Y φ v G:=by
 unfold Zah at e ⊢
 cases agg with
 | true =>
  simp only [if_true] at e ⊢
  cases e
  exact ⟨_,rfl,h.extract _ _⟩
 | false =>
  simp only [Xga,if_false] at e ⊢;obtain ⟨G,a,b⟩:=h.get (show xs.toList[r]? = some v by simpa using e);exact ⟨G,by simpa using a,b⟩
theorem Xaf {D sz:Nat} {agg:Bool} {xs:Zc} {v:Value} (e:Yo.sem Y0 #[] (.fld D sz agg) xs=some v):Qb Y φ h (.fld D sz agg) xs v:=by
 intro G hx;rcases xs with _ | ⟨x,_ | ⟨y,r⟩⟩
 ·cases e
 ·obtain ⟨H,rfl,h1⟩:=hx.un1
  cases x <;> first | (cases e;done) | skip
  obtain ⟨I,rfl,g⟩:=h1.a;exact Zxz g e
 cases x <;> cases e
theorem Z6t {n sz:Nat} {agg:Bool} {xs:Zc} {v:Value} (e:Yo.sem Y0 #[] (.idxV n sz agg) xs=some v):Qb Y φ h (.idxV n sz agg) xs v:=by
 intro D hx;rcases xs with _ | ⟨x,_ | ⟨y,_ | ⟨z,r⟩⟩⟩
 ·cases e
 ·cases x <;> cases e
 ·cases x <;> first | (cases e;done) | skip
  cases y <;> first | (cases e;done) | skip
  obtain ⟨H,I,rfl,h1,G⟩:=hx.un2;obtain ⟨J,rfl,g⟩:=h1.a;rw [G.i];simp only [Yo.sem] at e ⊢
  split at e
  ·rename_i hc;rw [if_pos hc];exact Zxz g e
  cases e
 ·cases x <;> first | (cases e;done) | skip
  cases y <;> cases e
theorem Zxn {n c:Nat} {lo G:Bool} {xs D:Zc} {r:Nat × Nat} (e:W0 n c lo G xs=some r) (hx:VL Y φ xs D):D=xs:=by
 cases lo <;> cases G
 ·rcases xs with _ | ⟨x,r⟩
  ·exact hx.unnil
  cases e
 ·rcases xs with _ | ⟨x,_ | ⟨y,r⟩⟩
  ·cases e
  ·cases x <;> first | (cases e;done) | skip
   obtain ⟨H,rfl,h1⟩:=hx.un1;rw [h1.i]
  ·cases x <;> cases e
 ·rcases xs with _ | ⟨x,_ | ⟨y,r⟩⟩
  ·cases e
  ·cases x <;> first | (cases e;done) | skip
   obtain ⟨H,rfl,h1⟩:=hx.un1;rw [h1.i]
  ·cases x <;> cases e
 rcases xs with _ | ⟨x,_ | ⟨y,_ | ⟨z,r⟩⟩⟩
 ·cases e
 ·cases x <;> cases e
 ·cases x <;> first | (cases e;done) | skip
  cases y <;> first | (cases e;done) | skip
  obtain ⟨H,J,rfl,h1,I⟩:=hx.un2;rw [h1.i,I.i]
 ·cases x <;> first | (cases e;done) | skip
  cases y <;> cases e
theorem Z58 {lo D:Bool} {xs:Zc} {v:Value} (e:Yo.sem Y0 #[] (.slcS lo D) xs=some v):Qb Y φ h (.slcS lo D) xs v:=by
 intro G hx;rcases xs with _ | ⟨x,r⟩
 ·cases e
 ·cases x <;> first | (cases e;done) | skip
  obtain ⟨J,M,rfl,h1,H⟩:=hx.uncons;have e':=e;simp only [Yo.sem] at e';obtain ⟨z,I,e2⟩:=Option.bind_eq_some_iff.1 e';rw [h1.s,Zxn I H]
  cases e2
  exact ⟨_,e,.string _⟩
theorem Z2t {z:Array Value} {r:List (Nat × Nat)} {D:Zd} {xs:Zc} {v:Value} (hz:z.toList.all Vi=true) (I:Vf xs=true) (e:Yo.sem Y0 #[] (.build z r D) xs=some v):Qb Y φ h (.build z r D) xs v:=by
 intro G hx;have e:(Instr.fill (fun i=>r[i]?) z (D.zip xs)).bind (fun cs=>some (Value.agg cs))=some v:=e;obtain ⟨cs,J,e2⟩:=Option.bind_eq_some_iff.1 e
 cases e2
 obtain ⟨H,M,g2⟩:=Zqv hx I (U0 (Y:=Y) (φ:=φ) hz) J;have:=VR.arr.1 g2;refine ⟨.agg H,?_,.agg this.1 this.2⟩;show (Instr.fill (fun i=>r[i]?) z (D.zip G)).bind (fun cs=>some (Value.agg cs))=_;rw [M];rfl
theorem Zzy {sz:Nat} {z:Array Value} {r:Zd} {xs:Zc} {v:Value} (hz:z.toList.all Vi=true) (H:Vf xs=true) (e:Yo.sem Y0 #[] (.buildA sz z r) xs=some v):Qb Y φ h (.buildA sz z r) xs v:=by
 intro D hx;have e:(Instr.fill (fun i=>some (i * sz,sz)) z (r.zip xs)).bind (fun cs=>some (Value.agg cs))=some v:=e;obtain ⟨cs,I,e2⟩:=Option.bind_eq_some_iff.1 e
 cases e2
 obtain ⟨G,J,g2⟩:=Zqv hx H (U0 (Y:=Y) (φ:=φ) hz) I;have:=VR.arr.1 g2;refine ⟨.agg G,?_,.agg this.1 this.2⟩;show (Instr.fill (fun i=>some (i * sz,sz)) z (r.zip D)).bind (fun cs=>some (Value.agg cs))=_;rw [J];rfl
theorem Xa4 {f k:Nat} {xs:Zc} {v:Value} (e:Yo.sem Y0 #[] (.mkf f k) xs=some v):Qb Y φ h (.mkf f k) xs v:=by
 intro r hx;have e:some (Value.func (.func f) (xs.take k).toArray (xs.drop k).toArray)=some v:=e
 cases e
 refine ⟨.func (.func (Y.fid f)) (r.take k).toArray (r.drop k).toArray,rfl,?_⟩;have D:=VR.arr.1 (show VL Y φ (xs.take k).toArray.toList (r.take k).toArray.toList by simpa using hx.take k);have g2:=VR.arr.1 (show VL Y φ (xs.drop k).toArray.toList (r.drop k).toArray.toList by simpa using hx.drop k);exact .func D.1 g2.1 D.2 g2.2
end
section
variable {Y:Sys} {φ:Qc} {A A':AH} {h0 h:Zk}
theorem Xcc {xs:Zc} {v:Value} (e:on1 xs some=some v):Qb Y φ h .mv xs v:=by
 intro r hx;obtain ⟨x,rfl,e⟩:=Vz e
 cases e
 obtain ⟨D,rfl,h1⟩:=hx.un1;exact ⟨D,rfl,h1⟩
theorem Z6n {xs:Zc} {v:Value} (e:on3 xs Z5g=some v):Qb Y φ h .pick xs v:=by
 intro r hx;obtain ⟨x,y,z,rfl,e⟩:=Zkr e;obtain ⟨J,D,G,rfl,h1,H,I⟩:=hx.un3
 cases x with
 | bool c =>
  rw [h1.b]
  cases c with
  | true=>cases e;exact ⟨D,rfl,H⟩
  | false=>cases e;exact ⟨G,rfl,I⟩
 | _=>cases e
theorem Zds {α:Type} {v:Value} {f:Nat->Nat->Option α} {r:α} (e:onP v f=some r):∃ b o,v = .pointer (some ⟨b,o,none⟩)/\f b o=some r:=by
 unfold onP at e
 split at e
 ·exact ⟨_,_,rfl,e⟩
 cases e
theorem Z8f {r:Nat} {xs:Zc} {v:Value} (G:on1 xs (Z1z r)=some v):Qb Y φ h (.fadr r) xs v:=by
 intro H hx;obtain ⟨x,D,I⟩:=Vz G;subst D;obtain ⟨M,rfl,h1⟩:=hx.un1;obtain ⟨b,o,hp,e⟩:=Zds (show onP x _=some v from I);subst hp;rw [Zb6] at e
 cases e
 obtain ⟨l,J,rfl⟩:=h1.p;exact ⟨_,rfl,by rw [Xg1];exact .ptr J⟩
theorem Z6r {sz:Nat} {xs:Zc} {v:Value} (D:on2 xs (Zv0 sz)=some v):Qb Y φ h (.idxa sz) xs v:=by
 intro G hx;obtain ⟨x,y,r,e⟩:=W8 D;subst r;clear D;obtain ⟨M,O,rfl,h1,H⟩:=hx.un2;unfold Zv0 at e
 split at e
 ·rename_i b o n c k i;obtain ⟨l,I,rfl⟩:=h1.c;rw [H.i];obtain ⟨J,e2⟩:=Yb.1 e;rw [Zb6] at e2
  cases e2
  have R:=Xge J;refine ⟨.pointer (some ⟨l.rb,l.base+(o+i * sz),none⟩),?_,.ptr I⟩;simp only [Yo.sem];rw [if_pos (by simp only [Xg9];omega),Xg1]
  rfl
 cases e
theorem Z9n {xs:Zc} {v:Value} (e:on1 xs Z82=some v):Qb Y φ h .len xs v:=by
 intro r hx;obtain ⟨x,rfl,e⟩:=Vz e;obtain ⟨D,rfl,h1⟩:=hx.un1
 cases x with
 | slice a n c =>
  cases e
  obtain ⟨b,c',rfl,_⟩:=h1.cn;exact ⟨_,rfl,.int _ _⟩
 | _=>cases e
theorem Z9b {i:Nat} {xs:Zc} {v:Value} (e:on1 xs (Z8n i)=some v):Qb Y φ h (.ext i) xs v:=by
 intro r hx;obtain ⟨x,rfl,e⟩:=Vz e;obtain ⟨J,rfl,h1⟩:=hx.un1
 cases x with
 | tuple vs =>
  have e:lgo vs.toList i=some v:=e;rw [Z49] at e
  cases h1 with
  | tuple D G =>
   obtain ⟨H,I,g2⟩:=(VR.arr.2 ⟨D,G⟩).get e;exact ⟨H,by simpa [Yo.sem] using I,g2⟩
 | _=>cases e
theorem Z72 {sz:Nat} {agg:Bool} (H:HR Y φ A h0 h) {xs:Zc} {v:Value} (e:bf agg (on1 xs (Zph A sz)) (on1 xs fun v=>onP v fun b o=>A.cell b o)=some v):Qb Y φ h (.load sz agg) xs v:=by
 intro I hx
 cases agg with
 | true =>
  obtain ⟨x,rfl,e⟩:=Vz (show on1 xs (Zph A sz)=some v from e);obtain ⟨J,rfl,h1⟩:=hx.un1;obtain ⟨b,o,rfl,e⟩:=Zds (show onP x _=some v from e);obtain ⟨r,M,e2⟩:=Yn.1 e
  cases e2
  obtain ⟨l,D,rfl⟩:=h1.p;obtain ⟨O,G,g2⟩:=H.read D M;exact ⟨.agg O.toArray,by simp [Yo.sem,G],VR.agg' g2⟩
 | false =>
  obtain ⟨x,rfl,e⟩:=Vz (show on1 xs _=some v from e);obtain ⟨J,rfl,h1⟩:=hx.un1;obtain ⟨b,o,rfl,e⟩:=Zds e;obtain ⟨l,D,rfl⟩:=h1.p;obtain ⟨R,G,g2⟩:=H.cell1 D e;exact ⟨R,by simpa [Yo.sem] using G,g2⟩
theorem Z83 {b o c:Nat}:VR Y φ E0 (.slice (some ⟨b,o,none⟩) 0 c):=.slcE b o c
theorem Zn6 {n c d:Nat} {lo D:Bool} {xs:Zc} {r:Nat × Nat} (e:W0 n c lo D xs=some r) (G:n<=c\/D=true\/True):W0 n (c+d) lo D xs=some r:=by
 cases lo <;> cases D
 ·rcases xs with _ | ⟨x,q⟩
  ·exact e
  cases e
 ·rcases xs with _ | ⟨x,_ | ⟨y,q⟩⟩
  ·cases e
  ·cases x <;> first | (cases e;done) | skip
   simp only [W0] at e ⊢
   split at e
   ·rename_i hb
    cases e
    rw [if_pos (by omega)]
   cases e
  ·cases x <;> cases e
 ·rcases xs with _ | ⟨x,_ | ⟨y,q⟩⟩
  ·cases e
  ·cases x <;> first | (cases e;done) | skip
   exact e
  ·cases x <;> cases e
 rcases xs with _ | ⟨x,_ | ⟨y,_ | ⟨z,q⟩⟩⟩
 ·cases e
 ·cases x <;> cases e
 ·cases x <;> first | (cases e;done) | skip
  cases y <;> first | (cases e;done) | skip
  simp only [W0] at e ⊢
  split at e
  ·rename_i hb
   cases e
   rw [if_pos (by omega)]
  cases e
 ·cases x <;> first | (cases e;done) | skip
  cases y <;> cases e
theorem Zno {n:Nat} {lo D:Bool} {xs:Zc} {r:Nat × Nat} {c:Nat} (e:W0 n c lo D xs=some r) (G:n<=c):r.1<=r.2/\r.2<=c:=by
 cases lo <;> cases D
 ·rcases xs with _ | ⟨x,q⟩
  ·cases e;exact ⟨Nat.zero_le _,G⟩
  ·cases e
 ·rcases xs with _ | ⟨x,_ | ⟨y,q⟩⟩
  ·cases e
  ·cases x <;> first | (cases e;done) | skip
   simp only [W0] at e
   split at e
   ·cases e;simp only;omega
   ·cases e
  ·cases x <;> cases e
 ·rcases xs with _ | ⟨x,_ | ⟨y,q⟩⟩
  ·cases e
  ·cases x <;> first | (cases e;done) | skip
   simp only [W0] at e
   split at e
   ·cases e;simp only;omega
   ·cases e
  ·cases x <;> cases e
 rcases xs with _ | ⟨x,_ | ⟨y,_ | ⟨z,q⟩⟩⟩
 ·cases e
 ·cases x <;> cases e
 ·cases x <;> first | (cases e;done) | skip
  cases y <;> first | (cases e;done) | skip
  simp only [W0] at e
  split at e
  ·cases e;simp only;omega
  ·cases e
 ·cases x <;> first | (cases e;done) | skip
  cases y <;> cases e
theorem Z14 {n c:Nat} {lo D:Bool} {xs:Zc} {r:Nat × Nat} (e:W0 n c lo D xs=some r) (hz:¬ r.1+1<=c) (G:n<=c):r.2-r.1=0:=by
 have:=Zno e G;omega
theorem Xay {sz:Nat} {lo R:Bool} (H:HR Y φ A h0 h) {xs:Zc} {v:Value} (I:Z8x A sz lo R xs=some v):Qb Y φ h (.slc sz lo R) xs v:=by
 intro X hx;rcases xs with _ | ⟨x,r⟩
 ·cases I
 obtain ⟨x',r',rfl,h1,Z⟩:=hx.uncons
 cases x with
 | slice a n c =>
  obtain ⟨G,I⟩:=Yb.1 (show bf (Nat.ble n c) (ob (W0 n c lo R r) fun x=>Z29 A sz a n c x) none=some v from I);have G:=Xge G;obtain ⟨z,J,e⟩:=Yn.1 I;clear I;rw [Zxn J Z]
  cases a with
  | none =>
   cases e
   rw [h1.c0];exact ⟨.slice none (z.2-z.1) (c-z.1),by simp [Yo.sem,J],.slc0 _ _⟩
  | some ad =>
   obtain ⟨b,o,s⟩:=ad
   cases s with
   | none =>
    obtain ⟨l,O,rfl⟩:=h1.c;have D:=Zn6 (d:=l.dl) J (.inr (.inr trivial));obtain ⟨cs,U,ex,fz,hg,e⟩:=Qo e;obtain ⟨l',M,V,_⟩:=H.cells b cs U ex fz (H.dom b l O) hg;rw [O] at M;cases M;simp only [Yo.sem,D,Xgj];by_cases hz:z.1+1<=c
    ·have hb:Nat.ble (Nat.succ z.1) c=true:=Xh1 hz;rw [hb,Bool.true_or,Qm,Zb6] at e
     cases e
     rw [Zhn,Zd2,if_neg (by omega),if_neg (by omega)];refine ⟨_,rfl,?_⟩;have:=VR.slc (Y:=Y) (o:=o+z.1 * sz) (n:=z.2-z.1) (c:=c-z.1) O;rw [show l.base+o+z.1 * sz=l.base+(o+z.1 * sz) by omega,show c+l.dl-z.1=c-z.1+l.dl by omega];exact this
    have hb:Nat.ble (Nat.succ z.1) c=false:=by rw [Zaw];exact decide_eq_false hz
    rw [hb,Bool.false_or] at e
    cases ex with
    | true =>
     have hd:=V rfl;rw [Qm,Zb6] at e
     cases e
     rw [Zhn,Zd2];have:=VR.slc (Y:=Y) (o:=if c=z.1 then o else o+z.1 * sz) (n:=z.2-z.1) (c:=c-z.1) O;refine ⟨_,rfl,?_⟩;rw [hd] at this ⊢;simp only [Nat.add_zero] at this ⊢;have e2:l.base+(if c=z.1 then o else o+z.1 * sz)=if c=z.1 then l.base+o else l.base+o+z.1 * sz:=by split <;> omega
     rw [e2] at this;exact this
    | false =>
     cases e
     rw [Z14 J hz G];exact ⟨_,rfl,Z83⟩
   | some s =>
    cases e
    cases h1 with
    | slcE b' o' c' =>
     have D:=Zn6 (d:=c') J (.inr (.inr trivial));rw [Xgl] at D;have:=Zno J (Xfy _);simp only [Yo.sem,D,Xgj];rw [show z.2-z.1=0 by omega];exact ⟨_,rfl,Z83⟩
 | _=>cases I
end
section
variable {Y:Sys} {φ:Qc} {A A':AH} {h0 h:Zk}
theorem Z0t:∀ {l:Zc} {s:List UInt8} {l':Zc},Zcc l=some s->VL Y φ l l'->l'=l:=by
 intro l
 induction l with
 | nil=>intro s l' _ hx;exact hx.unnil
 | cons v l ih =>
  intro s l' e hx;obtain ⟨G,H,rfl,h1,r⟩:=hx.uncons
  cases v with
  | int k n =>
   cases k with
   | u8 =>
    obtain ⟨q,D,_⟩:=Option.bind_eq_some_iff.1 (show (Zcc l).bind _=some s from e);rw [h1.i,ih D r]
   | _=>cases e
  | _=>cases e
theorem Xa5 (H:HR Y φ A h0 h) {xs:Zc} {v:Value} (D:on1 xs (Xcq A)=some v):Qb Y φ h .b2s xs v:=by
 intro I hx;obtain ⟨x,r,e⟩:=Vz D;subst r;clear D;obtain ⟨R,rfl,h1⟩:=hx.un1
 cases x with
 | slice a n c =>
  cases a with
  | none=>cases e;rw [h1.c0];exact ⟨_,rfl,.string _⟩
  | some J =>
   obtain ⟨b,o,s⟩:=J
   cases s with
   | none =>
    obtain ⟨l,M,e⟩:=Yn.1 (show ob (A.rd b o n) (fun l=>ob (Zcc l) fun s=>some (.string ⟨s.toArray⟩))=some v from e);obtain ⟨s,e2,e3⟩:=Yn.1 e
    cases e3
    obtain ⟨U,O,rfl⟩:=h1.c;obtain ⟨V,G,g2⟩:=H.read O M;rw [Z0t e2 g2] at G;exact ⟨_,by simp [Yo.sem,G,e2],.string _⟩
   | some s=>cases e
 | _=>cases e
theorem Xai (H:HR Y φ A h0 h) {xs:Zc} {v:Value} (I:on1 xs (Xby A)=some v):Qb Y φ h .cap xs v:=by
 intro M hx;obtain ⟨x,D,e⟩:=Vz I;subst D;clear I;obtain ⟨V,rfl,h1⟩:=hx.un1
 cases x with
 | slice a n c =>
  cases a with
  | none=>cases e;rw [h1.c0];exact ⟨_,rfl,.int _ _⟩
  | some O =>
   obtain ⟨b,o,s⟩:=O
   cases s with
   | none =>
    obtain ⟨cs,sz,ex,fz,R,e⟩:=Qo (show onC (A.gt b) (fun _ _ ex _=>bf ex (some (.int .i64 (.ofNat c))) none)=some v from e);obtain ⟨l,J,rfl⟩:=h1.c;obtain ⟨l',r,G,_⟩:=H.cells b cs sz ex fz (H.dom b l J) R;rw [J] at r;cases r;obtain ⟨U,e2⟩:=Yb.1 e
    cases e2
    exact ⟨_,rfl,by rw [G U];exact .int _ _⟩
   | some s=>cases e
 | _=>cases e
theorem Z68 {sz:Nat} {xs:Zc} {v:Value} (e:Z3b xs=some v):Qb Y φ h (.slc3 sz) xs v:=by
 intro H hx;unfold Z3b at e
 split at e
 rotate_left
 ·cases e
 rename_i a n c k1 l R i U m;obtain ⟨V,X,rfl,h1,I⟩:=hx.uncons;obtain ⟨Z,x3,x4,rfl,J,M,h4⟩:=I.un3;rw [J.i,M.i,h4.i];obtain ⟨r,e⟩:=Yb.1 e;obtain ⟨D,e⟩:=Yb.1 e;obtain ⟨G,e⟩:=Yb.1 e;have r:=Xge r;have D:=Xge D;have G:=Xge G
 cases a with
 | none =>
  cases e
  rw [h1.c0];simp only [Yo.sem];rw [if_pos (by simp only [Xg9];omega)];exact ⟨_,rfl,.any _⟩
 | some O =>
  obtain ⟨b,o,s⟩:=O
  cases s with
  | none =>
   cases e
   obtain ⟨lc,hl,rfl⟩:=h1.c;simp only [Yo.sem];rw [if_pos (by simp only [Xg9];omega)];exact ⟨_,rfl,.any _⟩
  | some s=>cases e
theorem Zoa (H:HR Y φ A h0 h) {r:Option Nat} {I:List MapEntry} {M:Value} (e:Z0r A r=some I) (hx:VR Y φ (.map r) M) :
  ∃ O D,M = .map O/\Wm h O=some D/\EsR Y φ I D:=by
 cases r with
 | none =>
  cases e
  rw [hx.m0];exact ⟨none,[],rfl,rfl,rfl,fun i a b h=>by simp at h⟩
 | some r =>
  obtain ⟨x,U,e⟩:=Yn.1 (show ob (A.gt r) _=some I from e)
  cases x with
  | map D =>
   cases e
   obtain ⟨l,R,rfl⟩:=hx.m;obtain ⟨l',G,D,J,V,g2⟩:=H.maps r I (H.dom r l R) U;rw [R] at G;cases G;exact ⟨some l.rb,D.toList,rfl,by simp [Wm,V],g2⟩
  | _=>cases e
theorem EsR.uncons {a:MapEntry} {D m:List MapEntry} (e:EsR Y φ (a::D) m):∃ b r,m=b::r/\b.key=a.key/\VR Y φ a.val b.val/\EsR Y φ D r:=by
 cases m with
 | nil=>cases e.1
 | cons b r =>
  have:=e.2 0 a b rfl rfl;exact ⟨b,r,rfl,this.1,this.2,by simpa using e.1,fun i x y h1 G=>e.2 (i+1) x y (by simpa using h1) (by simpa using G)⟩
theorem Zo1 {G:Option Nat} {key:Value}:∀ {D r:List MapEntry} {i:Nat} {a:Option (Nat × Value)},EsR Y φ D r->Ue G key D i=some a ->
  ∃ a',Ue G key r i=some a'/\((a=none/\a'=none)\/∃ j v H,a=some (j,v)/\a'=some (j,H)/\VR Y φ v H):=by
 intro D
 induction D with
 | nil =>
  intro r i a h e;have:r=[]:=Xgw h.1.symm;subst this
  cases e
  exact ⟨none,rfl,.inl ⟨rfl,rfl⟩⟩
 | cons x D ih =>
  intro r i a h e;obtain ⟨b,r,rfl,h1,I,J⟩:=h.uncons;simp only [Ue,h1] at e ⊢
  split at e
  ·rename_i M
   cases e
   exact ⟨_,rfl,.inr ⟨_,_,_,rfl,rfl,I⟩⟩
  ·exact ih J e
  cases e
theorem Zkj {I:Option Nat} {key r:Value} (e:Za1 I key=true) (hx:VR Y φ key r):r=key:=by
 cases key with
 | int k n=>exact hx.i
 | agg xs =>
  obtain ⟨G,rfl,g⟩:=hx.a;have D:xs.toList.all Zpc=true:=by
   simp only [Za1] at e
   split at e
   ·rw [Xf4] at e;exact e.2
   cases e
  have:G=xs:=by
   apply Xf6;apply Xgb g.1.symm;intro i h1 H;have:=List.all_eq_true.1 D xs.toList[i] (Xgf H);have q:=g.2 i xs.toList[i] G.toList[i] (Xg6 H) (Xg6 h1)
   cases hv:xs.toList[i] with
   | int k n=>rw [hv] at q;exact q.i
   | _=>rw [hv] at this;cases this
  rw [this]
 | _=>cases e
theorem Xcf {a a' b b':Value} (h1:VR Y φ a a') (r:VR Y φ b b'):VR Y φ (.tuple #[a,b]) (.tuple #[a',b']):=by
 have:=VR.arr.1 (show VL Y φ (#[a,b]:Array Value).toList (#[a',b']:Array Value).toList from VL.cons h1 (VL.cons r .nil));exact .tuple this.1 this.2
theorem Z0f {G:Option Nat} {D:Bool} {zero:Value} (hz:Zhw zero=true) (H:HR Y φ A h0 h) {xs:Zc} {v:Value} (J:on2 xs (Z8u A G D zero)=some v):Qb Y φ h (.lookup G D zero) xs v:=by
 intro R hx;obtain ⟨x,y,I,e⟩:=W8 J;subst I;clear J;obtain ⟨x',y',rfl,h1,U⟩:=hx.un2
 cases x with
 | map r =>
  obtain ⟨M,e⟩:=Yb.1 (show bf (Za1 G y) _ none=some v from e);obtain ⟨es,e2,e⟩:=Yn.1 e;obtain ⟨a,e3,e⟩:=Yn.1 e;obtain ⟨r',V,rfl,X,g2⟩:=Zoa H e2 h1;rw [Zkj M U];obtain ⟨a',Z,g4⟩:=Zo1 g2 e3;simp only [Yo.sem,Zed,M,if_true,X,Xgj,Z,Xii];rcases g4 with ⟨rfl,rfl⟩ | ⟨j,u,u',rfl,rfl,O⟩
  ·cases e
   cases D with
   | true=>exact ⟨_,rfl,Xcf (Zgr hz) (.bool _)⟩
   | false=>exact ⟨_,rfl,Zgr hz⟩
  ·cases e
   cases D with
   | true=>exact ⟨_,rfl,Xcf O (.bool _)⟩
   | false=>exact ⟨_,rfl,O⟩
 | _=>cases e
theorem Z6m (H:HR Y φ A h0 h) {xs:Zc} {v:Value} (I:on1 xs (Z8k A)=some v):Qb Y φ h .lenM xs v:=by
 intro J hx;obtain ⟨x,D,e⟩:=Vz I;subst D;clear I;obtain ⟨O,rfl,h1⟩:=hx.un1
 cases x with
 | map r =>
  obtain ⟨R,e2,e⟩:=Yn.1 (show ob (Z0r A r) _=some v from e)
  cases e
  obtain ⟨U,G,rfl,M,g2⟩:=Zoa H e2 h1;refine ⟨.int .i64 G.length,by simp [Yo.sem,M],?_⟩;rw [<-g2.1];exact .int _ _
 | _=>cases e
theorem Z2i {o:Yo} (H:HR Y φ A h0 h) (hc:opC o=true) {xs:Zc} {v:Value} (e:opA A o xs=some v):Qb Y φ h o xs v:=by
 cases o with
 | mv=>exact Xcc e
 | pick=>exact Z6n e
 | ib op=>exact Xc0 e
 | fadr r=>exact Z8f e
 | idxa sz=>exact Z6r e
 | len=>exact Z9n e
 | ext i=>exact Z9b e
 | load sz agg=>exact Z72 H e
 | slc sz lo D=>exact Xay H e
 | cap=>exact Xai H e
 | slc3 sz=>exact Z68 e
 | b2s=>exact Xa5 H e
 | lookup J G z=>exact Z0f hc H e
 | lenM=>exact Z6m H e
 | nilck=>exact Z5e (Yb.1 (show bf (Vf xs) _ none=some v from e)).2
 | cntS=>exact Z6j (Yb.1 (show bf (Vf xs) _ none=some v from e)).2
 | idxBS=>exact Z47 (Yb.1 (show bf (Vf xs) _ none=some v from e)).2
 | sb op=>exact Xbo (Yb.1 (show bf (Vf xs) _ none=some v from e)).2
 | eqb n=>exact Xam (Yb.1 (show bf (Vf xs) _ none=some v from e)).2
 | eqp n=>exact Xan (Yb.1 (show bf (Vf xs) _ none=some v from e)).2
 | eqi n l=>exact Xaa (Yb.1 (show bf (Vf xs) _ none=some v from e)).2
 | eqs n=>exact Z9u (Yb.1 (show bf (Vf xs) _ none=some v from e)).2
 | eqf n=>exact Z94 (Yb.1 (show bf (Vf xs) _ none=some v from e)).2
 | eqa n k=>exact Z98 (Yb.1 (show bf (Vf xs) _ none=some v from e)).2
 | un op=>exact Xb6 (Yb.1 (show bf (Vf xs) _ none=some v from e)).2
 | conv k=>exact Z7u (Yb.1 (show bf (Vf xs) _ none=some v from e)).2
 | idxA n sz=>exact Z6v (Yb.1 (show bf (Vf xs) _ none=some v from e)).2
 | idxS=>exact Z6u (Yb.1 (show bf (Vf xs) _ none=some v from e)).2
 | idxV n sz agg=>exact Z6t (Yb.1 (show bf (Vf xs) _ none=some v from e)).2
 | fld r sz agg=>exact Xaf (Yb.1 (show bf (Vf xs) _ none=some v from e)).2
 | slcS lo D=>exact Z58 (Yb.1 (show bf (Vf xs) _ none=some v from e)).2
 | build z M I=>exact Z2t hc (Yb.1 (show bf (Vf xs) _ none=some v from e)).1 (Yb.1 (show bf (Vf xs) _ none=some v from e)).2
 | buildA sz z I=>exact Zzy hc (Yb.1 (show bf (Vf xs) _ none=some v from e)).1 (Yb.1 (show bf (Vf xs) _ none=some v from e)).2
 | mkI t=>exact Xa3 (Yb.1 (show bf (Vf xs) _ none=some v from e)).2
 | lenS=>exact Z79 (Yb.1 (show bf (Vf xs) _ none=some v from e)).2
 | lenA n=>exact Z7v (Yb.1 (show bf (Vf xs) _ none=some v from e)).2
 | mn=>exact Xck (Yb.1 (show bf (Vf xs) _ none=some v from e)).2
 | mx=>exact Xc8 (Yb.1 (show bf (Vf xs) _ none=some v from e)).2
 | mkf f k=>exact Xa4 (Yb.1 (show bf (Vf xs) _ none=some v from e)).2
 | slcA n sz lo D=>cases e
 | ta t G z=>cases e
end
def efC:Ef->Bool
 | .bslice _ _ z _=>z.toList.all Vi
 | .mkslice _ _ z=>z.toList.all Vi
 | .append _ _ z=>z.toList.all Vi
 | .appz _ _ z=>z.toList.all Vi
 | .clr _ z=>z.toList.all Vi
 | _=>true
section
variable {Y:Sys} {φ:Qc} {A A':AH} {h0 h:Zk}
theorem Z5i (H:HR Y φ A h0 h) {b:Nat} {l:Loc} (e:φ b=some l) (D:Live A b):l.rb<h.size:=by
 obtain ⟨x,hx,hd⟩:=D;have hb:=H.dom b l e
 cases x with
 | dead=>exact absurd rfl hd
 | cells cs sz ex fz =>
  obtain ⟨l',e',_,c⟩:=H.cells b cs sz ex fz hb hx;rw [e] at e';cases e';exact c.lt
 | map G =>
  obtain ⟨l',e',I,r,J,_⟩:=H.maps b G hb hx;rw [e] at e';cases e';exact (Array.getElem?_eq_some_iff.1 J).1
theorem HR.adopt (H:HR Y φ A h0 h) (hs:A.sz<=8000) {l:Loc} {x:U2} {h':Zk} (ab:h0.size<=l.rb) (R:∀ b l',φ b=some l'->Live A b->l'.rb≠l.rb) (G:∀ j,j<h.size->j≠l.rb->h'[j]? = h[j]?) (ac:h.size<=h'.size)
  (hc:∀ cs sz ex fz,x = .cells cs sz ex fz->(ex=true->l.dl=0)/\Zew Y (φ.add A.sz l) h' l cs sz fz)
  (hm:∀ U,x = .map U->∃ M r,h'[l.rb]? = some (.map M r)/\EsR Y (φ.add A.sz l) U M.toList):HR Y (φ.add A.sz l) (A.add x) h0 h':=by
 have p:PLe φ (φ.add A.sz l):=Qc.add_le H (Xfy _);have gt:∀ b,b<A.sz+1->(A.add x).gt b=if A.sz=b then some x else A.gt b:=fun b hb=>Zw3 (by omega) (by omega)
 have lv:∀ b l',b≠A.sz->(φ.add A.sz l) b=some l'->φ b=some l':=fun b l' hb e=>by
  unfold Qc.add at e;rwa [if_neg hb] at e
 have D:∀ b,b<A.sz->Live (A.add x) b->Live A b:=fun b hb ⟨y,hy,hd⟩=>⟨y,by rwa [gt b (by omega),if_neg (by omega)] at hy,hd⟩
 have O:∀ b l',φ b=some l'->Live A b->h'[l'.rb]? = h[l'.rb]? := fun b l' e V=>G _ (Z5i H e V) (R b l' e V);refine ⟨by simp;omega,?_,?_,?_,?_,?_,?_⟩
 ·intro b l' e;by_cases c:b=A.sz
  ·subst c;simp
  have:=H.dom b l' (lv b l' c e);simp;omega
 ·intro b l' e;by_cases c:b=A.sz
  ·subst c;rw [Qc.add_at] at e
   cases e
   exact ab
  exact H.fresh b l' (lv b l' c e)
 ·exact H.ext.then (S':=fun j=>j=l.rb) ⟨ac,fun j hj hn=>G j hj hn⟩ fun j hj e=>by omega
 ·intro b ad ae af ag hb I;simp at hb;rw [gt b hb] at I
  split at I
  ·rename_i e
   cases I
   subst e;obtain ⟨h1,h2⟩:=hc _ _ _ _ rfl;exact ⟨l,Qc.add_at,h1,h2⟩
  rename_i e;obtain ⟨l',X,e2,e3⟩:=H.cells b ad ae af ag (by omega) I;exact ⟨l',p b l' X,e2,(e3.mono p).heap (O b l' X ⟨_,I,by simp⟩)⟩
 ·intro b U hb I;simp at hb;rw [gt b hb] at I
  split at I
  ·rename_i e
   cases I
   subst e;exact ⟨l,Qc.add_at,hm U rfl⟩
  rename_i e;obtain ⟨l',X,M,r,e2,e3⟩:=H.maps b U (by omega) I;exact ⟨l',p b l' X,M,r,by rw [O b l' X ⟨_,I,by simp⟩];exact e2,e3.mono p⟩
 intro b b' l1 l2 Z e e' V aa;by_cases c:b=A.sz
 ·subst c;rw [Qc.add_at] at e
  cases e
  have J:=lv b' l2 (Ne.symm Z) e';exact Ne.symm (R b' l2 J (D b' (H.dom _ _ J) aa))
 by_cases c':b'=A.sz
 ·subst c';rw [Qc.add_at] at e'
  cases e'
  have hb:=lv b l1 c e;exact R b l1 hb (D b (H.dom _ _ hb) V)
 have hb:=lv b l1 c e;have J:=lv b' l2 c' e';exact H.disj b b' l1 l2 Z hb J (D b (H.dom _ _ hb) V) (D b' (H.dom _ _ J) aa)
theorem HR.newmap (H:HR Y φ A h0 h) (hs:A.sz<=8000) {r:Nat}:HR Y (φ.add A.sz ⟨h.size,0,0⟩) (A.add (.map [])) h0 (h.push (.map #[] r)):=by
 refine H.adopt hs H.ext.size (fun b l e G=>by have:=Z5i H e G;simp only;omega) (fun j D _=>by rw [Xi4 D];exact (Xg0 D).symm) (by simp) (fun cs sz ex fz e=>by cases e) (fun I e=>?_)
 cases e
 exact ⟨#[],r,by simp,rfl,fun i a b h=>by simp at h⟩
theorem HR.kill (H:HR Y φ A h0 h) {b:Nat} (hb:b<A.sz):HR Y φ (A.put b .dead) h0 h:=by
 have hs:=H.sz;have I:∀ j,j<A.sz->(A.put b .dead).gt j=if b=j then some .dead else A.gt j:=fun j r=>Zkq (by omega) (by omega)
 have G:∀ j,j<A.sz->Live (A.put b .dead) j->Live A j:=fun j r ⟨y,hy,hd⟩=>by
  rw [I j r] at hy
  split at hy
  ·cases hy;exact absurd rfl hd
  ·exact ⟨y,hy,hd⟩
 refine ⟨by simpa using H.sz,fun j l e=>by simpa using H.dom j l e,H.fresh,H.ext,?_,?_,?_⟩
 ·intro j cs sz ex fz r D;simp at r;rw [I j r] at D
  split at D
  ·cases D
  ·exact H.cells j cs sz ex fz r D
 ·intro j R r D;simp at r;rw [I j r] at D
  split at D
  ·cases D
  ·exact H.maps j R r D
 intro j M U V J O e2 h1 X;exact H.disj j M U V J O e2 (G j (H.dom _ _ O) h1) (G M (H.dom _ _ e2) X)
theorem Zmu (H:HR Y φ A h0 h) {b:Nat} (hb:b<A.sz):¬ Live (A.put b .dead) b:=by
 rintro ⟨y,hy,hd⟩;have hs:=H.sz;rw [Zkq (by omega) (by omega),if_pos rfl] at hy
 cases hy
 exact hd rfl
theorem HR.low (H:HR Y φ A h0 h) {w:Nat}:HR Y φ (A.reset w) h0 h :=
 ⟨by simpa using H.sz,fun b l e=>by simpa using H.dom b l e,H.fresh,H.ext,fun b cs sz ex fz hb D=>H.cells b cs sz ex fz (by simpa using hb) (by simpa using D),fun b G hb D=>H.maps b G (by simpa using hb) (by simpa using D),
  fun b b' l l' I e e' hb r=>H.disj b b' l l' I e e' (by unfold Live at hb ⊢;simpa using hb) (by unfold Live at r ⊢;simpa using r)⟩
theorem Zyo {l:Zc}:∀ {c i:Nat},(rep c l)[i]? = if i<c * l.length then l[i % l.length]? else none:=by
 intro c
 induction c with
 | zero=>intro i;rw [if_neg (by omega)];rfl
 | succ c ih =>
  intro i;have e:rep (c+1) l=l++rep c l:=by show Zdk l (rep c l)=_;rw [Zct]
  rw [e];have D:(c+1) * l.length=c * l.length+l.length:=Nat.succ_mul ..;by_cases h:i<l.length
  ·rw [Xgh h,if_pos (by rw [D];omega),Nat.mod_eq_of_lt h]
  rw [Xgv (by omega),ih];by_cases r:i<(c+1) * l.length
  ·rw [if_pos (by rw [D] at r;omega),if_pos r,Nat.mod_eq_sub_mod (a:=i) (by omega)]
  rw [if_neg (by rw [D] at r;omega),if_neg r]
theorem Z7g {l:Zc} {c:Nat}:(rep c l).length=c * l.length:=by
 rw [Xa2];simp [List.length_flatten]
theorem Zni {z:Array Value} {c:Nat}:(Xy z (c * z.size)).toList=rep c z.toList:=by
 apply Xia;intro i;rw [Zyo];by_cases h:i<c * z.size
 ·have hz:0<z.size:=by
   rcases Xhj z.size with q | q
   ·rw [q,Nat.mul_zero] at h;omega
   exact q
  have r:=Nat.mod_lt i hz;rw [if_pos (by simpa using h)];simp [Xy,h,r]
 rw [if_neg (by simpa using h)];simp [Xy];omega
theorem Zc6 {z:Array Value} {c:Nat}:(Builtin.zeroCells z c).toList=rep c z.toList:=Zni
theorem Zgk {z:Array Value} {c:Nat} (h:z.toList.all Vi=true):VL Y φ (rep c z.toList) (rep c z.toList):=by
 refine U0 ?_;rw [Xhl] at h ⊢;intro v hv;obtain ⟨i,r,rfl⟩:=Xgx hv;have e:(rep c z.toList)[i]? = some (rep c z.toList)[i]:=by simp [r]
 rw [Zyo] at e
 split at e
 ·exact h _ (Xjk e)
 cases e
theorem Zp0 {z:Array Value} {n:Nat} (h:z.toList.all Vi=true):(Xy z n).toList.all Vi=true:=by
 rw [Xhl] at h ⊢;intro v hv;simp only [Xy,Xih,Xis] at hv;obtain ⟨i,_,rfl⟩:=hv;by_cases q:i % z.size<z.size
 ·rw [getElem!_pos z _ q];exact h _ (by simp)
 rw [getElem!_neg z _ q]
 rfl
end
end Go.Rm
