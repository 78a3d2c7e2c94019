import Derived.Orders
import Derived.Laws.Sem
import Derived.Laws.Append
import Derived.KernelRfl
import Derived.Lib.Bytealg
import Derived.Laws.Entries
import Derived.Laws.BytesString
import Derived.Laws.IdiomCopy
import Derived.Laws.IdiomStrings
import Derived.Laws.AppendOwn
import Derived.Laws.Slices
import Derived.Laws.StructEq
import Derived.ChangeKeysEq
/- The small language. -/
set_option linter.all false
namespace Go.Rm
abbrev cR:=Value
theorem ifN{c:Prop}[Decidable c]{α:Sort _}{a b:α}(h:¬c:=by omega):ite c a b=b:=if_neg h
theorem ifP{c:Prop}[Decidable c]{α:Sort _}{a b:α}(h:c:=by omega):ite c a b=a:=if_pos h
abbrev Za:=List (List Int)
abbrev Zb:=List Int
abbrev Zc:=List cR
abbrev Zd:=List Nat
abbrev Ze:=cR->Array Obj->Prop
abbrev Zf:=Nat->Prop
abbrev Zg:=Value.int .i64
abbrev Zh(b:Nat):=Value.pointer (some ⟨b,0,none⟩)
abbrev Zi:=Value.slice none 0 0
abbrev Zj:=cR
abbrev Xi4:=@Nat.le_refl
abbrev Xi5:=@Option.map_eq_some_iff
abbrev Xi6:=@Nat.lt_or_ge
abbrev Xi7:=@List.getElem_mem
abbrev Xi8:=@Int.toNat_natCast
abbrev Xi9:=@Nat.eq_of_beq_eq_true
abbrev Xja:=@List.getD_eq_getElem?_getD
abbrev Xjb:=@Array.ext'
abbrev Xjc:=@List.take_succ_eq_append_getElem
abbrev Xjd:=@Nat.mul_one
abbrev Xje:=@List.append_assoc
abbrev Xjf:=@Bool.and_eq_true
abbrev Xjg:=@Option.bind_eq_some_iff
abbrev Xjh:=@Bool.false_eq_true
abbrev Xji:=@List.take_of_length_le
abbrev Xjj:=@List.map_append
abbrev Xjk:=@Nat.le_of_ble_eq_true
theorem Xjl{α:Type _}{l:List α}{i:Nat}(h:l.length≤i:=by omega):l[i]?=none:=List.getElem?_eq_none h
abbrev Xjm:=@List.getElem?_append_left
abbrev Xjn:=@List.length_cons
abbrev Xjo:=@Nat.le_trans
abbrev Xjp:=@List.ext_getElem
abbrev Xjq:=@Option.bind_some
abbrev Xjr:=@List.eq_nil_of_length_eq_zero
abbrev Xjs:=@Nat.zero_add
abbrev Xjt:=@List.mem_cons_of_mem
abbrev Xju:=@List.getElem_of_mem
abbrev Xjv:=@List.getElem?_append_right
abbrev Xjw:=@List.length_take
abbrev Xjx:=@List.map_cons
abbrev Xjy:=@Option.some.injEq
abbrev Xjz:=@List.drop_eq_getElem_cons
abbrev Xj0:=@Nat.add_mul
abbrev Xj1:=@List.range_succ
theorem Xj2{α:Type _}{l:List α}{i:Nat}(h:l.length≤i:=by omega):l.drop i=[]:=List.drop_eq_nil_of_le h
abbrev Xj3:=@List.getElem?_eq_getElem
abbrev Xj4:=@List.getElem?_drop
abbrev Xj5:=@Nat.add_assoc
abbrev Xj6:=@List.length_map
abbrev Xj7:=@Array.getElem?_eq_getElem
abbrev Xj8:=@List.getElem?_take
abbrev Xj9:=@List.take_length
abbrev Xka:=@Decidable.byContradiction
abbrev Xkb:=@Option.some.inj
abbrev Xkc:=@List.all_eq_true
abbrev Xkd:=@List.getElem_map
abbrev Xke:=@Nat.min_eq_left
abbrev Xkf:=@Array.length_toList
abbrev Xkg:=@Int.ofNat_eq_natCast
abbrev Xkh:=@Int.le_refl
abbrev Xki:=@List.length_filter_le
abbrev Xkj:=@List.map_map
abbrev Xkk:=@Int.mul_nonneg
abbrev Xkl:=@Int.mul_le_mul_of_nonneg_right
abbrev Xkm:=@Nat.mul_le_mul_right
abbrev Xkn:=@Nat.mod_lt
abbrev Xko:=@List.map_set
abbrev Xkp:=@Array.ext
abbrev Xkq:=@List.mem_filter
abbrev Xkr:=@Nat.eq_zero_or_pos
abbrev Xks:=@List.flatMap_cons
abbrev Xkt:=@List.flatMap_append
abbrev Xku:=@List.cons_append
abbrev Xkv:=@List.map_nil
abbrev Xkw:=@Bool.not_eq_true'
abbrev Xkx:=@Array.getD_eq_getD_getElem?
abbrev Xky:=@List.getElem_set
abbrev Xkz:=@List.ext_getElem?
abbrev Xk0:=@Array.getElem?_eq_none
abbrev Xk1:=@List.foldl_cons
abbrev Xk2:=@List.mapM_cons
abbrev Xk3:=@List.size_toArray
abbrev Xk4:=@Array.getElem?_modify
abbrev Xk5:=@List.getElem?_set
abbrev Xk6:=@Bool.eq_false_iff
abbrev Xk7:=@Nat.mul_le_mul
abbrev Xk8:=@List.mem_append_right
abbrev Xk9:=@List.append_nil
abbrev Xla:=@List.flatten_cons
abbrev Xlb:=@List.getElem?_set_ne
abbrev Xlc:=@List.mem_cons_self
abbrev Xld:=@List.length_nil
abbrev Xle:=@Nat.zero_le
abbrev Xlf:=@Nat.ble_eq_true_of_le
abbrev Xlg:=@List.mem_map
abbrev Xlh:=@Nat.add_sub_cancel
abbrev Xli:=@List.mem_cons
abbrev Xlj:=@List.mem_singleton
abbrev Xlk:=@List.foldl_append
abbrev Xll:=@List.take_append_drop
abbrev Xlm:=@List.Perm.append_right
abbrev Xln:=@Option.bind_eq_bind
abbrev Xlo:=@List.all_cons
abbrev Xlp:=@List.map_congr_left
abbrev Xlq:=@Option.getD_some
abbrev Xlr:=@List.take_take
abbrev Xls:=@List.take_left
abbrev Xlt:=@List.getElem_range
abbrev Xlu:=@List.replicate_succ
abbrev Xlv:=@List.pairwise_iff_getElem
abbrev Xlw:=@Int.mul_add
abbrev Xlx:=@Nat.lt_trichotomy
abbrev Xly:=@Array.toList_map
abbrev Xlz:=@Option.map_some
abbrev Xl0:=@Bool.not_eq_true
abbrev Xl1:=@Nat.le_succ
abbrev Xl2:=@List.cons.injEq
abbrev Xl3:=@List.lookup_cons
abbrev Xl4:=@Array.size_append
abbrev Xl5:=@List.getElem?_map
abbrev Xl6:=@Nat.lt_of_lt_of_le
abbrev Xl7:=@Array.toList_setIfInBounds
abbrev Xl8:=@List.length_drop
abbrev Xl9:=@List.nodup_append
abbrev Xma:=@Int.mul_le_mul
abbrev Xmb:=@Int.one_mul
abbrev Xmc:=@List.not_mem_nil
abbrev Xmd:=@List.filter_append
abbrev Xme:=@List.mem_range
abbrev Xmf:=@Nat.one_mul
abbrev Xmg:=@List.set_append_right
abbrev Xmh:=@Nat.lt_succ_self
abbrev Xmi:=@List.nodup_nil
abbrev Xmj:=@Array.getElem?_append_left
abbrev Xmk:=@List.mem_of_find?_eq_some
abbrev Xml:=@List.find?_some
abbrev Xmm:=@List.countP_cons
abbrev Xmn:=@Bool.eq_iff_iff
abbrev Xmo:=@Array.getElem?_push_lt
abbrev Xmp:=@List.mem_of_getElem?
abbrev Xmq:=@List.mem_flatMap
abbrev Xmr:=@List.nil_append
abbrev Xms:=@List.mem_append
abbrev Xmt:=@List.length_eq_zero_iff
abbrev Xmu:=@List.filter_eq_nil_iff
abbrev Xmv:=@List.getElem_append_left
abbrev Xmw:=@List.flatten_append
abbrev Xmx:=@Bool.false_ne_true
abbrev Xmy:=@Array.toArray_toList
abbrev Xmz:=@Array.empty_append
abbrev Xm0:=@List.zip_cons_cons
abbrev Xm1:=@List.contains_eq_mem
abbrev Xm2:=@Nat.ne_of_beq_eq_false
abbrev Xm3:=@List.mem_append_left
abbrev Xm4:=@List.getElem?_cons_succ
abbrev Xm5:=@List.set_cons_succ
abbrev Xm6:=@List.take_succ_cons
abbrev Xm7:=@List.getElem?_take_of_lt
abbrev Xm8:=@Int.mul_le_mul_of_nonneg_left
abbrev Xm9:=@Nat.add_sub_cancel_left
abbrev Xna:=@List.mem_or_eq_of_mem_set
abbrev Xnb:=@Int.tmod_eq_emod_of_nonneg
abbrev Xnc:=@List.set_eq_take_append_cons_drop
abbrev Xnd:=@List.findIdx?_eq_some_iff_getElem
abbrev Xne:=@Int.mul_nonpos_of_nonneg_of_nonpos
abbrev Zk:=Array Obj
def hc(h:Zk)(b o:Nat):Option cR :=
 match h[b]? with
 |some (.cells c _ _)=>c[o]?
 |_=>none
def hfz(h:Zk)(b o:Nat):Bool :=
 match h[b]? with
 |some (.cells _ _ (lo,hi))=>lo<=o && o<hi
 |_=>false
def Vw(h:Zk)(b o:Nat)(v:Zj):Zk :=
 h.modify b fun
  |.cells c t f=>.cells (c.setIfInBounds o v) t f
  |x=>x
def rd(h:Zk)(b:Nat):Nat->Nat->Option Zc
 |_,0=>some []
 |o,n+1=>(hc h b o).bind fun v=>(rd h b (o+1) n).bind fun l=>some (v::l)
def hst(h:Zk)(b:Nat):Nat->Zc->Option Zk
 |_,[]=>some h
 |o,v::r=>if (hc h b o).isSome && !hfz h b o && v.oneCell' then hst (Vw h b o v) b (o+1) r else none
inductive Xw where
 |n (i:Nat)
 |t (i:Nat)
 |c (v:Zj)
 |f (j:Nat)
 |g (j:Nat)
inductive W1 where
 |drop
 |push
 |set (i:Nat)
inductive Ym where
 |mv
 |pick
 |nilck
 |ib (op:BinOp)
 |sb (op:BinOp)
 |eqb (neg:Bool)
 |eqp (neg:Bool)
 |eqi (neg:Bool) (lit:Bool)
 |eqs (neg:Bool)
 |eqf (neg:Bool)
 |eqa (neg:Bool) (n:Nat)
 |un (op:UnOp)
 |conv (k:IntKind)
 |fadr (off:Nat)
 |idxa (sz:Nat)
 |idxA (len sz:Nat)
 |idxS
 |idxV (len sz:Nat) (agg:Bool)
 |fld (off sz:Nat) (agg:Bool)
 |slc (sz:Nat) (lo hi:Bool)
 |slcS (lo hi:Bool)
 |slcA (n sz:Nat) (lo hi:Bool)
 |slc3 (sz:Nat)
 |cC (i:Nat)
 |build (zero:Array cR) (pl:List (Nat × Nat)) (ix:Zd)
 |buildA (sz:Nat) (zero:Array cR) (ix:Zd)
 |mkI (t:Nat)
 |len
 |lenS
 |lenA (n:Nat)
 |cap
 |mn
 |mx
 |load (sz:Nat) (agg:Bool)
 |b2s
 |ta (t:Nat) (ok:Bool) (zero:Zj)
 |mkf (f:Nat) (first:Nat)
 |lookup (kk:Option Nat) (ok:Bool) (zero:Zj)
 |lenM
 |cntS
 |idxBS
inductive Ef where
 |store (sz:Nat)
 |new
 |bslice (len sz:Nat) (zero:Array cR) (pl:Zd)
 |mkslice (sz bytes:Nat) (zero:Array cR)
 |append (sz bytes:Nat) (zero:Array cR)
 |appz (sz bytes:Nat) (zero:Array cR)
 |copy (sz:Nat)
 |clr (sz:Nat) (zero:Array cR)
 |s2b
 |b2b
 |mkmap
 |mupd (kk:Option Nat)
structure Sys where
 fid:Nat->FuncId
 tid:Nat->TypeId
 gid:Nat->Nat
 C:FuncId->Zc->Zk->(Ze)->Prop
 mono:∀{f:FuncId}{xs:Zc}{h:Zk}{R R':Ze},C f xs h R->(∀v h',R v h'->R' v h')->C f xs h R'
 able:FuncId->Prop
def Xw.ev(Y:Sys)(e T:Zc):Xw->cR
 |.n i=>e.getD i undef
 |.t i=>T.getD i undef
 |.c v=>v
 |.f j=>.func (.func (Y.fid j)) #[] #[]
 |.g j=>.pointer (some ⟨Y.gid j,0,none⟩)
def Z5(op:BinOp)(k:IntKind)(a:Int)(yk:IntKind)(b:Int):Option cR :=
 match op with
 |.shl=>if b<0 then none else some (.int k (k.wrap (a * 2 ^ (min b.toNat k.bits))))
 |.shr=>if b<0 then none else some (.int k (a.fdiv (2 ^ (min b.toNat k.bits))))
 |_ =>
  if k≠yk then none else
  match op with
  |.add=>some (.int k (k.wrap (a+b)))
  |.sub=>some (.int k (k.wrap (a-b)))
  |.mul=>some (.int k (k.wrap (a * b)))
  |.quo=>if b=0 then none else some (.int k (k.wrap (a.tdiv b)))
  |.rem=>if b=0 then none else some (.int k (a.tmod b))
  |.and=>some (.int k (k.wrap (BitVec.ofInt k.bits a &&& BitVec.ofInt k.bits b).toNat))
  |.or=>some (.int k (k.wrap (BitVec.ofInt k.bits a |||BitVec.ofInt k.bits b).toNat))
  |.xor=>some (.int k (k.wrap (BitVec.ofInt k.bits a ^^^ BitVec.ofInt k.bits b).toNat))
  |.andNot=>some (.int k (k.wrap (BitVec.ofInt k.bits a &&& ~~~(BitVec.ofInt k.bits b)).toNat))
  |.eql=>some (.bool (a == b))
  |.neq=>some (.bool (a != b))
  |.lss=>some (.bool (decide (a<b)))
  |.leq=>some (.bool (decide (a<=b)))
  |.gtr=>some (.bool (decide (a>b)))
  |.geq=>some (.bool (decide (a>=b)))
  |_=>none
def Zyb(op:BinOp)(x y:ByteArray):Option cR :=
 match op with
 |.add=>if x.size+y.size<=9223372036854775807 then some (.string (x++y)) else none
 |.eql=>some (.bool (x.toList == y.toList))
 |.neq=>some (.bool !(x.toList == y.toList))
 |.lss=>some (.bool (Op.bytesLess x.toList y.toList))
 |.leq=>some (.bool (Op.bytesLess x.toList y.toList ||x.toList == y.toList))
 |.gtr=>some (.bool !(Op.bytesLess x.toList y.toList ||x.toList == y.toList))
 |.geq=>some (.bool !(Op.bytesLess x.toList y.toList))
 |_=>none
def Zam(sz:Nat)(agg:Bool)(cs:Array cR)(off:Nat):Option cR :=
 if agg then some (.agg (cs.extract off (off+sz))) else cs[off]?
def Zcc:Zc->Option (List UInt8)
 | []=>some []
 |.int .u8 n::r=>(Zcc r).bind fun l=>some (UInt8.ofNat n.toNat::l)
 |_=>none
def W8(n cap:Nat):Bool->Bool->Zc->Option (Nat × Nat)
 |false,false,[]=>some (0,n)
 |true,false,[.int _ l]=>if 0<=l/\l<=n then some (l.toNat,n) else none
 |false,true,[.int _ h]=>if 0<=h/\h<=cap then some (0,h.toNat) else none
 |true,true,[.int _ l,.int _ h]=>if 0<=l/\l<=h/\h<=cap then some (l.toNat,h.toNat) else none
 |_,_,_=>none
def Zax(neg b:Bool):Option cR:=some (.bool (if neg then !b else b))
def Z9:Zc->Zc->Option Bool
 | [],[]=>some true
 |.int k a::r,.int j b::s=>if k=j then (Z9 r s).map fun c=>(a == b) && c else none
 |_,_=>none
def Zce(kk:Option Nat):cR->cR->Option Bool
 |.int k a,.int k' b=>if kk=none/\k=k' then some (a == b) else none
 |.agg xs,.agg ys=>match kk with|some n=>if xs.size=n/\ys.size=n then Z9 xs.toList ys.toList else none|none=>none
 |_,_=>none
def Zvo:cR->Bool
 |.int _ _=>true
 |_=>false
def Zb3(kk:Option Nat):cR->Bool
 |.int _ _=>kk.isNone
 |.agg xs=>match kk with|some n=>xs.size == n && xs.toList.all Zvo|none=>false
 |_=>false
def Uf(kk:Option Nat)(k:Zj):List MapEntry->Nat->Option (Option (Nat × cR))
 | [],_=>some none
 |e::es,i=>match Zce kk k e.key with
  |some true=>some (some (i,e.val))
  |some false=>Uf kk k es (i+1)
  |none=>none
def We(h:Zk):Option Nat->Option (List MapEntry)
 |none=>some []
 |some r=>match h[r]? with
  |some (.map es _)=>some es.toList
  |_=>none
def Zgc(h:Zk)(kk:Option Nat)(ok:Bool)(zero:Zj)(r:Option Nat)(key:Zj):Option cR :=
 if Zb3 kk key then (We h r).bind fun es=>(Uf kk key es 0).map fun a=>match a with
  |some (_,v)=>if ok then .tuple #[v,.bool true] else v
  |none=>if ok then .tuple #[zero,.bool false] else zero
 else none
def Ym.cK(Y:Sys)(h:Zk):Ym->Zc->Option cR
 |.mv,[x]=>some x
 |.pick,[.bool c,a,b]=>some (if c then a else b)
 |.nilck,[.pointer (some a)]=>some (.pointer (some a))
 |.nilck,[.iface t v]=>some (.iface t v)
 |.nilck,[.func (.func f) a b]=>some (.func (.func f) a b)
 |.ib op,[.int k a,.int yk b]=>Z5 op k a yk b
 |.sb op,[.string a,.string b]=>Zyb op a b
 |.eqb neg,[.bool a,.bool b]=>Zax neg (a == b)
 |.eqp neg,[.pointer none,.pointer b]=>Zax neg b.isNone
 |.eqp neg,[.pointer (some _),.pointer none]=>Zax neg false
 |.eqi neg lit,[.nilIface,.nilIface]=>if lit then Zax neg true else none
 |.eqi neg _,[.nilIface,.iface _ _]=>Zax neg false
 |.eqi neg _,[.iface _ _,.nilIface]=>Zax neg false
 |.eqs neg,[.slice none _ _,.slice b _ _]=>Zax neg b.isNone
 |.eqs neg,[.slice (some _) _ _,.slice none _ _]=>Zax neg false
 |.eqf neg,[.nilFunc,.nilFunc]=>Zax neg true
 |.eqf neg,[.func _ _ _,.nilFunc]=>Zax neg false
 |.eqa neg n,[.agg xs,.agg ys]=>if xs.size=n/\ys.size=n then (Z9 xs.toList ys.toList).bind (Zax neg) else none
 |.un .neg,[.int k n]=>some (.int k (k.wrap (0-n)))
 |.un .not,[.bool b]=>some (.bool !b)
 |.conv k,[.int _ n]=>some (.int k (k.wrap n))
 |.fadr off,[.pointer (some ⟨b,o,none⟩)]=>some (.pointer (some ⟨b,o+off,none⟩))
 |.idxa sz,[.slice (some ⟨b,o,none⟩) n _,.int _ i]=>if 0<=i/\i<n then some (.pointer (some ⟨b,o+i.toNat * sz,none⟩)) else none
 |.idxA n sz,[.pointer (some ⟨b,o,none⟩),.int _ i]=>if 0<=i/\i<n then some (.pointer (some ⟨b,o+i.toNat * sz,none⟩)) else none
 |.idxS,[.string s,.int _ i]=>if 0<=i then (s[i.toNat]?).bind fun b=>some (.int .u8 b.toNat) else none
 |.idxV n sz agg,[.agg cs,.int _ i]=>if 0<=i/\i<n then Zam sz agg cs (i.toNat * sz) else none
 |.fld off sz agg,[.agg cs]=>Zam sz agg cs off
 |.slc sz lo hi,.slice a n c::r=>(W8 n c lo hi r).bind fun x =>
   match a with
   |none=>some (.slice none (x.2-x.1) (c-x.1))
   |some ⟨b,o,none⟩=>some (.slice (some ⟨b,if c=x.1 then o else o+x.1 * sz,none⟩) (x.2-x.1) (c-x.1))
   |some ⟨b,o,some sp⟩=>if c=x.1 then some (.slice (some ⟨b,o,some sp⟩) (x.2-x.1) (c-x.1)) else none
 |.slcS lo hi,.string s::r=>(W8 s.size s.size lo hi r).bind fun x=>some (.string (s.extract x.1 x.2))
 |.slcA n sz lo hi,.pointer (some ⟨b,o,none⟩)::r=>(W8 n n lo hi r).bind fun x =>
   some (.slice (some ⟨b,if n=x.1 then o else o+x.1 * sz,none⟩) (x.2-x.1) (n-x.1))
 |.slc3 sz,[.slice a n c,.int _ l,.int _ i,.int _ m]=>if 0<=l/\l<=i/\i<=m/\m<=c then
   match a with
   |none=>some (.slice none (i.toNat-l.toNat) (m.toNat-l.toNat))
   |some ⟨b,o,none⟩=>some (.slice (some ⟨b,if m.toNat=l.toNat then o else o+l.toNat * sz,none⟩) (i.toNat-l.toNat) (m.toNat-l.toNat))
   |_=>none
  else none
 |.cC i,[.tuple vs]=>vs[i]?
 |.build zero pl ix,xs=>(Instr.fill (fun i=>pl[i]?) zero (ix.zip xs)).bind fun cs=>some (.agg cs)
 |.buildA sz zero ix,xs=>(Instr.fill (fun i=>some (i * sz,sz)) zero (ix.zip xs)).bind fun cs=>some (.agg cs)
 |.mkI t,[x]=>some (.iface (Y.tid t) x)
 |.len,[.slice _ n _]=>some (.int .i64 n)
 |.lenS,[.string s]=>some (.int .i64 s.size)
 |.lenA n,[_]=>some (.int .i64 n)
 |.cap,[.slice _ _ n]=>some (.int .i64 n)
 |.mn,[.int k x,.int _ y]=>some (.int k (if y<x then y else x))
 |.mx,[.int k x,.int _ y]=>some (.int k (if x<y then y else x))
 |.load sz true,[.pointer (some ⟨b,o,none⟩)]=>(rd h b o sz).bind fun l=>some (.agg l.toArray)
 |.load _ false,[.pointer (some ⟨b,o,none⟩)]=>hc h b o
 |.b2s,[.slice none _ _]=>some (.string .empty)
 |.b2s,[.slice (some ⟨b,o,none⟩) n _]=>(rd h b o n).bind fun l=>(Zcc l).bind fun s=>some (.string ⟨s.toArray⟩)
 |.ta t ok zero,[.iface t' v] =>
   if t'=Y.tid t then some (if ok then .tuple #[v,.bool true] else v) else if ok then some (.tuple #[zero,.bool false]) else none
 |.ta _ true zero,[.nilIface]=>some (.tuple #[zero,.bool false])
 |.mkf f k,xs=>some (.func (.func (Y.fid f)) (xs.take k).toArray (xs.drop k).toArray)
 |.lookup kk ok zero,[.map r,key]=>Zgc h kk ok zero r key
 |.lenM,[.map r]=>(We h r).map fun es=>.int .i64 es.length
 |.cntS,[.string s,.int .u8 c]=>some (.int .i64 (Lib.countByte s.data.toList c.toNat.toUInt8))
 |.idxBS,[.string s,.int .u8 c]=>some (.int .i64 (Lib.indexByte s.data.toList c.toNat.toUInt8))
 |_,_=>none
def Xv(zero:Array cR)(n:Nat):Array cR:=(Array.range n).map (zero[· % zero.size]!)
def Wi(h:Zk)(sz n:Nat):cR->Option Zc
 |.slice (some ⟨b,o,none⟩) _ _=>rd h b o (n * sz)
 |.slice (some ⟨_,_,some _⟩) _ _=>if n=0 then some [] else none
 |.slice none _ _=>some []
 |.string s=>some ((s.extract 0 n).data.toList.map fun b=>.int .u8 b.toNat)
 |_=>none
def Zfa:cR->Option Nat
 |.slice _ n _=>some n
 |.string s=>some s.size
 |_=>none
def Ef.wp(h:Zk)(K:Ze):Ef->Zc->Prop
 |.store sz,[.pointer (some ⟨b,o,none⟩),v]=>v.cells.size=sz /\
   match hst h b o v.cells.toList with
   |some h'=>K undef h'
   |none=>False
 |.new,[v]=>∀t:TypeId,K (.pointer (some ⟨h.size,0,none⟩)) (h.push (.cells v.cells t))
 |.bslice len sz zero pl,xs =>
   match Instr.fill (fun i=>some (i * sz,sz)) (Xv zero (len * sz)) (pl.zip xs) with
   |some cs=>∀t:TypeId,K (.slice (some ⟨h.size,0,none⟩) len len) (h.push (.cells cs t))
   |none=>False
 |.mkslice sz bytes zero,[.int _ l,.int _ c]=>0<=l/\l<=c/\c<=9223372036854775807/\(bytes:Int) * c<=281474976710656 /\
   ∀t:TypeId,K (.slice (some ⟨h.size,0,none⟩) l.toNat c.toNat) (h.push (.cells (Xv zero (c.toNat * sz)) t))
 |.append sz bytes zero,[.slice a n c,x] =>
   match Zfa x with
   |none=>False
   |some m =>
    match Wi h sz m x with
    |none=>False
    |some nw =>
     if n+m<=c then
      match a with
      |some ⟨b,o,none⟩ =>
       match hst h b (o+n * sz) nw with
       |some h'=>K (.slice a (n+m) c) h'
       |none=>False
      |none=>K (.slice none (n+m) c) h
      |_=>False
     else
      n+m<=9223372036854775807/\(n+m) * bytes<=140737488355328 /\
      match Wi h sz n (.slice a n c) with
      |some old=>∀(t:TypeId)(nc:Nat),n+m<=nc->nc<=9223372036854775807 ->
        K (.slice (some ⟨h.size,0,none⟩) (n+m) nc) (h.push (.cells (old.toArray++nw.toArray++Builtin.zeroCells zero (nc-(n+m))) t))
      |none=>False
 |.appz sz bytes zero,[.slice a n c,.int .i64 l]=>0<l/\c<n+l.toNat/\n+l.toNat<=9223372036854775807/\(n+l.toNat) * bytes<=140737488355328 /\
   match Wi h sz n (.slice a n c) with
   |some old=>∀(t:TypeId)(nc:Nat),n+l.toNat<=nc->nc<=9223372036854775807 ->
     K (.slice (some ⟨h.size,0,none⟩) (n+l.toNat) nc) (h.push (.cells (old.toArray++Builtin.zeroCells zero l.toNat++Builtin.zeroCells zero (nc-(n+l.toNat))) t))
   |none=>False
 |.copy sz,[.slice a n _,x] =>
   match Zfa x with
   |none=>False
   |some m =>
    match Wi h sz (min m n) x with
    |none=>False
    |some nw =>
     match a with
     |some ⟨b,o,none⟩ =>
      match hst h b o nw with
      |some h'=>K (.int .i64 (min m n:Nat)) h'
      |none=>False
     |none=>K (.int .i64 (min m n:Nat)) h
     |_=>False
 |.clr sz zero,[.slice a n c] =>
   match a with
   |none=>K undef h
   |some ⟨b,o,none⟩=>if n=0 then K undef h else
    match hst h b o (Builtin.zeroCells zero n).toList with
    |some h'=>K undef h'
    |none=>False
   |_=>False
 |.s2b,[.string s]=>∀(t:TypeId)(nc:Nat),s.size<=nc ->
   K (.slice (some ⟨h.size,0,none⟩) s.size nc)
    (h.push (.cells ((s.data.map fun b=>Value.int .u8 b.toNat)++Array.replicate (nc-s.size) (.int .u8 0)) t (nc,nc+1)))
 |.b2b,[.slice (some a) n c] =>
   match h[a.block]? with
   |some (.cells cs t (0,0))=>K (.slice (some a) n c) (h.modify a.block fun _=>.cells cs t (cs.size,cs.size+1))
   |_=>False
 |.mkmap,[]=>K (.map (some h.size)) (h.push (.map #[] 0))
 |.mkmap,[.int _ _]=>K (.map (some h.size)) (h.push (.map #[] 0))
 |.mupd kk,[.map (some r),key,val] =>
   match h[r]? with
   |some (.map es clock)=>Zb3 kk key=true /\
    match Uf kk key es.toList 0 with
    |some (some (i,_))=>K undef (h.setIfInBounds r (.map (es.modify i fun e=>{ e with key,val }) clock))
    |some none=>K undef (h.setIfInBounds r (.map (es.push { key,val,born:=clock }) (clock+1)))
    |none=>False
   |_=>False
 |_,_=>False
inductive Instr where
 |op (o:Ym) (xs:List Xw) (d:W1)
 |ef (f:Ef) (xs:List Xw) (d:W1)
 |call (f:Nat) (xs:List Xw) (d:W1)
 |callv (x:Xw) (xs:List Xw) (d:W1)
 |stab (o:Ym) (xs:List Xw) (v:Xw)
def W1.e(v:Zj)(e:Zc):W1->Zc
 |.set i=>e.set i v
 |_=>e
def W1.T(v:Zj)(T:Zc):W1->Zc
 |.push=>T++[v]
 |_=>T
def Zll(o:Option cR)(k:cR->Prop):Prop :=
 match o with
 |some v=>k v
 |none=>False
abbrev V2:=Zc->Zc->Zk->Prop
def Instr.wp(Y:Sys)(K:V2)(e T:Zc)(h:Zk):Instr->Prop
 |.op o xs d=>Zll (o.cK Y h (xs.map (Xw.ev Y e T))) fun v=>K (d.e v e) (d.T v T) h
 |.ef f xs d=>f.wp h (fun v h'=>K (d.e v e) (d.T v T) h') (xs.map (Xw.ev Y e T))
 |.call f xs d=>Y.C (Y.fid f) (xs.map (Xw.ev Y e T)) h fun v h'=>K (d.e v e) (d.T v T) h'
 |.callv x xs d =>
  match x.ev Y e T with
  |.func (.func f) first cap=>Y.able f/\Y.C f (first.toList++xs.map (Xw.ev Y e T)++cap.toList) h fun v h'=>K (d.e v e) (d.T v T) h'
  |_=>False
 |.stab o xs v=>o.cK Y h (xs.map (Xw.ev Y e T))=some (v.ev Y e T)/\K e T h
def Instr.dst:Instr->W1
 |.op _ _ d|.ef _ _ d|.call _ _ d|.callv _ _ d=>d
 |.stab _ _ _=>.drop
def gdB(v:Zj)(want:Bool):Bool :=
 match v with
 |.bool b=>b == want
 |_=>false
structure FI where
 g:Option (Xw × Bool)
 i:Instr
def FI.wp(Y:Sys)(x:FI)(K:V2)(e T:Zc)(h:Zk):Prop :=
 match x.g with
 |none=>x.i.wp Y K e T h
 |some (g,want)=>if gdB (g.ev Y e T) want then x.i.wp Y K e T h else K (x.i.dst.e undef e) (x.i.dst.T undef T) h
def FL.wp(Y:Sys)(K:V2):List FI->V2
 | [],e,T,h=>K e T h
 |x::r,e,T,h=>x.wp Y (FL.wp Y K r) e T h
inductive IL where
 |nil
 |op (i:Instr) (k:IL)
 |gd (g:Xw) (want:Bool) (body:IL) (ds:List W1) (k:IL)
 |alt (a b:IL)
def Znc:List W1->Zc->Zc
 | [],e=>e
 |d::r,e=>Znc r (d.e undef e)
def Znb:List W1->Zc->Zc
 | [],T=>T
 |d::r,T=>Znb r (d.T undef T)
def IL.wp(Y:Sys)(K:V2):IL->V2
 |.nil,e,T,h=>K e T h
 |.op i k,e,T,h=>i.wp Y (IL.wp Y K k) e T h
 |.gd g want body ds k,e,T,h=>if gdB (g.ev Y e T) want then IL.wp Y (IL.wp Y K k) body e T h else IL.wp Y K k (Znc ds e) (Znb ds T) h
 |.alt a b,e,T,h=>IL.wp Y K a e T h/\IL.wp Y K b e T h
inductive FT where
 |nil
 |cons (x:FI) (k:FT)
 |alt (a b:FT)
def FT.wp(Y:Sys)(K:V2):FT->V2
 |.nil,e,T,h=>K e T h
 |.cons x k,e,T,h=>x.wp Y (FT.wp Y K k) e T h
 |.alt a b,e,T,h=>FT.wp Y K a e T h/\FT.wp Y K b e T h
def FT.app:List FI->FT->FT
 | [],k=>k
 |x::r,k=>.cons x (FT.app r k)
inductive Stmt where
 |skip
 |seq (a b:Stmt)
 |reg (l:IL)
 |cond (x:Xw) (a b:Stmt)
 |block (id:Nat) (s:Stmt)
 |loop (s:Stmt)
 |exit (id:Nat)
 |ret
def Stmt.wp(Y:Sys):Stmt->(kn:Zc->Zk->Prop)->(ke:Nat->Zc->Zk->Prop)->(kr:Zc->Zk->Prop)->Zc->Zk->Prop
 |.skip,kn,_,_,e,h=>kn e h
 |.seq a b,kn,ke,kr,e,h=>a.wp Y (fun e h=>b.wp Y kn ke kr e h) ke kr e h
 |.reg l,kn,_,_,e,h=>l.wp Y (fun e _ h=>kn e h) e [] h
 |.cond x a b,kn,ke,kr,e,h =>
  match x.ev Y e [] with
  |.bool c=>if c=true then a.wp Y kn ke kr e h else b.wp Y kn ke kr e h
  |_=>False
 |.block id s,kn,ke,kr,e,h=>s.wp Y kn (fun i e h=>if i=id then kn e h else ke i e h) kr e h
 |.loop s,_,ke,kr,e,h=>∃(I:Zc->Zk->Prop)(μ:Zc->Zk->Nat),I e h /\
   ∀e h,I e h->s.wp Y (fun e' h'=>I e' h'/\μ e' h'<μ e h) ke kr e h
 |.exit id,_,ke,_,e,h=>ke id e h
 |.ret,_,_,kr,e,h=>kr e h
inductive Res where
 |n (i:Nat)
 |box (i:Nat) (sz:Nat) (agg:Bool)
def Res.ev(e:Zc)(h:Zk):Res->Option cR
 |.n i=>some (e.getD i undef)
 |.box i sz agg =>
  match e.getD i undef with
  |.pointer (some ⟨b,o,none⟩)=>if agg then (rd h b o sz).bind fun l=>some (.agg l.toArray) else hc h b o
  |_=>none
structure Yw where
 np:Nat
 nn:Nat
 body:Stmt
 res:List Res
def Zbo(e:Zc)(h:Zk):List Res->Option Zc
 | []=>some []
 |r::l=>(r.ev e h).bind fun v=>(Zbo e h l).bind fun vs=>some (v::vs)
def Up(res:List Res)(R:Ze)(e:Zc)(h:Zk):Prop :=
 match Zbo e h res with
 |some [v]=>R v h
 |some vs=>R (.tuple vs.toArray) h
 |none=>False
def Yw.wp(Y:Sys)(S:Yw)(args:Zc)(h:Zk)(R:Ze):Prop :=
 S.body.wp Y (Up S.res R) (fun _ _ _=>False) (Up S.res R) (args++List.replicate (S.nn-S.np) undef) h
def Sys.cL(Y:Sys)(j:Nat)(S:Yw):Prop :=
 Y.able (Y.fid j)/\∀(args:Zc)(h:Zk)(R:Ze),args.length=S.np->S.wp Y args h R->Y.C (Y.fid j) args h R
structure Cx where
 P:Program
 fn:FuncId->Option Nat
 tn:TypeId->Option Nat
 gn:Nat->Option Nat
 nm:Zd
 nt:Nat
inductive Kd where
 |io (o:Ym)
 |ef (f:Ef)
 |call (f:Nat)
 |callv
def Xu:TypeDesc->Bool
 |.struct _|.array _ _=>true
 |_=>false
def Operand.isC:Operand->Bool
 |.const _=>true
 |_=>false
section
variable(cx:Cx)
def Uv(t:TypeId):Option Nat:=(cx.P.info? t).map (·.size)
def Qx(t:TypeId):Option cR:=(cx.P.info? t).bind (·.zero)
def Zb1:List Field->Nat->Bool
 | [],_=>true
 | f :: r, k => f.name != "_" && f.offset == k && (match cx.P.underlying f.type with | some (.int _) => true | _ => false) && Zb1 r (k + 1)
def Zc5(neg:Bool)(op:BinOp)(t:TypeId)(x y:Operand):Option Kd :=
 match cx.P.underlying t with
 |some (.int _)=>some (.io (.ib op))
 |some .string=>some (.io (.sb op))
 |some .bool=>some (.io (.eqb neg))
 |some (.pointer _)=>some (.io (.eqp neg))
 |some (.interface _)=>some (.io (.eqi neg (Operand.isC x ||Operand.isC y)))
 |some (.slice _)=>some (.io (.eqs neg))
 |some (.func _ _ _)=>some (.io (.eqf neg))
 |some (.struct fs)=>if Zb1 cx fs.toList 0=true/\cx.P.stoodInHeld t=false/\cx.P.eqGuardType cx.P.depth t=false then some (.io (.eqa neg fs.size)) else none
 |_=>none
def Zfy(op:BinOp)(t:TypeId)(x y:Operand):Option Kd :=
 match op with
 |.eql=>Zc5 cx false op t x y
 |.neq=>Zc5 cx true op t x y
 |_ =>
  match cx.P.underlying t with
  |some (.int _)=>some (.io (.ib op))
  |some .string=>some (.io (.sb op))
  |_=>none
def Zaj(k:TypeId):Option (Option Nat) :=
 match cx.P.underlying k with
 |some (.int _)=>some none
 |some (.struct fs)=>if Zb1 cx fs.toList 0=true/\cx.P.stoodInHeld k=false then some (some fs.size) else none
 |some (.array n e) =>
  match cx.P.underlying e,cx.P.info? e with
  |some (.int _),some _=>if cx.P.cellsOf e=1 then some (some n) else none
  |_,_=>none
 |_=>none
def Z48 (f:FuncId):Option Ym :=
 match cx.P.funcs[f]? with
 | some fn =>
  if fn.body.isNone ∧ (fn.name == "runtime.NumGoroutine") = false ∧ (Extern.findNext fn).isNone then
   if fn.name = "internal/bytealg.CountString" then some .cntS
   else if fn.name = "internal/bytealg.IndexByteString" then some .idxBS
   else some (.idxA 0 0)
  else none
 | none=>none
def Zee:Op->Option (Kd × List Operand)
 |.move x|.assign x=>some (.io .mv,[x])
 |.pick c a b=>some (.io .pick,[c,a,b])
 |.alloc t=>(Qx cx t).map fun z=>(.ef .new,[.const z])
 |.box _ x=>some (.ef .new,[x])
 |.build t ps =>
  match cx.P.underlying t,Qx cx t with
  |some (.struct fs),some z=>(fs.toList.mapM fun f=>(Uv cx f.type).map fun n=>(f.offset,n)).map fun pl=>(.io (.build z.cells pl (ps.toList.map (·.1))),ps.toList.map (·.2))
  |some (.array _ e),some z=>(Uv cx e).map fun n=>(.io (.buildA n z.cells (ps.toList.map (·.1))),ps.toList.map (·.2))
  |_,_=>none
 |.buildSlice t len ps =>
  match cx.P.underlying t with
  |some (.slice e) =>
   match Uv cx e,Qx cx e with
   |some sz,some z=>if len * sz<=16777216 then some (.ef (.bslice len sz (if len * sz=0 then #[] else z.cells) (ps.toList.map (·.1))),ps.toList.map (·.2)) else none
   |_,_=>none
  |_=>none
 |.load t x =>
  match cx.P.underlying t with
  |some d=>if Xu d then (Uv cx t).map fun n=>(.io (.load n true),[x]) else some (.io (.load 1 false),[x])
  |none=>none
 |.store t a v=>(Uv cx t).map fun n=>(.ef (.store n),[a,v])
 |.nilCheck x=>some (.io .nilck,[x])
 |.binOp op t x y _=>(Zfy cx op t x y).map fun k=>(k,[x,y])
 |.unOp op _ x=>some (.io (.un op),[x])
 |.convert s d x =>
  match cx.P.underlying s,cx.P.underlying d with
  |some _,some (.int k)=>some (.io (.conv k),[x])
  |some (.slice e),some .string=>match cx.P.underlying e with|some (.int .u8)=>some (.io .b2s,[x])|_=>none
  |some .string,some (.slice e)=>match cx.P.underlying e with|some (.int .u8)=>some (.ef .s2b,[x])|_=>none
  |some (.slice _),some (.slice e)=>if s=d then match cx.P.underlying e with|some (.int .u8)=>some (.ef .b2b,[x])|_=>none else none
  |_,_=>none
 |.makeInterface t x =>
  match cx.P.underlying t with
  |some (.interface _)=>none
  |some _=>(cx.tn t).map fun n=>(.io (.mkI n),[x])
  |none=>none
 |.makeFunc (.func f) first cap=>(cx.fn f).map fun n=>(.io (.mkf n first.size),first.toList++cap.toList)
 |.makeSlice t l c =>
  match cx.P.underlying t with
  |some (.slice e) =>
   match Uv cx e,Qx cx e,cx.P.info? e with
   |some sz,some z,some i=>some (.ef (.mkslice sz i.bytes z.cells),[l,c])
   |_,_,_=>none
  |_=>none
 |.slice t x lo hi none =>
  match cx.P.underlying t with
  |some (.slice e)=>(Uv cx e).map fun n=>(.io (.slc n lo.isSome hi.isSome),x::(lo.toList++hi.toList))
  |some .string=>some (.io (.slcS lo.isSome hi.isSome),x::(lo.toList++hi.toList))
  |some (.array len e)=>(Uv cx e).map fun n=>(.io (.slcA len n lo.isSome hi.isSome),x::(lo.toList++hi.toList))
  |_=>none
 |.slice t x (some lo) (some hi) (some mx) =>
  match cx.P.underlying t with
  |some (.slice e)=>(Uv cx e).map fun n=>(.io (.slc3 n),[x,lo,hi,mx])
  |_=>none
 |.fieldAddr t x f =>
  match cx.P.underlying t with
  |some (.struct fs)=>(fs[f]?).bind fun fd=>(Uv cx fd.type).bind fun n=>if n=0 then none else some (.io (.fadr fd.offset),[x])
  |_=>none
 |.field t x f =>
  match cx.P.underlying t with
  |some (.struct fs)=>(fs[f]?).bind fun fd =>
   match cx.P.underlying fd.type with
   |some d=>if Xu d then (Uv cx fd.type).map fun n=>(.io (.fld fd.offset n true),[x]) else some (.io (.fld fd.offset 1 false),[x])
   |none=>none
  |_=>none
 |.indexAddr t x i =>
  match cx.P.underlying t with
  |some (.slice e)=>(Uv cx e).map fun n=>(.io (.idxa n),[x,i])
  |some (.array len e)=>(Uv cx e).map fun n=>(.io (.idxA len n),[x,i])
  |_=>none
 |.index t x i =>
  match cx.P.underlying t with
  |some .string=>some (.io .idxS,[x,i])
  |some (.array len e) =>
   match cx.P.underlying e,Uv cx e with
   |some d,some n=>some (.io (.idxV len n (Xu d)),[x,i])
   |_,_=>none
  |_=>none
 |.typeAssert x _ t ok =>
  match cx.P.underlying t with
  |some (.interface _)=>none
  |some _=>match cx.tn t,Qx cx t with
   |some n,some z=>some (.io (.ta n ok z),[x])
   |_,_=>none
  |none=>none
 |.extract x i=>some (.io (.cC i),[x])
 |.makeMap t r =>
  match cx.P.underlying t with
  |some (.map _ _)=>some (.ef .mkmap,r.toList)
  |_=>none
 |.mapUpdate t m k x =>
  match cx.P.underlying t with
  |some (.map kt _)=>(Zaj cx kt).map fun n=>(.ef (.mupd n),[m,k,x])
  |_=>none
 |.lookup t m k ok =>
  match cx.P.underlying t with
  |some (.map kt e) =>
   match Zaj cx kt,Qx cx e with
   |some n,some z=>some (.io (.lookup n ok z),[m,k])
   |_,_=>none
  |_=>none
 |.call c =>
  match c.callee with
  |.value (.func f) =>
   match Z48 cx f with
   |some o=>some (.io o,c.args.toList)
   |none=>(cx.fn f).map fun n=>(.call n,c.args.toList)
  |.value x=>some (.callv,x::c.args.toList)
  |.builtin .len =>
   match c.argTypes.toList,c.args.toList with
   | [t],[x] =>
    match cx.P.underlying t with
    |some (.slice _)=>some (.io .len,[x])
    |some .string=>some (.io .lenS,[x])
    |some (.array n _)=>some (.io (.lenA n),[x])
    |some (.map _ _)=>some (.io .lenM,[x])
    |_=>none
   |_,_=>none
  |.builtin .cap =>
   match c.argTypes.toList,c.args.toList with
   | [t],[x]=>match cx.P.underlying t with|some (.slice _)=>some (.io .cap,[x])|_=>none
   |_,_=>none
  |.builtin .min=>match c.args.toList with | [x,y]=>some (.io .mn,[x,y])|_=>none
  |.builtin .max=>match c.args.toList with | [x,y]=>some (.io .mx,[x,y])|_=>none
  |.builtin .append =>
   match c.argTypes.toList,c.args.toList with
   | [t,u],[x,y] =>
    match cx.P.underlying t,cx.P.underlying u with
    |some (.slice e),some du =>
     match Uv cx e,Qx cx e,cx.P.info? e,du with
     |some sz,some z,some i,.slice _=>if z.cells.size=sz/\i.bytes≠0 then some (.ef (.append sz i.bytes z.cells),[x,y]) else none
     |some sz,some z,some i,.string=>if z.cells.size=sz/\i.bytes≠0 then some (.ef (.append sz i.bytes z.cells),[x,y]) else none
     |some sz,some z,some i,.int _=>if z.cells.size=sz/\i.bytes≠0/\sz≠0 then some (.ef (.appz sz i.bytes z.cells),[x,y]) else none
     |_,_,_,_=>none
    |_,_=>none
   |_,_=>none
  |.builtin .clear =>
   match c.argTypes.toList,c.args.toList with
   | [t],[x] =>
    match cx.P.underlying t with
    |some (.slice e) =>
     match Uv cx e,Qx cx e with
     |some n,some z=>some (.ef (.clr n z.cells),[x])
     |_,_=>none
    |_=>none
   |_,_=>none
  |.builtin .copy =>
   match c.argTypes.toList,c.args.toList with
   |t::_,[x,y] =>
    match cx.P.underlying t with
    |some (.slice e)=>(Uv cx e).map fun n=>(.ef (.copy n),[x,y])
    |_=>none
   |_,_=>none
  |_=>none
 |_=>none
abbrev SM:=List (Nat × Xw)
def Xw.isN(i:Nat):Xw->Bool
 |.n j=>j == i
 |_=>false
def rsv(m:SM):Operand->Option Xw
 |.tmp s =>
  match m.lookup s with
  |some a=>some a
  |none=>(cx.nm.idxOf? s).map .n
 |.const v=>some (.c v)
 |.global g=>(cx.gn g).map .g
 |.func f=>(cx.fn f).map .f
def Zqs(d:W1):Kd->List Xw->Option Instr
 |.io o,xs=>some (.op o xs d)
 |.ef f,xs=>some (.ef f xs d)
 |.call f,xs=>some (.call f xs d)
 |.callv,x::xs=>some (.callv x xs d)
 |.callv,[]=>none
def Zby(ops:Array Oper)(m:SM):Option (Nat × Bool)->Option (Option (Xw × Bool))
 |none=>some none
 |some (j,want)=>((ops[j]?).bind (·.dst)).bind fun s=>(rsv cx m (.tmp s)).map fun a=>some (a,want)
def Zoz(m:SM)(d:Nat):Option Tmp->Option (W1 × SM × Nat)
 |none=>some (.drop,m,d)
 |some s =>
  if s<cx.nt then
   match cx.nm.idxOf? s with
   |some i=>some (.set i,m.filter (fun p=>!p.2.isN i && p.1 != s),d)
   |none=>some (.push,(s,.t d)::m.filter (fun p=>p.1 != s),d+1)
  else none
def Xan:Kd->List Xw->Option Xw
 |.io .mv,[x]=>some x
 |_,_=>none
def Zhd(o:Oper)(k:Kd)(xs:List Xw):Option (Nat × Xw) :=
 match o.guard,Xan k xs,o.dst with
 |none,some x,some s=>if s<cx.nt/\cx.nm.idxOf? s=none then some (s,x) else none
 |_,_,_=>none
def Xf5(s:Nat)(o:Oper):Bool :=
 match Zee cx o.op with
 |some (_,xs)=>xs.any fun x=>match x with|.tmp t=>t == s|_=>false
 |none=>false
def Zs3(s:Nat):List Oper->List Oper
 | []=>[]
 |o::r=>if o.dst == some s then r else Zs3 s r
def Zys(s src:Nat):List Oper->Bool
 | []=>false
 |o::r=>if o.dst == some src then r.any (Xf5 cx s) else Zys s src r
def Zx6(ops:Array Oper)(o:Oper)(k:Kd)(xs:List Xw):Option (Nat × Xw) :=
 match Zhd cx o k xs with
 |some (s,.n j)=>if Zys cx s (cx.nm.getD j 0) (Zs3 s ops.toList) then none else some (s,.n j)
 |y=>y
def Z1g{cx:Cx}{G:Array Oper}{o:Oper}{k:Kd}{xs:List Xw}{p:Nat × Xw}(h:Zx6 cx G o k xs=some p):Zhd cx o k xs=some p:=by
 unfold Zx6 at h
 split at h
 ·split at h
  ·cases h
  ·rename_i e _;rw[e,h]
 exact h
def Zwx(ops:Array Oper)(m:SM)(d:Nat)(o:Oper):Option (List FI × SM × Nat) :=
 match Zby cx ops m o.guard,Zee cx o.op with
 |some g,some (k,xs) =>
  match xs.mapM (rsv cx m) with
  |some as =>
   match Zx6 cx ops o k as with
   |some (s,x)=>some ([],(s,x)::m.filter (fun p=>p.1 != s),d)
   |none =>
    match Zoz cx m d o.dst with
    |some (ds,m',d')=>(Zqs ds k as).map fun i=>([⟨g,i⟩],m',d')
    |none=>none
  |none=>none
 |_,_=>none
def Zz6(ops:Array Oper):Zd->SM->Nat->Option (List FI)
 | [],_,_=>some []
 |i::r,m,d =>
  match ops[i]? with
  |none=>none
  |some o =>
   match Zwx cx ops m d o with
   |none=>none
   |some (fl,m',d')=>(Zz6 ops r m' d').map (fl ++ ·)
def Xw.same:Xw->Xw->Bool
 |.t i,.t j=>i == j
 |.n i,.n j=>i == j
 |_,_=>false
def W1.keeps(d:W1):Xw->Bool
 |.n i=>match d with|.set j=>i != j|_=>true
 |_=>true
def Zro(x:FI)(k:IL):IL :=
 match x.g with
 |none=>.op x.i k
 |some (g,w) =>
  match k with
  |.gd g' w' body ds k'=>if g.same g' && w == w' && x.i.dst.keeps g then .gd g w (.op x.i body) (x.i.dst::ds) k' else .gd g w (.op x.i .nil) [x.i.dst] k
  |_=>.gd g w (.op x.i .nil) [x.i.dst] k
def grp:List FI->IL
 | []=>.nil
 |x::r=>Zro x (grp r)
def Z7u:FT->IL
 |.nil=>.nil
 |.cons x k=>Zro x (Z7u k)
 |.alt a b=>.alt (Z7u a) (Z7u b)
def Uy(o:Oper):Zd:=o.after.toList.filterMap fun e=>if Region.binds .any e then some e.on else none
def Z87:Stmt:=.reg (.op (.op .nilck [] .drop) .nil)
def Zdl(W0:Array Oper->Option FT):Code->Option Stmt
 |.skip=>some .skip
 |.seq a b=>(Zdl W0 a).bind fun x=>(Zdl W0 b).map fun y=>.seq x y
 |.region _ ops draw =>
  match (if draw then (W0 ops).map fun l=>Stmt.reg (Z7u l) else (Zz6 cx ops (List.range ops.size) [] 0).map fun l=>Stmt.reg (grp l)) with
  |some s=>some s
  |none=>some Z87
 |.cond c a b =>
  match rsv cx [] c with
  |some x=>(Zdl W0 a).bind fun y=>(Zdl W0 b).map fun z=>.cond x y z
  |none=>some Z87
 |.block id s=>(Zdl W0 s).map (.block id)
 |.loop s=>(Zdl W0 s).map .loop
 |.exit id=>some (.exit id)
 |.ret=>some .ret
 |_=>some Z87
def Zfx(r:ResultVar):Option Res :=
 match r with
 |.tmp t=>(cx.nm.idxOf? t).map .n
 |.cell a t =>
  match cx.P.underlying t,cx.nm.idxOf? a with
  |some d,some i=>if Xu d then (Uv cx t).map fun n=>.box i n true else some (.box i 1 false)
  |_,_=>none
def Zt7{α β:Type}(f:α->Option β):List α->Option (List β)
 | []=>some []
 |x::r=>(f x).bind fun y=>(Zt7 f r).map (y :: ·)
def Zjh:Zd->Bool
 | []=>true
 |x::r=>!r.contains x && Zjh r
def Zry(W0:Array Oper->Option FT)(fn:Func):Option Yw :=
 if cx.nt=fn.ntmps/\cx.nm.all (· < cx.nt)/\Zjh cx.nm/\(cx.nm.take (fn.params.size+fn.nfree)=List.range (fn.params.size+fn.nfree))/\fn.params.size+fn.nfree<=cx.nm.length then
  match fn.body with
  |none=>none
  |some c=>(Zdl cx W0 c).bind fun s=>(Zt7 (Zfx cx) fn.results.toList).map fun rs=>⟨fn.params.size+fn.nfree,cx.nm.length,s,rs⟩
 else none
end
end Go.Rm
namespace Go.Rm
variable{Y:Sys}
def Ef.wp_mono{h:Zk}{K K':Ze}{f:Ef}{xs:Zc}(G:f.wp h K xs)(H:∀v h',K v h'->K' v h'):f.wp h K' xs:=by
 unfold Ef.wp at *
 split at G
 ·refine⟨G.1,?_⟩;have:=G.2
  split at this
  ·exact H _ _ this
  exact this.elim
 ·exact fun t=>H _ _ (G t)
 ·split at G
  ·exact fun t=>H _ _ (G t)
  exact G.elim
 ·exact⟨G.1,G.2.1,G.2.2.1,G.2.2.2.1,fun t=>H _ _ (G.2.2.2.2 t)⟩
 ·split at G
  ·exact G.elim
  split at G
  ·exact G.elim
  split at G
  ·rename_i J;rw[if_pos J]
   split at G
   ·split at G
    ·exact H _ _ G
    exact G.elim
   ·exact H _ _ G
   exact G.elim
  rename_i J;rw[if_neg J];refine⟨G.1,G.2.1,?_⟩;have:=G.2.2
  split at this
  ·exact fun t I h1 O=>H _ _ (this t I h1 O)
  exact this.elim
 ·refine⟨G.1,G.2.1,G.2.2.1,G.2.2.2.1,?_⟩;have:=G.2.2.2.2
  split at this
  ·exact fun t I h1 O=>H _ _ (this t I h1 O)
  exact this.elim
 ·split at G
  ·exact G.elim
  split at G
  ·exact G.elim
  split at G
  ·split at G
   ·exact H _ _ G
   exact G.elim
  ·exact H _ _ G
  exact G.elim
 ·split at G
  ·exact H _ _ G
  ·split at G
   ·rename_i h0;rw[if_pos h0];exact H _ _ G
   rename_i h0;rw[if_neg h0]
   split at G
   ·exact H _ _ G
   exact G.elim
  exact G.elim
 ·exact fun t I h1=>H _ _ (G t I h1)
 ·split at G
  ·exact H _ _ G
  exact G.elim
 ·exact H _ _ G
 ·exact H _ _ G
 ·split at G
  ·refine⟨G.1,?_⟩;have:=G.2
   split at this
   ·exact H _ _ this
   ·exact H _ _ this
   exact this.elim
  exact G.elim
 exact G.elim
def Z2r{o:Option cR}{k k':cR->Prop}(G:Zll o k)(H:∀v,k v->k' v):Zll o k':=by
 cases o with
 |none=>exact G
 |some v=>exact H v G
def Instr.wp_mono{i:Instr}{K K':V2}{e T:Zc}{h:Zk}(G:i.wp Y K e T h)
  (H:∀v h',K (i.dst.e v e) (i.dst.T v T) h'->K' (i.dst.e v e) (i.dst.T v T) h'):i.wp Y K' e T h:=by
 cases i with
 |op o xs d=>exact Z2r G fun v hv=>H v h hv
 |ef f xs d=>exact Ef.wp_mono (f:=f) (xs:=xs.map (Xw.ev Y e T)) (K:=fun v h'=>K (d.e v e) (d.T v T) h') G fun v h' hv=>H v h' hv
 |call f xs d=>exact Y.mono G fun v h' hv=>H v h' hv
 |callv x xs d =>
  simp only[Instr.wp] at G ⊢
  split at G
  ·exact⟨G.1,Y.mono G.2 fun v h' hv=>H v h' hv⟩
  exact G.elim
 |stab o xs v=>exact⟨G.1,H undef h G.2⟩
def FI.wp_mono{x:FI}{K K':V2}{e T:Zc}{h:Zk}(G:x.wp Y K e T h)
  (H:∀e T h,K e T h->K' e T h):x.wp Y K' e T h:=by
 unfold FI.wp at *
 split
 ·rename_i I;simp only[I] at G;exact Instr.wp_mono G fun v h' hv=>H _ _ _ hv
 rename_i g w I;simp only[I] at G
 split
 ·rename_i hb;rw[if_pos hb] at G;exact Instr.wp_mono G fun v h' hv=>H _ _ _ hv
 rename_i hb;rw[if_neg hb] at G;exact H _ _ _ G
def IL.wp_mono{l:IL}:∀{K K':V2}{e T:Zc}{h:Zk},l.wp Y K e T h->(∀e T h,K e T h->K' e T h)->l.wp Y K' e T h:=by
 induction l with
 |nil=>intro K K' e T h G H;exact H _ _ _ G
 |op i k J=>intro K K' e T h G H;exact Instr.wp_mono G fun v h' hv=>J hv H
 |gd g w R ds k I J =>
  intro K K' e T h G H;simp only[IL.wp] at G ⊢
  split at G
  ·rename_i hb;rw[if_pos hb];exact I G fun e T h hv=>J hv H
  rename_i hb;rw[if_neg hb];exact J G H
 |alt a b O I=>intro K K' e T h G H;exact⟨O G.1 H,I G.2 H⟩
def FL.wp_append{l r:List FI}:∀{K:V2}{e T:Zc}{h:Zk},FL.wp Y K (l++r) e T h=FL.wp Y (FL.wp Y K r) l e T h:=by
 induction l with
 |nil=>intros;rfl
 |cons x l G =>
  intro K e T h;simp only[Xku,FL.wp];rw[show FL.wp Y K (l++r)=FL.wp Y (FL.wp Y K r) l from funext fun e=>funext fun T=>funext fun h=>G]
def Z6q{g:Xw}{w:Bool}{e T:Zc}{v:Zj}{d:W1}(G:d.keeps g=true)(hb:gdB (g.ev Y e T) w=true):
  gdB (g.ev Y (d.e v e) (d.T v T)) w=true:=by
 cases g with
 |n i =>
  simp only[Xw.ev] at hb ⊢
  cases d with
  |set j =>
   simp only[W1.keeps,bne_iff_ne,ne_eq] at G;simp only[W1.e];rw[Xja,Xlb (fun h=>G h.symm),<-Xja];exact hb
  |drop=>exact hb
  |push=>exact hb
 |t i =>
  simp only[Xw.ev] at hb ⊢
  cases d with
  |push =>
   simp only[W1.T];have H:i<T.length:=by
    rcases Xi6 i T.length with h|h
    ·exact h
    rw[Xja,Xjl h] at hb;simp[gdB,undef] at hb
   rw[Xja,Xjm H,<-Xja];exact hb
  |drop=>exact hb
  |set j=>exact hb
 |c v=>exact hb
 |f j=>exact hb
 |g j=>exact hb
def Z2h{g:Xw}{w:Bool}{e T:Zc}{d:W1}(G:d.keeps g=true)(hb:gdB (g.ev Y e T) w=false):
  gdB (g.ev Y (d.e undef e) (d.T undef T)) w=false:=by
 cases g with
 |n i =>
  simp only[Xw.ev] at hb ⊢
  cases d with
  |set j =>
   simp only[W1.keeps,bne_iff_ne,ne_eq] at G;simp only[W1.e];rw[Xja,Xlb (fun h=>G h.symm),<-Xja];exact hb
  |drop=>exact hb
  |push=>exact hb
 |t i =>
  simp only[Xw.ev] at hb ⊢
  cases d with
  |push =>
   simp only[W1.T];rcases Xlx i T.length with h|h|h
   ·rw[Xja,Xjm h,<-Xja];exact hb
   ·subst h;simp[gdB,undef]
   rw[Xja,Xjl (by simp;omega)];simp[gdB,undef]
  |drop=>exact hb
  |set j=>exact hb
 |c v=>exact hb
 |f j=>exact hb
 |g j=>exact hb
def Xw.same_eq{a b:Xw}(h:a.same b=true):a=b:=by
 cases a<;>cases b<;>simp_all[Xw.same]
def Zh6{x:FI}{k:IL}{K:V2}{e T:Zc}{h:Zk}(H:(Zro x k).wp Y K e T h):x.wp Y (k.wp Y K) e T h:=by
 obtain⟨g,i⟩:=x
 cases g with
 |none=>exact H
 |some R =>
  obtain⟨g,w⟩:=R;have G:∀k:IL,(IL.gd g w (.op i .nil) [i.dst] k).wp Y K e T h->FI.wp Y ⟨some (g,w),i⟩ (k.wp Y K) e T h:=by
   intro k H;simp only[IL.wp,Znc,Znb] at H;simp only[FI.wp];exact H
  cases k with
  |nil=>exact G _ H
  |op j k=>exact G _ H
  |alt a b=>exact G _ H
  |gd X w' O ds k' =>
   simp only[Zro] at H
   split at H
   ·rename_i hc;simp only[Xjf,beq_iff_eq] at hc;obtain⟨⟨U,J⟩,I⟩:=hc;have:=Xw.same_eq U;subst this;subst J;simp only[IL.wp,Znc,Znb] at H;simp only[FI.wp]
    split at H
    ·rename_i hb;rw[if_pos hb];refine Instr.wp_mono H fun v h' hv=>?_;simp only[IL.wp];rw[if_pos (Z6q I hb)];exact hv
    rename_i hb;rw[if_neg hb];simp only[IL.wp];rw[if_neg (by rw[Z2h I (by simpa using hb)];simp)];exact H
   exact G _ H
def Z06{l:List FI}:∀{K:V2}{e T:Zc}{h:Zk},(grp l).wp Y K e T h->FL.wp Y K l e T h:=by
 induction l with
 |nil=>intro K e T h G;exact G
 |cons x r H =>
  intro K e T h G;exact FI.wp_mono (Zh6 G) fun e T h hv=>H hv
def Zvv{t:FT}:∀{K:V2}{e T:Zc}{h:Zk},(Z7u t).wp Y K e T h->FT.wp Y K t e T h:=by
 induction t with
 |nil=>intro K e T h G;exact G
 |cons x r J =>
  intro K e T h G;exact FI.wp_mono (Zh6 G) fun e T h hv=>J hv
 |alt a b H I=>intro K e T h G;exact⟨H G.1,I G.2⟩
def Stmt.wp_mono{s:Stmt}:∀{X G:Zc->Zk->Prop}{ke H:Nat->Zc->Zk->Prop}{kr J:Zc->Zk->Prop}{e:Zc}{h:Zk},
  s.wp Y X ke kr e h->(∀e h,X e h->G e h)->(∀i e h,ke i e h->H i e h)->(∀e h,kr e h->J e h)->s.wp Y G H J e h:=by
 induction s with
 |skip=>intro X G ke H kr J e h O h1 R U;exact h1 _ _ O
 |seq a b aa ab=>intro X G ke H kr J e h O h1 R U;exact aa O (fun e h hv=>ab hv h1 R U) R U
 |reg l=>intro X G ke H kr J e h O h1 R U;exact IL.wp_mono O fun e T h hv=>h1 _ _ hv
 |cond x a b aa ab =>
  intro X G ke H kr J e h O h1 R U;simp only[Stmt.wp] at O ⊢
  split at O
  ·split at O
   ·rename_i hc;rw[if_pos hc];exact aa O h1 R U
   rename_i hc;rw[if_neg hc];exact ab O h1 R U
  exact O.elim
 |block id s ih =>
  intro X G ke H kr J e h O h1 R U;refine ih O h1 (fun i e h hv=>?_) U
  split at hv
  ·rename_i hi;simp only[hi,if_true];exact h1 _ _ hv
  rename_i hi;simp only[hi,if_false];exact R _ _ _ hv
 |loop s ih =>
  intro X G ke H kr J e h O h1 R U;obtain⟨I,μ,hI,hs⟩:=O;exact⟨I,μ,hI,fun e h hi=>ih (hs e h hi) (fun _ _ hv=>hv) R U⟩
 |exit id=>intro X G ke H kr J e h O h1 R U;exact R _ _ _ O
 |ret=>intro X G ke H kr J e h O h1 R U;exact U _ _ O
end Go.Rm
namespace Go.Rm
def Same(w w':World):Prop:=w'.tape=w.tape/\w'.os=w.os/\w'.output=w.output/\w.drawn<=w'.drawn
def Same.refl(w:World):Same w w:=⟨rfl,rfl,rfl,Xi4 _⟩
def Same.trans{a b c:World}(h:Same a b)(h':Same b c):Same a c:=⟨h'.1.trans h.1,h'.2.1.trans h.2.1,h'.2.2.1.trans h.2.2.1,Xjo h.2.2.2 h'.2.2.2⟩
def Rr(R:Ze)(w:World)(e:Ending)(w':World):Prop:=∃v,e = .returned v/\R v w'.heap/\Same w w'
def Zip(P:Program)(f:FuncId)(xs:Zc)(h:Zk)(R:Ze):Prop :=
 ∀w:World,w.heap=h->Calls P f xs.toArray w (Rr R w)
structure Ok (cx:Cx) (Y:Sys):Prop where
 hC:Y.C=Zip cx.P
 hf : ∀ f j, cx.fn f = some j → Y.fid j = f ∧ ∃ fn, cx.P.funcs[f]? = some fn ∧ (fn.name == "runtime.NumGoroutine") = false ∧ fn.body.isNone = false
 ht:∀ t j,cx.tn t=some j->Y.tid j=t
 hg:∀ g j,cx.gn g=some j->Y.gid j=g
 mixed:cx.P.follows .mixedOrders=true
 able : ∀ f, Y.able f → ∃ fn, cx.P.funcs[f]? = some fn ∧ (fn.name == "runtime.NumGoroutine") = false ∧ fn.body.isNone = false
def Zkm(w:World)(b o:Nat):w.cell? ⟨b,o,none⟩=hc w.heap b o:=by
 simp only[World.cell?,hc]
 split<;>simp_all
def Zve(w:World)(b o:Nat):w.frozen? ⟨b,o,none⟩=hfz w.heap b o:=rfl
def Zqg(w:World)(b o:Nat)(v:Zj):(w.setCell ⟨b,o,none⟩ v).heap=Vw w.heap b o v:=by
 simp only[World.setCell,Vw]
 congr 1
def Z36{h:Zk}{b:Nat}:∀{n o:Nat}{l:Zc},rd h b o n=some l->l.length=n/\∀j v,l[j]? = some v->hc h b (o+j)=some v:=by
 intro n
 induction n with
 |zero=>intro o l G;simp[rd] at G;subst G;simp
 |succ n J =>
  intro o l G;simp only[rd] at G;obtain⟨v,hv,G⟩:=Option.bind_eq_some_iff.1 G;obtain⟨l',I,G⟩:=Option.bind_eq_some_iff.1 G;simp only[Xjy] at G;subst G;obtain⟨h1,O⟩:=J I;refine⟨by simp[h1],?_⟩;intro j u H
  cases j with
  |zero=>simp at H;subst H;exact hv
  |succ j=>simp at H;have:=O j u H;rwa [show o+(j+1)=o+1+j by omega]
def Z9t{w:World}{b o n:Nat}{l:Zc}(G:rd w.heap b o n=some l):
  ∀j v,l[j]? = some v->w.cell? (Addr.add ⟨b,o,none⟩ j)=some v:=by
 intro j v H;rw[Addr.add_lit,Zkm];exact (Z36 G).2 j v H
def Zap{P:Program}{w:World}{b o n:Nat}{l:Zc}(G:rd w.heap b o n=some l):
  (loadCells ⟨b,o,none⟩ n).run P w = .ok l.toArray w:=by
 have:=run_loadCells_list (P:=P) w ⟨b,o,none⟩ l (Z9t G);rwa [(Z36 G).1] at this
def Zuk{P:Program}{w:World}{b o:Nat}{v:Zj}(G:hc w.heap b o=some v)(m:Mode):
  (load ⟨b,o,none⟩ m).run P w = .ok v w:=by
 rw[run_load,Zkm,G]
section ops
variable{cx:Cx}{Y:Sys}{w:World}
def Xx{t:TypeId}{n:Nat}(h:Uv cx t=some n)(w:World):(sizeOf t).run cx.P w = .ok n w:=by
 simp only[Uv,Xi5] at h;obtain⟨i,G,rfl⟩:=h;simp[sizeOf,typeInfo,G]
def Vp{t:TypeId}{z:Zj}(h:Qx cx t=some z)(w:World):(zeroValue t).run cx.P w = .ok z w:=by
 simp only[Qx,Xjg] at h;obtain⟨i,G,hz⟩:=h;simp[zeroValue,typeInfo,G,hz]
def Znt{t:TypeId}{d:TypeDesc}(h:cx.P.underlying t=some d)(w:World):(isAgg t).run cx.P w = .ok (Xu d) w:=by
 simp only[isAgg,Sem.run_bind,run_underlying h,Result.andThen_ok]
 cases d<;>rfl
def Zjr{t:TypeId}{d:TypeDesc}(hd:cx.P.underlying t=some d){n:Nat}(I:Xu d=true->Uv cx t=some n){b o:Nat}{v:Zj}
  (G:Ym.cK Y w.heap (.load n (Xu d)) [.pointer (some ⟨b,o,none⟩)]=some v):(loadVar t ⟨b,o,none⟩).run cx.P w = .ok v w:=by
 simp only[loadVar,Sem.run_bind,Znt hd,Result.andThen_ok,Sem.run_ite]
 cases H:Xu d with
 |true =>
  rw[H] at G;simp only[Ym.cK,Xjg] at G;obtain⟨l,J,hv⟩:=G;simp only[Xjy] at hv;simp[Xx (I H),Zap J,hv]
 |false =>
  rw[H] at G;simp only[Ym.cK] at G;simp[Zuk G]
def Zbf{t:TypeId}{d:TypeDesc}(hd:cx.P.underlying t=some d){n:Nat}(J:Xu d=true->Uv cx t=some n){cs:Array cR}{H:Nat}{v:Zj}
  (G:Zam n (Xu d) cs H=some v):(part t cs H).run cx.P w = .ok v w:=by
 simp only[part,Sem.run_bind,Znt hd,Result.andThen_ok,Sem.run_ite]
 cases I:Xu d with
 |true =>
  rw[I] at G;simp only[Zam,if_true,Xjy] at G;simp[Xx (J I),G]
 |false =>
  rw[I] at G;simp only[Zam,Xjh,if_false] at G;simp[G]
def Ztv:∀{l:Zc}{s:List UInt8}(a:ByteArray),Zcc l=some s ->
  ∃G:Zb,l=G.map (Value.int .u8)/\G.foldl (fun r n=>r.push (UInt8.ofNat n.toNat)) a=⟨a.data++s.toArray⟩:=by
 intro l
 induction l with
 |nil=>intro s a h;simp[Zcc] at h;subst h;exact⟨[],rfl,by simp⟩
 |cons x l I =>
  intro s a h;unfold Zcc at h
  split at h
  ·rename_i h';cases h'
  ·rename_i n r h'
   cases h'
   obtain⟨O,hs',H⟩:=Option.bind_eq_some_iff.1 h;simp only[Xjy] at H;subst H;obtain⟨G,h1,J⟩:=I (a.push (UInt8.ofNat n.toNat)) hs';refine⟨n::G,by simp[h1],?_⟩;simp only[Xk1,J]
   congr 1
   apply Xjb;simp
  cases h
def Z3q{op:BinOp}{k H:IntKind}{a b:Int}{v:Zj}(t:TypeId)(G:Z5 op k a H b=some v):
  (binOp op t (.int k a) (.int H b)).run cx.P w = .ok v w:=by
 unfold Z5 at G
 split at G
 ·split at G
  ·cases G
  ·rename_i hb;cases G;simp[binOp,Op.shift,hb]
 ·split at G
  ·cases G
  ·rename_i hb;cases G;simp[binOp,Op.shift,hb]
 rename_i h1 J
 split at G
 ·cases G
 ·rename_i I;have I:k=H:=Classical.not_not.1 I;subst I
  cases op<;>simp_all[binOp,Op.intArith,Op.intDiv,Op.intBits,Op.intCmp]<;>(try (subst G;rfl))
def Z5m{op:BinOp}{a b:ByteArray}{v:Zj}(t:TypeId)(G:Zyb op a b=some v):
  (binOp op t (.string a) (.string b)).run cx.P w = .ok v w:=by
 unfold Zyb at G
 split at G
 ·split at G
  ·rename_i h
   cases G
   have h':¬((9223372036854775807:Int)<(a.size:Int)+(b.size:Int)):=by omega
   simp[binOp,Op.stringOp,IntKind.max,IntKind.bits,IntKind.signed,h']
  cases G
 all_goals first|(cases G;simp[binOp,Op.stringOp];done)|(cases G)
end ops
end Go.Rm
namespace Go.Rm
variable{Y:Sys}{h:Zk}
def Z3h{op:UnOp}{p v:Zj}(G:Ym.cK Y h (.un op) [p]=some v):(op = .neg/\∃k n,p = .int k n/\v = .int k (k.wrap (0-n)))\/(op = .not/\∃b,p = .bool b/\v = .bool !b):=by
 cases op<;>cases p<;>cases G
 ·exact .inl ⟨rfl,_,_,rfl,rfl⟩
 exact .inr ⟨rfl,_,rfl,rfl⟩
def Zvr{k:IntKind}{p v:Zj}(G:Ym.cK Y h (.conv k) [p]=some v):∃j n,p = .int j n/\v = .int k (k.wrap n):=by
 cases p<;>cases G
 exact⟨_,_,rfl,rfl⟩
def Z56{b o n c:Nat}{v:Zj}(G:Ym.cK Y h .b2s [.slice (some ⟨b,o,none⟩) n c]=some v):∃l s,rd h b o n=some l/\Zcc l=some s/\v = .string ⟨s.toArray⟩:=by
 obtain⟨l,H,G⟩:=Option.bind_eq_some_iff.1 G;obtain⟨s,hb,G⟩:=Option.bind_eq_some_iff.1 G;exact⟨l,s,H,hb,(Xkb G).symm⟩
def Z2v{p v:Zj}(G:Ym.cK Y h .b2s [p]=some v):(∃n c,p = .slice none n c/\v = .string .empty) \/
  (∃b o n c l s,p = .slice (some ⟨b,o,none⟩) n c/\rd h b o n=some l/\Zcc l=some s/\v = .string ⟨s.toArray⟩):=by
 cases p with
 |slice a n c =>
  cases a with
  |none=>cases G;exact .inl ⟨_,_,rfl,rfl⟩
  |some a =>
   obtain⟨b,o,s⟩:=a
   cases s with
   |none=>obtain⟨l,s,h1,H,I⟩:=Z56 G;exact .inr ⟨b,o,n,c,l,s,rfl,h1,H,I⟩
   |some s=>cases G
 |_=>cases G
def Zxi{G:Nat}{p v:Zj}(H:Ym.cK Y h (.fadr G) [p]=some v):∃b o,p = .pointer (some ⟨b,o,none⟩)/\v = .pointer (some ⟨b,o+G,none⟩):=by
 cases p with
 |pointer a =>
  cases a with
  |none=>cases H
  |some a =>
   obtain⟨b,o,s⟩:=a
   cases s<;>cases H
   exact⟨b,o,rfl,rfl⟩
 |_=>cases H
def Z2q{G sz:Nat}{agg:Bool}{p v:Zj}(H:Ym.cK Y h (.fld G sz agg) [p]=some v):∃cs,p = .agg cs/\Zam sz agg cs G=some v:=by
 cases p with
 |agg cs=>exact⟨cs,rfl,H⟩
 |_=>cases H
def Zzi{c:Prop}[Decidable c]{x v:Zj}(G:(if c then some x else none)=some v):c/\v=x:=by
 split at G
 ·rename_i hc;exact⟨hc,(Xkb G).symm⟩
 cases G
def Zx0{sz:Nat}{p q v:Zj}(G:Ym.cK Y h (.idxa sz) [p,q]=some v):
  ∃b o n c k i,p = .slice (some ⟨b,o,none⟩) n c/\q = .int k i/\(0<=i/\i<n)/\v = .pointer (some ⟨b,o+i.toNat * sz,none⟩):=by
 cases p with
 |slice a n c =>
  cases a with
  |none=>cases q<;>cases G
  |some a =>
   obtain⟨b,o,s⟩:=a
   cases s with
   |some s=>cases q<;>cases G
   |none =>
    cases q with
    |int k i=>obtain⟨h1,H⟩:=Zzi G;exact⟨b,o,n,c,k,i,rfl,rfl,h1,H⟩
    |_=>cases G
 |_=>cases G
def Zvw{len sz:Nat}{p q v:Zj}(G:Ym.cK Y h (.idxA len sz) [p,q]=some v):
  ∃b o k i,p = .pointer (some ⟨b,o,none⟩)/\q = .int k i/\(0<=i/\i<len)/\v = .pointer (some ⟨b,o+i.toNat * sz,none⟩):=by
 cases p with
 |pointer a =>
  cases a with
  |none=>cases q<;>cases G
  |some a =>
   obtain⟨b,o,s⟩:=a
   cases s with
   |some s=>cases q<;>cases G
   |none =>
    cases q with
    |int k i=>obtain⟨h1,H⟩:=Zzi G;exact⟨b,o,k,i,rfl,rfl,h1,H⟩
    |_=>cases G
 |_=>cases G
def Zxq{p q v:Zj}(G:Ym.cK Y h .idxS [p,q]=some v):∃s k i b,p = .string s/\q = .int k i/\0<=i/\s[i.toNat]? = some b/\v = .int .u8 b.toNat:=by
 cases p with
 |string s =>
  cases q with
  |int k i =>
   have G:(if 0<=i then (s[i.toNat]?).bind fun b=>some (Value.int .u8 b.toNat) else none)=some v:=G
   split at G
   ·rename_i h0;obtain⟨b,hb,G⟩:=Option.bind_eq_some_iff.1 G;exact⟨s,k,i,b,rfl,rfl,h0,hb,(Xkb G).symm⟩
   cases G
  |_=>cases G
 |_=>cases G
def Zv7{len sz:Nat}{agg:Bool}{p q v:Zj}(G:Ym.cK Y h (.idxV len sz agg) [p,q]=some v):
  ∃cs k i,p = .agg cs/\q = .int k i/\(0<=i/\i<len)/\Zam sz agg cs (i.toNat * sz)=some v:=by
 cases p with
 |agg cs =>
  cases q with
  |int k i =>
   have G:(if 0<=i/\i<len then Zam sz agg cs (i.toNat * sz) else none)=some v:=G
   split at G
   ·rename_i h0;exact⟨cs,k,i,rfl,rfl,h0,G⟩
   cases G
  |_=>cases G
 |_=>cases G
def Z3t{t:Nat}{ok:Bool}{z p v:Zj}(H:Ym.cK Y h (.ta t ok z) [p]=some v):
  (∃G u,p = .iface G u/\(if G=Y.tid t then some (if ok then .tuple #[u,.bool true] else u) else if ok then some (.tuple #[z,.bool false]) else none)=some v) \/
  (p = .nilIface/\ok=true/\v = .tuple #[z,.bool false]):=by
 cases p with
 |iface G u=>exact .inl ⟨G,u,rfl,H⟩
 |nilIface=>cases ok<;>cases H;exact .inr ⟨rfl,rfl,rfl⟩
 |_=>cases ok<;>cases H
def Z0y{sz:Nat}{lo H:Bool}{p v:Zj}{r:Zc}(G:Ym.cK Y h (.slc sz lo H) (p::r)=some v):
  ∃a n c x,p = .slice a n c/\W8 n c lo H r=some x/\((a=none/\v = .slice none (x.2-x.1) (c-x.1)) \/
   (∃b o,a=some ⟨b,o,none⟩/\v = .slice (some ⟨b,if c=x.1 then o else o+x.1 * sz,none⟩) (x.2-x.1) (c-x.1)) \/
   (∃b o s,a=some ⟨b,o,some s⟩/\c=x.1/\v = .slice (some ⟨b,o,some s⟩) (x.2-x.1) (c-x.1))):=by
 cases p with
 |slice a n c =>
  obtain⟨x,hx,G⟩:=Option.bind_eq_some_iff.1 G;refine⟨a,n,c,x,rfl,hx,?_⟩
  cases a with
  |none=>exact .inl ⟨rfl,(Xkb G).symm⟩
  |some a =>
   obtain⟨b,o,s⟩:=a
   cases s with
   |none=>exact .inr (.inl ⟨b,o,rfl,(Xkb G).symm⟩)
   |some s =>
    simp only at G
    split at G
    ·rename_i hc;exact .inr (.inr ⟨b,o,s,rfl,hc,(Xkb G).symm⟩)
    cases G
 |_=>cases G
def Zw7{lo H:Bool}{p v:Zj}{r:Zc}(G:Ym.cK Y h (.slcS lo H) (p::r)=some v):
  ∃s x,p = .string s/\W8 s.size s.size lo H r=some x/\v = .string (s.extract x.1 x.2):=by
 cases p with
 |string s =>
  obtain⟨x,hx,G⟩:=Option.bind_eq_some_iff.1 G;exact⟨s,x,rfl,hx,(Xkb G).symm⟩
 |_=>cases G
def Zv3{n sz:Nat}{lo H:Bool}{p v:Zj}{r:Zc}(G:Ym.cK Y h (.slcA n sz lo H) (p::r)=some v):
  ∃b o x,p = .pointer (some ⟨b,o,none⟩)/\W8 n n lo H r=some x/\v = .slice (some ⟨b,if n=x.1 then o else o+x.1 * sz,none⟩) (x.2-x.1) (n-x.1):=by
 cases p with
 |pointer a =>
  cases a with
  |none=>cases G
  |some a =>
   obtain⟨b,o,s⟩:=a
   cases s with
   |none =>
    obtain⟨x,hx,G⟩:=Option.bind_eq_some_iff.1 G;exact⟨b,o,x,rfl,hx,(Xkb G).symm⟩
   |some s=>cases G
 |_=>cases G
def Z0q{i:Nat}{p v:Zj}(G:Ym.cK Y h (.cC i) [p]=some v):∃vs,p = .tuple vs/\vs[i]? = some v:=by
 cases p with
 |tuple vs=>exact⟨vs,rfl,G⟩
 |_=>cases G
def Z2b{p v:Zj}(G:Ym.cK Y h .len [p]=some v):∃a n c,p = .slice a n c/\v = .int .i64 n:=by
 cases p<;>cases G
 exact⟨_,_,_,rfl,rfl⟩
def Zxk{p v:Zj}(G:Ym.cK Y h .lenS [p]=some v):∃s,p = .string s/\v = .int .i64 s.size:=by
 cases p<;>cases G
 exact⟨_,rfl,rfl⟩
def Z17{p v:Zj}(G:Ym.cK Y h .cap [p]=some v):∃a n c,p = .slice a n c/\v = .int .i64 c:=by
 cases p<;>cases G
 exact⟨_,_,_,rfl,rfl⟩
def Z3r{p q v:Zj}(G:Ym.cK Y h .mn [p,q]=some v):∃k x j y,p = .int k x/\q = .int j y/\v = .int k (if y<x then y else x):=by
 cases p with
 |int k x =>
  cases q with
  |int j y=>exact⟨k,x,j,y,rfl,rfl,(Xkb G).symm⟩
  |_=>cases G
 |_=>cases G
def Z4e{p q v:Zj}(G:Ym.cK Y h .mx [p,q]=some v):∃k x j y,p = .int k x/\q = .int j y/\v = .int k (if x<y then y else x):=by
 cases p with
 |int k x =>
  cases q with
  |int j y=>exact⟨k,x,j,y,rfl,rfl,(Xkb G).symm⟩
  |_=>cases G
 |_=>cases G
def Zms{c:Prop}[Decidable c]{x v:Nat × Nat}(G:(if c then some x else none)=some v):c/\v=x:=by
 split at G
 ·rename_i hc;exact⟨hc,(Xkb G).symm⟩
 cases G
def Zxs{n c:Nat}{lo H:Bool}{r:Zc}{x:Nat × Nat}(G:W8 n c lo H r=some x):
  (lo=false/\H=false/\r=[]/\x=(0,n))\/(lo=true/\H=false/\∃k l,r=[.int k l]/\(0<=l/\l<=n)/\x=(l.toNat,n)) \/
  (lo=false/\H=true/\∃k h,r=[.int k h]/\(0<=h/\h<=c)/\x=(0,h.toNat)) \/
  (lo=true/\H=true/\∃k l j h,r=[.int k l,.int j h]/\(0<=l/\l<=h/\h<=c)/\x=(l.toNat,h.toNat)):=by
 cases lo<;>cases H
 ·match r,G with
  | [],G=>exact .inl ⟨rfl,rfl,rfl,(Xkb G).symm⟩
  |_::_,G=>cases G
 ·match r,G with
  | [],G=>cases G
  |p::q::r,G=>cases p<;>cases G
  | [p],G =>
   cases p with
   |int k l=>obtain⟨h1,I⟩:=Zms G;exact .inr (.inr (.inl ⟨rfl,rfl,k,l,rfl,h1,I⟩))
   |_=>cases G
 ·match r,G with
  | [],G=>cases G
  |p::q::r,G=>cases p<;>cases G
  | [p],G =>
   cases p with
   |int k l=>obtain⟨h1,I⟩:=Zms G;exact .inr (.inl ⟨rfl,rfl,k,l,rfl,h1,I⟩)
   |_=>cases G
 match r,G with
 | [],G=>cases G
 | [p],G=>cases p<;>cases G
 |p::q::s::r,G=>cases p<;>cases q<;>cases G
 | [p,q],G =>
  cases p with
  |int k l =>
   cases q with
   |int j h=>obtain⟨h1,I⟩:=Zms G;exact .inr (.inr (.inr ⟨rfl,rfl,k,l,j,h,rfl,h1,I⟩))
   |_=>cases G
  |_=>cases G
end Go.Rm
namespace Go.Rm
section ops
variable{cx:Cx}{Y:Sys}{w:World}
def Wv{s:Sem cR}{v:Zj}{w':World}{P:Program}(h:s.run P w = .ok v w'):
  (s >>= fun x=>(pure (Next.value x):Sem Next)).run P w = .ok (.value v) w':=by
 simp[h]
def Z1n{neg b:Bool}{v:Zj}(h:Zax neg b=some v):v = .bool (if neg then !b else b):=by
 simp only[Zax,Xjy] at h;exact h.symm
def Wh{op:BinOp}{t:TypeId}{x y:Operand}{a b:Zj}(h:¬(a = .nilIface/\b = .nilIface):=by simp)(h':∀c d,¬(a = .agg c/\b = .agg d):=by simp):
  (eqGuard op t x y a b).run cx.P w = .ok () w:=by
 unfold eqGuard
 split
 ·rw[if_neg (by simp)]
  split
  ·exact absurd ⟨rfl,rfl⟩ h
  ·exact absurd ⟨rfl,rfl⟩ (h' _ _)
  rfl
 ·rw[if_neg (by simp)]
  split
  ·exact absurd ⟨rfl,rfl⟩ h
  ·exact absurd ⟨rfl,rfl⟩ (h' _ _)
  rfl
 rw[if_pos (by simp)];rfl
def Zpe{x:Operand}(h:Operand.isC x=true):∃v,x = .const v:=by
 cases x with
 |const v=>exact⟨v,rfl⟩
 |tmp t=>exact (Xmx h).elim
 |global t=>exact (Xmx h).elim
 |func t=>exact (Xmx h).elim
def Zum{op:BinOp}{t:TypeId}{x y:Operand}(h:(Operand.isC x ||Operand.isC y)=true):
  (eqGuard op t x y .nilIface .nilIface).run cx.P w = .ok () w:=by
 unfold eqGuard;generalize Op.eqGuardIn Op.maxDepth t Value.nilIface Value.nilIface=z;rw[Bool.or_eq_true] at h;rcases h with h|h
 ·obtain⟨v,rfl⟩:=Zpe h
  split<;>simp
 obtain⟨v,rfl⟩:=Zpe h
 split<;>simp
def Zxp:∀(l:List Field)(G:List (Nat × Nat)),(l.mapM fun f=>(Uv cx f.type).map fun n=>(f.offset,n))=some G ->
  (l.mapM (m:=Sem) fun f=>do pure (f.offset,<-sizeOf f.type)).run cx.P w = .ok G w:=by
 intro l
 induction l with
 |nil=>intro G h;simp at h;subst h;rfl
 |cons f l H =>
  intro G h;simp only[Xk2,Xln,Xjg,Xi5] at h;obtain⟨_,⟨n,I,rfl⟩,r,J,O⟩:=h
  cases O
  simp only[Xk2,Sem.run_bind,Xx I,Result.andThen_ok,Sem.run_pure,H r J]
def Ziw(G:Array Field)(I:List (Nat × Nat))(H:(G.toList.mapM fun f=>(Uv cx f.type).map fun n=>(f.offset,n))=some I):
  (G.mapM (m:=Sem) fun f=>do pure (f.offset,<-sizeOf f.type)).run cx.P w = .ok I.toArray w:=by
 rw[<-Xmy (xs:=G),List.mapM_toArray];simp only[Sem.run_map];rw[Zxp _ _ H]
 rfl
def Zjd(ρ:Operand->cR)(ps:Array (Nat × Operand)):
  (Array.map (fun x:Nat × Operand=>(x.1,ρ x.2)) ps).toList=(ps.toList.map (·.1)).zip ((ps.toList.map (·.2)).map ρ):=by
 rw[Xly];generalize ps.toList=l
 induction l with
 |nil=>rfl
 |cons x l G=>simp[G]
def Z50{h:Zk}{op:BinOp}{p q v:Zj}(G:Ym.cK Y h (.ib op) [p,q]=some v):∃k a H b,p = .int k a/\q = .int H b/\Z5 op k a H b=some v:=by
 unfold Ym.cK at G;split at G<;>simp_all;exact⟨_,_,⟨rfl,rfl⟩,_,_,⟨rfl,rfl⟩,G⟩
def Z32{h:Zk}{op:BinOp}{p q v:Zj}(G:Ym.cK Y h (.sb op) [p,q]=some v):∃a b,p = .string a/\q = .string b/\Zyb op a b=some v:=by
 unfold Ym.cK at G;split at G<;>simp_all
def Z2o{h:Zk}{neg:Bool}{p q v:Zj}(G:Ym.cK Y h (.eqb neg) [p,q]=some v):∃a b,p = .bool a/\q = .bool b/\Zax neg (a == b)=some v:=by
 unfold Ym.cK at G;split at G<;>simp_all
def Z01{h:Zk}{neg:Bool}{p q v:Zj}(G:Ym.cK Y h (.eqp neg) [p,q]=some v):
  (∃b,p = .pointer none/\q = .pointer b/\Zax neg b.isNone=some v)\/(∃a,p = .pointer (some a)/\q = .pointer none/\Zax neg false=some v):=by
 unfold Ym.cK at G;split at G<;>simp_all
def Z2k{h:Zk}{neg G:Bool}{p q v:Zj}(H:Ym.cK Y h (.eqi neg G) [p,q]=some v):
  (p = .nilIface/\q = .nilIface/\G=true/\Zax neg true=some v)\/(∃t u,p = .nilIface/\q = .iface t u/\Zax neg false=some v) \/
  (∃t u,p = .iface t u/\q = .nilIface/\Zax neg false=some v):=by
 unfold Ym.cK at H;split at H<;>simp_all
def Z2l{h:Zk}{neg:Bool}{p q v:Zj}(G:Ym.cK Y h (.eqs neg) [p,q]=some v):
  (∃l c b m d,p = .slice none l c/\q = .slice b m d/\Zax neg b.isNone=some v)\/(∃a l c m d,p = .slice (some a) l c/\q = .slice none m d/\Zax neg false=some v):=by
 unfold Ym.cK at G;split at G<;>simp_all
def Z2f{h:Zk}{neg:Bool}{p q v:Zj}(G:Ym.cK Y h (.eqf neg) [p,q]=some v):
  (p = .nilFunc/\q = .nilFunc/\Zax neg true=some v)\/(∃f a b,p = .func f a b/\q = .nilFunc/\Zax neg false=some v):=by
 unfold Ym.cK at G;split at G<;>simp_all
def Z2j{h:Zk}{neg:Bool}{n:Nat}{p q v:Zj}(G:Ym.cK Y h (.eqa neg n) [p,q]=some v):
  ∃xs H b,p = .agg xs/\q = .agg H/\xs.size=n/\H.size=n/\Z9 xs.toList H.toList=some b/\Zax neg b=some v:=by
 have I:∀{a b:Zj},Ym.cK Y h (.eqa neg n) [a,b]=none->Ym.cK Y h (.eqa neg n) [a,b]=some v->False:=fun h1 J=>by rw[h1] at J;cases J
 cases p with
 |agg xs =>
  cases q with
  |agg H =>
   have G:(if xs.size=n/\H.size=n then (Z9 xs.toList H.toList).bind (Zax neg) else none)=some v:=G
   split at G
   ·rename_i c
    cases hb:Z9 xs.toList H.toList with
    |none=>rw[hb] at G;cases G
    |some b=>rw[hb] at G;exact⟨xs,H,b,rfl,rfl,c.1,c.2,hb,G⟩
   cases G
  |_=>exact (I rfl G).elim
 |_=>exact (I rfl G).elim
section equal
variable{t:TypeId}
def Z25(d:Nat)(hu:cx.P.underlying t=some .bool)(a b:Bool):(Op.equalIn (d+1) t (.bool a) (.bool b)).run cx.P w = .ok (a == b) w:=by
 simp[Op.equalIn,run_underlying hu]
def Z3y(d:Nat){e:TypeId}(hu:cx.P.underlying t=some (.pointer e))(b:Option Addr):(Op.equalIn (d+1) t (.pointer none) (.pointer b)).run cx.P w = .ok b.isNone w:=by
 simp[Op.equalIn,run_underlying hu]
def Z0i(d:Nat){e:TypeId}(hu:cx.P.underlying t=some (.pointer e))(a:Addr):(Op.equalIn (d+1) t (.pointer (some a)) (.pointer none)).run cx.P w = .ok false w:=by
 simp[Op.equalIn,run_underlying hu]
def Xbd(d:Nat){G:Array (String × TypeId)}(hu:cx.P.underlying t=some (.interface G)):(Op.equalIn (d+1) t .nilIface .nilIface).run cx.P w = .ok true w:=by
 simp[Op.equalIn,run_underlying hu]
def Z8u(d:Nat){G:Array (String × TypeId)}(hu:cx.P.underlying t=some (.interface G))(u:TypeId)(v:Zj):(Op.equalIn (d+1) t .nilIface (.iface u v)).run cx.P w = .ok false w:=by
 simp[Op.equalIn,run_underlying hu]
def Xam(d:Nat){G:Array (String × TypeId)}(hu:cx.P.underlying t=some (.interface G))(u:TypeId)(v:Zj):(Op.equalIn (d+1) t (.iface u v) .nilIface).run cx.P w = .ok false w:=by
 simp[Op.equalIn,run_underlying hu]
def Xdu(d:Nat){e:TypeId}(hu:cx.P.underlying t=some (.slice e))(l c m k:Nat)(b:Option Addr):(Op.equalIn (d+1) t (.slice none l c) (.slice b m k)).run cx.P w = .ok b.isNone w:=by
 simp[Op.equalIn,run_underlying hu]
def Xba(d:Nat){e:TypeId}(hu:cx.P.underlying t=some (.slice e))(l c m k:Nat)(a:Addr):(Op.equalIn (d+1) t (.slice (some a) l c) (.slice none m k)).run cx.P w = .ok false w:=by
 simp[Op.equalIn,run_underlying hu]
def Xd9(d:Nat){ps rs:Array TypeId}{G:Bool}(hu:cx.P.underlying t=some (.func ps rs G)):(Op.equalIn (d+1) t .nilFunc .nilFunc).run cx.P w = .ok true w:=by
 simp[Op.equalIn,run_underlying hu]
def Z9e(d:Nat){ps rs:Array TypeId}{G:Bool}(hu:cx.P.underlying t=some (.func ps rs G))(f:Fn)(a b:Array cR):(Op.equalIn (d+1) t (.func f a b) .nilFunc).run cx.P w = .ok false w:=by
 simp[Op.equalIn,run_underlying hu]
end equal
def Zae{t:TypeId}{x y:Zj}{b:Bool}{op:BinOp}{neg:Bool}(G:op=(if neg then .neq else .eql))(J:(Op.equal t x y).run cx.P w = .ok b w){v:Zj}(hv:Zax neg b=some v)
  (H:binOp .eql t x y=(do pure (.bool (<-Op.equal t x y)))) (I:binOp .neq t x y=(do pure (.bool (!(<-Op.equal t x y))))):(binOp op t x y).run cx.P w = .ok v w:=by
 subst G;have hv:=Z1n hv;subst hv
 cases neg
 ·simp only[Xjh,if_false,H,Sem.run_bind,J,Result.andThen_ok,Sem.run_pure]
 simp only[if_true,I,Sem.run_bind,J,Result.andThen_ok,Sem.run_pure]
def Ws{op:BinOp}{t:TypeId}{x y:Operand}{p q v:Zj}(G:(eqGuard op t x y p q).run cx.P w = .ok () w)(hb:(binOp op t p q).run cx.P w = .ok v w):
  ((do eqGuard op t x y p q;binOp op t p q) >>= fun x=>(pure (Next.value x):Sem Next)).run cx.P w = .ok (.value v) w:=by
 refine Wv ?_;simp only[Sem.run_bind,G,Result.andThen_ok,hb]
def Zzn{op:BinOp}{t:TypeId}{x y:Operand}{p q v:Zj}(G:Ym.cK Y w.heap (.ib op) [p,q]=some v):
  ((do eqGuard op t x y p q;binOp op t p q) >>= fun x=>(pure (Next.value x):Sem Next)).run cx.P w = .ok (.value v) w:=by
 obtain⟨k,a,I,b,rfl,rfl,H⟩:=Z50 G;exact Ws (Wh) (Z3q _ H)
def Zzq{op:BinOp}{t:TypeId}{x y:Operand}{p q v:Zj}(G:Ym.cK Y w.heap (.sb op) [p,q]=some v):
  ((do eqGuard op t x y p q;binOp op t p q) >>= fun x=>(pure (Next.value x):Sem Next)).run cx.P w = .ok (.value v) w:=by
 obtain⟨a,b,rfl,rfl,H⟩:=Z32 G;exact Ws (Wh) (Z5m _ H)
def Zii(d:Nat){xs I:Array cR}:∀(J:List Field)(k:Nat)(b:Bool),Zb1 cx J k=true->xs.size=k+J.length->I.size=k+J.length ->
  Z9 (xs.toList.drop k) (I.toList.drop k)=some b->(Op.eqFields (d+1) xs I J).run cx.P w = .ok b w:=by
 intro J
 induction J with
 |nil =>
  intro k b _ hx hy hb;rw[Xj2 (by simp;simp at hx;omega),Xj2 (by simp;simp at hy;omega)] at hb
  cases hb
  rfl
 |cons f r ih =>
  intro k b hf hx hy hb;simp only[Zb1,Xjf,bne_iff_ne,beq_iff_eq] at hf;obtain⟨⟨⟨hn,X⟩,hu⟩,hr⟩:=hf;simp only[Xjn] at hx hy;have kx:k<xs.toList.length:=by simp;omega
  have ky:k<I.toList.length:=by simp;omega
  rw[Xjz kx,Xjz ky] at hb
  cases G:cx.P.underlying f.type with
  |none=>rw[G] at hu;cases hu
  |some u =>
  cases u with
  |int kk =>
   generalize O:xs.toList[k]=x at hb;generalize R:I.toList[k]=y at hb;have px:(part f.type xs f.offset).run cx.P w = .ok x w:=Zbf G (n:=0) (by simp[Xu]) (by
    rw[X];simp only[Zam,Xu,Xjh,if_false];rw[<-O];simp[Xj7 (show k<xs.size by omega)])
   have py:(part f.type I f.offset).run cx.P w = .ok y w:=Zbf G (n:=0) (by simp[Xu]) (by
    rw[X];simp only[Zam,Xu,Xjh,if_false];rw[<-R];simp[Xj7 (show k<I.size by omega)])
   unfold Z9 at hb
   split at hb
   ·rename_i U _;cases U
   ·rename_i k1 a r1 j1 b1 s1 e1 e2
    cases e1
    cases e2
    split at hb
    ·rename_i hk;subst hk
     cases hq:Z9 (List.drop (k+1) xs.toList) (List.drop (k+1) I.toList) with
     |none=>rw[hq] at hb;cases hb
     |some c =>
      rw[hq] at hb;simp only[Xlz,Xjy] at hb;have:=ih (k+1) c hr (by omega) (by omega) hq;simp only[Op.eqFields,if_pos hn,Sem.run_bind,px,py,Result.andThen_ok,run_equalIn_int w d f.type _ _ _ _ G,Sem.run_ite];by_cases H:(a == b1)=true
      ·simp only[H,Bool.not_true,Xjh,if_false,this];rw[<-hb,H];rfl
      simp only[Xl0] at H;simp only[H,Bool.not_false,if_true,Sem.run_pure];rw[<-hb,H];rfl
    cases hb
   cases hb
  |_=>rw[G] at hu;cases hu
def Zzw{io:Ym}{neg:Bool}{op:BinOp}{t:TypeId}{x y:Operand}{p q v:Zj}(G:op=(if neg then .neq else .eql))(I:Zc5 cx neg op t x y=some (.io io))
  (J:io.cK Y w.heap [p,q]=some v) :
  ((do eqGuard op t x y p q;binOp op t p q) >>= fun x=>(pure (Next.value x):Sem Next)).run cx.P w = .ok (.value v) w:=by
 unfold Zc5 at I
 split at I
 ·cases I;exact Zzn J
 ·cases I;exact Zzq J
 ·rename_i hu
  cases I
  obtain⟨a,b,rfl,rfl,H⟩:=Z2o J;exact Ws (Wh) (Zae G (Z25 9999 hu a b) H rfl rfl)
 ·rename_i e hu
  cases I
  rcases Z01 J with⟨b,rfl,rfl,H⟩|⟨a,rfl,rfl,H⟩
  ·exact Ws (Wh) (Zae G (Z3y 9999 hu b) H rfl rfl)
  exact Ws (Wh) (Zae G (Z0i 9999 hu a) H rfl rfl)
 ·rename_i ms hu
  cases I
  rcases Z2k J with⟨rfl,rfl,U,H⟩|⟨X,u,rfl,rfl,H⟩|⟨X,u,rfl,rfl,H⟩
  ·exact Ws (Zum U) (Zae G (Xbd 9999 hu) H rfl rfl)
  ·exact Ws (Wh) (Zae G (Z8u 9999 hu _ _) H rfl rfl)
  exact Ws (Wh) (Zae G (Xam 9999 hu _ _) H rfl rfl)
 ·rename_i e hu
  cases I
  rcases Z2l J with⟨l,c,b,m,d,rfl,rfl,H⟩|⟨a,l,c,m,d,rfl,rfl,H⟩
  ·exact Ws (Wh) (Zae G (Xdu 9999 hu _ _ _ _ _) H rfl rfl)
  exact Ws (Wh) (Zae G (Xba 9999 hu _ _ _ _ _) H rfl rfl)
 ·rename_i ps rs va hu
  cases I
  rcases Z2f J with⟨rfl,rfl,H⟩|⟨f,a,b,rfl,rfl,H⟩
  ·exact Ws (Wh) (Zae G (Xd9 9999 hu) H rfl rfl)
  exact Ws (Wh) (Zae G (Z9e 9999 hu _ _ _) H rfl rfl)
 ·rename_i R hu
  split at I
  ·rename_i hc;obtain⟨c1,c2,c3⟩:=hc
   cases I
   obtain⟨xs,O,b,rfl,rfl,h1,h2,H,h4⟩:=Z2j J;have hf:cx.P.fieldsOf t=R:=by simp[Program.fieldsOf,hu]
   have he:(Op.equal t (.agg xs) (.agg O)).run cx.P w = .ok b w:=by
    show (Op.equalIn (9999+1) t (.agg xs) (.agg O)).run cx.P w=_;rw[run_equalIn_struct w 9999 t xs O (by rw[hf];exact hu) c2,hf];exact Zii 9998 R.toList 0 b c1 (by simpa using h1) (by simpa using h2) (by simpa using H)
   refine Ws (run_eqGuard_agg w op t x y xs O c3) (Zae G he h4 ?_ ?_)
   ·rfl
   rfl
  cases I
 cases I
def Xat{io:Ym}{op:BinOp}{t:TypeId}{x y:Operand}{p q v:Zj}(G:Zfy cx op t x y=some (.io io))(H:io.cK Y w.heap [p,q]=some v):
  ((do eqGuard op t x y p q;binOp op t p q) >>= fun x=>(pure (Next.value x):Sem Next)).run cx.P w = .ok (.value v) w:=by
 unfold Zfy at G
 split at G
 ·exact Zzw (neg:=false) rfl G H
 ·exact Zzw (neg:=true) rfl G H
 split at G
 ·cases G;exact Zzn H
 ·cases G;exact Zzq H
 ·cases G
def Zbh{G:Option Nat}{x y:Zj}{b:Bool}(h:Zce G x y=some b):
  (∃k p q,G=none/\x = .int k p/\y = .int k q/\b=(p == q))\/(∃n xs H,G=some n/\x = .agg xs/\y = .agg H/\xs.size=n/\H.size=n/\Z9 xs.toList H.toList=some b):=by
 unfold Zce at h
 split at h
 ·split at h
  ·rename_i c;obtain⟨c1,I⟩:=c;subst I;simp at h;exact .inl ⟨_,_,_,c1,rfl,rfl,h.symm⟩
  cases h
 ·split at h
  ·split at h
   ·rename_i c;exact .inr ⟨_,_,_,rfl,rfl,rfl,c.1,c.2,h⟩
   cases h
  cases h
 cases h
def Zt2{e:TypeId}{q:IntKind}(I:cx.P.underlying e=some (.int q))(hc:cx.P.cellsOf e=1)(d:Nat){xs G:Array cR}:∀(n k:Nat)(b:Bool),xs.size=k+n->G.size=k+n ->
  Z9 (xs.toList.drop k) (G.toList.drop k)=some b->(Op.eqItems (d+1) e (cx.P.cellsOf e) xs G (List.range' k n)).run cx.P w = .ok b w:=by
 intro n
 induction n with
 |zero =>
  intro k b hx hy hb;rw[Xj2 (by simp;omega),Xj2 (by simp;omega)] at hb
  cases hb
  rfl
 |succ n U =>
  intro k b hx hy hb;have X:k<xs.toList.length:=by simp;omega
  have ky:k<G.toList.length:=by simp;omega
  rw[Xjz X,Xjz ky] at hb;generalize J:xs.toList[k]=x at hb;generalize O:G.toList[k]=y at hb;have px:(part e xs (k * cx.P.cellsOf e)).run cx.P w = .ok x w:=Zbf I (n:=0) (by simp[Xu]) (by
   rw[hc,Xjd];simp only[Zam,Xu,Xjh,if_false];rw[<-J];simp[Xj7 (show k<xs.size by omega)])
  have py:(part e G (k * cx.P.cellsOf e)).run cx.P w = .ok y w:=Zbf I (n:=0) (by simp[Xu]) (by
   rw[hc,Xjd];simp only[Zam,Xu,Xjh,if_false];rw[<-O];simp[Xj7 (show k<G.size by omega)])
  unfold Z9 at hb
  split at hb
  ·rename_i R _;cases R
  ·rename_i k1 a r1 j1 b1 s1 e1 e2
   cases e1
   cases e2
   split at hb
   ·rename_i hk;subst hk;simp only[Xi5] at hb;obtain⟨c,hc',rfl⟩:=hb;have:=U (k+1) c (by omega) (by omega) hc';rw[List.range'_succ];simp only[Op.eqItems,Sem.run_bind,px,py,Result.andThen_ok,run_equalIn_int w d e k1 q _ _ I];by_cases H:a=b1
    ·subst H;simpa using this
    simp[H]
   cases hb
  cases hb
def Zoo{k:TypeId}{R:Option Nat}{x y:Zj}{b:Bool}(G:Zaj cx k=some R)(h:Zce R x y=some b):(Op.equal k x y).run cx.P w = .ok b w:=by
 show (Op.equalIn (9999+1) k x y).run cx.P w=_;unfold Zaj at G
 split at G
 ·rename_i q hu
  cases G
  rcases Zbh h with⟨j,p,r,_,rfl,rfl,rfl⟩|⟨n,xs,H,e,_⟩
  ·exact run_equalIn_int w 9999 k j q _ _ hu
  cases e
 ·rename_i U hu
  split at G
  ·rename_i hc
   cases G
   rcases Zbh h with⟨j,p,r,e,_⟩|⟨n,xs,H,e,rfl,rfl,h1,I,J⟩
   ·cases e
   ·cases e
    have hf:cx.P.fieldsOf k=U:=by simp[Program.fieldsOf,hu]
    rw[run_equalIn_struct w 9999 k xs H (by rw[hf];exact hu) hc.2,hf];exact Zii 9998 U.toList 0 b hc.1 (by simpa using h1) (by simpa using I) (by simpa using J)
  cases G
 ·rename_i n e hu
  split at G
  ·rename_i q i X hi
   split at G
   ·rename_i hc
    cases G
    rcases Zbh h with⟨j,p,r,O,_⟩|⟨n',xs,H,O,rfl,rfl,h1,I,J⟩
    ·cases O
    ·cases O
     rw[run_equalIn_array w 9999 xs H hu hi,List.range_eq_range'];exact Zt2 X hc 9998 n 0 b (by simpa using h1) (by simpa using I) (by simpa using J)
   cases G
  cases G
 cases G
def Zlh{k:TypeId}{H:Option Nat}{x:Zj}(I:Zaj cx k=some H):∀(G:List MapEntry)(i:Nat)(a:Option (Nat × cR)),Uf H x G i=some a->(Instr.findAsking k x G i).run cx.P w = .ok a w:=by
 intro G
 induction G with
 |nil=>intro i a h;cases h;rfl
 |cons e G J =>
  intro i a h;unfold Uf at h
  split at h
  ·rename_i hb
   cases h
   simp[Instr.findAsking,Zoo I hb]
  ·rename_i hb;simp[Instr.findAsking,Zoo I hb];exact J _ _ h
  cases h
def Z0c{d:TypeDesc}{I:Option Nat}{x:Zj}:∀(H:List MapEntry)(i:Nat)(a r:Option (Nat × cR)),Instr.findNow d x H i=some r->Uf I x H i=some a->a=r:=by
 intro H
 induction H with
 |nil=>intro i a r h1 G;cases h1;cases G;rfl
 |cons e H O =>
  intro i a r h1 G;have key:∀b c,Instr.sameNow d x e.key=some b->Zce I x e.key=some c->b=c:=by
   intro b c hb hc;rcases Zbh hc with⟨j,p,q,_,J,h4,rfl⟩|⟨n,xs,R,_,J,h4,_⟩
   ·rw[J,h4] at hb;unfold Instr.sameNow at hb
    split at hb<;>simp_all
   rw[J,h4] at hb;unfold Instr.sameNow at hb
   split at hb<;>simp_all
  unfold Instr.findNow at h1;unfold Uf at G
  cases hb:Instr.sameNow d x e.key with
  |none=>rw[hb] at h1;cases h1
  |some b =>
   cases hc:Zce I x e.key with
   |none=>rw[hc] at G;cases G
   |some c =>
    have:=key b c hb hc;subst this;rw[hb] at h1;rw[hc] at G
    cases b
    ·exact O _ _ _ h1 G
    cases h1;cases G;rfl
def Zbi{k:TypeId}{I:Option Nat}{x:Zj}{G:List MapEntry}{a:Option (Nat × cR)}(H:Zaj cx k=some I)(h:Uf I x G 0=some a):(Instr.findKey k x G).run cx.P w = .ok a w:=by
 have hu:∃d,cx.P.underlying k=some d:=by
  unfold Zaj at H
  cases hu:cx.P.underlying k with
  |none=>rw[hu] at H;cases H
  |some d=>exact⟨d,rfl⟩
 obtain⟨d,hu⟩:=hu;simp only[Instr.findKey,Sem.run_bind,run_underlying hu,Result.andThen_ok]
 cases J:Instr.findNow d x G 0 with
 |none=>exact Zlh H G 0 a h
 |some r=>rw[Z0c G 0 a r J h];rfl
def Zdx{k:TypeId}{q j:IntKind}{z:Int}(G:Bool)(d:Nat)(hu:cx.P.underlying k=some (.int q)):(Instr.checkKey G (d+1) k (.int j z)).run cx.P w = .ok () w:=by
 simp[Instr.checkKey,run_underlying hu]
def Zcl(r:Nat)(H:Array MapEntry)(G:Nat)(hb:w.heap[r]? = some (.map H G)):(getObj r).run cx.P w = .ok (.map H G) w:=by
 simp[getObj,Sem.run,hb]
def Zac{k:TypeId}{U:Option Nat}{x:Zj}(O:Bool)(G:Zaj cx k=some U)(h:Zb3 U x=true):(Instr.checkKey O 10000 k x).run cx.P w = .ok () w:=by
 unfold Zaj at G
 split at G
 ·rename_i q hu
  cases G
  cases x<;>first|(cases h;done)|skip
  exact Zdx O 9999 hu
 ·rename_i fs hu
  split at G
  ·rename_i hc
   cases G
   cases x<;>first|(cases h;done)|skip
   rename_i cs;simp only[Zb3,Xjf,beq_iff_eq,Xkc] at h;rw[show (10000:Nat)=9998+1+1 from rfl,Instr.checkKey];simp only[Sem.run_bind,run_underlying hu,Result.andThen_ok];rw[<-Array.forIn_toList];have hx:cs.size=0+fs.toList.length:=by simpa using h.1
   have hv:=h.2;have H:=hc.1;clear hc hu h;generalize fs.toList=L at hx H;generalize 0=k at hx H
   induction L generalizing k with
   |nil=>simp
   |cons f r X =>
    simp only[Zb1,Xjf,bne_iff_ne,beq_iff_eq] at H;obtain⟨⟨⟨hn,ho⟩,hu⟩,hr⟩:=H;simp only[Xjn] at hx
    cases I:cx.P.underlying f.type with
    |none=>rw[I] at hu;cases hu
    |some u =>
    cases u with
    |int U =>
     have kx:k<cs.size:=by omega
     have R:=hv cs[k] (by simp);obtain⟨j,z,hz⟩:∃j z,cs[k] = .int j z:=by
      cases hc:cs[k]<;>rw[hc] at R<;>first|exact⟨_,_,rfl⟩|cases R
     have px:(part f.type cs f.offset).run cx.P w = .ok (.int j z) w:=Zbf I (n:=0) (by simp[Xu]) (by
      rw[ho];simp only[Zam,Xu,Xjh,if_false];simp[Xj7 kx,hz])
     have pc:=Zdx (cx:=cx) (w:=w) (j:=j) (z:=z) O 9998 I;simp only[List.forIn_cons,Sem.run_bind,hn,ne_eq,not_false_eq_true,if_true,px,pc,Result.andThen_ok,Sem.run_pure];exact X (k+1) (by omega) hr
    |_=>rw[I] at hu;cases hu
  cases G
 ·rename_i n e hu
  split at G
  ·rename_i q i he R
   split at G
   ·rename_i hc
    cases G
    cases x<;>first|(cases h;done)|skip
    rename_i cs;simp only[Zb3,Xjf,beq_iff_eq,Xkc] at h;rw[show (10000:Nat)=9998+1+1 from rfl,Instr.checkKey];simp only[Sem.run_bind,run_underlying hu,Result.andThen_ok];simp only[Std.Legacy.Range.forIn_eq_forIn_range',Std.Legacy.Range.size,Nat.sub_zero,Nat.add_one_sub_one,Nat.div_one];have hx:cs.size=0+n:=by simpa using h.1
    have hv:=h.2;clear hu h;generalize 0=k at hx
    induction n generalizing k with
    |zero=>simp
    |succ n X =>
     have kx:k<cs.size:=by omega
     have J:=hv cs[k] (by simp);obtain⟨j,z,hz⟩:∃j z,cs[k] = .int j z:=by
      cases hc:cs[k]<;>rw[hc] at J<;>first|exact⟨_,_,rfl⟩|cases J
     have px:(part e cs (k * cx.P.cellsOf e)).run cx.P w = .ok (.int j z) w:=Zbf he (n:=0) (by simp[Xu]) (by
      rw[hc,Xjd];simp only[Zam,Xu,Xjh,if_false];simp[Xj7 kx,hz])
     have pc:=Zdx (cx:=cx) (w:=w) (j:=j) (z:=z) O 9998 he;rw[List.range'_succ];simp only[List.forIn_cons,Sem.run_bind,run_sizeOf w R,px,pc,Result.andThen_ok,Sem.run_pure];exact X (k+1) (by omega)
   cases G
  cases G
 cases G
def Zhp{h:Zk}{r:Nat}{J:List MapEntry}(H:We h (some r)=some J):∃I G,h[r]? = some (.map I G)/\J=I.toList:=by
 unfold We at H;simp only at H
 split at H
 ·rename_i I G hb
  cases H
  exact⟨_,_,hb,rfl⟩
 cases H
def Zxg{h:Zk}{p v:Zj}(H:Ym.cK Y h .lenM [p]=some v):∃r G,p = .map r/\We h r=some G/\v = .int .i64 G.length:=by
 cases p<;>first|(cases H;done)|skip
 rename_i r;have H:(We h r).map (fun G=>Value.int .i64 G.length)=some v:=H;simp only[Xi5] at H;obtain⟨G,h1,rfl⟩:=H;exact⟨r,G,rfl,h1,rfl⟩
def Zrj{h:Zk}{H:Option Nat}{ok:Bool}{z p q v:Zj}(G:Ym.cK Y h (.lookup H ok z) [p,q]=some v):
  ∃r I a,p = .map r/\Zb3 H q=true/\We h r=some I/\Uf H q I 0=some a/\v=(match a with|some (_,x)=>if ok then .tuple #[x,.bool true] else x|none=>if ok then .tuple #[z,.bool false] else z):=by
 cases p<;>first|(cases G;done)|skip
 rename_i r;have G:Zgc h H ok z r q=some v:=G;unfold Zgc at G
 split at G
 ·rename_i J;simp only[Xjg,Xi5] at G;obtain⟨I,h1,a,O,R⟩:=G;exact⟨r,I,a,rfl,J,h1,O,R.symm⟩
 cases G
def Zwh{t J e:TypeId}{I:Option Nat}{ok:Bool}{z p q v:Zj}(h1:cx.P.underlying t=some (.map J e))(H:Zaj cx J=some I)(O:Qx cx e=some z)
  (X:Ym.cK Y w.heap (.lookup I ok z) [p,q]=some v):(Instr.lookup t p q ok).run cx.P w = .ok v w:=by
 obtain⟨r,es,a,rfl,hq,R,hf,rfl⟩:=Zrj X
 cases r with
 |none =>
  cases R
  cases hf
  cases ok<;>simp[Instr.lookup,run_underlying h1,Zac _ H hq,Zbi H (show Uf I q [] 0=some none from rfl),Vp O]
 |some r =>
  obtain⟨U,G,hb,rfl⟩:=Zhp R
  cases a with
  |none=>cases ok<;>simp[Instr.lookup,run_underlying h1,Zcl r U G hb,Zac _ H hq,Zbi H hf,Vp O]
  |some a=>cases ok<;>simp[Instr.lookup,run_underlying h1,Zcl r U G hb,Zac _ H hq,Zbi H hf]
def Xc5{op:UnOp}{p v:Zj}(G:Ym.cK Y w.heap (.un op) [p]=some v):(Op.unary op p).run cx.P w = .ok v w:=by
 rcases Z3h G with⟨rfl,k,n,rfl,rfl⟩|⟨rfl,b,rfl,rfl⟩<;>rfl
def Z8h{G H:TypeId}{ds:TypeDesc}{k:IntKind}{p v:Zj}(h1:cx.P.underlying G=some ds)(I:cx.P.underlying H=some (.int k))
  (J:Ym.cK Y w.heap (.conv k) [p]=some v):(convert G H p).run cx.P w = .ok v w:=by
 obtain⟨j,n,rfl,rfl⟩:=Zvr J;simp[convert,run_underlying h1,run_underlying I,Conv.intToInt]
def Z95{G H e:TypeId}{p v:Zj}(h1:cx.P.underlying G=some (.slice e))(I:cx.P.underlying H=some .string)(J:cx.P.underlying e=some (.int .u8))
  (O:Ym.cK Y w.heap .b2s [p]=some v):(convert G H p).run cx.P w = .ok v w:=by
 have hc:∀a n c,(convert G H (.slice a n c)).run cx.P w=(Conv.bytesToString (.slice a n c)).run cx.P w:=by
  intro a n c;simp[convert,run_underlying h1,run_underlying I,run_underlying J]
 rcases Z2v O with⟨n,c,rfl,rfl⟩|⟨b,o,n,c,l,s,rfl,R,hb,rfl⟩
 ·rw[hc];simp[Conv.bytesToString]
 rw[hc];obtain⟨U,rfl,h⟩:=Ztv ByteArray.empty hb;rw[run_bytesToString w _ _ _ U (Zap R),h]
 congr 2
 show (⟨#[]++s.toArray⟩:ByteArray)=_;rw[Xmz]
def Xav{t:TypeId}{d:TypeDesc}{n:Nat}{p v:Zj}(ok:Ok cx Y)(h1:cx.P.underlying t=some d)(H:∀I,d≠.interface I)(J:cx.tn t=some n)
  (G:Ym.cK Y w.heap (.mkI n) [p]=some v):(Instr.makeInterface t p).run cx.P w = .ok v w:=by
 have G:some (Value.iface (Y.tid n) p)=some v:=G;simp only[Xjy] at G;subst G;simp only[Instr.makeInterface,Sem.run_bind,run_underlying h1,Result.andThen_ok,ok.ht _ _ J]
 cases d<;>first|exact absurd rfl (H _)|rfl
def Z53{t:TypeId}{H:Array Field}{f:Nat}{G:Field}{n:Nat}{p v:Zj}(h1:cx.P.underlying t=some (.struct H))(I:H[f]? = some G)(J:Uv cx G.type=some n)(h4:n≠0)
  (O:Ym.cK Y w.heap (.fadr G.offset) [p]=some v):(Instr.fieldAt t p f).run cx.P w = .ok v w:=by
 obtain⟨b,o,rfl,rfl⟩:=Zxi O;simp[Instr.fieldAt,run_underlying h1,I,Instr.sureAddr,fieldPlace,Xx J,h4,Addr.add_lit]
def Zyp{t:TypeId}{I:Array Field}{f:Nat}{G:Field}{d:TypeDesc}{n:Nat}{p v:Zj}(h1:cx.P.underlying t=some (.struct I))(J:I[f]? = some G)(O:cx.P.underlying G.type=some d)
  (h4:Xu d=true->Uv cx G.type=some n) (H:Ym.cK Y w.heap (.fld G.offset n (Xu d)) [p]=some v):(Instr.field t p f).run cx.P w = .ok v w:=by
 obtain⟨cs,rfl,H⟩:=Z2q H;simp only[Instr.field,Sem.run_bind,run_underlying h1,Result.andThen_ok,J,asAgg,Sem.run_pure];exact Zbf O h4 H
def Z66{t e:TypeId}{n:Nat}{p q v:Zj}(h1:cx.P.underlying t=some (.slice e))(G:Uv cx e=some n)
  (H:Ym.cK Y w.heap (.idxa n) [p,q]=some v):(Instr.indexAt t p q).run cx.P w = .ok v w:=by
 obtain⟨b,o,m,c,k,i,rfl,rfl,hb,rfl⟩:=Zx0 H;simp[Instr.indexAt,run_underlying h1,asIntOf,hb,Xx G,Addr.add_lit]
def Z4w{t e:TypeId}{len n:Nat}{p q v:Zj}(h1:cx.P.underlying t=some (.array len e))(G:Uv cx e=some n)
  (H:Ym.cK Y w.heap (.idxA len n) [p,q]=some v):(Instr.indexAt t p q).run cx.P w = .ok v w:=by
 obtain⟨b,o,k,i,rfl,rfl,hb,rfl⟩:=Zvw H;simp[Instr.indexAt,run_underlying h1,asIntOf,hb,Xx G,Instr.sureAddr,Addr.add_lit]
def Z7q{t:TypeId}{p q v:Zj}(h1:cx.P.underlying t=some .string)
  (G:Ym.cK Y w.heap .idxS [p,q]=some v):(Instr.index t p q).run cx.P w = .ok v w:=by
 obtain⟨s,k,i,b,rfl,rfl,h0,hb,rfl⟩:=Zxq G;simp[Instr.index,run_underlying h1,asIntOf,h0,hb]
def Z3u{t e:TypeId}{len n:Nat}{d:TypeDesc}{p q v:Zj}(h1:cx.P.underlying t=some (.array len e))(I:cx.P.underlying e=some d)(H:Uv cx e=some n)
  (G:Ym.cK Y w.heap (.idxV len n (Xu d)) [p,q]=some v):(Instr.index t p q).run cx.P w = .ok v w:=by
 obtain⟨cs,k,i,rfl,rfl,hb,G⟩:=Zv7 G;simp only[Instr.index,Sem.run_bind,asIntOf,Sem.run_pure,Result.andThen_ok,run_underlying h1,hb,and_self,if_true,Xx H];exact Zbf I (fun _=>H) G
def Xc9{t U:TypeId}{d:TypeDesc}{n:Nat}{G:Bool}{z p v:Zj}(ok:Ok cx Y)(h1:cx.P.underlying t=some d)(O:∀X,d≠.interface X)(h3:cx.tn t=some n)(h4:Qx cx t=some z)
  (H:Ym.cK Y w.heap (.ta n G z) [p]=some v):(Instr.typeAssert p U t G).run cx.P w = .ok v w:=by
 have ht:=ok.ht _ _ h3;rcases Z3t H with⟨t',u,rfl,hs'⟩|⟨rfl,rfl,rfl⟩
 ·clear H;have H:=hs';clear hs';rw[ht] at H;have I:∀r:Result cR,r=(if t'=t then (if G then .ok (.tuple #[u,.bool true]) w else .ok u w) else (if G then .ok (.tuple #[z,.bool false]) w else r))->r = .ok v w:=by
   intro r R
   split at H
   ·rename_i J;rw[if_pos J] at R
    cases G<;>simp_all
   rename_i J;rw[if_neg J] at R
   cases G<;>simp_all
  apply I;simp only[Instr.typeAssert,Sem.run_bind,run_underlying h1,Result.andThen_ok]
  cases d<;>first|exact absurd rfl (O _)|(split<;>cases G<;>simp_all[Vp h4])
 simp only[Instr.typeAssert,Sem.run_bind,run_underlying h1,Result.andThen_ok]
 cases d<;>first|exact absurd rfl (O _)|(simp[Vp h4])
def Zqu(J:Bool){n c:Nat}(lo H:Option Operand)(ρ:Operand->cR){x:Nat × Nat}(h:W8 n c lo.isSome H.isSome ((lo.toList++H.toList).map ρ)=some x):
  (Instr.sliceBounds J n c (lo.map ρ) (H.map ρ) none).run cx.P w = .ok (x.1,x.2,c) w:=by
 rcases Zxs h with⟨h1,I,G,rfl⟩|⟨h1,I,k,l,G,hb,rfl⟩|⟨h1,I,k,l,G,hb,rfl⟩|⟨h1,I,k,l,j,m,G,hb,rfl⟩ <;>
  cases lo<;>cases H<;>simp at h1 I G
 ·simp[Instr.sliceBounds]
 ·simp[Instr.sliceBounds,Instr.sliceBound,asIntOf,hb,G]
 ·simp[Instr.sliceBounds,Instr.sliceBound,asIntOf,hb,G]
 have h0:(0:Int)<=m:=by omega
 have O:¬(max m 0<l):=by omega
 simp[Instr.sliceBounds,Instr.sliceBound,asIntOf,hb,G,h0,O]
def Xaw{t e:TypeId}{n:Nat}{lo G:Option Operand}{ρ:Operand->cR}{p v:Zj}(h1:cx.P.underlying t=some (.slice e))(H:Uv cx e=some n)
  (I:Ym.cK Y w.heap (.slc n lo.isSome G.isSome) (p::(lo.toList++G.toList).map ρ)=some v):(Instr.sliceAt t p (lo.map ρ) (G.map ρ) none).run cx.P w = .ok v w:=by
 obtain⟨a,m,c,x,rfl,hx,hv⟩:=Z0y I;have hc:=Zqu (cx:=cx) (w:=w) true lo G ρ hx;simp only[Instr.sliceAt,Instr.slice,Sem.run_bind,run_underlying h1,Result.andThen_ok,hc,Xx H,Sem.run_pure];rcases hv with⟨rfl,rfl⟩|⟨b,o,rfl,rfl⟩|⟨b,o,s,rfl,hc,rfl⟩
 ·split<;>rfl
 ·split<;>simp[Addr.add_lit]
 subst hc;simp
def Z7o{t:TypeId}{lo G:Option Operand}{ρ:Operand->cR}{p v:Zj}(h1:cx.P.underlying t=some .string)
  (H:Ym.cK Y w.heap (.slcS lo.isSome G.isSome) (p::(lo.toList++G.toList).map ρ)=some v):(Instr.sliceAt t p (lo.map ρ) (G.map ρ) none).run cx.P w = .ok v w:=by
 obtain⟨s,x,rfl,hx,rfl⟩:=Zw7 H;have hc:=Zqu (cx:=cx) (w:=w) false lo G ρ hx;simp[Instr.sliceAt,Instr.slice,run_underlying h1,hc]
def Z7d{t e:TypeId}{len n:Nat}{lo G:Option Operand}{ρ:Operand->cR}{p v:Zj}(h1:cx.P.underlying t=some (.array len e))(H:Uv cx e=some n)
  (I:Ym.cK Y w.heap (.slcA len n lo.isSome G.isSome) (p::(lo.toList++G.toList).map ρ)=some v):(Instr.sliceAt t p (lo.map ρ) (G.map ρ) none).run cx.P w = .ok v w:=by
 obtain⟨b,o,x,rfl,hx,rfl⟩:=Zv3 I;have hc:=Zqu (cx:=cx) (w:=w) false lo G ρ hx;simp only[Instr.sliceAt,Sem.run_bind,run_underlying h1,Result.andThen_ok,Instr.sureAddr,Sem.run_pure,hc,Xx H]
 split<;>simp[Addr.add_lit]
def Zya{h:Zk}{sz:Nat}{p q r s v:Zj}(G:Ym.cK Y h (.slc3 sz) [p,q,r,s]=some v):
  ∃a n c k l j i g m,p = .slice a n c/\q = .int k l/\r = .int j i/\s = .int g m/\0<=l/\l<=i/\i<=m/\m<=c /\
   ((a=none/\v = .slice none (i.toNat-l.toNat) (m.toNat-l.toNat))\/∃b o,a=some ⟨b,o,none⟩/\v = .slice (some ⟨b,if m.toNat=l.toNat then o else o+l.toNat * sz,none⟩) (i.toNat-l.toNat) (m.toNat-l.toNat)):=by
 cases p with
 |slice a n c =>
  cases q with
  |int k l =>
   cases r with
   |int j i =>
    cases s with
    |int g m =>
     simp only[Ym.cK] at G
     split at G
     ·rename_i hb;refine⟨a,n,c,k,l,j,i,g,m,rfl,rfl,rfl,rfl,hb.1,hb.2.1,hb.2.2.1,hb.2.2.2,?_⟩
      split at G
      ·cases G;exact .inl ⟨rfl,rfl⟩
      ·cases G;exact .inr ⟨_,_,rfl,rfl⟩
      ·cases G
     cases G
    |_=>cases G
   |_=>cases G
  |_=>cases G
 |_=>cases G
def Z4h{t e:TypeId}{n:Nat}{lo G mx:Operand}{ρ:Operand->cR}{x:Operand}{v:Zj}(h1:cx.P.underlying t=some (.slice e))(H:Uv cx e=some n)
  (I:Ym.cK Y w.heap (.slc3 n) ([x,lo,G,mx].map ρ)=some v):(Instr.sliceAt t (ρ x) ((some lo).map ρ) ((some G).map ρ) ((some mx).map ρ)).run cx.P w = .ok v w:=by
 obtain⟨a,n',c,k,l,j,i,g,m,hp,hq,J,O,X,b2,b3,b4,hv⟩:=Zya I;have c1:0<=m/\m<=(c:Int):=by omega
 have R:0<=i/\i<=(m.toNat:Int):=by omega
 have U:0<=l/\l<=(i.toNat:Int):=by omega
 simp only[Xlz,hp,hq,J,O,Instr.sliceAt,Instr.slice,Sem.run_bind,run_underlying h1,Result.andThen_ok,Instr.sliceBounds,Instr.sliceBound,asIntOf,Sem.run_pure,c1,R,U,and_self,if_true,Xx H];rcases hv with⟨rfl,rfl⟩|⟨b,o,rfl,rfl⟩
 ·split<;>rfl
 split<;>simp_all[Addr.add_lit]
def Z30 : (Extern.allGenericRows.lookup "internal/bytealg.CountString").isNone = true ∧ (Extern.allTypedRows.lookup "internal/bytealg.CountString").isNone = true ∧ Extern.allRows.lookup "internal/bytealg.CountString" = some Extern.BytealgCount.count := ⟨by kernel_rfl, by kernel_rfl, by kernel_rfl⟩
def Z8a : (Extern.allGenericRows.lookup "internal/bytealg.IndexByteString").isNone = true ∧ (Extern.allTypedRows.lookup "internal/bytealg.IndexByteString").isNone = true ∧ Extern.allRows.lookup "internal/bytealg.IndexByteString" = some Extern.BytealgIndexByte.indexByte := ⟨by kernel_rfl, by kernel_rfl, by kernel_rfl⟩
def Zy6{H:Func}{n:String}{e:Array cR->Sem cR}(h:H.name=n)(I:(Extern.allGenericRows.lookup n).isNone=true/\(Extern.allTypedRows.lookup n).isNone=true/\Extern.allRows.lookup n=some e):Extern.find H=some e:=by
 obtain⟨h1,G,J⟩:=I;have h1:Extern.allGenericRows.lookup n=none:=by simpa using h1
 have G:Extern.allTypedRows.lookup n=none:=by simpa using G
 unfold Extern.find;simp only[h,h1,G,J]
 rfl
def Z8c{h:Zk}{xs:Zc}{v:Zj}(G:Ym.cK Y h (.idxA 0 0) xs=some v):False:=by
 unfold Ym.cK at G
 split at G<;>simp_all
 omega
def Z97{o:Oper}{ρ:Operand->cR}{io:Ym}{f:FuncId}{args:Array Operand}{argTypes:Array TypeId}{v:Zj}(hρ:∀f,ρ (.func f) = .func (.func f) #[] #[])(G:Z48 cx f=some io)(H:io.cK Y w.heap (args.toList.map ρ)=some v):
  (do let d <-resolve ρ ⟨.value (.func f),args,argTypes⟩ o.type;invoke d.target d.args:Sem Next).run cx.P w = .ok (.value v) w:=by
 unfold Z48 at G
 split at G
 rotate_left
 ·cases G
 rename_i U hf
 split at G
 rotate_left
 ·cases G
 rename_i hc;obtain⟨hb,X,hx⟩:=hc;have hx:Extern.findNext U=none:=by simpa using hx
 have O:∀(e:Array cR->Sem cR),Extern.find U=some e->(e (args.map ρ)).run cx.P w = .ok v w ->
   (do let d <-resolve ρ ⟨.value (.func f),args,argTypes⟩ o.type;invoke d.target d.args:Sem Next).run cx.P w = .ok (.value v) w:=by
  intro e he hr;simp only[resolve,hρ,Deferred.ofValue,Sem.run_bind,Sem.run_pure,Result.andThen_ok,invoke];have hq:=run_callFunc_extern hf X hb hx he (#[]++args.map ρ++#[]) w;simp only[Xmz,Array.append_empty] at hq;simp only[Xmz,Array.append_empty];rw[hq,hr]
  rfl
 split at G
 ·rename_i I
  cases G
  obtain⟨s,c,R,rfl⟩:∃s c,args.toList.map ρ=[.string s,.int .u8 c]/\v = .int .i64 (Lib.countByte s.data.toList c.toNat.toUInt8):=by
   unfold Ym.cK at H
   split at H<;>simp_all
   exact⟨_,_,⟨rfl,rfl⟩,H.symm⟩
  have J:args.map ρ=#[.string s,.int .u8 c]:=by apply Xjb;simpa using R
  exact O _ (Zy6 I Z30) (by rw[J];exact Lib.run_countString s c w)
 split at G
 ·rename_i I
  cases G
  obtain⟨s,c,R,rfl⟩:∃s c,args.toList.map ρ=[.string s,.int .u8 c]/\v = .int .i64 (Lib.indexByte s.data.toList c.toNat.toUInt8):=by
   unfold Ym.cK at H
   split at H<;>simp_all
   exact⟨_,_,⟨rfl,rfl⟩,H.symm⟩
  have J:args.map ρ=#[.string s,.int .u8 c]:=by apply Xjb;simpa using R
  exact O _ (Zy6 I Z8a) (by rw[J];exact Lib.run_indexByteString s c w)
 cases G
 exact (Z8c H).elim
def Z83{o:Oper}{ρ:Operand->cR}{io:Ym}{xs:List Operand}{v:Zj}{c:Call}(hρ:∀f,ρ (.func f) = .func (.func f) #[] #[])(G:Zee cx (.call c)=some (.io io,xs))(I:io.cK Y w.heap (xs.map ρ)=some v):
  (do let d <-resolve ρ c o.type;invoke d.target d.args:Sem Next).run cx.P w = .ok (.value v) w:=by
 obtain⟨callee,args,argTypes⟩:=c;simp only[Zee] at G
 split at G
 ·rename_i f
  split at G
  ·rename_i o R
   cases G
   exact Z97 hρ R I
  simp[Xi5] at G
 ·cases G
 ·split at G
  ·rename_i t x ht H;have ht:argTypes=#[t]:=by apply Xjb;simpa using ht
   have H:args=#[x]:=by apply Xjb;simpa using H
   subst ht;subst H
   split at G
   ·rename_i e h1
    cases G
    obtain⟨a,n,c,hp,rfl⟩:=Z2b I;simp[resolve,hp,invoke,builtin,Builtin.len_,run_underlying h1,goInt]
   ·rename_i h1
    cases G
    obtain⟨s,hp,rfl⟩:=Zxk I;simp[resolve,hp,invoke,builtin,Builtin.len_,run_underlying h1,goInt]
   ·rename_i n e h1
    cases G
    have I:some (Value.int .i64 n)=some v:=I
    cases I
    simp[resolve,invoke,builtin,Builtin.len_,run_underlying h1,goInt]
   ·rename_i X e h1
    cases G
    obtain⟨r,es,hp,O,rfl⟩:=Zxg I
    cases r with
    |none =>
     cases O
     simp[resolve,hp,invoke,builtin,Builtin.len_,run_underlying h1,goInt]
    |some r =>
     obtain⟨U,J,hb,rfl⟩:=Zhp O;simp[resolve,hp,invoke,builtin,Builtin.len_,run_underlying h1,goInt,Zcl r U J hb]
   cases G
  cases G
 ·split at G
  ·rename_i t x ht H;have ht:argTypes=#[t]:=by apply Xjb;simpa using ht
   have H:args=#[x]:=by apply Xjb;simpa using H
   subst ht;subst H
   split at G
   ·rename_i e h1
    cases G
    obtain⟨a,n,c,hp,rfl⟩:=Z17 I;simp[resolve,hp,invoke,builtin,Builtin.cap_,run_underlying h1,goInt]
   cases G
  cases G
 ·split at G
  ·rename_i x y H;have H:args=#[x,y]:=by apply Xjb;simpa using H
   subst H
   cases G
   obtain⟨k,a,j,b,hp,hq,rfl⟩:=Z3r I;simp[resolve,hp,hq,invoke,builtin,Builtin.min_,Builtin.min2]
  cases G
 ·split at G
  ·rename_i x y H;have H:args=#[x,y]:=by apply Xjb;simpa using H
   subst H
   cases G
   obtain⟨k,a,j,b,hp,hq,rfl⟩:=Z4e I;simp[resolve,hp,hq,invoke,builtin,Builtin.max_,Builtin.max2]
  cases G
 ·split at G
  ·split at G
   ·split at G
    ·split at G<;>cases G
    ·split at G<;>cases G
    ·split at G<;>cases G
    cases G
   cases G
  cases G
 ·split at G
  ·split at G
   ·split at G<;>cases G
   cases G
  cases G
 ·split at G
  ·split at G
   ·simp[Xi5] at G
   cases G
  cases G
 cases G
def Zpn {o:Oper} {ρ:Operand->cR} {io:Ym} {xs:List Operand} {v:Zj} (ok:Ok cx Y) (hρ:∀ f,ρ (.func f) = .func (.func f) #[] #[])
  (G:Zee cx o.op=some (.io io,xs)) (H:io.cK Y w.heap (xs.map ρ)=some v) :
  (execOp ρ o).run cx.P w = .ok (.value v) w:=by
 unfold execOp
 cases ho:o.op <;> simp only [ho,Zee] at G ⊢
 case move x =>
  cases G;simp only [Xjx,Xkv,Ym.cK,Xjy] at H;subst H;rfl
 case assign x =>
  cases G;simp only [Xjx,Xkv,Ym.cK,Xjy] at H;subst H;rfl
 case pick c a b =>
  cases G
  simp only [Xjx,Xkv] at H;generalize ρ c=rc at *
  generalize ρ a=ra at *
  generalize ρ b=rb at *
  cases rc <;> simp only [Ym.cK,Xjy,reduceCtorEq] at H
  subst H;simp [asBool]
 case alloc=>simp [Xi5] at G
 case box=>cases G
 case build t ps =>
  split at G
  ·rename_i fs z hu hz;simp only [Xi5,Prod.mk.injEq,Kd.io.injEq] at G;obtain ⟨pl,aa,rfl,rfl⟩:=G;simp only [Ym.cK,Xjg,Xjy] at H;obtain ⟨cs,X,rfl⟩:=H;refine Wv ?_;have hm:=Ziw (w:=w) fs pl aa;simp only [Instr.build,Sem.run_bind,Vp hz,run_underlying hu,Result.andThen_ok,hm];have R:=Zjd ρ ps;simp only [R,List.getElem?_toArray,X]
   rfl
  ·rename_i n e z hu hz;simp only [Xi5,Prod.mk.injEq,Kd.io.injEq] at G;obtain ⟨sz,ab,rfl,rfl⟩:=G;simp only [Ym.cK,Xjg,Xjy] at H;obtain ⟨cs,X,rfl⟩:=H;refine Wv ?_;have R:=Zjd ρ ps;simp only [Instr.build,Sem.run_bind,Vp hz,run_underlying hu,Result.andThen_ok,Xx ab,R,X]
   rfl
  cases G
 case buildSlice t len ps =>
  split at G
  ·split at G
   ·split at G <;> cases G
   cases G
  cases G
 case load t x =>
  split at G
  ·rename_i d hd;have key:∀ n,(Xu d=true->Uv cx t=some n)->Ym.cK Y w.heap (.load n (Xu d)) [ρ x]=some v ->
     ((Instr.loadAt t (ρ x)) >>= fun x=>(pure (Next.value x):Sem Next)).run cx.P w = .ok (.value v) w:=by
    intro n U H;refine Wv ?_;generalize ρ x=rx at *
    unfold Instr.loadAt
    match rx,H with
    | .pointer (some ⟨b,o,none⟩),H=>simpa [Instr.sureAddr] using Zjr hd U H
    | .pointer (some ⟨b,o,some s⟩),H=>cases J:Xu d <;> simp [J,Ym.cK] at H
    | .pointer none,H=>cases J:Xu d <;> simp [J,Ym.cK] at H
    | .bool _,H | .int _ _,H | .float _ _,H | .complex _ _ _,H | .string _,H | .slice _ _ _,H | .map _,H | .chan _,H | .func _ _ _,H | .nilFunc,H | .iface _ _,H | .nilIface,H | .agg _,H | .tuple _,H=>cases J:Xu d <;> simp [J,Ym.cK] at H
   split at G
   ·rename_i J;simp only [Xi5,Prod.mk.injEq,Kd.io.injEq] at G;obtain ⟨n,U,rfl,rfl⟩:=G;exact key n (fun _=>U) (by simpa [J] using H)
   rename_i J
   cases G
   have J:Xu d=false:=by simpa using J
   exact key 1 (fun h=>by rw [J] at h;cases h) (by simpa [J] using H)
  cases G
 case store=>simp [Xi5] at G
 case nilCheck x =>
  cases G
  simp only [Xjx,Xkv] at H;generalize ρ x=rx at *
  unfold Ym.cK at H
  split at H <;> simp_all <;> (subst H;rfl)
 case binOp op t x y yt =>
  simp only [Xi5,Prod.mk.injEq] at G;obtain ⟨k,G,rfl,rfl⟩:=G;exact Xat G H
 case unOp op t x =>
  cases G
  exact Wv (Xc5 H)
 case convert sT dT x =>
  split at G
  ·rename_i h1 I;cases G;exact Wv (Z8h h1 I H)
  ·rename_i h1 I
   split at G
   ·rename_i O;cases G;exact Wv (Z95 h1 I O H)
   cases G
  ·split at G
   ·cases G
   ·cases G
  ·split at G
   ·split at G
    ·cases G
    ·cases G
   cases G
  cases G
 case makeInterface t x =>
  split at G
  ·cases G
  ·rename_i d U h1;simp only [Xi5,Prod.mk.injEq,Kd.io.injEq] at G;obtain ⟨n,ac,rfl,rfl⟩:=G;exact Wv (Xav ok h1 (fun ms hd=>U ms hd) ac H)
  cases G
 case makeFunc fn first cap =>
  cases fn <;> simp only [reduceCtorEq] at G
  simp only [Xi5,Prod.mk.injEq,Kd.io.injEq] at G;obtain ⟨n,U,rfl,rfl⟩:=G;refine Wv ?_;have H:some (Value.func (.func (Y.fid n)) (((first.toList++cap.toList).map ρ).take first.size).toArray (((first.toList++cap.toList).map ρ).drop first.size).toArray)=some v:=H;simp only [Xjy] at H;subst H;rw [(ok.hf _ _ U).1];have h1:(((first.toList++cap.toList).map ρ).take first.size).toArray=first.map ρ:=by
   rw [Xjj,List.take_left' (by simp)];apply Xjb;simp
  have I:(((first.toList++cap.toList).map ρ).drop first.size).toArray=cap.map ρ:=by
   rw [Xjj,List.drop_left' (by simp)];apply Xjb;simp
  rw [h1,I]
  rfl
 case makeSlice t l c =>
  split at G
  ·split at G <;> cases G
  cases G
 case slice t x lo hi mx =>
  cases mx with
  | some m =>
   cases lo with
   | none=>simp at G
   | some l =>
    cases hi with
    | none=>simp at G
    | some j =>
     simp only at G
     split at G
     ·rename_i e h1;simp only [Xi5,Prod.mk.injEq,Kd.io.injEq] at G;obtain ⟨n,I,rfl,rfl⟩:=G;exact Wv (Z4h h1 I H)
     cases G
  | none =>
   simp only at G
   split at G
   ·rename_i e h1;simp only [Xi5,Prod.mk.injEq,Kd.io.injEq] at G;obtain ⟨n,I,rfl,rfl⟩:=G;exact Wv (Xaw h1 I H)
   ·rename_i h1;cases G;exact Wv (Z7o h1 H)
   ·rename_i len e h1;simp only [Xi5,Prod.mk.injEq,Kd.io.injEq] at G;obtain ⟨n,I,rfl,rfl⟩:=G;exact Wv (Z7d h1 I H)
   cases G
 case fieldAddr t x f =>
  split at G
  ·rename_i fs h1;simp only [Xjg] at G;obtain ⟨fd,I,n,O,G⟩:=G
   split at G
   ·cases G
   ·rename_i h4;cases G;exact Wv (Z53 h1 I O h4 H)
  cases G
 case field t x f =>
  split at G
  ·rename_i fs h1;simp only [Xjg] at G;obtain ⟨fd,I,G⟩:=G
   split at G
   ·rename_i d O
    split at G
    ·rename_i J;simp only [Xi5,Prod.mk.injEq,Kd.io.injEq] at G;obtain ⟨n,h4,rfl,rfl⟩:=G;exact Wv (Zyp h1 I O (n:=n) (fun _=>h4) (by rw [J];exact H))
    rename_i J;have J:Xu d=false:=by simpa using J
    cases G
    exact Wv (Zyp h1 I O (n:=1) (fun h=>by rw [J] at h;cases h) (by rw [J];exact H))
   cases G
  cases G
 case indexAddr t x i =>
  split at G
  ·rename_i e h1;simp only [Xi5,Prod.mk.injEq,Kd.io.injEq] at G;obtain ⟨n,I,rfl,rfl⟩:=G;exact Wv (Z66 h1 I H)
  ·rename_i len e h1;simp only [Xi5,Prod.mk.injEq,Kd.io.injEq] at G;obtain ⟨n,I,rfl,rfl⟩:=G;exact Wv (Z4w h1 I H)
  cases G
 case index t x i =>
  split at G
  ·rename_i h1;cases G;exact Wv (Z7q h1 H)
  ·rename_i len e h1
   split at G
   ·rename_i d n I O;cases G;exact Wv (Z3u h1 I O H)
   cases G
  cases G
 case typeAssert x xT t ad =>
  split at G
  ·cases G
  ·rename_i d U h1
   split at G
   ·rename_i n z O h4;cases G;exact Wv (Xc9 ok h1 (fun ms hd=>U ms hd) O h4 H)
   cases G
  cases G
 case extract x i =>
  cases G
  obtain ⟨vs,hp,hv⟩:=Z0q H;refine Wv ?_;rw [hp];simp [Instr.extract,hv]
 case call c=>exact Z83 hρ G H
 case makeMap t r=>split at G <;> cases G
 case mapUpdate t m k x =>
  split at G
  ·simp [Xi5] at G
  cases G
 case lookup t m k ae =>
  split at G
  ·rename_i kt e h1
   split at G
   ·rename_i n z I O
    cases G
    exact Wv (Zwh h1 I O H)
   cases G
  cases G
 all_goals cases G
end ops
end Go.Rm
namespace Go.Rm
section ops
variable{cx:Cx}{Y:Sys}{w:World}
def Leaves(cx:Cx)(s:Sem Next)(w:World)(K:Ze):Prop :=
 ∃r v w',s.run cx.P w = .ok r w'/\(r = .value v\/(r = .skip/\v=undef))/\Same w w'/\K v w'.heap
def Zch{s:Sem cR}{v:Zj}{w':World}{K:Ze}(h:s.run cx.P w = .ok v w')(G:Same w w')(H:K v w'.heap):
  Leaves cx (s >>= fun x=>(pure (Next.value x):Sem Next)) w K :=
 ⟨.value v,v,w',by simp[h],.inl rfl,G,H⟩
def Zu3{s:Sem Unit}{w':World}{K:Ze}(h:s.run cx.P w = .ok () w')(G:Same w w')(H:K undef w'.heap):
  Leaves cx (s >>= fun _=>(pure Next.skip:Sem Next)) w K :=
 ⟨.skip,undef,w',by simp[h],.inr ⟨rfl,rfl⟩,G,H⟩
def Zj9:∀(vs:Zc)(i:Nat)(w:World)(b o:Nat)(h':Zk),hst w.heap b (o+i) vs=some h' ->
  ∃w',(storeCells ⟨b,o,none⟩ vs i).run cx.P w = .ok () w'/\Same w w'/\w'.heap=h':=by
 intro vs
 induction vs with
 |nil=>intro i w b o h' G;simp only[hst,Xjy] at G;exact⟨w,rfl,Same.refl w,G⟩
 |cons v r I =>
  intro i w b o h' G;simp only[hst] at G
  split at G
  ·rename_i hc;simp only[Xjf,Xkw] at hc;obtain⟨⟨hc,hf⟩,h1⟩:=hc;obtain⟨u,hu⟩:=Option.isSome_iff_exists.1 hc;have H:(store ((⟨b,o,none⟩:Addr).add i) v).run cx.P w = .ok () (w.setCell ⟨b,o+i,none⟩ v):=by
    rw[Addr.add_lit,run_store cx.P w _ v _ h1,Zkm,hu,Zve,hf]
    rfl
   have J:=Zqg w b (o+i) v;obtain⟨w',h1,O,R⟩:=I (i+1) (w.setCell ⟨b,o+i,none⟩ v) b o h' (by rw[J];exact G);refine⟨w',?_,Same.trans (b:=w.setCell ⟨b,o+i,none⟩ v) ⟨rfl,rfl,rfl,Xi4 _⟩ O,R⟩;simp only[storeCells,Sem.run_bind,H,Result.andThen_ok,h1]
  cases G
def Ztg{h:Zk}{K:Ze}{sz:Nat}{p q:Zj}(G:Ef.wp h K (.store sz) [p,q]):
  ∃b o h',p = .pointer (some ⟨b,o,none⟩)/\q.cells.size=sz/\hst h b o q.cells.toList=some h'/\K undef h':=by
 cases p with
 |pointer a =>
  cases a with
  |none=>exact G.elim
  |some a =>
   obtain⟨b,o,s⟩:=a
   cases s with
   |some s=>exact G.elim
   |none =>
    obtain⟨h1,H⟩:=G
    cases I:hst h b o q.cells.toList with
    |none=>rw[I] at H;exact H.elim
    |some h'=>rw[I] at H;exact⟨b,o,h',rfl,h1,I,H⟩
 |_=>exact G.elim
def Z2n{t:TypeId}{n:Nat}{p q:Zj}{K:Ze}(h1:Uv cx t=some n)(H:Ef.wp w.heap K (.store n) [p,q]):
  ∃w',(Instr.storeAt t p q).run cx.P w = .ok () w'/\Same w w'/\K undef w'.heap:=by
 obtain⟨b,o,h',rfl,G,I,J⟩:=Ztg H;obtain⟨w',O,R,h4⟩:=Zj9 (cx:=cx) q.cells.toList 0 w b o h' (by simpa using I);refine⟨w',?_,R,by rw[h4];exact J⟩;simp only[Instr.storeAt,Instr.sureAddr,Sem.run_bind,Sem.run_pure,Result.andThen_ok,storeVar,Xx h1,G];simp[O]
def Xae{t:TypeId}{p:Zj}{K:Ze}(G:Ef.wp w.heap K .new [p]):
  ∃v w',(do pure (.pointer (some (<-newVar t p))):Sem cR).run cx.P w = .ok v w'/\Same w w'/\K v w'.heap :=
 ⟨_,{ w with heap:=w.heap.push (.cells p.cells t) },by simp[newVar,newRow],⟨rfl,rfl,rfl,Xi4 _⟩,G t⟩
def Zww{t e:TypeId}{len sz:Nat}{z:Zj}{ps:Array (Nat × Operand)}{ρ:Operand->cR}{K:Ze}(h1:cx.P.underlying t=some (.slice e))(J:Uv cx e=some sz)(O:Qx cx e=some z)
  (h4:len * sz<=16777216) (H:Ef.wp w.heap K (.bslice len sz (if len * sz=0 then #[] else z.cells) (ps.toList.map (·.1))) ((ps.toList.map (·.2)).map ρ)) :
  ∃v w',(Instr.buildSlice t len (ps.map fun(i,x)=>(i,ρ x))).run cx.P w = .ok v w'/\Same w w'/\K v w'.heap:=by
 simp only[Ef.wp] at H;have I:¬(16777216<len * sz):=by omega
 split at H
 ·rename_i cs G;refine⟨_,{ w with heap:=w.heap.push (.cells cs e) },?_,⟨rfl,rfl,rfl,Xi4 _⟩,H e⟩;have hp:=Zjd ρ ps;simp only[Xv] at G;by_cases hz:len * sz=0
  ·simp only[hz,if_true,Xkj] at G;simp only[Xly,Xkj] at hp;simp at G;simp[Instr.buildSlice,run_underlying h1,Xx J,hz,hp,G,newRow]
  simp only[hz,if_false,Xkj] at G;simp only[Xly,Xkj] at hp;simp[Instr.buildSlice,run_underlying h1,Xx J,I,hz,Vp O,hp,G,newRow]
 exact H.elim
def Z75{h:Zk}{K:Ze}{sz bytes:Nat}{zero:Array cR}{p q:Zj}(G:Ef.wp h K (.mkslice sz bytes zero) [p,q]):
  ∃j l k c,p = .int j l/\q = .int k c/\(0<=l/\l<=c/\c<=9223372036854775807/\(bytes:Int) * c<=281474976710656 /\
   ∀t:TypeId,K (.slice (some ⟨h.size,0,none⟩) l.toNat c.toNat) (h.push (.cells (Xv zero (c.toNat * sz)) t))):=by
 cases p with
 |int j l =>
  cases q with
  |int k c=>exact⟨j,l,k,c,rfl,rfl,G⟩
  |_=>exact G.elim
 |_=>exact G.elim
def Ztn{t e:TypeId}{sz:Nat}{z:Zj}{i:TypeInfo}{p q:Zj}{K:Ze}(h1:cx.P.underlying t=some (.slice e))(U:Uv cx e=some sz)(X:Qx cx e=some z)
  (h4:cx.P.info? e=some i) (hs:Ef.wp w.heap K (.mkslice sz i.bytes z.cells) [p,q]) :
  ∃v w',(Instr.makeSlice t p q).run cx.P w = .ok v w'/\Same w w'/\K v w'.heap:=by
 obtain⟨j,l,k,c,rfl,rfl,h0,aa,hc,hb,hk⟩:=Z75 hs;have H:IntKind.i64.wrap l=l:=by rw[IntKind.wrap_i64];omega
 have I:IntKind.i64.wrap c=c:=by rw[IntKind.wrap_i64];omega
 refine⟨_,{ w with heap:=w.heap.push (.cells (Xv z.cells (c.toNat * sz)) e) },?_,⟨rfl,rfl,rfl,Xi4 _⟩,hk e⟩;have J:¬(c<0):=by omega
 have O:¬(l<0):=by omega
 have G:¬(c<l):=by omega
 have R:¬(281474976710656<(i.bytes:Int) * c):=by omega
 by_cases hz:c.toNat * sz=0
 ·simp[Instr.makeSlice,run_underlying h1,asInt,asIntOf,typeInfo,h4,H,I,J,O,G,R,Xx U,hz,newRow,Xv]
  congr 2;apply Xkp<;>simp
 simp[Instr.makeSlice,run_underlying h1,asInt,asIntOf,typeInfo,h4,H,I,J,O,G,R,Xx U,hz,Vp X,newRow,Xv]
def Z1y{t H e:TypeId}{r:Option Operand}{ρ:Operand->cR}{K:Ze}(h1:cx.P.underlying t=some (.map H e))(G:Ef.wp w.heap K .mkmap (r.toList.map ρ)):
  ∃v w',(Instr.makeMap t (r.map ρ)).run cx.P w = .ok v w'/\Same w w'/\K v w'.heap:=by
 refine⟨.map (some w.heap.size),{ w with heap:=w.heap.push (.map #[] 0) },?_,⟨rfl,rfl,rfl,Xi4 _⟩,?_⟩
 ·cases r with
  |none=>simp[Instr.makeMap,newObj,Sem.run]
  |some x =>
   simp only[Option.toList_some,Xjx,Xkv] at G
   cases hx:ρ x<;>rw[hx] at G<;>first|exact G.elim|skip
   rename_i k n;simp[Instr.makeMap,run_underlying h1,asInt,asIntOf,hx,newObj,Sem.run]
 ·cases r with
  |none=>exact G
  |some x =>
   simp only[Option.toList_some,Xjx,Xkv] at G
   cases hx:ρ x<;>rw[hx] at G<;>first|exact G.elim|exact G
def Znp:∀{xs G:Zc},Z9 xs G=some true->xs=G/\∀d,((xs.zip G).all fun(x,y)=>Instr.sameBits (d+1) x y)=true:=by
 intro xs
 induction xs with
 |nil =>
  intro G h
  cases G with
  |nil=>exact⟨rfl,fun d=>rfl⟩
  |cons y G=>cases h
 |cons x xs I =>
  intro G h
  cases G with
  |nil=>cases x<;>cases h
  |cons y G =>
   cases x with
   |int k a =>
    cases y with
    |int j b =>
     have h:(if k=j then (Z9 xs G).map fun c=>(a == b) && c else none)=some true:=h;by_cases H:k=j
     ·subst H;rw[if_pos rfl,Xi5] at h;obtain⟨c,hc,hb⟩:=h;simp only[Xjf,beq_iff_eq] at hb;obtain⟨rfl,rfl⟩:=hb;obtain⟨rfl,J⟩:=I hc;refine⟨rfl,fun d=>?_⟩;simp only[Xm0,Xlo,J d,Bool.and_true];simp[Instr.sameBits]
     rw[if_neg H] at h;cases h
    |_=>cases h
   |_=>cases h
def Zvd{G:Option Nat}{x y:Zj}(h:Zce G x y=some true):x=y/\∀d,Instr.sameBits (d+2) y x=true:=by
 rcases Zbh h with⟨j,p,q,_,rfl,rfl,hb⟩|⟨n,xs,H,_,rfl,rfl,_,_,I⟩
 ·have:p=q:=by simpa using hb.symm
  subst this;exact⟨rfl,fun d=>by simp[Instr.sameBits]⟩
 obtain⟨h4,J⟩:=Znp I;have:xs=H:=Array.toList_inj.1 h4;subst this;refine⟨rfl,fun d=>?_⟩;rw[show d+2=(d+1)+1 from rfl,Instr.sameBits];simp only[beq_self_eq_true,Bool.true_and];exact J d
def Z5s{H:Option Nat}{x:Zj}:∀{G:List MapEntry}{i j:Nat}{v:Zj},Uf H x G i=some (some (j,v))->i<=j/\∃e,G[j-i]? = some e/\Zce H x e.key=some true:=by
 intro G
 induction G with
 |nil=>intro i j v h;cases h
 |cons e G I =>
  intro i j v h;unfold Uf at h
  split at h
  ·rename_i hb
   cases h
   exact⟨Xi4 _,e,by simp,hb⟩
  ·obtain⟨h1,J,O,R⟩:=I h;refine⟨by omega,J,?_,R⟩;rw[show j-i=(j-(i+1))+1 by omega];simpa using O
  cases h
def Z0o{G new:Zj}(h:∀d,Instr.sameBits (d+2) G new=true):(Instr.keyThatStays G new).run cx.P w = .ok new w:=by
 have:=h 9998;unfold Instr.keyThatStays;rw[if_pos this]
 rfl
def Zm1{r:Nat}{H:Array MapEntry}{G:Nat}(o:Obj)(hb:w.heap[r]? = some (.map H G)):(setObj r o).run cx.P w = .ok () { w with heap:=w.heap.setIfInBounds r o }:=by
 simp[setObj,Sem.run,hb]
def Zwb{h:Zk}{K:Ze}{O:Option Nat}{p q x:Zj}(I:Ef.wp h K (.mupd O) [p,q,x]):
  ∃r H G a,p = .map (some r)/\h[r]? = some (.map H G)/\Zb3 O q=true/\Uf O q H.toList 0=some a /\
   match a with
   |some (i,_)=>K undef (h.setIfInBounds r (.map (H.modify i fun e=>{ e with key:=q,val:=x }) G))
   |none=>K undef (h.setIfInBounds r (.map (H.push { key:=q,val:=x,born:=G }) (G+1))):=by
 cases p<;>first|exact I.elim|skip
 rename_i r
 cases r with
 |none=>exact I.elim
 |some r =>
  simp only[Ef.wp] at I
  split at I
  ·rename_i H G hb;obtain⟨h1,J⟩:=I
   split at J
   ·rename_i i v hf;exact⟨r,H,G,some (i,v),rfl,hb,h1,hf,J⟩
   ·rename_i hf;exact⟨r,H,G,none,rfl,hb,h1,hf,J⟩
   exact J.elim
  exact I.elim
def Z68{t U e:TypeId}{X:Option Nat}{p q x:Zj}{K:Ze}(h1:cx.P.underlying t=some (.map U e))(I:Zaj cx U=some X)(hs:Ef.wp w.heap K (.mupd X) [p,q,x]):
  ∃w',(Instr.mapUpdate t p q x).run cx.P w = .ok () w'/\Same w w'/\K undef w'.heap:=by
 obtain⟨r,H,G,a,rfl,hb,hq,hf,hk⟩:=Zwb hs
 cases a with
 |none =>
  refine⟨{ w with heap:=w.heap.setIfInBounds r (.map (H.push { key:=q,val:=x,born:=G }) (G+1)) },?_,⟨rfl,rfl,rfl,Xi4 _⟩,hk⟩;simp[Instr.mapUpdate,run_underlying h1,Zcl r H G hb,Zac _ I hq,Zbi I hf,Zm1 _ hb]
 |some a =>
  obtain⟨i,v⟩:=a;refine⟨{ w with heap:=w.heap.setIfInBounds r (.map (H.modify i fun e=>{ e with key:=q,val:=x }) G) },?_,⟨rfl,rfl,rfl,Xi4 _⟩,hk⟩;obtain⟨_,e',he,J⟩:=Z5s hf;obtain⟨aa,O⟩:=Zvd J;have R:H[i]? = some e':=by simpa using he
  simp[Instr.mapUpdate,run_underlying h1,Zcl r H G hb,Zac _ I hq,Zbi I hf,R,Z0o O,Zm1 _ hb]
def Xaj{I J e:TypeId}{p:Zj}{K:Ze}(h1:cx.P.underlying I=some .string)(U:cx.P.underlying J=some (.slice e))(X:cx.P.underlying e=some (.int .u8))
  (H:Ef.wp w.heap K .s2b [p]):∃v w',(convert I J p).run cx.P w = .ok v w'/\Same w w'/\K v w'.heap:=by
 cases p with
 |string s =>
  have H:∀(t:TypeId)(G:Nat),s.size<=G->K (.slice (some ⟨w.heap.size,0,none⟩) s.size G)
    (w.heap.push (.cells ((s.data.map fun b=>Value.int .u8 b.toNat)++Array.replicate (G-s.size) (.int .u8 0)) t (G,G+1))):=H
  have R:=run_bytes_of_string (P:=cx.P) w I J e s h1 U X;have hge:=grownCap_ge w s.size 0 e;have O:(bytesRow s (grownCap w s.size 0 e)).size=grownCap w s.size 0 e:=by
   have:s.data.size=s.size:=rfl;simp[bytesRow];omega
  rw[O] at R;refine⟨_,_,R,⟨rfl,rfl,rfl,Xl1 _⟩,?_⟩;exact H e (grownCap w s.size 0 e) hge
 |_=>exact H.elim
def Z82{H e:TypeId}{p:Zj}{K:Ze}(h1:cx.P.underlying H=some (.slice e))(U:cx.P.underlying e=some (.int .u8))
  (G:Ef.wp w.heap K .b2b [p]):∃v w',(convert H H p).run cx.P w = .ok v w'/\Same w w'/\K v w'.heap:=by
 cases p with
 |slice a n c =>
  cases a with
  |none=>exact G.elim
  |some a =>
   simp only[Ef.wp] at G
   split at G
   ·rename_i cs t hb;have I:w.shape? a.block=some (t,cs.size):=by
     unfold World.shape?;rw[hb]
    have J:(w.freeze ⟨a.block,cs.size,none⟩ 1).heap=w.heap.modify a.block fun _=>.cells cs t (cs.size,cs.size+1):=by
     unfold World.freeze;rw[if_neg (by decide)];simp only;have O:=(Array.getElem?_eq_some_iff.1 hb)
     apply Xkp
     ·simp
     intro i X g2;simp only[Array.getElem_modify];by_cases R:a.block=i
     ·subst R;obtain⟨_,hv⟩:=O;simp[hv]
     simp[R]
    refine⟨.slice (some a) n c,w.freeze ⟨a.block,cs.size,none⟩ 1,?_,⟨?_,?_,?_,?_⟩,?_⟩
    ·simp[convert,run_underlying h1,run_underlying U,markStringish,I]
    ·unfold World.freeze;rw[if_neg (by decide)]
    ·unfold World.freeze;rw[if_neg (by decide)]
    ·unfold World.freeze;rw[if_neg (by decide)]
    ·unfold World.freeze;rw[if_neg (by decide)];exact Xi4 _
    rw[J];exact G
   exact G.elim
 |_=>exact G.elim
def Zkf{sz n:Nat}{x:Zj}{l:Zc}(G:Wi w.heap sz n x=some l)(w':World)(H:w'.heap=w.heap):(Builtin.firstCells sz n x).run cx.P w' = .ok l.toArray w':=by
 cases x with
 |slice a m c =>
  cases a with
  |none=>have G:some []=some l:=G;cases G;rfl
  |some a =>
   obtain⟨b,o,s⟩:=a
   cases s with
   |none=>exact Zap (by rw[H];exact G)
   |some s =>
    have G:(if n=0 then some [] else none)=some l:=G
    split at G
    ·rename_i h0
     cases G
     subst h0;simp[Builtin.firstCells,loadCells,loadCellsFrom]
    cases G
 |string s =>
  have G:some ((s.extract 0 n).data.toList.map fun b:UInt8=>Value.int .u8 b.toNat)=some l:=G
  cases G
  simp only[Builtin.firstCells,Sem.run_pure]
  congr 1
  apply Xjb;simp
 |_=>cases G
def Zfo{x:Zj}{m:Nat}(G:Zfa x=some m):(Builtin.lenOf x).run cx.P w = .ok m w:=by
 cases x<;>cases G<;>rfl
def Zmy{Zll c bytes:Nat}(h:¬Zll<=c)(hb:Zll * bytes<=140737488355328):Builtin.nextslicecap Zll c * bytes<=281474976710656:=by
 exact growslice_fits (by omega) hb
def Zq5{h:Zk}{K:Ze}{sz bytes:Nat}{zero:Array cR}{p x:Zj}(H:Ef.wp h K (.append sz bytes zero) [p,x]):
  ∃a n c m nw,p = .slice a n c/\Zfa x=some m/\Wi h sz m x=some nw /\
   (if n+m<=c then
    match a with
    |some ⟨b,o,none⟩ =>
     match hst h b (o+n * sz) nw with
     |some h'=>K (.slice a (n+m) c) h'
     |none=>False
    |none=>K (.slice none (n+m) c) h
    |_=>False
   else
    n+m<=9223372036854775807/\(n+m) * bytes<=140737488355328 /\
    match Wi h sz n (.slice a n c) with
    |some J=>∀(t:TypeId)(I:Nat),n+m<=I->I<=9223372036854775807 ->
      K (.slice (some ⟨h.size,0,none⟩) (n+m) I) (h.push (.cells (J.toArray++nw.toArray++Builtin.zeroCells zero (I-(n+m))) t))
    |none=>False):=by
 cases p with
 |slice a n c =>
  simp only[Ef.wp] at H
  cases O:Zfa x with
  |none=>rw[O] at H;exact H.elim
  |some m =>
   rw[O] at H;simp only at H
   cases G:Wi h sz m x with
   |none=>rw[G] at H;exact H.elim
   |some nw =>
    rw[G] at H;exact⟨a,n,c,m,nw,rfl,rfl,G,H⟩
 |_=>exact H.elim
def Zv5{t u e ty:TypeId}{du:TypeDesc}{sz:Nat}{z:Zj}{i:TypeInfo}{p x:Zj}{K:Ze}(h1:cx.P.underlying t=some (.slice e))(X:cx.P.underlying u=some du)
  (ag:∀k,du≠.int k) (h2:Uv cx e=some sz) (h3:Qx cx e=some z)
  (h4:cx.P.info? e=some i) (aa:i.bytes≠0) (G:Ef.wp w.heap K (.append sz i.bytes z.cells) [p,x]) :
  ∃v w',(Builtin.append_ #[t,u] ty #[p,x]).run cx.P w = .ok v w'/\Same w w'/\K v w'.heap:=by
 obtain⟨a,n,c,m,nw,rfl,hl,J,G⟩:=Zq5 G;have H:=Zkf (cx:=cx) J;by_cases I:n+m<=c
 ·rw[if_pos I] at G
  cases a with
  |none =>
   refine⟨.slice none (n+m) c,w,?_,Same.refl w,G⟩;simp[Builtin.append_,run_underlying h1,run_underlying X,Xx h2,Zfo hl,I,H w rfl]
  |some a =>
   obtain⟨b,o,s⟩:=a
   cases s with
   |some s=>exact G.elim
   |none =>
    simp only at G
    cases hh:hst w.heap b (o+n * sz) nw with
    |none=>rw[hh] at G;exact G.elim
    |some h' =>
     rw[hh] at G;obtain⟨w',g1,g2,g3⟩:=Zj9 (cx:=cx) nw 0 w b (o+n * sz) h' (by simpa using hh);refine⟨_,w',?_,g2,by rw[g3];exact G⟩;simp[Builtin.append_,run_underlying h1,run_underlying X,Xx h2,Zfo hl,I,H w rfl,Addr.add_lit,g1]
 rw[if_neg I] at G;obtain⟨ah,ab,G⟩:=G
 cases ho:Wi w.heap sz n (.slice a n c) with
 |none=>rw[ho] at G;exact G.elim
 |some ac =>
  rw[ho] at G;have O:=Zkf (cx:=cx) ho;have hge:=grownCap_ge w (n+m) c e;have ad:=grownCap_le_maxLen w (n+m) c e (by simp only[maxLen];omega);have R:¬(9223372036854775807<((n:Int)+(m:Int))):=by omega
  have U:¬(281474976710656<Builtin.nextslicecap (n+m) c * i.bytes):=by have:=Zmy I ab;omega
  refine⟨_,w.drew.alloc (.cells (ac.toArray++nw.toArray++Builtin.zeroCells z.cells (grownCap w (n+m) c e-(n+m))) e),?_,⟨rfl,rfl,rfl,Xl1 _⟩,
   G e (grownCap w (n+m) c e) hge (by simp only[maxLen] at ad;omega)⟩
  have ae:=O w.drew rfl;have af:=H w.drew rfl;simp[Builtin.append_,run_underlying h1,run_underlying X,Xx h2,Zfo hl,I,typeInfo,h4,R,U,aa,Question.forced,ae,af,Vp h3,newRow,grownCap]
  congr 2
  apply Xjb;simp[Xje]
def Zx5{h:Zk}{K:Ze}{sz bytes:Nat}{zero:Array cR}{p x:Zj}(H:Ef.wp h K (.appz sz bytes zero) [p,x]):
  ∃a n c l,p = .slice a n c/\x = .int .i64 l/\0<l/\c<n+l.toNat/\n+l.toNat<=9223372036854775807/\(n+l.toNat) * bytes<=140737488355328 /\
    ∃G,Wi h sz n (.slice a n c)=some G/\∀(t:TypeId)(I:Nat),n+l.toNat<=I->I<=9223372036854775807 ->
      K (.slice (some ⟨h.size,0,none⟩) (n+l.toNat) I) (h.push (.cells (G.toArray++Builtin.zeroCells zero l.toNat++Builtin.zeroCells zero (I-(n+l.toNat))) t)):=by
 cases p with
 |slice a n c =>
  cases x with
  |int k l =>
   cases k with
   |i64 =>
    obtain⟨h1,R,U,h4,J⟩:=H
    cases O:Wi h sz n (.slice a n c) with
    |none=>rw[O] at J;exact J.elim
    |some G =>
     rw[O] at J;exact⟨a,n,c,l,rfl,rfl,h1,R,U,h4,G,O,J⟩
   |_=>exact H.elim
  |_=>exact H.elim
 |_=>exact H.elim
def Z47{t u e ty:TypeId}{q:IntKind}{sz:Nat}{z:Zj}{i:TypeInfo}{p x:Zj}{K:Ze}(h1:cx.P.underlying t=some (.slice e))(h5:cx.P.underlying u=some (.int q))
  (h2:Uv cx e=some sz) (h3:Qx cx e=some z) (h4:cx.P.info? e=some i) (hz:z.cells.size=sz) (U:i.bytes≠0) (ah:sz≠0) (R:Ef.wp w.heap K (.appz sz i.bytes z.cells) [p,x]) :
  ∃v w',(Builtin.append_ #[t,u] ty #[p,x]).run cx.P w = .ok v w'/\Same w w'/\K v w'.heap:=by
 obtain⟨a,n,c,l,rfl,rfl,hl,hr,X,H,aa,ho,R⟩:=Zx5 R;obtain⟨m,rfl⟩:∃m:Nat,l=m:=⟨l.toNat,by omega⟩
 simp only[Xi8] at hr X H R;have I:=Zkf (cx:=cx) ho;have hge:=grownCap_ge w (n+m) c e;have ab:=grownCap_le_maxLen w (n+m) c e (by simp only[maxLen];omega);have J:¬(9223372036854775807<((n:Int)+(m:Int))):=by omega
 have O:¬(281474976710656<Builtin.nextslicecap (n+m) c * i.bytes):=by have:=Zmy (c:=c) (Zll:=n+m) (by omega) H;omega
 have ac:IntKind.i64.wrap (m:Int)=(m:Int):=by
  have e:(m:Int) % (2 ^ 64:Int)=m:=Int.emod_eq_of_lt (by omega) (by omega);have hd:IntKind.i64.wrap (m:Int)=if true && decide ((m:Int) % (2 ^ 64:Int)>=(2 ^ 63:Int)) then (m:Int) % (2 ^ 64:Int)-2 ^ 64 else (m:Int) % (2 ^ 64:Int):=rfl
  rw[hd];simp only[e];rw[if_neg (by simp;omega)]
 have ai:m * i.bytes<=(n+m) * i.bytes:=Xkm _ (by omega);have G:¬(281474976710656<(m:Int) * (i.bytes:Int)):=by
  have:((m * i.bytes:Nat):Int)=(m:Int) * (i.bytes:Int):=Int.natCast_mul ..;omega
 have ad:¬m * sz=0:=by
  intro h0;rcases Nat.mul_eq_zero.1 h0 with h|h<;>omega
 have ae:¬((m:Int)<0):=by omega
 have af:¬n+m<=c:=by omega
 refine⟨_,w.drew.alloc (.cells (aa.toArray++Builtin.zeroCells z.cells m++Builtin.zeroCells z.cells (grownCap w (n+m) c e-(n+m))) e),?_,⟨rfl,rfl,rfl,Xl1 _⟩,
  R e (grownCap w (n+m) c e) hge (by simp only[maxLen] at ab;omega)⟩
 have ag:=I w.drew rfl;simp[Builtin.append_,run_underlying h1,run_underlying h5,Xx h2,asInt,asIntOf,ac,ae,G,af,typeInfo,h4,J,O,U,ad,Question.forced,ag,Vp h3,newRow,grownCap]
def Zxv{h:Zk}{K:Ze}{sz:Nat}{p x:Zj}(H:Ef.wp h K (.copy sz) [p,x]):
  ∃a n c m nw,p = .slice a n c/\Zfa x=some m/\Wi h sz (min m n) x=some nw /\
   (match a with
    |some ⟨b,o,none⟩ =>
     match hst h b o nw with
     |some h'=>K (.int .i64 (min m n:Nat)) h'
     |none=>False
    |none=>K (.int .i64 (min m n:Nat)) h
    |_=>False):=by
 cases p with
 |slice a n c =>
  simp only[Ef.wp] at H
  cases I:Zfa x with
  |none=>rw[I] at H;exact H.elim
  |some m =>
   rw[I] at H;simp only at H
   cases G:Wi h sz (min m n) x with
   |none=>rw[G] at H;exact H.elim
   |some nw =>
    rw[G] at H;exact⟨a,n,c,m,nw,rfl,rfl,G,H⟩
 |_=>exact H.elim
def Z5r{t e ty:TypeId}{ts:List TypeId}{sz:Nat}{p x:Zj}{K:Ze}(h1:cx.P.underlying t=some (.slice e))(O:Uv cx e=some sz)
  (G:Ef.wp w.heap K (.copy sz) [p,x]) :
  ∃v w',(Builtin.copy_ (t::ts).toArray ty #[p,x]).run cx.P w = .ok v w'/\Same w w'/\K v w'.heap:=by
 obtain⟨a,n,c,m,nw,rfl,R,I,G⟩:=Zxv G;have H:=Zkf (cx:=cx) I
 cases a with
 |none =>
  refine⟨_,w,?_,Same.refl w,G⟩;simp[Builtin.copy_,run_underlying h1,Xx O,Zfo R,H w rfl,goInt]
 |some a =>
  obtain⟨b,o,s⟩:=a
  cases s with
  |some s=>exact G.elim
  |none =>
   simp only at G
   cases J:hst w.heap b o nw with
   |none=>rw[J] at G;exact G.elim
   |some h' =>
    rw[J] at G;obtain⟨w',U,g2,X⟩:=Zj9 (cx:=cx) nw 0 w b o h' (by simpa using J);refine⟨_,w',?_,g2,by rw[X];exact G⟩;simp[Builtin.copy_,run_underlying h1,Xx O,Zfo R,H w rfl,goInt,U]
def Xa0{t e ty:TypeId}{sz:Nat}{z:Zj}{p:Zj}{K:Ze}(h1:cx.P.underlying t=some (.slice e))(I:Qx cx e=some z)
  (G:Ef.wp w.heap K (.clr sz z.cells) [p]):∃v w',(Builtin.clear_ #[t] ty #[p]).run cx.P w = .ok v w'/\Same w w'/\K v w'.heap:=by
 cases p with
 |slice a n c =>
  cases a with
  |none=>exact⟨.tuple #[],w,by simp[Builtin.clear_,run_underlying h1],Same.refl w,G⟩
  |some a =>
   obtain⟨b,o,s⟩:=a
   cases s with
   |some s=>exact G.elim
   |none =>
    have G:(if n=0 then K undef w.heap else match hst w.heap b o (Builtin.zeroCells z.cells n).toList with|some h'=>K undef h'|none=>False):=G;by_cases h0:n=0
    ·rw[if_pos h0] at G;subst h0;exact⟨.tuple #[],w,by simp[Builtin.clear_,run_underlying h1],Same.refl w,G⟩
    rw[if_neg h0] at G
    cases H:hst w.heap b o (Builtin.zeroCells z.cells n).toList with
    |none=>rw[H] at G;exact G.elim
    |some h' =>
     rw[H] at G;obtain⟨w',J,g2,O⟩:=Zj9 (cx:=cx) _ 0 w b o h' (by simpa using H);refine⟨.tuple #[],w',?_,g2,by rw[O];exact G⟩;have R:n≠0:=h0;obtain⟨n',rfl⟩:∃n',n=n'+1:=⟨n-1,by omega⟩
     simp[Builtin.clear_,run_underlying h1,Vp I,J]
 |_=>exact G.elim
def Xc6 {o:Oper} {ρ:Operand->cR} {f:Ef} {xs:List Operand} {K:Ze} (hρ:∀ v,ρ (.const v)=v)
  (G:Zee cx o.op=some (.ef f,xs)) (R:f.wp w.heap K (xs.map ρ)):Leaves cx (execOp ρ o) w K:=by
 unfold execOp
 cases ho:o.op <;> simp only [ho,Zee] at G ⊢
 case alloc t =>
  simp only [Xi5,Prod.mk.injEq,Kd.ef.injEq] at G;obtain ⟨z,hz,rfl,rfl⟩:=G;have R:∀ t:TypeId,K (.pointer (some ⟨w.heap.size,0,none⟩)) (w.heap.push (.cells (ρ (.const z)).cells t)):=R;refine Zch (v:=.pointer (some ⟨w.heap.size,0,none⟩)) (w':={ w with heap:=w.heap.push (.cells z.cells t) }) ?_ ⟨rfl,rfl,rfl,Xi4 _⟩ ?_
  ·simp only [Instr.alloc,Sem.run_bind,Vp hz,Result.andThen_ok];simp [newVar,newRow]
  have:=R t;rw [hρ] at this;exact this
 case box t x =>
  cases G
  obtain ⟨v,w',h1,H,O⟩:=Xae (cx:=cx) (t:=t) R;exact Zch h1 H O
 case buildSlice t len ps =>
  split at G
  ·rename_i e h1
   split at G
   ·rename_i sz z H O
    split at G
    ·rename_i h4
     cases G
     obtain ⟨v,w',I,g2,J⟩:=Zww h1 H O h4 R;exact Zch I g2 J
    cases G
   cases G
  cases G
 case store t a v =>
  simp only [Xi5,Prod.mk.injEq,Kd.ef.injEq] at G;obtain ⟨n,h1,rfl,rfl⟩:=G;obtain ⟨w',I,g2,J⟩:=Z2n h1 R;exact Zu3 I g2 J
 case convert sT dT x =>
  split at G
  ·cases G
  ·split at G <;> cases G
  ·rename_i e h1 H
   split at G
   ·rename_i O
    cases G
    obtain ⟨v,w',I,g2,J⟩:=Xaj h1 H O R;exact Zch I g2 J
   cases G
  ·rename_i e h1 H
   split at G
   ·rename_i ab
    split at G
    ·rename_i O
     cases G
     subst ab;obtain ⟨v,w',I,g2,J⟩:=Z82 H O R;exact Zch I g2 J
    cases G
   cases G
  cases G
 case makeSlice t l c =>
  split at G
  ·rename_i e h1
   split at G
   ·rename_i sz z i H O h4
    cases G
    obtain ⟨v,w',I,g2,J⟩:=Ztn h1 H O h4 R;exact Zch I g2 J
   cases G
  cases G
 case makeMap t r =>
  split at G
  ·rename_i kt e h1
   cases G
   obtain ⟨v,w',I,g2,J⟩:=Z1y h1 R;exact Zch I g2 J
  cases G
 case mapUpdate t m k x =>
  split at G
  ·rename_i kt e h1;simp only [Xi5,Prod.mk.injEq,Kd.ef.injEq] at G;obtain ⟨n,H,rfl,rfl⟩:=G;obtain ⟨w',I,g2,J⟩:=Z68 h1 H R;exact Zu3 I g2 J
  cases G
 case lookup t m k ad =>
  split at G
  ·split at G <;> cases G
  cases G
 case call c =>
  obtain ⟨callee,args,argTypes⟩:=c;simp only at G
  split at G
  ·split at G
   ·cases G
   ·simp [Xi5] at G
  ·cases G
  ·split at G
   ·split at G <;> cases G
   cases G
  ·split at G
   ·split at G <;> cases G
   cases G
  ·split at G <;> cases G
  ·split at G <;> cases G
  ·split at G
   ·rename_i t u x y ht U;have ht:argTypes=#[t,u]:=by apply Xjb;simpa using ht
    have U:args=#[x,y]:=by apply Xjb;simpa using U
    subst ht;subst U
    split at G
    ·rename_i e du h1 h5;have aa:∀ {sz z i},Uv cx e=some sz->Qx cx e=some z->cx.P.info? e=some i->(∀ k,du≠.int k)->(if z.cells.size=sz/\i.bytes≠0 then some (Kd.ef (Ef.append sz i.bytes z.cells),[x,y]) else none)=some (Kd.ef f,xs) ->
       Leaves cx (do let d <-resolve ρ { callee:=.builtin .append,args:=#[x,y],argTypes:=#[t,u] } o.type;invoke d.target d.args) w K:=by
      intro sz z i H O h4 ac G
      split at G
      ·rename_i X
       cases G
       obtain ⟨v,w',I,g2,J⟩:=Zv5 (ty:=o.type) h1 h5 ac H O h4 X.2 R;refine ⟨.value v,v,w',?_,.inl rfl,g2,J⟩;simp [resolve,invoke,builtin,I]
      cases G
     split at G
     ·rename_i H O h4;exact aa H O h4 (by simp) G
     ·rename_i H O h4;exact aa H O h4 (by simp) G
     ·rename_i H O h4
      split at G
      ·rename_i X
       cases G
       obtain ⟨v,w',I,g2,J⟩:=Z47 (ty:=o.type) h1 h5 H O h4 X.1 X.2.1 X.2.2 R;refine ⟨.value v,v,w',?_,.inl rfl,g2,J⟩;simp [resolve,invoke,builtin,I]
      cases G
     cases G
    cases G
   cases G
  ·split at G
   ·rename_i t x ht U;have ht:argTypes=#[t]:=by apply Xjb;simpa using ht
    have U:args=#[x]:=by apply Xjb;simpa using U
    subst ht;subst U
    split at G
    ·rename_i e h1
     split at G
     ·rename_i sz z H O
      cases G
      obtain ⟨v,w',I,g2,J⟩:=Xa0 (ty:=o.type) h1 O R;refine ⟨.value v,v,w',?_,.inl rfl,g2,J⟩;simp [resolve,invoke,builtin,I]
     cases G
    cases G
   cases G
  ·split at G
   ·rename_i t ts x y ht U;have ht:argTypes=(t::ts).toArray:=by apply Xjb;simpa using ht
    have U:args=#[x,y]:=by apply Xjb;simpa using U
    subst ht;subst U
    split at G
    ·rename_i e h1;simp only [Xi5,Prod.mk.injEq,Kd.ef.injEq] at G;obtain ⟨sz,H,rfl,rfl⟩:=G;obtain ⟨v,w',I,g2,J⟩:=Z5r (ty:=o.type) (ts:=ts) h1 H R;refine ⟨.value v,v,w',?_,.inl rfl,g2,J⟩;simp [resolve,invoke,builtin,I]
    cases G
   cases G
  cases G
 case binOp op t x y yt =>
  simp only [Xi5,Prod.mk.injEq] at G;obtain ⟨k,G,rfl,rfl⟩:=G;unfold Zfy at G
  split at G
  ·unfold Zc5 at G;split at G <;> first | (cases G;done) | (split at G <;> cases G)
  ·unfold Zc5 at G;split at G <;> first | (cases G;done) | (split at G <;> cases G)
  split at G <;> cases G
 case field t x f =>
  split at G
  ·simp only [Xjg] at G;obtain ⟨fd,H,G⟩:=G
   split at G
   ·split at G
    ·simp [Xi5] at G
    cases G
   cases G
  cases G
 all_goals first
  | (cases G;done)
  | ((repeat' split at G) <;> simp_all [Xi5,Xjg])
end ops
def Yg(nm:Zd)(a:Act):Zc:=nm.map fun s=>a.tmps.getD s undef
def Xw.lt(d:Nat):Xw->Prop
 |.t j=>j<d
 |_=>True
structure Wf(cx:Cx):Prop where
 nodup:cx.nm.Nodup
 lt:∀s∈cx.nm,s<cx.nt
structure St(cx:Cx)(Y:Sys)(m:SM)(d:Nat)(a:Act)(T:Zc):Prop where
 defers:a.defers=[]
 size:a.tmps.size=cx.nt
 len:T.length=d
 rel:∀p∈m,p.2.ev Y (Yg cx.nm a) T=a.tmps.getD p.1 undef
 lt:∀p∈m,p.2.lt d
section
variable{cx:Cx}{Y:Sys}{w:World}{ops:Array Oper}{Q:Exit->Act->World->Prop}
def Z6i{o:Oper}{ρ:Operand->cR}{n:Nat}{xs:List Operand}(ok:Ok cx Y)(hρ:∀f,ρ (.func f) = .func (.func f) #[] #[])
  (G:Zee cx o.op=some (.call n,xs)):(execOp ρ o).run cx.P w = .ok (.enter (Y.fid n) (xs.map ρ).toArray) w:=by
 unfold execOp
 cases I:o.op<;>simp only[I,Zee] at G ⊢
 case call c =>
  obtain⟨callee,args,argTypes⟩:=c;simp only at G
  split at G
  ·rename_i f
   split at G
   ·cases G
   simp only[Xi5,Prod.mk.injEq,Kd.call.injEq] at G;obtain⟨j,J,rfl,rfl⟩:=G;obtain⟨H,R,hf,O,hb⟩:=ok.hf _ _ J;simp only[resolve,hρ,Deferred.ofValue,Sem.run_bind,Sem.run_pure,Result.andThen_ok,invoke,callFunc,run_program,hf,O,hb,Xjh,if_false];rw[H]
   congr 2
   apply Xjb;simp
  ·cases G
  all_goals ((repeat' split at G)<;>simp_all[Xi5])
 case binOp op t x y U =>
  simp only[Xi5,Prod.mk.injEq] at G;obtain⟨k,G,rfl,rfl⟩:=G;unfold Zfy at G
  split at G
  ·unfold Zc5 at G;split at G<;>first|(cases G;done)|(split at G<;>cases G)
  ·unfold Zc5 at G;split at G<;>first|(cases G;done)|(split at G<;>cases G)
  split at G<;>cases G
 case field t x f =>
  split at G
  ·simp only[Xjg] at G;obtain⟨X,h2,G⟩:=G
   split at G
   ·split at G
    ·simp[Xi5] at G
    cases G
   cases G
  cases G
 all_goals first
  |(cases G;done)
  |((repeat' split at G)<;>simp_all[Xi5,Xjg])
def Z03{o:Oper}{ρ:Operand->cR}{xs:List Operand}(ok:Ok cx Y)
  (G:Zee cx o.op=some (.callv,xs)):∃x r,xs=x::r/\∀f first cap,ρ x = .func (.func f) first cap->Y.able f ->
   (execOp ρ o).run cx.P w = .ok (.enter f (first.toList++r.map ρ++cap.toList).toArray) w:=by
 unfold execOp
 cases I:o.op<;>simp only[I,Zee] at G ⊢
 case call c =>
  obtain⟨callee,args,argTypes⟩:=c;simp only at G
  split at G
  ·split at G
   ·cases G
   ·simp[Xi5] at G
  ·rename_i x hx
   cases G
   refine⟨x,args.toList,rfl,?_⟩;intro f first cap hv H
   obtain⟨O,hf,J,hb⟩:=ok.able _ H;simp only[resolve,hv,Deferred.ofValue,Sem.run_bind,Sem.run_pure,Result.andThen_ok,invoke,callFunc,run_program,hf,J,hb,Xjh,if_false]
   congr 2
   apply Xjb;simp
  all_goals ((repeat' split at G)<;>simp_all[Xi5])
 case binOp op t x y R =>
  simp only[Xi5,Prod.mk.injEq] at G;obtain⟨k,G,rfl,rfl⟩:=G;unfold Zfy at G
  split at G
  ·unfold Zc5 at G;split at G<;>first|(cases G;done)|(split at G<;>cases G)
  ·unfold Zc5 at G;split at G<;>first|(cases G;done)|(split at G<;>cases G)
  split at G<;>cases G
 case field t x f =>
  split at G
  ·simp only[Xjg] at G;obtain⟨U,X,G⟩:=G
   split at G
   ·split at G
    ·simp[Xi5] at G
    cases G
   cases G
  cases G
 all_goals first
  |(cases G;done)
  |((repeat' split at G)<;>simp_all[Xi5,Xjg])
def Zi6{o:Option cR}{k:cR->Prop}(h:Zll o k):∃v,o=some v/\k v:=by
 cases o with
 |none=>exact h.elim
 |some v=>exact⟨v,rfl,h⟩
def Zjv{o:Oper}{a:Act}{k:Kd}{xs:List Operand}{as:List Xw}{ds:W1}{ins:Instr}{K:V2}{e T:Zc}{next:Act->World->Prop}(ok:Ok cx Y)
  (R:Zee cx o.op=some (k,xs)) (G:as.map (Xw.ev Y e T)=xs.map a.eval) (I:Zqs ds k as=some ins) (H:ins.wp Y K e T w.heap)
  (J:∀v w',Same w w'->K (ds.e v e) (ds.T v T) w'.heap->next (a.put o.dst v) w'):o.wp cx.P a w next Q:=by
 unfold Oper.wp
 cases k with
 |io io =>
  cases I
  obtain⟨v,hv,X⟩:=Zi6 H;rw[G] at hv;rw[Zpn ok (fun _=>rfl) R hv];exact J v w (Same.refl w) X
 |ef f =>
  cases I
  have H:f.wp w.heap (fun v h'=>K (ds.e v e) (ds.T v T) h') (as.map (Xw.ev Y e T)):=H;rw[G] at H;obtain⟨r,v,w',h1,U,h3,h4⟩:=Xc6 (ρ:=a.eval) (fun _=>rfl) R H;rw[h1];rcases U with rfl|⟨rfl,rfl⟩
  ·exact J v w' h3 h4
  exact J undef w' h3 h4
 |call n =>
  cases I
  have H:Y.C (Y.fid n) (as.map (Xw.ev Y e T)) w.heap (fun v h'=>K (ds.e v e) (ds.T v T) h'):=H;rw[G,ok.hC] at H;rw[Z6i ok (fun _=>rfl) R,Oper.upon_enter];refine (H w rfl).mono ?_;rintro e w' ⟨v,rfl,hr,hs⟩;exact J v w' hs hr
 |callv =>
  obtain⟨x,r,rfl,O⟩:=Z03 (w:=w) (ρ:=a.eval) ok R
  cases as with
  |nil=>cases I
  |cons x' r' =>
   cases I
   simp only[Xjx,Xl2] at G;simp only[Instr.wp,G.1,G.2] at H
   split at H
   ·rename_i f first cap hv
    obtain⟨h1,U⟩:=H;rw[O f first cap hv h1,Oper.upon_enter];rw[ok.hC] at U;refine (U w rfl).mono ?_;rintro e w' ⟨v,rfl,hr,hs⟩;exact J v w' hs hr
   exact H.elim
def Zdw{a:Act}{s i:Nat}(h:cx.nm.idxOf? s=some i):(Yg cx.nm a).getD i undef=a.tmps.getD s undef:=by
 have G:cx.nm[i]? = some s:=by
  rw[List.idxOf?_eq_some_iff] at h;obtain⟨H,I,_⟩:=h;rw[Xj3 H,I]
 simp[Yg,Xja,G]
def Zlq{m:SM}{d:Nat}{a:Act}{T:Zc}{x:Operand}{arg:Xw}(ok:Ok cx Y)(O:St cx Y m d a T)(G:rsv cx m x=some arg):
  arg.ev Y (Yg cx.nm a) T=a.eval x:=by
 cases x with
 |tmp s =>
  simp only[rsv] at G
  cases I:m.lookup s with
  |some b =>
   rw[I] at G
   cases G
   have H:(s,arg)∈m:=by
    have:∀(m:SM),m.lookup s=some arg->(s,arg)∈m:=by
     intro m
     induction m with
     |nil=>intro h;cases h
     |cons p m R =>
      intro h;obtain⟨t,b⟩:=p;simp only[Xl3] at h
      split at h
      ·rename_i hb
       cases h
       have:s=t:=by simpa using hb
       subst this;simp
      exact Xjt _ (R h)
    exact this m I
   exact O.rel _ H
  |none =>
   rw[I] at G;simp only[Xi5] at G;obtain⟨i,U,rfl⟩:=G;exact Zdw U
 |const v=>cases G;rfl
 |global g =>
  simp only[rsv,Xi5] at G;obtain⟨j,J,rfl⟩:=G;simp only[Xw.ev,ok.hg _ _ J]
  rfl
 |func f =>
  simp only[rsv,Xi5] at G;obtain⟨j,J,rfl⟩:=G;simp only[Xw.ev,(ok.hf _ _ J).1]
  rfl
def Z9f{m:SM}{d:Nat}{a:Act}{T:Zc}(ok:Ok cx Y)(H:St cx Y m d a T):∀{xs:List Operand}{as:List Xw},xs.mapM (rsv cx m)=some as ->
  as.map (Xw.ev Y (Yg cx.nm a) T)=xs.map a.eval:=by
 intro xs
 induction xs with
 |nil=>intro as h;simp at h;subst h;rfl
 |cons x xs I =>
  intro as h;simp only[Xk2,Xln,Xjg] at h;obtain⟨b,hb,O,G,J⟩:=h
  cases J
  simp[Zlq ok H hb,I G]
def V0{a:Act}{s:Nat}{v:Zj}(h:s<a.tmps.size):(a.put (some s) v).tmps.getD s undef=v:=by
 simp[Act.put,Xkx,h]
def Z8{a:Act}{s t:Nat}{v:Zj}(h:t≠s):(a.put (some s) v).tmps.getD t undef=a.tmps.getD t undef:=by
 simp[Act.put,Xkx,Array.getElem?_setIfInBounds_ne h.symm]
def Za5{a:Act}{s:Nat}{v:Zj}(h:s ∉ cx.nm):Yg cx.nm (a.put (some s) v)=Yg cx.nm a:=by
 unfold Yg;apply Xlp;intro t ht;exact Z8 (fun e=>h (e ▸ ht))
def Zhu{a:Act}{s i:Nat}{v:Zj}(I:Wf cx)(J:s<a.tmps.size)(h:cx.nm.idxOf? s=some i):
  Yg cx.nm (a.put (some s) v)=(Yg cx.nm a).set i v:=by
 rw[List.idxOf?_eq_some_iff] at h;obtain⟨R,H,_⟩:=h;apply Xjp
 ·simp[Yg]
 intro j h1 U;have X:j<cx.nm.length:=by simpa[Yg] using h1
 rw[Xky]
 split
 ·rename_i G;subst G;simp only[Yg,Xkd,H];exact V0 J
 rename_i G;simp only[Yg,Xkd];apply Z8;intro O;apply G;have:=I.nodup;exact (List.getElem_inj this).1 (H.trans O.symm)
def Z5w{x:Xw}{i:Nat}{e T:Zc}{v:Zj}(h:x.isN i=false):x.ev Y (e.set i v) T=x.ev Y e T:=by
 cases x with
 |n j =>
  have G:j≠i:=by simpa[Xw.isN] using h
  simp only[Xw.ev,Xja];rw[Xlb (fun e=>G e.symm)]
 |_=>rfl
def Zh5{x:Xw}{e T:Zc}{v:Zj}(h:x.lt T.length):x.ev Y e (T++[v])=x.ev Y e T:=by
 cases x with
 |t j =>
  have G:j<T.length:=h;simp only[Xw.ev,Xja,Xjm G]
 |_=>rfl
def Xw.lt_succ{x:Xw}{d:Nat}(h:x.lt d):x.lt (d+1):=by
 cases x with
 |t j=>exact Nat.lt_succ_of_lt h
 |_=>trivial
def Zb7(a:Act)(s:Option Tmp)(v:Zj):(a.put s v).defers=a.defers:=by cases s<;>rfl
def Ze0(a:Act)(s:Option Tmp)(v:Zj):(a.put s v).tmps.size=a.tmps.size:=by cases s<;>simp[Act.put]
def Zop{m m':SM}{d R:Nat}{a:Act}{T:Zc}{I:Option Tmp}{ds:W1}(U:Wf cx)(H:St cx Y m d a T)(h:Zoz cx m d I=some (ds,m',R))(v:Zj):
  St cx Y m' R (a.put I v) (ds.T v T)/\Yg cx.nm (a.put I v)=ds.e v (Yg cx.nm a):=by
 cases I with
 |none=>cases h;exact⟨H,rfl⟩
 |some s =>
  simp only[Zoz] at h
  split at h
  ·rename_i X;have hs':s<a.tmps.size:=by rw[H.size];exact X
   split at h
   ·rename_i i O
    cases h
    have G:=Zhu (v:=v) U hs' O;refine⟨⟨?_,?_,H.len,?_,?_⟩,G⟩
    ·rw[Zb7];exact H.defers
    ·rw[Ze0];exact H.size
    ·intro p hp;simp only[Xkq,Xjf,Xkw,bne_iff_ne,ne_eq] at hp;rw[G,Z8 hp.2.2];exact (Z5w hp.2.1).trans (H.rel p hp.1)
    intro p hp;simp only[Xkq] at hp;exact H.lt p hp.1
   rename_i O
   cases h
   have J:s ∉ cx.nm:=List.idxOf?_eq_none_iff.1 O;have G:=Za5 (v:=v) (a:=a) J;refine⟨⟨?_,?_,?_,?_,?_⟩,G⟩
   ·rw[Zb7];exact H.defers
   ·rw[Ze0];exact H.size
   ·simp[W1.T,H.len]
   ·intro p hp;rcases List.mem_cons.1 hp with rfl|hp
    ·simp only[Xw.ev,W1.T,V0 hs'];simp[<-H.len]
    simp only[Xkq,bne_iff_ne,ne_eq] at hp;rw[G,W1.T,Zh5 (by rw[H.len];exact H.lt p hp.1),H.rel p hp.1,Z8 hp.2]
   intro p hp;rcases List.mem_cons.1 hp with rfl|hp
   ·exact Xmh d
   simp only[Xkq] at hp;exact Xw.lt_succ (H.lt p hp.1)
  cases h
def gOk(Y:Sys)(e T:Zc):Option (Xw × Bool)->Bool
 |none=>true
 |some (x,want)=>gdB (x.ev Y e T) want
def Ztq{m:SM}{d:Nat}{a:Act}{T:Zc}{o:Oper}{g:Option (Xw × Bool)}(ok:Ok cx Y)(O:St cx Y m d a T)(h:Zby cx ops m o.guard=some g):
  Region.wanted o (yielded ops a.tmps)=gOk Y (Yg cx.nm a) T g:=by
 unfold Region.wanted
 cases I:o.guard with
 |none=>rw[I] at h;cases h;rfl
 |some R =>
  obtain⟨j,J⟩:=R;rw[I] at h;simp only[Zby,Xjg,Xi5] at h;obtain⟨s,⟨X,G,U⟩,x,hx,rfl⟩:=h;have H:=Zlq ok O hx;simp only[gOk,H,Act.eval,yielded,G,Xjq,U];rw[Xkx]
  cases ht:a.tmps[s]? with
  |none=>simp[gdB,undef]
  |some v =>
   simp only[Xlq]
   cases v<;>simp[gdB]
def Zxu{i:Nat}{m m':SM}{d d':Nat}{a:Act}{T:Zc}{o:Oper}{fl:List FI}{K:V2}{Kw:Act->World->Prop}(ok:Ok cx Y)(wf:Wf cx)
  (hi:ops[i]? = some o) (h:Zwx cx ops m d o=some (fl,m',d')) (O:St cx Y m d a T) (J:FL.wp Y K fl (Yg cx.nm a) T w.heap)
  (hn:∀a' T' w',St cx Y m' d' a' T'->Same w w'->K (Yg cx.nm a') T' w'.heap->Kw a' w'):wpOp cx.P ops Q i Kw a w:=by
 unfold Zwx at h
 split at h
 case h_2=>cases h
 rename_i g k xs hg hk
 split at h
 case h_2=>cases h
 rename_i as G;have R:=Z9f ok O G;have U:=Ztq ok O hg;unfold wpOp;simp only[hi]
 split at h
 ·rename_i s x I
  cases h
  have J:K (Yg cx.nm a) T w.heap:=J;replace I:=Z1g I;unfold Zhd at I
  split at I
  case h_2=>cases I
  rename_i x' s' aj X ad
  split at I
  case isFalse=>cases I
  rename_i ae
  cases I
  rw[aj] at hg
  cases hg
  rw[U];simp only[gOk,if_true];left
  cases k with
  |io io =>
   cases io with
   |mv =>
    match as,X with
    | [y],X =>
     cases X
     have hs':s<a.tmps.size:=by rw[O.size];exact ae.1
     have af:s ∉ cx.nm:=List.idxOf?_eq_none_iff.1 ae.2;have hv:Ym.cK Y w.heap .mv (xs.map a.eval)=some (x.ev Y (Yg cx.nm a) T):=by
      rw[<-R];rfl
     unfold Oper.wp;rw[Zpn ok (fun _=>rfl) hk hv];have aa:=Za5 (v:=x.ev Y (Yg cx.nm a) T) (a:=a) af;have ag:x.lt d:=by
      match xs,G with
      | [y],G =>
       simp only[Xk2,List.mapM_nil,Xln,Xjg] at G;obtain⟨b,hb,bs,am,he⟩:=G
       cases he
       cases y with
       |tmp t =>
        simp only[rsv] at hb
        cases hl:m.lookup t with
        |some b =>
         rw[hl] at hb
         cases hb
         have:∀(m:SM),m.lookup t=some x->(t,x)∈m:=by
          intro m
          induction m with
          |nil=>intro h;cases h
          |cons p m ih =>
           intro h;obtain⟨u,c⟩:=p;simp only[Xl3] at h
           split at h
           ·rename_i ak
            cases h
            have:t=u:=by simpa using ak
            subst this;simp
           exact Xjt _ (ih h)
         exact O.lt _ (this m hl)
        |none =>
         rw[hl] at hb;simp only[Xi5] at hb;obtain⟨i,_,rfl⟩:=hb
         trivial
       |const v=>cases hb;trivial
       |global g=>simp only[rsv,Xi5] at hb;obtain⟨i,_,rfl⟩:=hb;trivial
       |func g=>simp only[rsv,Xi5] at hb;obtain⟨i,_,rfl⟩:=hb;trivial
      | [],G=>simp at G
      |y::z::r,G =>
       simp only[Xk2,Xln,Xjg] at G;obtain⟨b,hb,bs,⟨c,hc,cs,an,al⟩,he⟩:=G
       cases al
       cases he
     refine hn (a.put o.dst _) T w ⟨?_,?_,O.len,?_,?_⟩ (Same.refl w) ?_
     ·rw[Zb7];exact O.defers
     ·rw[Ze0];exact O.size
     ·rw[ad];intro p hp;rcases List.mem_cons.1 hp with rfl|hp
      ·rw[aa,V0 hs']
      simp only[Xkq,bne_iff_ne,ne_eq] at hp;rw[aa,O.rel p hp.1,Z8 hp.2]
     ·intro p hp;rcases List.mem_cons.1 hp with rfl|hp
      ·exact ag
      simp only[Xkq] at hp;exact O.lt p hp.1
     rw[ad,aa];exact J
   |_=>simp[Xan] at X
  |_=>simp[Xan] at X
 split at h
 case h_2=>cases h
 rename_i ds m1 d1 hd;simp only[Xi5,Prod.mk.injEq] at h;obtain⟨ins,H,rfl,rfl,rfl⟩:=h;have J:FI.wp Y ⟨g,ins⟩ K (Yg cx.nm a) T w.heap:=J;have ah:ins.dst=ds:=by
  cases k with
  |io io=>cases H;rfl
  |ef f=>cases H;rfl
  |call f=>cases H;rfl
  |callv=>cases as with
   |nil=>cases H
   |cons y r=>cases H;rfl
 have ai:ins.wp Y K (Yg cx.nm a) T w.heap->o.wp cx.P a w Kw Q:=by
  intro J;refine Zjv ok hk R H J fun v w' hs hk=>?_;obtain⟨h1,h2⟩:=Zop wf O hd v;exact hn _ _ _ h1 hs (by rw[h2];exact hk)
 rw[U]
 cases g with
 |none =>
  simp only[gOk,if_true];exact .inl (ai J)
 |some gw =>
  obtain⟨x,ab⟩:=gw;simp only[FI.wp] at J
  split at J
  ·rename_i hb;have ac:gOk Y (Yg cx.nm a) T (some (x,ab))=true:=hb;rw[if_pos ac];exact .inl (ai J)
  rename_i hb;have ac:¬(gOk Y (Yg cx.nm a) T (some (x,ab))=true):=hb;rw[if_neg ac];obtain⟨h1,h2⟩:=Zop wf O hd undef;rw[ah] at J;exact hn _ _ _ h1 (Same.refl w) (by rw[h2];exact J)
def Zub(ok:Ok cx Y)(wf:Wf cx){K:Zc->Zk->Prop}:∀{l:Zd}{m:SM}{d:Nat}{a:Act}{T:Zc}{w:World}{H:List FI},
  Zz6 cx ops l m d=some H->St cx Y m d a T->FL.wp Y (fun e _ h=>K e h) H (Yg cx.nm a) T w.heap ->
  (∀a' w',a'.defers=[]->a'.tmps.size=cx.nt->Same w w'->K (Yg cx.nm a') w'.heap->Q .normal a' w')->wpOps cx.P ops Q l a w:=by
 intro l
 induction l with
 |nil =>
  intro m d a T w H h I J O
  cases h
  exact O a w I.defers I.size (Same.refl w) J
 |cons i r ih =>
  intro m d a T w H h I J O;simp only[Zz6] at h
  split at h
  ·cases h
  rename_i o ho
  split at h
  ·cases h
  rename_i f1 m1 d1 hs;simp only[Xi5] at h;obtain⟨f2,h2,rfl⟩:=h;rw[wpOps_cons];rw[FL.wp_append] at J;refine Zxu ok wf ho hs I J fun a' T' w' R G hk=>?_;exact ih h2 R hk fun U X g1 g2 g3 g4=>O U X g1 g2 (Same.trans G g3) g4
end
end Go.Rm
