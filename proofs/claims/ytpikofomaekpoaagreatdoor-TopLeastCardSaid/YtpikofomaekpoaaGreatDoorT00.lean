import Derived.Orders
import Derived.Laws.Sem
import Derived.Laws.Append
import Derived.KernelRfl
import Derived.Lib.Bytealg
import Derived.Laws.Entries
import Derived.Laws.BytesString
import Derived.Laws.IdiomCopy
import Derived.Laws.IdiomStrings
import Derived.Laws.AppendOwn
import Derived.Laws.Slices
import Derived.Laws.StructEq
import Derived.ChangeKeysEq
/- The small language. -/
set_option linter.unusedSimpArgs false
set_option linter.unusedVariables false
namespace Go.Rm
abbrev Za:=List (List Int)
abbrev Zb:=List Int
abbrev Zc:=List Value
abbrev Zd:=List Nat
abbrev Ze:=Value->Array Obj->Prop
abbrev Zf:=Nat->Prop
abbrev Zg:=Value.int .i64
abbrev Zh (b:Nat):=Value.pointer (some ⟨b,0,none⟩)
abbrev Zi:=Value.slice none 0 0
abbrev Xfy:=@Nat.le_refl
abbrev Xfz:=@Option.map_eq_some_iff
abbrev Xf0:=@Nat.lt_or_ge
abbrev Xf1:=@Int.toNat_natCast
abbrev Xf2:=@List.length_map
abbrev Xf3:=@Nat.eq_of_beq_eq_true
abbrev Xf4:=@Bool.and_eq_true
abbrev Xf5:=@List.getD_eq_getElem?_getD
abbrev Xf6:=@Array.ext'
abbrev Xf7:=@List.take_of_length_le
abbrev Xf8:=@Option.bind_eq_some_iff
abbrev Xf9:=@List.length_append
abbrev Xga:=@Bool.false_eq_true
abbrev Xgb:=@List.ext_getElem
abbrev Xgc:=@List.take_succ_eq_append_getElem
abbrev Xgd:=@Nat.mul_one
abbrev Xge:=@Nat.le_of_ble_eq_true
abbrev Xgf:=@List.getElem_mem
abbrev Xgg:=@List.mem_cons_of_mem
abbrev Xgh:=@List.getElem?_append_left
abbrev Xgi:=@Nat.mul_le_mul_right
abbrev Xgj:=@Option.bind_some
abbrev Xgk:=@Nat.le_trans
abbrev Xgl:=@Nat.zero_add
abbrev Xgm:=@Nat.add_mul
abbrev Xgn:=@List.getElem?_eq_none
abbrev Xgo:=@List.getElem_map
abbrev Xgp:=@List.length_take
abbrev Xgq:=@Decidable.byContradiction
abbrev Xgr:=@Option.some.injEq
abbrev Xgs:=@List.drop_eq_nil_of_le
abbrev Xgt:=@List.map_append
abbrev Xgu:=@List.append_assoc
abbrev Xgv:=@List.getElem?_append_right
abbrev Xgw:=@List.eq_nil_of_length_eq_zero
abbrev Xgx:=@List.getElem_of_mem
abbrev Xgy:=@Nat.add_sub_cancel
abbrev Xgz:=@List.length_filter_le
abbrev Xg0:=@Array.getElem?_eq_getElem
abbrev Xg1:=@Nat.add_assoc
abbrev Xg2:=@List.map_set
abbrev Xg3:=@List.getElem_set
abbrev Xg4:=@Option.some.inj
abbrev Xg5:=@List.length_cons
abbrev Xg6:=@List.getElem?_eq_getElem
abbrev Xg7:=@List.getElem?_take
abbrev Xg8:=@Nat.min_eq_left
abbrev Xg9:=@Int.ofNat_eq_natCast
abbrev Xha:=@List.map_cons
abbrev Xhb:=@Array.length_toList
abbrev Xhc:=@List.drop_eq_getElem_cons
abbrev Xhd:=@List.getElem?_drop
abbrev Xhe:=@Nat.mul_le_mul
abbrev Xhf:=@List.take_length
abbrev Xhg:=@Bool.not_eq_true'
abbrev Xhh:=@List.map_map
abbrev Xhi:=@List.mem_filter
abbrev Xhj:=@Nat.eq_zero_or_pos
abbrev Xhk:=@Bool.eq_false_iff
abbrev Xhl:=@List.all_eq_true
abbrev Xhm:=@Array.ext
abbrev Xhn:=@Array.getD_eq_getD_getElem?
abbrev Xho:=@List.map_congr_left
abbrev Xhp:=@List.getElem?_set
abbrev Xhq:=@List.mapM_cons
abbrev Xhr:=@List.map_nil
abbrev Xhs:=@List.mem_append_right
abbrev Xht:=@Int.le_refl
abbrev Xhu:=@List.getElem_range
abbrev Xhv:=@List.size_toArray
abbrev Xhw:=@List.mem_cons_self
abbrev Xhx:=@Array.getElem?_eq_none
abbrev Xhy:=@List.length_nil
abbrev Xhz:=@Bool.eq_iff_iff
abbrev Xh0:=@Array.getElem?_modify
abbrev Xh1:=@Nat.ble_eq_true_of_le
abbrev Xh2:=@List.mem_cons
abbrev Xh3:=@List.filter_append
abbrev Xh4:=@List.range_succ
abbrev Xh5:=@List.cons_append
abbrev Xh6:=@Nat.lt_trichotomy
abbrev Xh7:=@List.foldl_cons
abbrev Xh8:=@Option.bind_eq_bind
abbrev Xh9:=@Option.getD_some
abbrev Xia:=@List.ext_getElem?
abbrev Xib:=@Nat.lt_of_lt_of_le
abbrev Xic:=@List.flatMap_cons
abbrev Xid:=@List.not_mem_nil
abbrev Xie:=@List.append_nil
abbrev Xif:=@List.pairwise_iff_getElem
abbrev Xig:=@List.getElem?_set_ne
abbrev Xih:=@Array.toList_map
abbrev Xii:=@Option.map_some
abbrev Xij:=@Bool.not_eq_true
abbrev Xik:=@List.cons.injEq
abbrev Xil:=@List.lookup_cons
abbrev Xim:=@Nat.lt_succ_self
abbrev Xin:=@List.mem_of_mem_take
abbrev Xio:=@Array.size_append
abbrev Xip:=@Array.toList_setIfInBounds
abbrev Xiq:=@List.take_take
abbrev Xir:=@List.take_left
abbrev Xis:=@List.mem_map
abbrev Xit:=@Nat.mul_comm
abbrev Xiu:=@Int.mul_nonneg
abbrev Xiv:=@List.mem_singleton
abbrev Xiw:=@List.set_cons_succ
abbrev Xix:=@List.mem_range
abbrev Xiy:=@List.any_eq_true
abbrev Xiz:=@Nat.one_mul
abbrev Xi0:=@Bool.or_eq_true
abbrev Xi1:=@List.mem_of_find?_eq_some
abbrev Xi2:=@List.find?_some
abbrev Xi3:=@List.countP_cons
abbrev Xi4:=@Array.getElem?_push_lt
abbrev Xi5:=@List.length_drop
abbrev Xi6:=@List.map_take
abbrev Xi7:=@List.foldl_append
abbrev Xi8:=@List.replicate_succ
abbrev Xi9:=@List.length_eq_zero_iff
abbrev Xja:=@List.filter_eq_nil_iff
abbrev Xjb:=@List.any_eq_false
abbrev Xjc:=@Bool.false_ne_true
abbrev Xjd:=@Array.toArray_toList
abbrev Xje:=@Array.empty_append
abbrev Xjf:=@List.zip_cons_cons
abbrev Xjg:=@List.contains_eq_mem
abbrev Xjh:=@Array.getElem?_append_left
abbrev Xji:=@List.mem_erase_of_ne
abbrev Xjj:=@List.length_pos_of_mem
abbrev Xjk:=@List.mem_of_getElem?
abbrev Xjl:=@Nat.ne_of_beq_eq_false
abbrev Xjm:=@List.mem_append_left
abbrev Xjn:=@List.getElem?_cons_succ
abbrev Xjo:=@List.take_succ_cons
abbrev Xjp:=@Nat.sub_add_cancel
abbrev Xjq:=@List.set_eq_take_append_cons_drop
abbrev Zk:=Array Obj
def hc (h:Zk) (b o:Nat):Option Value :=
 match h[b]? with
 | some (.cells c _ _)=>c[o]?
 | _=>none
def hfz (h:Zk) (b o:Nat):Bool :=
 match h[b]? with
 | some (.cells _ _ (lo,hi))=>lo<=o && o<hi
 | _=>false
def Vd (h:Zk) (b o:Nat) (v:Value):Zk :=
 h.modify b fun
  | .cells c t f=>.cells (c.setIfInBounds o v) t f
  | x=>x
def rd (h:Zk) (b:Nat):Nat->Nat->Option Zc
 | _,0=>some []
 | o,n+1=>(hc h b o).bind fun v=>(rd h b (o+1) n).bind fun l=>some (v::l)
def hst (h:Zk) (b:Nat):Nat->Zc->Option Zk
 | _,[]=>some h
 | o,v::r=>if (hc h b o).isSome && !hfz h b o && v.oneCell' then hst (Vd h b o v) b (o+1) r else none
inductive Wa where
 | n (i:Nat)
 | t (i:Nat)
 | c (v:Value)
 | f (j:Nat)
 | g (j:Nat)
inductive X3 where
 | drop
 | push
 | set (i:Nat)
inductive Yo where
 | mv
 | pick
 | nilck
 | ib (op:BinOp)
 | sb (op:BinOp)
 | eqb (neg:Bool)
 | eqp (neg:Bool)
 | eqi (neg:Bool) (lit:Bool)
 | eqs (neg:Bool)
 | eqf (neg:Bool)
 | eqa (neg:Bool) (n:Nat)
 | un (op:UnOp)
 | conv (k:IntKind)
 | fadr (off:Nat)
 | idxa (sz:Nat)
 | idxA (len sz:Nat)
 | idxS
 | idxV (len sz:Nat) (agg:Bool)
 | fld (off sz:Nat) (agg:Bool)
 | slc (sz:Nat) (lo hi:Bool)
 | slcS (lo hi:Bool)
 | slcA (n sz:Nat) (lo hi:Bool)
 | slc3 (sz:Nat)
 | ext (i:Nat)
 | build (zero:Array Value) (pl:List (Nat × Nat)) (ix:Zd)
 | buildA (sz:Nat) (zero:Array Value) (ix:Zd)
 | mkI (t:Nat)
 | len
 | lenS
 | lenA (n:Nat)
 | cap
 | mn
 | mx
 | load (sz:Nat) (agg:Bool)
 | b2s
 | ta (t:Nat) (ok:Bool) (zero:Value)
 | mkf (f:Nat) (first:Nat)
 | lookup (kk:Option Nat) (ok:Bool) (zero:Value)
 | lenM
 | cntS
 | idxBS
inductive Ef where
 | store (sz:Nat)
 | new
 | bslice (len sz:Nat) (zero:Array Value) (pl:Zd)
 | mkslice (sz bytes:Nat) (zero:Array Value)
 | append (sz bytes:Nat) (zero:Array Value)
 | appz (sz bytes:Nat) (zero:Array Value)
 | copy (sz:Nat)
 | clr (sz:Nat) (zero:Array Value)
 | s2b
 | b2b
 | mkmap
 | mupd (kk:Option Nat)
structure Sys where
 fid:Nat->FuncId
 tid:Nat->TypeId
 gid:Nat->Nat
 C:FuncId->Zc->Zk->(Ze)->Prop
 mono:∀ {f:FuncId} {xs:Zc} {h:Zk} {R R':Ze},C f xs h R->(∀ v h',R v h'->R' v h')->C f xs h R'
 able:FuncId->Prop
def Wa.ev (Y:Sys) (e T:Zc):Wa->Value
 | .n i=>e.getD i undef
 | .t i=>T.getD i undef
 | .c v=>v
 | .f j=>.func (.func (Y.fid j)) #[] #[]
 | .g j=>.pointer (some ⟨Y.gid j,0,none⟩)
def X8 (op:BinOp) (k:IntKind) (a:Int) (yk:IntKind) (b:Int):Option Value :=
 match op with
 | .shl=>if b<0 then none else some (.int k (k.wrap (a * 2 ^ (min b.toNat k.bits))))
 | .shr=>if b<0 then none else some (.int k (a.fdiv (2 ^ (min b.toNat k.bits))))
 | _ =>
  if k≠yk then none else
  match op with
  | .add=>some (.int k (k.wrap (a+b)))
  | .sub=>some (.int k (k.wrap (a-b)))
  | .mul=>some (.int k (k.wrap (a * b)))
  | .quo=>if b=0 then none else some (.int k (k.wrap (a.tdiv b)))
  | .rem=>if b=0 then none else some (.int k (a.tmod b))
  | .and=>some (.int k (k.wrap (BitVec.ofInt k.bits a &&& BitVec.ofInt k.bits b).toNat))
  | .or=>some (.int k (k.wrap (BitVec.ofInt k.bits a ||| BitVec.ofInt k.bits b).toNat))
  | .xor=>some (.int k (k.wrap (BitVec.ofInt k.bits a ^^^ BitVec.ofInt k.bits b).toNat))
  | .andNot=>some (.int k (k.wrap (BitVec.ofInt k.bits a &&& ~~~(BitVec.ofInt k.bits b)).toNat))
  | .eql=>some (.bool (a == b))
  | .neq=>some (.bool (a != b))
  | .lss=>some (.bool (decide (a<b)))
  | .leq=>some (.bool (decide (a<=b)))
  | .gtr=>some (.bool (decide (a>b)))
  | .geq=>some (.bool (decide (a>=b)))
  | _=>none
def Zw9 (op:BinOp) (x y:ByteArray):Option Value :=
 match op with
 | .add=>if x.size+y.size<=9223372036854775807 then some (.string (x++y)) else none
 | .eql=>some (.bool (x.toList == y.toList))
 | .neq=>some (.bool !(x.toList == y.toList))
 | .lss=>some (.bool (Op.bytesLess x.toList y.toList))
 | .leq=>some (.bool (Op.bytesLess x.toList y.toList || x.toList == y.toList))
 | .gtr=>some (.bool !(Op.bytesLess x.toList y.toList || x.toList == y.toList))
 | .geq=>some (.bool !(Op.bytesLess x.toList y.toList))
 | _=>none
def Zah (sz:Nat) (agg:Bool) (cs:Array Value) (off:Nat):Option Value :=
 if agg then some (.agg (cs.extract off (off+sz))) else cs[off]?
def Zcc:Zc->Option (List UInt8)
 | []=>some []
 | .int .u8 n::r=>(Zcc r).bind fun l=>some (UInt8.ofNat n.toNat::l)
 | _=>none
def W0 (n cap:Nat):Bool->Bool->Zc->Option (Nat × Nat)
 | false,false,[]=>some (0,n)
 | true,false,[.int _ l]=>if 0<=l/\l<=n then some (l.toNat,n) else none
 | false,true,[.int _ h]=>if 0<=h/\h<=cap then some (0,h.toNat) else none
 | true,true,[.int _ l,.int _ h]=>if 0<=l/\l<=h/\h<=cap then some (l.toNat,h.toNat) else none
 | _,_,_=>none
def Zam (neg b:Bool):Option Value:=some (.bool (if neg then !b else b))
def Qv:Zc->Zc->Option Bool
 | [],[]=>some true
 | .int k a::r,.int j b::s=>if k=j then (Qv r s).map fun c=>(a == b) && c else none
 | _,_=>none
def Zcd (kk:Option Nat):Value->Value->Option Bool
 | .int k a,.int k' b=>if kk=none/\k=k' then some (a == b) else none
 | .agg xs,.agg ys=>match kk with | some n=>if xs.size=n/\ys.size=n then Qv xs.toList ys.toList else none | none=>none
 | _,_=>none
def Zpc:Value->Bool
 | .int _ _=>true
 | _=>false
def Za1 (kk:Option Nat):Value->Bool
 | .int _ _=>kk.isNone
 | .agg xs=>match kk with | some n=>xs.size == n && xs.toList.all Zpc | none=>false
 | _=>false
def Ue (kk:Option Nat) (k:Value):List MapEntry->Nat->Option (Option (Nat × Value))
 | [],_=>some none
 | e::es,i=>match Zcd kk k e.key with
  | some true=>some (some (i,e.val))
  | some false=>Ue kk k es (i+1)
  | none=>none
def Wm (h:Zk):Option Nat->Option (List MapEntry)
 | none=>some []
 | some r=>match h[r]? with
  | some (.map es _)=>some es.toList
  | _=>none
def Zed (h:Zk) (kk:Option Nat) (ok:Bool) (zero:Value) (r:Option Nat) (key:Value):Option Value :=
 if Za1 kk key then (Wm h r).bind fun es=>(Ue kk key es 0).map fun a=>match a with
  | some (_,v)=>if ok then .tuple #[v,.bool true] else v
  | none=>if ok then .tuple #[zero,.bool false] else zero
 else none
def Yo.sem (Y:Sys) (h:Zk):Yo->Zc->Option Value
 | .mv,[x]=>some x
 | .pick,[.bool c,a,b]=>some (if c then a else b)
 | .nilck,[.pointer (some a)]=>some (.pointer (some a))
 | .nilck,[.iface t v]=>some (.iface t v)
 | .nilck,[.func (.func f) a b]=>some (.func (.func f) a b)
 | .ib op,[.int k a,.int yk b]=>X8 op k a yk b
 | .sb op,[.string a,.string b]=>Zw9 op a b
 | .eqb neg,[.bool a,.bool b]=>Zam neg (a == b)
 | .eqp neg,[.pointer none,.pointer b]=>Zam neg b.isNone
 | .eqp neg,[.pointer (some _),.pointer none]=>Zam neg false
 | .eqi neg lit,[.nilIface,.nilIface]=>if lit then Zam neg true else none
 | .eqi neg _,[.nilIface,.iface _ _]=>Zam neg false
 | .eqi neg _,[.iface _ _,.nilIface]=>Zam neg false
 | .eqs neg,[.slice none _ _,.slice b _ _]=>Zam neg b.isNone
 | .eqs neg,[.slice (some _) _ _,.slice none _ _]=>Zam neg false
 | .eqf neg,[.nilFunc,.nilFunc]=>Zam neg true
 | .eqf neg,[.func _ _ _,.nilFunc]=>Zam neg false
 | .eqa neg n,[.agg xs,.agg ys]=>if xs.size=n/\ys.size=n then (Qv xs.toList ys.toList).bind (Zam neg) else none
 | .un .neg,[.int k n]=>some (.int k (k.wrap (0-n)))
 | .un .not,[.bool b]=>some (.bool !b)
 | .conv k,[.int _ n]=>some (.int k (k.wrap n))
 | .fadr off,[.pointer (some ⟨b,o,none⟩)]=>some (.pointer (some ⟨b,o+off,none⟩))
 | .idxa sz,[.slice (some ⟨b,o,none⟩) n _,.int _ i]=>if 0<=i/\i<n then some (.pointer (some ⟨b,o+i.toNat * sz,none⟩)) else none
 | .idxA n sz,[.pointer (some ⟨b,o,none⟩),.int _ i]=>if 0<=i/\i<n then some (.pointer (some ⟨b,o+i.toNat * sz,none⟩)) else none
 | .idxS,[.string s,.int _ i]=>if 0<=i then (s[i.toNat]?).bind fun b=>some (.int .u8 b.toNat) else none
 | .idxV n sz agg,[.agg cs,.int _ i]=>if 0<=i/\i<n then Zah sz agg cs (i.toNat * sz) else none
 | .fld off sz agg,[.agg cs]=>Zah sz agg cs off
 | .slc sz lo hi,.slice a n c::r=>(W0 n c lo hi r).bind fun x =>
   match a with
   | none=>some (.slice none (x.2-x.1) (c-x.1))
   | some ⟨b,o,none⟩=>some (.slice (some ⟨b,if c=x.1 then o else o+x.1 * sz,none⟩) (x.2-x.1) (c-x.1))
   | some ⟨b,o,some sp⟩=>if c=x.1 then some (.slice (some ⟨b,o,some sp⟩) (x.2-x.1) (c-x.1)) else none
 | .slcS lo hi,.string s::r=>(W0 s.size s.size lo hi r).bind fun x=>some (.string (s.extract x.1 x.2))
 | .slcA n sz lo hi,.pointer (some ⟨b,o,none⟩)::r=>(W0 n n lo hi r).bind fun x =>
   some (.slice (some ⟨b,if n=x.1 then o else o+x.1 * sz,none⟩) (x.2-x.1) (n-x.1))
 | .slc3 sz,[.slice a n c,.int _ l,.int _ i,.int _ m]=>if 0<=l/\l<=i/\i<=m/\m<=c then
   match a with
   | none=>some (.slice none (i.toNat-l.toNat) (m.toNat-l.toNat))
   | some ⟨b,o,none⟩=>some (.slice (some ⟨b,if m.toNat=l.toNat then o else o+l.toNat * sz,none⟩) (i.toNat-l.toNat) (m.toNat-l.toNat))
   | _=>none
  else none
 | .ext i,[.tuple vs]=>vs[i]?
 | .build zero pl ix,xs=>(Instr.fill (fun i=>pl[i]?) zero (ix.zip xs)).bind fun cs=>some (.agg cs)
 | .buildA sz zero ix,xs=>(Instr.fill (fun i=>some (i * sz,sz)) zero (ix.zip xs)).bind fun cs=>some (.agg cs)
 | .mkI t,[x]=>some (.iface (Y.tid t) x)
 | .len,[.slice _ n _]=>some (.int .i64 n)
 | .lenS,[.string s]=>some (.int .i64 s.size)
 | .lenA n,[_]=>some (.int .i64 n)
 | .cap,[.slice _ _ n]=>some (.int .i64 n)
 | .mn,[.int k x,.int _ y]=>some (.int k (if y<x then y else x))
 | .mx,[.int k x,.int _ y]=>some (.int k (if x<y then y else x))
 | .load sz true,[.pointer (some ⟨b,o,none⟩)]=>(rd h b o sz).bind fun l=>some (.agg l.toArray)
 | .load _ false,[.pointer (some ⟨b,o,none⟩)]=>hc h b o
 | .b2s,[.slice none _ _]=>some (.string .empty)
 | .b2s,[.slice (some ⟨b,o,none⟩) n _]=>(rd h b o n).bind fun l=>(Zcc l).bind fun s=>some (.string ⟨s.toArray⟩)
 | .ta t ok zero,[.iface t' v] =>
   if t'=Y.tid t then some (if ok then .tuple #[v,.bool true] else v) else if ok then some (.tuple #[zero,.bool false]) else none
 | .ta _ true zero,[.nilIface]=>some (.tuple #[zero,.bool false])
 | .mkf f k,xs=>some (.func (.func (Y.fid f)) (xs.take k).toArray (xs.drop k).toArray)
 | .lookup kk ok zero,[.map r,key]=>Zed h kk ok zero r key
 | .lenM,[.map r]=>(Wm h r).map fun es=>.int .i64 es.length
 | .cntS,[.string s,.int .u8 c]=>some (.int .i64 (Lib.countByte s.data.toList c.toNat.toUInt8))
 | .idxBS,[.string s,.int .u8 c]=>some (.int .i64 (Lib.indexByte s.data.toList c.toNat.toUInt8))
 | _,_=>none
def Xy (zero:Array Value) (n:Nat):Array Value:=(Array.range n).map (zero[· % zero.size]!)
def Vl (h:Zk) (sz n:Nat):Value->Option Zc
 | .slice (some ⟨b,o,none⟩) _ _=>rd h b o (n * sz)
 | .slice (some ⟨_,_,some _⟩) _ _=>if n=0 then some [] else none
 | .slice none _ _=>some []
 | .string s=>some ((s.extract 0 n).data.toList.map fun b=>.int .u8 b.toNat)
 | _=>none
def Zf2:Value->Option Nat
 | .slice _ n _=>some n
 | .string s=>some s.size
 | _=>none
def Ef.wp (h:Zk) (K:Ze):Ef->Zc->Prop
 | .store sz,[.pointer (some ⟨b,o,none⟩),v]=>v.cells.size=sz /\
   match hst h b o v.cells.toList with
   | some h'=>K undef h'
   | none=>False
 | .new,[v]=>∀ t:TypeId,K (.pointer (some ⟨h.size,0,none⟩)) (h.push (.cells v.cells t))
 | .bslice len sz zero pl,xs =>
   match Instr.fill (fun i=>some (i * sz,sz)) (Xy zero (len * sz)) (pl.zip xs) with
   | some cs=>∀ t:TypeId,K (.slice (some ⟨h.size,0,none⟩) len len) (h.push (.cells cs t))
   | none=>False
 | .mkslice sz bytes zero,[.int _ l,.int _ c]=>0<=l/\l<=c/\c<=9223372036854775807/\(bytes:Int) * c<=281474976710656 /\
   ∀ t:TypeId,K (.slice (some ⟨h.size,0,none⟩) l.toNat c.toNat) (h.push (.cells (Xy zero (c.toNat * sz)) t))
 | .append sz bytes zero,[.slice a n c,x] =>
   match Zf2 x with
   | none=>False
   | some m =>
    match Vl h sz m x with
    | none=>False
    | some nw =>
     if n+m<=c then
      match a with
      | some ⟨b,o,none⟩ =>
       match hst h b (o+n * sz) nw with
       | some h'=>K (.slice a (n+m) c) h'
       | none=>False
      | none=>K (.slice none (n+m) c) h
      | _=>False
     else
      n+m<=9223372036854775807/\(n+m) * bytes<=140737488355328 /\
      match Vl h sz n (.slice a n c) with
      | some old=>∀ (t:TypeId) (nc:Nat),n+m<=nc->nc<=9223372036854775807 ->
        K (.slice (some ⟨h.size,0,none⟩) (n+m) nc) (h.push (.cells (old.toArray++nw.toArray++Builtin.zeroCells zero (nc-(n+m))) t))
      | none=>False
 | .appz sz bytes zero,[.slice a n c,.int .i64 l]=>0<l/\c<n+l.toNat/\n+l.toNat<=9223372036854775807/\(n+l.toNat) * bytes<=140737488355328 /\
   match Vl h sz n (.slice a n c) with
   | some old=>∀ (t:TypeId) (nc:Nat),n+l.toNat<=nc->nc<=9223372036854775807 ->
     K (.slice (some ⟨h.size,0,none⟩) (n+l.toNat) nc) (h.push (.cells (old.toArray++Builtin.zeroCells zero l.toNat++Builtin.zeroCells zero (nc-(n+l.toNat))) t))
   | none=>False
 | .copy sz,[.slice a n _,x] =>
   match Zf2 x with
   | none=>False
   | some m =>
    match Vl h sz (min m n) x with
    | none=>False
    | some nw =>
     match a with
     | some ⟨b,o,none⟩ =>
      match hst h b o nw with
      | some h'=>K (.int .i64 (min m n:Nat)) h'
      | none=>False
     | none=>K (.int .i64 (min m n:Nat)) h
     | _=>False
 | .clr sz zero,[.slice a n c] =>
   match a with
   | none=>K undef h
   | some ⟨b,o,none⟩=>if n=0 then K undef h else
    match hst h b o (Builtin.zeroCells zero n).toList with
    | some h'=>K undef h'
    | none=>False
   | _=>False
 | .s2b,[.string s]=>∀ (t:TypeId) (nc:Nat),s.size<=nc ->
   K (.slice (some ⟨h.size,0,none⟩) s.size nc)
    (h.push (.cells ((s.data.map fun b=>Value.int .u8 b.toNat)++Array.replicate (nc-s.size) (.int .u8 0)) t (nc,nc+1)))
 | .b2b,[.slice (some a) n c] =>
   match h[a.block]? with
   | some (.cells cs t (0,0))=>K (.slice (some a) n c) (h.modify a.block fun _=>.cells cs t (cs.size,cs.size+1))
   | _=>False
 | .mkmap,[]=>K (.map (some h.size)) (h.push (.map #[] 0))
 | .mkmap,[.int _ _]=>K (.map (some h.size)) (h.push (.map #[] 0))
 | .mupd kk,[.map (some r),key,val] =>
   match h[r]? with
   | some (.map es clock)=>Za1 kk key=true /\
    match Ue kk key es.toList 0 with
    | some (some (i,_))=>K undef (h.setIfInBounds r (.map (es.modify i fun e=>{ e with key,val }) clock))
    | some none=>K undef (h.setIfInBounds r (.map (es.push { key,val,born:=clock }) (clock+1)))
    | none=>False
   | _=>False
 | _,_=>False
inductive Instr where
 | op (o:Yo) (xs:List Wa) (d:X3)
 | ef (f:Ef) (xs:List Wa) (d:X3)
 | call (f:Nat) (xs:List Wa) (d:X3)
 | callv (x:Wa) (xs:List Wa) (d:X3)
 | stab (o:Yo) (xs:List Wa) (v:Wa)
def X3.e (v:Value) (e:Zc):X3->Zc
 | .set i=>e.set i v
 | _=>e
def X3.T (v:Value) (T:Zc):X3->Zc
 | .push=>T++[v]
 | _=>T
def Zlb (o:Option Value) (k:Value->Prop):Prop :=
 match o with
 | some v=>k v
 | none=>False
abbrev W5:=Zc->Zc->Zk->Prop
def Instr.wp (Y:Sys) (K:W5) (e T:Zc) (h:Zk):Instr->Prop
 | .op o xs d=>Zlb (o.sem Y h (xs.map (Wa.ev Y e T))) fun v=>K (d.e v e) (d.T v T) h
 | .ef f xs d=>f.wp h (fun v h'=>K (d.e v e) (d.T v T) h') (xs.map (Wa.ev Y e T))
 | .call f xs d=>Y.C (Y.fid f) (xs.map (Wa.ev Y e T)) h fun v h'=>K (d.e v e) (d.T v T) h'
 | .callv x xs d =>
  match x.ev Y e T with
  | .func (.func f) first cap=>Y.able f/\Y.C f (first.toList++xs.map (Wa.ev Y e T)++cap.toList) h fun v h'=>K (d.e v e) (d.T v T) h'
  | _=>False
 | .stab o xs v=>o.sem Y h (xs.map (Wa.ev Y e T))=some (v.ev Y e T)/\K e T h
def Instr.dst:Instr->X3
 | .op _ _ d | .ef _ _ d | .call _ _ d | .callv _ _ d=>d
 | .stab _ _ _=>.drop
def gdB (v:Value) (want:Bool):Bool :=
 match v with
 | .bool b=>b == want
 | _=>false
structure FI where
 g:Option (Wa × Bool)
 i:Instr
def FI.wp (Y:Sys) (x:FI) (K:W5) (e T:Zc) (h:Zk):Prop :=
 match x.g with
 | none=>x.i.wp Y K e T h
 | some (g,want)=>if gdB (g.ev Y e T) want then x.i.wp Y K e T h else K (x.i.dst.e undef e) (x.i.dst.T undef T) h
def FL.wp (Y:Sys) (K:W5):List FI->W5
 | [],e,T,h=>K e T h
 | x::r,e,T,h=>x.wp Y (FL.wp Y K r) e T h
inductive IL where
 | nil
 | op (i:Instr) (k:IL)
 | gd (g:Wa) (want:Bool) (body:IL) (ds:List X3) (k:IL)
 | alt (a b:IL)
def Zmw:List X3->Zc->Zc
 | [],e=>e
 | d::r,e=>Zmw r (d.e undef e)
def Zmv:List X3->Zc->Zc
 | [],T=>T
 | d::r,T=>Zmv r (d.T undef T)
def IL.wp (Y:Sys) (K:W5):IL->W5
 | .nil,e,T,h=>K e T h
 | .op i k,e,T,h=>i.wp Y (IL.wp Y K k) e T h
 | .gd g want body ds k,e,T,h=>if gdB (g.ev Y e T) want then IL.wp Y (IL.wp Y K k) body e T h else IL.wp Y K k (Zmw ds e) (Zmv ds T) h
 | .alt a b,e,T,h=>IL.wp Y K a e T h/\IL.wp Y K b e T h
inductive FT where
 | nil
 | cons (x:FI) (k:FT)
 | alt (a b:FT)
def FT.wp (Y:Sys) (K:W5):FT->W5
 | .nil,e,T,h=>K e T h
 | .cons x k,e,T,h=>x.wp Y (FT.wp Y K k) e T h
 | .alt a b,e,T,h=>FT.wp Y K a e T h/\FT.wp Y K b e T h
def FT.app:List FI->FT->FT
 | [],k=>k
 | x::r,k=>.cons x (FT.app r k)
inductive Stmt where
 | skip
 | seq (a b:Stmt)
 | reg (l:IL)
 | cond (x:Wa) (a b:Stmt)
 | block (id:Nat) (s:Stmt)
 | loop (s:Stmt)
 | exit (id:Nat)
 | ret
def Stmt.wp (Y:Sys):Stmt->(kn:Zc->Zk->Prop)->(ke:Nat->Zc->Zk->Prop)->(kr:Zc->Zk->Prop)->Zc->Zk->Prop
 | .skip,kn,_,_,e,h=>kn e h
 | .seq a b,kn,ke,kr,e,h=>a.wp Y (fun e h=>b.wp Y kn ke kr e h) ke kr e h
 | .reg l,kn,_,_,e,h=>l.wp Y (fun e _ h=>kn e h) e [] h
 | .cond x a b,kn,ke,kr,e,h =>
  match x.ev Y e [] with
  | .bool c=>if c=true then a.wp Y kn ke kr e h else b.wp Y kn ke kr e h
  | _=>False
 | .block id s,kn,ke,kr,e,h=>s.wp Y kn (fun i e h=>if i=id then kn e h else ke i e h) kr e h
 | .loop s,_,ke,kr,e,h=>∃ (I:Zc->Zk->Prop) (μ:Zc->Zk->Nat),I e h /\
   ∀ e h,I e h->s.wp Y (fun e' h'=>I e' h'/\μ e' h'<μ e h) ke kr e h
 | .exit id,_,ke,_,e,h=>ke id e h
 | .ret,_,_,kr,e,h=>kr e h
inductive Res where
 | n (i:Nat)
 | box (i:Nat) (sz:Nat) (agg:Bool)
def Res.ev (e:Zc) (h:Zk):Res->Option Value
 | .n i=>some (e.getD i undef)
 | .box i sz agg =>
  match e.getD i undef with
  | .pointer (some ⟨b,o,none⟩)=>if agg then (rd h b o sz).bind fun l=>some (.agg l.toArray) else hc h b o
  | _=>none
structure Xm where
 np:Nat
 nn:Nat
 body:Stmt
 res:List Res
def Zcj (e:Zc) (h:Zk):List Res->Option Zc
 | []=>some []
 | r::l=>(r.ev e h).bind fun v=>(Zcj e h l).bind fun vs=>some (v::vs)
def U4 (res:List Res) (R:Ze) (e:Zc) (h:Zk):Prop :=
 match Zcj e h res with
 | some [v]=>R v h
 | some vs=>R (.tuple vs.toArray) h
 | none=>False
def Xm.wp (Y:Sys) (S:Xm) (args:Zc) (h:Zk) (R:Ze):Prop :=
 S.body.wp Y (U4 S.res R) (fun _ _ _=>False) (U4 S.res R) (args++List.replicate (S.nn-S.np) undef) h
def Sys.Has (Y:Sys) (j:Nat) (S:Xm):Prop :=
 Y.able (Y.fid j)/\∀ (args:Zc) (h:Zk) (R:Ze),args.length=S.np->S.wp Y args h R->Y.C (Y.fid j) args h R
structure Cx where
 P:Program
 fn:FuncId->Option Nat
 tn:TypeId->Option Nat
 gn:Nat->Option Nat
 nm:Zd
 nt:Nat
inductive Kd where
 | io (o:Yo)
 | ef (f:Ef)
 | call (f:Nat)
 | callv
def Xx:TypeDesc->Bool
 | .struct _ | .array _ _=>true
 | _=>false
def Operand.isC:Operand->Bool
 | .const _=>true
 | _=>false
section
variable (cx:Cx)
def Ux (t:TypeId):Option Nat:=(cx.P.info? t).map (·.size)
def Qu (t:TypeId):Option Value:=(cx.P.info? t).bind (·.zero)
def Zb2:List Field->Nat->Bool
 | [],_=>true
 | f :: r, k => f.name != "_" && f.offset == k && (match cx.P.underlying f.type with | some (.int _) => true | _ => false) && Zb2 r (k + 1)
def Zc5 (neg:Bool) (op:BinOp) (t:TypeId) (x y:Operand):Option Kd :=
 match cx.P.underlying t with
 | some (.int _)=>some (.io (.ib op))
 | some .string=>some (.io (.sb op))
 | some .bool=>some (.io (.eqb neg))
 | some (.pointer _)=>some (.io (.eqp neg))
 | some (.interface _)=>some (.io (.eqi neg (Operand.isC x || Operand.isC y)))
 | some (.slice _)=>some (.io (.eqs neg))
 | some (.func _ _ _)=>some (.io (.eqf neg))
 | some (.struct fs)=>if Zb2 cx fs.toList 0=true/\cx.P.stoodInHeld t=false/\cx.P.eqGuardType cx.P.depth t=false then some (.io (.eqa neg fs.size)) else none
 | _=>none
def Zft (op:BinOp) (t:TypeId) (x y:Operand):Option Kd :=
 match op with
 | .eql=>Zc5 cx false op t x y
 | .neq=>Zc5 cx true op t x y
 | _ =>
  match cx.P.underlying t with
  | some (.int _)=>some (.io (.ib op))
  | some .string=>some (.io (.sb op))
  | _=>none
def Zag (k:TypeId):Option (Option Nat) :=
 match cx.P.underlying k with
 | some (.int _)=>some none
 | some (.struct fs)=>if Zb2 cx fs.toList 0=true/\cx.P.stoodInHeld k=false then some (some fs.size) else none
 | some (.array n e) =>
  match cx.P.underlying e,cx.P.info? e with
  | some (.int _),some _=>if cx.P.cellsOf e=1 then some (some n) else none
  | _,_=>none
 | _=>none
def Z21 (f:FuncId):Option Yo :=
 match cx.P.funcs[f]? with
 | some fn =>
  if fn.body.isNone ∧ (fn.name == "runtime.NumGoroutine") = false ∧ (Extern.findNext fn).isNone then
   if fn.name = "internal/bytealg.CountString" then some .cntS
   else if fn.name = "internal/bytealg.IndexByteString" then some .idxBS
   else some (.idxA 0 0)
  else none
 | none=>none
def Zd9:Op->Option (Kd × List Operand)
 | .move x | .assign x=>some (.io .mv,[x])
 | .pick c a b=>some (.io .pick,[c,a,b])
 | .alloc t=>(Qu cx t).map fun z=>(.ef .new,[.const z])
 | .box _ x=>some (.ef .new,[x])
 | .build t ps =>
  match cx.P.underlying t,Qu cx t with
  | some (.struct fs),some z=>(fs.toList.mapM fun f=>(Ux cx f.type).map fun n=>(f.offset,n)).map fun pl=>(.io (.build z.cells pl (ps.toList.map (·.1))),ps.toList.map (·.2))
  | some (.array _ e),some z=>(Ux cx e).map fun n=>(.io (.buildA n z.cells (ps.toList.map (·.1))),ps.toList.map (·.2))
  | _,_=>none
 | .buildSlice t len ps =>
  match cx.P.underlying t with
  | some (.slice e) =>
   match Ux cx e,Qu cx e with
   | some sz,some z=>if len * sz<=16777216 then some (.ef (.bslice len sz (if len * sz=0 then #[] else z.cells) (ps.toList.map (·.1))),ps.toList.map (·.2)) else none
   | _,_=>none
  | _=>none
 | .load t x =>
  match cx.P.underlying t with
  | some d=>if Xx d then (Ux cx t).map fun n=>(.io (.load n true),[x]) else some (.io (.load 1 false),[x])
  | none=>none
 | .store t a v=>(Ux cx t).map fun n=>(.ef (.store n),[a,v])
 | .nilCheck x=>some (.io .nilck,[x])
 | .binOp op t x y _=>(Zft cx op t x y).map fun k=>(k,[x,y])
 | .unOp op _ x=>some (.io (.un op),[x])
 | .convert s d x =>
  match cx.P.underlying s,cx.P.underlying d with
  | some _,some (.int k)=>some (.io (.conv k),[x])
  | some (.slice e),some .string=>match cx.P.underlying e with | some (.int .u8)=>some (.io .b2s,[x]) | _=>none
  | some .string,some (.slice e)=>match cx.P.underlying e with | some (.int .u8)=>some (.ef .s2b,[x]) | _=>none
  | some (.slice _),some (.slice e)=>if s=d then match cx.P.underlying e with | some (.int .u8)=>some (.ef .b2b,[x]) | _=>none else none
  | _,_=>none
 | .makeInterface t x =>
  match cx.P.underlying t with
  | some (.interface _)=>none
  | some _=>(cx.tn t).map fun n=>(.io (.mkI n),[x])
  | none=>none
 | .makeFunc (.func f) first cap=>(cx.fn f).map fun n=>(.io (.mkf n first.size),first.toList++cap.toList)
 | .makeSlice t l c =>
  match cx.P.underlying t with
  | some (.slice e) =>
   match Ux cx e,Qu cx e,cx.P.info? e with
   | some sz,some z,some i=>some (.ef (.mkslice sz i.bytes z.cells),[l,c])
   | _,_,_=>none
  | _=>none
 | .slice t x lo hi none =>
  match cx.P.underlying t with
  | some (.slice e)=>(Ux cx e).map fun n=>(.io (.slc n lo.isSome hi.isSome),x::(lo.toList++hi.toList))
  | some .string=>some (.io (.slcS lo.isSome hi.isSome),x::(lo.toList++hi.toList))
  | some (.array len e)=>(Ux cx e).map fun n=>(.io (.slcA len n lo.isSome hi.isSome),x::(lo.toList++hi.toList))
  | _=>none
 | .slice t x (some lo) (some hi) (some mx) =>
  match cx.P.underlying t with
  | some (.slice e)=>(Ux cx e).map fun n=>(.io (.slc3 n),[x,lo,hi,mx])
  | _=>none
 | .fieldAddr t x f =>
  match cx.P.underlying t with
  | some (.struct fs)=>(fs[f]?).bind fun fd=>(Ux cx fd.type).bind fun n=>if n=0 then none else some (.io (.fadr fd.offset),[x])
  | _=>none
 | .field t x f =>
  match cx.P.underlying t with
  | some (.struct fs)=>(fs[f]?).bind fun fd =>
   match cx.P.underlying fd.type with
   | some d=>if Xx d then (Ux cx fd.type).map fun n=>(.io (.fld fd.offset n true),[x]) else some (.io (.fld fd.offset 1 false),[x])
   | none=>none
  | _=>none
 | .indexAddr t x i =>
  match cx.P.underlying t with
  | some (.slice e)=>(Ux cx e).map fun n=>(.io (.idxa n),[x,i])
  | some (.array len e)=>(Ux cx e).map fun n=>(.io (.idxA len n),[x,i])
  | _=>none
 | .index t x i =>
  match cx.P.underlying t with
  | some .string=>some (.io .idxS,[x,i])
  | some (.array len e) =>
   match cx.P.underlying e,Ux cx e with
   | some d,some n=>some (.io (.idxV len n (Xx d)),[x,i])
   | _,_=>none
  | _=>none
 | .typeAssert x _ t ok =>
  match cx.P.underlying t with
  | some (.interface _)=>none
  | some _=>match cx.tn t,Qu cx t with
   | some n,some z=>some (.io (.ta n ok z),[x])
   | _,_=>none
  | none=>none
 | .extract x i=>some (.io (.ext i),[x])
 | .makeMap t r =>
  match cx.P.underlying t with
  | some (.map _ _)=>some (.ef .mkmap,r.toList)
  | _=>none
 | .mapUpdate t m k x =>
  match cx.P.underlying t with
  | some (.map kt _)=>(Zag cx kt).map fun n=>(.ef (.mupd n),[m,k,x])
  | _=>none
 | .lookup t m k ok =>
  match cx.P.underlying t with
  | some (.map kt e) =>
   match Zag cx kt,Qu cx e with
   | some n,some z=>some (.io (.lookup n ok z),[m,k])
   | _,_=>none
  | _=>none
 | .call c =>
  match c.callee with
  | .value (.func f) =>
   match Z21 cx f with
   | some o=>some (.io o,c.args.toList)
   | none=>(cx.fn f).map fun n=>(.call n,c.args.toList)
  | .value x=>some (.callv,x::c.args.toList)
  | .builtin .len =>
   match c.argTypes.toList,c.args.toList with
   | [t],[x] =>
    match cx.P.underlying t with
    | some (.slice _)=>some (.io .len,[x])
    | some .string=>some (.io .lenS,[x])
    | some (.array n _)=>some (.io (.lenA n),[x])
    | some (.map _ _)=>some (.io .lenM,[x])
    | _=>none
   | _,_=>none
  | .builtin .cap =>
   match c.argTypes.toList,c.args.toList with
   | [t],[x]=>match cx.P.underlying t with | some (.slice _)=>some (.io .cap,[x]) | _=>none
   | _,_=>none
  | .builtin .min=>match c.args.toList with | [x,y]=>some (.io .mn,[x,y]) | _=>none
  | .builtin .max=>match c.args.toList with | [x,y]=>some (.io .mx,[x,y]) | _=>none
  | .builtin .append =>
   match c.argTypes.toList,c.args.toList with
   | [t,u],[x,y] =>
    match cx.P.underlying t,cx.P.underlying u with
    | some (.slice e),some du =>
     match Ux cx e,Qu cx e,cx.P.info? e,du with
     | some sz,some z,some i,.slice _=>if z.cells.size=sz/\i.bytes≠0 then some (.ef (.append sz i.bytes z.cells),[x,y]) else none
     | some sz,some z,some i,.string=>if z.cells.size=sz/\i.bytes≠0 then some (.ef (.append sz i.bytes z.cells),[x,y]) else none
     | some sz,some z,some i,.int _=>if z.cells.size=sz/\i.bytes≠0/\sz≠0 then some (.ef (.appz sz i.bytes z.cells),[x,y]) else none
     | _,_,_,_=>none
    | _,_=>none
   | _,_=>none
  | .builtin .clear =>
   match c.argTypes.toList,c.args.toList with
   | [t],[x] =>
    match cx.P.underlying t with
    | some (.slice e) =>
     match Ux cx e,Qu cx e with
     | some n,some z=>some (.ef (.clr n z.cells),[x])
     | _,_=>none
    | _=>none
   | _,_=>none
  | .builtin .copy =>
   match c.argTypes.toList,c.args.toList with
   | t::_,[x,y] =>
    match cx.P.underlying t with
    | some (.slice e)=>(Ux cx e).map fun n=>(.ef (.copy n),[x,y])
    | _=>none
   | _,_=>none
  | _=>none
 | _=>none
abbrev SM:=List (Nat × Wa)
def Wa.isN (i:Nat):Wa->Bool
 | .n j=>j == i
 | _=>false
def rsv (m:SM):Operand->Option Wa
 | .tmp s =>
  match m.lookup s with
  | some a=>some a
  | none=>(cx.nm.idxOf? s).map .n
 | .const v=>some (.c v)
 | .global g=>(cx.gn g).map .g
 | .func f=>(cx.fn f).map .f
def Zp8 (d:X3):Kd->List Wa->Option Instr
 | .io o,xs=>some (.op o xs d)
 | .ef f,xs=>some (.ef f xs d)
 | .call f,xs=>some (.call f xs d)
 | .callv,x::xs=>some (.callv x xs d)
 | .callv,[]=>none
def Zby (ops:Array Oper) (m:SM):Option (Nat × Bool)->Option (Option (Wa × Bool))
 | none=>some none
 | some (j,want)=>((ops[j]?).bind (·.dst)).bind fun s=>(rsv cx m (.tmp s)).map fun a=>some (a,want)
def Zoh (m:SM) (d:Nat):Option Tmp->Option (X3 × SM × Nat)
 | none=>some (.drop,m,d)
 | some s =>
  if s<cx.nt then
   match cx.nm.idxOf? s with
   | some i=>some (.set i,m.filter (fun p=>!p.2.isN i && p.1 != s),d)
   | none=>some (.push,(s,.t d)::m.filter (fun p=>p.1 != s),d+1)
  else none
def Z7s:Kd->List Wa->Option Wa
 | .io .mv,[x]=>some x
 | _,_=>none
def Zhd (o:Oper) (k:Kd) (xs:List Wa):Option (Nat × Wa) :=
 match o.guard,Z7s k xs,o.dst with
 | none,some x,some s=>if s<cx.nt/\cx.nm.idxOf? s=none then some (s,x) else none
 | _,_,_=>none
def Xcu (s:Nat) (o:Oper):Bool :=
 match Zd9 cx o.op with
 | some (_,xs)=>xs.any fun x=>match x with | .tmp t=>t == s | _=>false
 | none=>false
def Zsd (s:Nat):List Oper->List Oper
 | []=>[]
 | o::r=>if o.dst == some s then r else Zsd s r
def Zxl (s src:Nat):List Oper->Bool
 | []=>false
 | o::r=>if o.dst == some src then r.any (Xcu cx s) else Zxl s src r
def Zw2 (ops:Array Oper) (o:Oper) (k:Kd) (xs:List Wa):Option (Nat × Wa) :=
 match Zhd cx o k xs with
 | some (s,.n j)=>if Zxl cx s (cx.nm.getD j 0) (Zsd s ops.toList) then none else some (s,.n j)
 | y=>y
theorem Zzu {cx:Cx} {r:Array Oper} {o:Oper} {k:Kd} {xs:List Wa} {p:Nat × Wa} (h:Zw2 cx r o k xs=some p):Zhd cx o k xs=some p:=by
 unfold Zw2 at h
 split at h
 ·split at h
  ·cases h
  ·rename_i e _;rw [e,h]
 exact h
def Zvu (ops:Array Oper) (m:SM) (d:Nat) (o:Oper):Option (List FI × SM × Nat) :=
 match Zby cx ops m o.guard,Zd9 cx o.op with
 | some g,some (k,xs) =>
  match xs.mapM (rsv cx m) with
  | some as =>
   match Zw2 cx ops o k as with
   | some (s,x)=>some ([],(s,x)::m.filter (fun p=>p.1 != s),d)
   | none =>
    match Zoh cx m d o.dst with
    | some (ds,m',d')=>(Zp8 ds k as).map fun i=>([⟨g,i⟩],m',d')
    | none=>none
  | none=>none
 | _,_=>none
def Zyr (ops:Array Oper):Zd->SM->Nat->Option (List FI)
 | [],_,_=>some []
 | i::r,m,d =>
  match ops[i]? with
  | none=>none
  | some o =>
   match Zvu cx ops m d o with
   | none=>none
   | some (fl,m',d')=>(Zyr ops r m' d').map (fl ++ ·)
def Wa.same:Wa->Wa->Bool
 | .t i,.t j=>i == j
 | .n i,.n j=>i == j
 | _,_=>false
def X3.keeps (d:X3):Wa->Bool
 | .n i=>match d with | .set j=>i != j | _=>true
 | _=>true
def Zq4 (x:FI) (k:IL):IL :=
 match x.g with
 | none=>.op x.i k
 | some (g,w) =>
  match k with
  | .gd g' w' body ds k'=>if g.same g' && w == w' && x.i.dst.keeps g then .gd g w (.op x.i body) (x.i.dst::ds) k' else .gd g w (.op x.i .nil) [x.i.dst] k
  | _=>.gd g w (.op x.i .nil) [x.i.dst] k
def grp:List FI->IL
 | []=>.nil
 | x::r=>Zq4 x (grp r)
def Z5b:FT->IL
 | .nil=>.nil
 | .cons x k=>Zq4 x (Z5b k)
 | .alt a b=>.alt (Z5b a) (Z5b b)
def Uz (o:Oper):Zd:=o.after.toList.filterMap fun e=>if Region.binds .any e then some e.on else none
def Z6i:Stmt:=.reg (.op (.op .nilck [] .drop) .nil)
def Zdl (X2:Array Oper->Option FT):Code->Option Stmt
 | .skip=>some .skip
 | .seq a b=>(Zdl X2 a).bind fun x=>(Zdl X2 b).map fun y=>.seq x y
 | .region _ ops draw =>
  match (if draw then (X2 ops).map fun l=>Stmt.reg (Z5b l) else (Zyr cx ops (List.range ops.size) [] 0).map fun l=>Stmt.reg (grp l)) with
  | some s=>some s
  | none=>some Z6i
 | .cond c a b =>
  match rsv cx [] c with
  | some x=>(Zdl X2 a).bind fun y=>(Zdl X2 b).map fun z=>.cond x y z
  | none=>some Z6i
 | .block id s=>(Zdl X2 s).map (.block id)
 | .loop s=>(Zdl X2 s).map .loop
 | .exit id=>some (.exit id)
 | .ret=>some .ret
 | _=>some Z6i
def Zfs (r:ResultVar):Option Res :=
 match r with
 | .tmp t=>(cx.nm.idxOf? t).map .n
 | .cell a t =>
  match cx.P.underlying t,cx.nm.idxOf? a with
  | some d,some i=>if Xx d then (Ux cx t).map fun n=>.box i n true else some (.box i 1 false)
  | _,_=>none
def Ztl {α β:Type} (f:α->Option β):List α->Option (List β)
 | []=>some []
 | x::r=>(f x).bind fun y=>(Ztl f r).map (y :: ·)
def Zi6:Zd->Bool
 | []=>true
 | x::r=>!r.contains x && Zi6 r
def Zrd (X2:Array Oper->Option FT) (fn:Func):Option Xm :=
 if cx.nt=fn.ntmps/\cx.nm.all (· < cx.nt)/\Zi6 cx.nm/\(cx.nm.take (fn.params.size+fn.nfree)=List.range (fn.params.size+fn.nfree))/\fn.params.size+fn.nfree<=cx.nm.length then
  match fn.body with
  | none=>none
  | some c=>(Zdl cx X2 c).bind fun s=>(Ztl (Zfs cx) fn.results.toList).map fun rs=>⟨fn.params.size+fn.nfree,cx.nm.length,s,rs⟩
 else none
end
end Go.Rm
namespace Go.Rm
variable {Y:Sys}
theorem Ef.wp_mono {h:Zk} {K K':Ze} {f:Ef} {xs:Zc} (r:f.wp h K xs) (D:∀ v h',K v h'->K' v h'):f.wp h K' xs:=by
 unfold Ef.wp at *
 split at r
 ·refine ⟨r.1,?_⟩;have:=r.2
  split at this
  ·exact D _ _ this
  exact this.elim
 ·exact fun t=>D _ _ (r t)
 ·split at r
  ·exact fun t=>D _ _ (r t)
  exact r.elim
 ·exact ⟨r.1,r.2.1,r.2.2.1,r.2.2.2.1,fun t=>D _ _ (r.2.2.2.2 t)⟩
 ·split at r
  ·exact r.elim
  split at r
  ·exact r.elim
  split at r
  ·rename_i H;rw [if_pos H]
   split at r
   ·split at r
    ·exact D _ _ r
    exact r.elim
   ·exact D _ _ r
   exact r.elim
  rename_i H;rw [if_neg H];refine ⟨r.1,r.2.1,?_⟩;have:=r.2.2
  split at this
  ·exact fun t G h1 I=>D _ _ (this t G h1 I)
  exact this.elim
 ·refine ⟨r.1,r.2.1,r.2.2.1,r.2.2.2.1,?_⟩;have:=r.2.2.2.2
  split at this
  ·exact fun t G h1 I=>D _ _ (this t G h1 I)
  exact this.elim
 ·split at r
  ·exact r.elim
  split at r
  ·exact r.elim
  split at r
  ·split at r
   ·exact D _ _ r
   exact r.elim
  ·exact D _ _ r
  exact r.elim
 ·split at r
  ·exact D _ _ r
  ·split at r
   ·rename_i h0;rw [if_pos h0];exact D _ _ r
   rename_i h0;rw [if_neg h0]
   split at r
   ·exact D _ _ r
   exact r.elim
  exact r.elim
 ·exact fun t G h1=>D _ _ (r t G h1)
 ·split at r
  ·exact D _ _ r
  exact r.elim
 ·exact D _ _ r
 ·exact D _ _ r
 ·split at r
  ·refine ⟨r.1,?_⟩;have:=r.2
   split at this
   ·exact D _ _ this
   ·exact D _ _ this
   exact this.elim
  exact r.elim
 exact r.elim
theorem Z04 {o:Option Value} {k k':Value->Prop} (r:Zlb o k) (D:∀ v,k v->k' v):Zlb o k':=by
 cases o with
 | none=>exact r
 | some v=>exact D v r
theorem Instr.wp_mono {i:Instr} {K K':W5} {e T:Zc} {h:Zk} (r:i.wp Y K e T h)
  (D:∀ v h',K (i.dst.e v e) (i.dst.T v T) h'->K' (i.dst.e v e) (i.dst.T v T) h'):i.wp Y K' e T h:=by
 cases i with
 | op o xs d=>exact Z04 r fun v hv=>D v h hv
 | ef f xs d=>exact Ef.wp_mono (f:=f) (xs:=xs.map (Wa.ev Y e T)) (K:=fun v h'=>K (d.e v e) (d.T v T) h') r fun v h' hv=>D v h' hv
 | call f xs d=>exact Y.mono r fun v h' hv=>D v h' hv
 | callv x xs d =>
  simp only [Instr.wp] at r ⊢
  split at r
  ·exact ⟨r.1,Y.mono r.2 fun v h' hv=>D v h' hv⟩
  exact r.elim
 | stab o xs v=>exact ⟨r.1,D undef h r.2⟩
theorem FI.wp_mono {x:FI} {K K':W5} {e T:Zc} {h:Zk} (r:x.wp Y K e T h)
  (D:∀ e T h,K e T h->K' e T h):x.wp Y K' e T h:=by
 unfold FI.wp at *
 split
 ·rename_i G;simp only [G] at r;exact Instr.wp_mono r fun v h' hv=>D _ _ _ hv
 rename_i g w G;simp only [G] at r
 split
 ·rename_i hb;rw [if_pos hb] at r;exact Instr.wp_mono r fun v h' hv=>D _ _ _ hv
 rename_i hb;rw [if_neg hb] at r;exact D _ _ _ r
theorem IL.wp_mono {l:IL}:∀ {K K':W5} {e T:Zc} {h:Zk},l.wp Y K e T h->(∀ e T h,K e T h->K' e T h)->l.wp Y K' e T h:=by
 induction l with
 | nil=>intro K K' e T h r D;exact D _ _ _ r
 | op i k ih=>intro K K' e T h r D;exact Instr.wp_mono r fun v h' hv=>ih hv D
 | gd g w I ds k G ih =>
  intro K K' e T h r D;simp only [IL.wp] at r ⊢
  split at r
  ·rename_i hb;rw [if_pos hb];exact G r fun e T h hv=>ih hv D
  rename_i hb;rw [if_neg hb];exact ih r D
 | alt a b H G=>intro K K' e T h r D;exact ⟨H r.1 D,G r.2 D⟩
theorem FL.wp_append {l r:List FI}:∀ {K:W5} {e T:Zc} {h:Zk},FL.wp Y K (l++r) e T h=FL.wp Y (FL.wp Y K r) l e T h:=by
 induction l with
 | nil=>intros;rfl
 | cons x l ih =>
  intro K e T h;simp only [Xh5,FL.wp];rw [show FL.wp Y K (l++r)=FL.wp Y (FL.wp Y K r) l from funext fun e=>funext fun T=>funext fun h=>ih]
theorem Z4c {g:Wa} {w:Bool} {e T:Zc} {v:Value} {d:X3} (r:d.keeps g=true) (hb:gdB (g.ev Y e T) w=true) :
  gdB (g.ev Y (d.e v e) (d.T v T)) w=true:=by
 cases g with
 | n i =>
  simp only [Wa.ev] at hb ⊢
  cases d with
  | set j =>
   simp only [X3.keeps,bne_iff_ne,ne_eq] at r;simp only [X3.e];rw [Xf5,Xig (fun h=>r h.symm),<-Xf5];exact hb
  | drop=>exact hb
  | push=>exact hb
 | t i =>
  simp only [Wa.ev] at hb ⊢
  cases d with
  | push =>
   simp only [X3.T];have D:i<T.length:=by
    rcases Xf0 i T.length with h | h
    ·exact h
    rw [Xf5,Xgn h] at hb;simp [gdB,undef] at hb
   rw [Xf5,Xgh D,<-Xf5];exact hb
  | drop=>exact hb
  | set j=>exact hb
 | c v=>exact hb
 | f j=>exact hb
 | g j=>exact hb
theorem Z0u {g:Wa} {w:Bool} {e T:Zc} {d:X3} (r:d.keeps g=true) (hb:gdB (g.ev Y e T) w=false) :
  gdB (g.ev Y (d.e undef e) (d.T undef T)) w=false:=by
 cases g with
 | n i =>
  simp only [Wa.ev] at hb ⊢
  cases d with
  | set j =>
   simp only [X3.keeps,bne_iff_ne,ne_eq] at r;simp only [X3.e];rw [Xf5,Xig (fun h=>r h.symm),<-Xf5];exact hb
  | drop=>exact hb
  | push=>exact hb
 | t i =>
  simp only [Wa.ev] at hb ⊢
  cases d with
  | push =>
   simp only [X3.T];rcases Xh6 i T.length with h | h | h
   ·rw [Xf5,Xgh h,<-Xf5];exact hb
   ·subst h;simp [gdB,undef]
   rw [Xf5,Xgn (by simp;omega)];simp [gdB,undef]
  | drop=>exact hb
  | set j=>exact hb
 | c v=>exact hb
 | f j=>exact hb
 | g j=>exact hb
theorem Wa.same_eq {a b:Wa} (h:a.same b=true):a=b:=by
 cases a <;> cases b <;> simp_all [Wa.same]
theorem Zhy {x:FI} {k:IL} {K:W5} {e T:Zc} {h:Zk} (D:(Zq4 x k).wp Y K e T h):x.wp Y (k.wp Y K) e T h:=by
 obtain ⟨g,i⟩:=x
 cases g with
 | none=>exact D
 | some J =>
  obtain ⟨g,w⟩:=J;have r:∀ k:IL,(IL.gd g w (.op i .nil) [i.dst] k).wp Y K e T h->FI.wp Y ⟨some (g,w),i⟩ (k.wp Y K) e T h:=by
   intro k D;simp only [IL.wp,Zmw,Zmv] at D;simp only [FI.wp];exact D
  cases k with
  | nil=>exact r _ D
  | op j k=>exact r _ D
  | alt a b=>exact r _ D
  | gd g' w' I ds k' =>
   simp only [Zq4] at D
   split at D
   ·rename_i hc;simp only [Xf4,beq_iff_eq] at hc;obtain ⟨⟨M,H⟩,G⟩:=hc;have:=Wa.same_eq M;subst this;subst H;simp only [IL.wp,Zmw,Zmv] at D;simp only [FI.wp]
    split at D
    ·rename_i hb;rw [if_pos hb];refine Instr.wp_mono D fun v h' hv=>?_;simp only [IL.wp];rw [if_pos (Z4c G hb)];exact hv
    rename_i hb;rw [if_neg hb];simp only [IL.wp];rw [if_neg (by rw [Z0u G (by simpa using hb)];simp)];exact D
   exact r _ D
theorem Zzl {l:List FI}:∀ {K:W5} {e T:Zc} {h:Zk},(grp l).wp Y K e T h->FL.wp Y K l e T h:=by
 induction l with
 | nil=>intro K e T h D;exact D
 | cons x r ih =>
  intro K e T h D;exact FI.wp_mono (Zhy D) fun e T h hv=>ih hv
theorem Zu0 {t:FT}:∀ {K:W5} {e T:Zc} {h:Zk},(Z5b t).wp Y K e T h->FT.wp Y K t e T h:=by
 induction t with
 | nil=>intro K e T h D;exact D
 | cons x r ih =>
  intro K e T h D;exact FI.wp_mono (Zhy D) fun e T h hv=>ih hv
 | alt a b G H=>intro K e T h D;exact ⟨G D.1,H D.2⟩
theorem Stmt.wp_mono {s:Stmt}:∀ {O r:Zc->Zk->Prop} {R D:Nat->Zc->Zk->Prop} {U G:Zc->Zk->Prop} {e:Zc} {h:Zk},
  s.wp Y O R U e h->(∀ e h,O e h->r e h)->(∀ i e h,R i e h->D i e h)->(∀ e h,U e h->G e h)->s.wp Y r D G e h:=by
 induction s with
 | skip=>intro O r R D U G e h H h1 J M;exact h1 _ _ H
 | seq a b V X=>intro O r R D U G e h H h1 J M;exact V H (fun e h hv=>X hv h1 J M) J M
 | reg l=>intro O r R D U G e h H h1 J M;exact IL.wp_mono H fun e T h hv=>h1 _ _ hv
 | cond x a b V X =>
  intro O r R D U G e h H h1 J M;simp only [Stmt.wp] at H ⊢
  split at H
  ·split at H
   ·rename_i hc;rw [if_pos hc];exact V H h1 J M
   rename_i hc;rw [if_neg hc];exact X H h1 J M
  exact H.elim
 | block id s ih =>
  intro O r R D U G e h H h1 J M;refine ih H h1 (fun i e h hv=>?_) M
  split at hv
  ·rename_i Z;simp only [Z,if_true];exact h1 _ _ hv
  rename_i Z;simp only [Z,if_false];exact J _ _ _ hv
 | loop s ih =>
  intro O r R D U G e h H h1 J M;obtain ⟨I,μ,hI,hs⟩:=H;exact ⟨I,μ,hI,fun e h Z=>ih (hs e h Z) (fun _ _ hv=>hv) J M⟩
 | exit id=>intro O r R D U G e h H h1 J M;exact J _ _ _ H
 | ret=>intro O r R D U G e h H h1 J M;exact M _ _ H
end Go.Rm
namespace Go.Rm
def Same (w w':World):Prop:=w'.tape=w.tape/\w'.os=w.os/\w'.output=w.output
theorem Same.refl (w:World):Same w w:=⟨rfl,rfl,rfl⟩
theorem Same.trans {a b c:World} (h:Same a b) (h':Same b c):Same a c:=⟨h'.1.trans h.1,h'.2.1.trans h.2.1,h'.2.2.trans h.2.2⟩
def Rr (R:Ze) (w:World) (e:Ending) (w':World):Prop:=∃ v,e = .returned v/\R v w'.heap/\Same w w'
def Zpe (P:Program) (f:FuncId) (xs:Zc) (h:Zk) (R:Ze):Prop :=
 ∀ w:World,w.heap=h->Calls P f xs.toArray w (Rr R w)
structure Ok (cx:Cx) (Y:Sys):Prop where
 hC:Y.C=Zpe cx.P
 hf : ∀ f j, cx.fn f = some j → Y.fid j = f ∧ ∃ fn, cx.P.funcs[f]? = some fn ∧ (fn.name == "runtime.NumGoroutine") = false ∧ fn.body.isNone = false
 ht:∀ t j,cx.tn t=some j->Y.tid j=t
 hg:∀ g j,cx.gn g=some j->Y.gid j=g
 mixed:cx.P.follows .mixedOrders=true
 able : ∀ f, Y.able f → ∃ fn, cx.P.funcs[f]? = some fn ∧ (fn.name == "runtime.NumGoroutine") = false ∧ fn.body.isNone = false
theorem Zkb (w:World) (b o:Nat):w.cell? ⟨b,o,none⟩=hc w.heap b o:=by
 simp only [World.cell?,hc]
 split <;> simp_all
theorem Zul (w:World) (b o:Nat):w.frozen? ⟨b,o,none⟩=hfz w.heap b o:=rfl
theorem Zpy (w:World) (b o:Nat) (v:Value):(w.setCell ⟨b,o,none⟩ v).heap=Vd w.heap b o v:=by
 simp only [World.setCell,Vd]
 congr 1
theorem Zut {h:Zk} {b:Nat}:∀ {n o:Nat} {l:Zc},rd h b o n=some l->l.length=n/\∀ j v,l[j]? = some v->hc h b (o+j)=some v:=by
 intro n
 induction n with
 | zero=>intro o l r;simp [rd] at r;subst r;simp
 | succ n ih =>
  intro o l r;simp only [rd] at r;obtain ⟨v,hv,r⟩:=Option.bind_eq_some_iff.1 r;obtain ⟨l',G,r⟩:=Option.bind_eq_some_iff.1 r;simp only [Xgr] at r;subst r;obtain ⟨h1,H⟩:=ih G;refine ⟨by simp [h1],?_⟩;intro j u D
  cases j with
  | zero=>simp at D;subst D;exact hv
  | succ j=>simp at D;have:=H j u D;rwa [show o+(j+1)=o+1+j by omega]
theorem Z61 {w:World} {b o n:Nat} {l:Zc} (r:rd w.heap b o n=some l) :
  ∀ j v,l[j]? = some v->w.cell? (Addr.add ⟨b,o,none⟩ j)=some v:=by
 intro j v D;rw [Addr.add_lit,Zkb];exact (Zut r).2 j v D
theorem Zaj {P:Program} {w:World} {b o n:Nat} {l:Zc} (r:rd w.heap b o n=some l) :
  (loadCells ⟨b,o,none⟩ n).run P w = .ok l.toArray w:=by
 have:=run_loadCells_list (P:=P) w ⟨b,o,none⟩ l (Z61 r);rwa [(Zut r).1] at this
theorem Ztw {P:Program} {w:World} {b o:Nat} {v:Value} (r:hc w.heap b o=some v) (m:Mode) :
  (load ⟨b,o,none⟩ m).run P w = .ok v w:=by
 rw [run_load,Zkb,r]
section ops
variable {cx:Cx} {Y:Sys} {w:World}
theorem Wc {t:TypeId} {n:Nat} (h:Ux cx t=some n) (w:World):(sizeOf t).run cx.P w = .ok n w:=by
 simp only [Ux,Xfz] at h;obtain ⟨i,r,rfl⟩:=h;simp [sizeOf,typeInfo,r]
theorem Vo {t:TypeId} {z:Value} (h:Qu cx t=some z) (w:World):(zeroValue t).run cx.P w = .ok z w:=by
 simp only [Qu,Xf8] at h;obtain ⟨i,r,hz⟩:=h;simp [zeroValue,typeInfo,r,hz]
theorem Znb {t:TypeId} {d:TypeDesc} (h:cx.P.underlying t=some d) (w:World):(isAgg t).run cx.P w = .ok (Xx d) w:=by
 simp only [isAgg,Sem.run_bind,run_underlying h,Result.andThen_ok]
 cases d <;> rfl
theorem Zjk {t:TypeId} {d:TypeDesc} (hd:cx.P.underlying t=some d) {n:Nat} (D:Xx d=true->Ux cx t=some n) {b o:Nat} {v:Value}
  (hs:Yo.sem Y w.heap (.load n (Xx d)) [.pointer (some ⟨b,o,none⟩)]=some v):(loadVar t ⟨b,o,none⟩).run cx.P w = .ok v w:=by
 simp only [loadVar,Sem.run_bind,Znb hd,Result.andThen_ok,Sem.run_ite]
 cases r:Xx d with
 | true =>
  rw [r] at hs;simp only [Yo.sem,Xf8] at hs;obtain ⟨l,G,hv⟩:=hs;simp only [Xgr] at hv;simp [Wc (D r),Zaj G,hv]
 | false =>
  rw [r] at hs;simp only [Yo.sem] at hs;simp [Ztw hs]
theorem Za9 {t:TypeId} {d:TypeDesc} (hd:cx.P.underlying t=some d) {n:Nat} (G:Xx d=true->Ux cx t=some n) {cs:Array Value} {r:Nat} {v:Value}
  (hs:Zah n (Xx d) cs r=some v):(part t cs r).run cx.P w = .ok v w:=by
 simp only [part,Sem.run_bind,Znb hd,Result.andThen_ok,Sem.run_ite]
 cases D:Xx d with
 | true =>
  rw [D] at hs;simp only [Zah,if_true,Xgr] at hs;simp [Wc (G D),hs]
 | false =>
  rw [D] at hs;simp only [Zah,Xga,if_false] at hs;simp [hs]
theorem Zs8:∀ {l:Zc} {s:List UInt8} (a:ByteArray),Zcc l=some s ->
  ∃ D:Zb,l=D.map (Value.int .u8)/\D.foldl (fun r n=>r.push (UInt8.ofNat n.toNat)) a=⟨a.data++s.toArray⟩:=by
 intro l
 induction l with
 | nil=>intro s a h;simp [Zcc] at h;subst h;exact ⟨[],rfl,by simp⟩
 | cons x l ih =>
  intro s a h;unfold Zcc at h
  split at h
  ·rename_i h';cases h'
  ·rename_i n r h'
   cases h'
   obtain ⟨I,hs',G⟩:=Option.bind_eq_some_iff.1 h;simp only [Xgr] at G;subst G;obtain ⟨D,h1,H⟩:=ih (a.push (UInt8.ofNat n.toNat)) hs';refine ⟨n::D,by simp [h1],?_⟩;simp only [Xh7,H]
   congr 1
   apply Xf6;simp
  cases h
theorem Z1s {op:BinOp} {k r:IntKind} {a b:Int} {v:Value} (t:TypeId) (hs:X8 op k a r b=some v) :
  (binOp op t (.int k a) (.int r b)).run cx.P w = .ok v w:=by
 unfold X8 at hs
 split at hs
 ·split at hs
  ·cases hs
  ·rename_i hb;cases hs;simp [binOp,Op.shift,hb]
 ·split at hs
  ·cases hs
  ·rename_i hb;cases hs;simp [binOp,Op.shift,hb]
 rename_i h1 G
 split at hs
 ·cases hs
 ·rename_i D;have D:k=r:=Classical.not_not.1 D;subst D
  cases op <;> simp_all [binOp,Op.intArith,Op.intDiv,Op.intBits,Op.intCmp] <;> (try (subst hs;rfl))
theorem Z3e {op:BinOp} {a b:ByteArray} {v:Value} (t:TypeId) (hs:Zw9 op a b=some v) :
  (binOp op t (.string a) (.string b)).run cx.P w = .ok v w:=by
 unfold Zw9 at hs
 split at hs
 ·split at hs
  ·rename_i h
   cases hs
   have h':¬ ((9223372036854775807:Int)<(a.size:Int)+(b.size:Int)):=by omega
   simp [binOp,Op.stringOp,IntKind.max,IntKind.bits,IntKind.signed,h']
  cases hs
 all_goals first | (cases hs;simp [binOp,Op.stringOp];done) | (cases hs)
end ops
end Go.Rm
namespace Go.Rm
variable {Y:Sys} {h:Zk}
theorem Z1l {op:UnOp} {p v:Value} (hs:Yo.sem Y h (.un op) [p]=some v):(op = .neg/\∃ k n,p = .int k n/\v = .int k (k.wrap (0-n)))\/(op = .not/\∃ b,p = .bool b/\v = .bool !b):=by
 cases op <;> cases p <;> cases hs
 ·exact .inl ⟨rfl,_,_,rfl,rfl⟩
 exact .inr ⟨rfl,_,rfl,rfl⟩
theorem Zuy {k:IntKind} {p v:Value} (hs:Yo.sem Y h (.conv k) [p]=some v):∃ j n,p = .int j n/\v = .int k (k.wrap n):=by
 cases p <;> cases hs
 exact ⟨_,_,rfl,rfl⟩
theorem Z3y {b o n c:Nat} {v:Value} (hs:Yo.sem Y h .b2s [.slice (some ⟨b,o,none⟩) n c]=some v):∃ l s,rd h b o n=some l/\Zcc l=some s/\v = .string ⟨s.toArray⟩:=by
 obtain ⟨l,r,hs⟩:=Option.bind_eq_some_iff.1 hs;obtain ⟨s,hb,hs⟩:=Option.bind_eq_some_iff.1 hs;exact ⟨l,s,r,hb,(Xg4 hs).symm⟩
theorem Z07 {p v:Value} (hs:Yo.sem Y h .b2s [p]=some v):(∃ n c,p = .slice none n c/\v = .string .empty) \/
  (∃ b o n c l s,p = .slice (some ⟨b,o,none⟩) n c/\rd h b o n=some l/\Zcc l=some s/\v = .string ⟨s.toArray⟩):=by
 cases p with
 | slice a n c =>
  cases a with
  | none=>cases hs;exact .inl ⟨_,_,rfl,rfl⟩
  | some a =>
   obtain ⟨b,o,s⟩:=a
   cases s with
   | none=>obtain ⟨l,s,h1,r,D⟩:=Z3y hs;exact .inr ⟨b,o,n,c,l,s,rfl,h1,r,D⟩
   | some s=>cases hs
 | _=>cases hs
theorem Zwf {r:Nat} {p v:Value} (hs:Yo.sem Y h (.fadr r) [p]=some v):∃ b o,p = .pointer (some ⟨b,o,none⟩)/\v = .pointer (some ⟨b,o+r,none⟩):=by
 cases p with
 | pointer a =>
  cases a with
  | none=>cases hs
  | some a =>
   obtain ⟨b,o,s⟩:=a
   cases s <;> cases hs
   exact ⟨b,o,rfl,rfl⟩
 | _=>cases hs
theorem Z03 {r sz:Nat} {agg:Bool} {p v:Value} (hs:Yo.sem Y h (.fld r sz agg) [p]=some v):∃ cs,p = .agg cs/\Zah sz agg cs r=some v:=by
 cases p with
 | agg cs=>exact ⟨cs,rfl,hs⟩
 | _=>cases hs
theorem Zyc {c:Prop} [Decidable c] {x v:Value} (hs:(if c then some x else none)=some v):c/\v=x:=by
 split at hs
 ·rename_i hc;exact ⟨hc,(Xg4 hs).symm⟩
 cases hs
theorem Zwx {sz:Nat} {p q v:Value} (hs:Yo.sem Y h (.idxa sz) [p,q]=some v) :
  ∃ b o n c k i,p = .slice (some ⟨b,o,none⟩) n c/\q = .int k i/\(0<=i/\i<n)/\v = .pointer (some ⟨b,o+i.toNat * sz,none⟩):=by
 cases p with
 | slice a n c =>
  cases a with
  | none=>cases q <;> cases hs
  | some a =>
   obtain ⟨b,o,s⟩:=a
   cases s with
   | some s=>cases q <;> cases hs
   | none =>
    cases q with
    | int k i=>obtain ⟨h1,r⟩:=Zyc hs;exact ⟨b,o,n,c,k,i,rfl,rfl,h1,r⟩
    | _=>cases hs
 | _=>cases hs
theorem Zu1 {len sz:Nat} {p q v:Value} (hs:Yo.sem Y h (.idxA len sz) [p,q]=some v) :
  ∃ b o k i,p = .pointer (some ⟨b,o,none⟩)/\q = .int k i/\(0<=i/\i<len)/\v = .pointer (some ⟨b,o+i.toNat * sz,none⟩):=by
 cases p with
 | pointer a =>
  cases a with
  | none=>cases q <;> cases hs
  | some a =>
   obtain ⟨b,o,s⟩:=a
   cases s with
   | some s=>cases q <;> cases hs
   | none =>
    cases q with
    | int k i=>obtain ⟨h1,r⟩:=Zyc hs;exact ⟨b,o,k,i,rfl,rfl,h1,r⟩
    | _=>cases hs
 | _=>cases hs
theorem Zwm {p q v:Value} (hs:Yo.sem Y h .idxS [p,q]=some v):∃ s k i b,p = .string s/\q = .int k i/\0<=i/\s[i.toNat]? = some b/\v = .int .u8 b.toNat:=by
 cases p with
 | string s =>
  cases q with
  | int k i =>
   have hs:(if 0<=i then (s[i.toNat]?).bind fun b=>some (Value.int .u8 b.toNat) else none)=some v:=hs
   split at hs
   ·rename_i h0;obtain ⟨b,hb,hs⟩:=Option.bind_eq_some_iff.1 hs;exact ⟨s,k,i,b,rfl,rfl,h0,hb,(Xg4 hs).symm⟩
   cases hs
  | _=>cases hs
 | _=>cases hs
theorem Zva {len sz:Nat} {agg:Bool} {p q v:Value} (hs:Yo.sem Y h (.idxV len sz agg) [p,q]=some v) :
  ∃ cs k i,p = .agg cs/\q = .int k i/\(0<=i/\i<len)/\Zah sz agg cs (i.toNat * sz)=some v:=by
 cases p with
 | agg cs =>
  cases q with
  | int k i =>
   have hs:(if 0<=i/\i<len then Zah sz agg cs (i.toNat * sz) else none)=some v:=hs
   split at hs
   ·rename_i h0;exact ⟨cs,k,i,rfl,rfl,h0,hs⟩
   cases hs
  | _=>cases hs
 | _=>cases hs
theorem Z1u {t:Nat} {r:Bool} {z p v:Value} (hs:Yo.sem Y h (.ta t r z) [p]=some v) :
  (∃ D u,p = .iface D u/\(if D=Y.tid t then some (if r then .tuple #[u,.bool true] else u) else if r then some (.tuple #[z,.bool false]) else none)=some v) \/
  (p = .nilIface/\r=true/\v = .tuple #[z,.bool false]):=by
 cases p with
 | iface D u=>exact .inl ⟨D,u,rfl,hs⟩
 | nilIface=>cases r <;> cases hs;exact .inr ⟨rfl,rfl,rfl⟩
 | _=>cases r <;> cases hs
theorem Zzc {sz:Nat} {lo D:Bool} {p v:Value} {r:Zc} (hs:Yo.sem Y h (.slc sz lo D) (p::r)=some v) :
  ∃ a n c x,p = .slice a n c/\W0 n c lo D r=some x/\((a=none/\v = .slice none (x.2-x.1) (c-x.1)) \/
   (∃ b o,a=some ⟨b,o,none⟩/\v = .slice (some ⟨b,if c=x.1 then o else o+x.1 * sz,none⟩) (x.2-x.1) (c-x.1)) \/
   (∃ b o s,a=some ⟨b,o,some s⟩/\c=x.1/\v = .slice (some ⟨b,o,some s⟩) (x.2-x.1) (c-x.1))):=by
 cases p with
 | slice a n c =>
  obtain ⟨x,hx,hs⟩:=Option.bind_eq_some_iff.1 hs;refine ⟨a,n,c,x,rfl,hx,?_⟩
  cases a with
  | none=>exact .inl ⟨rfl,(Xg4 hs).symm⟩
  | some a =>
   obtain ⟨b,o,s⟩:=a
   cases s with
   | none=>exact .inr (.inl ⟨b,o,rfl,(Xg4 hs).symm⟩)
   | some s =>
    simp only at hs
    split at hs
    ·rename_i hc;exact .inr (.inr ⟨b,o,s,rfl,hc,(Xg4 hs).symm⟩)
    cases hs
 | _=>cases hs
theorem Zv5 {lo D:Bool} {p v:Value} {r:Zc} (hs:Yo.sem Y h (.slcS lo D) (p::r)=some v) :
  ∃ s x,p = .string s/\W0 s.size s.size lo D r=some x/\v = .string (s.extract x.1 x.2):=by
 cases p with
 | string s =>
  obtain ⟨x,hx,hs⟩:=Option.bind_eq_some_iff.1 hs;exact ⟨s,x,rfl,hx,(Xg4 hs).symm⟩
 | _=>cases hs
theorem Zu6 {n sz:Nat} {lo D:Bool} {p v:Value} {r:Zc} (hs:Yo.sem Y h (.slcA n sz lo D) (p::r)=some v) :
  ∃ b o x,p = .pointer (some ⟨b,o,none⟩)/\W0 n n lo D r=some x/\v = .slice (some ⟨b,if n=x.1 then o else o+x.1 * sz,none⟩) (x.2-x.1) (n-x.1):=by
 cases p with
 | pointer a =>
  cases a with
  | none=>cases hs
  | some a =>
   obtain ⟨b,o,s⟩:=a
   cases s with
   | none =>
    obtain ⟨x,hx,hs⟩:=Option.bind_eq_some_iff.1 hs;exact ⟨b,o,x,rfl,hx,(Xg4 hs).symm⟩
   | some s=>cases hs
 | _=>cases hs
theorem Zy4 {i:Nat} {p v:Value} (hs:Yo.sem Y h (.ext i) [p]=some v):∃ vs,p = .tuple vs/\vs[i]? = some v:=by
 cases p with
 | tuple vs=>exact ⟨vs,rfl,hs⟩
 | _=>cases hs
theorem Z0p {p v:Value} (hs:Yo.sem Y h .len [p]=some v):∃ a n c,p = .slice a n c/\v = .int .i64 n:=by
 cases p <;> cases hs
 exact ⟨_,_,_,rfl,rfl⟩
theorem Zwg {p v:Value} (hs:Yo.sem Y h .lenS [p]=some v):∃ s,p = .string s/\v = .int .i64 s.size:=by
 cases p <;> cases hs
 exact ⟨_,rfl,rfl⟩
theorem Z0l {p v:Value} (hs:Yo.sem Y h .cap [p]=some v):∃ a n c,p = .slice a n c/\v = .int .i64 c:=by
 cases p <;> cases hs
 exact ⟨_,_,_,rfl,rfl⟩
theorem Z1t {p q v:Value} (hs:Yo.sem Y h .mn [p,q]=some v):∃ k x j y,p = .int k x/\q = .int j y/\v = .int k (if y<x then y else x):=by
 cases p with
 | int k x =>
  cases q with
  | int j y=>exact ⟨k,x,j,y,rfl,rfl,(Xg4 hs).symm⟩
  | _=>cases hs
 | _=>cases hs
theorem Z19 {p q v:Value} (hs:Yo.sem Y h .mx [p,q]=some v):∃ k x j y,p = .int k x/\q = .int j y/\v = .int k (if x<y then y else x):=by
 cases p with
 | int k x =>
  cases q with
  | int j y=>exact ⟨k,x,j,y,rfl,rfl,(Xg4 hs).symm⟩
  | _=>cases hs
 | _=>cases hs
theorem Zmd {c:Prop} [Decidable c] {x v:Nat × Nat} (hs:(if c then some x else none)=some v):c/\v=x:=by
 split at hs
 ·rename_i hc;exact ⟨hc,(Xg4 hs).symm⟩
 cases hs
theorem Zwo {n c:Nat} {lo D:Bool} {r:Zc} {x:Nat × Nat} (hs:W0 n c lo D r=some x) :
  (lo=false/\D=false/\r=[]/\x=(0,n))\/(lo=true/\D=false/\∃ k l,r=[.int k l]/\(0<=l/\l<=n)/\x=(l.toNat,n)) \/
  (lo=false/\D=true/\∃ k h,r=[.int k h]/\(0<=h/\h<=c)/\x=(0,h.toNat)) \/
  (lo=true/\D=true/\∃ k l j h,r=[.int k l,.int j h]/\(0<=l/\l<=h/\h<=c)/\x=(l.toNat,h.toNat)):=by
 cases lo <;> cases D
 ·match r,hs with
  | [],hs=>exact .inl ⟨rfl,rfl,rfl,(Xg4 hs).symm⟩
  | _::_,hs=>cases hs
 ·match r,hs with
  | [],hs=>cases hs
  | p::q::r,hs=>cases p <;> cases hs
  | [p],hs =>
   cases p with
   | int k l=>obtain ⟨h1,G⟩:=Zmd hs;exact .inr (.inr (.inl ⟨rfl,rfl,k,l,rfl,h1,G⟩))
   | _=>cases hs
 ·match r,hs with
  | [],hs=>cases hs
  | p::q::r,hs=>cases p <;> cases hs
  | [p],hs =>
   cases p with
   | int k l=>obtain ⟨h1,G⟩:=Zmd hs;exact .inr (.inl ⟨rfl,rfl,k,l,rfl,h1,G⟩)
   | _=>cases hs
 match r,hs with
 | [],hs=>cases hs
 | [p],hs=>cases p <;> cases hs
 | p::q::s::r,hs=>cases p <;> cases q <;> cases hs
 | [p,q],hs =>
  cases p with
  | int k l =>
   cases q with
   | int j h=>obtain ⟨h1,G⟩:=Zmd hs;exact .inr (.inr (.inr ⟨rfl,rfl,k,l,j,h,rfl,h1,G⟩))
   | _=>cases hs
  | _=>cases hs
end Go.Rm
namespace Go.Rm
section ops
variable {cx:Cx} {Y:Sys} {w:World}
theorem Ws {s:Sem Value} {v:Value} {w':World} {P:Program} (h:s.run P w = .ok v w') :
  (s >>= fun x=>(pure (Next.value x):Sem Next)).run P w = .ok (.value v) w':=by
 simp [h]
theorem Zz0 {neg b:Bool} {v:Value} (h:Zam neg b=some v):v = .bool (if neg then !b else b):=by
 simp only [Zam,Xgr] at h;exact h.symm
theorem Wk {op:BinOp} {t:TypeId} {x y:Operand} {a b:Value} (h:¬ (a = .nilIface/\b = .nilIface)) (h':∀ c d,¬ (a = .agg c/\b = .agg d)) :
  (eqGuard op t x y a b).run cx.P w = .ok () w:=by
 unfold eqGuard
 split
 ·rw [if_neg (by simp)]
  split
  ·exact absurd ⟨rfl,rfl⟩ h
  ·exact absurd ⟨rfl,rfl⟩ (h' _ _)
  rfl
 ·rw [if_neg (by simp)]
  split
  ·exact absurd ⟨rfl,rfl⟩ h
  ·exact absurd ⟨rfl,rfl⟩ (h' _ _)
  rfl
 rw [if_pos (by simp)];rfl
theorem Zow {x:Operand} (h:Operand.isC x=true):∃ v,x = .const v:=by
 cases x with
 | const v=>exact ⟨v,rfl⟩
 | tmp t=>exact (Xjc h).elim
 | global t=>exact (Xjc h).elim
 | func t=>exact (Xjc h).elim
theorem Zty {op:BinOp} {t:TypeId} {x y:Operand} (h:(Operand.isC x || Operand.isC y)=true) :
  (eqGuard op t x y .nilIface .nilIface).run cx.P w = .ok () w:=by
 unfold eqGuard;generalize Op.eqGuardIn Op.maxDepth t Value.nilIface Value.nilIface=z;rw [Xi0] at h;rcases h with h | h
 ·obtain ⟨v,rfl⟩:=Zow h
  split <;> simp
 obtain ⟨v,rfl⟩:=Zow h
 split <;> simp
theorem Zwl:∀ (l:List Field) (D:List (Nat × Nat)),(l.mapM fun f=>(Ux cx f.type).map fun n=>(f.offset,n))=some D ->
  (l.mapM (m:=Sem) fun f=>do pure (f.offset,<-sizeOf f.type)).run cx.P w = .ok D w:=by
 intro l
 induction l with
 | nil=>intro D h;simp at h;subst h;rfl
 | cons f l ih =>
  intro D h;simp only [Xhq,Xh8,Xf8,Xfz] at h;obtain ⟨_,⟨n,G,rfl⟩,r,H,I⟩:=h
  cases I
  simp only [Xhq,Sem.run_bind,Wc G,Result.andThen_ok,Sem.run_pure,ih r H]
theorem Zin (r:Array Field) (G:List (Nat × Nat)) (D:(r.toList.mapM fun f=>(Ux cx f.type).map fun n=>(f.offset,n))=some G) :
  (r.mapM (m:=Sem) fun f=>do pure (f.offset,<-sizeOf f.type)).run cx.P w = .ok G.toArray w:=by
 rw [<-Xjd (xs:=r),List.mapM_toArray];simp only [Sem.run_map];rw [Zwl _ _ D]
 rfl
theorem Zi0 (ρ:Operand->Value) (ps:Array (Nat × Operand)) :
  (Array.map (fun x:Nat × Operand=>(x.1,ρ x.2)) ps).toList=(ps.toList.map (·.1)).zip ((ps.toList.map (·.2)).map ρ):=by
 rw [Xih];generalize ps.toList=l
 induction l with
 | nil=>rfl
 | cons x l ih=>simp [ih]
theorem Z3u {h:Zk} {op:BinOp} {p q v:Value} (hs:Yo.sem Y h (.ib op) [p,q]=some v):∃ k a r b,p = .int k a/\q = .int r b/\X8 op k a r b=some v:=by
 unfold Yo.sem at hs;split at hs <;> simp_all;exact ⟨_,_,⟨rfl,rfl⟩,_,_,⟨rfl,rfl⟩,hs⟩
theorem Z10 {h:Zk} {op:BinOp} {p q v:Value} (hs:Yo.sem Y h (.sb op) [p,q]=some v):∃ a b,p = .string a/\q = .string b/\Zw9 op a b=some v:=by
 unfold Yo.sem at hs;split at hs <;> simp_all
theorem Z01 {h:Zk} {neg:Bool} {p q v:Value} (hs:Yo.sem Y h (.eqb neg) [p,q]=some v):∃ a b,p = .bool a/\q = .bool b/\Zam neg (a == b)=some v:=by
 unfold Yo.sem at hs;split at hs <;> simp_all
theorem Zzf {h:Zk} {neg:Bool} {p q v:Value} (hs:Yo.sem Y h (.eqp neg) [p,q]=some v) :
  (∃ b,p = .pointer none/\q = .pointer b/\Zam neg b.isNone=some v)\/(∃ a,p = .pointer (some a)/\q = .pointer none/\Zam neg false=some v):=by
 unfold Yo.sem at hs;split at hs <;> simp_all
theorem Z0x {h:Zk} {neg r:Bool} {p q v:Value} (hs:Yo.sem Y h (.eqi neg r) [p,q]=some v) :
  (p = .nilIface/\q = .nilIface/\r=true/\Zam neg true=some v)\/(∃ t u,p = .nilIface/\q = .iface t u/\Zam neg false=some v) \/
  (∃ t u,p = .iface t u/\q = .nilIface/\Zam neg false=some v):=by
 unfold Yo.sem at hs;split at hs <;> simp_all
theorem Z0y {h:Zk} {neg:Bool} {p q v:Value} (hs:Yo.sem Y h (.eqs neg) [p,q]=some v) :
  (∃ l c b m d,p = .slice none l c/\q = .slice b m d/\Zam neg b.isNone=some v)\/(∃ a l c m d,p = .slice (some a) l c/\q = .slice none m d/\Zam neg false=some v):=by
 unfold Yo.sem at hs;split at hs <;> simp_all
theorem Z0s {h:Zk} {neg:Bool} {p q v:Value} (hs:Yo.sem Y h (.eqf neg) [p,q]=some v) :
  (p = .nilFunc/\q = .nilFunc/\Zam neg true=some v)\/(∃ f a b,p = .func f a b/\q = .nilFunc/\Zam neg false=some v):=by
 unfold Yo.sem at hs;split at hs <;> simp_all
theorem Z0w {h:Zk} {neg:Bool} {n:Nat} {p q v:Value} (hs:Yo.sem Y h (.eqa neg n) [p,q]=some v) :
  ∃ xs r b,p = .agg xs/\q = .agg r/\xs.size=n/\r.size=n/\Qv xs.toList r.toList=some b/\Zam neg b=some v:=by
 have D:∀ {a b:Value},Yo.sem Y h (.eqa neg n) [a,b]=none->Yo.sem Y h (.eqa neg n) [a,b]=some v->False:=fun h1 G=>by rw [h1] at G;cases G
 cases p with
 | agg xs =>
  cases q with
  | agg r =>
   have hs:(if xs.size=n/\r.size=n then (Qv xs.toList r.toList).bind (Zam neg) else none)=some v:=hs
   split at hs
   ·rename_i c
    cases hb:Qv xs.toList r.toList with
    | none=>rw [hb] at hs;cases hs
    | some b=>rw [hb] at hs;exact ⟨xs,r,b,rfl,rfl,c.1,c.2,hb,hs⟩
   cases hs
  | _=>exact (D rfl hs).elim
 | _=>exact (D rfl hs).elim
section equal
variable {t:TypeId}
theorem Z1b (d:Nat) (hu:cx.P.underlying t=some .bool) (a b:Bool):(Op.equalIn (d+1) t (.bool a) (.bool b)).run cx.P w = .ok (a == b) w:=by
 simp [Op.equalIn,run_underlying hu]
theorem Z1x (d:Nat) {e:TypeId} (hu:cx.P.underlying t=some (.pointer e)) (b:Option Addr):(Op.equalIn (d+1) t (.pointer none) (.pointer b)).run cx.P w = .ok b.isNone w:=by
 simp [Op.equalIn,run_underlying hu]
theorem Zyy (d:Nat) {e:TypeId} (hu:cx.P.underlying t=some (.pointer e)) (a:Addr):(Op.equalIn (d+1) t (.pointer (some a)) (.pointer none)).run cx.P w = .ok false w:=by
 simp [Op.equalIn,run_underlying hu]
theorem Z8g (d:Nat) {r:Array (String × TypeId)} (hu:cx.P.underlying t=some (.interface r)):(Op.equalIn (d+1) t .nilIface .nilIface).run cx.P w = .ok true w:=by
 simp [Op.equalIn,run_underlying hu]
theorem Z55 (d:Nat) {r:Array (String × TypeId)} (hu:cx.P.underlying t=some (.interface r)) (u:TypeId) (v:Value):(Op.equalIn (d+1) t .nilIface (.iface u v)).run cx.P w = .ok false w:=by
 simp [Op.equalIn,run_underlying hu]
theorem Z7r (d:Nat) {r:Array (String × TypeId)} (hu:cx.P.underlying t=some (.interface r)) (u:TypeId) (v:Value):(Op.equalIn (d+1) t (.iface u v) .nilIface).run cx.P w = .ok false w:=by
 simp [Op.equalIn,run_underlying hu]
theorem Xar (d:Nat) {e:TypeId} (hu:cx.P.underlying t=some (.slice e)) (l c m k:Nat) (b:Option Addr):(Op.equalIn (d+1) t (.slice none l c) (.slice b m k)).run cx.P w = .ok b.isNone w:=by
 simp [Op.equalIn,run_underlying hu]
theorem Z8c (d:Nat) {e:TypeId} (hu:cx.P.underlying t=some (.slice e)) (l c m k:Nat) (a:Addr):(Op.equalIn (d+1) t (.slice (some a) l c) (.slice none m k)).run cx.P w = .ok false w:=by
 simp [Op.equalIn,run_underlying hu]
theorem Xa7 (d:Nat) {ps r:Array TypeId} {D:Bool} (hu:cx.P.underlying t=some (.func ps r D)):(Op.equalIn (d+1) t .nilFunc .nilFunc).run cx.P w = .ok true w:=by
 simp [Op.equalIn,run_underlying hu]
theorem Z6o (d:Nat) {ps r:Array TypeId} {D:Bool} (hu:cx.P.underlying t=some (.func ps r D)) (f:Fn) (a b:Array Value):(Op.equalIn (d+1) t (.func f a b) .nilFunc).run cx.P w = .ok false w:=by
 simp [Op.equalIn,run_underlying hu]
end equal
theorem Zaa {t:TypeId} {x y:Value} {b:Bool} {op:BinOp} {neg:Bool} (r:op=(if neg then .neq else .eql)) (H:(Op.equal t x y).run cx.P w = .ok b w) {v:Value} (hv:Zam neg b=some v)
  (D:binOp .eql t x y=(do pure (.bool (<-Op.equal t x y)))) (G:binOp .neq t x y=(do pure (.bool (!(<-Op.equal t x y))))):(binOp op t x y).run cx.P w = .ok v w:=by
 subst r;have hv:=Zz0 hv;subst hv
 cases neg
 ·simp only [Xga,if_false,D,Sem.run_bind,H,Result.andThen_ok,Sem.run_pure]
 simp only [if_true,G,Sem.run_bind,H,Result.andThen_ok,Sem.run_pure]
theorem Wp {op:BinOp} {t:TypeId} {x y:Operand} {p q v:Value} (r:(eqGuard op t x y p q).run cx.P w = .ok () w) (hb:(binOp op t p q).run cx.P w = .ok v w) :
  ((do eqGuard op t x y p q;binOp op t p q) >>= fun x=>(pure (Next.value x):Sem Next)).run cx.P w = .ok (.value v) w:=by
 refine Ws ?_;simp only [Sem.run_bind,r,Result.andThen_ok,hb]
theorem Zyh {op:BinOp} {t:TypeId} {x y:Operand} {p q v:Value} (hs:Yo.sem Y w.heap (.ib op) [p,q]=some v) :
  ((do eqGuard op t x y p q;binOp op t p q) >>= fun x=>(pure (Next.value x):Sem Next)).run cx.P w = .ok (.value v) w:=by
 obtain ⟨k,a,D,b,rfl,rfl,r⟩:=Z3u hs;exact Wp (Wk (by simp) (by simp)) (Z1s _ r)
theorem Zyi {op:BinOp} {t:TypeId} {x y:Operand} {p q v:Value} (hs:Yo.sem Y w.heap (.sb op) [p,q]=some v) :
  ((do eqGuard op t x y p q;binOp op t p q) >>= fun x=>(pure (Next.value x):Sem Next)).run cx.P w = .ok (.value v) w:=by
 obtain ⟨a,b,rfl,rfl,r⟩:=Z10 hs;exact Wp (Wk (by simp) (by simp)) (Z3e _ r)
theorem Zie (d:Nat) {xs H:Array Value}:∀ (I:List Field) (k:Nat) (b:Bool),Zb2 cx I k=true->xs.size=k+I.length->H.size=k+I.length ->
  Qv (xs.toList.drop k) (H.toList.drop k)=some b->(Op.eqFields (d+1) xs H I).run cx.P w = .ok b w:=by
 intro I
 induction I with
 | nil =>
  intro k b _ hx hy hb;rw [Xgs (by simp;simp at hx;omega),Xgs (by simp;simp at hy;omega)] at hb
  cases hb
  rfl
 | cons f r ih =>
  intro k b hf hx hy hb;simp only [Zb2,Xf4,bne_iff_ne,beq_iff_eq] at hf;obtain ⟨⟨⟨U,R⟩,hu⟩,V⟩:=hf;simp only [Xg5] at hx hy;have X:k<xs.toList.length:=by simp;omega
  have Z:k<H.toList.length:=by simp;omega
  rw [Xhc X,Xhc Z] at hb
  cases D:cx.P.underlying f.type with
  | none=>rw [D] at hu;cases hu
  | some u =>
  cases u with
  | int kk =>
   generalize J:xs.toList[k]=x at hb;generalize M:H.toList[k]=y at hb;have px:(part f.type xs f.offset).run cx.P w = .ok x w:=Za9 D (n:=0) (by simp [Xx]) (by
    rw [R];simp only [Zah,Xx,Xga,if_false];rw [<-J];simp [Xg0 (show k<xs.size by omega)])
   have py:(part f.type H f.offset).run cx.P w = .ok y w:=Za9 D (n:=0) (by simp [Xx]) (by
    rw [R];simp only [Zah,Xx,Xga,if_false];rw [<-M];simp [Xg0 (show k<H.size by omega)])
   unfold Qv at hb
   split at hb
   ·rename_i O _;cases O
   ·rename_i k1 a r1 j1 b1 s1 e1 e2
    cases e1
    cases e2
    split at hb
    ·rename_i hk;subst hk
     cases hq:Qv (List.drop (k+1) xs.toList) (List.drop (k+1) H.toList) with
     | none=>rw [hq] at hb;cases hb
     | some c =>
      rw [hq] at hb;simp only [Xii,Xgr] at hb;have:=ih (k+1) c V (by omega) (by omega) hq;simp only [Op.eqFields,if_pos U,Sem.run_bind,px,py,Result.andThen_ok,run_equalIn_int w d f.type _ _ _ _ D,Sem.run_ite];by_cases G:(a == b1)=true
      ·simp only [G,Bool.not_true,Xga,if_false,this];rw [<-hb,G];rfl
      simp only [Xij] at G;simp only [G,Bool.not_false,if_true,Sem.run_pure];rw [<-hb,G];rfl
    cases hb
   cases hb
  | _=>rw [D] at hu;cases hu
theorem Zyj {io:Yo} {neg:Bool} {op:BinOp} {t:TypeId} {x y:Operand} {p q v:Value} (r:op=(if neg then .neq else .eql)) (G:Zc5 cx neg op t x y=some (.io io))
  (hs:io.sem Y w.heap [p,q]=some v) :
  ((do eqGuard op t x y p q;binOp op t p q) >>= fun x=>(pure (Next.value x):Sem Next)).run cx.P w = .ok (.value v) w:=by
 unfold Zc5 at G
 split at G
 ·cases G;exact Zyh hs
 ·cases G;exact Zyi hs
 ·rename_i hu
  cases G
  obtain ⟨a,b,rfl,rfl,D⟩:=Z01 hs;exact Wp (Wk (by simp) (by simp)) (Zaa r (Z1b 9999 hu a b) D rfl rfl)
 ·rename_i e hu
  cases G
  rcases Zzf hs with ⟨b,rfl,rfl,D⟩ | ⟨a,rfl,rfl,D⟩
  ·exact Wp (Wk (by simp) (by simp)) (Zaa r (Z1x 9999 hu b) D rfl rfl)
  exact Wp (Wk (by simp) (by simp)) (Zaa r (Zyy 9999 hu a) D rfl rfl)
 ·rename_i X hu
  cases G
  rcases Z0x hs with ⟨rfl,rfl,J,D⟩ | ⟨M,u,rfl,rfl,D⟩ | ⟨M,u,rfl,rfl,D⟩
  ·exact Wp (Zty J) (Zaa r (Z8g 9999 hu) D rfl rfl)
  ·exact Wp (Wk (by simp) (by simp)) (Zaa r (Z55 9999 hu _ _) D rfl rfl)
  exact Wp (Wk (by simp) (by simp)) (Zaa r (Z7r 9999 hu _ _) D rfl rfl)
 ·rename_i e hu
  cases G
  rcases Z0y hs with ⟨l,c,b,m,d,rfl,rfl,D⟩ | ⟨a,l,c,m,d,rfl,rfl,D⟩
  ·exact Wp (Wk (by simp) (by simp)) (Zaa r (Xar 9999 hu _ _ _ _ _) D rfl rfl)
  exact Wp (Wk (by simp) (by simp)) (Zaa r (Z8c 9999 hu _ _ _ _ _) D rfl rfl)
 ·rename_i ps Z va hu
  cases G
  rcases Z0s hs with ⟨rfl,rfl,D⟩ | ⟨f,a,b,rfl,rfl,D⟩
  ·exact Wp (Wk (by simp) (by simp)) (Zaa r (Xa7 9999 hu) D rfl rfl)
  exact Wp (Wk (by simp) (by simp)) (Zaa r (Z6o 9999 hu _ _ _) D rfl rfl)
 ·rename_i I hu
  split at G
  ·rename_i hc;obtain ⟨c1,O,R⟩:=hc
   cases G
   obtain ⟨xs,H,b,rfl,rfl,h1,U,D,h4⟩:=Z0w hs;have hf:cx.P.fieldsOf t=I:=by simp [Program.fieldsOf,hu]
   have V:(Op.equal t (.agg xs) (.agg H)).run cx.P w = .ok b w:=by
    show (Op.equalIn (9999+1) t (.agg xs) (.agg H)).run cx.P w=_;rw [run_equalIn_struct w 9999 t xs H (by rw [hf];exact hu) O,hf];exact Zie 9998 I.toList 0 b c1 (by simpa using h1) (by simpa using U) (by simpa using D)
   refine Wp (run_eqGuard_agg w op t x y xs H R) (Zaa r V h4 ?_ ?_)
   ·rfl
   rfl
  cases G
 cases G
theorem Z7w {io:Yo} {op:BinOp} {t:TypeId} {x y:Operand} {p q v:Value} (r:Zft cx op t x y=some (.io io)) (hs:io.sem Y w.heap [p,q]=some v) :
  ((do eqGuard op t x y p q;binOp op t p q) >>= fun x=>(pure (Next.value x):Sem Next)).run cx.P w = .ok (.value v) w:=by
 unfold Zft at r
 split at r
 ·exact Zyj (neg:=false) rfl r hs
 ·exact Zyj (neg:=true) rfl r hs
 split at r
 ·cases r;exact Zyh hs
 ·cases r;exact Zyi hs
 ·cases r
theorem Zbc {r:Option Nat} {x y:Value} {b:Bool} (h:Zcd r x y=some b) :
  (∃ k p q,r=none/\x = .int k p/\y = .int k q/\b=(p == q))\/(∃ n xs D,r=some n/\x = .agg xs/\y = .agg D/\xs.size=n/\D.size=n/\Qv xs.toList D.toList=some b):=by
 unfold Zcd at h
 split at h
 ·split at h
  ·rename_i c;obtain ⟨c1,G⟩:=c;subst G;simp at h;exact .inl ⟨_,_,_,c1,rfl,rfl,h.symm⟩
  cases h
 ·split at h
  ·split at h
   ·rename_i c;exact .inr ⟨_,_,_,rfl,rfl,rfl,c.1,c.2,h⟩
   cases h
  cases h
 cases h
theorem Zth {e:TypeId} {q:IntKind} (G:cx.P.underlying e=some (.int q)) (hc:cx.P.cellsOf e=1) (d:Nat) {xs r:Array Value}:∀ (n k:Nat) (b:Bool),xs.size=k+n->r.size=k+n ->
  Qv (xs.toList.drop k) (r.toList.drop k)=some b->(Op.eqItems (d+1) e (cx.P.cellsOf e) xs r (List.range' k n)).run cx.P w = .ok b w:=by
 intro n
 induction n with
 | zero =>
  intro k b hx hy hb;rw [Xgs (by simp;omega),Xgs (by simp;omega)] at hb
  cases hb
  rfl
 | succ n ih =>
  intro k b hx hy hb;have M:k<xs.toList.length:=by simp;omega
  have O:k<r.toList.length:=by simp;omega
  rw [Xhc M,Xhc O] at hb;generalize H:xs.toList[k]=x at hb;generalize I:r.toList[k]=y at hb;have px:(part e xs (k * cx.P.cellsOf e)).run cx.P w = .ok x w:=Za9 G (n:=0) (by simp [Xx]) (by
   rw [hc,Xgd];simp only [Zah,Xx,Xga,if_false];rw [<-H];simp [Xg0 (show k<xs.size by omega)])
  have R:(part e r (k * cx.P.cellsOf e)).run cx.P w = .ok y w:=Za9 G (n:=0) (by simp [Xx]) (by
   rw [hc,Xgd];simp only [Zah,Xx,Xga,if_false];rw [<-I];simp [Xg0 (show k<r.size by omega)])
  unfold Qv at hb
  split at hb
  ·rename_i J _;cases J
  ·rename_i k1 a Z j1 U s1 V e2
   cases V
   cases e2
   split at hb
   ·rename_i X;subst X;simp only [Xfz] at hb;obtain ⟨c,hc',rfl⟩:=hb;have:=ih (k+1) c (by omega) (by omega) hc';rw [List.range'_succ];simp only [Op.eqItems,Sem.run_bind,px,R,Result.andThen_ok,run_equalIn_int w d e k1 q _ _ G];by_cases D:a=U
    ·subst D;simpa using this
    simp [D]
   cases hb
  cases hb
theorem Zn8 {k:TypeId} {J:Option Nat} {x y:Value} {b:Bool} (D:Zag cx k=some J) (h:Zcd J x y=some b):(Op.equal k x y).run cx.P w = .ok b w:=by
 show (Op.equalIn (9999+1) k x y).run cx.P w=_;unfold Zag at D
 split at D
 ·rename_i q hu
  cases D
  rcases Zbc h with ⟨j,p,r,_,rfl,rfl,rfl⟩ | ⟨n,xs,G,e,_⟩
  ·exact run_equalIn_int w 9999 k j q _ _ hu
  cases e
 ·rename_i M hu
  split at D
  ·rename_i hc
   cases D
   rcases Zbc h with ⟨j,p,r,e,_⟩ | ⟨n,xs,G,e,rfl,rfl,h1,H,I⟩
   ·cases e
   ·cases e
    have hf:cx.P.fieldsOf k=M:=by simp [Program.fieldsOf,hu]
    rw [run_equalIn_struct w 9999 k xs G (by rw [hf];exact hu) hc.2,hf];exact Zie 9998 M.toList 0 b hc.1 (by simpa using h1) (by simpa using H) (by simpa using I)
  cases D
 ·rename_i n e hu
  split at D
  ·rename_i q i O R
   split at D
   ·rename_i hc
    cases D
    rcases Zbc h with ⟨j,p,r,e',_⟩ | ⟨U,xs,G,e',rfl,rfl,h1,H,I⟩
    ·cases e'
    ·cases e'
     rw [run_equalIn_array w 9999 xs G hu R,List.range_eq_range'];exact Zth O hc 9998 n 0 b (by simpa using h1) (by simpa using H) (by simpa using I)
   cases D
  cases D
 cases D
theorem Zk6 {k:TypeId} {D:Option Nat} {x:Value} (G:Zag cx k=some D):∀ (r:List MapEntry) (i:Nat) (a:Option (Nat × Value)),Ue D x r i=some a->(Instr.findAsking k x r i).run cx.P w = .ok a w:=by
 intro r
 induction r with
 | nil=>intro i a h;cases h;rfl
 | cons e r ih =>
  intro i a h;unfold Ue at h
  split at h
  ·rename_i hb
   cases h
   simp [Instr.findAsking,Zn8 G hb]
  ·rename_i hb;simp [Instr.findAsking,Zn8 G hb];exact ih _ _ h
  cases h
theorem Zyu {d:TypeDesc} {H:Option Nat} {x:Value}:∀ (G:List MapEntry) (i:Nat) (a r:Option (Nat × Value)),Instr.findNow d x G i=some r->Ue H x G i=some a->a=r:=by
 intro G
 induction G with
 | nil=>intro i a r h1 D;cases h1;cases D;rfl
 | cons e G ih =>
  intro i a r h1 D;have key:∀ b c,Instr.sameNow d x e.key=some b->Zcd H x e.key=some c->b=c:=by
   intro b c hb hc;rcases Zbc hc with ⟨j,p,q,_,I,h4,rfl⟩ | ⟨n,xs,J,_,I,h4,_⟩
   ·rw [I,h4] at hb;unfold Instr.sameNow at hb
    split at hb <;> simp_all
   rw [I,h4] at hb;unfold Instr.sameNow at hb
   split at hb <;> simp_all
  unfold Instr.findNow at h1;unfold Ue at D
  cases hb:Instr.sameNow d x e.key with
  | none=>rw [hb] at h1;cases h1
  | some b =>
   cases hc:Zcd H x e.key with
   | none=>rw [hc] at D;cases D
   | some c =>
    have:=key b c hb hc;subst this;rw [hb] at h1;rw [hc] at D
    cases b
    ·exact ih _ _ _ h1 D
    cases h1;cases D;rfl
theorem Zbd {k:TypeId} {H:Option Nat} {x:Value} {D:List MapEntry} {a:Option (Nat × Value)} (G:Zag cx k=some H) (h:Ue H x D 0=some a):(Instr.findKey k x D).run cx.P w = .ok a w:=by
 have hu:∃ d,cx.P.underlying k=some d:=by
  unfold Zag at G
  cases hu:cx.P.underlying k with
  | none=>rw [hu] at G;cases G
  | some d=>exact ⟨d,rfl⟩
 obtain ⟨d,hu⟩:=hu;simp only [Instr.findKey,Sem.run_bind,run_underlying hu,Result.andThen_ok]
 cases I:Instr.findNow d x D 0 with
 | none=>exact Zk6 G D 0 a h
 | some r=>rw [Zyu D 0 a r I h];rfl
theorem Zdu {k:TypeId} {q j:IntKind} {z:Int} (r:Bool) (d:Nat) (hu:cx.P.underlying k=some (.int q)):(Instr.checkKey r (d+1) k (.int j z)).run cx.P w = .ok () w:=by
 simp [Instr.checkKey,run_underlying hu]
theorem Zcl (r:Nat) (G:Array MapEntry) (D:Nat) (hb:w.heap[r]? = some (.map G D)):(getObj r).run cx.P w = .ok (.map G D) w:=by
 simp [getObj,Sem.run,hb]
theorem Q9 {k:TypeId} {O:Option Nat} {x:Value} (J:Bool) (D:Zag cx k=some O) (h:Za1 O x=true):(Instr.checkKey J 10000 k x).run cx.P w = .ok () w:=by
 unfold Zag at D
 split at D
 ·rename_i q hu
  cases D
  cases x <;> first | (cases h;done) | skip
  exact Zdu J 9999 hu
 ·rename_i V hu
  split at D
  ·rename_i hc
   cases D
   cases x <;> first | (cases h;done) | skip
   rename_i cs;simp only [Za1,Xf4,beq_iff_eq,Xhl] at h;rw [show (10000:Nat)=9998+1+1 from rfl,Instr.checkKey];simp only [Sem.run_bind,run_underlying hu,Result.andThen_ok];rw [<-Array.forIn_toList];have hx:cs.size=0+V.toList.length:=by simpa using h.1
   have hv:=h.2;have G:=hc.1;clear hc hu h;generalize V.toList=L at hx G;generalize 0=k at hx G
   induction L generalizing k with
   | nil=>simp
   | cons f r ih =>
    simp only [Zb2,Xf4,bne_iff_ne,beq_iff_eq] at G;obtain ⟨⟨⟨Z,ho⟩,hu⟩,hr⟩:=G;simp only [Xg5] at hx
    cases H:cx.P.underlying f.type with
    | none=>rw [H] at hu;cases hu
    | some u =>
    cases u with
    | int O =>
     have R:k<cs.size:=by omega
     have M:=hv cs[k] (by simp);obtain ⟨j,z,hz⟩:∃ j z,cs[k] = .int j z:=by
      cases hc:cs[k] <;> rw [hc] at M <;> first | exact ⟨_,_,rfl⟩ | cases M
     have px:(part f.type cs f.offset).run cx.P w = .ok (.int j z) w:=Za9 H (n:=0) (by simp [Xx]) (by
      rw [ho];simp only [Zah,Xx,Xga,if_false];simp [Xg0 R,hz])
     have U:=Zdu (cx:=cx) (w:=w) (j:=j) (z:=z) J 9998 H;simp only [List.forIn_cons,Sem.run_bind,Z,ne_eq,not_false_eq_true,if_true,px,U,Result.andThen_ok,Sem.run_pure];exact ih (k+1) (by omega) hr
    | _=>rw [H] at hu;cases hu
  cases D
 ·rename_i n e hu
  split at D
  ·rename_i q i X M
   split at D
   ·rename_i hc
    cases D
    cases x <;> first | (cases h;done) | skip
    rename_i cs;simp only [Za1,Xf4,beq_iff_eq,Xhl] at h;rw [show (10000:Nat)=9998+1+1 from rfl,Instr.checkKey];simp only [Sem.run_bind,run_underlying hu,Result.andThen_ok];simp only [Std.Legacy.Range.forIn_eq_forIn_range',Std.Legacy.Range.size,Nat.sub_zero,Nat.add_one_sub_one,Nat.div_one];have hx:cs.size=0+n:=by simpa using h.1
    have hv:=h.2;clear hu h;generalize 0=k at hx
    induction n generalizing k with
    | zero=>simp
    | succ n ih =>
     have R:k<cs.size:=by omega
     have I:=hv cs[k] (by simp);obtain ⟨j,z,hz⟩:∃ j z,cs[k] = .int j z:=by
      cases hc:cs[k] <;> rw [hc] at I <;> first | exact ⟨_,_,rfl⟩ | cases I
     have px:(part e cs (k * cx.P.cellsOf e)).run cx.P w = .ok (.int j z) w:=Za9 X (n:=0) (by simp [Xx]) (by
      rw [hc,Xgd];simp only [Zah,Xx,Xga,if_false];simp [Xg0 R,hz])
     have U:=Zdu (cx:=cx) (w:=w) (j:=j) (z:=z) J 9998 X;rw [List.range'_succ];simp only [List.forIn_cons,Sem.run_bind,run_sizeOf w M,px,U,Result.andThen_ok,Sem.run_pure];exact ih (k+1) (by omega)
   cases D
  cases D
 cases D
theorem Zhm {h:Zk} {r:Nat} {I:List MapEntry} (G:Wm h (some r)=some I):∃ H D,h[r]? = some (.map H D)/\I=H.toList:=by
 unfold Wm at G;simp only at G
 split at G
 ·rename_i H D hb
  cases G
  exact ⟨_,_,hb,rfl⟩
 cases G
theorem Zwc {h:Zk} {p v:Value} (hs:Yo.sem Y h .lenM [p]=some v):∃ r D,p = .map r/\Wm h r=some D/\v = .int .i64 D.length:=by
 cases p <;> first | (cases hs;done) | skip
 rename_i r;have hs:(Wm h r).map (fun D=>Value.int .i64 D.length)=some v:=hs;simp only [Xfz] at hs;obtain ⟨D,h1,rfl⟩:=hs;exact ⟨r,D,rfl,h1,rfl⟩
theorem Zq0 {h:Zk} {D:Option Nat} {G:Bool} {z p q v:Value} (hs:Yo.sem Y h (.lookup D G z) [p,q]=some v) :
  ∃ r H a,p = .map r/\Za1 D q=true/\Wm h r=some H/\Ue D q H 0=some a/\v=(match a with | some (_,x)=>if G then .tuple #[x,.bool true] else x | none=>if G then .tuple #[z,.bool false] else z):=by
 cases p <;> first | (cases hs;done) | skip
 rename_i r;have hs:Zed h D G z r q=some v:=hs;unfold Zed at hs
 split at hs
 ·rename_i I;simp only [Xf8,Xfz] at hs;obtain ⟨H,h1,a,J,M⟩:=hs;exact ⟨r,H,a,rfl,I,h1,J,M.symm⟩
 cases hs
theorem Zvk {t J e:TypeId} {I:Option Nat} {H:Bool} {z p q v:Value} (h1:cx.P.underlying t=some (.map J e)) (G:Zag cx J=some I) (M:Qu cx e=some z)
  (hs:Yo.sem Y w.heap (.lookup I H z) [p,q]=some v):(Instr.lookup t p q H).run cx.P w = .ok v w:=by
 obtain ⟨r,U,a,rfl,hq,O,hf,rfl⟩:=Zq0 hs
 cases r with
 | none =>
  cases O
  cases hf
  cases H <;> simp [Instr.lookup,run_underlying h1,Q9 _ G hq,Zbd G (show Ue I q [] 0=some none from rfl),Vo M]
 | some r =>
  obtain ⟨R,D,hb,rfl⟩:=Zhm O
  cases a with
  | none=>cases H <;> simp [Instr.lookup,run_underlying h1,Zcl r R D hb,Q9 _ G hq,Zbd G hf,Vo M]
  | some a=>cases H <;> simp [Instr.lookup,run_underlying h1,Zcl r R D hb,Q9 _ G hq,Zbd G hf]
theorem Z96 {op:UnOp} {p v:Value} (hs:Yo.sem Y w.heap (.un op) [p]=some v):(Op.unary op p).run cx.P w = .ok v w:=by
 rcases Z1l hs with ⟨rfl,k,n,rfl,rfl⟩ | ⟨rfl,b,rfl,rfl⟩ <;> rfl
theorem Z5t {r D:TypeId} {ds:TypeDesc} {k:IntKind} {p v:Value} (h1:cx.P.underlying r=some ds) (G:cx.P.underlying D=some (.int k))
  (hs:Yo.sem Y w.heap (.conv k) [p]=some v):(convert r D p).run cx.P w = .ok v w:=by
 obtain ⟨j,n,rfl,rfl⟩:=Zuy hs;simp [convert,run_underlying h1,run_underlying G,Conv.intToInt]
theorem Z7c {r D e:TypeId} {p v:Value} (h1:cx.P.underlying r=some (.slice e)) (G:cx.P.underlying D=some .string) (H:cx.P.underlying e=some (.int .u8))
  (hs:Yo.sem Y w.heap .b2s [p]=some v):(convert r D p).run cx.P w = .ok v w:=by
 have hc:∀ a n c,(convert r D (.slice a n c)).run cx.P w=(Conv.bytesToString (.slice a n c)).run cx.P w:=by
  intro a n c;simp [convert,run_underlying h1,run_underlying G,run_underlying H]
 rcases Z07 hs with ⟨n,c,rfl,rfl⟩ | ⟨b,o,n,c,l,s,rfl,I,hb,rfl⟩
 ·rw [hc];simp [Conv.bytesToString]
 rw [hc];obtain ⟨J,rfl,h⟩:=Zs8 ByteArray.empty hb;rw [run_bytesToString w _ _ _ J (Zaj I),h]
 congr 2
 show (⟨#[]++s.toArray⟩:ByteArray)=_;rw [Xje]
theorem Z7x {t:TypeId} {d:TypeDesc} {n:Nat} {p v:Value} (r:Ok cx Y) (h1:cx.P.underlying t=some d) (D:∀ G,d≠.interface G) (H:cx.tn t=some n)
  (hs:Yo.sem Y w.heap (.mkI n) [p]=some v):(Instr.makeInterface t p).run cx.P w = .ok v w:=by
 have hs:some (Value.iface (Y.tid n) p)=some v:=hs;simp only [Xgr] at hs;subst hs;simp only [Instr.makeInterface,Sem.run_bind,run_underlying h1,Result.andThen_ok,r.ht _ _ H]
 cases d <;> first | exact absurd rfl (D _) | rfl
theorem Z3w {t:TypeId} {D:Array Field} {f:Nat} {r:Field} {n:Nat} {p v:Value} (h1:cx.P.underlying t=some (.struct D)) (G:D[f]? = some r) (H:Ux cx r.type=some n) (h4:n≠0)
  (hs:Yo.sem Y w.heap (.fadr r.offset) [p]=some v):(Instr.fieldAt t p f).run cx.P w = .ok v w:=by
 obtain ⟨b,o,rfl,rfl⟩:=Zwf hs;simp [Instr.fieldAt,run_underlying h1,G,Instr.sureAddr,fieldPlace,Wc H,h4,Addr.add_lit]
theorem Zxi {t:TypeId} {D:Array Field} {f:Nat} {r:Field} {d:TypeDesc} {n:Nat} {p v:Value} (h1:cx.P.underlying t=some (.struct D)) (G:D[f]? = some r) (H:cx.P.underlying r.type=some d)
  (h4:Xx d=true->Ux cx r.type=some n) (hs:Yo.sem Y w.heap (.fld r.offset n (Xx d)) [p]=some v):(Instr.field t p f).run cx.P w = .ok v w:=by
 obtain ⟨cs,rfl,hs⟩:=Z03 hs;simp only [Instr.field,Sem.run_bind,run_underlying h1,Result.andThen_ok,G,asAgg,Sem.run_pure];exact Za9 H h4 hs
theorem Z4r {t e:TypeId} {n:Nat} {p q v:Value} (h1:cx.P.underlying t=some (.slice e)) (r:Ux cx e=some n)
  (hs:Yo.sem Y w.heap (.idxa n) [p,q]=some v):(Instr.indexAt t p q).run cx.P w = .ok v w:=by
 obtain ⟨b,o,m,c,k,i,rfl,rfl,hb,rfl⟩:=Zwx hs;simp [Instr.indexAt,run_underlying h1,asIntOf,hb,Wc r,Addr.add_lit]
theorem Z2q {t e:TypeId} {len n:Nat} {p q v:Value} (h1:cx.P.underlying t=some (.array len e)) (r:Ux cx e=some n)
  (hs:Yo.sem Y w.heap (.idxA len n) [p,q]=some v):(Instr.indexAt t p q).run cx.P w = .ok v w:=by
 obtain ⟨b,o,k,i,rfl,rfl,hb,rfl⟩:=Zu1 hs;simp [Instr.indexAt,run_underlying h1,asIntOf,hb,Wc r,Instr.sureAddr,Addr.add_lit]
theorem Z48 {t:TypeId} {p q v:Value} (h1:cx.P.underlying t=some .string)
  (hs:Yo.sem Y w.heap .idxS [p,q]=some v):(Instr.index t p q).run cx.P w = .ok v w:=by
 obtain ⟨s,k,i,b,rfl,rfl,h0,hb,rfl⟩:=Zwm hs;simp [Instr.index,run_underlying h1,asIntOf,h0,hb]
theorem Z1v {t e:TypeId} {len n:Nat} {d:TypeDesc} {p q v:Value} (h1:cx.P.underlying t=some (.array len e)) (D:cx.P.underlying e=some d) (r:Ux cx e=some n)
  (hs:Yo.sem Y w.heap (.idxV len n (Xx d)) [p,q]=some v):(Instr.index t p q).run cx.P w = .ok v w:=by
 obtain ⟨cs,k,i,rfl,rfl,hb,hs⟩:=Zva hs;simp only [Instr.index,Sem.run_bind,asIntOf,Sem.run_pure,Result.andThen_ok,run_underlying h1,hb,and_self,if_true,Wc r];exact Za9 D (fun _=>r) hs
theorem Z99 {t M:TypeId} {d:TypeDesc} {n:Nat} {D:Bool} {z p v:Value} (O:Ok cx Y) (h1:cx.P.underlying t=some d) (I:∀ R,d≠.interface R) (U:cx.tn t=some n) (h4:Qu cx t=some z)
  (hs:Yo.sem Y w.heap (.ta n D z) [p]=some v):(Instr.typeAssert p M t D).run cx.P w = .ok v w:=by
 have ht:=O.ht _ _ U;rcases Z1u hs with ⟨V,u,rfl,hs'⟩ | ⟨rfl,rfl,rfl⟩
 ·clear hs;have hs:=hs';clear hs';rw [ht] at hs;have G:∀ r:Result Value,r=(if V=t then (if D then .ok (.tuple #[u,.bool true]) w else .ok u w) else (if D then .ok (.tuple #[z,.bool false]) w else r))->r = .ok v w:=by
   intro r J
   split at hs
   ·rename_i H;rw [if_pos H] at J
    cases D <;> simp_all
   rename_i H;rw [if_neg H] at J
   cases D <;> simp_all
  apply G;simp only [Instr.typeAssert,Sem.run_bind,run_underlying h1,Result.andThen_ok]
  cases d <;> first | exact absurd rfl (I _) | (split <;> cases D <;> simp_all [Vo h4])
 simp only [Instr.typeAssert,Sem.run_bind,run_underlying h1,Result.andThen_ok]
 cases d <;> first | exact absurd rfl (I _) | (simp [Vo h4])
theorem Zqb (H:Bool) {n c:Nat} (lo D:Option Operand) (ρ:Operand->Value) {x:Nat × Nat} (h:W0 n c lo.isSome D.isSome ((lo.toList++D.toList).map ρ)=some x) :
  (Instr.sliceBounds H n c (lo.map ρ) (D.map ρ) none).run cx.P w = .ok (x.1,x.2,c) w:=by
 rcases Zwo h with ⟨h1,G,r,rfl⟩ | ⟨h1,G,k,l,r,hb,rfl⟩ | ⟨h1,G,k,l,r,hb,rfl⟩ | ⟨h1,G,k,l,j,m,r,hb,rfl⟩ <;>
  cases lo <;> cases D <;> simp at h1 G r
 ·simp [Instr.sliceBounds]
 ·simp [Instr.sliceBounds,Instr.sliceBound,asIntOf,hb,r]
 ·simp [Instr.sliceBounds,Instr.sliceBound,asIntOf,hb,r]
 have h0:(0:Int)<=m:=by omega
 have I:¬ (max m 0<l):=by omega
 simp [Instr.sliceBounds,Instr.sliceBound,asIntOf,hb,r,h0,I]
theorem Z7z {t e:TypeId} {n:Nat} {lo r:Option Operand} {ρ:Operand->Value} {p v:Value} (h1:cx.P.underlying t=some (.slice e)) (D:Ux cx e=some n)
  (hs:Yo.sem Y w.heap (.slc n lo.isSome r.isSome) (p::(lo.toList++r.toList).map ρ)=some v):(Instr.sliceAt t p (lo.map ρ) (r.map ρ) none).run cx.P w = .ok v w:=by
 obtain ⟨a,m,c,x,rfl,hx,hv⟩:=Zzc hs;have hc:=Zqb (cx:=cx) (w:=w) true lo r ρ hx;simp only [Instr.sliceAt,Instr.slice,Sem.run_bind,run_underlying h1,Result.andThen_ok,hc,Wc D,Sem.run_pure];rcases hv with ⟨rfl,rfl⟩ | ⟨b,o,rfl,rfl⟩ | ⟨b,o,s,rfl,hc,rfl⟩
 ·split <;> rfl
 ·split <;> simp [Addr.add_lit]
 subst hc;simp
theorem Z46 {t:TypeId} {lo r:Option Operand} {ρ:Operand->Value} {p v:Value} (h1:cx.P.underlying t=some .string)
  (hs:Yo.sem Y w.heap (.slcS lo.isSome r.isSome) (p::(lo.toList++r.toList).map ρ)=some v):(Instr.sliceAt t p (lo.map ρ) (r.map ρ) none).run cx.P w = .ok v w:=by
 obtain ⟨s,x,rfl,hx,rfl⟩:=Zv5 hs;have hc:=Zqb (cx:=cx) (w:=w) false lo r ρ hx;simp [Instr.sliceAt,Instr.slice,run_underlying h1,hc]
theorem Z4z {t e:TypeId} {len n:Nat} {lo r:Option Operand} {ρ:Operand->Value} {p v:Value} (h1:cx.P.underlying t=some (.array len e)) (D:Ux cx e=some n)
  (hs:Yo.sem Y w.heap (.slcA len n lo.isSome r.isSome) (p::(lo.toList++r.toList).map ρ)=some v):(Instr.sliceAt t p (lo.map ρ) (r.map ρ) none).run cx.P w = .ok v w:=by
 obtain ⟨b,o,x,rfl,hx,rfl⟩:=Zu6 hs;have hc:=Zqb (cx:=cx) (w:=w) false lo r ρ hx;simp only [Instr.sliceAt,Sem.run_bind,run_underlying h1,Result.andThen_ok,Instr.sureAddr,Sem.run_pure,hc,Wc D]
 split <;> simp [Addr.add_lit]
theorem Zw8 {h:Zk} {sz:Nat} {p q r s v:Value} (hs:Yo.sem Y h (.slc3 sz) [p,q,r,s]=some v) :
  ∃ a n c k l j i g m,p = .slice a n c/\q = .int k l/\r = .int j i/\s = .int g m/\0<=l/\l<=i/\i<=m/\m<=c /\
   ((a=none/\v = .slice none (i.toNat-l.toNat) (m.toNat-l.toNat))\/∃ b o,a=some ⟨b,o,none⟩/\v = .slice (some ⟨b,if m.toNat=l.toNat then o else o+l.toNat * sz,none⟩) (i.toNat-l.toNat) (m.toNat-l.toNat)):=by
 cases p with
 | slice a n c =>
  cases q with
  | int k l =>
   cases r with
   | int j i =>
    cases s with
    | int g m =>
     simp only [Yo.sem] at hs
     split at hs
     ·rename_i hb;refine ⟨a,n,c,k,l,j,i,g,m,rfl,rfl,rfl,rfl,hb.1,hb.2.1,hb.2.2.1,hb.2.2.2,?_⟩
      split at hs
      ·cases hs;exact .inl ⟨rfl,rfl⟩
      ·cases hs;exact .inr ⟨_,_,rfl,rfl⟩
      ·cases hs
     cases hs
    | _=>cases hs
   | _=>cases hs
  | _=>cases hs
 | _=>cases hs
theorem Z2c {t e:TypeId} {n:Nat} {lo r mx:Operand} {ρ:Operand->Value} {x:Operand} {v:Value} (h1:cx.P.underlying t=some (.slice e)) (D:Ux cx e=some n)
  (hs:Yo.sem Y w.heap (.slc3 n) ([x,lo,r,mx].map ρ)=some v):(Instr.sliceAt t (ρ x) ((some lo).map ρ) ((some r).map ρ) ((some mx).map ρ)).run cx.P w = .ok v w:=by
 obtain ⟨a,M,c,k,l,j,i,g,m,hp,hq,G,H,O,R,U,V,hv⟩:=Zw8 hs;have c1:0<=m/\m<=(c:Int):=by omega
 have I:0<=i/\i<=(m.toNat:Int):=by omega
 have J:0<=l/\l<=(i.toNat:Int):=by omega
 simp only [Xii,hp,hq,G,H,Instr.sliceAt,Instr.slice,Sem.run_bind,run_underlying h1,Result.andThen_ok,Instr.sliceBounds,Instr.sliceBound,asIntOf,Sem.run_pure,c1,I,J,and_self,if_true,Wc D];rcases hv with ⟨rfl,rfl⟩ | ⟨b,o,rfl,rfl⟩
 ·split <;> rfl
 split <;> simp_all [Addr.add_lit]
theorem Z1y : (Extern.allGenericRows.lookup "internal/bytealg.CountString").isNone = true ∧ (Extern.allTypedRows.lookup "internal/bytealg.CountString").isNone = true ∧ Extern.allRows.lookup "internal/bytealg.CountString" = some Extern.BytealgCount.count := ⟨by kernel_rfl, by kernel_rfl, by kernel_rfl⟩
theorem Z5n : (Extern.allGenericRows.lookup "internal/bytealg.IndexByteString").isNone = true ∧ (Extern.allTypedRows.lookup "internal/bytealg.IndexByteString").isNone = true ∧ Extern.allRows.lookup "internal/bytealg.IndexByteString" = some Extern.BytealgIndexByte.indexByte := ⟨by kernel_rfl, by kernel_rfl, by kernel_rfl⟩
theorem Zxx {D:Func} {n:String} {e:Array Value->Sem Value} (h:D.name=n) (G:(Extern.allGenericRows.lookup n).isNone=true/\(Extern.allTypedRows.lookup n).isNone=true/\Extern.allRows.lookup n=some e):Extern.find D=some e:=by
 obtain ⟨h1,r,H⟩:=G;have h1:Extern.allGenericRows.lookup n=none:=by simpa using h1
 have r:Extern.allTypedRows.lookup n=none:=by simpa using r
 unfold Extern.find;simp only [h,h1,r,H]
 rfl
theorem Z5p {h:Zk} {xs:Zc} {v:Value} (hs:Yo.sem Y h (.idxA 0 0) xs=some v):False:=by
 unfold Yo.sem at hs
 split at hs <;> simp_all
 omega
theorem Z7e {o:Oper} {ρ:Operand->Value} {io:Yo} {f:FuncId} {args:Array Operand} {argTypes:Array TypeId} {v:Value} (hρ:∀ f,ρ (.func f) = .func (.func f) #[] #[]) (r:Z21 cx f=some io) (hs:io.sem Y w.heap (args.toList.map ρ)=some v) :
  (do let d <-resolve ρ ⟨.value (.func f),args,argTypes⟩ o.type;invoke d.target d.args:Sem Next).run cx.P w = .ok (.value v) w:=by
 unfold Z21 at r
 split at r
 rotate_left
 ·cases r
 rename_i J hf
 split at r
 rotate_left
 ·cases r
 rename_i hc;obtain ⟨hb,M,hx⟩:=hc;have hx:Extern.findNext J=none:=by simpa using hx
 have H:∀ (e:Array Value->Sem Value),Extern.find J=some e->(e (args.map ρ)).run cx.P w = .ok v w ->
   (do let d <-resolve ρ ⟨.value (.func f),args,argTypes⟩ o.type;invoke d.target d.args:Sem Next).run cx.P w = .ok (.value v) w:=by
  intro e O R;simp only [resolve,hρ,Deferred.ofValue,Sem.run_bind,Sem.run_pure,Result.andThen_ok,invoke];have hq:=run_callFunc_extern hf M hb hx O (#[]++args.map ρ++#[]) w;simp only [Xje,Array.append_empty] at hq;simp only [Xje,Array.append_empty];rw [hq,R]
  rfl
 split at r
 ·rename_i D
  cases r
  obtain ⟨s,c,I,rfl⟩:∃ s c,args.toList.map ρ=[.string s,.int .u8 c]/\v = .int .i64 (Lib.countByte s.data.toList c.toNat.toUInt8):=by
   unfold Yo.sem at hs
   split at hs <;> simp_all
   exact ⟨_,_,⟨rfl,rfl⟩,hs.symm⟩
  have G:args.map ρ=#[.string s,.int .u8 c]:=by apply Xf6;simpa using I
  exact H _ (Zxx D Z1y) (by rw [G];exact Lib.run_countString s c w)
 split at r
 ·rename_i D
  cases r
  obtain ⟨s,c,I,rfl⟩:∃ s c,args.toList.map ρ=[.string s,.int .u8 c]/\v = .int .i64 (Lib.indexByte s.data.toList c.toNat.toUInt8):=by
   unfold Yo.sem at hs
   split at hs <;> simp_all
   exact ⟨_,_,⟨rfl,rfl⟩,hs.symm⟩
  have G:args.map ρ=#[.string s,.int .u8 c]:=by apply Xf6;simpa using I
  exact H _ (Zxx D Z5n) (by rw [G];exact Lib.run_indexByteString s c w)
 cases r
 exact (Z5p hs).elim
theorem Z6d {o:Oper} {ρ:Operand->Value} {io:Yo} {xs:List Operand} {v:Value} {c:Call} (hρ:∀ f,ρ (.func f) = .func (.func f) #[] #[]) (D:Zd9 cx (.call c)=some (.io io,xs)) (hs:io.sem Y w.heap (xs.map ρ)=some v) :
  (do let d <-resolve ρ c o.type;invoke d.target d.args:Sem Next).run cx.P w = .ok (.value v) w:=by
 obtain ⟨callee,args,argTypes⟩:=c;simp only [Zd9] at D
 split at D
 ·rename_i f
  split at D
  ·rename_i o J
   cases D
   exact Z7e hρ J hs
  simp [Xfz] at D
 ·cases D
 ·split at D
  ·rename_i t x ht G;have ht:argTypes=#[t]:=by apply Xf6;simpa using ht
   have G:args=#[x]:=by apply Xf6;simpa using G
   subst ht;subst G
   split at D
   ·rename_i e h1
    cases D
    obtain ⟨a,n,c,hp,rfl⟩:=Z0p hs;simp [resolve,hp,invoke,builtin,Builtin.len_,run_underlying h1,goInt]
   ·rename_i h1
    cases D
    obtain ⟨s,hp,rfl⟩:=Zwg hs;simp [resolve,hp,invoke,builtin,Builtin.len_,run_underlying h1,goInt]
   ·rename_i n e h1
    cases D
    have hs:some (Value.int .i64 n)=some v:=hs
    cases hs
    simp [resolve,invoke,builtin,Builtin.len_,run_underlying h1,goInt]
   ·rename_i O e h1
    cases D
    obtain ⟨r,R,hp,I,rfl⟩:=Zwc hs
    cases r with
    | none =>
     cases I
     simp [resolve,hp,invoke,builtin,Builtin.len_,run_underlying h1,goInt]
    | some r =>
     obtain ⟨M,H,hb,rfl⟩:=Zhm I;simp [resolve,hp,invoke,builtin,Builtin.len_,run_underlying h1,goInt,Zcl r M H hb]
   cases D
  cases D
 ·split at D
  ·rename_i t x ht G;have ht:argTypes=#[t]:=by apply Xf6;simpa using ht
   have G:args=#[x]:=by apply Xf6;simpa using G
   subst ht;subst G
   split at D
   ·rename_i e h1
    cases D
    obtain ⟨a,n,c,hp,rfl⟩:=Z0l hs;simp [resolve,hp,invoke,builtin,Builtin.cap_,run_underlying h1,goInt]
   cases D
  cases D
 ·split at D
  ·rename_i x y G;have G:args=#[x,y]:=by apply Xf6;simpa using G
   subst G
   cases D
   obtain ⟨k,a,j,b,hp,hq,rfl⟩:=Z1t hs;simp [resolve,hp,hq,invoke,builtin,Builtin.min_,Builtin.min2]
  cases D
 ·split at D
  ·rename_i x y G;have G:args=#[x,y]:=by apply Xf6;simpa using G
   subst G
   cases D
   obtain ⟨k,a,j,b,hp,hq,rfl⟩:=Z19 hs;simp [resolve,hp,hq,invoke,builtin,Builtin.max_,Builtin.max2]
  cases D
 ·split at D
  ·split at D
   ·split at D
    ·split at D <;> cases D
    ·split at D <;> cases D
    ·split at D <;> cases D
    cases D
   cases D
  cases D
 ·split at D
  ·split at D
   ·split at D <;> cases D
   cases D
  cases D
 ·split at D
  ·split at D
   ·simp [Xfz] at D
   cases D
  cases D
 cases D
theorem Zo8 {o:Oper} {ρ:Operand->Value} {io:Yo} {xs:List Operand} {v:Value} (R:Ok cx Y) (hρ:∀ f,ρ (.func f) = .func (.func f) #[] #[])
  (D:Zd9 cx o.op=some (.io io,xs)) (hs:io.sem Y w.heap (xs.map ρ)=some v) :
  (execOp ρ o).run cx.P w = .ok (.value v) w:=by
 unfold execOp
 cases ho:o.op <;> simp only [ho,Zd9] at D ⊢
 case move x =>
  cases D;simp only [Xha,Xhr,Yo.sem,Xgr] at hs;subst hs;rfl
 case assign x =>
  cases D;simp only [Xha,Xhr,Yo.sem,Xgr] at hs;subst hs;rfl
 case pick c a b =>
  cases D
  simp only [Xha,Xhr] at hs;generalize ρ c=rc at *
  generalize ρ a=ra at *
  generalize ρ b=rb at *
  cases rc <;> simp only [Yo.sem,Xgr,reduceCtorEq] at hs
  subst hs;simp [asBool]
 case alloc=>simp [Xfz] at D
 case box=>cases D
 case build t ps =>
  split at D
  ·rename_i U z hu hz;simp only [Xfz,Prod.mk.injEq,Kd.io.injEq] at D;obtain ⟨pl,V,rfl,rfl⟩:=D;simp only [Yo.sem,Xf8,Xgr] at hs;obtain ⟨cs,O,rfl⟩:=hs;refine Ws ?_;have hm:=Zin (w:=w) U pl V;simp only [Instr.build,Sem.run_bind,Vo hz,run_underlying hu,Result.andThen_ok,hm];have J:=Zi0 ρ ps;simp only [J,List.getElem?_toArray,O]
   rfl
  ·rename_i n e z hu hz;simp only [Xfz,Prod.mk.injEq,Kd.io.injEq] at D;obtain ⟨sz,X,rfl,rfl⟩:=D;simp only [Yo.sem,Xf8,Xgr] at hs;obtain ⟨cs,O,rfl⟩:=hs;refine Ws ?_;have J:=Zi0 ρ ps;simp only [Instr.build,Sem.run_bind,Vo hz,run_underlying hu,Result.andThen_ok,Wc X,J,O]
   rfl
  cases D
 case buildSlice t len ps =>
  split at D
  ·split at D
   ·split at D <;> cases D
   cases D
  cases D
 case load t x =>
  split at D
  ·rename_i d hd;have key:∀ n,(Xx d=true->Ux cx t=some n)->Yo.sem Y w.heap (.load n (Xx d)) [ρ x]=some v ->
     ((Instr.loadAt t (ρ x)) >>= fun x=>(pure (Next.value x):Sem Next)).run cx.P w = .ok (.value v) w:=by
    intro n M hs;refine Ws ?_;generalize ρ x=rx at *
    unfold Instr.loadAt
    match rx,hs with
    | .pointer (some ⟨b,o,none⟩),hs=>simpa [Instr.sureAddr] using Zjk hd M hs
    | .pointer (some ⟨b,o,some s⟩),hs=>cases H:Xx d <;> simp [H,Yo.sem] at hs
    | .pointer none,hs=>cases H:Xx d <;> simp [H,Yo.sem] at hs
    | .bool _,hs | .int _ _,hs | .float _ _,hs | .complex _ _ _,hs | .string _,hs | .slice _ _ _,hs | .map _,hs | .chan _,hs | .func _ _ _,hs | .nilFunc,hs | .iface _ _,hs | .nilIface,hs | .agg _,hs | .tuple _,hs=>cases H:Xx d <;> simp [H,Yo.sem] at hs
   split at D
   ·rename_i H;simp only [Xfz,Prod.mk.injEq,Kd.io.injEq] at D;obtain ⟨n,M,rfl,rfl⟩:=D;exact key n (fun _=>M) (by simpa [H] using hs)
   rename_i H
   cases D
   have H:Xx d=false:=by simpa using H
   exact key 1 (fun h=>by rw [H] at h;cases h) (by simpa [H] using hs)
  cases D
 case store=>simp [Xfz] at D
 case nilCheck x =>
  cases D
  simp only [Xha,Xhr] at hs;generalize ρ x=rx at *
  unfold Yo.sem at hs
  split at hs <;> simp_all <;> (subst hs;rfl)
 case binOp op t x y yt =>
  simp only [Xfz,Prod.mk.injEq] at D;obtain ⟨k,D,rfl,rfl⟩:=D;exact Z7w D hs
 case unOp op t x =>
  cases D
  exact Ws (Z96 hs)
 case convert sT dT x =>
  split at D
  ·rename_i h1 G;cases D;exact Ws (Z5t h1 G hs)
  ·rename_i h1 G
   split at D
   ·rename_i I;cases D;exact Ws (Z7c h1 G I hs)
   cases D
  ·split at D
   ·cases D
   ·cases D
  ·split at D
   ·split at D
    ·cases D
    ·cases D
   cases D
  cases D
 case makeInterface t x =>
  split at D
  ·cases D
  ·rename_i d M h1;simp only [Xfz,Prod.mk.injEq,Kd.io.injEq] at D;obtain ⟨n,Z,rfl,rfl⟩:=D;exact Ws (Z7x R h1 (fun ms hd=>M ms hd) Z hs)
  cases D
 case makeFunc fn first cap =>
  cases fn <;> simp only [reduceCtorEq] at D
  simp only [Xfz,Prod.mk.injEq,Kd.io.injEq] at D;obtain ⟨n,M,rfl,rfl⟩:=D;refine Ws ?_;have hs:some (Value.func (.func (Y.fid n)) (((first.toList++cap.toList).map ρ).take first.size).toArray (((first.toList++cap.toList).map ρ).drop first.size).toArray)=some v:=hs;simp only [Xgr] at hs;subst hs;rw [(R.hf _ _ M).1];have h1:(((first.toList++cap.toList).map ρ).take first.size).toArray=first.map ρ:=by
   rw [Xgt,List.take_left' (by simp)];apply Xf6;simp
  have G:(((first.toList++cap.toList).map ρ).drop first.size).toArray=cap.map ρ:=by
   rw [Xgt,List.drop_left' (by simp)];apply Xf6;simp
  rw [h1,G]
  rfl
 case makeSlice t l c =>
  split at D
  ·split at D <;> cases D
  cases D
 case slice t x lo hi mx =>
  cases mx with
  | some m =>
   cases lo with
   | none=>simp at D
   | some l =>
    cases hi with
    | none=>simp at D
    | some j =>
     simp only at D
     split at D
     ·rename_i e h1;simp only [Xfz,Prod.mk.injEq,Kd.io.injEq] at D;obtain ⟨n,G,rfl,rfl⟩:=D;exact Ws (Z2c h1 G hs)
     cases D
  | none =>
   simp only at D
   split at D
   ·rename_i e h1;simp only [Xfz,Prod.mk.injEq,Kd.io.injEq] at D;obtain ⟨n,G,rfl,rfl⟩:=D;exact Ws (Z7z h1 G hs)
   ·rename_i h1;cases D;exact Ws (Z46 h1 hs)
   ·rename_i len e h1;simp only [Xfz,Prod.mk.injEq,Kd.io.injEq] at D;obtain ⟨n,G,rfl,rfl⟩:=D;exact Ws (Z4z h1 G hs)
   cases D
 case fieldAddr t x f =>
  split at D
  ·rename_i U h1;simp only [Xf8] at D;obtain ⟨fd,G,n,I,D⟩:=D
   split at D
   ·cases D
   ·rename_i h4;cases D;exact Ws (Z3w h1 G I h4 hs)
  cases D
 case field t x f =>
  split at D
  ·rename_i U h1;simp only [Xf8] at D;obtain ⟨fd,G,D⟩:=D
   split at D
   ·rename_i d I
    split at D
    ·rename_i H;simp only [Xfz,Prod.mk.injEq,Kd.io.injEq] at D;obtain ⟨n,h4,rfl,rfl⟩:=D;exact Ws (Zxi h1 G I (n:=n) (fun _=>h4) (by rw [H];exact hs))
    rename_i H;have H:Xx d=false:=by simpa using H
    cases D
    exact Ws (Zxi h1 G I (n:=1) (fun h=>by rw [H] at h;cases h) (by rw [H];exact hs))
   cases D
  cases D
 case indexAddr t x i =>
  split at D
  ·rename_i e h1;simp only [Xfz,Prod.mk.injEq,Kd.io.injEq] at D;obtain ⟨n,G,rfl,rfl⟩:=D;exact Ws (Z4r h1 G hs)
  ·rename_i len e h1;simp only [Xfz,Prod.mk.injEq,Kd.io.injEq] at D;obtain ⟨n,G,rfl,rfl⟩:=D;exact Ws (Z2q h1 G hs)
  cases D
 case index t x i =>
  split at D
  ·rename_i h1;cases D;exact Ws (Z48 h1 hs)
  ·rename_i len e h1
   split at D
   ·rename_i d n G I;cases D;exact Ws (Z1v h1 G I hs)
   cases D
  cases D
 case typeAssert x xT t aa =>
  split at D
  ·cases D
  ·rename_i d M h1
   split at D
   ·rename_i n z I h4;cases D;exact Ws (Z99 R h1 (fun ms hd=>M ms hd) I h4 hs)
   cases D
  cases D
 case extract x i =>
  cases D
  obtain ⟨vs,hp,hv⟩:=Zy4 hs;refine Ws ?_;rw [hp];simp [Instr.extract,hv]
 case call c=>exact Z6d hρ D hs
 case makeMap t r=>split at D <;> cases D
 case mapUpdate t m k x =>
  split at D
  ·simp [Xfz] at D
  cases D
 case lookup t m k ab =>
  split at D
  ·rename_i kt e h1
   split at D
   ·rename_i n z G I
    cases D
    exact Ws (Zvk h1 G I hs)
   cases D
  cases D
 all_goals cases D
end ops
end Go.Rm
namespace Go.Rm
section ops
variable {cx:Cx} {Y:Sys} {w:World}
def Leaves (cx:Cx) (s:Sem Next) (w:World) (K:Ze):Prop :=
 ∃ r v w',s.run cx.P w = .ok r w'/\(r = .value v\/(r = .skip/\v=undef))/\Same w w'/\K v w'.heap
theorem Zcg {s:Sem Value} {v:Value} {w':World} {K:Ze} (h:s.run cx.P w = .ok v w') (hs:Same w w') (r:K v w'.heap) :
  Leaves cx (s >>= fun x=>(pure (Next.value x):Sem Next)) w K :=
 ⟨.value v,v,w',by simp [h],.inl rfl,hs,r⟩
theorem Zua {s:Sem Unit} {w':World} {K:Ze} (h:s.run cx.P w = .ok () w') (hs:Same w w') (r:K undef w'.heap) :
  Leaves cx (s >>= fun _=>(pure Next.skip:Sem Next)) w K :=
 ⟨.skip,undef,w',by simp [h],.inr ⟨rfl,rfl⟩,hs,r⟩
theorem Zjz:∀ (vs:Zc) (i:Nat) (w:World) (b o:Nat) (h':Zk),hst w.heap b (o+i) vs=some h' ->
  ∃ w',(storeCells ⟨b,o,none⟩ vs i).run cx.P w = .ok () w'/\Same w w'/\w'.heap=h':=by
 intro vs
 induction vs with
 | nil=>intro i w b o h' hs;simp only [hst,Xgr] at hs;exact ⟨w,rfl,Same.refl w,hs⟩
 | cons v r ih =>
  intro i w b o h' hs;simp only [hst] at hs
  split at hs
  ·rename_i hc;simp only [Xf4,Xhg] at hc;obtain ⟨⟨hc,hf⟩,h1⟩:=hc;obtain ⟨u,hu⟩:=Option.isSome_iff_exists.1 hc;have D:(store ((⟨b,o,none⟩:Addr).add i) v).run cx.P w = .ok () (w.setCell ⟨b,o+i,none⟩ v):=by
    rw [Addr.add_lit,run_store cx.P w _ v _ h1,Zkb,hu,Zul,hf]
    rfl
   have G:=Zpy w b (o+i) v;obtain ⟨w',h1,H,I⟩:=ih (i+1) (w.setCell ⟨b,o+i,none⟩ v) b o h' (by rw [G];exact hs);refine ⟨w',?_,Same.trans (b:=w.setCell ⟨b,o+i,none⟩ v) ⟨rfl,rfl,rfl⟩ H,I⟩;simp only [storeCells,Sem.run_bind,D,Result.andThen_ok,h1]
  cases hs
theorem Zso {h:Zk} {K:Ze} {sz:Nat} {p q:Value} (hs:Ef.wp h K (.store sz) [p,q]) :
  ∃ b o h',p = .pointer (some ⟨b,o,none⟩)/\q.cells.size=sz/\hst h b o q.cells.toList=some h'/\K undef h':=by
 cases p with
 | pointer a =>
  cases a with
  | none=>exact hs.elim
  | some a =>
   obtain ⟨b,o,s⟩:=a
   cases s with
   | some s=>exact hs.elim
   | none =>
    obtain ⟨h1,r⟩:=hs
    cases D:hst h b o q.cells.toList with
    | none=>rw [D] at r;exact r.elim
    | some h'=>rw [D] at r;exact ⟨b,o,h',rfl,h1,D,r⟩
 | _=>exact hs.elim
theorem Z00 {t:TypeId} {n:Nat} {p q:Value} {K:Ze} (h1:Ux cx t=some n) (hs:Ef.wp w.heap K (.store n) [p,q]) :
  ∃ w',(Instr.storeAt t p q).run cx.P w = .ok () w'/\Same w w'/\K undef w'.heap:=by
 obtain ⟨b,o,h',rfl,r,D,G⟩:=Zso hs;obtain ⟨w',H,I,h4⟩:=Zjz (cx:=cx) q.cells.toList 0 w b o h' (by simpa using D);refine ⟨w',?_,I,by rw [h4];exact G⟩;simp only [Instr.storeAt,Instr.sureAddr,Sem.run_bind,Sem.run_pure,Result.andThen_ok,storeVar,Wc h1,r];simp [H]
theorem Z7k {t:TypeId} {p:Value} {K:Ze} (hs:Ef.wp w.heap K .new [p]) :
  ∃ v w',(do pure (.pointer (some (<-newVar t p))):Sem Value).run cx.P w = .ok v w'/\Same w w'/\K v w'.heap :=
 ⟨_,{ w with heap:=w.heap.push (.cells p.cells t) },by simp [newVar,newRow],⟨rfl,rfl,rfl⟩,hs t⟩
theorem Zvt {t e:TypeId} {len sz:Nat} {z:Value} {ps:Array (Nat × Operand)} {ρ:Operand->Value} {K:Ze} (h1:cx.P.underlying t=some (.slice e)) (G:Ux cx e=some sz) (H:Qu cx e=some z)
  (h4:len * sz<=16777216) (hs:Ef.wp w.heap K (.bslice len sz (if len * sz=0 then #[] else z.cells) (ps.toList.map (·.1))) ((ps.toList.map (·.2)).map ρ)) :
  ∃ v w',(Instr.buildSlice t len (ps.map fun (i,x)=>(i,ρ x))).run cx.P w = .ok v w'/\Same w w'/\K v w'.heap:=by
 simp only [Ef.wp] at hs;have D:¬ (16777216<len * sz):=by omega
 split at hs
 ·rename_i cs r;refine ⟨_,{ w with heap:=w.heap.push (.cells cs e) },?_,⟨rfl,rfl,rfl⟩,hs e⟩;have hp:=Zi0 ρ ps;simp only [Xy] at r;by_cases hz:len * sz=0
  ·simp only [hz,if_true,Xhh] at r;simp only [Xih,Xhh] at hp;simp at r;simp [Instr.buildSlice,run_underlying h1,Wc G,hz,hp,r,newRow]
  simp only [hz,if_false,Xhh] at r;simp only [Xih,Xhh] at hp;simp [Instr.buildSlice,run_underlying h1,Wc G,D,hz,Vo H,hp,r,newRow]
 exact hs.elim
theorem Z5k {h:Zk} {K:Ze} {sz bytes:Nat} {zero:Array Value} {p q:Value} (hs:Ef.wp h K (.mkslice sz bytes zero) [p,q]) :
  ∃ j l k c,p = .int j l/\q = .int k c/\(0<=l/\l<=c/\c<=9223372036854775807/\(bytes:Int) * c<=281474976710656 /\
   ∀ t:TypeId,K (.slice (some ⟨h.size,0,none⟩) l.toNat c.toNat) (h.push (.cells (Xy zero (c.toNat * sz)) t))):=by
 cases p with
 | int j l =>
  cases q with
  | int k c=>exact ⟨j,l,k,c,rfl,rfl,hs⟩
  | _=>exact hs.elim
 | _=>exact hs.elim
theorem Zsz {t e:TypeId} {sz:Nat} {z:Value} {i:TypeInfo} {p q:Value} {K:Ze} (h1:cx.P.underlying t=some (.slice e)) (M:Ux cx e=some sz) (O:Qu cx e=some z)
  (h4:cx.P.info? e=some i) (hs:Ef.wp w.heap K (.mkslice sz i.bytes z.cells) [p,q]) :
  ∃ v w',(Instr.makeSlice t p q).run cx.P w = .ok v w'/\Same w w'/\K v w'.heap:=by
 obtain ⟨j,l,k,c,rfl,rfl,h0,R,hc,hb,U⟩:=Z5k hs;have D:IntKind.i64.wrap l=l:=by rw [IntKind.wrap_i64];omega
 have G:IntKind.i64.wrap c=c:=by rw [IntKind.wrap_i64];omega
 refine ⟨_,{ w with heap:=w.heap.push (.cells (Xy z.cells (c.toNat * sz)) e) },?_,⟨rfl,rfl,rfl⟩,U e⟩;have H:¬ (c<0):=by omega
 have I:¬ (l<0):=by omega
 have r:¬ (c<l):=by omega
 have J:¬ (281474976710656<(i.bytes:Int) * c):=by omega
 by_cases hz:c.toNat * sz=0
 ·simp [Instr.makeSlice,run_underlying h1,asInt,asIntOf,typeInfo,h4,D,G,H,I,r,J,Wc M,hz,newRow,Xy]
  congr 2;apply Xhm <;> simp
 simp [Instr.makeSlice,run_underlying h1,asInt,asIntOf,typeInfo,h4,D,G,H,I,r,J,Wc M,hz,Vo O,newRow,Xy]
theorem Z0b {t D e:TypeId} {r:Option Operand} {ρ:Operand->Value} {K:Ze} (h1:cx.P.underlying t=some (.map D e)) (hs:Ef.wp w.heap K .mkmap (r.toList.map ρ)) :
  ∃ v w',(Instr.makeMap t (r.map ρ)).run cx.P w = .ok v w'/\Same w w'/\K v w'.heap:=by
 refine ⟨.map (some w.heap.size),{ w with heap:=w.heap.push (.map #[] 0) },?_,⟨rfl,rfl,rfl⟩,?_⟩
 ·cases r with
  | none=>simp [Instr.makeMap,newObj,Sem.run]
  | some x =>
   simp only [Option.toList_some,Xha,Xhr] at hs
   cases hx:ρ x <;> rw [hx] at hs <;> first | exact hs.elim | skip
   rename_i k n;simp [Instr.makeMap,run_underlying h1,asInt,asIntOf,hx,newObj,Sem.run]
 ·cases r with
  | none=>exact hs
  | some x =>
   simp only [Option.toList_some,Xha,Xhr] at hs
   cases hx:ρ x <;> rw [hx] at hs <;> first | exact hs.elim | exact hs
theorem Zm7:∀ {xs r:Zc},Qv xs r=some true->xs=r/\∀ d,((xs.zip r).all fun (x,y)=>Instr.sameBits (d+1) x y)=true:=by
 intro xs
 induction xs with
 | nil =>
  intro r h
  cases r with
  | nil=>exact ⟨rfl,fun d=>rfl⟩
  | cons y r=>cases h
 | cons x xs ih =>
  intro r h
  cases r with
  | nil=>cases x <;> cases h
  | cons y r =>
   cases x with
   | int k a =>
    cases y with
    | int j b =>
     have h:(if k=j then (Qv xs r).map fun c=>(a == b) && c else none)=some true:=h;by_cases D:k=j
     ·subst D;rw [if_pos rfl,Xfz] at h;obtain ⟨c,hc,hb⟩:=h;simp only [Xf4,beq_iff_eq] at hb;obtain ⟨rfl,rfl⟩:=hb;obtain ⟨rfl,G⟩:=ih hc;refine ⟨rfl,fun d=>?_⟩;simp only [Xjf,List.all_cons,G d,Bool.and_true];simp [Instr.sameBits]
     rw [if_neg D] at h;cases h
    | _=>cases h
   | _=>cases h
theorem Zui {r:Option Nat} {x y:Value} (h:Zcd r x y=some true):x=y/\∀ d,Instr.sameBits (d+2) y x=true:=by
 rcases Zbc h with ⟨j,p,q,_,rfl,rfl,hb⟩ | ⟨n,xs,D,_,rfl,rfl,_,_,G⟩
 ·have:p=q:=by simpa using hb.symm
  subst this;exact ⟨rfl,fun d=>by simp [Instr.sameBits]⟩
 obtain ⟨h4,H⟩:=Zm7 G;have:xs=D:=Array.toList_inj.1 h4;subst this;refine ⟨rfl,fun d=>?_⟩;rw [show d+2=(d+1)+1 from rfl,Instr.sameBits];simp only [beq_self_eq_true,Bool.true_and];exact H d
theorem Z3l {D:Option Nat} {x:Value}:∀ {r:List MapEntry} {i j:Nat} {v:Value},Ue D x r i=some (some (j,v))->i<=j/\∃ e,r[j-i]? = some e/\Zcd D x e.key=some true:=by
 intro r
 induction r with
 | nil=>intro i j v h;cases h
 | cons e r ih =>
  intro i j v h;unfold Ue at h
  split at h
  ·rename_i hb
   cases h
   exact ⟨Xfy _,e,by simp,hb⟩
  ·obtain ⟨h1,e',G,H⟩:=ih h;refine ⟨by omega,e',?_,H⟩;rw [show j-i=(j-(i+1))+1 by omega];simpa using G
  cases h
theorem Zy2 {r new:Value} (h:∀ d,Instr.sameBits (d+2) r new=true):(Instr.keyThatStays r new).run cx.P w = .ok new w:=by
 have:=h 9998;unfold Instr.keyThatStays;rw [if_pos this]
 rfl
theorem Zmm {r:Nat} {G:Array MapEntry} {D:Nat} (o:Obj) (hb:w.heap[r]? = some (.map G D)):(setObj r o).run cx.P w = .ok () { w with heap:=w.heap.setIfInBounds r o }:=by
 simp [setObj,Sem.run,hb]
theorem Zvf {h:Zk} {K:Ze} {I:Option Nat} {p q x:Value} (hs:Ef.wp h K (.mupd I) [p,q,x]) :
  ∃ r G D a,p = .map (some r)/\h[r]? = some (.map G D)/\Za1 I q=true/\Ue I q G.toList 0=some a /\
   match a with
   | some (i,_)=>K undef (h.setIfInBounds r (.map (G.modify i fun e=>{ e with key:=q,val:=x }) D))
   | none=>K undef (h.setIfInBounds r (.map (G.push { key:=q,val:=x,born:=D }) (D+1))):=by
 cases p <;> first | exact hs.elim | skip
 rename_i r
 cases r with
 | none=>exact hs.elim
 | some r =>
  simp only [Ef.wp] at hs
  split at hs
  ·rename_i G D hb;obtain ⟨h1,H⟩:=hs
   split at H
   ·rename_i i v hf;exact ⟨r,G,D,some (i,v),rfl,hb,h1,hf,H⟩
   ·rename_i hf;exact ⟨r,G,D,none,rfl,hb,h1,hf,H⟩
   exact H.elim
  exact hs.elim
theorem Z4t {t O e:TypeId} {R:Option Nat} {p q x:Value} {K:Ze} (h1:cx.P.underlying t=some (.map O e)) (H:Zag cx O=some R) (hs:Ef.wp w.heap K (.mupd R) [p,q,x]) :
  ∃ w',(Instr.mapUpdate t p q x).run cx.P w = .ok () w'/\Same w w'/\K undef w'.heap:=by
 obtain ⟨r,G,D,a,rfl,hb,hq,hf,U⟩:=Zvf hs
 cases a with
 | none =>
  refine ⟨{ w with heap:=w.heap.setIfInBounds r (.map (G.push { key:=q,val:=x,born:=D }) (D+1)) },?_,⟨rfl,rfl,rfl⟩,U⟩;simp [Instr.mapUpdate,run_underlying h1,Zcl r G D hb,Q9 _ H hq,Zbd H hf,Zmm _ hb]
 | some a =>
  obtain ⟨i,v⟩:=a;refine ⟨{ w with heap:=w.heap.setIfInBounds r (.map (G.modify i fun e=>{ e with key:=q,val:=x }) D) },?_,⟨rfl,rfl,rfl⟩,U⟩;obtain ⟨_,e',V,I⟩:=Z3l hf;obtain ⟨X,J⟩:=Zui I;have M:G[i]? = some e':=by simpa using V
  simp [Instr.mapUpdate,run_underlying h1,Zcl r G D hb,Q9 _ H hq,Zbd H hf,M,Zy2 J,Zmm _ hb]
theorem Z7o {D G e:TypeId} {p:Value} {K:Ze} (h1:cx.P.underlying D=some .string) (J:cx.P.underlying G=some (.slice e)) (M:cx.P.underlying e=some (.int .u8))
  (hs:Ef.wp w.heap K .s2b [p]):∃ v w',(convert D G p).run cx.P w = .ok v w'/\Same w w'/\K v w'.heap:=by
 cases p with
 | string s =>
  have hs:∀ (t:TypeId) (r:Nat),s.size<=r->K (.slice (some ⟨w.heap.size,0,none⟩) s.size r)
    (w.heap.push (.cells ((s.data.map fun b=>Value.int .u8 b.toNat)++Array.replicate (r-s.size) (.int .u8 0)) t (r,r+1))):=hs
  have I:=run_bytes_of_string (P:=cx.P) w D G e s h1 J M;have hge:=grownCap_ge w s.size 0 e;have H:(bytesRow s (grownCap w s.size 0 e)).size=grownCap w s.size 0 e:=by
   have:s.data.size=s.size:=rfl;simp [bytesRow];omega
  rw [H] at I;refine ⟨_,_,I,⟨rfl,rfl,rfl⟩,?_⟩;exact hs e (grownCap w s.size 0 e) hge
 | _=>exact hs.elim
theorem Z6c {r e:TypeId} {p:Value} {K:Ze} (h1:cx.P.underlying r=some (.slice e)) (J:cx.P.underlying e=some (.int .u8))
  (hs:Ef.wp w.heap K .b2b [p]):∃ v w',(convert r r p).run cx.P w = .ok v w'/\Same w w'/\K v w'.heap:=by
 cases p with
 | slice a n c =>
  cases a with
  | none=>exact hs.elim
  | some a =>
   simp only [Ef.wp] at hs
   split at hs
   ·rename_i cs t hb;have D:w.shape? a.block=some (t,cs.size):=by
     unfold World.shape?;rw [hb]
    have G:(w.freeze ⟨a.block,cs.size,none⟩ 1).heap=w.heap.modify a.block fun _=>.cells cs t (cs.size,cs.size+1):=by
     unfold World.freeze;rw [if_neg (by decide)];simp only;have H:=(Array.getElem?_eq_some_iff.1 hb)
     apply Xhm
     ·simp
     intro i M g2;simp only [Array.getElem_modify];by_cases I:a.block=i
     ·subst I;obtain ⟨_,hv⟩:=H;simp [hv]
     simp [I]
    refine ⟨.slice (some a) n c,w.freeze ⟨a.block,cs.size,none⟩ 1,?_,⟨?_,?_,?_⟩,?_⟩
    ·simp [convert,run_underlying h1,run_underlying J,markStringish,D]
    ·unfold World.freeze;rw [if_neg (by decide)]
    ·unfold World.freeze;rw [if_neg (by decide)]
    ·unfold World.freeze;rw [if_neg (by decide)]
    rw [G];exact hs
   exact hs.elim
 | _=>exact hs.elim
theorem Zj5 {sz n:Nat} {x:Value} {l:Zc} (hs:Vl w.heap sz n x=some l) (w':World) (r:w'.heap=w.heap):(Builtin.firstCells sz n x).run cx.P w' = .ok l.toArray w':=by
 cases x with
 | slice a m c =>
  cases a with
  | none=>have hs:some []=some l:=hs;cases hs;rfl
  | some a =>
   obtain ⟨b,o,s⟩:=a
   cases s with
   | none=>exact Zaj (by rw [r];exact hs)
   | some s =>
    have hs:(if n=0 then some [] else none)=some l:=hs
    split at hs
    ·rename_i h0
     cases hs
     subst h0;simp [Builtin.firstCells,loadCells,loadCellsFrom]
    cases hs
 | string s =>
  have hs:some ((s.extract 0 n).data.toList.map fun b:UInt8=>Value.int .u8 b.toNat)=some l:=hs
  cases hs
  simp only [Builtin.firstCells,Sem.run_pure]
  congr 1
  apply Xf6;simp
 | _=>cases hs
theorem Zff {x:Value} {m:Nat} (hs:Zf2 x=some m):(Builtin.lenOf x).run cx.P w = .ok m w:=by
 cases x <;> cases hs <;> rfl
theorem Zmj {Zlb c bytes:Nat} (h:¬ Zlb<=c) (hb:Zlb * bytes<=140737488355328):Builtin.nextslicecap Zlb c * bytes<=281474976710656:=by
 exact growslice_fits (by omega) hb
theorem Zql {h:Zk} {K:Ze} {sz bytes:Nat} {zero:Array Value} {p x:Value} (hs:Ef.wp h K (.append sz bytes zero) [p,x]) :
  ∃ a n c m nw,p = .slice a n c/\Zf2 x=some m/\Vl h sz m x=some nw /\
   (if n+m<=c then
    match a with
    | some ⟨b,o,none⟩ =>
     match hst h b (o+n * sz) nw with
     | some h'=>K (.slice a (n+m) c) h'
     | none=>False
    | none=>K (.slice none (n+m) c) h
    | _=>False
   else
    n+m<=9223372036854775807/\(n+m) * bytes<=140737488355328 /\
    match Vl h sz n (.slice a n c) with
    | some G=>∀ (t:TypeId) (D:Nat),n+m<=D->D<=9223372036854775807 ->
      K (.slice (some ⟨h.size,0,none⟩) (n+m) D) (h.push (.cells (G.toArray++nw.toArray++Builtin.zeroCells zero (D-(n+m))) t))
    | none=>False):=by
 cases p with
 | slice a n c =>
  simp only [Ef.wp] at hs
  cases H:Zf2 x with
  | none=>rw [H] at hs;exact hs.elim
  | some m =>
   rw [H] at hs;simp only at hs
   cases r:Vl h sz m x with
   | none=>rw [r] at hs;exact hs.elim
   | some nw =>
    rw [r] at hs;exact ⟨a,n,c,m,nw,rfl,rfl,r,hs⟩
 | _=>exact hs.elim
theorem Zu8 {t u e ty:TypeId} {du:TypeDesc} {sz:Nat} {z:Value} {i:TypeInfo} {p x:Value} {K:Ze} (h1:cx.P.underlying t=some (.slice e)) (M:cx.P.underlying u=some du)
  (ae:∀ k,du≠.int k) (O:Ux cx e=some sz) (h3:Qu cx e=some z)
  (h4:cx.P.info? e=some i) (R:i.bytes≠0) (hs:Ef.wp w.heap K (.append sz i.bytes z.cells) [p,x]) :
  ∃ v w',(Builtin.append_ #[t,u] ty #[p,x]).run cx.P w = .ok v w'/\Same w w'/\K v w'.heap:=by
 obtain ⟨a,n,c,m,nw,rfl,U,G,hs⟩:=Zql hs;have r:=Zj5 (cx:=cx) G;by_cases D:n+m<=c
 ·rw [if_pos D] at hs
  cases a with
  | none =>
   refine ⟨.slice none (n+m) c,w,?_,Same.refl w,hs⟩;simp [Builtin.append_,run_underlying h1,run_underlying M,Wc O,Zff U,D,r w rfl]
  | some a =>
   obtain ⟨b,o,s⟩:=a
   cases s with
   | some s=>exact hs.elim
   | none =>
    simp only at hs
    cases V:hst w.heap b (o+n * sz) nw with
    | none=>rw [V] at hs;exact hs.elim
    | some h' =>
     rw [V] at hs;obtain ⟨w',g1,g2,g3⟩:=Zjz (cx:=cx) nw 0 w b (o+n * sz) h' (by simpa using V);refine ⟨_,w',?_,g2,by rw [g3];exact hs⟩;simp [Builtin.append_,run_underlying h1,run_underlying M,Wc O,Zff U,D,r w rfl,Addr.add_lit,g1]
 rw [if_neg D] at hs;obtain ⟨af,X,hs⟩:=hs
 cases Z:Vl w.heap sz n (.slice a n c) with
 | none=>rw [Z] at hs;exact hs.elim
 | some aa =>
  rw [Z] at hs;have H:=Zj5 (cx:=cx) Z;have hge:=grownCap_ge w (n+m) c e;have ab:=grownCap_le_maxLen w (n+m) c e (by simp only [maxLen];omega);have I:¬ (9223372036854775807<((n:Int)+(m:Int))):=by omega
  have J:¬ (281474976710656<Builtin.nextslicecap (n+m) c * i.bytes):=by have:=Zmj D X;omega
  refine ⟨_,w.drew.alloc (.cells (aa.toArray++nw.toArray++Builtin.zeroCells z.cells (grownCap w (n+m) c e-(n+m))) e),?_,⟨rfl,rfl,rfl⟩,
   hs e (grownCap w (n+m) c e) hge (by simp only [maxLen] at ab;omega)⟩
  have ac:=H w.drew rfl;have ad:=r w.drew rfl;simp [Builtin.append_,run_underlying h1,run_underlying M,Wc O,Zff U,D,typeInfo,h4,I,J,R,Question.forced,ac,ad,Vo h3,newRow,grownCap]
  congr 2
  apply Xf6;simp [Xgu]
theorem Zw0 {h:Zk} {K:Ze} {sz bytes:Nat} {zero:Array Value} {p x:Value} (hs:Ef.wp h K (.appz sz bytes zero) [p,x]) :
  ∃ a n c l,p = .slice a n c/\x = .int .i64 l/\0<l/\c<n+l.toNat/\n+l.toNat<=9223372036854775807/\(n+l.toNat) * bytes<=140737488355328 /\
    ∃ r,Vl h sz n (.slice a n c)=some r/\∀ (t:TypeId) (D:Nat),n+l.toNat<=D->D<=9223372036854775807 ->
      K (.slice (some ⟨h.size,0,none⟩) (n+l.toNat) D) (h.push (.cells (r.toArray++Builtin.zeroCells zero l.toNat++Builtin.zeroCells zero (D-(n+l.toNat))) t)):=by
 cases p with
 | slice a n c =>
  cases x with
  | int k l =>
   cases k with
   | i64 =>
    obtain ⟨h1,I,J,h4,G⟩:=hs
    cases H:Vl h sz n (.slice a n c) with
    | none=>rw [H] at G;exact G.elim
    | some r =>
     rw [H] at G;exact ⟨a,n,c,l,rfl,rfl,h1,I,J,h4,r,H,G⟩
   | _=>exact hs.elim
  | _=>exact hs.elim
 | _=>exact hs.elim
theorem Z20 {t u e ty:TypeId} {q:IntKind} {sz:Nat} {z:Value} {i:TypeInfo} {p x:Value} {K:Ze} (h1:cx.P.underlying t=some (.slice e)) (h5:cx.P.underlying u=some (.int q))
  (h2:Ux cx e=some sz) (h3:Qu cx e=some z) (h4:cx.P.info? e=some i) (hz:z.cells.size=sz) (J:i.bytes≠0) (ab:sz≠0) (hs:Ef.wp w.heap K (.appz sz i.bytes z.cells) [p,x]) :
  ∃ v w',(Builtin.append_ #[t,u] ty #[p,x]).run cx.P w = .ok v w'/\Same w w'/\K v w'.heap:=by
 obtain ⟨a,n,c,l,rfl,rfl,hl,hr,M,D,O,ho,hs⟩:=Zw0 hs;obtain ⟨m,rfl⟩:∃ m:Nat,l=m:=⟨l.toNat,by omega⟩
 simp only [Xf1] at hr M D hs;have G:=Zj5 (cx:=cx) ho;have hge:=grownCap_ge w (n+m) c e;have R:=grownCap_le_maxLen w (n+m) c e (by simp only [maxLen];omega);have H:¬ (9223372036854775807<((n:Int)+(m:Int))):=by omega
 have I:¬ (281474976710656<Builtin.nextslicecap (n+m) c * i.bytes):=by have:=Zmj (c:=c) (Zlb:=n+m) (by omega) D;omega
 have U:IntKind.i64.wrap (m:Int)=(m:Int):=by
  have e:(m:Int) % (2 ^ 64:Int)=m:=Int.emod_eq_of_lt (by omega) (by omega);have hd:IntKind.i64.wrap (m:Int)=if true && decide ((m:Int) % (2 ^ 64:Int)>=(2 ^ 63:Int)) then (m:Int) % (2 ^ 64:Int)-2 ^ 64 else (m:Int) % (2 ^ 64:Int):=rfl
  rw [hd];simp only [e];rw [if_neg (by simp;omega)]
 have ac:m * i.bytes<=(n+m) * i.bytes:=Xgi _ (by omega);have r:¬ (281474976710656<(m:Int) * (i.bytes:Int)):=by
  have:((m * i.bytes:Nat):Int)=(m:Int) * (i.bytes:Int):=Int.natCast_mul ..;omega
 have V:¬ m * sz=0:=by
  intro h0;rcases Nat.mul_eq_zero.1 h0 with h | h <;> omega
 have X:¬ ((m:Int)<0):=by omega
 have Z:¬ n+m<=c:=by omega
 refine ⟨_,w.drew.alloc (.cells (O.toArray++Builtin.zeroCells z.cells m++Builtin.zeroCells z.cells (grownCap w (n+m) c e-(n+m))) e),?_,⟨rfl,rfl,rfl⟩,
  hs e (grownCap w (n+m) c e) hge (by simp only [maxLen] at R;omega)⟩
 have aa:=G w.drew rfl;simp [Builtin.append_,run_underlying h1,run_underlying h5,Wc h2,asInt,asIntOf,U,X,r,Z,typeInfo,h4,H,I,J,V,Question.forced,aa,Vo h3,newRow,grownCap]
theorem Zws {h:Zk} {K:Ze} {sz:Nat} {p x:Value} (hs:Ef.wp h K (.copy sz) [p,x]) :
  ∃ a n c m nw,p = .slice a n c/\Zf2 x=some m/\Vl h sz (min m n) x=some nw /\
   (match a with
    | some ⟨b,o,none⟩ =>
     match hst h b o nw with
     | some h'=>K (.int .i64 (min m n:Nat)) h'
     | none=>False
    | none=>K (.int .i64 (min m n:Nat)) h
    | _=>False):=by
 cases p with
 | slice a n c =>
  simp only [Ef.wp] at hs
  cases D:Zf2 x with
  | none=>rw [D] at hs;exact hs.elim
  | some m =>
   rw [D] at hs;simp only at hs
   cases r:Vl h sz (min m n) x with
   | none=>rw [r] at hs;exact hs.elim
   | some nw =>
    rw [r] at hs;exact ⟨a,n,c,m,nw,rfl,rfl,r,hs⟩
 | _=>exact hs.elim
theorem Z3k {t e ty:TypeId} {ts:List TypeId} {sz:Nat} {p x:Value} {K:Ze} (h1:cx.P.underlying t=some (.slice e)) (H:Ux cx e=some sz)
  (hs:Ef.wp w.heap K (.copy sz) [p,x]) :
  ∃ v w',(Builtin.copy_ (t::ts).toArray ty #[p,x]).run cx.P w = .ok v w'/\Same w w'/\K v w'.heap:=by
 obtain ⟨a,n,c,m,nw,rfl,I,D,hs⟩:=Zws hs;have r:=Zj5 (cx:=cx) D
 cases a with
 | none =>
  refine ⟨_,w,?_,Same.refl w,hs⟩;simp [Builtin.copy_,run_underlying h1,Wc H,Zff I,r w rfl,goInt]
 | some a =>
  obtain ⟨b,o,s⟩:=a
  cases s with
  | some s=>exact hs.elim
  | none =>
   simp only at hs
   cases G:hst w.heap b o nw with
   | none=>rw [G] at hs;exact hs.elim
   | some h' =>
    rw [G] at hs;obtain ⟨w',J,g2,M⟩:=Zjz (cx:=cx) nw 0 w b o h' (by simpa using G);refine ⟨_,w',?_,g2,by rw [M];exact hs⟩;simp [Builtin.copy_,run_underlying h1,Wc H,Zff I,r w rfl,goInt,J]
theorem Z73 {t e ty:TypeId} {sz:Nat} {z:Value} {p:Value} {K:Ze} (h1:cx.P.underlying t=some (.slice e)) (G:Qu cx e=some z)
  (hs:Ef.wp w.heap K (.clr sz z.cells) [p]):∃ v w',(Builtin.clear_ #[t] ty #[p]).run cx.P w = .ok v w'/\Same w w'/\K v w'.heap:=by
 cases p with
 | slice a n c =>
  cases a with
  | none=>exact ⟨.tuple #[],w,by simp [Builtin.clear_,run_underlying h1],Same.refl w,hs⟩
  | some a =>
   obtain ⟨b,o,s⟩:=a
   cases s with
   | some s=>exact hs.elim
   | none =>
    have hs:(if n=0 then K undef w.heap else match hst w.heap b o (Builtin.zeroCells z.cells n).toList with | some h'=>K undef h' | none=>False):=hs;by_cases h0:n=0
    ·rw [if_pos h0] at hs;subst h0;exact ⟨.tuple #[],w,by simp [Builtin.clear_,run_underlying h1],Same.refl w,hs⟩
    rw [if_neg h0] at hs
    cases r:hst w.heap b o (Builtin.zeroCells z.cells n).toList with
    | none=>rw [r] at hs;exact hs.elim
    | some h' =>
     rw [r] at hs;obtain ⟨w',H,g2,I⟩:=Zjz (cx:=cx) _ 0 w b o h' (by simpa using r);refine ⟨.tuple #[],w',?_,g2,by rw [I];exact hs⟩;have J:n≠0:=h0;obtain ⟨D,rfl⟩:∃ D,n=D+1:=⟨n-1,by omega⟩
     simp [Builtin.clear_,run_underlying h1,Vo G,H]
 | _=>exact hs.elim
theorem Z97 {o:Oper} {ρ:Operand->Value} {f:Ef} {xs:List Operand} {K:Ze} (hρ:∀ v,ρ (.const v)=v)
  (D:Zd9 cx o.op=some (.ef f,xs)) (hs:f.wp w.heap K (xs.map ρ)):Leaves cx (execOp ρ o) w K:=by
 unfold execOp
 cases Z:o.op <;> simp only [Z,Zd9] at D ⊢
 case alloc t =>
  simp only [Xfz,Prod.mk.injEq,Kd.ef.injEq] at D;obtain ⟨z,hz,rfl,rfl⟩:=D;have hs:∀ t:TypeId,K (.pointer (some ⟨w.heap.size,0,none⟩)) (w.heap.push (.cells (ρ (.const z)).cells t)):=hs;refine Zcg (v:=.pointer (some ⟨w.heap.size,0,none⟩)) (w':={ w with heap:=w.heap.push (.cells z.cells t) }) ?_ ⟨rfl,rfl,rfl⟩ ?_
  ·simp only [Instr.alloc,Sem.run_bind,Vo hz,Result.andThen_ok];simp [newVar,newRow]
  have:=hs t;rw [hρ] at this;exact this
 case box t x =>
  cases D
  obtain ⟨v,w',h1,G,J⟩:=Z7k (cx:=cx) (t:=t) hs;exact Zcg h1 G J
 case buildSlice t len ps =>
  split at D
  ·rename_i e h1
   split at D
   ·rename_i sz z G J
    split at D
    ·rename_i h4
     cases D
     obtain ⟨v,w',H,g2,I⟩:=Zvt h1 G J h4 hs;exact Zcg H g2 I
    cases D
   cases D
  cases D
 case store t a v =>
  simp only [Xfz,Prod.mk.injEq,Kd.ef.injEq] at D;obtain ⟨n,h1,rfl,rfl⟩:=D;obtain ⟨w',H,g2,I⟩:=Z00 h1 hs;exact Zua H g2 I
 case convert sT dT x =>
  split at D
  ·cases D
  ·split at D <;> cases D
  ·rename_i e h1 G
   split at D
   ·rename_i J
    cases D
    obtain ⟨v,w',H,g2,I⟩:=Z7o h1 G J hs;exact Zcg H g2 I
   cases D
  ·rename_i e h1 G
   split at D
   ·rename_i U
    split at D
    ·rename_i J
     cases D
     subst U;obtain ⟨v,w',H,g2,I⟩:=Z6c G J hs;exact Zcg H g2 I
    cases D
   cases D
  cases D
 case makeSlice t l c =>
  split at D
  ·rename_i e h1
   split at D
   ·rename_i sz z i G J h4
    cases D
    obtain ⟨v,w',H,g2,I⟩:=Zsz h1 G J h4 hs;exact Zcg H g2 I
   cases D
  cases D
 case makeMap t r =>
  split at D
  ·rename_i kt e h1
   cases D
   obtain ⟨v,w',H,g2,I⟩:=Z0b h1 hs;exact Zcg H g2 I
  cases D
 case mapUpdate t m k x =>
  split at D
  ·rename_i kt e h1;simp only [Xfz,Prod.mk.injEq,Kd.ef.injEq] at D;obtain ⟨n,G,rfl,rfl⟩:=D;obtain ⟨w',H,g2,I⟩:=Z4t h1 G hs;exact Zua H g2 I
  cases D
 case lookup t m k aa =>
  split at D
  ·split at D <;> cases D
  cases D
 case call c =>
  obtain ⟨callee,args,argTypes⟩:=c;simp only at D
  split at D
  ·split at D
   ·cases D
   ·simp [Xfz] at D
  ·cases D
  ·split at D
   ·split at D <;> cases D
   cases D
  ·split at D
   ·split at D <;> cases D
   cases D
  ·split at D <;> cases D
  ·split at D <;> cases D
  ·split at D
   ·rename_i t u x y ht M;have ht:argTypes=#[t,u]:=by apply Xf6;simpa using ht
    have M:args=#[x,y]:=by apply Xf6;simpa using M
    subst ht;subst M
    split at D
    ·rename_i e du h1 X;have R:∀ {sz z i},Ux cx e=some sz->Qu cx e=some z->cx.P.info? e=some i->(∀ k,du≠.int k)->(if z.cells.size=sz/\i.bytes≠0 then some (Kd.ef (Ef.append sz i.bytes z.cells),[x,y]) else none)=some (Kd.ef f,xs) ->
       Leaves cx (do let d <-resolve ρ { callee:=.builtin .append,args:=#[x,y],argTypes:=#[t,u] } o.type;invoke d.target d.args) w K:=by
      intro sz z i G J h4 V D
      split at D
      ·rename_i O
       cases D
       obtain ⟨v,w',H,g2,I⟩:=Zu8 (ty:=o.type) h1 X V G J h4 O.2 hs;refine ⟨.value v,v,w',?_,.inl rfl,g2,I⟩;simp [resolve,invoke,builtin,H]
      cases D
     split at D
     ·rename_i G J h4;exact R G J h4 (by simp) D
     ·rename_i G J h4;exact R G J h4 (by simp) D
     ·rename_i G J h4
      split at D
      ·rename_i O
       cases D
       obtain ⟨v,w',H,g2,I⟩:=Z20 (ty:=o.type) h1 X G J h4 O.1 O.2.1 O.2.2 hs;refine ⟨.value v,v,w',?_,.inl rfl,g2,I⟩;simp [resolve,invoke,builtin,H]
      cases D
     cases D
    cases D
   cases D
  ·split at D
   ·rename_i t x ht M;have ht:argTypes=#[t]:=by apply Xf6;simpa using ht
    have M:args=#[x]:=by apply Xf6;simpa using M
    subst ht;subst M
    split at D
    ·rename_i e h1
     split at D
     ·rename_i sz z G J
      cases D
      obtain ⟨v,w',H,g2,I⟩:=Z73 (ty:=o.type) h1 J hs;refine ⟨.value v,v,w',?_,.inl rfl,g2,I⟩;simp [resolve,invoke,builtin,H]
     cases D
    cases D
   cases D
  ·split at D
   ·rename_i t ts x y ht M;have ht:argTypes=(t::ts).toArray:=by apply Xf6;simpa using ht
    have M:args=#[x,y]:=by apply Xf6;simpa using M
    subst ht;subst M
    split at D
    ·rename_i e h1;simp only [Xfz,Prod.mk.injEq,Kd.ef.injEq] at D;obtain ⟨sz,G,rfl,rfl⟩:=D;obtain ⟨v,w',H,g2,I⟩:=Z3k (ty:=o.type) (ts:=ts) h1 G hs;refine ⟨.value v,v,w',?_,.inl rfl,g2,I⟩;simp [resolve,invoke,builtin,H]
    cases D
   cases D
  cases D
 case binOp op t x y yt =>
  simp only [Xfz,Prod.mk.injEq] at D;obtain ⟨k,D,rfl,rfl⟩:=D;unfold Zft at D
  split at D
  ·unfold Zc5 at D;split at D <;> first | (cases D;done) | (split at D <;> cases D)
  ·unfold Zc5 at D;split at D <;> first | (cases D;done) | (split at D <;> cases D)
  split at D <;> cases D
 case field t x f =>
  split at D
  ·simp only [Xf8] at D;obtain ⟨fd,G,D⟩:=D
   split at D
   ·split at D
    ·simp [Xfz] at D
    cases D
   cases D
  cases D
 all_goals first
  | (cases D;done)
  | ((repeat' split at D) <;> simp_all [Xfz,Xf8])
end ops
def Yh (nm:Zd) (a:Act):Zc:=nm.map fun s=>a.tmps.getD s undef
def Wa.lt (d:Nat):Wa->Prop
 | .t j=>j<d
 | _=>True
structure Wf (cx:Cx):Prop where
 nodup:cx.nm.Nodup
 lt:∀ s∈cx.nm,s<cx.nt
structure St (cx:Cx) (Y:Sys) (m:SM) (d:Nat) (a:Act) (T:Zc):Prop where
 defers:a.defers=[]
 size:a.tmps.size=cx.nt
 len:T.length=d
 rel:∀ p∈m,p.2.ev Y (Yh cx.nm a) T=a.tmps.getD p.1 undef
 lt:∀ p∈m,p.2.lt d
section
variable {cx:Cx} {Y:Sys} {w:World} {ops:Array Oper} {Q:Exit->Act->World->Prop}
theorem Z37 {o:Oper} {ρ:Operand->Value} {n:Nat} {xs:List Operand} (G:Ok cx Y) (hρ:∀ f,ρ (.func f) = .func (.func f) #[] #[])
  (r:Zd9 cx o.op=some (.call n,xs)):(execOp ρ o).run cx.P w = .ok (.enter (Y.fid n) (xs.map ρ).toArray) w:=by
 unfold execOp
 cases H:o.op <;> simp only [H,Zd9] at r ⊢
 case call c =>
  obtain ⟨callee,args,argTypes⟩:=c;simp only at r
  split at r
  ·rename_i f
   split at r
   ·cases r
   simp only [Xfz,Prod.mk.injEq,Kd.call.injEq] at r;obtain ⟨j,I,rfl,rfl⟩:=r;obtain ⟨D,M,hf,J,hb⟩:=G.hf _ _ I;simp only [resolve,hρ,Deferred.ofValue,Sem.run_bind,Sem.run_pure,Result.andThen_ok,invoke,callFunc,run_program,hf,J,hb,Xga,if_false];rw [D]
   congr 2
   apply Xf6;simp
  ·cases r
  all_goals ((repeat' split at r) <;> simp_all [Xfz])
 case binOp op t x y O =>
  simp only [Xfz,Prod.mk.injEq] at r;obtain ⟨k,r,rfl,rfl⟩:=r;unfold Zft at r
  split at r
  ·unfold Zc5 at r;split at r <;> first | (cases r;done) | (split at r <;> cases r)
  ·unfold Zc5 at r;split at r <;> first | (cases r;done) | (split at r <;> cases r)
  split at r <;> cases r
 case field t x f =>
  split at r
  ·simp only [Xf8] at r;obtain ⟨R,U,r⟩:=r
   split at r
   ·split at r
    ·simp [Xfz] at r
    cases r
   cases r
  cases r
 all_goals first
  | (cases r;done)
  | ((repeat' split at r) <;> simp_all [Xfz,Xf8])
theorem Zzh {o:Oper} {ρ:Operand->Value} {xs:List Operand} (H:Ok cx Y)
  (D:Zd9 cx o.op=some (.callv,xs)):∃ x r,xs=x::r/\∀ f first cap,ρ x = .func (.func f) first cap->Y.able f ->
   (execOp ρ o).run cx.P w = .ok (.enter f (first.toList++r.map ρ++cap.toList).toArray) w:=by
 unfold execOp
 cases I:o.op <;> simp only [I,Zd9] at D ⊢
 case call c =>
  obtain ⟨callee,args,argTypes⟩:=c;simp only at D
  split at D
  ·split at D
   ·cases D
   ·simp [Xfz] at D
  ·rename_i x hx
   cases D
   refine ⟨x,args.toList,rfl,?_⟩;intro f first cap hv G
   obtain ⟨M,hf,J,hb⟩:=H.able _ G;simp only [resolve,hv,Deferred.ofValue,Sem.run_bind,Sem.run_pure,Result.andThen_ok,invoke,callFunc,run_program,hf,J,hb,Xga,if_false]
   congr 2
   apply Xf6;simp
  all_goals ((repeat' split at D) <;> simp_all [Xfz])
 case binOp op t x y O =>
  simp only [Xfz,Prod.mk.injEq] at D;obtain ⟨k,D,rfl,rfl⟩:=D;unfold Zft at D
  split at D
  ·unfold Zc5 at D;split at D <;> first | (cases D;done) | (split at D <;> cases D)
  ·unfold Zc5 at D;split at D <;> first | (cases D;done) | (split at D <;> cases D)
  split at D <;> cases D
 case field t x f =>
  split at D
  ·simp only [Xf8] at D;obtain ⟨R,U,D⟩:=D
   split at D
   ·split at D
    ·simp [Xfz] at D
    cases D
   cases D
  cases D
 all_goals first
  | (cases D;done)
  | ((repeat' split at D) <;> simp_all [Xfz,Xf8])
theorem Zit {o:Option Value} {k:Value->Prop} (h:Zlb o k):∃ v,o=some v/\k v:=by
 cases o with
 | none=>exact h.elim
 | some v=>exact ⟨v,rfl,h⟩
theorem Zjm {o:Oper} {a:Act} {k:Kd} {xs:List Operand} {as:List Wa} {ds:X3} {ins:Instr} {K:W5} {e T:Zc} {next:Act->World->Prop} (H:Ok cx Y)
  (O:Zd9 cx o.op=some (k,xs)) (D:as.map (Wa.ev Y e T)=xs.map a.eval) (I:Zp8 ds k as=some ins) (G:ins.wp Y K e T w.heap)
  (J:∀ v w',Same w w'->K (ds.e v e) (ds.T v T) w'.heap->next (a.put o.dst v) w'):o.wp cx.P a w next Q:=by
 unfold Oper.wp
 cases k with
 | io io =>
  cases I
  obtain ⟨v,hv,U⟩:=Zit G;rw [D] at hv;rw [Zo8 H (fun _=>rfl) O hv];exact J v w (Same.refl w) U
 | ef f =>
  cases I
  have G:f.wp w.heap (fun v h'=>K (ds.e v e) (ds.T v T) h') (as.map (Wa.ev Y e T)):=G;rw [D] at G;obtain ⟨r,v,w',h1,R,X,h4⟩:=Z97 (ρ:=a.eval) (fun _=>rfl) O G;rw [h1];rcases R with rfl | ⟨rfl,rfl⟩
  ·exact J v w' X h4
  exact J undef w' X h4
 | call n =>
  cases I
  have G:Y.C (Y.fid n) (as.map (Wa.ev Y e T)) w.heap (fun v h'=>K (ds.e v e) (ds.T v T) h'):=G;rw [D,H.hC] at G;rw [Z37 H (fun _=>rfl) O,Oper.upon_enter];refine (G w rfl).mono ?_;rintro e w' ⟨v,rfl,V,hs⟩;exact J v w' hs V
 | callv =>
  obtain ⟨x,r,rfl,M⟩:=Zzh (w:=w) (ρ:=a.eval) H O
  cases as with
  | nil=>cases I
  | cons Z r' =>
   cases I
   simp only [Xha,Xik] at D;simp only [Instr.wp,D.1,D.2] at G
   split at G
   ·rename_i f first cap hv
    obtain ⟨h1,R⟩:=G;rw [M f first cap hv h1,Oper.upon_enter];rw [H.hC] at R;refine (R w rfl).mono ?_;rintro e w' ⟨v,rfl,V,hs⟩;exact J v w' hs V
   exact G.elim
theorem Zdt {a:Act} {s i:Nat} (h:cx.nm.idxOf? s=some i):(Yh cx.nm a).getD i undef=a.tmps.getD s undef:=by
 have r:cx.nm[i]? = some s:=by
  rw [List.idxOf?_eq_some_iff] at h;obtain ⟨D,hs,_⟩:=h;rw [Xg6 D,hs]
 simp [Yh,Xf5,r]
theorem Zlg {m:SM} {d:Nat} {a:Act} {T:Zc} {x:Operand} {arg:Wa} (I:Ok cx Y) (J:St cx Y m d a T) (r:rsv cx m x=some arg) :
  arg.ev Y (Yh cx.nm a) T=a.eval x:=by
 cases x with
 | tmp s =>
  simp only [rsv] at r
  cases G:m.lookup s with
  | some b =>
   rw [G] at r
   cases r
   have D:(s,arg)∈m:=by
    have:∀ (m:SM),m.lookup s=some arg->(s,arg)∈m:=by
     intro m
     induction m with
     | nil=>intro h;cases h
     | cons p m ih =>
      intro h;obtain ⟨t,b⟩:=p;simp only [Xil] at h
      split at h
      ·rename_i hb
       cases h
       have:s=t:=by simpa using hb
       subst this;simp
      exact Xgg _ (ih h)
    exact this m G
   exact J.rel _ D
  | none =>
   rw [G] at r;simp only [Xfz] at r;obtain ⟨i,M,rfl⟩:=r;exact Zdt M
 | const v=>cases r;rfl
 | global g =>
  simp only [rsv,Xfz] at r;obtain ⟨j,H,rfl⟩:=r;simp only [Wa.ev,I.hg _ _ H]
  rfl
 | func f =>
  simp only [rsv,Xfz] at r;obtain ⟨j,H,rfl⟩:=r;simp only [Wa.ev,(I.hf _ _ H).1]
  rfl
theorem Z6q {m:SM} {d:Nat} {a:Act} {T:Zc} (D:Ok cx Y) (G:St cx Y m d a T):∀ {xs:List Operand} {as:List Wa},xs.mapM (rsv cx m)=some as ->
  as.map (Wa.ev Y (Yh cx.nm a) T)=xs.map a.eval:=by
 intro xs
 induction xs with
 | nil=>intro as h;simp at h;subst h;rfl
 | cons x xs ih =>
  intro as h;simp only [Xhq,Xh8,Xf8] at h;obtain ⟨b,hb,I,r,H⟩:=h
  cases H
  simp [Zlg D G hb,ih r]
theorem W1 {a:Act} {s:Nat} {v:Value} (h:s<a.tmps.size):(a.put (some s) v).tmps.getD s undef=v:=by
 simp [Act.put,Xhn,h]
theorem Z1 {a:Act} {s t:Nat} {v:Value} (h:t≠s):(a.put (some s) v).tmps.getD t undef=a.tmps.getD t undef:=by
 simp [Act.put,Xhn,Array.getElem?_setIfInBounds_ne h.symm]
theorem Zaz {a:Act} {s:Nat} {v:Value} (h:s ∉ cx.nm):Yh cx.nm (a.put (some s) v)=Yh cx.nm a:=by
 unfold Yh;apply Xho;intro t ht;exact Z1 (fun e=>h (e ▸ ht))
theorem Zhr {a:Act} {s i:Nat} {v:Value} (G:Wf cx) (hs:s<a.tmps.size) (h:cx.nm.idxOf? s=some i) :
  Yh cx.nm (a.put (some s) v)=(Yh cx.nm a).set i v:=by
 rw [List.idxOf?_eq_some_iff] at h;obtain ⟨I,D,_⟩:=h;apply Xgb
 ·simp [Yh]
 intro j h1 J;have M:j<cx.nm.length:=by simpa [Yh] using h1
 rw [Xg3]
 split
 ·rename_i r;subst r;simp only [Yh,Xgo,D];exact W1 hs
 rename_i r;simp only [Yh,Xgo];apply Z1;intro H;apply r;have:=G.nodup;exact (List.getElem_inj this).1 (D.trans H.symm)
theorem Z3q {x:Wa} {i:Nat} {e T:Zc} {v:Value} (h:x.isN i=false):x.ev Y (e.set i v) T=x.ev Y e T:=by
 cases x with
 | n j =>
  have r:j≠i:=by simpa [Wa.isN] using h
  simp only [Wa.ev,Xf5];rw [Xig (fun e=>r e.symm)]
 | _=>rfl
theorem Zhx {x:Wa} {e T:Zc} {v:Value} (h:x.lt T.length):x.ev Y e (T++[v])=x.ev Y e T:=by
 cases x with
 | t j =>
  have r:j<T.length:=h;simp only [Wa.ev,Xf5,Xgh r]
 | _=>rfl
theorem Wa.lt_succ {x:Wa} {d:Nat} (h:x.lt d):x.lt (d+1):=by
 cases x with
 | t j=>exact Nat.lt_succ_of_lt h
 | _=>trivial
theorem Zb9 (a:Act) (s:Option Tmp) (v:Value):(a.put s v).defers=a.defers:=by cases s <;> rfl
theorem Zeu (a:Act) (s:Option Tmp) (v:Value):(a.put s v).tmps.size=a.tmps.size:=by cases s <;> simp [Act.put]
theorem Zn9 {m m':SM} {d J:Nat} {a:Act} {T:Zc} {G:Option Tmp} {ds:X3} (M:Wf cx) (D:St cx Y m d a T) (h:Zoh cx m d G=some (ds,m',J)) (v:Value) :
  St cx Y m' J (a.put G v) (ds.T v T)/\Yh cx.nm (a.put G v)=ds.e v (Yh cx.nm a):=by
 cases G with
 | none=>cases h;exact ⟨D,rfl⟩
 | some s =>
  simp only [Zoh] at h
  split at h
  ·rename_i hs;have hs':s<a.tmps.size:=by rw [D.size];exact hs
   split at h
   ·rename_i i I
    cases h
    have r:=Zhr (v:=v) M hs' I;refine ⟨⟨?_,?_,D.len,?_,?_⟩,r⟩
    ·rw [Zb9];exact D.defers
    ·rw [Zeu];exact D.size
    ·intro p hp;simp only [Xhi,Xf4,Xhg,bne_iff_ne,ne_eq] at hp;rw [r,Z1 hp.2.2];exact (Z3q hp.2.1).trans (D.rel p hp.1)
    intro p hp;simp only [Xhi] at hp;exact D.lt p hp.1
   rename_i I
   cases h
   have H:s ∉ cx.nm:=List.idxOf?_eq_none_iff.1 I;have r:=Zaz (v:=v) (a:=a) H;refine ⟨⟨?_,?_,?_,?_,?_⟩,r⟩
   ·rw [Zb9];exact D.defers
   ·rw [Zeu];exact D.size
   ·simp [X3.T,D.len]
   ·intro p hp;rcases List.mem_cons.1 hp with rfl | hp
    ·simp only [Wa.ev,X3.T,W1 hs'];simp [<-D.len]
    simp only [Xhi,bne_iff_ne,ne_eq] at hp;rw [r,X3.T,Zhx (by rw [D.len];exact D.lt p hp.1),D.rel p hp.1,Z1 hp.2]
   intro p hp;rcases List.mem_cons.1 hp with rfl | hp
   ·exact Xim d
   simp only [Xhi] at hp;exact Wa.lt_succ (D.lt p hp.1)
  cases h
def gOk (Y:Sys) (e T:Zc):Option (Wa × Bool)->Bool
 | none=>true
 | some (x,want)=>gdB (x.ev Y e T) want
theorem Zs3 {m:SM} {d:Nat} {a:Act} {T:Zc} {o:Oper} {g:Option (Wa × Bool)} (I:Ok cx Y) (J:St cx Y m d a T) (h:Zby cx ops m o.guard=some g) :
  Region.wanted o (yielded ops a.tmps)=gOk Y (Yh cx.nm a) T g:=by
 unfold Region.wanted
 cases G:o.guard with
 | none=>rw [G] at h;cases h;rfl
 | some M =>
  obtain ⟨j,H⟩:=M;rw [G] at h;simp only [Zby,Xf8,Xfz] at h;obtain ⟨s,⟨O,r,hs⟩,x,hx,rfl⟩:=h;have D:=Zlg I J hx;simp only [gOk,D,Act.eval,yielded,r,Xgj,hs];rw [Xhn]
  cases ht:a.tmps[s]? with
  | none=>simp [gdB,undef]
  | some v =>
   simp only [Xh9]
   cases v <;> simp [gdB]
theorem Zwr {i:Nat} {m m':SM} {d d':Nat} {a:Act} {T:Zc} {o:Oper} {fl:List FI} {K:W5} {Kw:Act->World->Prop} (ok:Ok cx Y) (wf:Wf cx)
  (hi:ops[i]? = some o) (h:Zvu cx ops m d o=some (fl,m',d')) (J:St cx Y m d a T) (I:FL.wp Y K fl (Yh cx.nm a) T w.heap)
  (hn:∀ a' T' w',St cx Y m' d' a' T'->Same w w'->K (Yh cx.nm a') T' w'.heap->Kw a' w'):wpOp cx.P ops Q i Kw a w:=by
 unfold Zvu at h
 split at h
 case h_2=>cases h
 rename_i g k xs hg hk
 split at h
 case h_2=>cases h
 rename_i as D;have M:=Z6q ok J D;have O:=Zs3 ok J hg;unfold wpOp;simp only [hi]
 split at h
 ·rename_i s x H
  cases h
  have I:K (Yh cx.nm a) T w.heap:=I;replace H:=Zzu H;unfold Zhd at H
  split at H
  case h_2=>cases H
  rename_i x' s' af R Z
  split at H
  case isFalse=>cases H
  rename_i aa
  cases H
  rw [af] at hg
  cases hg
  rw [O];simp only [gOk,if_true];left
  cases k with
  | io io =>
   cases io with
   | mv =>
    match as,R with
    | [y],R =>
     cases R
     have hs':s<a.tmps.size:=by rw [J.size];exact aa.1
     have ab:s ∉ cx.nm:=List.idxOf?_eq_none_iff.1 aa.2;have hv:Yo.sem Y w.heap .mv (xs.map a.eval)=some (x.ev Y (Yh cx.nm a) T):=by
      rw [<-M];rfl
     unfold Oper.wp;rw [Zo8 ok (fun _=>rfl) hk hv];have U:=Zaz (v:=x.ev Y (Yh cx.nm a) T) (a:=a) ab;have ac:x.lt d:=by
      match xs,D with
      | [y],D =>
       simp only [Xhq,List.mapM_nil,Xh8,Xf8] at D;obtain ⟨b,hb,bs,ai,he⟩:=D
       cases he
       cases y with
       | tmp t =>
        simp only [rsv] at hb
        cases hl:m.lookup t with
        | some b =>
         rw [hl] at hb
         cases hb
         have:∀ (m:SM),m.lookup t=some x->(t,x)∈m:=by
          intro m
          induction m with
          | nil=>intro h;cases h
          | cons p m ih =>
           intro h;obtain ⟨u,c⟩:=p;simp only [Xil] at h
           split at h
           ·rename_i ag
            cases h
            have:t=u:=by simpa using ag
            subst this;simp
           exact Xgg _ (ih h)
         exact J.lt _ (this m hl)
        | none =>
         rw [hl] at hb;simp only [Xfz] at hb;obtain ⟨i,_,rfl⟩:=hb
         trivial
       | const v=>cases hb;trivial
       | global g=>simp only [rsv,Xfz] at hb;obtain ⟨i,_,rfl⟩:=hb;trivial
       | func g=>simp only [rsv,Xfz] at hb;obtain ⟨i,_,rfl⟩:=hb;trivial
      | [],D=>simp at D
      | y::z::r,D =>
       simp only [Xhq,Xh8,Xf8] at D;obtain ⟨b,hb,bs,⟨c,hc,cs,aj,ah⟩,he⟩:=D
       cases ah
       cases he
     refine hn (a.put o.dst _) T w ⟨?_,?_,J.len,?_,?_⟩ (Same.refl w) ?_
     ·rw [Zb9];exact J.defers
     ·rw [Zeu];exact J.size
     ·rw [Z];intro p hp;rcases List.mem_cons.1 hp with rfl | hp
      ·rw [U,W1 hs']
      simp only [Xhi,bne_iff_ne,ne_eq] at hp;rw [U,J.rel p hp.1,Z1 hp.2]
     ·intro p hp;rcases List.mem_cons.1 hp with rfl | hp
      ·exact ac
      simp only [Xhi] at hp;exact J.lt p hp.1
     rw [Z,U];exact I
   | _=>simp [Z7s] at R
  | _=>simp [Z7s] at R
 split at h
 case h_2=>cases h
 rename_i ds m1 d1 hd;simp only [Xfz,Prod.mk.injEq] at h;obtain ⟨ins,G,rfl,rfl,rfl⟩:=h;have I:FI.wp Y ⟨g,ins⟩ K (Yh cx.nm a) T w.heap:=I;have ad:ins.dst=ds:=by
  cases k with
  | io io=>cases G;rfl
  | ef f=>cases G;rfl
  | call f=>cases G;rfl
  | callv=>cases as with
   | nil=>cases G
   | cons y r=>cases G;rfl
 have ae:ins.wp Y K (Yh cx.nm a) T w.heap->o.wp cx.P a w Kw Q:=by
  intro I;refine Zjm ok hk M G I fun v w' hs hk=>?_;obtain ⟨h1,h2⟩:=Zn9 wf J hd v;exact hn _ _ _ h1 hs (by rw [h2];exact hk)
 rw [O]
 cases g with
 | none =>
  simp only [gOk,if_true];exact .inl (ae I)
 | some gw =>
  obtain ⟨x,V⟩:=gw;simp only [FI.wp] at I
  split at I
  ·rename_i hb;have X:gOk Y (Yh cx.nm a) T (some (x,V))=true:=hb;rw [if_pos X];exact .inl (ae I)
  rename_i hb;have X:¬ (gOk Y (Yh cx.nm a) T (some (x,V))=true):=hb;rw [if_neg X];obtain ⟨h1,h2⟩:=Zn9 wf J hd undef;rw [ad] at I;exact hn _ _ _ h1 (Same.refl w) (by rw [h2];exact I)
theorem Zto (U:Ok cx Y) (V:Wf cx) {K:Zc->Zk->Prop}:∀ {l:Zd} {m:SM} {d:Nat} {a:Act} {T:Zc} {w:World} {G:List FI},
  Zyr cx ops l m d=some G->St cx Y m d a T->FL.wp Y (fun e _ h=>K e h) G (Yh cx.nm a) T w.heap ->
  (∀ a' w',a'.defers=[]->a'.tmps.size=cx.nt->Same w w'->K (Yh cx.nm a') w'.heap->Q .normal a' w')->wpOps cx.P ops Q l a w:=by
 intro l
 induction l with
 | nil =>
  intro m d a T w G h H I J
  cases h
  exact J a w H.defers H.size (Same.refl w) I
 | cons i r ih =>
  intro m d a T w G h H I J;simp only [Zyr] at h
  split at h
  ·cases h
  rename_i o X
  split at h
  ·cases h
  rename_i f1 m1 d1 hs;simp only [Xfz] at h;obtain ⟨f2,Z,rfl⟩:=h;rw [wpOps_cons];rw [FL.wp_append] at I;refine Zwr U V X hs H I fun a' T' w' M D hk=>?_;exact ih Z M hk fun O R g1 g2 g3 g4=>J O R g1 g2 (Same.trans D g3) g4
end
end Go.Rm
