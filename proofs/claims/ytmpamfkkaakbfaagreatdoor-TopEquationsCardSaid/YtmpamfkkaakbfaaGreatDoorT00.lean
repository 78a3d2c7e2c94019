import Derived.Orders
import Derived.Laws.Sem
import Derived.Laws.Append
import Derived.KernelRfl
import Derived.Lib.Bytealg
import Derived.Laws.Entries
import Derived.Laws.BytesString
import Derived.Laws.IdiomCopy
import Derived.Laws.IdiomStrings
import Derived.Laws.AppendOwn
import Derived.Laws.Slices
import Derived.Laws.StructEq
import Derived.ChangeKeysEq
/- The small language. -/
set_option linter.unusedSimpArgs false
set_option linter.unusedVariables false
namespace Go.Rm
abbrev Xd6:=@Nat.le_refl
abbrev Xd7:=@Option.map_eq_some_iff
abbrev Xd8:=@Nat.lt_or_ge
abbrev Xd9:=@Int.toNat_natCast
abbrev Xea:=@List.length_map
abbrev Xeb:=@Nat.eq_of_beq_eq_true
abbrev Xec:=@Bool.and_eq_true
abbrev Xed:=@Array.ext'
abbrev Xee:=@List.getD_eq_getElem?_getD
abbrev Xef:=@List.take_of_length_le
abbrev Xeg:=@Option.bind_eq_some_iff
abbrev Xeh:=@Bool.false_eq_true
abbrev Xei:=@List.length_append
abbrev Xej:=@Nat.mul_one
abbrev Xek:=@Nat.le_of_ble_eq_true
abbrev Xel:=@List.take_succ_eq_append_getElem
abbrev Xem:=@List.ext_getElem
abbrev Xen:=@List.getElem?_take
abbrev Xeo:=@List.getElem_mem
abbrev Xep:=@List.getElem?_append_left
abbrev Xeq:=@List.mem_cons_of_mem
abbrev Xer:=@Option.bind_some
abbrev Xes:=@Nat.zero_add
abbrev Xet:=@Nat.add_mul
abbrev Xeu:=@List.getElem?_eq_none
abbrev Xev:=@List.getElem_map
abbrev Xew:=@Nat.le_trans
abbrev Xex:=@List.length_take
abbrev Xey:=@Decidable.byContradiction
abbrev Xez:=@Option.some.injEq
abbrev Xe0:=@List.drop_eq_nil_of_le
abbrev Xe1:=@List.map_append
abbrev Xe2:=@List.getElem?_append_right
abbrev Xe3:=@List.eq_nil_of_length_eq_zero
abbrev Xe4:=@Nat.add_assoc
abbrev Xe5:=@Array.getElem?_eq_getElem
abbrev Xe6:=@List.append_assoc
abbrev Xe7:=@Nat.mul_le_mul_right
abbrev Xe8:=@List.length_filter_le
abbrev Xe9:=@List.getElem_set
abbrev Xfa:=@List.getElem_of_mem
abbrev Xfb:=@List.map_set
abbrev Xfc:=@Option.some.inj
abbrev Xfd:=@List.length_cons
abbrev Xfe:=@List.getElem?_eq_getElem
abbrev Xff:=@Nat.min_eq_left
abbrev Xfg:=@List.getElem?_drop
abbrev Xfh:=@Int.ofNat_eq_natCast
abbrev Xfi:=@List.map_cons
abbrev Xfj:=@Array.length_toList
abbrev Xfk:=@List.drop_eq_getElem_cons
abbrev Xfl:=@List.take_length
abbrev Xfm:=@Bool.not_eq_true'
abbrev Xfn:=@List.map_map
abbrev Xfo:=@List.mem_filter
abbrev Xfp:=@Array.ext
abbrev Xfq:=@Array.getD_eq_getD_getElem?
abbrev Xfr:=@List.map_congr_left
abbrev Xfs:=@List.getElem?_set
abbrev Xft:=@List.mapM_cons
abbrev Xfu:=@List.all_eq_true
abbrev Xfv:=@List.map_nil
abbrev Xfw:=@Array.getElem?_eq_none
abbrev Xfx:=@Bool.eq_false_iff
abbrev Xfy:=@List.mem_append_right
abbrev Xfz:=@Int.le_refl
abbrev Xf0:=@List.getElem_range
abbrev Xf1:=@List.range_succ
abbrev Xf2:=@List.size_toArray
abbrev Xf3:=@List.mem_cons_self
abbrev Xf4:=@List.length_nil
abbrev Xf5:=@Bool.eq_iff_iff
abbrev Xf6:=@Array.getElem?_modify
abbrev Xf7:=@Nat.ble_eq_true_of_le
abbrev Xf8:=@List.mem_cons
abbrev Xf9:=@List.filter_append
abbrev Xga:=@List.cons_append
abbrev Xgb:=@Nat.lt_trichotomy
abbrev Xgc:=@List.foldl_cons
abbrev Xgd:=@Option.bind_eq_bind
abbrev Xge:=@Option.getD_some
abbrev Xgf:=@Nat.eq_zero_or_pos
abbrev Xgg:=@List.ext_getElem?
abbrev Xgh:=@Nat.lt_of_lt_of_le
abbrev Xgi:=@Nat.add_sub_cancel
abbrev Xgj:=@List.flatMap_cons
abbrev Xgk:=@List.not_mem_nil
abbrev Xgl:=@List.append_nil
abbrev Xgm:=@List.pairwise_iff_getElem
abbrev Xgn:=@Nat.succ_ne_zero
abbrev Xgo:=@List.getElem?_set_ne
abbrev Xgp:=@Array.toList_map
abbrev Xgq:=@Option.map_some
abbrev Xgr:=@Bool.not_eq_true
abbrev Xgs:=@List.cons.injEq
abbrev Xgt:=@List.lookup_cons
abbrev Xgu:=@Nat.lt_succ_self
abbrev Xgv:=@List.mem_of_mem_take
abbrev Xgw:=@Array.size_append
abbrev Xgx:=@Array.toList_setIfInBounds
abbrev Xgy:=@List.take_take
abbrev Xgz:=@List.take_left
abbrev Xg0:=@List.mem_map
abbrev Xg1:=@Nat.mul_le_mul
abbrev Xg2:=@Int.mul_nonneg
abbrev Xg3:=@List.mem_singleton
abbrev Xg4:=@List.set_cons_succ
abbrev Xg5:=@List.mem_range
abbrev Xg6:=@List.any_eq_true
abbrev Xg7:=@Nat.one_mul
abbrev Xg8:=@List.mem_of_find?_eq_some
abbrev Xg9:=@List.find?_some
abbrev Xha:=@List.countP_cons
abbrev Xhb:=@Array.getElem?_push_lt
abbrev Xhc:=@List.length_drop
abbrev Xhd:=@List.find?_cons
abbrev Xhe:=@List.map_take
abbrev Xhf:=@List.foldl_append
abbrev Xhg:=@List.replicate_succ
abbrev Xhh:=@List.any_eq_false
abbrev Xhi:=@Bool.false_ne_true
abbrev Xhj:=@Array.toArray_toList
abbrev Xhk:=@Array.empty_append
abbrev Xhl:=@List.zip_cons_cons
abbrev Xhm:=@List.contains_eq_mem
abbrev Xhn:=@Array.getElem?_append_left
abbrev Xho:=@List.length_pos_of_mem
abbrev Xhp:=@List.mem_of_getElem?
abbrev Xhq:=@Nat.ne_of_beq_eq_false
abbrev Xhr:=@List.mem_append_left
abbrev Xhs:=@List.getElem?_cons_succ
abbrev Xht:=@List.take_succ_cons
abbrev Xhu:=@List.length_eq_zero_iff
abbrev Xhv:=@List.filter_eq_nil_iff
abbrev Xhw:=@Nat.add_sub_cancel_left
abbrev Xhx:=@List.set_eq_take_append_cons_drop
abbrev Za:=Array Obj
def hc (h:Za) (b o:Nat):Option Value :=
 match h[b]? with
 | some (.cells c _ _)=>c[o]?
 | _=>none
def hfz (h:Za) (b o:Nat):Bool :=
 match h[b]? with
 | some (.cells _ _ (lo,hi))=>lo<=o && o<hi
 | _=>false
def Wm (h:Za) (b o:Nat) (v:Value):Za :=
 h.modify b fun
  | .cells c t f=>.cells (c.setIfInBounds o v) t f
  | x=>x
def rd (h:Za) (b:Nat):Nat->Nat->Option (List Value)
 | _,0=>some []
 | o,n+1=>(hc h b o).bind fun v=>(rd h b (o+1) n).bind fun l=>some (v::l)
def hst (h:Za) (b:Nat):Nat->List Value->Option Za
 | _,[]=>some h
 | o,v::r=>if (hc h b o).isSome && !hfz h b o && v.oneCell' then hst (Wm h b o v) b (o+1) r else none
inductive Xo where
 | n (i:Nat)
 | t (i:Nat)
 | c (v:Value)
 | f (j:Nat)
 | g (j:Nat)
inductive Qx where
 | drop
 | push
 | set (i:Nat)
inductive Yg where
 | mv
 | pick
 | nilck
 | ib (op:BinOp)
 | sb (op:BinOp)
 | eqb (neg:Bool)
 | eqp (neg:Bool)
 | eqi (neg:Bool) (lit:Bool)
 | eqs (neg:Bool)
 | eqf (neg:Bool)
 | eqa (neg:Bool) (n:Nat)
 | un (op:UnOp)
 | conv (k:IntKind)
 | fadr (off:Nat)
 | idxa (sz:Nat)
 | idxA (len sz:Nat)
 | idxS
 | idxV (len sz:Nat) (agg:Bool)
 | fld (off sz:Nat) (agg:Bool)
 | slc (sz:Nat) (lo hi:Bool)
 | slcS (lo hi:Bool)
 | slcA (n sz:Nat) (lo hi:Bool)
 | slc3 (sz:Nat)
 | ext (i:Nat)
 | build (zero:Array Value) (pl:List (Nat × Nat)) (ix:List Nat)
 | buildA (sz:Nat) (zero:Array Value) (ix:List Nat)
 | mkI (t:Nat)
 | len
 | lenS
 | lenA (n:Nat)
 | cap
 | mn
 | mx
 | load (sz:Nat) (agg:Bool)
 | b2s
 | ta (t:Nat) (ok:Bool) (zero:Value)
 | mkf (f:Nat) (first:Nat)
 | lookup (kk:Option Nat) (ok:Bool) (zero:Value)
 | lenM
 | cntS
 | idxBS
inductive Ef where
 | store (sz:Nat)
 | new
 | bslice (len sz:Nat) (zero:Array Value) (pl:List Nat)
 | mkslice (sz bytes:Nat) (zero:Array Value)
 | append (sz bytes:Nat) (zero:Array Value)
 | appz (sz bytes:Nat) (zero:Array Value)
 | copy (sz:Nat)
 | clr (sz:Nat) (zero:Array Value)
 | s2b
 | b2b
 | mkmap
 | mupd (kk:Option Nat)
structure Sys where
 fid:Nat->FuncId
 tid:Nat->TypeId
 gid:Nat->Nat
 C:FuncId->List Value->Za->(Value->Za->Prop)->Prop
 mono:∀ {f:FuncId} {xs:List Value} {h:Za} {R R':Value->Za->Prop},C f xs h R->(∀ v h',R v h'->R' v h')->C f xs h R'
 able:FuncId->Prop
def Xo.ev (Y:Sys) (e T:List Value):Xo->Value
 | .n i=>e.getD i undef
 | .t i=>T.getD i undef
 | .c v=>v
 | .f j=>.func (.func (Y.fid j)) #[] #[]
 | .g j=>.pointer (some ⟨Y.gid j,0,none⟩)
def Qp (op:BinOp) (k:IntKind) (a:Int) (yk:IntKind) (b:Int):Option Value :=
 match op with
 | .shl=>if b<0 then none else some (.int k (k.wrap (a * 2 ^ (min b.toNat k.bits))))
 | .shr=>if b<0 then none else some (.int k (a.fdiv (2 ^ (min b.toNat k.bits))))
 | _ =>
  if k≠yk then none else
  match op with
  | .add=>some (.int k (k.wrap (a+b)))
  | .sub=>some (.int k (k.wrap (a-b)))
  | .mul=>some (.int k (k.wrap (a * b)))
  | .quo=>if b=0 then none else some (.int k (k.wrap (a.tdiv b)))
  | .rem=>if b=0 then none else some (.int k (a.tmod b))
  | .and=>some (.int k (k.wrap (BitVec.ofInt k.bits a &&& BitVec.ofInt k.bits b).toNat))
  | .or=>some (.int k (k.wrap (BitVec.ofInt k.bits a ||| BitVec.ofInt k.bits b).toNat))
  | .xor=>some (.int k (k.wrap (BitVec.ofInt k.bits a ^^^ BitVec.ofInt k.bits b).toNat))
  | .andNot=>some (.int k (k.wrap (BitVec.ofInt k.bits a &&& ~~~(BitVec.ofInt k.bits b)).toNat))
  | .eql=>some (.bool (a == b))
  | .neq=>some (.bool (a != b))
  | .lss=>some (.bool (decide (a<b)))
  | .leq=>some (.bool (decide (a<=b)))
  | .gtr=>some (.bool (decide (a>b)))
  | .geq=>some (.bool (decide (a>=b)))
  | _=>none
def Zvh (op:BinOp) (x y:ByteArray):Option Value :=
 match op with
 | .add=>if x.size+y.size<=9223372036854775807 then some (.string (x++y)) else none
 | .eql=>some (.bool (x.toList == y.toList))
 | .neq=>some (.bool !(x.toList == y.toList))
 | .lss=>some (.bool (Op.bytesLess x.toList y.toList))
 | .leq=>some (.bool (Op.bytesLess x.toList y.toList || x.toList == y.toList))
 | .gtr=>some (.bool !(Op.bytesLess x.toList y.toList || x.toList == y.toList))
 | .geq=>some (.bool !(Op.bytesLess x.toList y.toList))
 | _=>none
def U5 (sz:Nat) (agg:Bool) (cs:Array Value) (off:Nat):Option Value :=
 if agg then some (.agg (cs.extract off (off+sz))) else cs[off]?
def Zbg:List Value->Option (List UInt8)
 | []=>some []
 | .int .u8 n::r=>(Zbg r).bind fun l=>some (UInt8.ofNat n.toNat::l)
 | _=>none
def Z1 (n cap:Nat):Bool->Bool->List Value->Option (Nat × Nat)
 | false,false,[]=>some (0,n)
 | true,false,[.int _ l]=>if 0<=l/\l<=n then some (l.toNat,n) else none
 | false,true,[.int _ h]=>if 0<=h/\h<=cap then some (0,h.toNat) else none
 | true,true,[.int _ l,.int _ h]=>if 0<=l/\l<=h/\h<=cap then some (l.toNat,h.toNat) else none
 | _,_,_=>none
def Q0 (neg b:Bool):Option Value:=some (.bool (if neg then !b else b))
def Qf:List Value->List Value->Option Bool
 | [],[]=>some true
 | .int k a::r,.int j b::s=>if k=j then (Qf r s).map fun c=>(a == b) && c else none
 | _,_=>none
def Zbk (kk:Option Nat):Value->Value->Option Bool
 | .int k a,.int k' b=>if kk=none/\k=k' then some (a == b) else none
 | .agg xs,.agg ys=>match kk with | some n=>if xs.size=n/\ys.size=n then Qf xs.toList ys.toList else none | none=>none
 | _,_=>none
def Znp:Value->Bool
 | .int _ _=>true
 | _=>false
def Zab (kk:Option Nat):Value->Bool
 | .int _ _=>kk.isNone
 | .agg xs=>match kk with | some n=>xs.size == n && xs.toList.all Znp | none=>false
 | _=>false
def Vm (kk:Option Nat) (k:Value):List MapEntry->Nat->Option (Option (Nat × Value))
 | [],_=>some none
 | e::es,i=>match Zbk kk k e.key with
  | some true=>some (some (i,e.val))
  | some false=>Vm kk k es (i+1)
  | none=>none
def Xz (h:Za):Option Nat->Option (List MapEntry)
 | none=>some []
 | some r=>match h[r]? with
  | some (.map es _)=>some es.toList
  | _=>none
def Zdm (h:Za) (kk:Option Nat) (ok:Bool) (zero:Value) (r:Option Nat) (key:Value):Option Value :=
 if Zab kk key then (Xz h r).bind fun es=>(Vm kk key es 0).map fun a=>match a with
  | some (_,v)=>if ok then .tuple #[v,.bool true] else v
  | none=>if ok then .tuple #[zero,.bool false] else zero
 else none
def Yg.sem (Y:Sys) (h:Za):Yg->List Value->Option Value
 | .mv,[x]=>some x
 | .pick,[.bool c,a,b]=>some (if c then a else b)
 | .nilck,[.pointer (some a)]=>some (.pointer (some a))
 | .nilck,[.iface t v]=>some (.iface t v)
 | .nilck,[.func (.func f) a b]=>some (.func (.func f) a b)
 | .ib op,[.int k a,.int yk b]=>Qp op k a yk b
 | .sb op,[.string a,.string b]=>Zvh op a b
 | .eqb neg,[.bool a,.bool b]=>Q0 neg (a == b)
 | .eqp neg,[.pointer none,.pointer b]=>Q0 neg b.isNone
 | .eqp neg,[.pointer (some _),.pointer none]=>Q0 neg false
 | .eqi neg lit,[.nilIface,.nilIface]=>if lit then Q0 neg true else none
 | .eqi neg _,[.nilIface,.iface _ _]=>Q0 neg false
 | .eqi neg _,[.iface _ _,.nilIface]=>Q0 neg false
 | .eqs neg,[.slice none _ _,.slice b _ _]=>Q0 neg b.isNone
 | .eqs neg,[.slice (some _) _ _,.slice none _ _]=>Q0 neg false
 | .eqf neg,[.nilFunc,.nilFunc]=>Q0 neg true
 | .eqf neg,[.func _ _ _,.nilFunc]=>Q0 neg false
 | .eqa neg n,[.agg xs,.agg ys]=>if xs.size=n/\ys.size=n then (Qf xs.toList ys.toList).bind (Q0 neg) else none
 | .un .neg,[.int k n]=>some (.int k (k.wrap (0-n)))
 | .un .not,[.bool b]=>some (.bool !b)
 | .conv k,[.int _ n]=>some (.int k (k.wrap n))
 | .fadr off,[.pointer (some ⟨b,o,none⟩)]=>some (.pointer (some ⟨b,o+off,none⟩))
 | .idxa sz,[.slice (some ⟨b,o,none⟩) n _,.int _ i]=>if 0<=i/\i<n then some (.pointer (some ⟨b,o+i.toNat * sz,none⟩)) else none
 | .idxA n sz,[.pointer (some ⟨b,o,none⟩),.int _ i]=>if 0<=i/\i<n then some (.pointer (some ⟨b,o+i.toNat * sz,none⟩)) else none
 | .idxS,[.string s,.int _ i]=>if 0<=i then (s[i.toNat]?).bind fun b=>some (.int .u8 b.toNat) else none
 | .idxV n sz agg,[.agg cs,.int _ i]=>if 0<=i/\i<n then U5 sz agg cs (i.toNat * sz) else none
 | .fld off sz agg,[.agg cs]=>U5 sz agg cs off
 | .slc sz lo hi,.slice a n c::r=>(Z1 n c lo hi r).bind fun x =>
   match a with
   | none=>some (.slice none (x.2-x.1) (c-x.1))
   | some ⟨b,o,none⟩=>some (.slice (some ⟨b,if c=x.1 then o else o+x.1 * sz,none⟩) (x.2-x.1) (c-x.1))
   | some ⟨b,o,some sp⟩=>if c=x.1 then some (.slice (some ⟨b,o,some sp⟩) (x.2-x.1) (c-x.1)) else none
 | .slcS lo hi,.string s::r=>(Z1 s.size s.size lo hi r).bind fun x=>some (.string (s.extract x.1 x.2))
 | .slcA n sz lo hi,.pointer (some ⟨b,o,none⟩)::r=>(Z1 n n lo hi r).bind fun x =>
   some (.slice (some ⟨b,if n=x.1 then o else o+x.1 * sz,none⟩) (x.2-x.1) (n-x.1))
 | .slc3 sz,[.slice a n c,.int _ l,.int _ i,.int _ m]=>if 0<=l/\l<=i/\i<=m/\m<=c then
   match a with
   | none=>some (.slice none (i.toNat-l.toNat) (m.toNat-l.toNat))
   | some ⟨b,o,none⟩=>some (.slice (some ⟨b,if m.toNat=l.toNat then o else o+l.toNat * sz,none⟩) (i.toNat-l.toNat) (m.toNat-l.toNat))
   | _=>none
  else none
 | .ext i,[.tuple vs]=>vs[i]?
 | .build zero pl ix,xs=>(Instr.fill (fun i=>pl[i]?) zero (ix.zip xs)).bind fun cs=>some (.agg cs)
 | .buildA sz zero ix,xs=>(Instr.fill (fun i=>some (i * sz,sz)) zero (ix.zip xs)).bind fun cs=>some (.agg cs)
 | .mkI t,[x]=>some (.iface (Y.tid t) x)
 | .len,[.slice _ n _]=>some (.int .i64 n)
 | .lenS,[.string s]=>some (.int .i64 s.size)
 | .lenA n,[_]=>some (.int .i64 n)
 | .cap,[.slice _ _ n]=>some (.int .i64 n)
 | .mn,[.int k x,.int _ y]=>some (.int k (if y<x then y else x))
 | .mx,[.int k x,.int _ y]=>some (.int k (if x<y then y else x))
 | .load sz true,[.pointer (some ⟨b,o,none⟩)]=>(rd h b o sz).bind fun l=>some (.agg l.toArray)
 | .load _ false,[.pointer (some ⟨b,o,none⟩)]=>hc h b o
 | .b2s,[.slice none _ _]=>some (.string .empty)
 | .b2s,[.slice (some ⟨b,o,none⟩) n _]=>(rd h b o n).bind fun l=>(Zbg l).bind fun s=>some (.string ⟨s.toArray⟩)
 | .ta t ok zero,[.iface t' v] =>
   if t'=Y.tid t then some (if ok then .tuple #[v,.bool true] else v) else if ok then some (.tuple #[zero,.bool false]) else none
 | .ta _ true zero,[.nilIface]=>some (.tuple #[zero,.bool false])
 | .mkf f k,xs=>some (.func (.func (Y.fid f)) (xs.take k).toArray (xs.drop k).toArray)
 | .lookup kk ok zero,[.map r,key]=>Zdm h kk ok zero r key
 | .lenM,[.map r]=>(Xz h r).map fun es=>.int .i64 es.length
 | .cntS,[.string s,.int .u8 c]=>some (.int .i64 (Lib.countByte s.data.toList c.toNat.toUInt8))
 | .idxBS,[.string s,.int .u8 c]=>some (.int .i64 (Lib.indexByte s.data.toList c.toNat.toUInt8))
 | _,_=>none
def Xj (zero:Array Value) (n:Nat):Array Value:=(Array.range n).map (zero[· % zero.size]!)
def Wq (h:Za) (sz n:Nat):Value->Option (List Value)
 | .slice (some ⟨b,o,none⟩) _ _=>rd h b o (n * sz)
 | .slice (some ⟨_,_,some _⟩) _ _=>if n=0 then some [] else none
 | .slice none _ _=>some []
 | .string s=>some ((s.extract 0 n).data.toList.map fun b=>.int .u8 b.toNat)
 | _=>none
def Zfa:Value->Option Nat
 | .slice _ n _=>some n
 | .string s=>some s.size
 | _=>none
def Ef.wp (h:Za) (K:Value->Za->Prop):Ef->List Value->Prop
 | .store sz,[.pointer (some ⟨b,o,none⟩),v]=>v.cells.size=sz /\
   match hst h b o v.cells.toList with
   | some h'=>K undef h'
   | none=>False
 | .new,[v]=>∀ t:TypeId,K (.pointer (some ⟨h.size,0,none⟩)) (h.push (.cells v.cells t))
 | .bslice len sz zero pl,xs =>
   match Instr.fill (fun i=>some (i * sz,sz)) (Xj zero (len * sz)) (pl.zip xs) with
   | some cs=>∀ t:TypeId,K (.slice (some ⟨h.size,0,none⟩) len len) (h.push (.cells cs t))
   | none=>False
 | .mkslice sz bytes zero,[.int _ l,.int _ c]=>0<=l/\l<=c/\c<=9223372036854775807/\(bytes:Int) * c<=281474976710656 /\
   ∀ t:TypeId,K (.slice (some ⟨h.size,0,none⟩) l.toNat c.toNat) (h.push (.cells (Xj zero (c.toNat * sz)) t))
 | .append sz bytes zero,[.slice a n c,x] =>
   match Zfa x with
   | none=>False
   | some m =>
    match Wq h sz m x with
    | none=>False
    | some nw =>
     if n+m<=c then
      match a with
      | some ⟨b,o,none⟩ =>
       match hst h b (o+n * sz) nw with
       | some h'=>K (.slice a (n+m) c) h'
       | none=>False
      | none=>K (.slice none (n+m) c) h
      | _=>False
     else
      n+m<=9223372036854775807/\(n+m) * bytes<=140737488355328 /\
      match Wq h sz n (.slice a n c) with
      | some old=>∀ (t:TypeId) (nc:Nat),n+m<=nc->nc<=9223372036854775807 ->
        K (.slice (some ⟨h.size,0,none⟩) (n+m) nc) (h.push (.cells (old.toArray++nw.toArray++Builtin.zeroCells zero (nc-(n+m))) t))
      | none=>False
 | .appz sz bytes zero,[.slice a n c,.int .i64 l]=>0<l/\c<n+l.toNat/\n+l.toNat<=9223372036854775807/\(n+l.toNat) * bytes<=140737488355328 /\
   match Wq h sz n (.slice a n c) with
   | some old=>∀ (t:TypeId) (nc:Nat),n+l.toNat<=nc->nc<=9223372036854775807 ->
     K (.slice (some ⟨h.size,0,none⟩) (n+l.toNat) nc) (h.push (.cells (old.toArray++Builtin.zeroCells zero l.toNat++Builtin.zeroCells zero (nc-(n+l.toNat))) t))
   | none=>False
 | .copy sz,[.slice a n _,x] =>
   match Zfa x with
   | none=>False
   | some m =>
    match Wq h sz (min m n) x with
    | none=>False
    | some nw =>
     match a with
     | some ⟨b,o,none⟩ =>
      match hst h b o nw with
      | some h'=>K (.int .i64 (min m n:Nat)) h'
      | none=>False
     | none=>K (.int .i64 (min m n:Nat)) h
     | _=>False
 | .clr sz zero,[.slice a n c] =>
   match a with
   | none=>K undef h
   | some ⟨b,o,none⟩=>if n=0 then K undef h else
    match hst h b o (Builtin.zeroCells zero n).toList with
    | some h'=>K undef h'
    | none=>False
   | _=>False
 | .s2b,[.string s]=>∀ (t:TypeId) (nc:Nat),s.size<=nc ->
   K (.slice (some ⟨h.size,0,none⟩) s.size nc)
    (h.push (.cells ((s.data.map fun b=>Value.int .u8 b.toNat)++Array.replicate (nc-s.size) (.int .u8 0)) t (nc,nc+1)))
 | .b2b,[.slice (some a) n c] =>
   match h[a.block]? with
   | some (.cells cs t (0,0))=>K (.slice (some a) n c) (h.modify a.block fun _=>.cells cs t (cs.size,cs.size+1))
   | _=>False
 | .mkmap,[]=>K (.map (some h.size)) (h.push (.map #[] 0))
 | .mkmap,[.int _ _]=>K (.map (some h.size)) (h.push (.map #[] 0))
 | .mupd kk,[.map (some r),key,val] =>
   match h[r]? with
   | some (.map es clock)=>Zab kk key=true /\
    match Vm kk key es.toList 0 with
    | some (some (i,_))=>K undef (h.setIfInBounds r (.map (es.modify i fun e=>{ e with key,val }) clock))
    | some none=>K undef (h.setIfInBounds r (.map (es.push { key,val,born:=clock }) (clock+1)))
    | none=>False
   | _=>False
 | _,_=>False
inductive Instr where
 | op (o:Yg) (xs:List Xo) (d:Qx)
 | ef (f:Ef) (xs:List Xo) (d:Qx)
 | call (f:Nat) (xs:List Xo) (d:Qx)
 | callv (x:Xo) (xs:List Xo) (d:Qx)
 | stab (o:Yg) (xs:List Xo) (v:Xo)
def Qx.e (v:Value) (e:List Value):Qx->List Value
 | .set i=>e.set i v
 | _=>e
def Qx.T (v:Value) (T:List Value):Qx->List Value
 | .push=>T++[v]
 | _=>T
def Zjy (o:Option Value) (k:Value->Prop):Prop :=
 match o with
 | some v=>k v
 | none=>False
abbrev Z3:=List Value->List Value->Za->Prop
def Instr.wp (Y:Sys) (K:Z3) (e T:List Value) (h:Za):Instr->Prop
 | .op o xs d=>Zjy (o.sem Y h (xs.map (Xo.ev Y e T))) fun v=>K (d.e v e) (d.T v T) h
 | .ef f xs d=>f.wp h (fun v h'=>K (d.e v e) (d.T v T) h') (xs.map (Xo.ev Y e T))
 | .call f xs d=>Y.C (Y.fid f) (xs.map (Xo.ev Y e T)) h fun v h'=>K (d.e v e) (d.T v T) h'
 | .callv x xs d =>
  match x.ev Y e T with
  | .func (.func f) first cap=>Y.able f/\Y.C f (first.toList++xs.map (Xo.ev Y e T)++cap.toList) h fun v h'=>K (d.e v e) (d.T v T) h'
  | _=>False
 | .stab o xs v=>o.sem Y h (xs.map (Xo.ev Y e T))=some (v.ev Y e T)/\K e T h
def Instr.dst:Instr->Qx
 | .op _ _ d | .ef _ _ d | .call _ _ d | .callv _ _ d=>d
 | .stab _ _ _=>.drop
def gdB (v:Value) (want:Bool):Bool :=
 match v with
 | .bool b=>b == want
 | _=>false
structure FI where
 g:Option (Xo × Bool)
 i:Instr
def FI.wp (Y:Sys) (x:FI) (K:Z3) (e T:List Value) (h:Za):Prop :=
 match x.g with
 | none=>x.i.wp Y K e T h
 | some (g,want)=>if gdB (g.ev Y e T) want then x.i.wp Y K e T h else K (x.i.dst.e undef e) (x.i.dst.T undef T) h
def FL.wp (Y:Sys) (K:Z3):List FI->Z3
 | [],e,T,h=>K e T h
 | x::r,e,T,h=>x.wp Y (FL.wp Y K r) e T h
inductive IL where
 | nil
 | op (i:Instr) (k:IL)
 | gd (g:Xo) (want:Bool) (body:IL) (ds:List Qx) (k:IL)
 | alt (a b:IL)
def Zlh:List Qx->List Value->List Value
 | [],e=>e
 | d::r,e=>Zlh r (d.e undef e)
def Zlg:List Qx->List Value->List Value
 | [],T=>T
 | d::r,T=>Zlg r (d.T undef T)
def IL.wp (Y:Sys) (K:Z3):IL->Z3
 | .nil,e,T,h=>K e T h
 | .op i k,e,T,h=>i.wp Y (IL.wp Y K k) e T h
 | .gd g want body ds k,e,T,h=>if gdB (g.ev Y e T) want then IL.wp Y (IL.wp Y K k) body e T h else IL.wp Y K k (Zlh ds e) (Zlg ds T) h
 | .alt a b,e,T,h=>IL.wp Y K a e T h/\IL.wp Y K b e T h
inductive FT where
 | nil
 | cons (x:FI) (k:FT)
 | alt (a b:FT)
def FT.wp (Y:Sys) (K:Z3):FT->Z3
 | .nil,e,T,h=>K e T h
 | .cons x k,e,T,h=>x.wp Y (FT.wp Y K k) e T h
 | .alt a b,e,T,h=>FT.wp Y K a e T h/\FT.wp Y K b e T h
def FT.app:List FI->FT->FT
 | [],k=>k
 | x::r,k=>.cons x (FT.app r k)
inductive Stmt where
 | skip
 | seq (a b:Stmt)
 | reg (l:IL)
 | cond (x:Xo) (a b:Stmt)
 | block (id:Nat) (s:Stmt)
 | loop (s:Stmt)
 | exit (id:Nat)
 | ret
def Stmt.wp (Y:Sys):Stmt->(kn:List Value->Za->Prop)->(ke:Nat->List Value->Za->Prop)->(kr:List Value->Za->Prop)->List Value->Za->Prop
 | .skip,kn,_,_,e,h=>kn e h
 | .seq a b,kn,ke,kr,e,h=>a.wp Y (fun e h=>b.wp Y kn ke kr e h) ke kr e h
 | .reg l,kn,_,_,e,h=>l.wp Y (fun e _ h=>kn e h) e [] h
 | .cond x a b,kn,ke,kr,e,h =>
  match x.ev Y e [] with
  | .bool c=>if c=true then a.wp Y kn ke kr e h else b.wp Y kn ke kr e h
  | _=>False
 | .block id s,kn,ke,kr,e,h=>s.wp Y kn (fun i e h=>if i=id then kn e h else ke i e h) kr e h
 | .loop s,_,ke,kr,e,h=>∃ (I:List Value->Za->Prop) (μ:List Value->Za->Nat),I e h /\
   ∀ e h,I e h->s.wp Y (fun e' h'=>I e' h'/\μ e' h'<μ e h) ke kr e h
 | .exit id,_,ke,_,e,h=>ke id e h
 | .ret,_,_,kr,e,h=>kr e h
inductive Res where
 | n (i:Nat)
 | box (i:Nat) (sz:Nat) (agg:Bool)
def Res.ev (e:List Value) (h:Za):Res->Option Value
 | .n i=>some (e.getD i undef)
 | .box i sz agg =>
  match e.getD i undef with
  | .pointer (some ⟨b,o,none⟩)=>if agg then (rd h b o sz).bind fun l=>some (.agg l.toArray) else hc h b o
  | _=>none
structure Xa where
 np:Nat
 nn:Nat
 body:Stmt
 res:List Res
def Zbr (e:List Value) (h:Za):List Res->Option (List Value)
 | []=>some []
 | r::l=>(r.ev e h).bind fun v=>(Zbr e h l).bind fun vs=>some (v::vs)
def Q5 (res:List Res) (R:Value->Za->Prop) (e:List Value) (h:Za):Prop :=
 match Zbr e h res with
 | some [v]=>R v h
 | some vs=>R (.tuple vs.toArray) h
 | none=>False
def Xa.wp (Y:Sys) (S:Xa) (args:List Value) (h:Za) (R:Value->Za->Prop):Prop :=
 S.body.wp Y (Q5 S.res R) (fun _ _ _=>False) (Q5 S.res R) (args++List.replicate (S.nn-S.np) undef) h
def Sys.Has (Y:Sys) (j:Nat) (S:Xa):Prop :=
 Y.able (Y.fid j)/\∀ (args:List Value) (h:Za) (R:Value->Za->Prop),args.length=S.np->S.wp Y args h R->Y.C (Y.fid j) args h R
structure Cx where
 P:Program
 fn:FuncId->Option Nat
 tn:TypeId->Option Nat
 gn:Nat->Option Nat
 nm:List Nat
 nt:Nat
inductive Kd where
 | io (o:Yg)
 | ef (f:Ef)
 | call (f:Nat)
 | callv
def Xl:TypeDesc->Bool
 | .struct _ | .array _ _=>true
 | _=>false
def Operand.isC:Operand->Bool
 | .const _=>true
 | _=>false
section
variable (cx:Cx)
def Ug (t:TypeId):Option Nat:=(cx.P.info? t).map (·.size)
def Qe (t:TypeId):Option Value:=(cx.P.info? t).bind (·.zero)
def Za7:List Field->Nat->Bool
 | [],_=>true
 | f :: r, k => f.name != "_" && f.offset == k && (match cx.P.underlying f.type with | some (.int _) => true | _ => false) && Za7 r (k + 1)
def Zcd (neg:Bool) (op:BinOp) (t:TypeId) (x y:Operand):Option Kd :=
 match cx.P.underlying t with
 | some (.int _)=>some (.io (.ib op))
 | some .string=>some (.io (.sb op))
 | some .bool=>some (.io (.eqb neg))
 | some (.pointer _)=>some (.io (.eqp neg))
 | some (.interface _)=>some (.io (.eqi neg (Operand.isC x || Operand.isC y)))
 | some (.slice _)=>some (.io (.eqs neg))
 | some (.func _ _ _)=>some (.io (.eqf neg))
 | some (.struct fs)=>if Za7 cx fs.toList 0=true/\cx.P.stoodInHeld t=false/\cx.P.eqGuardType cx.P.depth t=false then some (.io (.eqa neg fs.size)) else none
 | _=>none
def Ze0 (op:BinOp) (t:TypeId) (x y:Operand):Option Kd :=
 match op with
 | .eql=>Zcd cx false op t x y
 | .neq=>Zcd cx true op t x y
 | _ =>
  match cx.P.underlying t with
  | some (.int _)=>some (.io (.ib op))
  | some .string=>some (.io (.sb op))
  | _=>none
def U2 (k:TypeId):Option (Option Nat) :=
 match cx.P.underlying k with
 | some (.int _)=>some none
 | some (.struct fs)=>if Za7 cx fs.toList 0=true/\cx.P.stoodInHeld k=false then some (some fs.size) else none
 | some (.array n e) =>
  match cx.P.underlying e,cx.P.info? e with
  | some (.int _),some _=>if cx.P.cellsOf e=1 then some (some n) else none
  | _,_=>none
 | _=>none
def Z1b (f:FuncId):Option Yg :=
 match cx.P.funcs[f]? with
 | some fn =>
  if fn.body.isNone ∧ (fn.name == "runtime.NumGoroutine") = false ∧ (Extern.findNext fn).isNone then
   if fn.name = "internal/bytealg.CountString" then some .cntS
   else if fn.name = "internal/bytealg.IndexByteString" then some .idxBS
   else some (.idxA 0 0)
  else none
 | none=>none
def Zdg:Op->Option (Kd × List Operand)
 | .move x | .assign x=>some (.io .mv,[x])
 | .pick c a b=>some (.io .pick,[c,a,b])
 | .alloc t=>(Qe cx t).map fun z=>(.ef .new,[.const z])
 | .box _ x=>some (.ef .new,[x])
 | .build t ps =>
  match cx.P.underlying t,Qe cx t with
  | some (.struct fs),some z=>(fs.toList.mapM fun f=>(Ug cx f.type).map fun n=>(f.offset,n)).map fun pl=>(.io (.build z.cells pl (ps.toList.map (·.1))),ps.toList.map (·.2))
  | some (.array _ e),some z=>(Ug cx e).map fun n=>(.io (.buildA n z.cells (ps.toList.map (·.1))),ps.toList.map (·.2))
  | _,_=>none
 | .buildSlice t len ps =>
  match cx.P.underlying t with
  | some (.slice e) =>
   match Ug cx e,Qe cx e with
   | some sz,some z=>if len * sz<=16777216 then some (.ef (.bslice len sz (if len * sz=0 then #[] else z.cells) (ps.toList.map (·.1))),ps.toList.map (·.2)) else none
   | _,_=>none
  | _=>none
 | .load t x =>
  match cx.P.underlying t with
  | some d=>if Xl d then (Ug cx t).map fun n=>(.io (.load n true),[x]) else some (.io (.load 1 false),[x])
  | none=>none
 | .store t a v=>(Ug cx t).map fun n=>(.ef (.store n),[a,v])
 | .nilCheck x=>some (.io .nilck,[x])
 | .binOp op t x y _=>(Ze0 cx op t x y).map fun k=>(k,[x,y])
 | .unOp op _ x=>some (.io (.un op),[x])
 | .convert s d x =>
  match cx.P.underlying s,cx.P.underlying d with
  | some _,some (.int k)=>some (.io (.conv k),[x])
  | some (.slice e),some .string=>match cx.P.underlying e with | some (.int .u8)=>some (.io .b2s,[x]) | _=>none
  | some .string,some (.slice e)=>match cx.P.underlying e with | some (.int .u8)=>some (.ef .s2b,[x]) | _=>none
  | some (.slice _),some (.slice e)=>if s=d then match cx.P.underlying e with | some (.int .u8)=>some (.ef .b2b,[x]) | _=>none else none
  | _,_=>none
 | .makeInterface t x =>
  match cx.P.underlying t with
  | some (.interface _)=>none
  | some _=>(cx.tn t).map fun n=>(.io (.mkI n),[x])
  | none=>none
 | .makeFunc (.func f) first cap=>(cx.fn f).map fun n=>(.io (.mkf n first.size),first.toList++cap.toList)
 | .makeSlice t l c =>
  match cx.P.underlying t with
  | some (.slice e) =>
   match Ug cx e,Qe cx e,cx.P.info? e with
   | some sz,some z,some i=>some (.ef (.mkslice sz i.bytes z.cells),[l,c])
   | _,_,_=>none
  | _=>none
 | .slice t x lo hi none =>
  match cx.P.underlying t with
  | some (.slice e)=>(Ug cx e).map fun n=>(.io (.slc n lo.isSome hi.isSome),x::(lo.toList++hi.toList))
  | some .string=>some (.io (.slcS lo.isSome hi.isSome),x::(lo.toList++hi.toList))
  | some (.array len e)=>(Ug cx e).map fun n=>(.io (.slcA len n lo.isSome hi.isSome),x::(lo.toList++hi.toList))
  | _=>none
 | .slice t x (some lo) (some hi) (some mx) =>
  match cx.P.underlying t with
  | some (.slice e)=>(Ug cx e).map fun n=>(.io (.slc3 n),[x,lo,hi,mx])
  | _=>none
 | .fieldAddr t x f =>
  match cx.P.underlying t with
  | some (.struct fs)=>(fs[f]?).bind fun fd=>(Ug cx fd.type).bind fun n=>if n=0 then none else some (.io (.fadr fd.offset),[x])
  | _=>none
 | .field t x f =>
  match cx.P.underlying t with
  | some (.struct fs)=>(fs[f]?).bind fun fd =>
   match cx.P.underlying fd.type with
   | some d=>if Xl d then (Ug cx fd.type).map fun n=>(.io (.fld fd.offset n true),[x]) else some (.io (.fld fd.offset 1 false),[x])
   | none=>none
  | _=>none
 | .indexAddr t x i =>
  match cx.P.underlying t with
  | some (.slice e)=>(Ug cx e).map fun n=>(.io (.idxa n),[x,i])
  | some (.array len e)=>(Ug cx e).map fun n=>(.io (.idxA len n),[x,i])
  | _=>none
 | .index t x i =>
  match cx.P.underlying t with
  | some .string=>some (.io .idxS,[x,i])
  | some (.array len e) =>
   match cx.P.underlying e,Ug cx e with
   | some d,some n=>some (.io (.idxV len n (Xl d)),[x,i])
   | _,_=>none
  | _=>none
 | .typeAssert x _ t ok =>
  match cx.P.underlying t with
  | some (.interface _)=>none
  | some _=>match cx.tn t,Qe cx t with
   | some n,some z=>some (.io (.ta n ok z),[x])
   | _,_=>none
  | none=>none
 | .extract x i=>some (.io (.ext i),[x])
 | .makeMap t r =>
  match cx.P.underlying t with
  | some (.map _ _)=>some (.ef .mkmap,r.toList)
  | _=>none
 | .mapUpdate t m k x =>
  match cx.P.underlying t with
  | some (.map kt _)=>(U2 cx kt).map fun n=>(.ef (.mupd n),[m,k,x])
  | _=>none
 | .lookup t m k ok =>
  match cx.P.underlying t with
  | some (.map kt e) =>
   match U2 cx kt,Qe cx e with
   | some n,some z=>some (.io (.lookup n ok z),[m,k])
   | _,_=>none
  | _=>none
 | .call c =>
  match c.callee with
  | .value (.func f) =>
   match Z1b cx f with
   | some o=>some (.io o,c.args.toList)
   | none=>(cx.fn f).map fun n=>(.call n,c.args.toList)
  | .value x=>some (.callv,x::c.args.toList)
  | .builtin .len =>
   match c.argTypes.toList,c.args.toList with
   | [t],[x] =>
    match cx.P.underlying t with
    | some (.slice _)=>some (.io .len,[x])
    | some .string=>some (.io .lenS,[x])
    | some (.array n _)=>some (.io (.lenA n),[x])
    | some (.map _ _)=>some (.io .lenM,[x])
    | _=>none
   | _,_=>none
  | .builtin .cap =>
   match c.argTypes.toList,c.args.toList with
   | [t],[x]=>match cx.P.underlying t with | some (.slice _)=>some (.io .cap,[x]) | _=>none
   | _,_=>none
  | .builtin .min=>match c.args.toList with | [x,y]=>some (.io .mn,[x,y]) | _=>none
  | .builtin .max=>match c.args.toList with | [x,y]=>some (.io .mx,[x,y]) | _=>none
  | .builtin .append =>
   match c.argTypes.toList,c.args.toList with
   | [t,u],[x,y] =>
    match cx.P.underlying t,cx.P.underlying u with
    | some (.slice e),some du =>
     match Ug cx e,Qe cx e,cx.P.info? e,du with
     | some sz,some z,some i,.slice _=>if z.cells.size=sz/\i.bytes≠0 then some (.ef (.append sz i.bytes z.cells),[x,y]) else none
     | some sz,some z,some i,.string=>if z.cells.size=sz/\i.bytes≠0 then some (.ef (.append sz i.bytes z.cells),[x,y]) else none
     | some sz,some z,some i,.int _=>if z.cells.size=sz/\i.bytes≠0/\sz≠0 then some (.ef (.appz sz i.bytes z.cells),[x,y]) else none
     | _,_,_,_=>none
    | _,_=>none
   | _,_=>none
  | .builtin .clear =>
   match c.argTypes.toList,c.args.toList with
   | [t],[x] =>
    match cx.P.underlying t with
    | some (.slice e) =>
     match Ug cx e,Qe cx e with
     | some n,some z=>some (.ef (.clr n z.cells),[x])
     | _,_=>none
    | _=>none
   | _,_=>none
  | .builtin .copy =>
   match c.argTypes.toList,c.args.toList with
   | t::_,[x,y] =>
    match cx.P.underlying t with
    | some (.slice e)=>(Ug cx e).map fun n=>(.ef (.copy n),[x,y])
    | _=>none
   | _,_=>none
  | _=>none
 | _=>none
abbrev SM:=List (Nat × Xo)
def Xo.isN (i:Nat):Xo->Bool
 | .n j=>j == i
 | _=>false
def rsv (m:SM):Operand->Option Xo
 | .tmp s =>
  match m.lookup s with
  | some a=>some a
  | none=>(cx.nm.idxOf? s).map .n
 | .const v=>some (.c v)
 | .global g=>(cx.gn g).map .g
 | .func f=>(cx.fn f).map .f
def Zom (d:Qx):Kd->List Xo->Option Instr
 | .io o,xs=>some (.op o xs d)
 | .ef f,xs=>some (.ef f xs d)
 | .call f,xs=>some (.call f xs d)
 | .callv,x::xs=>some (.callv x xs d)
 | .callv,[]=>none
def Za4 (ops:Array Oper) (m:SM):Option (Nat × Bool)->Option (Option (Xo × Bool))
 | none=>some none
 | some (j,want)=>((ops[j]?).bind (·.dst)).bind fun s=>(rsv cx m (.tmp s)).map fun a=>some (a,want)
def Zm1 (m:SM) (d:Nat):Option Tmp->Option (Qx × SM × Nat)
 | none=>some (.drop,m,d)
 | some s =>
  if s<cx.nt then
   match cx.nm.idxOf? s with
   | some i=>some (.set i,m.filter (fun p=>!p.2.isN i && p.1 != s),d)
   | none=>some (.push,(s,.t d)::m.filter (fun p=>p.1 != s),d+1)
  else none
def Z50:Kd->List Xo->Option Xo
 | .io .mv,[x]=>some x
 | _,_=>none
def Zgd (o:Oper) (k:Kd) (xs:List Xo):Option (Nat × Xo) :=
 match o.guard,Z50 k xs,o.dst with
 | none,some x,some s=>if s<cx.nt/\cx.nm.idxOf? s=none then some (s,x) else none
 | _,_,_=>none
def Xax (s:Nat) (o:Oper):Bool :=
 match Zdg cx o.op with
 | some (_,xs)=>xs.any fun x=>match x with | .tmp t=>t == s | _=>false
 | none=>false
def Zqt (s:Nat):List Oper->List Oper
 | []=>[]
 | o::r=>if o.dst == some s then r else Zqt s r
def Zvs (s src:Nat):List Oper->Bool
 | []=>false
 | o::r=>if o.dst == some src then r.any (Xax cx s) else Zvs s src r
def Zvb (ops:Array Oper) (o:Oper) (k:Kd) (xs:List Xo):Option (Nat × Xo) :=
 match Zgd cx o k xs with
 | some (s,.n j)=>if Zvs cx s (cx.nm.getD j 0) (Zqt s ops.toList) then none else some (s,.n j)
 | y=>y
theorem Zx0 {cx:Cx} {r:Array Oper} {o:Oper} {k:Kd} {xs:List Xo} {p:Nat × Xo} (h:Zvb cx r o k xs=some p):Zgd cx o k xs=some p:=by
 unfold Zvb at h
 split at h
 ·split at h
  ·cases h
  ·rename_i e _; rw [e,h]
 ·exact h
def Zt5 (ops:Array Oper) (m:SM) (d:Nat) (o:Oper):Option (List FI × SM × Nat) :=
 match Za4 cx ops m o.guard,Zdg cx o.op with
 | some g,some (k,xs) =>
  match xs.mapM (rsv cx m) with
  | some as =>
   match Zvb cx ops o k as with
   | some (s,x)=>some ([],(s,x)::m.filter (fun p=>p.1 != s),d)
   | none =>
    match Zm1 cx m d o.dst with
    | some (ds,m',d')=>(Zom ds k as).map fun i=>([⟨g,i⟩],m',d')
    | none=>none
  | none=>none
 | _,_=>none
def Zwz (ops:Array Oper):List Nat->SM->Nat->Option (List FI)
 | [],_,_=>some []
 | i::r,m,d =>
  match ops[i]? with
  | none=>none
  | some o =>
   match Zt5 cx ops m d o with
   | none=>none
   | some (fl,m',d')=>(Zwz ops r m' d').map (fl ++ ·)
def Xo.same:Xo->Xo->Bool
 | .t i,.t j=>i == j
 | .n i,.n j=>i == j
 | _,_=>false
def Qx.keeps (d:Qx):Xo->Bool
 | .n i=>match d with | .set j=>i != j | _=>true
 | _=>true
def Zpj (x:FI) (k:IL):IL :=
 match x.g with
 | none=>.op x.i k
 | some (g,w) =>
  match k with
  | .gd g' w' body ds k'=>if g.same g' && w == w' && x.i.dst.keeps g then .gd g w (.op x.i body) (x.i.dst::ds) k' else .gd g w (.op x.i .nil) [x.i.dst] k
  | _=>.gd g w (.op x.i .nil) [x.i.dst] k
def grp:List FI->IL
 | []=>.nil
 | x::r=>Zpj x (grp r)
def Z3j:FT->IL
 | .nil=>.nil
 | .cons x k=>Zpj x (Z3j k)
 | .alt a b=>.alt (Z3j a) (Z3j b)
end
section
variable (cx:Cx)
def Ui (o:Oper):List Nat:=o.after.toList.filterMap fun e=>if Region.binds .any e then some e.on else none
def Z4q:Stmt:=.reg (.op (.op .nilck [] .drop) .nil)
def Zcu (Qw:Array Oper->Option FT):Code->Option Stmt
 | .skip=>some .skip
 | .seq a b=>(Zcu Qw a).bind fun x=>(Zcu Qw b).map fun y=>.seq x y
 | .region _ ops draw =>
  match (if draw then (Qw ops).map fun l=>Stmt.reg (Z3j l) else (Zwz cx ops (List.range ops.size) [] 0).map fun l=>Stmt.reg (grp l)) with
  | some s=>some s
  | none=>some Z4q
 | .cond c a b =>
  match rsv cx [] c with
  | some x=>(Zcu Qw a).bind fun y=>(Zcu Qw b).map fun z=>.cond x y z
  | none=>some Z4q
 | .block id s=>(Zcu Qw s).map (.block id)
 | .loop s=>(Zcu Qw s).map .loop
 | .exit id=>some (.exit id)
 | .ret=>some .ret
 | _=>some Z4q
def Zez (r:ResultVar):Option Res :=
 match r with
 | .tmp t=>(cx.nm.idxOf? t).map .n
 | .cell a t =>
  match cx.P.underlying t,cx.nm.idxOf? a with
  | some d,some i=>if Xl d then (Ug cx t).map fun n=>.box i n true else some (.box i 1 false)
  | _,_=>none
def Zrz {α β:Type} (f:α->Option β):List α->Option (List β)
 | []=>some []
 | x::r=>(f x).bind fun y=>(Zrz f r).map (y :: ·)
def Zhw:List Nat->Bool
 | []=>true
 | x::r=>!r.contains x && Zhw r
def Zps (Qw:Array Oper->Option FT) (fn:Func):Option Xa :=
 if cx.nt=fn.ntmps/\cx.nm.all (· < cx.nt)/\Zhw cx.nm/\(cx.nm.take (fn.params.size+fn.nfree)=List.range (fn.params.size+fn.nfree))/\fn.params.size+fn.nfree<=cx.nm.length then
  match fn.body with
  | none=>none
  | some c=>(Zcu cx Qw c).bind fun s=>(Zrz (Zez cx) fn.results.toList).map fun rs=>⟨fn.params.size+fn.nfree,cx.nm.length,s,rs⟩
 else none
end
end Go.Rm
namespace Go.Rm
variable {Y:Sys}
theorem Ef.wp_mono {h:Za} {K K':Value->Za->Prop} {f:Ef} {xs:List Value} (r:f.wp h K xs) (D:∀ v h',K v h'->K' v h'):f.wp h K' xs:=by
 unfold Ef.wp at *
 split at r
 ·refine ⟨r.1,?_⟩
  have:=r.2
  split at this
  ·exact D _ _ this
  ·exact this.elim
 ·exact fun t=>D _ _ (r t)
 ·split at r
  ·exact fun t=>D _ _ (r t)
  ·exact r.elim
 ·exact ⟨r.1,r.2.1,r.2.2.1,r.2.2.2.1,fun t=>D _ _ (r.2.2.2.2 t)⟩
 ·split at r
  ·exact r.elim
  ·split at r
   ·exact r.elim
   ·split at r
    ·rename_i H
     rw [if_pos H]
     split at r
     ·split at r
      ·exact D _ _ r
      ·exact r.elim
     ·exact D _ _ r
     ·exact r.elim
    ·rename_i H
     rw [if_neg H]
     refine ⟨r.1,r.2.1,?_⟩
     have:=r.2.2
     split at this
     ·exact fun t G h1 I=>D _ _ (this t G h1 I)
     ·exact this.elim
 ·refine ⟨r.1,r.2.1,r.2.2.1,r.2.2.2.1,?_⟩
  have:=r.2.2.2.2
  split at this
  ·exact fun t G h1 I=>D _ _ (this t G h1 I)
  ·exact this.elim
 ·split at r
  ·exact r.elim
  ·split at r
   ·exact r.elim
   ·split at r
    ·split at r
     ·exact D _ _ r
     ·exact r.elim
    ·exact D _ _ r
    ·exact r.elim
 ·split at r
  ·exact D _ _ r
  ·split at r
   ·rename_i h0
    rw [if_pos h0]
    exact D _ _ r
   ·rename_i h0
    rw [if_neg h0]
    split at r
    ·exact D _ _ r
    ·exact r.elim
  ·exact r.elim
 ·exact fun t G h1=>D _ _ (r t G h1)
 ·split at r
  ·exact D _ _ r
  ·exact r.elim
 ·exact D _ _ r
 ·exact D _ _ r
 ·split at r
  ·refine ⟨r.1,?_⟩
   have:=r.2
   split at this
   ·exact D _ _ this
   ·exact D _ _ this
   ·exact this.elim
  ·exact r.elim
 ·exact r.elim
theorem Zzc {o:Option Value} {k k':Value->Prop} (r:Zjy o k) (D:∀ v,k v->k' v):Zjy o k':=by
 cases o with
 | none=>exact r
 | some v=>exact D v r
theorem Instr.wp_mono {i:Instr} {K K':Z3} {e T:List Value} {h:Za} (r:i.wp Y K e T h)
  (D:∀ v h',K (i.dst.e v e) (i.dst.T v T) h'->K' (i.dst.e v e) (i.dst.T v T) h'):i.wp Y K' e T h:=by
 cases i with
 | op o xs d=>exact Zzc r fun v hv=>D v h hv
 | ef f xs d=>exact Ef.wp_mono (f:=f) (xs:=xs.map (Xo.ev Y e T)) (K:=fun v h'=>K (d.e v e) (d.T v T) h') r fun v h' hv=>D v h' hv
 | call f xs d=>exact Y.mono r fun v h' hv=>D v h' hv
 | callv x xs d =>
  simp only [Instr.wp] at r ⊢
  split at r
  ·exact ⟨r.1,Y.mono r.2 fun v h' hv=>D v h' hv⟩
  ·exact r.elim
 | stab o xs v=>exact ⟨r.1,D undef h r.2⟩
theorem FI.wp_mono {x:FI} {K K':Z3} {e T:List Value} {h:Za} (r:x.wp Y K e T h)
  (D:∀ e T h,K e T h->K' e T h):x.wp Y K' e T h:=by
 unfold FI.wp at *
 split
 ·rename_i G
  simp only [G] at r
  exact Instr.wp_mono r fun v h' hv=>D _ _ _ hv
 ·rename_i g w G
  simp only [G] at r
  split
  ·rename_i hb; rw [if_pos hb] at r; exact Instr.wp_mono r fun v h' hv=>D _ _ _ hv
  ·rename_i hb; rw [if_neg hb] at r; exact D _ _ _ r
theorem IL.wp_mono {l:IL}:∀ {K K':Z3} {e T:List Value} {h:Za},l.wp Y K e T h->(∀ e T h,K e T h->K' e T h)->l.wp Y K' e T h:=by
 induction l with
 | nil=>intro K K' e T h r D; exact D _ _ _ r
 | op i k H=>intro K K' e T h r D; exact Instr.wp_mono r fun v h' hv=>H hv D
 | gd g w J ds k G H =>
  intro K K' e T h r D
  simp only [IL.wp] at r ⊢
  split at r
  ·rename_i hb; rw [if_pos hb]; exact G r fun e T h hv=>H hv D
  ·rename_i hb; rw [if_neg hb]; exact H r D
 | alt a b I G=>intro K K' e T h r D; exact ⟨I r.1 D,G r.2 D⟩
theorem FL.wp_append {l r:List FI}:∀ {K:Z3} {e T:List Value} {h:Za},FL.wp Y K (l++r) e T h=FL.wp Y (FL.wp Y K r) l e T h:=by
 induction l with
 | nil=>intros; rfl
 | cons x l D =>
  intro K e T h
  simp only [Xga,FL.wp]
  rw [show FL.wp Y K (l++r)=FL.wp Y (FL.wp Y K r) l from funext fun e=>funext fun T=>funext fun h=>D]
theorem Z2n {g:Xo} {w:Bool} {e T:List Value} {v:Value} {d:Qx} (r:d.keeps g=true) (hb:gdB (g.ev Y e T) w=true) :
  gdB (g.ev Y (d.e v e) (d.T v T)) w=true:=by
 cases g with
 | n i =>
  simp only [Xo.ev] at hb ⊢
  cases d with
  | set j =>
   simp only [Qx.keeps,bne_iff_ne,ne_eq] at r
   simp only [Qx.e]
   rw [Xee,Xgo (fun h=>r h.symm),<-Xee]
   exact hb
  | drop=>exact hb
  | push=>exact hb
 | t i =>
  simp only [Xo.ev] at hb ⊢
  cases d with
  | push =>
   simp only [Qx.T]
   have D:i<T.length:=by
    rcases Xd8 i T.length with h | h
    ·exact h
    ·rw [Xee,Xeu h] at hb
     simp [gdB,undef] at hb
   rw [Xee,Xep D,<-Xee]
   exact hb
  | drop=>exact hb
  | set j=>exact hb
 | c v=>exact hb
 | f j=>exact hb
 | g j=>exact hb
theorem Zy1 {g:Xo} {w:Bool} {e T:List Value} {d:Qx} (r:d.keeps g=true) (hb:gdB (g.ev Y e T) w=false) :
  gdB (g.ev Y (d.e undef e) (d.T undef T)) w=false:=by
 cases g with
 | n i =>
  simp only [Xo.ev] at hb ⊢
  cases d with
  | set j =>
   simp only [Qx.keeps,bne_iff_ne,ne_eq] at r
   simp only [Qx.e]
   rw [Xee,Xgo (fun h=>r h.symm),<-Xee]
   exact hb
  | drop=>exact hb
  | push=>exact hb
 | t i =>
  simp only [Xo.ev] at hb ⊢
  cases d with
  | push =>
   simp only [Qx.T]
   rcases Xgb i T.length with h | h | h
   ·rw [Xee,Xep h,<-Xee]; exact hb
   ·subst h; simp [gdB,undef]
   ·rw [Xee,Xeu (by simp; omega)]; simp [gdB,undef]
  | drop=>exact hb
  | set j=>exact hb
 | c v=>exact hb
 | f j=>exact hb
 | g j=>exact hb
theorem Xo.same_eq {a b:Xo} (h:a.same b=true):a=b:=by
 cases a <;> cases b <;> simp_all [Xo.same]
theorem Zgy {x:FI} {k:IL} {K:Z3} {e T:List Value} {h:Za} (D:(Zpj x k).wp Y K e T h):x.wp Y (k.wp Y K) e T h:=by
 obtain ⟨g,i⟩:=x
 cases g with
 | none=>exact D
 | some J =>
  obtain ⟨g,w⟩:=J
  have r:∀ k:IL,(IL.gd g w (.op i .nil) [i.dst] k).wp Y K e T h->FI.wp Y ⟨some (g,w),i⟩ (k.wp Y K) e T h:=by
   intro k D
   simp only [IL.wp,Zlh,Zlg] at D
   simp only [FI.wp]
   exact D
  cases k with
  | nil=>exact r _ D
  | op j k=>exact r _ D
  | alt a b=>exact r _ D
  | gd g' w' I ds k' =>
   simp only [Zpj] at D
   split at D
   ·rename_i hc
    simp only [Xec,beq_iff_eq] at hc
    obtain ⟨⟨M,H⟩,G⟩:=hc
    have:=Xo.same_eq M
    subst this; subst H
    simp only [IL.wp,Zlh,Zlg] at D
    simp only [FI.wp]
    split at D
    ·rename_i hb
     rw [if_pos hb]
     refine Instr.wp_mono D fun v h' hv=>?_
     simp only [IL.wp]
     rw [if_pos (Z2n G hb)]
     exact hv
    ·rename_i hb
     rw [if_neg hb]
     simp only [IL.wp]
     rw [if_neg (by rw [Zy1 G (by simpa using hb)]; simp)]
     exact D
   ·exact r _ D
theorem Zxs {l:List FI}:∀ {K:Z3} {e T:List Value} {h:Za},(grp l).wp Y K e T h->FL.wp Y K l e T h:=by
 induction l with
 | nil=>intro K e T h D; exact D
 | cons x r G =>
  intro K e T h D
  exact FI.wp_mono (Zgy D) fun e T h hv=>G hv
theorem Ztc {t:FT}:∀ {K:Z3} {e T:List Value} {h:Za},(Z3j t).wp Y K e T h->FT.wp Y K t e T h:=by
 induction t with
 | nil=>intro K e T h D; exact D
 | cons x r I =>
  intro K e T h D
  exact FI.wp_mono (Zgy D) fun e T h hv=>I hv
 | alt a b G H=>intro K e T h D; exact ⟨G D.1,H D.2⟩
theorem Stmt.wp_mono {s:Stmt}:∀ {O r:List Value->Za->Prop} {R D:Nat->List Value->Za->Prop} {U G:List Value->Za->Prop} {e:List Value} {h:Za},
  s.wp Y O R U e h->(∀ e h,O e h->r e h)->(∀ i e h,R i e h->D i e h)->(∀ e h,U e h->G e h)->s.wp Y r D G e h:=by
 induction s with
 | skip=>intro O r R D U G e h H h1 J M; exact h1 _ _ H
 | seq a b V X=>intro O r R D U G e h H h1 J M; exact V H (fun e h hv=>X hv h1 J M) J M
 | reg l=>intro O r R D U G e h H h1 J M; exact IL.wp_mono H fun e T h hv=>h1 _ _ hv
 | cond x a b V X =>
  intro O r R D U G e h H h1 J M
  simp only [Stmt.wp] at H ⊢
  split at H
  ·split at H
   ·rename_i hc; rw [if_pos hc]; exact V H h1 J M
   ·rename_i hc; rw [if_neg hc]; exact X H h1 J M
  ·exact H.elim
 | block id s ih =>
  intro O r R D U G e h H h1 J M
  refine ih H h1 (fun i e h hv=>?_) M
  split at hv
  ·rename_i Z; simp only [Z,if_true]; exact h1 _ _ hv
  ·rename_i Z; simp only [Z,if_false]; exact J _ _ _ hv
 | loop s ih =>
  intro O r R D U G e h H h1 J M
  obtain ⟨I,μ,hI,hs⟩:=H
  exact ⟨I,μ,hI,fun e h Z=>ih (hs e h Z) (fun _ _ hv=>hv) J M⟩
 | exit id=>intro O r R D U G e h H h1 J M; exact J _ _ _ H
 | ret=>intro O r R D U G e h H h1 J M; exact M _ _ H
end Go.Rm
namespace Go.Rm
def Same (w w':World):Prop:=w'.tape=w.tape/\w'.os=w.os/\w'.output=w.output
theorem Same.refl (w:World):Same w w:=⟨rfl,rfl,rfl⟩
theorem Same.trans {a b c:World} (h:Same a b) (h':Same b c):Same a c:=⟨h'.1.trans h.1,h'.2.1.trans h.2.1,h'.2.2.trans h.2.2⟩
def Rr (R:Value->Za->Prop) (w:World) (e:Ending) (w':World):Prop:=∃ v,e = .returned v/\R v w'.heap/\Same w w'
def Znr (P:Program) (f:FuncId) (xs:List Value) (h:Za) (R:Value->Za->Prop):Prop :=
 ∀ w:World,w.heap=h->Calls P f xs.toArray w (Rr R w)
structure Ok (cx:Cx) (Y:Sys):Prop where
 hC:Y.C=Znr cx.P
 hf : ∀ f j, cx.fn f = some j → Y.fid j = f ∧ ∃ fn, cx.P.funcs[f]? = some fn ∧ (fn.name == "runtime.NumGoroutine") = false ∧ fn.body.isNone = false
 ht:∀ t j,cx.tn t=some j->Y.tid j=t
 hg:∀ g j,cx.gn g=some j->Y.gid j=g
 mixed:cx.P.follows .mixedOrders=true
 able : ∀ f, Y.able f → ∃ fn, cx.P.funcs[f]? = some fn ∧ (fn.name == "runtime.NumGoroutine") = false ∧ fn.body.isNone = false
theorem Zi1 (w:World) (b o:Nat):w.cell? ⟨b,o,none⟩=hc w.heap b o:=by
 simp only [World.cell?,hc]
 split <;> simp_all
theorem Zsz (w:World) (b o:Nat):w.frozen? ⟨b,o,none⟩=hfz w.heap b o:=rfl
theorem Zoc (w:World) (b o:Nat) (v:Value):(w.setCell ⟨b,o,none⟩ v).heap=Wm w.heap b o v:=by
 simp only [World.setCell,Wm]
 congr 1
theorem Zs5 {h:Za} {b:Nat}:∀ {n o:Nat} {l:List Value},rd h b o n=some l->l.length=n/\∀ j v,l[j]? = some v->hc h b (o+j)=some v:=by
 intro n
 induction n with
 | zero=>intro o l r; simp [rd] at r; subst r; simp
 | succ n H =>
  intro o l r
  simp only [rd] at r
  obtain ⟨v,hv,r⟩:=Option.bind_eq_some_iff.1 r
  obtain ⟨l',G,r⟩:=Option.bind_eq_some_iff.1 r
  simp only [Xez] at r
  subst r
  obtain ⟨h1,I⟩:=H G
  refine ⟨by simp [h1],?_⟩
  intro j u D
  cases j with
  | zero=>simp at D; subst D; exact hv
  | succ j=>simp at D; have:=I j u D; rwa [show o+(j+1)=o+1+j by omega]
theorem Z49 {w:World} {b o n:Nat} {l:List Value} (r:rd w.heap b o n=some l) :
  ∀ j v,l[j]? = some v->w.cell? (Addr.add ⟨b,o,none⟩ j)=some v:=by
 intro j v D
 rw [Addr.add_lit,Zi1]
 exact (Zs5 r).2 j v D
theorem U7 {P:Program} {w:World} {b o n:Nat} {l:List Value} (r:rd w.heap b o n=some l) :
  (loadCells ⟨b,o,none⟩ n).run P w = .ok l.toArray w:=by
 have:=run_loadCells_list (P:=P) w ⟨b,o,none⟩ l (Z49 r)
 rwa [(Zs5 r).1] at this
theorem Zr9 {P:Program} {w:World} {b o:Nat} {v:Value} (r:hc w.heap b o=some v) (m:Mode) :
  (load ⟨b,o,none⟩ m).run P w = .ok v w:=by
 rw [run_load,Zi1,r]
section ops
variable {cx:Cx} {Y:Sys} {w:World}
theorem Xt {t:TypeId} {n:Nat} (h:Ug cx t=some n) (w:World):(sizeOf t).run cx.P w = .ok n w:=by
 simp only [Ug,Xd7] at h
 obtain ⟨i,r,rfl⟩:=h
 simp [sizeOf,typeInfo,r]
theorem Wv {t:TypeId} {z:Value} (h:Qe cx t=some z) (w:World):(zeroValue t).run cx.P w = .ok z w:=by
 simp only [Qe,Xeg] at h
 obtain ⟨i,r,hz⟩:=h
 simp [zeroValue,typeInfo,r,hz]
theorem Zlx {t:TypeId} {d:TypeDesc} (h:cx.P.underlying t=some d) (w:World):(isAgg t).run cx.P w = .ok (Xl d) w:=by
 simp only [isAgg,Sem.run_bind,run_underlying h,Result.andThen_ok]
 cases d <;> rfl
theorem Zib {t:TypeId} {d:TypeDesc} (hd:cx.P.underlying t=some d) {n:Nat} (D:Xl d=true->Ug cx t=some n) {b o:Nat} {v:Value}
  (hs:Yg.sem Y w.heap (.load n (Xl d)) [.pointer (some ⟨b,o,none⟩)]=some v):(loadVar t ⟨b,o,none⟩).run cx.P w = .ok v w:=by
 simp only [loadVar,Sem.run_bind,Zlx hd,Result.andThen_ok,Sem.run_ite]
 cases r:Xl d with
 | true =>
  rw [r] at hs
  simp only [Yg.sem,Xeg] at hs
  obtain ⟨l,G,hv⟩:=hs
  simp only [Xez] at hv
  simp [Xt (D r),U7 G,hv]
 | false =>
  rw [r] at hs
  simp only [Yg.sem] at hs
  simp [Zr9 hs]
theorem Zaj {t:TypeId} {d:TypeDesc} (hd:cx.P.underlying t=some d) {n:Nat} (G:Xl d=true->Ug cx t=some n) {cs:Array Value} {r:Nat} {v:Value}
  (hs:U5 n (Xl d) cs r=some v):(part t cs r).run cx.P w = .ok v w:=by
 simp only [part,Sem.run_bind,Zlx hd,Result.andThen_ok,Sem.run_ite]
 cases D:Xl d with
 | true =>
  rw [D] at hs
  simp only [U5,if_true,Xez] at hs
  simp [Xt (G D),hs]
 | false =>
  rw [D] at hs
  simp only [U5,Xeh,if_false] at hs
  simp [hs]
theorem Zrn:∀ {l:List Value} {s:List UInt8} (a:ByteArray),Zbg l=some s ->
  ∃ D:List Int,l=D.map (Value.int .u8)/\D.foldl (fun r n=>r.push (UInt8.ofNat n.toNat)) a=⟨a.data++s.toArray⟩:=by
 intro l
 induction l with
 | nil=>intro s a h; simp [Zbg] at h; subst h; exact ⟨[],rfl,by simp⟩
 | cons x l H =>
  intro s a h
  unfold Zbg at h
  split at h
  ·rename_i h'; cases h'
  ·rename_i n r h'
   cases h'
   obtain ⟨J,hs',G⟩:=Option.bind_eq_some_iff.1 h
   simp only [Xez] at G
   subst G
   obtain ⟨D,h1,I⟩:=H (a.push (UInt8.ofNat n.toNat)) hs'
   refine ⟨n::D,by simp [h1],?_⟩
   simp only [Xgc,I]
   congr 1
   apply Xed
   simp
  ·cases h
theorem Zz3 {op:BinOp} {k r:IntKind} {a b:Int} {v:Value} (t:TypeId) (hs:Qp op k a r b=some v) :
  (binOp op t (.int k a) (.int r b)).run cx.P w = .ok v w:=by
 unfold Qp at hs
 split at hs
 ·split at hs
  ·cases hs
  ·rename_i hb; cases hs; simp [binOp,Op.shift,hb]
 ·split at hs
  ·cases hs
  ·rename_i hb; cases hs; simp [binOp,Op.shift,hb]
 ·rename_i h1 G
  split at hs
  ·cases hs
  ·rename_i D
   have D:k=r:=Classical.not_not.1 D
   subst D
   cases op <;> simp_all [binOp,Op.intArith,Op.intDiv,Op.intBits,Op.intCmp] <;> (try (subst hs; rfl))
theorem Z1o {op:BinOp} {a b:ByteArray} {v:Value} (t:TypeId) (hs:Zvh op a b=some v) :
  (binOp op t (.string a) (.string b)).run cx.P w = .ok v w:=by
 unfold Zvh at hs
 split at hs
 ·split at hs
  ·rename_i h
   cases hs
   have h':¬ ((9223372036854775807:Int)<(a.size:Int)+(b.size:Int)):=by omega
   simp [binOp,Op.stringOp,IntKind.max,IntKind.bits,IntKind.signed,h']
  ·cases hs
 all_goals first | (cases hs; simp [binOp,Op.stringOp]; done) | (cases hs)
end ops
end Go.Rm
namespace Go.Rm
variable {Y:Sys} {h:Za}
theorem Zzw {op:UnOp} {p v:Value} (hs:Yg.sem Y h (.un op) [p]=some v):(op = .neg/\∃ k n,p = .int k n/\v = .int k (k.wrap (0-n)))\/(op = .not/\∃ b,p = .bool b/\v = .bool !b):=by
 cases op <;> cases p <;> cases hs
 ·exact .inl ⟨rfl,_,_,rfl,rfl⟩
 ·exact .inr ⟨rfl,_,rfl,rfl⟩
theorem Zta {k:IntKind} {p v:Value} (hs:Yg.sem Y h (.conv k) [p]=some v):∃ j n,p = .int j n/\v = .int k (k.wrap n):=by
 cases p <;> cases hs
 exact ⟨_,_,rfl,rfl⟩
theorem Z16 {b o n c:Nat} {v:Value} (hs:Yg.sem Y h .b2s [.slice (some ⟨b,o,none⟩) n c]=some v):∃ l s,rd h b o n=some l/\Zbg l=some s/\v = .string ⟨s.toArray⟩:=by
 obtain ⟨l,r,hs⟩:=Option.bind_eq_some_iff.1 hs
 obtain ⟨s,hb,hs⟩:=Option.bind_eq_some_iff.1 hs
 exact ⟨l,s,r,hb,(Xfc hs).symm⟩
theorem Zzg {p v:Value} (hs:Yg.sem Y h .b2s [p]=some v):(∃ n c,p = .slice none n c/\v = .string .empty) \/
  (∃ b o n c l s,p = .slice (some ⟨b,o,none⟩) n c/\rd h b o n=some l/\Zbg l=some s/\v = .string ⟨s.toArray⟩):=by
 cases p with
 | slice a n c =>
  cases a with
  | none=>cases hs; exact .inl ⟨_,_,rfl,rfl⟩
  | some a =>
   obtain ⟨b,o,s⟩:=a
   cases s with
   | none=>obtain ⟨l,s,h1,r,D⟩:=Z16 hs; exact .inr ⟨b,o,n,c,l,s,rfl,h1,r,D⟩
   | some s=>cases hs
 | _=>cases hs
theorem Zuq {r:Nat} {p v:Value} (hs:Yg.sem Y h (.fadr r) [p]=some v):∃ b o,p = .pointer (some ⟨b,o,none⟩)/\v = .pointer (some ⟨b,o+r,none⟩):=by
 cases p with
 | pointer a =>
  cases a with
  | none=>cases hs
  | some a =>
   obtain ⟨b,o,s⟩:=a
   cases s <;> cases hs
   exact ⟨b,o,rfl,rfl⟩
 | _=>cases hs
theorem Zzb {r sz:Nat} {agg:Bool} {p v:Value} (hs:Yg.sem Y h (.fld r sz agg) [p]=some v):∃ cs,p = .agg cs/\U5 sz agg cs r=some v:=by
 cases p with
 | agg cs=>exact ⟨cs,rfl,hs⟩
 | _=>cases hs
theorem Zwl {c:Prop} [Decidable c] {x v:Value} (hs:(if c then some x else none)=some v):c/\v=x:=by
 split at hs
 ·rename_i hc; exact ⟨hc,(Xfc hs).symm⟩
 ·cases hs
theorem Zu6 {sz:Nat} {p q v:Value} (hs:Yg.sem Y h (.idxa sz) [p,q]=some v) :
  ∃ b o n c k i,p = .slice (some ⟨b,o,none⟩) n c/\q = .int k i/\(0<=i/\i<n)/\v = .pointer (some ⟨b,o+i.toNat * sz,none⟩):=by
 cases p with
 | slice a n c =>
  cases a with
  | none=>cases q <;> cases hs
  | some a =>
   obtain ⟨b,o,s⟩:=a
   cases s with
   | some s=>cases q <;> cases hs
   | none =>
    cases q with
    | int k i=>obtain ⟨h1,r⟩:=Zwl hs; exact ⟨b,o,n,c,k,i,rfl,rfl,h1,r⟩
    | _=>cases hs
 | _=>cases hs
theorem Ztd {len sz:Nat} {p q v:Value} (hs:Yg.sem Y h (.idxA len sz) [p,q]=some v) :
  ∃ b o k i,p = .pointer (some ⟨b,o,none⟩)/\q = .int k i/\(0<=i/\i<len)/\v = .pointer (some ⟨b,o+i.toNat * sz,none⟩):=by
 cases p with
 | pointer a =>
  cases a with
  | none=>cases q <;> cases hs
  | some a =>
   obtain ⟨b,o,s⟩:=a
   cases s with
   | some s=>cases q <;> cases hs
   | none =>
    cases q with
    | int k i=>obtain ⟨h1,r⟩:=Zwl hs; exact ⟨b,o,k,i,rfl,rfl,h1,r⟩
    | _=>cases hs
 | _=>cases hs
theorem Zuw {p q v:Value} (hs:Yg.sem Y h .idxS [p,q]=some v):∃ s k i b,p = .string s/\q = .int k i/\0<=i/\s[i.toNat]? = some b/\v = .int .u8 b.toNat:=by
 cases p with
 | string s =>
  cases q with
  | int k i =>
   have hs:(if 0<=i then (s[i.toNat]?).bind fun b=>some (Value.int .u8 b.toNat) else none)=some v:=hs
   split at hs
   ·rename_i h0
    obtain ⟨b,hb,hs⟩:=Option.bind_eq_some_iff.1 hs
    exact ⟨s,k,i,b,rfl,rfl,h0,hb,(Xfc hs).symm⟩
   ·cases hs
  | _=>cases hs
 | _=>cases hs
theorem Ztm {len sz:Nat} {agg:Bool} {p q v:Value} (hs:Yg.sem Y h (.idxV len sz agg) [p,q]=some v) :
  ∃ cs k i,p = .agg cs/\q = .int k i/\(0<=i/\i<len)/\U5 sz agg cs (i.toNat * sz)=some v:=by
 cases p with
 | agg cs =>
  cases q with
  | int k i =>
   have hs:(if 0<=i/\i<len then U5 sz agg cs (i.toNat * sz) else none)=some v:=hs
   split at hs
   ·rename_i h0; exact ⟨cs,k,i,rfl,rfl,h0,hs⟩
   ·cases hs
  | _=>cases hs
 | _=>cases hs
theorem Zz5 {t:Nat} {r:Bool} {z p v:Value} (hs:Yg.sem Y h (.ta t r z) [p]=some v) :
  (∃ D u,p = .iface D u/\(if D=Y.tid t then some (if r then .tuple #[u,.bool true] else u) else if r then some (.tuple #[z,.bool false]) else none)=some v) \/
  (p = .nilIface/\r=true/\v = .tuple #[z,.bool false]):=by
 cases p with
 | iface D u=>exact .inl ⟨D,u,rfl,hs⟩
 | nilIface=>cases r <;> cases hs; exact .inr ⟨rfl,rfl,rfl⟩
 | _=>cases r <;> cases hs
theorem Zxj {sz:Nat} {lo D:Bool} {p v:Value} {r:List Value} (hs:Yg.sem Y h (.slc sz lo D) (p::r)=some v) :
  ∃ a n c x,p = .slice a n c/\Z1 n c lo D r=some x/\((a=none/\v = .slice none (x.2-x.1) (c-x.1)) \/
   (∃ b o,a=some ⟨b,o,none⟩/\v = .slice (some ⟨b,if c=x.1 then o else o+x.1 * sz,none⟩) (x.2-x.1) (c-x.1)) \/
   (∃ b o s,a=some ⟨b,o,some s⟩/\c=x.1/\v = .slice (some ⟨b,o,some s⟩) (x.2-x.1) (c-x.1))):=by
 cases p with
 | slice a n c =>
  obtain ⟨x,hx,hs⟩:=Option.bind_eq_some_iff.1 hs
  refine ⟨a,n,c,x,rfl,hx,?_⟩
  cases a with
  | none=>exact .inl ⟨rfl,(Xfc hs).symm⟩
  | some a =>
   obtain ⟨b,o,s⟩:=a
   cases s with
   | none=>exact .inr (.inl ⟨b,o,rfl,(Xfc hs).symm⟩)
   | some s =>
    simp only at hs
    split at hs
    ·rename_i hc
     exact .inr (.inr ⟨b,o,s,rfl,hc,(Xfc hs).symm⟩)
    ·cases hs
 | _=>cases hs
theorem Zuf {lo D:Bool} {p v:Value} {r:List Value} (hs:Yg.sem Y h (.slcS lo D) (p::r)=some v) :
  ∃ s x,p = .string s/\Z1 s.size s.size lo D r=some x/\v = .string (s.extract x.1 x.2):=by
 cases p with
 | string s =>
  obtain ⟨x,hx,hs⟩:=Option.bind_eq_some_iff.1 hs
  exact ⟨s,x,rfl,hx,(Xfc hs).symm⟩
 | _=>cases hs
theorem Zti {n sz:Nat} {lo D:Bool} {p v:Value} {r:List Value} (hs:Yg.sem Y h (.slcA n sz lo D) (p::r)=some v) :
  ∃ b o x,p = .pointer (some ⟨b,o,none⟩)/\Z1 n n lo D r=some x/\v = .slice (some ⟨b,if n=x.1 then o else o+x.1 * sz,none⟩) (x.2-x.1) (n-x.1):=by
 cases p with
 | pointer a =>
  cases a with
  | none=>cases hs
  | some a =>
   obtain ⟨b,o,s⟩:=a
   cases s with
   | none =>
    obtain ⟨x,hx,hs⟩:=Option.bind_eq_some_iff.1 hs
    exact ⟨b,o,x,rfl,hx,(Xfc hs).symm⟩
   | some s=>cases hs
 | _=>cases hs
theorem Zxb {i:Nat} {p v:Value} (hs:Yg.sem Y h (.ext i) [p]=some v):∃ vs,p = .tuple vs/\vs[i]? = some v:=by
 cases p with
 | tuple vs=>exact ⟨vs,rfl,hs⟩
 | _=>cases hs
theorem Zyw {p v:Value} (hs:Yg.sem Y h .len [p]=some v):∃ a n c,p = .slice a n c/\v = .int .i64 n:=by
 cases p <;> cases hs
 exact ⟨_,_,_,rfl,rfl⟩
theorem Zur {p v:Value} (hs:Yg.sem Y h .lenS [p]=some v):∃ s,p = .string s/\v = .int .i64 s.size:=by
 cases p <;> cases hs
 exact ⟨_,rfl,rfl⟩
theorem Zys {p v:Value} (hs:Yg.sem Y h .cap [p]=some v):∃ a n c,p = .slice a n c/\v = .int .i64 c:=by
 cases p <;> cases hs
 exact ⟨_,_,_,rfl,rfl⟩
theorem Zz4 {p q v:Value} (hs:Yg.sem Y h .mn [p,q]=some v):∃ k x j y,p = .int k x/\q = .int j y/\v = .int k (if y<x then y else x):=by
 cases p with
 | int k x =>
  cases q with
  | int j y=>exact ⟨k,x,j,y,rfl,rfl,(Xfc hs).symm⟩
  | _=>cases hs
 | _=>cases hs
theorem Z0k {p q v:Value} (hs:Yg.sem Y h .mx [p,q]=some v):∃ k x j y,p = .int k x/\q = .int j y/\v = .int k (if x<y then y else x):=by
 cases p with
 | int k x =>
  cases q with
  | int j y=>exact ⟨k,x,j,y,rfl,rfl,(Xfc hs).symm⟩
  | _=>cases hs
 | _=>cases hs
theorem Zkz {c:Prop} [Decidable c] {x v:Nat × Nat} (hs:(if c then some x else none)=some v):c/\v=x:=by
 split at hs
 ·rename_i hc; exact ⟨hc,(Xfc hs).symm⟩
 ·cases hs
theorem Zux {n c:Nat} {lo D:Bool} {r:List Value} {x:Nat × Nat} (hs:Z1 n c lo D r=some x) :
  (lo=false/\D=false/\r=[]/\x=(0,n))\/(lo=true/\D=false/\∃ k l,r=[.int k l]/\(0<=l/\l<=n)/\x=(l.toNat,n)) \/
  (lo=false/\D=true/\∃ k h,r=[.int k h]/\(0<=h/\h<=c)/\x=(0,h.toNat)) \/
  (lo=true/\D=true/\∃ k l j h,r=[.int k l,.int j h]/\(0<=l/\l<=h/\h<=c)/\x=(l.toNat,h.toNat)):=by
 cases lo <;> cases D
 ·match r,hs with
  | [],hs=>exact .inl ⟨rfl,rfl,rfl,(Xfc hs).symm⟩
  | _::_,hs=>cases hs
 ·match r,hs with
  | [],hs=>cases hs
  | p::q::r,hs=>cases p <;> cases hs
  | [p],hs =>
   cases p with
   | int k l=>obtain ⟨h1,G⟩:=Zkz hs; exact .inr (.inr (.inl ⟨rfl,rfl,k,l,rfl,h1,G⟩))
   | _=>cases hs
 ·match r,hs with
  | [],hs=>cases hs
  | p::q::r,hs=>cases p <;> cases hs
  | [p],hs =>
   cases p with
   | int k l=>obtain ⟨h1,G⟩:=Zkz hs; exact .inr (.inl ⟨rfl,rfl,k,l,rfl,h1,G⟩)
   | _=>cases hs
 ·match r,hs with
  | [],hs=>cases hs
  | [p],hs=>cases p <;> cases hs
  | p::q::s::r,hs=>cases p <;> cases q <;> cases hs
  | [p,q],hs =>
   cases p with
   | int k l =>
    cases q with
    | int j h=>obtain ⟨h1,G⟩:=Zkz hs; exact .inr (.inr (.inr ⟨rfl,rfl,k,l,j,h,rfl,h1,G⟩))
    | _=>cases hs
   | _=>cases hs
end Go.Rm
namespace Go.Rm
section ops
variable {cx:Cx} {Y:Sys} {w:World}
theorem Wg {s:Sem Value} {v:Value} {w':World} {P:Program} (h:s.run P w = .ok v w') :
  (s >>= fun x=>(pure (Next.value x):Sem Next)).run P w = .ok (.value v) w':=by
 simp [h]
theorem Zx7 {neg b:Bool} {v:Value} (h:Q0 neg b=some v):v = .bool (if neg then !b else b):=by
 simp only [Q0,Xez] at h; exact h.symm
theorem Xx {op:BinOp} {t:TypeId} {x y:Operand} {a b:Value} (h:¬ (a = .nilIface/\b = .nilIface)) (h':∀ c d,¬ (a = .agg c/\b = .agg d)) :
  (eqGuard op t x y a b).run cx.P w = .ok () w:=by
 unfold eqGuard
 split
 ·rw [if_neg (by simp)]
  split
  ·exact absurd ⟨rfl,rfl⟩ h
  ·exact absurd ⟨rfl,rfl⟩ (h' _ _)
  ·rfl
 ·rw [if_neg (by simp)]
  split
  ·exact absurd ⟨rfl,rfl⟩ h
  ·exact absurd ⟨rfl,rfl⟩ (h' _ _)
  ·rfl
 ·rw [if_pos (by simp)]; rfl
theorem Zna {x:Operand} (h:Operand.isC x=true):∃ v,x = .const v:=by
 cases x with
 | const v=>exact ⟨v,rfl⟩
 | tmp t=>exact (Xhi h).elim
 | global t=>exact (Xhi h).elim
 | func t=>exact (Xhi h).elim
theorem Zsb {op:BinOp} {t:TypeId} {x y:Operand} (h:(Operand.isC x || Operand.isC y)=true) :
  (eqGuard op t x y .nilIface .nilIface).run cx.P w = .ok () w:=by
 unfold eqGuard
 generalize Op.eqGuardIn Op.maxDepth t Value.nilIface Value.nilIface=z
 rw [Bool.or_eq_true] at h
 rcases h with h | h
 ·obtain ⟨v,rfl⟩:=Zna h
  split <;> simp
 ·obtain ⟨v,rfl⟩:=Zna h
  split <;> simp
theorem Zuv:∀ (l:List Field) (D:List (Nat × Nat)),(l.mapM fun f=>(Ug cx f.type).map fun n=>(f.offset,n))=some D ->
  (l.mapM (m:=Sem) fun f=>do pure (f.offset,<-sizeOf f.type)).run cx.P w = .ok D w:=by
 intro l
 induction l with
 | nil=>intro D h; simp at h; subst h; rfl
 | cons f l G =>
  intro D h
  simp only [Xft,Xgd,Xeg,Xd7] at h
  obtain ⟨_,⟨n,H,rfl⟩,r,I,J⟩:=h
  cases J
  simp only [Xft,Sem.run_bind,Xt H,Result.andThen_ok,Sem.run_pure,G r I]
theorem Zhi (r:Array Field) (G:List (Nat × Nat)) (D:(r.toList.mapM fun f=>(Ug cx f.type).map fun n=>(f.offset,n))=some G) :
  (r.mapM (m:=Sem) fun f=>do pure (f.offset,<-sizeOf f.type)).run cx.P w = .ok G.toArray w:=by
 rw [<-Xhj (xs:=r),List.mapM_toArray]
 simp only [Sem.run_map]
 rw [Zuv _ _ D]
 rfl
theorem Zhs (ρ:Operand->Value) (ps:Array (Nat × Operand)) :
  (Array.map (fun x:Nat × Operand=>(x.1,ρ x.2)) ps).toList=(ps.toList.map (·.1)).zip ((ps.toList.map (·.2)).map ρ):=by
 rw [Xgp]
 generalize ps.toList=l
 induction l with
 | nil=>rfl
 | cons x l r=>simp [r]
theorem Z12 {h:Za} {op:BinOp} {p q v:Value} (hs:Yg.sem Y h (.ib op) [p,q]=some v):∃ k a r b,p = .int k a/\q = .int r b/\Qp op k a r b=some v:=by
 unfold Yg.sem at hs; split at hs <;> simp_all
 exact ⟨_,_,⟨rfl,rfl⟩,_,_,⟨rfl,rfl⟩,hs⟩
theorem Z0b {h:Za} {op:BinOp} {p q v:Value} (hs:Yg.sem Y h (.sb op) [p,q]=some v):∃ a b,p = .string a/\q = .string b/\Zvh op a b=some v:=by
 unfold Yg.sem at hs; split at hs <;> simp_all
theorem Zy9 {h:Za} {neg:Bool} {p q v:Value} (hs:Yg.sem Y h (.eqb neg) [p,q]=some v):∃ a b,p = .bool a/\q = .bool b/\Q0 neg (a == b)=some v:=by
 unfold Yg.sem at hs; split at hs <;> simp_all
theorem Zxm {h:Za} {neg:Bool} {p q v:Value} (hs:Yg.sem Y h (.eqp neg) [p,q]=some v) :
  (∃ b,p = .pointer none/\q = .pointer b/\Q0 neg b.isNone=some v)\/(∃ a,p = .pointer (some a)/\q = .pointer none/\Q0 neg false=some v):=by
 unfold Yg.sem at hs; split at hs <;> simp_all
theorem Zy4 {h:Za} {neg r:Bool} {p q v:Value} (hs:Yg.sem Y h (.eqi neg r) [p,q]=some v) :
  (p = .nilIface/\q = .nilIface/\r=true/\Q0 neg true=some v)\/(∃ t u,p = .nilIface/\q = .iface t u/\Q0 neg false=some v) \/
  (∃ t u,p = .iface t u/\q = .nilIface/\Q0 neg false=some v):=by
 unfold Yg.sem at hs; split at hs <;> simp_all
theorem Zy5 {h:Za} {neg:Bool} {p q v:Value} (hs:Yg.sem Y h (.eqs neg) [p,q]=some v) :
  (∃ l c b m d,p = .slice none l c/\q = .slice b m d/\Q0 neg b.isNone=some v)\/(∃ a l c m d,p = .slice (some a) l c/\q = .slice none m d/\Q0 neg false=some v):=by
 unfold Yg.sem at hs; split at hs <;> simp_all
theorem Zyz {h:Za} {neg:Bool} {p q v:Value} (hs:Yg.sem Y h (.eqf neg) [p,q]=some v) :
  (p = .nilFunc/\q = .nilFunc/\Q0 neg true=some v)\/(∃ f a b,p = .func f a b/\q = .nilFunc/\Q0 neg false=some v):=by
 unfold Yg.sem at hs; split at hs <;> simp_all
theorem Zy3 {h:Za} {neg:Bool} {n:Nat} {p q v:Value} (hs:Yg.sem Y h (.eqa neg n) [p,q]=some v) :
  ∃ xs r b,p = .agg xs/\q = .agg r/\xs.size=n/\r.size=n/\Qf xs.toList r.toList=some b/\Q0 neg b=some v:=by
 have D:∀ {a b:Value},Yg.sem Y h (.eqa neg n) [a,b]=none->Yg.sem Y h (.eqa neg n) [a,b]=some v->False:=fun h1 G=>by rw [h1] at G; cases G
 cases p with
 | agg xs =>
  cases q with
  | agg r =>
   have hs:(if xs.size=n/\r.size=n then (Qf xs.toList r.toList).bind (Q0 neg) else none)=some v:=hs
   split at hs
   ·rename_i c
    cases hb:Qf xs.toList r.toList with
    | none=>rw [hb] at hs; cases hs
    | some b=>rw [hb] at hs; exact ⟨xs,r,b,rfl,rfl,c.1,c.2,hb,hs⟩
   ·cases hs
  | _=>exact (D rfl hs).elim
 | _=>exact (D rfl hs).elim
section equal
variable {t:TypeId}
theorem Zzl (d:Nat) (hu:cx.P.underlying t=some .bool) (a b:Bool):(Op.equalIn (d+1) t (.bool a) (.bool b)).run cx.P w = .ok (a == b) w:=by
 simp [Op.equalIn,run_underlying hu]
theorem Zz8 (d:Nat) {e:TypeId} (hu:cx.P.underlying t=some (.pointer e)) (b:Option Addr):(Op.equalIn (d+1) t (.pointer none) (.pointer b)).run cx.P w = .ok b.isNone w:=by
 simp [Op.equalIn,run_underlying hu]
theorem Zw5 (d:Nat) {e:TypeId} (hu:cx.P.underlying t=some (.pointer e)) (a:Addr):(Op.equalIn (d+1) t (.pointer (some a)) (.pointer none)).run cx.P w = .ok false w:=by
 simp [Op.equalIn,run_underlying hu]
theorem Z6l (d:Nat) {r:Array (String × TypeId)} (hu:cx.P.underlying t=some (.interface r)):(Op.equalIn (d+1) t .nilIface .nilIface).run cx.P w = .ok true w:=by
 simp [Op.equalIn,run_underlying hu]
theorem Z4d (d:Nat) {r:Array (String × TypeId)} (hu:cx.P.underlying t=some (.interface r)) (u:TypeId) (v:Value):(Op.equalIn (d+1) t .nilIface (.iface u v)).run cx.P w = .ok false w:=by
 simp [Op.equalIn,run_underlying hu]
theorem Z5z (d:Nat) {r:Array (String × TypeId)} (hu:cx.P.underlying t=some (.interface r)) (u:TypeId) (v:Value):(Op.equalIn (d+1) t (.iface u v) .nilIface).run cx.P w = .ok false w:=by
 simp [Op.equalIn,run_underlying hu]
theorem Z8v (d:Nat) {e:TypeId} (hu:cx.P.underlying t=some (.slice e)) (l c m k:Nat) (b:Option Addr):(Op.equalIn (d+1) t (.slice none l c) (.slice b m k)).run cx.P w = .ok b.isNone w:=by
 simp [Op.equalIn,run_underlying hu]
theorem Z6i (d:Nat) {e:TypeId} (hu:cx.P.underlying t=some (.slice e)) (l c m k:Nat) (a:Addr):(Op.equalIn (d+1) t (.slice (some a) l c) (.slice none m k)).run cx.P w = .ok false w:=by
 simp [Op.equalIn,run_underlying hu]
theorem Z89 (d:Nat) {ps r:Array TypeId} {D:Bool} (hu:cx.P.underlying t=some (.func ps r D)):(Op.equalIn (d+1) t .nilFunc .nilFunc).run cx.P w = .ok true w:=by
 simp [Op.equalIn,run_underlying hu]
theorem Z4w (d:Nat) {ps r:Array TypeId} {D:Bool} (hu:cx.P.underlying t=some (.func ps r D)) (f:Fn) (a b:Array Value):(Op.equalIn (d+1) t (.func f a b) .nilFunc).run cx.P w = .ok false w:=by
 simp [Op.equalIn,run_underlying hu]
end equal
theorem V0 {t:TypeId} {x y:Value} {b:Bool} {op:BinOp} {neg:Bool} (r:op=(if neg then .neq else .eql)) (H:(Op.equal t x y).run cx.P w = .ok b w) {v:Value} (hv:Q0 neg b=some v)
  (D:binOp .eql t x y=(do pure (.bool (<-Op.equal t x y)))) (G:binOp .neq t x y=(do pure (.bool (!(<-Op.equal t x y))))):(binOp op t x y).run cx.P w = .ok v w:=by
 subst r
 have hv:=Zx7 hv
 subst hv
 cases neg
 ·simp only [Xeh,if_false,D,Sem.run_bind,H,Result.andThen_ok,Sem.run_pure]
 ·simp only [if_true,G,Sem.run_bind,H,Result.andThen_ok,Sem.run_pure]
theorem We {op:BinOp} {t:TypeId} {x y:Operand} {p q v:Value} (r:(eqGuard op t x y p q).run cx.P w = .ok () w) (hb:(binOp op t p q).run cx.P w = .ok v w) :
  ((do eqGuard op t x y p q; binOp op t p q) >>= fun x=>(pure (Next.value x):Sem Next)).run cx.P w = .ok (.value v) w:=by
 refine Wg ?_
 simp only [Sem.run_bind,r,Result.andThen_ok,hb]
theorem Zwq {op:BinOp} {t:TypeId} {x y:Operand} {p q v:Value} (hs:Yg.sem Y w.heap (.ib op) [p,q]=some v) :
  ((do eqGuard op t x y p q; binOp op t p q) >>= fun x=>(pure (Next.value x):Sem Next)).run cx.P w = .ok (.value v) w:=by
 obtain ⟨k,a,D,b,rfl,rfl,r⟩:=Z12 hs
 exact We (Xx (by simp) (by simp)) (Zz3 _ r)
theorem Zwr {op:BinOp} {t:TypeId} {x y:Operand} {p q v:Value} (hs:Yg.sem Y w.heap (.sb op) [p,q]=some v) :
  ((do eqGuard op t x y p q; binOp op t p q) >>= fun x=>(pure (Next.value x):Sem Next)).run cx.P w = .ok (.value v) w:=by
 obtain ⟨a,b,rfl,rfl,r⟩:=Z0b hs
 exact We (Xx (by simp) (by simp)) (Z1o _ r)
theorem Zhb (d:Nat) {xs H:Array Value}:∀ (I:List Field) (k:Nat) (b:Bool),Za7 cx I k=true->xs.size=k+I.length->H.size=k+I.length ->
  Qf (xs.toList.drop k) (H.toList.drop k)=some b->(Op.eqFields (d+1) xs H I).run cx.P w = .ok b w:=by
 intro I
 induction I with
 | nil =>
  intro k b _ hx hy hb
  rw [Xe0 (by simp; simp at hx; omega),Xe0 (by simp; simp at hy; omega)] at hb
  cases hb
  rfl
 | cons f r U =>
  intro k b hf hx hy hb
  simp only [Za7,Xec,bne_iff_ne,beq_iff_eq] at hf
  obtain ⟨⟨⟨V,R⟩,hu⟩,X⟩:=hf
  simp only [Xfd] at hx hy
  have Z:k<xs.toList.length:=by simp; omega
  have ky:k<H.toList.length:=by simp; omega
  rw [Xfk Z,Xfk ky] at hb
  cases D:cx.P.underlying f.type with
  | none=>rw [D] at hu; cases hu
  | some u =>
  cases u with
  | int kk =>
   generalize J:xs.toList[k]=x at hb
   generalize M:H.toList[k]=y at hb
   have px:(part f.type xs f.offset).run cx.P w = .ok x w:=Zaj D (n:=0) (by simp [Xl]) (by
    rw [R]; simp only [U5,Xl,Xeh,if_false]; rw [<-J]; simp [Xe5 (show k<xs.size by omega)])
   have py:(part f.type H f.offset).run cx.P w = .ok y w:=Zaj D (n:=0) (by simp [Xl]) (by
    rw [R]; simp only [U5,Xl,Xeh,if_false]; rw [<-M]; simp [Xe5 (show k<H.size by omega)])
   unfold Qf at hb
   split at hb
   ·rename_i O _; cases O
   ·rename_i k1 a r1 j1 b1 s1 e1 e2
    cases e1
    cases e2
    split at hb
    ·rename_i hk
     subst hk
     cases hq:Qf (List.drop (k+1) xs.toList) (List.drop (k+1) H.toList) with
     | none=>rw [hq] at hb; cases hb
     | some c =>
      rw [hq] at hb
      simp only [Xgq,Xez] at hb
      have:=U (k+1) c X (by omega) (by omega) hq
      simp only [Op.eqFields,if_pos V,Sem.run_bind,px,py,Result.andThen_ok,run_equalIn_int w d f.type _ _ _ _ D,Sem.run_ite]
      by_cases G:(a == b1)=true
      ·simp only [G,Bool.not_true,Xeh,if_false,this]
       rw [<-hb,G]; rfl
      ·simp only [Xgr] at G
       simp only [G,Bool.not_false,if_true,Sem.run_pure]
       rw [<-hb,G]; rfl
    ·cases hb
   ·cases hb
  | _=>rw [D] at hu; cases hu
theorem Zws {io:Yg} {neg:Bool} {op:BinOp} {t:TypeId} {x y:Operand} {p q v:Value} (r:op=(if neg then .neq else .eql)) (G:Zcd cx neg op t x y=some (.io io))
  (hs:io.sem Y w.heap [p,q]=some v) :
  ((do eqGuard op t x y p q; binOp op t p q) >>= fun x=>(pure (Next.value x):Sem Next)).run cx.P w = .ok (.value v) w:=by
 unfold Zcd at G
 split at G
 ·cases G; exact Zwq hs
 ·cases G; exact Zwr hs
 ·rename_i hu
  cases G
  obtain ⟨a,b,rfl,rfl,D⟩:=Zy9 hs
  exact We (Xx (by simp) (by simp)) (V0 r (Zzl 9999 hu a b) D rfl rfl)
 ·rename_i e hu
  cases G
  rcases Zxm hs with ⟨b,rfl,rfl,D⟩ | ⟨a,rfl,rfl,D⟩
  ·exact We (Xx (by simp) (by simp)) (V0 r (Zz8 9999 hu b) D rfl rfl)
  ·exact We (Xx (by simp) (by simp)) (V0 r (Zw5 9999 hu a) D rfl rfl)
 ·rename_i X hu
  cases G
  rcases Zy4 hs with ⟨rfl,rfl,J,D⟩ | ⟨M,u,rfl,rfl,D⟩ | ⟨M,u,rfl,rfl,D⟩
  ·exact We (Zsb J) (V0 r (Z6l 9999 hu) D rfl rfl)
  ·exact We (Xx (by simp) (by simp)) (V0 r (Z4d 9999 hu _ _) D rfl rfl)
  ·exact We (Xx (by simp) (by simp)) (V0 r (Z5z 9999 hu _ _) D rfl rfl)
 ·rename_i e hu
  cases G
  rcases Zy5 hs with ⟨l,c,b,m,d,rfl,rfl,D⟩ | ⟨a,l,c,m,d,rfl,rfl,D⟩
  ·exact We (Xx (by simp) (by simp)) (V0 r (Z8v 9999 hu _ _ _ _ _) D rfl rfl)
  ·exact We (Xx (by simp) (by simp)) (V0 r (Z6i 9999 hu _ _ _ _ _) D rfl rfl)
 ·rename_i ps Z va hu
  cases G
  rcases Zyz hs with ⟨rfl,rfl,D⟩ | ⟨f,a,b,rfl,rfl,D⟩
  ·exact We (Xx (by simp) (by simp)) (V0 r (Z89 9999 hu) D rfl rfl)
  ·exact We (Xx (by simp) (by simp)) (V0 r (Z4w 9999 hu _ _ _) D rfl rfl)
 ·rename_i I hu
  split at G
  ·rename_i hc
   obtain ⟨c1,O,R⟩:=hc
   cases G
   obtain ⟨xs,H,b,rfl,rfl,h1,U,D,h4⟩:=Zy3 hs
   have hf:cx.P.fieldsOf t=I:=by simp [Program.fieldsOf,hu]
   have V:(Op.equal t (.agg xs) (.agg H)).run cx.P w = .ok b w:=by
    show (Op.equalIn (9999+1) t (.agg xs) (.agg H)).run cx.P w=_
    rw [run_equalIn_struct w 9999 t xs H (by rw [hf]; exact hu) O,hf]
    exact Zhb 9998 I.toList 0 b c1 (by simpa using h1) (by simpa using U) (by simpa using D)
   refine We (run_eqGuard_agg w op t x y xs H R) (V0 r V h4 ?_ ?_)
   ·rfl
   ·rfl
  ·cases G
 ·cases G
theorem Z54 {io:Yg} {op:BinOp} {t:TypeId} {x y:Operand} {p q v:Value} (r:Ze0 cx op t x y=some (.io io)) (hs:io.sem Y w.heap [p,q]=some v) :
  ((do eqGuard op t x y p q; binOp op t p q) >>= fun x=>(pure (Next.value x):Sem Next)).run cx.P w = .ok (.value v) w:=by
 unfold Ze0 at r
 split at r
 ·exact Zws (neg:=false) rfl r hs
 ·exact Zws (neg:=true) rfl r hs
 ·split at r
  ·cases r; exact Zwq hs
  ·cases r; exact Zwr hs
  ·cases r
theorem Zan {r:Option Nat} {x y:Value} {b:Bool} (h:Zbk r x y=some b) :
  (∃ k p q,r=none/\x = .int k p/\y = .int k q/\b=(p == q))\/(∃ n xs D,r=some n/\x = .agg xs/\y = .agg D/\xs.size=n/\D.size=n/\Qf xs.toList D.toList=some b):=by
 unfold Zbk at h
 split at h
 ·split at h
  ·rename_i c
   obtain ⟨c1,G⟩:=c
   subst G
   simp at h
   exact .inl ⟨_,_,_,c1,rfl,rfl,h.symm⟩
  ·cases h
 ·split at h
  ·split at h
   ·rename_i c
    exact .inr ⟨_,_,_,rfl,rfl,rfl,c.1,c.2,h⟩
   ·cases h
  ·cases h
 ·cases h
theorem Zrv {e:TypeId} {q:IntKind} (G:cx.P.underlying e=some (.int q)) (hc:cx.P.cellsOf e=1) (d:Nat) {xs r:Array Value}:∀ (n k:Nat) (b:Bool),xs.size=k+n->r.size=k+n ->
  Qf (xs.toList.drop k) (r.toList.drop k)=some b->(Op.eqItems (d+1) e (cx.P.cellsOf e) xs r (List.range' k n)).run cx.P w = .ok b w:=by
 intro n
 induction n with
 | zero =>
  intro k b hx hy hb
  rw [Xe0 (by simp; omega),Xe0 (by simp; omega)] at hb
  cases hb
  rfl
 | succ n M =>
  intro k b hx hy hb
  have O:k<xs.toList.length:=by simp; omega
  have R:k<r.toList.length:=by simp; omega
  rw [Xfk O,Xfk R] at hb
  generalize H:xs.toList[k]=x at hb
  generalize I:r.toList[k]=y at hb
  have px:(part e xs (k * cx.P.cellsOf e)).run cx.P w = .ok x w:=Zaj G (n:=0) (by simp [Xl]) (by
   rw [hc,Xej]; simp only [U5,Xl,Xeh,if_false]; rw [<-H]; simp [Xe5 (show k<xs.size by omega)])
  have U:(part e r (k * cx.P.cellsOf e)).run cx.P w = .ok y w:=Zaj G (n:=0) (by simp [Xl]) (by
   rw [hc,Xej]; simp only [U5,Xl,Xeh,if_false]; rw [<-I]; simp [Xe5 (show k<r.size by omega)])
  unfold Qf at hb
  split at hb
  ·rename_i J _; cases J
  ·rename_i k1 a r1 j1 V s1 X e2
   cases X
   cases e2
   split at hb
   ·rename_i Z
    subst Z
    simp only [Xd7] at hb
    obtain ⟨c,hc',rfl⟩:=hb
    have:=M (k+1) c (by omega) (by omega) hc'
    rw [List.range'_succ]
    simp only [Op.eqItems,Sem.run_bind,px,U,Result.andThen_ok,run_equalIn_int w d e k1 q _ _ G]
    by_cases D:a=V
    ·subst D
     simpa using this
    ·simp [D]
   ·cases hb
  ·cases hb
theorem Zmt {k:TypeId} {M:Option Nat} {x y:Value} {b:Bool} (D:U2 cx k=some M) (h:Zbk M x y=some b):(Op.equal k x y).run cx.P w = .ok b w:=by
 show (Op.equalIn (9999+1) k x y).run cx.P w=_
 unfold U2 at D
 split at D
 ·rename_i q hu
  cases D
  rcases Zan h with ⟨j,p,r,_,rfl,rfl,rfl⟩ | ⟨n,xs,G,e,_⟩
  ·exact run_equalIn_int w 9999 k j q _ _ hu
  ·cases e
 ·rename_i O hu
  split at D
  ·rename_i hc
   cases D
   rcases Zan h with ⟨j,p,r,e,_⟩ | ⟨n,xs,G,e,rfl,rfl,h1,H,I⟩
   ·cases e
   ·cases e
    have hf:cx.P.fieldsOf k=O:=by simp [Program.fieldsOf,hu]
    rw [run_equalIn_struct w 9999 k xs G (by rw [hf]; exact hu) hc.2,hf]
    exact Zhb 9998 O.toList 0 b hc.1 (by simpa using h1) (by simpa using H) (by simpa using I)
  ·cases D
 ·rename_i n e hu
  split at D
  ·rename_i q i R U
   split at D
   ·rename_i hc
    cases D
    rcases Zan h with ⟨j,p,r,J,_⟩ | ⟨V,xs,G,J,rfl,rfl,h1,H,I⟩
    ·cases J
    ·cases J
     rw [run_equalIn_array w 9999 xs G hu U,List.range_eq_range']
     exact Zrv R hc 9998 n 0 b (by simpa using h1) (by simpa using H) (by simpa using I)
   ·cases D
  ·cases D
 ·cases D
theorem Zju {k:TypeId} {D:Option Nat} {x:Value} (G:U2 cx k=some D):∀ (r:List MapEntry) (i:Nat) (a:Option (Nat × Value)),Vm D x r i=some a->(Instr.findAsking k x r i).run cx.P w = .ok a w:=by
 intro r
 induction r with
 | nil=>intro i a h; cases h; rfl
 | cons e r H =>
  intro i a h
  unfold Vm at h
  split at h
  ·rename_i hb
   cases h
   simp [Instr.findAsking,Zmt G hb]
  ·rename_i hb
   simp [Instr.findAsking,Zmt G hb]
   exact H _ _ h
  ·cases h
theorem Zw2 {d:TypeDesc} {H:Option Nat} {x:Value}:∀ (G:List MapEntry) (i:Nat) (a r:Option (Nat × Value)),Instr.findNow d x G i=some r->Vm H x G i=some a->a=r:=by
 intro G
 induction G with
 | nil=>intro i a r h1 D; cases h1; cases D; rfl
 | cons e G J =>
  intro i a r h1 D
  have key:∀ b c,Instr.sameNow d x e.key=some b->Zbk H x e.key=some c->b=c:=by
   intro b c hb hc
   rcases Zan hc with ⟨j,p,q,_,I,h4,rfl⟩ | ⟨n,xs,M,_,I,h4,_⟩
   ·rw [I,h4] at hb
    unfold Instr.sameNow at hb
    split at hb <;> simp_all
   ·rw [I,h4] at hb
    unfold Instr.sameNow at hb
    split at hb <;> simp_all
  unfold Instr.findNow at h1
  unfold Vm at D
  cases hb:Instr.sameNow d x e.key with
  | none=>rw [hb] at h1; cases h1
  | some b =>
   cases hc:Zbk H x e.key with
   | none=>rw [hc] at D; cases D
   | some c =>
    have:=key b c hb hc
    subst this
    rw [hb] at h1
    rw [hc] at D
    cases b
    ·exact J _ _ _ h1 D
    ·cases h1; cases D; rfl
theorem Zap {k:TypeId} {H:Option Nat} {x:Value} {D:List MapEntry} {a:Option (Nat × Value)} (G:U2 cx k=some H) (h:Vm H x D 0=some a):(Instr.findKey k x D).run cx.P w = .ok a w:=by
 have hu:∃ d,cx.P.underlying k=some d:=by
  unfold U2 at G
  cases hu:cx.P.underlying k with
  | none=>rw [hu] at G; cases G
  | some d=>exact ⟨d,rfl⟩
 obtain ⟨d,hu⟩:=hu
 simp only [Instr.findKey,Sem.run_bind,run_underlying hu,Result.andThen_ok]
 cases I:Instr.findNow d x D 0 with
 | none=>exact Zju G D 0 a h
 | some r=>rw [Zw2 D 0 a r I h]; rfl
theorem Zc2 {k:TypeId} {q j:IntKind} {z:Int} (r:Bool) (d:Nat) (hu:cx.P.underlying k=some (.int q)):(Instr.checkKey r (d+1) k (.int j z)).run cx.P w = .ok () w:=by
 simp [Instr.checkKey,run_underlying hu]
theorem Zbs (r:Nat) (G:Array MapEntry) (D:Nat) (hb:w.heap[r]? = some (.map G D)):(getObj r).run cx.P w = .ok (.map G D) w:=by
 simp [getObj,Sem.run,hb]
theorem W9 {k:TypeId} {O:Option Nat} {x:Value} (J:Bool) (D:U2 cx k=some O) (h:Zab O x=true):(Instr.checkKey J 10000 k x).run cx.P w = .ok () w:=by
 unfold U2 at D
 split at D
 ·rename_i q hu
  cases D
  cases x <;> first | (cases h; done) | skip
  exact Zc2 J 9999 hu
 ·rename_i X hu
  split at D
  ·rename_i hc
   cases D
   cases x <;> first | (cases h; done) | skip
   rename_i cs
   simp only [Zab,Xec,beq_iff_eq,Xfu] at h
   rw [show (10000:Nat)=9998+1+1 from rfl,Instr.checkKey]
   simp only [Sem.run_bind,run_underlying hu,Result.andThen_ok]
   rw [<-Array.forIn_toList]
   have hx:cs.size=0+X.toList.length:=by simpa using h.1
   have hv:=h.2
   have G:=hc.1
   clear hc hu h
   generalize X.toList=L at hx G
   generalize 0=k at hx G
   induction L generalizing k with
   | nil=>simp
   | cons f r R =>
    simp only [Za7,Xec,bne_iff_ne,beq_iff_eq] at G
    obtain ⟨⟨⟨hn,ho⟩,hu⟩,hr⟩:=G
    simp only [Xfd] at hx
    cases H:cx.P.underlying f.type with
    | none=>rw [H] at hu; cases hu
    | some u =>
    cases u with
    | int O =>
     have U:k<cs.size:=by omega
     have M:=hv cs[k] (by simp)
     obtain ⟨j,z,hz⟩:∃ j z,cs[k] = .int j z:=by
      cases hc:cs[k] <;> rw [hc] at M <;> first | exact ⟨_,_,rfl⟩ | cases M
     have px:(part f.type cs f.offset).run cx.P w = .ok (.int j z) w:=Zaj H (n:=0) (by simp [Xl]) (by
      rw [ho]; simp only [U5,Xl,Xeh,if_false]; simp [Xe5 U,hz])
     have V:=Zc2 (cx:=cx) (w:=w) (j:=j) (z:=z) J 9998 H
     simp only [List.forIn_cons,Sem.run_bind,hn,ne_eq,not_false_eq_true,if_true,px,V,Result.andThen_ok,Sem.run_pure]
     exact R (k+1) (by omega) hr
    | _=>rw [H] at hu; cases hu
  ·cases D
 ·rename_i n e hu
  split at D
  ·rename_i q i Z M
   split at D
   ·rename_i hc
    cases D
    cases x <;> first | (cases h; done) | skip
    rename_i cs
    simp only [Zab,Xec,beq_iff_eq,Xfu] at h
    rw [show (10000:Nat)=9998+1+1 from rfl,Instr.checkKey]
    simp only [Sem.run_bind,run_underlying hu,Result.andThen_ok]
    simp only [Std.Legacy.Range.forIn_eq_forIn_range',Std.Legacy.Range.size,Nat.sub_zero,Nat.add_one_sub_one,Nat.div_one]
    have hx:cs.size=0+n:=by simpa using h.1
    have hv:=h.2
    clear hu h
    generalize 0=k at hx
    induction n generalizing k with
    | zero=>simp
    | succ n R =>
     have U:k<cs.size:=by omega
     have I:=hv cs[k] (by simp)
     obtain ⟨j,z,hz⟩:∃ j z,cs[k] = .int j z:=by
      cases hc:cs[k] <;> rw [hc] at I <;> first | exact ⟨_,_,rfl⟩ | cases I
     have px:(part e cs (k * cx.P.cellsOf e)).run cx.P w = .ok (.int j z) w:=Zaj Z (n:=0) (by simp [Xl]) (by
      rw [hc,Xej]; simp only [U5,Xl,Xeh,if_false]; simp [Xe5 U,hz])
     have V:=Zc2 (cx:=cx) (w:=w) (j:=j) (z:=z) J 9998 Z
     rw [List.range'_succ]
     simp only [List.forIn_cons,Sem.run_bind,run_sizeOf w M,px,V,Result.andThen_ok,Sem.run_pure]
     exact R (k+1) (by omega)
   ·cases D
  ·cases D
 ·cases D
theorem Zgm {h:Za} {r:Nat} {I:List MapEntry} (G:Xz h (some r)=some I):∃ H D,h[r]? = some (.map H D)/\I=H.toList:=by
 unfold Xz at G
 simp only at G
 split at G
 ·rename_i H D hb
  cases G
  exact ⟨_,_,hb,rfl⟩
 ·cases G
theorem Zun {h:Za} {p v:Value} (hs:Yg.sem Y h .lenM [p]=some v):∃ r D,p = .map r/\Xz h r=some D/\v = .int .i64 D.length:=by
 cases p <;> first | (cases hs; done) | skip
 rename_i r
 have hs:(Xz h r).map (fun D=>Value.int .i64 D.length)=some v:=hs
 simp only [Xd7] at hs
 obtain ⟨D,h1,rfl⟩:=hs
 exact ⟨r,D,rfl,h1,rfl⟩
theorem Zpf {h:Za} {D:Option Nat} {G:Bool} {z p q v:Value} (hs:Yg.sem Y h (.lookup D G z) [p,q]=some v) :
  ∃ r H a,p = .map r/\Zab D q=true/\Xz h r=some H/\Vm D q H 0=some a/\v=(match a with | some (_,x)=>if G then .tuple #[x,.bool true] else x | none=>if G then .tuple #[z,.bool false] else z):=by
 cases p <;> first | (cases hs; done) | skip
 rename_i r
 have hs:Zdm h D G z r q=some v:=hs
 unfold Zdm at hs
 split at hs
 ·rename_i I
  simp only [Xeg,Xd7] at hs
  obtain ⟨H,h1,a,J,M⟩:=hs
  exact ⟨r,H,a,rfl,I,h1,J,M.symm⟩
 ·cases hs
theorem Ztv {t J e:TypeId} {I:Option Nat} {H:Bool} {z p q v:Value} (h1:cx.P.underlying t=some (.map J e)) (G:U2 cx J=some I) (M:Qe cx e=some z)
  (hs:Yg.sem Y w.heap (.lookup I H z) [p,q]=some v):(Instr.lookup t p q H).run cx.P w = .ok v w:=by
 obtain ⟨r,U,a,rfl,hq,O,hf,rfl⟩:=Zpf hs
 cases r with
 | none =>
  cases O
  cases hf
  cases H <;> simp [Instr.lookup,run_underlying h1,W9 _ G hq,Zap G (show Vm I q [] 0=some none from rfl),Wv M]
 | some r =>
  obtain ⟨R,D,hb,rfl⟩:=Zgm O
  cases a with
  | none=>cases H <;> simp [Instr.lookup,run_underlying h1,Zbs r R D hb,W9 _ G hq,Zap G hf,Wv M]
  | some a=>cases H <;> simp [Instr.lookup,run_underlying h1,Zbs r R D hb,W9 _ G hq,Zap G hf]
theorem Z8a {op:UnOp} {p v:Value} (hs:Yg.sem Y w.heap (.un op) [p]=some v):(Op.unary op p).run cx.P w = .ok v w:=by
 rcases Zzw hs with ⟨rfl,k,n,rfl,rfl⟩ | ⟨rfl,b,rfl,rfl⟩ <;> rfl
theorem Z31 {r D:TypeId} {ds:TypeDesc} {k:IntKind} {p v:Value} (h1:cx.P.underlying r=some ds) (G:cx.P.underlying D=some (.int k))
  (hs:Yg.sem Y w.heap (.conv k) [p]=some v):(convert r D p).run cx.P w = .ok v w:=by
 obtain ⟨j,n,rfl,rfl⟩:=Zta hs
 simp [convert,run_underlying h1,run_underlying G,Conv.intToInt]
theorem Z5j {r D e:TypeId} {p v:Value} (h1:cx.P.underlying r=some (.slice e)) (G:cx.P.underlying D=some .string) (H:cx.P.underlying e=some (.int .u8))
  (hs:Yg.sem Y w.heap .b2s [p]=some v):(convert r D p).run cx.P w = .ok v w:=by
 have hc:∀ a n c,(convert r D (.slice a n c)).run cx.P w=(Conv.bytesToString (.slice a n c)).run cx.P w:=by
  intro a n c
  simp [convert,run_underlying h1,run_underlying G,run_underlying H]
 rcases Zzg hs with ⟨n,c,rfl,rfl⟩ | ⟨b,o,n,c,l,s,rfl,I,hb,rfl⟩
 ·rw [hc]; simp [Conv.bytesToString]
 ·rw [hc]
  obtain ⟨J,rfl,h⟩:=Zrn ByteArray.empty hb
  rw [run_bytesToString w _ _ _ J (U7 I),h]
  congr 2
  show (⟨#[]++s.toArray⟩:ByteArray)=_
  rw [Xhk]
theorem Z55 {t:TypeId} {d:TypeDesc} {n:Nat} {p v:Value} (r:Ok cx Y) (h1:cx.P.underlying t=some d) (D:∀ G,d≠.interface G) (H:cx.tn t=some n)
  (hs:Yg.sem Y w.heap (.mkI n) [p]=some v):(Instr.makeInterface t p).run cx.P w = .ok v w:=by
 have hs:some (Value.iface (Y.tid n) p)=some v:=hs
 simp only [Xez] at hs
 subst hs
 simp only [Instr.makeInterface,Sem.run_bind,run_underlying h1,Result.andThen_ok,r.ht _ _ H]
 cases d <;> first | exact absurd rfl (D _) | rfl
theorem Z14 {t:TypeId} {D:Array Field} {f:Nat} {r:Field} {n:Nat} {p v:Value} (h1:cx.P.underlying t=some (.struct D)) (G:D[f]? = some r) (H:Ug cx r.type=some n) (h4:n≠0)
  (hs:Yg.sem Y w.heap (.fadr r.offset) [p]=some v):(Instr.fieldAt t p f).run cx.P w = .ok v w:=by
 obtain ⟨b,o,rfl,rfl⟩:=Zuq hs
 simp [Instr.fieldAt,run_underlying h1,G,Instr.sureAddr,fieldPlace,Xt H,h4,Addr.add_lit]
theorem Zvq {t:TypeId} {D:Array Field} {f:Nat} {r:Field} {d:TypeDesc} {n:Nat} {p v:Value} (h1:cx.P.underlying t=some (.struct D)) (G:D[f]? = some r) (H:cx.P.underlying r.type=some d)
  (h4:Xl d=true->Ug cx r.type=some n) (hs:Yg.sem Y w.heap (.fld r.offset n (Xl d)) [p]=some v):(Instr.field t p f).run cx.P w = .ok v w:=by
 obtain ⟨cs,rfl,hs⟩:=Zzb hs
 simp only [Instr.field,Sem.run_bind,run_underlying h1,Result.andThen_ok,G,asAgg,Sem.run_pure]
 exact Zaj H h4 hs
theorem Z20 {t e:TypeId} {n:Nat} {p q v:Value} (h1:cx.P.underlying t=some (.slice e)) (r:Ug cx e=some n)
  (hs:Yg.sem Y w.heap (.idxa n) [p,q]=some v):(Instr.indexAt t p q).run cx.P w = .ok v w:=by
 obtain ⟨b,o,m,c,k,i,rfl,rfl,hb,rfl⟩:=Zu6 hs
 simp [Instr.indexAt,run_underlying h1,asIntOf,hb,Xt r,Addr.add_lit]
theorem Z00 {t e:TypeId} {len n:Nat} {p q v:Value} (h1:cx.P.underlying t=some (.array len e)) (r:Ug cx e=some n)
  (hs:Yg.sem Y w.heap (.idxA len n) [p,q]=some v):(Instr.indexAt t p q).run cx.P w = .ok v w:=by
 obtain ⟨b,o,k,i,rfl,rfl,hb,rfl⟩:=Ztd hs
 simp [Instr.indexAt,run_underlying h1,asIntOf,hb,Xt r,Instr.sureAddr,Addr.add_lit]
theorem Z3g {t:TypeId} {p q v:Value} (h1:cx.P.underlying t=some .string)
  (hs:Yg.sem Y w.heap .idxS [p,q]=some v):(Instr.index t p q).run cx.P w = .ok v w:=by
 obtain ⟨s,k,i,b,rfl,rfl,h0,hb,rfl⟩:=Zuw hs
 simp [Instr.index,run_underlying h1,asIntOf,h0,hb]
theorem Zz6 {t e:TypeId} {len n:Nat} {d:TypeDesc} {p q v:Value} (h1:cx.P.underlying t=some (.array len e)) (D:cx.P.underlying e=some d) (r:Ug cx e=some n)
  (hs:Yg.sem Y w.heap (.idxV len n (Xl d)) [p,q]=some v):(Instr.index t p q).run cx.P w = .ok v w:=by
 obtain ⟨cs,k,i,rfl,rfl,hb,hs⟩:=Ztm hs
 simp only [Instr.index,Sem.run_bind,asIntOf,Sem.run_pure,Result.andThen_ok,run_underlying h1,hb,and_self,if_true,Xt r]
 exact Zaj D (fun _=>r) hs
theorem Z8d {t M:TypeId} {d:TypeDesc} {n:Nat} {D:Bool} {z p v:Value} (O:Ok cx Y) (h1:cx.P.underlying t=some d) (I:∀ R,d≠.interface R) (U:cx.tn t=some n) (h4:Qe cx t=some z)
  (hs:Yg.sem Y w.heap (.ta n D z) [p]=some v):(Instr.typeAssert p M t D).run cx.P w = .ok v w:=by
 have ht:=O.ht _ _ U
 rcases Zz5 hs with ⟨V,u,rfl,hs'⟩ | ⟨rfl,rfl,rfl⟩
 ·clear hs
  have hs:=hs'
  clear hs'
  rw [ht] at hs
  have G:∀ r:Result Value,r=(if V=t then (if D then .ok (.tuple #[u,.bool true]) w else .ok u w) else (if D then .ok (.tuple #[z,.bool false]) w else r))->r = .ok v w:=by
   intro r J
   split at hs
   ·rename_i H
    rw [if_pos H] at J
    cases D <;> simp_all
   ·rename_i H
    rw [if_neg H] at J
    cases D <;> simp_all
  apply G
  simp only [Instr.typeAssert,Sem.run_bind,run_underlying h1,Result.andThen_ok]
  cases d <;> first | exact absurd rfl (I _) | (split <;> cases D <;> simp_all [Wv h4])
 ·simp only [Instr.typeAssert,Sem.run_bind,run_underlying h1,Result.andThen_ok]
  cases d <;> first | exact absurd rfl (I _) | (simp [Wv h4])
theorem Zop (H:Bool) {n c:Nat} (lo D:Option Operand) (ρ:Operand->Value) {x:Nat × Nat} (h:Z1 n c lo.isSome D.isSome ((lo.toList++D.toList).map ρ)=some x) :
  (Instr.sliceBounds H n c (lo.map ρ) (D.map ρ) none).run cx.P w = .ok (x.1,x.2,c) w:=by
 rcases Zux h with ⟨h1,G,r,rfl⟩ | ⟨h1,G,k,l,r,hb,rfl⟩ | ⟨h1,G,k,l,r,hb,rfl⟩ | ⟨h1,G,k,l,j,m,r,hb,rfl⟩ <;>
  cases lo <;> cases D <;> simp at h1 G r
 ·simp [Instr.sliceBounds]
 ·simp [Instr.sliceBounds,Instr.sliceBound,asIntOf,hb,r]
 ·simp [Instr.sliceBounds,Instr.sliceBound,asIntOf,hb,r]
 ·have h0:(0:Int)<=m:=by omega
  have I:¬ (max m 0<l):=by omega
  simp [Instr.sliceBounds,Instr.sliceBound,asIntOf,hb,r,h0,I]
theorem Z57 {t e:TypeId} {n:Nat} {lo r:Option Operand} {ρ:Operand->Value} {p v:Value} (h1:cx.P.underlying t=some (.slice e)) (D:Ug cx e=some n)
  (hs:Yg.sem Y w.heap (.slc n lo.isSome r.isSome) (p::(lo.toList++r.toList).map ρ)=some v):(Instr.sliceAt t p (lo.map ρ) (r.map ρ) none).run cx.P w = .ok v w:=by
 obtain ⟨a,m,c,x,rfl,hx,hv⟩:=Zxj hs
 have hc:=Zop (cx:=cx) (w:=w) true lo r ρ hx
 simp only [Instr.sliceAt,Instr.slice,Sem.run_bind,run_underlying h1,Result.andThen_ok,hc,Xt D,Sem.run_pure]
 rcases hv with ⟨rfl,rfl⟩ | ⟨b,o,rfl,rfl⟩ | ⟨b,o,s,rfl,hc,rfl⟩
 ·split <;> rfl
 ·split <;> simp [Addr.add_lit]
 ·subst hc; simp
theorem Z3e {t:TypeId} {lo r:Option Operand} {ρ:Operand->Value} {p v:Value} (h1:cx.P.underlying t=some .string)
  (hs:Yg.sem Y w.heap (.slcS lo.isSome r.isSome) (p::(lo.toList++r.toList).map ρ)=some v):(Instr.sliceAt t p (lo.map ρ) (r.map ρ) none).run cx.P w = .ok v w:=by
 obtain ⟨s,x,rfl,hx,rfl⟩:=Zuf hs
 have hc:=Zop (cx:=cx) (w:=w) false lo r ρ hx
 simp [Instr.sliceAt,Instr.slice,run_underlying h1,hc]
theorem Z27 {t e:TypeId} {len n:Nat} {lo r:Option Operand} {ρ:Operand->Value} {p v:Value} (h1:cx.P.underlying t=some (.array len e)) (D:Ug cx e=some n)
  (hs:Yg.sem Y w.heap (.slcA len n lo.isSome r.isSome) (p::(lo.toList++r.toList).map ρ)=some v):(Instr.sliceAt t p (lo.map ρ) (r.map ρ) none).run cx.P w = .ok v w:=by
 obtain ⟨b,o,x,rfl,hx,rfl⟩:=Zti hs
 have hc:=Zop (cx:=cx) (w:=w) false lo r ρ hx
 simp only [Instr.sliceAt,Sem.run_bind,run_underlying h1,Result.andThen_ok,Instr.sureAddr,Sem.run_pure,hc,Xt D]
 split <;> simp [Addr.add_lit]
theorem Zvg {h:Za} {sz:Nat} {p q r s v:Value} (hs:Yg.sem Y h (.slc3 sz) [p,q,r,s]=some v) :
  ∃ a n c k l j i g m,p = .slice a n c/\q = .int k l/\r = .int j i/\s = .int g m/\0<=l/\l<=i/\i<=m/\m<=c /\
   ((a=none/\v = .slice none (i.toNat-l.toNat) (m.toNat-l.toNat))\/∃ b o,a=some ⟨b,o,none⟩/\v = .slice (some ⟨b,if m.toNat=l.toNat then o else o+l.toNat * sz,none⟩) (i.toNat-l.toNat) (m.toNat-l.toNat)):=by
 cases p with
 | slice a n c =>
  cases q with
  | int k l =>
   cases r with
   | int j i =>
    cases s with
    | int g m =>
     simp only [Yg.sem] at hs
     split at hs
     ·rename_i hb
      refine ⟨a,n,c,k,l,j,i,g,m,rfl,rfl,rfl,rfl,hb.1,hb.2.1,hb.2.2.1,hb.2.2.2,?_⟩
      split at hs
      ·cases hs; exact .inl ⟨rfl,rfl⟩
      ·cases hs; exact .inr ⟨_,_,rfl,rfl⟩
      ·cases hs
     ·cases hs
    | _=>cases hs
   | _=>cases hs
  | _=>cases hs
 | _=>cases hs
theorem Z0n {t e:TypeId} {n:Nat} {lo r mx:Operand} {ρ:Operand->Value} {x:Operand} {v:Value} (h1:cx.P.underlying t=some (.slice e)) (D:Ug cx e=some n)
  (hs:Yg.sem Y w.heap (.slc3 n) ([x,lo,r,mx].map ρ)=some v):(Instr.sliceAt t (ρ x) ((some lo).map ρ) ((some r).map ρ) ((some mx).map ρ)).run cx.P w = .ok v w:=by
 obtain ⟨a,M,c,k,l,j,i,g,m,hp,hq,G,H,O,R,U,V,hv⟩:=Zvg hs
 have c1:0<=m/\m<=(c:Int):=by omega
 have I:0<=i/\i<=(m.toNat:Int):=by omega
 have J:0<=l/\l<=(i.toNat:Int):=by omega
 simp only [Xgq,hp,hq,G,H,Instr.sliceAt,Instr.slice,Sem.run_bind,run_underlying h1,Result.andThen_ok,Instr.sliceBounds,Instr.sliceBound,asIntOf,Sem.run_pure,c1,I,J,and_self,if_true,Xt D]
 rcases hv with ⟨rfl,rfl⟩ | ⟨b,o,rfl,rfl⟩
 ·split <;> rfl
 ·split <;> simp_all [Addr.add_lit]
theorem Zz9 : (Extern.allGenericRows.lookup "internal/bytealg.CountString").isNone = true ∧ (Extern.allTypedRows.lookup "internal/bytealg.CountString").isNone = true ∧ Extern.allRows.lookup "internal/bytealg.CountString" = some Extern.BytealgCount.count := ⟨by kernel_rfl, by kernel_rfl, by kernel_rfl⟩
theorem Z3w : (Extern.allGenericRows.lookup "internal/bytealg.IndexByteString").isNone = true ∧ (Extern.allTypedRows.lookup "internal/bytealg.IndexByteString").isNone = true ∧ Extern.allRows.lookup "internal/bytealg.IndexByteString" = some Extern.BytealgIndexByte.indexByte := ⟨by kernel_rfl, by kernel_rfl, by kernel_rfl⟩
theorem Zv6 {D:Func} {n:String} {e:Array Value->Sem Value} (h:D.name=n) (G:(Extern.allGenericRows.lookup n).isNone=true/\(Extern.allTypedRows.lookup n).isNone=true/\Extern.allRows.lookup n=some e):Extern.find D=some e:=by
 obtain ⟨h1,r,H⟩:=G
 have h1:Extern.allGenericRows.lookup n=none:=by simpa using h1
 have r:Extern.allTypedRows.lookup n=none:=by simpa using r
 unfold Extern.find
 simp only [h,h1,r,H]
 rfl
theorem Z3y {h:Za} {xs:List Value} {v:Value} (hs:Yg.sem Y h (.idxA 0 0) xs=some v):False:=by
 unfold Yg.sem at hs
 split at hs <;> simp_all
 omega
theorem Z5l {o:Oper} {ρ:Operand->Value} {io:Yg} {f:FuncId} {args:Array Operand} {argTypes:Array TypeId} {v:Value} (hρ:∀ f,ρ (.func f) = .func (.func f) #[] #[]) (r:Z1b cx f=some io) (hs:io.sem Y w.heap (args.toList.map ρ)=some v) :
  (do let d <-resolve ρ ⟨.value (.func f),args,argTypes⟩ o.type; invoke d.target d.args:Sem Next).run cx.P w = .ok (.value v) w:=by
 unfold Z1b at r
 split at r
 rotate_left
 ·cases r
 rename_i J hf
 split at r
 rotate_left
 ·cases r
 rename_i hc
 obtain ⟨hb,M,hx⟩:=hc
 have hx:Extern.findNext J=none:=by simpa using hx
 have H:∀ (e:Array Value->Sem Value),Extern.find J=some e->(e (args.map ρ)).run cx.P w = .ok v w ->
   (do let d <-resolve ρ ⟨.value (.func f),args,argTypes⟩ o.type; invoke d.target d.args:Sem Next).run cx.P w = .ok (.value v) w:=by
  intro e O R
  simp only [resolve,hρ,Deferred.ofValue,Sem.run_bind,Sem.run_pure,Result.andThen_ok,invoke]
  have hq:=run_callFunc_extern hf M hb hx O (#[]++args.map ρ++#[]) w
  simp only [Xhk,Array.append_empty] at hq
  simp only [Xhk,Array.append_empty]
  rw [hq,R]
  rfl
 split at r
 ·rename_i D
  cases r
  obtain ⟨s,c,I,rfl⟩:∃ s c,args.toList.map ρ=[.string s,.int .u8 c]/\v = .int .i64 (Lib.countByte s.data.toList c.toNat.toUInt8):=by
   unfold Yg.sem at hs
   split at hs <;> simp_all
   exact ⟨_,_,⟨rfl,rfl⟩,hs.symm⟩
  have G:args.map ρ=#[.string s,.int .u8 c]:=by apply Xed; simpa using I
  exact H _ (Zv6 D Zz9) (by rw [G]; exact Lib.run_countString s c w)
 ·split at r
  ·rename_i D
   cases r
   obtain ⟨s,c,I,rfl⟩:∃ s c,args.toList.map ρ=[.string s,.int .u8 c]/\v = .int .i64 (Lib.indexByte s.data.toList c.toNat.toUInt8):=by
    unfold Yg.sem at hs
    split at hs <;> simp_all
    exact ⟨_,_,⟨rfl,rfl⟩,hs.symm⟩
   have G:args.map ρ=#[.string s,.int .u8 c]:=by apply Xed; simpa using I
   exact H _ (Zv6 D Z3w) (by rw [G]; exact Lib.run_indexByteString s c w)
  ·cases r
   exact (Z3y hs).elim
theorem Z4l {o:Oper} {ρ:Operand->Value} {io:Yg} {xs:List Operand} {v:Value} {c:Call} (hρ:∀ f,ρ (.func f) = .func (.func f) #[] #[]) (D:Zdg cx (.call c)=some (.io io,xs)) (hs:io.sem Y w.heap (xs.map ρ)=some v) :
  (do let d <-resolve ρ c o.type; invoke d.target d.args:Sem Next).run cx.P w = .ok (.value v) w:=by
 obtain ⟨callee,args,argTypes⟩:=c
 simp only [Zdg] at D
 split at D
 ·rename_i f
  split at D
  ·rename_i o J
   cases D
   exact Z5l hρ J hs
  ·simp [Xd7] at D
 ·cases D
 ·split at D
  ·rename_i t x ht G
   have ht:argTypes=#[t]:=by apply Xed; simpa using ht
   have G:args=#[x]:=by apply Xed; simpa using G
   subst ht; subst G
   split at D
   ·rename_i e h1
    cases D
    obtain ⟨a,n,c,hp,rfl⟩:=Zyw hs
    simp [resolve,hp,invoke,builtin,Builtin.len_,run_underlying h1,goInt]
   ·rename_i h1
    cases D
    obtain ⟨s,hp,rfl⟩:=Zur hs
    simp [resolve,hp,invoke,builtin,Builtin.len_,run_underlying h1,goInt]
   ·rename_i n e h1
    cases D
    have hs:some (Value.int .i64 n)=some v:=hs
    cases hs
    simp [resolve,invoke,builtin,Builtin.len_,run_underlying h1,goInt]
   ·rename_i O e h1
    cases D
    obtain ⟨r,R,hp,I,rfl⟩:=Zun hs
    cases r with
    | none =>
     cases I
     simp [resolve,hp,invoke,builtin,Builtin.len_,run_underlying h1,goInt]
    | some r =>
     obtain ⟨M,H,hb,rfl⟩:=Zgm I
     simp [resolve,hp,invoke,builtin,Builtin.len_,run_underlying h1,goInt,Zbs r M H hb]
   ·cases D
  ·cases D
 ·split at D
  ·rename_i t x ht G
   have ht:argTypes=#[t]:=by apply Xed; simpa using ht
   have G:args=#[x]:=by apply Xed; simpa using G
   subst ht; subst G
   split at D
   ·rename_i e h1
    cases D
    obtain ⟨a,n,c,hp,rfl⟩:=Zys hs
    simp [resolve,hp,invoke,builtin,Builtin.cap_,run_underlying h1,goInt]
   ·cases D
  ·cases D
 ·split at D
  ·rename_i x y G
   have G:args=#[x,y]:=by apply Xed; simpa using G
   subst G
   cases D
   obtain ⟨k,a,j,b,hp,hq,rfl⟩:=Zz4 hs
   simp [resolve,hp,hq,invoke,builtin,Builtin.min_,Builtin.min2]
  ·cases D
 ·split at D
  ·rename_i x y G
   have G:args=#[x,y]:=by apply Xed; simpa using G
   subst G
   cases D
   obtain ⟨k,a,j,b,hp,hq,rfl⟩:=Z0k hs
   simp [resolve,hp,hq,invoke,builtin,Builtin.max_,Builtin.max2]
  ·cases D
 ·split at D
  ·split at D
   ·split at D
    ·split at D <;> cases D
    ·split at D <;> cases D
    ·split at D <;> cases D
    ·cases D
   ·cases D
  ·cases D
 ·split at D
  ·split at D
   ·split at D <;> cases D
   ·cases D
  ·cases D
 ·split at D
  ·split at D
   ·simp [Xd7] at D
   ·cases D
  ·cases D
 ·cases D
theorem Znl {o:Oper} {ρ:Operand->Value} {io:Yg} {xs:List Operand} {v:Value} (R:Ok cx Y) (hρ:∀ f,ρ (.func f) = .func (.func f) #[] #[])
  (D:Zdg cx o.op=some (.io io,xs)) (hs:io.sem Y w.heap (xs.map ρ)=some v) :
  (execOp ρ o).run cx.P w = .ok (.value v) w:=by
 unfold execOp
 cases ho:o.op <;> simp only [ho,Zdg] at D ⊢
 case move x =>
  cases D; simp only [Xfi,Xfv,Yg.sem,Xez] at hs; subst hs; rfl
 case assign x =>
  cases D; simp only [Xfi,Xfv,Yg.sem,Xez] at hs; subst hs; rfl
 case pick c a b =>
  cases D
  simp only [Xfi,Xfv] at hs
  generalize ρ c=rc at *
  generalize ρ a=ra at *
  generalize ρ b=rb at *
  cases rc <;> simp only [Yg.sem,Xez,reduceCtorEq] at hs
  subst hs
  simp [asBool]
 case alloc=>simp [Xd7] at D
 case box=>cases D
 case build t ps =>
  split at D
  ·rename_i U z hu hz
   simp only [Xd7,Prod.mk.injEq,Kd.io.injEq] at D
   obtain ⟨pl,V,rfl,rfl⟩:=D
   simp only [Yg.sem,Xeg,Xez] at hs
   obtain ⟨cs,O,rfl⟩:=hs
   refine Wg ?_
   have hm:=Zhi (w:=w) U pl V
   simp only [Instr.build,Sem.run_bind,Wv hz,run_underlying hu,Result.andThen_ok,hm]
   have J:=Zhs ρ ps
   simp only [J,List.getElem?_toArray,O]
   rfl
  ·rename_i n e z hu hz
   simp only [Xd7,Prod.mk.injEq,Kd.io.injEq] at D
   obtain ⟨sz,X,rfl,rfl⟩:=D
   simp only [Yg.sem,Xeg,Xez] at hs
   obtain ⟨cs,O,rfl⟩:=hs
   refine Wg ?_
   have J:=Zhs ρ ps
   simp only [Instr.build,Sem.run_bind,Wv hz,run_underlying hu,Result.andThen_ok,Xt X,J,O]
   rfl
  ·cases D
 case buildSlice t len ps =>
  split at D
  ·split at D
   ·split at D <;> cases D
   ·cases D
  ·cases D
 case load t x =>
  split at D
  ·rename_i d hd
   have key:∀ n,(Xl d=true->Ug cx t=some n)->Yg.sem Y w.heap (.load n (Xl d)) [ρ x]=some v ->
     ((Instr.loadAt t (ρ x)) >>= fun x=>(pure (Next.value x):Sem Next)).run cx.P w = .ok (.value v) w:=by
    intro n M hs
    refine Wg ?_
    generalize ρ x=rx at *
    unfold Instr.loadAt
    match rx,hs with
    | .pointer (some ⟨b,o,none⟩),hs=>simpa [Instr.sureAddr] using Zib hd M hs
    | .pointer (some ⟨b,o,some s⟩),hs=>cases H:Xl d <;> simp [H,Yg.sem] at hs
    | .pointer none,hs=>cases H:Xl d <;> simp [H,Yg.sem] at hs
    | .bool _,hs | .int _ _,hs | .float _ _,hs | .complex _ _ _,hs | .string _,hs | .slice _ _ _,hs | .map _,hs | .chan _,hs | .func _ _ _,hs | .nilFunc,hs | .iface _ _,hs | .nilIface,hs | .agg _,hs | .tuple _,hs=>cases H:Xl d <;> simp [H,Yg.sem] at hs
   split at D
   ·rename_i H
    simp only [Xd7,Prod.mk.injEq,Kd.io.injEq] at D
    obtain ⟨n,M,rfl,rfl⟩:=D
    exact key n (fun _=>M) (by simpa [H] using hs)
   ·rename_i H
    cases D
    have H:Xl d=false:=by simpa using H
    exact key 1 (fun h=>by rw [H] at h; cases h) (by simpa [H] using hs)
  ·cases D
 case store=>simp [Xd7] at D
 case nilCheck x =>
  cases D
  simp only [Xfi,Xfv] at hs
  generalize ρ x=rx at *
  unfold Yg.sem at hs
  split at hs <;> simp_all <;> (subst hs; rfl)
 case binOp op t x y yt =>
  simp only [Xd7,Prod.mk.injEq] at D
  obtain ⟨k,D,rfl,rfl⟩:=D
  exact Z54 D hs
 case unOp op t x =>
  cases D
  exact Wg (Z8a hs)
 case convert sT dT x =>
  split at D
  ·rename_i h1 G; cases D; exact Wg (Z31 h1 G hs)
  ·rename_i h1 G
   split at D
   ·rename_i I; cases D; exact Wg (Z5j h1 G I hs)
   ·cases D
  ·split at D
   ·cases D
   ·cases D
  ·split at D
   ·split at D
    ·cases D
    ·cases D
   ·cases D
  ·cases D
 case makeInterface t x =>
  split at D
  ·cases D
  ·rename_i d M h1
   simp only [Xd7,Prod.mk.injEq,Kd.io.injEq] at D
   obtain ⟨n,Z,rfl,rfl⟩:=D
   exact Wg (Z55 R h1 (fun ms hd=>M ms hd) Z hs)
  ·cases D
 case makeFunc fn first cap =>
  cases fn <;> simp only [reduceCtorEq] at D
  simp only [Xd7,Prod.mk.injEq,Kd.io.injEq] at D
  obtain ⟨n,M,rfl,rfl⟩:=D
  refine Wg ?_
  have hs:some (Value.func (.func (Y.fid n)) (((first.toList++cap.toList).map ρ).take first.size).toArray (((first.toList++cap.toList).map ρ).drop first.size).toArray)=some v:=hs
  simp only [Xez] at hs
  subst hs
  rw [(R.hf _ _ M).1]
  have h1:(((first.toList++cap.toList).map ρ).take first.size).toArray=first.map ρ:=by
   rw [Xe1,List.take_left' (by simp)]
   apply Xed; simp
  have G:(((first.toList++cap.toList).map ρ).drop first.size).toArray=cap.map ρ:=by
   rw [Xe1,List.drop_left' (by simp)]
   apply Xed; simp
  rw [h1,G]
  rfl
 case makeSlice t l c =>
  split at D
  ·split at D <;> cases D
  ·cases D
 case slice t x lo hi mx =>
  cases mx with
  | some m =>
   cases lo with
   | none=>simp at D
   | some l =>
    cases hi with
    | none=>simp at D
    | some j =>
     simp only at D
     split at D
     ·rename_i e h1
      simp only [Xd7,Prod.mk.injEq,Kd.io.injEq] at D
      obtain ⟨n,G,rfl,rfl⟩:=D
      exact Wg (Z0n h1 G hs)
     ·cases D
  | none =>
   simp only at D
   split at D
   ·rename_i e h1
    simp only [Xd7,Prod.mk.injEq,Kd.io.injEq] at D
    obtain ⟨n,G,rfl,rfl⟩:=D
    exact Wg (Z57 h1 G hs)
   ·rename_i h1; cases D; exact Wg (Z3e h1 hs)
   ·rename_i len e h1
    simp only [Xd7,Prod.mk.injEq,Kd.io.injEq] at D
    obtain ⟨n,G,rfl,rfl⟩:=D
    exact Wg (Z27 h1 G hs)
   ·cases D
 case fieldAddr t x f =>
  split at D
  ·rename_i U h1
   simp only [Xeg] at D
   obtain ⟨fd,G,n,I,D⟩:=D
   split at D
   ·cases D
   ·rename_i h4; cases D; exact Wg (Z14 h1 G I h4 hs)
  ·cases D
 case field t x f =>
  split at D
  ·rename_i U h1
   simp only [Xeg] at D
   obtain ⟨fd,G,D⟩:=D
   split at D
   ·rename_i d I
    split at D
    ·rename_i H
     simp only [Xd7,Prod.mk.injEq,Kd.io.injEq] at D
     obtain ⟨n,h4,rfl,rfl⟩:=D
     exact Wg (Zvq h1 G I (n:=n) (fun _=>h4) (by rw [H]; exact hs))
    ·rename_i H
     have H:Xl d=false:=by simpa using H
     cases D
     exact Wg (Zvq h1 G I (n:=1) (fun h=>by rw [H] at h; cases h) (by rw [H]; exact hs))
   ·cases D
  ·cases D
 case indexAddr t x i =>
  split at D
  ·rename_i e h1
   simp only [Xd7,Prod.mk.injEq,Kd.io.injEq] at D
   obtain ⟨n,G,rfl,rfl⟩:=D
   exact Wg (Z20 h1 G hs)
  ·rename_i len e h1
   simp only [Xd7,Prod.mk.injEq,Kd.io.injEq] at D
   obtain ⟨n,G,rfl,rfl⟩:=D
   exact Wg (Z00 h1 G hs)
  ·cases D
 case index t x i =>
  split at D
  ·rename_i h1; cases D; exact Wg (Z3g h1 hs)
  ·rename_i len e h1
   split at D
   ·rename_i d n G I; cases D; exact Wg (Zz6 h1 G I hs)
   ·cases D
  ·cases D
 case typeAssert x xT t aa =>
  split at D
  ·cases D
  ·rename_i d M h1
   split at D
   ·rename_i n z I h4; cases D; exact Wg (Z8d R h1 (fun ms hd=>M ms hd) I h4 hs)
   ·cases D
  ·cases D
 case extract x i =>
  cases D
  obtain ⟨vs,hp,hv⟩:=Zxb hs
  refine Wg ?_
  rw [hp]
  simp [Instr.extract,hv]
 case call c=>exact Z4l hρ D hs
 case makeMap t r=>split at D <;> cases D
 case mapUpdate t m k x =>
  split at D
  ·simp [Xd7] at D
  ·cases D
 case lookup t m k ab =>
  split at D
  ·rename_i kt e h1
   split at D
   ·rename_i n z G I
    cases D
    exact Wg (Ztv h1 G I hs)
   ·cases D
  ·cases D
 all_goals cases D
end ops
end Go.Rm
namespace Go.Rm
section ops
variable {cx:Cx} {Y:Sys} {w:World}
def Leaves (cx:Cx) (s:Sem Next) (w:World) (K:Value->Za->Prop):Prop :=
 ∃ r v w',s.run cx.P w = .ok r w'/\(r = .value v\/(r = .skip/\v=undef))/\Same w w'/\K v w'.heap
theorem Zbo {s:Sem Value} {v:Value} {w':World} {K:Value->Za->Prop} (h:s.run cx.P w = .ok v w') (hs:Same w w') (r:K v w'.heap) :
  Leaves cx (s >>= fun x=>(pure (Next.value x):Sem Next)) w K :=
 ⟨.value v,v,w',by simp [h],.inl rfl,hs,r⟩
theorem Zsn {s:Sem Unit} {w':World} {K:Value->Za->Prop} (h:s.run cx.P w = .ok () w') (hs:Same w w') (r:K undef w'.heap) :
  Leaves cx (s >>= fun _=>(pure Next.skip:Sem Next)) w K :=
 ⟨.skip,undef,w',by simp [h],.inr ⟨rfl,rfl⟩,hs,r⟩
theorem Zip:∀ (vs:List Value) (i:Nat) (w:World) (b o:Nat) (h':Za),hst w.heap b (o+i) vs=some h' ->
  ∃ w',(storeCells ⟨b,o,none⟩ vs i).run cx.P w = .ok () w'/\Same w w'/\w'.heap=h':=by
 intro vs
 induction vs with
 | nil=>intro i w b o h' hs; simp only [hst,Xez] at hs; exact ⟨w,rfl,Same.refl w,hs⟩
 | cons v r G =>
  intro i w b o h' hs
  simp only [hst] at hs
  split at hs
  ·rename_i hc
   simp only [Xec,Xfm] at hc
   obtain ⟨⟨hc,hf⟩,h1⟩:=hc
   obtain ⟨u,hu⟩:=Option.isSome_iff_exists.1 hc
   have D:(store ((⟨b,o,none⟩:Addr).add i) v).run cx.P w = .ok () (w.setCell ⟨b,o+i,none⟩ v):=by
    rw [Addr.add_lit,run_store cx.P w _ v _ h1,Zi1,hu,Zsz,hf]
    rfl
   have H:=Zoc w b (o+i) v
   obtain ⟨w',h1,I,J⟩:=G (i+1) (w.setCell ⟨b,o+i,none⟩ v) b o h' (by rw [H]; exact hs)
   refine ⟨w',?_,Same.trans (b:=w.setCell ⟨b,o+i,none⟩ v) ⟨rfl,rfl,rfl⟩ I,J⟩
   simp only [storeCells,Sem.run_bind,D,Result.andThen_ok,h1]
  ·cases hs
theorem Zq5 {h:Za} {K:Value->Za->Prop} {sz:Nat} {p q:Value} (hs:Ef.wp h K (.store sz) [p,q]) :
  ∃ b o h',p = .pointer (some ⟨b,o,none⟩)/\q.cells.size=sz/\hst h b o q.cells.toList=some h'/\K undef h':=by
 cases p with
 | pointer a =>
  cases a with
  | none=>exact hs.elim
  | some a =>
   obtain ⟨b,o,s⟩:=a
   cases s with
   | some s=>exact hs.elim
   | none =>
    obtain ⟨h1,r⟩:=hs
    cases D:hst h b o q.cells.toList with
    | none=>rw [D] at r; exact r.elim
    | some h'=>rw [D] at r; exact ⟨b,o,h',rfl,h1,D,r⟩
 | _=>exact hs.elim
theorem Zy7 {t:TypeId} {n:Nat} {p q:Value} {K:Value->Za->Prop} (h1:Ug cx t=some n) (hs:Ef.wp w.heap K (.store n) [p,q]) :
  ∃ w',(Instr.storeAt t p q).run cx.P w = .ok () w'/\Same w w'/\K undef w'.heap:=by
 obtain ⟨b,o,h',rfl,r,D,G⟩:=Zq5 hs
 obtain ⟨w',H,I,h4⟩:=Zip (cx:=cx) q.cells.toList 0 w b o h' (by simpa using D)
 refine ⟨w',?_,I,by rw [h4]; exact G⟩
 simp only [Instr.storeAt,Instr.sureAddr,Sem.run_bind,Sem.run_pure,Result.andThen_ok,storeVar,Xt h1,r]
 simp [H]
theorem Z5r {t:TypeId} {p:Value} {K:Value->Za->Prop} (hs:Ef.wp w.heap K .new [p]) :
  ∃ v w',(do pure (.pointer (some (<-newVar t p))):Sem Value).run cx.P w = .ok v w'/\Same w w'/\K v w'.heap :=
 ⟨_,{ w with heap:=w.heap.push (.cells p.cells t) },by simp [newVar,newRow],⟨rfl,rfl,rfl⟩,hs t⟩
theorem Zt4 {t e:TypeId} {len sz:Nat} {z:Value} {ps:Array (Nat × Operand)} {ρ:Operand->Value} {K:Value->Za->Prop} (h1:cx.P.underlying t=some (.slice e)) (G:Ug cx e=some sz) (H:Qe cx e=some z)
  (h4:len * sz<=16777216) (hs:Ef.wp w.heap K (.bslice len sz (if len * sz=0 then #[] else z.cells) (ps.toList.map (·.1))) ((ps.toList.map (·.2)).map ρ)) :
  ∃ v w',(Instr.buildSlice t len (ps.map fun (i,x)=>(i,ρ x))).run cx.P w = .ok v w'/\Same w w'/\K v w'.heap:=by
 simp only [Ef.wp] at hs
 have D:¬ (16777216<len * sz):=by omega
 split at hs
 ·rename_i cs r
  refine ⟨_,{ w with heap:=w.heap.push (.cells cs e) },?_,⟨rfl,rfl,rfl⟩,hs e⟩
  have hp:=Zhs ρ ps
  simp only [Xj] at r
  by_cases hz:len * sz=0
  ·simp only [hz,if_true,Xfn] at r
   simp only [Xgp,Xfn] at hp
   simp at r
   simp [Instr.buildSlice,run_underlying h1,Xt G,hz,hp,r,newRow]
  ·simp only [hz,if_false,Xfn] at r
   simp only [Xgp,Xfn] at hp
   simp [Instr.buildSlice,run_underlying h1,Xt G,D,hz,Wv H,hp,r,newRow]
 ·exact hs.elim
theorem Z3t {h:Za} {K:Value->Za->Prop} {sz bytes:Nat} {zero:Array Value} {p q:Value} (hs:Ef.wp h K (.mkslice sz bytes zero) [p,q]) :
  ∃ j l k c,p = .int j l/\q = .int k c/\(0<=l/\l<=c/\c<=9223372036854775807/\(bytes:Int) * c<=281474976710656 /\
   ∀ t:TypeId,K (.slice (some ⟨h.size,0,none⟩) l.toNat c.toNat) (h.push (.cells (Xj zero (c.toNat * sz)) t))):=by
 cases p with
 | int j l =>
  cases q with
  | int k c=>exact ⟨j,l,k,c,rfl,rfl,hs⟩
  | _=>exact hs.elim
 | _=>exact hs.elim
theorem Zrf {t e:TypeId} {sz:Nat} {z:Value} {i:TypeInfo} {p q:Value} {K:Value->Za->Prop} (h1:cx.P.underlying t=some (.slice e)) (M:Ug cx e=some sz) (O:Qe cx e=some z)
  (h4:cx.P.info? e=some i) (hs:Ef.wp w.heap K (.mkslice sz i.bytes z.cells) [p,q]) :
  ∃ v w',(Instr.makeSlice t p q).run cx.P w = .ok v w'/\Same w w'/\K v w'.heap:=by
 obtain ⟨j,l,k,c,rfl,rfl,h0,R,hc,hb,U⟩:=Z3t hs
 have D:IntKind.i64.wrap l=l:=by rw [IntKind.wrap_i64]; omega
 have G:IntKind.i64.wrap c=c:=by rw [IntKind.wrap_i64]; omega
 refine ⟨_,{ w with heap:=w.heap.push (.cells (Xj z.cells (c.toNat * sz)) e) },?_,⟨rfl,rfl,rfl⟩,U e⟩
 have H:¬ (c<0):=by omega
 have I:¬ (l<0):=by omega
 have r:¬ (c<l):=by omega
 have J:¬ (281474976710656<(i.bytes:Int) * c):=by omega
 by_cases hz:c.toNat * sz=0
 ·simp [Instr.makeSlice,run_underlying h1,asInt,asIntOf,typeInfo,h4,D,G,H,I,r,J,Xt M,hz,newRow,Xj]
  congr 2; apply Xfp <;> simp
 ·simp [Instr.makeSlice,run_underlying h1,asInt,asIntOf,typeInfo,h4,D,G,H,I,r,J,Xt M,hz,Wv O,newRow,Xj]
theorem Zyi {t D e:TypeId} {r:Option Operand} {ρ:Operand->Value} {K:Value->Za->Prop} (h1:cx.P.underlying t=some (.map D e)) (hs:Ef.wp w.heap K .mkmap (r.toList.map ρ)) :
  ∃ v w',(Instr.makeMap t (r.map ρ)).run cx.P w = .ok v w'/\Same w w'/\K v w'.heap:=by
 refine ⟨.map (some w.heap.size),{ w with heap:=w.heap.push (.map #[] 0) },?_,⟨rfl,rfl,rfl⟩,?_⟩
 ·cases r with
  | none=>simp [Instr.makeMap,newObj,Sem.run]
  | some x =>
   simp only [Option.toList_some,Xfi,Xfv] at hs
   cases hx:ρ x <;> rw [hx] at hs <;> first | exact hs.elim | skip
   rename_i k n
   simp [Instr.makeMap,run_underlying h1,asInt,asIntOf,hx,newObj,Sem.run]
 ·cases r with
  | none=>exact hs
  | some x =>
   simp only [Option.toList_some,Xfi,Xfv] at hs
   cases hx:ρ x <;> rw [hx] at hs <;> first | exact hs.elim | exact hs
theorem Zlt:∀ {xs r:List Value},Qf xs r=some true->xs=r/\∀ d,((xs.zip r).all fun (x,y)=>Instr.sameBits (d+1) x y)=true:=by
 intro xs
 induction xs with
 | nil =>
  intro r h
  cases r with
  | nil=>exact ⟨rfl,fun d=>rfl⟩
  | cons y r=>cases h
 | cons x xs G =>
  intro r h
  cases r with
  | nil=>cases x <;> cases h
  | cons y r =>
   cases x with
   | int k a =>
    cases y with
    | int j b =>
     have h:(if k=j then (Qf xs r).map fun c=>(a == b) && c else none)=some true:=h
     by_cases D:k=j
     ·subst D
      rw [if_pos rfl,Xd7] at h
      obtain ⟨c,hc,hb⟩:=h
      simp only [Xec,beq_iff_eq] at hb
      obtain ⟨rfl,rfl⟩:=hb
      obtain ⟨rfl,H⟩:=G hc
      refine ⟨rfl,fun d=>?_⟩
      simp only [Xhl,List.all_cons,H d,Bool.and_true]
      simp [Instr.sameBits]
     ·rw [if_neg D] at h; cases h
    | _=>cases h
   | _=>cases h
theorem Zsw {r:Option Nat} {x y:Value} (h:Zbk r x y=some true):x=y/\∀ d,Instr.sameBits (d+2) y x=true:=by
 rcases Zan h with ⟨j,p,q,_,rfl,rfl,hb⟩ | ⟨n,xs,D,_,rfl,rfl,_,_,G⟩
 ·have:p=q:=by simpa using hb.symm
  subst this
  exact ⟨rfl,fun d=>by simp [Instr.sameBits]⟩
 ·obtain ⟨h4,H⟩:=Zlt G
  have:xs=D:=Array.toList_inj.1 h4
  subst this
  refine ⟨rfl,fun d=>?_⟩
  rw [show d+2=(d+1)+1 from rfl,Instr.sameBits]
  simp only [beq_self_eq_true,Bool.true_and]
  exact H d
theorem Z1u {D:Option Nat} {x:Value}:∀ {r:List MapEntry} {i j:Nat} {v:Value},Vm D x r i=some (some (j,v))->i<=j/\∃ e,r[j-i]? = some e/\Zbk D x e.key=some true:=by
 intro r
 induction r with
 | nil=>intro i j v h; cases h
 | cons e r G =>
  intro i j v h
  unfold Vm at h
  split at h
  ·rename_i hb
   cases h
   exact ⟨Xd6 _,e,by simp,hb⟩
  ·obtain ⟨h1,H,I,J⟩:=G h
   refine ⟨by omega,H,?_,J⟩
   rw [show j-i=(j-(i+1))+1 by omega]
   simpa using I
  ·cases h
theorem Zw9 {r new:Value} (h:∀ d,Instr.sameBits (d+2) r new=true):(Instr.keyThatStays r new).run cx.P w = .ok new w:=by
 have:=h 9998
 unfold Instr.keyThatStays
 rw [if_pos this]
 rfl
theorem Zk7 {r:Nat} {G:Array MapEntry} {D:Nat} (o:Obj) (hb:w.heap[r]? = some (.map G D)):(setObj r o).run cx.P w = .ok () { w with heap:=w.heap.setIfInBounds r o }:=by
 simp [setObj,Sem.run,hb]
theorem Ztq {h:Za} {K:Value->Za->Prop} {I:Option Nat} {p q x:Value} (hs:Ef.wp h K (.mupd I) [p,q,x]) :
  ∃ r G D a,p = .map (some r)/\h[r]? = some (.map G D)/\Zab I q=true/\Vm I q G.toList 0=some a /\
   match a with
   | some (i,_)=>K undef (h.setIfInBounds r (.map (G.modify i fun e=>{ e with key:=q,val:=x }) D))
   | none=>K undef (h.setIfInBounds r (.map (G.push { key:=q,val:=x,born:=D }) (D+1))):=by
 cases p <;> first | exact hs.elim | skip
 rename_i r
 cases r with
 | none=>exact hs.elim
 | some r =>
  simp only [Ef.wp] at hs
  split at hs
  ·rename_i G D hb
   obtain ⟨h1,H⟩:=hs
   split at H
   ·rename_i i v hf
    exact ⟨r,G,D,some (i,v),rfl,hb,h1,hf,H⟩
   ·rename_i hf
    exact ⟨r,G,D,none,rfl,hb,h1,hf,H⟩
   ·exact H.elim
  ·exact hs.elim
theorem Z22 {t O e:TypeId} {R:Option Nat} {p q x:Value} {K:Value->Za->Prop} (h1:cx.P.underlying t=some (.map O e)) (H:U2 cx O=some R) (hs:Ef.wp w.heap K (.mupd R) [p,q,x]) :
  ∃ w',(Instr.mapUpdate t p q x).run cx.P w = .ok () w'/\Same w w'/\K undef w'.heap:=by
 obtain ⟨r,G,D,a,rfl,hb,hq,hf,U⟩:=Ztq hs
 cases a with
 | none =>
  refine ⟨{ w with heap:=w.heap.setIfInBounds r (.map (G.push { key:=q,val:=x,born:=D }) (D+1)) },?_,⟨rfl,rfl,rfl⟩,U⟩
  simp [Instr.mapUpdate,run_underlying h1,Zbs r G D hb,W9 _ H hq,Zap H hf,Zk7 _ hb]
 | some a =>
  obtain ⟨i,v⟩:=a
  refine ⟨{ w with heap:=w.heap.setIfInBounds r (.map (G.modify i fun e=>{ e with key:=q,val:=x }) D) },?_,⟨rfl,rfl,rfl⟩,U⟩
  obtain ⟨_,V,X,I⟩:=Z1u hf
  obtain ⟨Z,J⟩:=Zsw I
  have M:G[i]? = some V:=by simpa using X
  simp [Instr.mapUpdate,run_underlying h1,Zbs r G D hb,W9 _ H hq,Zap H hf,M,Zw9 J,Zk7 _ hb]
theorem Z5w {D G e:TypeId} {p:Value} {K:Value->Za->Prop} (h1:cx.P.underlying D=some .string) (J:cx.P.underlying G=some (.slice e)) (M:cx.P.underlying e=some (.int .u8))
  (hs:Ef.wp w.heap K .s2b [p]):∃ v w',(convert D G p).run cx.P w = .ok v w'/\Same w w'/\K v w'.heap:=by
 cases p with
 | string s =>
  have hs:∀ (t:TypeId) (r:Nat),s.size<=r->K (.slice (some ⟨w.heap.size,0,none⟩) s.size r)
    (w.heap.push (.cells ((s.data.map fun b=>Value.int .u8 b.toNat)++Array.replicate (r-s.size) (.int .u8 0)) t (r,r+1))):=hs
  have I:=run_bytes_of_string (P:=cx.P) w D G e s h1 J M
  have hge:=grownCap_ge w s.size 0 e
  have H:(bytesRow s (grownCap w s.size 0 e)).size=grownCap w s.size 0 e:=by
   have:s.data.size=s.size:=rfl
   simp [bytesRow]; omega
  rw [H] at I
  refine ⟨_,_,I,⟨rfl,rfl,rfl⟩,?_⟩
  exact hs e (grownCap w s.size 0 e) hge
 | _=>exact hs.elim
theorem Z4k {r e:TypeId} {p:Value} {K:Value->Za->Prop} (h1:cx.P.underlying r=some (.slice e)) (J:cx.P.underlying e=some (.int .u8))
  (hs:Ef.wp w.heap K .b2b [p]):∃ v w',(convert r r p).run cx.P w = .ok v w'/\Same w w'/\K v w'.heap:=by
 cases p with
 | slice a n c =>
  cases a with
  | none=>exact hs.elim
  | some a =>
   simp only [Ef.wp] at hs
   split at hs
   ·rename_i cs t hb
    have D:w.shape? a.block=some (t,cs.size):=by
     unfold World.shape?
     rw [hb]
    have G:(w.freeze ⟨a.block,cs.size,none⟩ 1).heap=w.heap.modify a.block fun _=>.cells cs t (cs.size,cs.size+1):=by
     unfold World.freeze
     rw [if_neg (by decide)]
     simp only
     have H:=(Array.getElem?_eq_some_iff.1 hb)
     apply Xfp
     ·simp
     ·intro i M g2
      simp only [Array.getElem_modify]
      by_cases I:a.block=i
      ·subst I
       obtain ⟨_,hv⟩:=H
       simp [hv]
      ·simp [I]
    refine ⟨.slice (some a) n c,w.freeze ⟨a.block,cs.size,none⟩ 1,?_,⟨?_,?_,?_⟩,?_⟩
    ·simp [convert,run_underlying h1,run_underlying J,markStringish,D]
    ·unfold World.freeze; rw [if_neg (by decide)]
    ·unfold World.freeze; rw [if_neg (by decide)]
    ·unfold World.freeze; rw [if_neg (by decide)]
    ·rw [G]; exact hs
   ·exact hs.elim
 | _=>exact hs.elim
theorem Ziv {sz n:Nat} {x:Value} {l:List Value} (hs:Wq w.heap sz n x=some l) (w':World) (r:w'.heap=w.heap):(Builtin.firstCells sz n x).run cx.P w' = .ok l.toArray w':=by
 cases x with
 | slice a m c =>
  cases a with
  | none=>have hs:some []=some l:=hs; cases hs; rfl
  | some a =>
   obtain ⟨b,o,s⟩:=a
   cases s with
   | none=>exact U7 (by rw [r]; exact hs)
   | some s =>
    have hs:(if n=0 then some [] else none)=some l:=hs
    split at hs
    ·rename_i h0
     cases hs
     subst h0
     simp [Builtin.firstCells,loadCells,loadCellsFrom]
    ·cases hs
 | string s =>
  have hs:some ((s.extract 0 n).data.toList.map fun b:UInt8=>Value.int .u8 b.toNat)=some l:=hs
  cases hs
  simp only [Builtin.firstCells,Sem.run_pure]
  congr 1
  apply Xed
  simp
 | _=>cases hs
theorem Zen {x:Value} {m:Nat} (hs:Zfa x=some m):(Builtin.lenOf x).run cx.P w = .ok m w:=by
 cases x <;> cases hs <;> rfl
theorem Zk5 {Zjy c bytes:Nat} (h:¬ Zjy<=c) (hb:Zjy * bytes<=140737488355328):Builtin.nextslicecap Zjy c * bytes<=281474976710656:=by
 exact growslice_fits (by omega) hb
theorem Zoy {h:Za} {K:Value->Za->Prop} {sz bytes:Nat} {zero:Array Value} {p x:Value} (hs:Ef.wp h K (.append sz bytes zero) [p,x]) :
  ∃ a n c m nw,p = .slice a n c/\Zfa x=some m/\Wq h sz m x=some nw /\
   (if n+m<=c then
    match a with
    | some ⟨b,o,none⟩ =>
     match hst h b (o+n * sz) nw with
     | some h'=>K (.slice a (n+m) c) h'
     | none=>False
    | none=>K (.slice none (n+m) c) h
    | _=>False
   else
    n+m<=9223372036854775807/\(n+m) * bytes<=140737488355328 /\
    match Wq h sz n (.slice a n c) with
    | some G=>∀ (t:TypeId) (D:Nat),n+m<=D->D<=9223372036854775807 ->
      K (.slice (some ⟨h.size,0,none⟩) (n+m) D) (h.push (.cells (G.toArray++nw.toArray++Builtin.zeroCells zero (D-(n+m))) t))
    | none=>False):=by
 cases p with
 | slice a n c =>
  simp only [Ef.wp] at hs
  cases H:Zfa x with
  | none=>rw [H] at hs; exact hs.elim
  | some m =>
   rw [H] at hs
   simp only at hs
   cases r:Wq h sz m x with
   | none=>rw [r] at hs; exact hs.elim
   | some nw =>
    rw [r] at hs
    exact ⟨a,n,c,m,nw,rfl,rfl,r,hs⟩
 | _=>exact hs.elim
theorem Ztk {t u e ty:TypeId} {du:TypeDesc} {sz:Nat} {z:Value} {i:TypeInfo} {p x:Value} {K:Value->Za->Prop} (h1:cx.P.underlying t=some (.slice e)) (M:cx.P.underlying u=some du)
  (ae:∀ k,du≠.int k) (O:Ug cx e=some sz) (h3:Qe cx e=some z)
  (h4:cx.P.info? e=some i) (R:i.bytes≠0) (hs:Ef.wp w.heap K (.append sz i.bytes z.cells) [p,x]) :
  ∃ v w',(Builtin.append_ #[t,u] ty #[p,x]).run cx.P w = .ok v w'/\Same w w'/\K v w'.heap:=by
 obtain ⟨a,n,c,m,nw,rfl,U,G,hs⟩:=Zoy hs
 have r:=Ziv (cx:=cx) G
 by_cases D:n+m<=c
 ·rw [if_pos D] at hs
  cases a with
  | none =>
   refine ⟨.slice none (n+m) c,w,?_,Same.refl w,hs⟩
   simp [Builtin.append_,run_underlying h1,run_underlying M,Xt O,Zen U,D,r w rfl]
  | some a =>
   obtain ⟨b,o,s⟩:=a
   cases s with
   | some s=>exact hs.elim
   | none =>
    simp only at hs
    cases V:hst w.heap b (o+n * sz) nw with
    | none=>rw [V] at hs; exact hs.elim
    | some h' =>
     rw [V] at hs
     obtain ⟨w',g1,g2,g3⟩:=Zip (cx:=cx) nw 0 w b (o+n * sz) h' (by simpa using V)
     refine ⟨_,w',?_,g2,by rw [g3]; exact hs⟩
     simp [Builtin.append_,run_underlying h1,run_underlying M,Xt O,Zen U,D,r w rfl,Addr.add_lit,g1]
 ·rw [if_neg D] at hs
  obtain ⟨af,X,hs⟩:=hs
  cases Z:Wq w.heap sz n (.slice a n c) with
  | none=>rw [Z] at hs; exact hs.elim
  | some aa =>
   rw [Z] at hs
   have H:=Ziv (cx:=cx) Z
   have hge:=grownCap_ge w (n+m) c e
   have ab:=grownCap_le_maxLen w (n+m) c e (by simp only [maxLen]; omega)
   have I:¬ (9223372036854775807<((n:Int)+(m:Int))):=by omega
   have J:¬ (281474976710656<Builtin.nextslicecap (n+m) c * i.bytes):=by have:=Zk5 D X; omega
   refine ⟨_,w.drew.alloc (.cells (aa.toArray++nw.toArray++Builtin.zeroCells z.cells (grownCap w (n+m) c e-(n+m))) e),?_,⟨rfl,rfl,rfl⟩,
    hs e (grownCap w (n+m) c e) hge (by simp only [maxLen] at ab; omega)⟩
   have ac:=H w.drew rfl
   have ad:=r w.drew rfl
   simp [Builtin.append_,run_underlying h1,run_underlying M,Xt O,Zen U,D,typeInfo,h4,I,J,R,Question.forced,ac,ad,Wv h3,newRow,grownCap]
   congr 2
   apply Xed
   simp [Xe6]
theorem Zu9 {h:Za} {K:Value->Za->Prop} {sz bytes:Nat} {zero:Array Value} {p x:Value} (hs:Ef.wp h K (.appz sz bytes zero) [p,x]) :
  ∃ a n c l,p = .slice a n c/\x = .int .i64 l/\0<l/\c<n+l.toNat/\n+l.toNat<=9223372036854775807/\(n+l.toNat) * bytes<=140737488355328 /\
    ∃ r,Wq h sz n (.slice a n c)=some r/\∀ (t:TypeId) (D:Nat),n+l.toNat<=D->D<=9223372036854775807 ->
      K (.slice (some ⟨h.size,0,none⟩) (n+l.toNat) D) (h.push (.cells (r.toArray++Builtin.zeroCells zero l.toNat++Builtin.zeroCells zero (D-(n+l.toNat))) t)):=by
 cases p with
 | slice a n c =>
  cases x with
  | int k l =>
   cases k with
   | i64 =>
    obtain ⟨h1,I,J,h4,G⟩:=hs
    cases H:Wq h sz n (.slice a n c) with
    | none=>rw [H] at G; exact G.elim
    | some r =>
     rw [H] at G
     exact ⟨a,n,c,l,rfl,rfl,h1,I,J,h4,r,H,G⟩
   | _=>exact hs.elim
  | _=>exact hs.elim
 | _=>exact hs.elim
theorem Z1a {t u e ty:TypeId} {q:IntKind} {sz:Nat} {z:Value} {i:TypeInfo} {p x:Value} {K:Value->Za->Prop} (h1:cx.P.underlying t=some (.slice e)) (h5:cx.P.underlying u=some (.int q))
  (h2:Ug cx e=some sz) (h3:Qe cx e=some z) (h4:cx.P.info? e=some i) (hz:z.cells.size=sz) (J:i.bytes≠0) (ab:sz≠0) (hs:Ef.wp w.heap K (.appz sz i.bytes z.cells) [p,x]) :
  ∃ v w',(Builtin.append_ #[t,u] ty #[p,x]).run cx.P w = .ok v w'/\Same w w'/\K v w'.heap:=by
 obtain ⟨a,n,c,l,rfl,rfl,hl,hr,M,D,O,ho,hs⟩:=Zu9 hs
 obtain ⟨m,rfl⟩:∃ m:Nat,l=m:=⟨l.toNat,by omega⟩
 simp only [Xd9] at hr M D hs
 have hm:0<m:=by omega
 have G:=Ziv (cx:=cx) ho
 have hge:=grownCap_ge w (n+m) c e
 have R:=grownCap_le_maxLen w (n+m) c e (by simp only [maxLen]; omega)
 have H:¬ (9223372036854775807<((n:Int)+(m:Int))):=by omega
 have I:¬ (281474976710656<Builtin.nextslicecap (n+m) c * i.bytes):=by have:=Zk5 (c:=c) (Zjy:=n+m) (by omega) D; omega
 have U:IntKind.i64.wrap (m:Int)=(m:Int):=by
  have e:(m:Int) % (2 ^ 64:Int)=m:=Int.emod_eq_of_lt (by omega) (by omega)
  have hd:IntKind.i64.wrap (m:Int)=if true && decide ((m:Int) % (2 ^ 64:Int)>=(2 ^ 63:Int)) then (m:Int) % (2 ^ 64:Int)-2 ^ 64 else (m:Int) % (2 ^ 64:Int):=rfl
  rw [hd]
  simp only [e]
  rw [if_neg (by simp; omega)]
 have ac:m * i.bytes<=(n+m) * i.bytes:=Xe7 _ (by omega)
 have r:¬ (281474976710656<(m:Int) * (i.bytes:Int)):=by
  have:((m * i.bytes:Nat):Int)=(m:Int) * (i.bytes:Int):=Int.natCast_mul ..
  omega
 have V:¬ m * sz=0:=by
  intro h0
  rcases Nat.mul_eq_zero.1 h0 with h | h <;> omega
 have X:¬ ((m:Int)<0):=by omega
 have Z:¬ n+m<=c:=by omega
 refine ⟨_,w.drew.alloc (.cells (O.toArray++Builtin.zeroCells z.cells m++Builtin.zeroCells z.cells (grownCap w (n+m) c e-(n+m))) e),?_,⟨rfl,rfl,rfl⟩,
  hs e (grownCap w (n+m) c e) hge (by simp only [maxLen] at R; omega)⟩
 have aa:=G w.drew rfl
 simp [Builtin.append_,run_underlying h1,run_underlying h5,Xt h2,asInt,asIntOf,U,X,r,Z,typeInfo,h4,H,I,J,V,Question.forced,aa,Wv h3,newRow,grownCap]
theorem Zu1 {h:Za} {K:Value->Za->Prop} {sz:Nat} {p x:Value} (hs:Ef.wp h K (.copy sz) [p,x]) :
  ∃ a n c m nw,p = .slice a n c/\Zfa x=some m/\Wq h sz (min m n) x=some nw /\
   (match a with
    | some ⟨b,o,none⟩ =>
     match hst h b o nw with
     | some h'=>K (.int .i64 (min m n:Nat)) h'
     | none=>False
    | none=>K (.int .i64 (min m n:Nat)) h
    | _=>False):=by
 cases p with
 | slice a n c =>
  simp only [Ef.wp] at hs
  cases D:Zfa x with
  | none=>rw [D] at hs; exact hs.elim
  | some m =>
   rw [D] at hs
   simp only at hs
   cases r:Wq h sz (min m n) x with
   | none=>rw [r] at hs; exact hs.elim
   | some nw =>
    rw [r] at hs
    exact ⟨a,n,c,m,nw,rfl,rfl,r,hs⟩
 | _=>exact hs.elim
theorem Z1t {t e ty:TypeId} {ts:List TypeId} {sz:Nat} {p x:Value} {K:Value->Za->Prop} (h1:cx.P.underlying t=some (.slice e)) (H:Ug cx e=some sz)
  (hs:Ef.wp w.heap K (.copy sz) [p,x]) :
  ∃ v w',(Builtin.copy_ (t::ts).toArray ty #[p,x]).run cx.P w = .ok v w'/\Same w w'/\K v w'.heap:=by
 obtain ⟨a,n,c,m,nw,rfl,I,D,hs⟩:=Zu1 hs
 have r:=Ziv (cx:=cx) D
 cases a with
 | none =>
  refine ⟨_,w,?_,Same.refl w,hs⟩
  simp [Builtin.copy_,run_underlying h1,Xt H,Zen I,r w rfl,goInt]
 | some a =>
  obtain ⟨b,o,s⟩:=a
  cases s with
  | some s=>exact hs.elim
  | none =>
   simp only at hs
   cases G:hst w.heap b o nw with
   | none=>rw [G] at hs; exact hs.elim
   | some h' =>
    rw [G] at hs
    obtain ⟨w',J,g2,M⟩:=Zip (cx:=cx) nw 0 w b o h' (by simpa using G)
    refine ⟨_,w',?_,g2,by rw [M]; exact hs⟩
    simp [Builtin.copy_,run_underlying h1,Xt H,Zen I,r w rfl,goInt,J]
theorem Z6b {t e ty:TypeId} {sz:Nat} {z:Value} {p:Value} {K:Value->Za->Prop} (h1:cx.P.underlying t=some (.slice e)) (G:Qe cx e=some z)
  (hs:Ef.wp w.heap K (.clr sz z.cells) [p]):∃ v w',(Builtin.clear_ #[t] ty #[p]).run cx.P w = .ok v w'/\Same w w'/\K v w'.heap:=by
 cases p with
 | slice a n c =>
  cases a with
  | none=>exact ⟨.tuple #[],w,by simp [Builtin.clear_,run_underlying h1],Same.refl w,hs⟩
  | some a =>
   obtain ⟨b,o,s⟩:=a
   cases s with
   | some s=>exact hs.elim
   | none =>
    have hs:(if n=0 then K undef w.heap else match hst w.heap b o (Builtin.zeroCells z.cells n).toList with | some h'=>K undef h' | none=>False):=hs
    by_cases h0:n=0
    ·rw [if_pos h0] at hs
     subst h0
     exact ⟨.tuple #[],w,by simp [Builtin.clear_,run_underlying h1],Same.refl w,hs⟩
    ·rw [if_neg h0] at hs
     cases r:hst w.heap b o (Builtin.zeroCells z.cells n).toList with
     | none=>rw [r] at hs; exact hs.elim
     | some h' =>
      rw [r] at hs
      obtain ⟨w',H,g2,I⟩:=Zip (cx:=cx) _ 0 w b o h' (by simpa using r)
      refine ⟨.tuple #[],w',?_,g2,by rw [I]; exact hs⟩
      have J:n≠0:=h0
      obtain ⟨D,rfl⟩:∃ D,n=D+1:=⟨n-1,by omega⟩
      simp [Builtin.clear_,run_underlying h1,Wv G,H]
 | _=>exact hs.elim
theorem Z8b {o:Oper} {ρ:Operand->Value} {f:Ef} {xs:List Operand} {K:Value->Za->Prop} (hρ:∀ v,ρ (.const v)=v)
  (D:Zdg cx o.op=some (.ef f,xs)) (hs:f.wp w.heap K (xs.map ρ)):Leaves cx (execOp ρ o) w K:=by
 unfold execOp
 cases Z:o.op <;> simp only [Z,Zdg] at D ⊢
 case alloc t =>
  simp only [Xd7,Prod.mk.injEq,Kd.ef.injEq] at D
  obtain ⟨z,hz,rfl,rfl⟩:=D
  have hs:∀ t:TypeId,K (.pointer (some ⟨w.heap.size,0,none⟩)) (w.heap.push (.cells (ρ (.const z)).cells t)):=hs
  refine Zbo (v:=.pointer (some ⟨w.heap.size,0,none⟩)) (w':={ w with heap:=w.heap.push (.cells z.cells t) }) ?_ ⟨rfl,rfl,rfl⟩ ?_
  ·simp only [Instr.alloc,Sem.run_bind,Wv hz,Result.andThen_ok]
   simp [newVar,newRow]
  ·have:=hs t
   rw [hρ] at this
   exact this
 case box t x =>
  cases D
  obtain ⟨v,w',h1,G,J⟩:=Z5r (cx:=cx) (t:=t) hs
  exact Zbo h1 G J
 case buildSlice t len ps =>
  split at D
  ·rename_i e h1
   split at D
   ·rename_i sz z G J
    split at D
    ·rename_i h4
     cases D
     obtain ⟨v,w',H,g2,I⟩:=Zt4 h1 G J h4 hs
     exact Zbo H g2 I
    ·cases D
   ·cases D
  ·cases D
 case store t a v =>
  simp only [Xd7,Prod.mk.injEq,Kd.ef.injEq] at D
  obtain ⟨n,h1,rfl,rfl⟩:=D
  obtain ⟨w',H,g2,I⟩:=Zy7 h1 hs
  exact Zsn H g2 I
 case convert sT dT x =>
  split at D
  ·cases D
  ·split at D <;> cases D
  ·rename_i e h1 G
   split at D
   ·rename_i J
    cases D
    obtain ⟨v,w',H,g2,I⟩:=Z5w h1 G J hs
    exact Zbo H g2 I
   ·cases D
  ·rename_i e h1 G
   split at D
   ·rename_i U
    split at D
    ·rename_i J
     cases D
     subst U
     obtain ⟨v,w',H,g2,I⟩:=Z4k G J hs
     exact Zbo H g2 I
    ·cases D
   ·cases D
  ·cases D
 case makeSlice t l c =>
  split at D
  ·rename_i e h1
   split at D
   ·rename_i sz z i G J h4
    cases D
    obtain ⟨v,w',H,g2,I⟩:=Zrf h1 G J h4 hs
    exact Zbo H g2 I
   ·cases D
  ·cases D
 case makeMap t r =>
  split at D
  ·rename_i kt e h1
   cases D
   obtain ⟨v,w',H,g2,I⟩:=Zyi h1 hs
   exact Zbo H g2 I
  ·cases D
 case mapUpdate t m k x =>
  split at D
  ·rename_i kt e h1
   simp only [Xd7,Prod.mk.injEq,Kd.ef.injEq] at D
   obtain ⟨n,G,rfl,rfl⟩:=D
   obtain ⟨w',H,g2,I⟩:=Z22 h1 G hs
   exact Zsn H g2 I
  ·cases D
 case lookup t m k aa =>
  split at D
  ·split at D <;> cases D
  ·cases D
 case call c =>
  obtain ⟨callee,args,argTypes⟩:=c
  simp only at D
  split at D
  ·split at D
   ·cases D
   ·simp [Xd7] at D
  ·cases D
  ·split at D
   ·split at D <;> cases D
   ·cases D
  ·split at D
   ·split at D <;> cases D
   ·cases D
  ·split at D <;> cases D
  ·split at D <;> cases D
  ·split at D
   ·rename_i t u x y ht M
    have ht:argTypes=#[t,u]:=by apply Xed; simpa using ht
    have M:args=#[x,y]:=by apply Xed; simpa using M
    subst ht; subst M
    split at D
    ·rename_i e du h1 X
     have R:∀ {sz z i},Ug cx e=some sz->Qe cx e=some z->cx.P.info? e=some i->(∀ k,du≠.int k)->(if z.cells.size=sz/\i.bytes≠0 then some (Kd.ef (Ef.append sz i.bytes z.cells),[x,y]) else none)=some (Kd.ef f,xs) ->
       Leaves cx (do let d <-resolve ρ { callee:=.builtin .append,args:=#[x,y],argTypes:=#[t,u] } o.type; invoke d.target d.args) w K:=by
      intro sz z i G J h4 V D
      split at D
      ·rename_i O
       cases D
       obtain ⟨v,w',H,g2,I⟩:=Ztk (ty:=o.type) h1 X V G J h4 O.2 hs
       refine ⟨.value v,v,w',?_,.inl rfl,g2,I⟩
       simp [resolve,invoke,builtin,H]
      ·cases D
     split at D
     ·rename_i G J h4
      exact R G J h4 (by simp) D
     ·rename_i G J h4
      exact R G J h4 (by simp) D
     ·rename_i G J h4
      split at D
      ·rename_i O
       cases D
       obtain ⟨v,w',H,g2,I⟩:=Z1a (ty:=o.type) h1 X G J h4 O.1 O.2.1 O.2.2 hs
       refine ⟨.value v,v,w',?_,.inl rfl,g2,I⟩
       simp [resolve,invoke,builtin,H]
      ·cases D
     ·cases D
    ·cases D
   ·cases D
  ·split at D
   ·rename_i t x ht M
    have ht:argTypes=#[t]:=by apply Xed; simpa using ht
    have M:args=#[x]:=by apply Xed; simpa using M
    subst ht; subst M
    split at D
    ·rename_i e h1
     split at D
     ·rename_i sz z G J
      cases D
      obtain ⟨v,w',H,g2,I⟩:=Z6b (ty:=o.type) h1 J hs
      refine ⟨.value v,v,w',?_,.inl rfl,g2,I⟩
      simp [resolve,invoke,builtin,H]
     ·cases D
    ·cases D
   ·cases D
  ·split at D
   ·rename_i t ts x y ht M
    have ht:argTypes=(t::ts).toArray:=by apply Xed; simpa using ht
    have M:args=#[x,y]:=by apply Xed; simpa using M
    subst ht; subst M
    split at D
    ·rename_i e h1
     simp only [Xd7,Prod.mk.injEq,Kd.ef.injEq] at D
     obtain ⟨sz,G,rfl,rfl⟩:=D
     obtain ⟨v,w',H,g2,I⟩:=Z1t (ty:=o.type) (ts:=ts) h1 G hs
     refine ⟨.value v,v,w',?_,.inl rfl,g2,I⟩
     simp [resolve,invoke,builtin,H]
    ·cases D
   ·cases D
  ·cases D
 case binOp op t x y yt =>
  simp only [Xd7,Prod.mk.injEq] at D
  obtain ⟨k,D,rfl,rfl⟩:=D
  unfold Ze0 at D
  split at D
  ·unfold Zcd at D; split at D <;> first | (cases D; done) | (split at D <;> cases D)
  ·unfold Zcd at D; split at D <;> first | (cases D; done) | (split at D <;> cases D)
  ·split at D <;> cases D
 case field t x f =>
  split at D
  ·simp only [Xeg] at D
   obtain ⟨fd,G,D⟩:=D
   split at D
   ·split at D
    ·simp [Xd7] at D
    ·cases D
   ·cases D
  ·cases D
 all_goals first
  | (cases D; done)
  | ((repeat' split at D) <;> simp_all [Xd7,Xeg])
end ops
def Zv (nm:List Nat) (a:Act):List Value:=nm.map fun s=>a.tmps.getD s undef
def Xo.lt (d:Nat):Xo->Prop
 | .t j=>j<d
 | _=>True
structure Wf (cx:Cx):Prop where
 nodup:cx.nm.Nodup
 lt:∀ s∈cx.nm,s<cx.nt
structure St (cx:Cx) (Y:Sys) (m:SM) (d:Nat) (a:Act) (T:List Value):Prop where
 defers:a.defers=[]
 size:a.tmps.size=cx.nt
 len:T.length=d
 rel:∀ p∈m,p.2.ev Y (Zv cx.nm a) T=a.tmps.getD p.1 undef
 lt:∀ p∈m,p.2.lt d
section
variable {cx:Cx} {Y:Sys} {w:World} {ops:Array Oper} {Q:Exit->Act->World->Prop}
theorem Z2g {o:Oper} {ρ:Operand->Value} {n:Nat} {xs:List Operand} (G:Ok cx Y) (hρ:∀ f,ρ (.func f) = .func (.func f) #[] #[])
  (r:Zdg cx o.op=some (.call n,xs)):(execOp ρ o).run cx.P w = .ok (.enter (Y.fid n) (xs.map ρ).toArray) w:=by
 unfold execOp
 cases H:o.op <;> simp only [H,Zdg] at r ⊢
 case call c =>
  obtain ⟨callee,args,argTypes⟩:=c
  simp only at r
  split at r
  ·rename_i f
   split at r
   ·cases r
   simp only [Xd7,Prod.mk.injEq,Kd.call.injEq] at r
   obtain ⟨j,I,rfl,rfl⟩:=r
   obtain ⟨D,M,hf,J,hb⟩:=G.hf _ _ I
   simp only [resolve,hρ,Deferred.ofValue,Sem.run_bind,Sem.run_pure,Result.andThen_ok,invoke,callFunc,run_program,hf,J,hb,Xeh,if_false]
   rw [D]
   congr 2
   apply Xed
   simp
  ·cases r
  all_goals ((repeat' split at r) <;> simp_all [Xd7])
 case binOp op t x y O =>
  simp only [Xd7,Prod.mk.injEq] at r
  obtain ⟨k,r,rfl,rfl⟩:=r
  unfold Ze0 at r
  split at r
  ·unfold Zcd at r; split at r <;> first | (cases r; done) | (split at r <;> cases r)
  ·unfold Zcd at r; split at r <;> first | (cases r; done) | (split at r <;> cases r)
  ·split at r <;> cases r
 case field t x f =>
  split at r
  ·simp only [Xeg] at r
   obtain ⟨R,U,r⟩:=r
   split at r
   ·split at r
    ·simp [Xd7] at r
    ·cases r
   ·cases r
  ·cases r
 all_goals first
  | (cases r; done)
  | ((repeat' split at r) <;> simp_all [Xd7,Xeg])
theorem Zxo {o:Oper} {ρ:Operand->Value} {xs:List Operand} (H:Ok cx Y)
  (D:Zdg cx o.op=some (.callv,xs)):∃ x r,xs=x::r/\∀ f first cap,ρ x = .func (.func f) first cap->Y.able f ->
   (execOp ρ o).run cx.P w = .ok (.enter f (first.toList++r.map ρ++cap.toList).toArray) w:=by
 unfold execOp
 cases I:o.op <;> simp only [I,Zdg] at D ⊢
 case call c =>
  obtain ⟨callee,args,argTypes⟩:=c
  simp only at D
  split at D
  ·split at D
   ·cases D
   ·simp [Xd7] at D
  ·rename_i x hx
   cases D
   refine ⟨x,args.toList,rfl,?_⟩
   intro f first cap hv G
   obtain ⟨M,hf,J,hb⟩:=H.able _ G
   simp only [resolve,hv,Deferred.ofValue,Sem.run_bind,Sem.run_pure,Result.andThen_ok,invoke,callFunc,run_program,hf,J,hb,Xeh,if_false]
   congr 2
   apply Xed
   simp
  all_goals ((repeat' split at D) <;> simp_all [Xd7])
 case binOp op t x y O =>
  simp only [Xd7,Prod.mk.injEq] at D
  obtain ⟨k,D,rfl,rfl⟩:=D
  unfold Ze0 at D
  split at D
  ·unfold Zcd at D; split at D <;> first | (cases D; done) | (split at D <;> cases D)
  ·unfold Zcd at D; split at D <;> first | (cases D; done) | (split at D <;> cases D)
  ·split at D <;> cases D
 case field t x f =>
  split at D
  ·simp only [Xeg] at D
   obtain ⟨R,U,D⟩:=D
   split at D
   ·split at D
    ·simp [Xd7] at D
    ·cases D
   ·cases D
  ·cases D
 all_goals first
  | (cases D; done)
  | ((repeat' split at D) <;> simp_all [Xd7,Xeg])
theorem Zhn {o:Option Value} {k:Value->Prop} (h:Zjy o k):∃ v,o=some v/\k v:=by
 cases o with
 | none=>exact h.elim
 | some v=>exact ⟨v,rfl,h⟩
theorem Zid {o:Oper} {a:Act} {k:Kd} {xs:List Operand} {as:List Xo} {ds:Qx} {ins:Instr} {K:Z3} {e T:List Value} {next:Act->World->Prop} (H:Ok cx Y)
  (O:Zdg cx o.op=some (k,xs)) (D:as.map (Xo.ev Y e T)=xs.map a.eval) (I:Zom ds k as=some ins) (G:ins.wp Y K e T w.heap)
  (J:∀ v w',Same w w'->K (ds.e v e) (ds.T v T) w'.heap->next (a.put o.dst v) w'):o.wp cx.P a w next Q:=by
 unfold Oper.wp
 cases k with
 | io io =>
  cases I
  obtain ⟨v,hv,U⟩:=Zhn G
  rw [D] at hv
  rw [Znl H (fun _=>rfl) O hv]
  exact J v w (Same.refl w) U
 | ef f =>
  cases I
  have G:f.wp w.heap (fun v h'=>K (ds.e v e) (ds.T v T) h') (as.map (Xo.ev Y e T)):=G
  rw [D] at G
  obtain ⟨r,v,w',h1,R,X,h4⟩:=Z8b (ρ:=a.eval) (fun _=>rfl) O G
  rw [h1]
  rcases R with rfl | ⟨rfl,rfl⟩
  ·exact J v w' X h4
  ·exact J undef w' X h4
 | call n =>
  cases I
  have G:Y.C (Y.fid n) (as.map (Xo.ev Y e T)) w.heap (fun v h'=>K (ds.e v e) (ds.T v T) h'):=G
  rw [D,H.hC] at G
  rw [Z2g H (fun _=>rfl) O,Oper.upon_enter]
  refine (G w rfl).mono ?_
  rintro e w' ⟨v,rfl,V,hs⟩
  exact J v w' hs V
 | callv =>
  obtain ⟨x,r,rfl,M⟩:=Zxo (w:=w) (ρ:=a.eval) H O
  cases as with
  | nil=>cases I
  | cons Z r' =>
   cases I
   simp only [Xfi,Xgs] at D
   simp only [Instr.wp,D.1,D.2] at G
   split at G
   ·rename_i f first cap hv
    obtain ⟨h1,R⟩:=G
    rw [M f first cap hv h1,Oper.upon_enter]
    rw [H.hC] at R
    refine (R w rfl).mono ?_
    rintro e w' ⟨v,rfl,V,hs⟩
    exact J v w' hs V
   ·exact G.elim
theorem Zc1 {a:Act} {s i:Nat} (h:cx.nm.idxOf? s=some i):(Zv cx.nm a).getD i undef=a.tmps.getD s undef:=by
 have r:cx.nm[i]? = some s:=by
  rw [List.idxOf?_eq_some_iff] at h
  obtain ⟨D,hs,_⟩:=h
  rw [Xfe D,hs]
 simp [Zv,Xee,r]
theorem Zj4 {m:SM} {d:Nat} {a:Act} {T:List Value} {x:Operand} {arg:Xo} (I:Ok cx Y) (J:St cx Y m d a T) (r:rsv cx m x=some arg) :
  arg.ev Y (Zv cx.nm a) T=a.eval x:=by
 cases x with
 | tmp s =>
  simp only [rsv] at r
  cases G:m.lookup s with
  | some b =>
   rw [G] at r
   cases r
   have D:(s,arg)∈m:=by
    have:∀ (m:SM),m.lookup s=some arg->(s,arg)∈m:=by
     intro m
     induction m with
     | nil=>intro h; cases h
     | cons p m M =>
      intro h
      obtain ⟨t,b⟩:=p
      simp only [Xgt] at h
      split at h
      ·rename_i hb
       cases h
       have:s=t:=by simpa using hb
       subst this
       simp
      ·exact Xeq _ (M h)
    exact this m G
   exact J.rel _ D
  | none =>
   rw [G] at r
   simp only [Xd7] at r
   obtain ⟨i,O,rfl⟩:=r
   exact Zc1 O
 | const v=>cases r; rfl
 | global g =>
  simp only [rsv,Xd7] at r
  obtain ⟨j,H,rfl⟩:=r
  simp only [Xo.ev,I.hg _ _ H]
  rfl
 | func f =>
  simp only [rsv,Xd7] at r
  obtain ⟨j,H,rfl⟩:=r
  simp only [Xo.ev,(I.hf _ _ H).1]
  rfl
theorem Z4y {m:SM} {d:Nat} {a:Act} {T:List Value} (D:Ok cx Y) (G:St cx Y m d a T):∀ {xs:List Operand} {as:List Xo},xs.mapM (rsv cx m)=some as ->
  as.map (Xo.ev Y (Zv cx.nm a) T)=xs.map a.eval:=by
 intro xs
 induction xs with
 | nil=>intro as h; simp at h; subst h; rfl
 | cons x xs H =>
  intro as h
  simp only [Xft,Xgd,Xeg] at h
  obtain ⟨b,hb,J,r,I⟩:=h
  cases I
  simp [Zj4 D G hb,H r]
theorem Z2 {a:Act} {s:Nat} {v:Value} (h:s<a.tmps.size):(a.put (some s) v).tmps.getD s undef=v:=by
 simp [Act.put,Xfq,h]
theorem Qq {a:Act} {s t:Nat} {v:Value} (h:t≠s):(a.put (some s) v).tmps.getD t undef=a.tmps.getD t undef:=by
 simp [Act.put,Xfq,Array.getElem?_setIfInBounds_ne h.symm]
theorem Zaa {a:Act} {s:Nat} {v:Value} (h:s ∉ cx.nm):Zv cx.nm (a.put (some s) v)=Zv cx.nm a:=by
 unfold Zv
 apply Xfr
 intro t ht
 exact Qq (fun e=>h (e ▸ ht))
theorem Zgr {a:Act} {s i:Nat} {v:Value} (G:Wf cx) (hs:s<a.tmps.size) (h:cx.nm.idxOf? s=some i) :
  Zv cx.nm (a.put (some s) v)=(Zv cx.nm a).set i v:=by
 rw [List.idxOf?_eq_some_iff] at h
 obtain ⟨I,D,_⟩:=h
 apply Xem
 ·simp [Zv]
 ·intro j h1 J
  have M:j<cx.nm.length:=by simpa [Zv] using h1
  rw [Xe9]
  split
  ·rename_i r
   subst r
   simp only [Zv,Xev,D]
   exact Z2 hs
  ·rename_i r
   simp only [Zv,Xev]
   apply Qq
   intro H
   apply r
   have:=G.nodup
   exact (List.getElem_inj this).1 (D.trans H.symm)
theorem Z1z {x:Xo} {i:Nat} {e T:List Value} {v:Value} (h:x.isN i=false):x.ev Y (e.set i v) T=x.ev Y e T:=by
 cases x with
 | n j =>
  have r:j≠i:=by simpa [Xo.isN] using h
  simp only [Xo.ev,Xee]
  rw [Xgo (fun e=>r e.symm)]
 | _=>rfl
theorem Zgx {x:Xo} {e T:List Value} {v:Value} (h:x.lt T.length):x.ev Y e (T++[v])=x.ev Y e T:=by
 cases x with
 | t j =>
  have r:j<T.length:=h
  simp only [Xo.ev,Xee,Xep r]
 | _=>rfl
theorem Xo.lt_succ {x:Xo} {d:Nat} (h:x.lt d):x.lt (d+1):=by
 cases x with
 | t j=>exact Nat.lt_succ_of_lt h
 | _=>trivial
theorem Zbc (a:Act) (s:Option Tmp) (v:Value):(a.put s v).defers=a.defers:=by cases s <;> rfl
theorem Zd4 (a:Act) (s:Option Tmp) (v:Value):(a.put s v).tmps.size=a.tmps.size:=by cases s <;> simp [Act.put]
theorem Zmu {m m':SM} {d J:Nat} {a:Act} {T:List Value} {G:Option Tmp} {ds:Qx} (M:Wf cx) (D:St cx Y m d a T) (h:Zm1 cx m d G=some (ds,m',J)) (v:Value) :
  St cx Y m' J (a.put G v) (ds.T v T)/\Zv cx.nm (a.put G v)=ds.e v (Zv cx.nm a):=by
 cases G with
 | none=>cases h; exact ⟨D,rfl⟩
 | some s =>
  simp only [Zm1] at h
  split at h
  ·rename_i hs
   have hs':s<a.tmps.size:=by rw [D.size]; exact hs
   split at h
   ·rename_i i I
    cases h
    have r:=Zgr (v:=v) M hs' I
    refine ⟨⟨?_,?_,D.len,?_,?_⟩,r⟩
    ·rw [Zbc]; exact D.defers
    ·rw [Zd4]; exact D.size
    ·intro p hp
     simp only [Xfo,Xec,Xfm,bne_iff_ne,ne_eq] at hp
     rw [r,Qq hp.2.2]
     exact (Z1z hp.2.1).trans (D.rel p hp.1)
    ·intro p hp
     simp only [Xfo] at hp
     exact D.lt p hp.1
   ·rename_i I
    cases h
    have H:s ∉ cx.nm:=List.idxOf?_eq_none_iff.1 I
    have r:=Zaa (v:=v) (a:=a) H
    refine ⟨⟨?_,?_,?_,?_,?_⟩,r⟩
    ·rw [Zbc]; exact D.defers
    ·rw [Zd4]; exact D.size
    ·simp [Qx.T,D.len]
    ·intro p hp
     rcases List.mem_cons.1 hp with rfl | hp
     ·simp only [Xo.ev,Qx.T,Z2 hs']
      simp [<-D.len]
     ·simp only [Xfo,bne_iff_ne,ne_eq] at hp
      rw [r,Qx.T,Zgx (by rw [D.len]; exact D.lt p hp.1),D.rel p hp.1,Qq hp.2]
    ·intro p hp
     rcases List.mem_cons.1 hp with rfl | hp
     ·exact Xgu d
     ·simp only [Xfo] at hp
      exact Xo.lt_succ (D.lt p hp.1)
  ·cases h
def gOk (Y:Sys) (e T:List Value):Option (Xo × Bool)->Bool
 | none=>true
 | some (x,want)=>gdB (x.ev Y e T) want
theorem Zrj {m:SM} {d:Nat} {a:Act} {T:List Value} {o:Oper} {g:Option (Xo × Bool)} (I:Ok cx Y) (J:St cx Y m d a T) (h:Za4 cx ops m o.guard=some g) :
  Region.wanted o (yielded ops a.tmps)=gOk Y (Zv cx.nm a) T g:=by
 unfold Region.wanted
 cases G:o.guard with
 | none=>rw [G] at h; cases h; rfl
 | some M =>
  obtain ⟨j,H⟩:=M
  rw [G] at h
  simp only [Za4,Xeg,Xd7] at h
  obtain ⟨s,⟨O,r,hs⟩,x,hx,rfl⟩:=h
  have D:=Zj4 I J hx
  simp only [gOk,D,Act.eval,yielded,r,Xer,hs]
  rw [Xfq]
  cases ht:a.tmps[s]? with
  | none=>simp [gdB,undef]
  | some v =>
   simp only [Xge]
   cases v <;> simp [gdB]
theorem Zu0 {i:Nat} {m m':SM} {d d':Nat} {a:Act} {T:List Value} {o:Oper} {fl:List FI} {K:Z3} {Kw:Act->World->Prop} (ok:Ok cx Y) (wf:Wf cx)
  (hi:ops[i]? = some o) (h:Zt5 cx ops m d o=some (fl,m',d')) (J:St cx Y m d a T) (I:FL.wp Y K fl (Zv cx.nm a) T w.heap)
  (hn:∀ a' T' w',St cx Y m' d' a' T'->Same w w'->K (Zv cx.nm a') T' w'.heap->Kw a' w'):wpOp cx.P ops Q i Kw a w:=by
 unfold Zt5 at h
 split at h
 case h_2=>cases h
 rename_i g k xs hg hk
 split at h
 case h_2=>cases h
 rename_i as D
 have M:=Z4y ok J D
 have O:=Zrj ok J hg
 unfold wpOp
 simp only [hi]
 split at h
 ·rename_i s x H
  cases h
  have I:K (Zv cx.nm a) T w.heap:=I
  replace H:=Zx0 H
  unfold Zgd at H
  split at H
  case h_2=>cases H
  rename_i x' s' af R Z
  split at H
  case isFalse=>cases H
  rename_i aa
  cases H
  rw [af] at hg
  cases hg
  rw [O]
  simp only [gOk,if_true]
  left
  cases k with
  | io io =>
   cases io with
   | mv =>
    match as,R with
    | [y],R =>
     cases R
     have hs':s<a.tmps.size:=by rw [J.size]; exact aa.1
     have ab:s ∉ cx.nm:=List.idxOf?_eq_none_iff.1 aa.2
     have hv:Yg.sem Y w.heap .mv (xs.map a.eval)=some (x.ev Y (Zv cx.nm a) T):=by
      rw [<-M]; rfl
     unfold Oper.wp
     rw [Znl ok (fun _=>rfl) hk hv]
     have U:=Zaa (v:=x.ev Y (Zv cx.nm a) T) (a:=a) ab
     have ac:x.lt d:=by
      match xs,D with
      | [y],D =>
       simp only [Xft,List.mapM_nil,Xgd,Xeg] at D
       obtain ⟨b,hb,bs,ai,he⟩:=D
       cases he
       cases y with
       | tmp t =>
        simp only [rsv] at hb
        cases hl:m.lookup t with
        | some b =>
         rw [hl] at hb
         cases hb
         have:∀ (m:SM),m.lookup t=some x->(t,x)∈m:=by
          intro m
          induction m with
          | nil=>intro h; cases h
          | cons p m ih =>
           intro h
           obtain ⟨u,c⟩:=p
           simp only [Xgt] at h
           split at h
           ·rename_i ag
            cases h
            have:t=u:=by simpa using ag
            subst this
            simp
           ·exact Xeq _ (ih h)
         exact J.lt _ (this m hl)
        | none =>
         rw [hl] at hb
         simp only [Xd7] at hb
         obtain ⟨i,_,rfl⟩:=hb
         trivial
       | const v=>cases hb; trivial
       | global g=>simp only [rsv,Xd7] at hb; obtain ⟨i,_,rfl⟩:=hb; trivial
       | func g=>simp only [rsv,Xd7] at hb; obtain ⟨i,_,rfl⟩:=hb; trivial
      | [],D=>simp at D
      | y::z::r,D =>
       simp only [Xft,Xgd,Xeg] at D
       obtain ⟨b,hb,bs,⟨c,hc,cs,aj,ah⟩,he⟩:=D
       cases ah
       cases he
     refine hn (a.put o.dst _) T w ⟨?_,?_,J.len,?_,?_⟩ (Same.refl w) ?_
     ·rw [Zbc]; exact J.defers
     ·rw [Zd4]; exact J.size
     ·rw [Z]
      intro p hp
      rcases List.mem_cons.1 hp with rfl | hp
      ·rw [U,Z2 hs']
      ·simp only [Xfo,bne_iff_ne,ne_eq] at hp
       rw [U,J.rel p hp.1,Qq hp.2]
     ·intro p hp
      rcases List.mem_cons.1 hp with rfl | hp
      ·exact ac
      ·simp only [Xfo] at hp
       exact J.lt p hp.1
     ·rw [Z,U]; exact I
   | _=>simp [Z50] at R
  | _=>simp [Z50] at R
 ·split at h
  case h_2=>cases h
  rename_i ds m1 d1 hd
  simp only [Xd7,Prod.mk.injEq] at h
  obtain ⟨ins,G,rfl,rfl,rfl⟩:=h
  have I:FI.wp Y ⟨g,ins⟩ K (Zv cx.nm a) T w.heap:=I
  have ad:ins.dst=ds:=by
   cases k with
   | io io=>cases G; rfl
   | ef f=>cases G; rfl
   | call f=>cases G; rfl
   | callv=>cases as with
    | nil=>cases G
    | cons y r=>cases G; rfl
  have ae:ins.wp Y K (Zv cx.nm a) T w.heap->o.wp cx.P a w Kw Q:=by
   intro I
   refine Zid ok hk M G I fun v w' hs hk=>?_
   obtain ⟨h1,h2⟩:=Zmu wf J hd v
   exact hn _ _ _ h1 hs (by rw [h2]; exact hk)
  rw [O]
  cases g with
  | none =>
   simp only [gOk,if_true]
   exact .inl (ae I)
  | some gw =>
   obtain ⟨x,V⟩:=gw
   simp only [FI.wp] at I
   split at I
   ·rename_i hb
    have X:gOk Y (Zv cx.nm a) T (some (x,V))=true:=hb
    rw [if_pos X]
    exact .inl (ae I)
   ·rename_i hb
    have X:¬ (gOk Y (Zv cx.nm a) T (some (x,V))=true):=hb
    rw [if_neg X]
    obtain ⟨h1,h2⟩:=Zmu wf J hd undef
    rw [ad] at I
    exact hn _ _ _ h1 (Same.refl w) (by rw [h2]; exact I)
theorem Zr2 (U:Ok cx Y) (V:Wf cx) {K:List Value->Za->Prop}:∀ {l:List Nat} {m:SM} {d:Nat} {a:Act} {T:List Value} {w:World} {G:List FI},
  Zwz cx ops l m d=some G->St cx Y m d a T->FL.wp Y (fun e _ h=>K e h) G (Zv cx.nm a) T w.heap ->
  (∀ a' w',a'.defers=[]->a'.tmps.size=cx.nt->Same w w'->K (Zv cx.nm a') w'.heap->Q .normal a' w')->wpOps cx.P ops Q l a w:=by
 intro l
 induction l with
 | nil =>
  intro m d a T w G h H I J
  cases h
  exact J a w H.defers H.size (Same.refl w) I
 | cons i r X =>
  intro m d a T w G h H I J
  simp only [Zwz] at h
  split at h
  ·cases h
  rename_i o Z
  split at h
  ·cases h
  rename_i f1 m1 d1 hs
  simp only [Xd7] at h
  obtain ⟨f2,h2,rfl⟩:=h
  rw [wpOps_cons]
  rw [FL.wp_append] at I
  refine Zu0 U V Z hs H I fun a' T' w' M D hk=>?_
  exact X h2 M hk fun O R g1 g2 g3 g4=>J O R g1 g2 (Same.trans D g3) g4
end
end Go.Rm
