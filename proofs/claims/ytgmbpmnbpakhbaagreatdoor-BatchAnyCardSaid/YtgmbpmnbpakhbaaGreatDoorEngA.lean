import Derived.Orders
import Derived.Laws.Sem
import Derived.Laws.Append
import Derived.KernelRfl

/- The engine, part A: a small language of straight-line instructions over a short list of named locals, and what it means over heaps alone. -/
set_option linter.unusedSimpArgs false
set_option linter.unusedVariables false
namespace Go.Rm

abbrev Heap := Array Obj

/-- the cell at block b, place o -/
def hc (h : Heap) (b o : Nat) : Option Value :=
  match h[b]? with
  | some (.cells c _ _) => c[o]?
  | _ => none

def hfz (h : Heap) (b o : Nat) : Bool :=
  match h[b]? with
  | some (.cells _ _ (lo, hi)) => lo ≤ o && o < hi
  | _ => false

def hset (h : Heap) (b o : Nat) (v : Value) : Heap :=
  h.modify b fun
    | .cells c t f => .cells (c.setIfInBounds o v) t f
    | x => x

/-- n cells from place o on -/
def rd (h : Heap) (b : Nat) : Nat → Nat → Option (List Value)
  | _, 0 => some []
  | o, n + 1 => (hc h b o).bind fun v => (rd h b (o + 1) n).bind fun l => some (v :: l)

/-- one cell behind the other is stored -/
def hst (h : Heap) (b : Nat) : Nat → List Value → Option Heap
  | _, [] => some h
  | o, v :: r => if (hc h b o).isSome && !hfz h b o && v.oneCell' then hst (hset h b o v) b (o + 1) r else none

inductive Arg where
  | n (i : Nat)
  | t (i : Nat)
  | c (v : Value)
  | f (j : Nat)
  | g (j : Nat)

inductive Dst where
  | drop
  | push
  | set (i : Nat)

/-- operations that leave the heap alone -/
inductive IOp where
  | mv
  | pick
  | nilck
  | ib (op : BinOp)
  | sb (op : BinOp)
  | eqb (neg : Bool)
  | eqp (neg : Bool)
  | eqi (neg : Bool) (lit : Bool)
  | eqs (neg : Bool)
  | eqf (neg : Bool)
  | eqa (neg : Bool) (n : Nat)
  | un (op : UnOp)
  | conv (k : IntKind)
  | fadr (off : Nat)
  | idxa (sz : Nat)
  | idxA (len sz : Nat)
  | idxS
  | idxV (len sz : Nat) (agg : Bool)
  | fld (off sz : Nat) (agg : Bool)
  | slc (sz : Nat) (lo hi : Bool)
  | slcS (lo hi : Bool)
  | slcA (n sz : Nat) (lo hi : Bool)
  | ext (i : Nat)
  | build (zero : Array Value) (pl : List (Nat × Nat)) (ix : List Nat)
  | buildA (sz : Nat) (zero : Array Value) (ix : List Nat)
  | mkI (t : Nat)
  | len
  | lenS
  | lenA (n : Nat)
  | cap
  | mn
  | mx
  | load (sz : Nat) (agg : Bool)
  | b2s
  | ta (t : Nat) (ok : Bool) (zero : Value)
  | mkf (f : Nat) (first : Nat)
  | lookup (kk : Option Nat) (ok : Bool) (zero : Value)
  | lenM

/-- operations that change the heap -/
inductive Ef where
  | store (sz : Nat)
  | new
  | bslice (len sz : Nat) (zero : Array Value) (pl : List Nat)
  | mkslice (sz bytes : Nat) (zero : Array Value)
  | append (sz bytes : Nat) (zero : Array Value)
  | copy (sz : Nat)
  | s2b
  | b2b
  | mkmap
  | mupd (kk : Option Nat)

structure Sys where
  fid : Nat → FuncId
  tid : Nat → TypeId
  gid : Nat → Nat
  C : FuncId → List Value → Heap → (Value → Heap → Prop) → Prop
  mono : ∀ {f : FuncId} {xs : List Value} {h : Heap} {R R' : Value → Heap → Prop}, C f xs h R → (∀ v h', R v h' → R' v h') → C f xs h R'
  able : FuncId → Prop

def Arg.ev (Y : Sys) (e T : List Value) : Arg → Value
  | .n i => e.getD i undef
  | .t i => T.getD i undef
  | .c v => v
  | .f j => .func (.func (Y.fid j)) #[] #[]
  | .g j => .pointer (some ⟨Y.gid j, 0, none⟩)

def ibin (op : BinOp) (k : IntKind) (a : Int) (yk : IntKind) (b : Int) : Option Value :=
  match op with
  | .shl => if b < 0 then none else some (.int k (k.wrap (a * 2 ^ (min b.toNat k.bits))))
  | .shr => if b < 0 then none else some (.int k (a.fdiv (2 ^ (min b.toNat k.bits))))
  | _ =>
    if k ≠ yk then none else
    match op with
    | .add => some (.int k (k.wrap (a + b)))
    | .sub => some (.int k (k.wrap (a - b)))
    | .mul => some (.int k (k.wrap (a * b)))
    | .quo => if b = 0 then none else some (.int k (k.wrap (a.tdiv b)))
    | .rem => if b = 0 then none else some (.int k (a.tmod b))
    | .and => some (.int k (k.wrap (BitVec.ofInt k.bits a &&& BitVec.ofInt k.bits b).toNat))
    | .or => some (.int k (k.wrap (BitVec.ofInt k.bits a ||| BitVec.ofInt k.bits b).toNat))
    | .xor => some (.int k (k.wrap (BitVec.ofInt k.bits a ^^^ BitVec.ofInt k.bits b).toNat))
    | .andNot => some (.int k (k.wrap (BitVec.ofInt k.bits a &&& ~~~(BitVec.ofInt k.bits b)).toNat))
    | .eql => some (.bool (a == b))
    | .neq => some (.bool (a != b))
    | .lss => some (.bool (decide (a < b)))
    | .leq => some (.bool (decide (a ≤ b)))
    | .gtr => some (.bool (decide (a > b)))
    | .geq => some (.bool (decide (a ≥ b)))
    | _ => none

def sbin (op : BinOp) (x y : ByteArray) : Option Value :=
  match op with
  | .add => if x.size + y.size ≤ 9223372036854775807 then some (.string (x ++ y)) else none
  | .eql => some (.bool (x.toList == y.toList))
  | .neq => some (.bool !(x.toList == y.toList))
  | .lss => some (.bool (Op.bytesLess x.toList y.toList))
  | .leq => some (.bool (Op.bytesLess x.toList y.toList || x.toList == y.toList))
  | .gtr => some (.bool !(Op.bytesLess x.toList y.toList || x.toList == y.toList))
  | .geq => some (.bool !(Op.bytesLess x.toList y.toList))
  | _ => none

def partV (sz : Nat) (agg : Bool) (cs : Array Value) (off : Nat) : Option Value :=
  if agg then some (.agg (cs.extract off (off + sz))) else cs[off]?

def bytesV : List Value → Option (List UInt8)
  | [] => some []
  | .int .u8 n :: r => (bytesV r).bind fun l => some (UInt8.ofNat n.toNat :: l)
  | _ => none

/-- the bounds of a cut: low, high -/
def cutB (n cap : Nat) : Bool → Bool → List Value → Option (Nat × Nat)
  | false, false, [] => some (0, n)
  | true, false, [.int _ l] => if 0 ≤ l ∧ l ≤ n then some (l.toNat, n) else none
  | false, true, [.int _ h] => if 0 ≤ h ∧ h ≤ cap then some (0, h.toNat) else none
  | true, true, [.int _ l, .int _ h] => if 0 ≤ l ∧ l ≤ h ∧ h ≤ cap then some (l.toNat, h.toNat) else none
  | _, _, _ => none

def eqOf (neg b : Bool) : Option Value := some (.bool (if neg then !b else b))

/-- two rows of numbers, of the same kinds: are they alike -/
def intsEq : List Value → List Value → Option Bool
  | [], [] => some true
  | .int k a :: r, .int j b :: s => if k = j then (intsEq r s).map fun c => (a == b) && c else none
  | _, _ => none

/-- keys of a map: a number (none), so many numbers (some n) -/
def keyEq (kk : Option Nat) : Value → Value → Option Bool
  | .int k a, .int k' b => if kk = none ∧ k = k' then some (a == b) else none
  | .agg xs, .agg ys => match kk with | some n => if xs.size = n ∧ ys.size = n then intsEq xs.toList ys.toList else none | none => none
  | _, _ => none
def isIntV : Value → Bool
  | .int _ _ => true
  | _ => false
def keyOk (kk : Option Nat) : Value → Bool
  | .int _ _ => kk.isNone
  | .agg xs => match kk with | some n => xs.size == n && xs.toList.all isIntV | none => false
  | _ => false
def findV (kk : Option Nat) (k : Value) : List MapEntry → Nat → Option (Option (Nat × Value))
  | [], _ => some none
  | e :: es, i => match keyEq kk k e.key with
    | some true => some (some (i, e.val))
    | some false => findV kk k es (i + 1)
    | none => none
def entriesOf (h : Heap) : Option Nat → Option (List MapEntry)
  | none => some []
  | some r => match h[r]? with
    | some (.map es _) => some es.toList
    | _ => none
def lookV (h : Heap) (kk : Option Nat) (ok : Bool) (zero : Value) (r : Option Nat) (key : Value) : Option Value :=
  if keyOk kk key then (entriesOf h r).bind fun es => (findV kk key es 0).map fun a => match a with
    | some (_, v) => if ok then .tuple #[v, .bool true] else v
    | none => if ok then .tuple #[zero, .bool false] else zero
  else none

def IOp.sem (Y : Sys) (h : Heap) : IOp → List Value → Option Value
  | .mv, [x] => some x
  | .pick, [.bool c, a, b] => some (if c then a else b)
  | .nilck, [.pointer (some a)] => some (.pointer (some a))
  | .nilck, [.iface t v] => some (.iface t v)
  | .nilck, [.func (.func f) a b] => some (.func (.func f) a b)
  | .ib op, [.int k a, .int yk b] => ibin op k a yk b
  | .sb op, [.string a, .string b] => sbin op a b
  | .eqb neg, [.bool a, .bool b] => eqOf neg (a == b)
  | .eqp neg, [.pointer none, .pointer b] => eqOf neg b.isNone
  | .eqp neg, [.pointer (some _), .pointer none] => eqOf neg false
  | .eqi neg lit, [.nilIface, .nilIface] => if lit then eqOf neg true else none
  | .eqi neg _, [.nilIface, .iface _ _] => eqOf neg false
  | .eqi neg _, [.iface _ _, .nilIface] => eqOf neg false
  | .eqs neg, [.slice none _ _, .slice b _ _] => eqOf neg b.isNone
  | .eqs neg, [.slice (some _) _ _, .slice none _ _] => eqOf neg false
  | .eqf neg, [.nilFunc, .nilFunc] => eqOf neg true
  | .eqf neg, [.func _ _ _, .nilFunc] => eqOf neg false
  | .eqa neg n, [.agg xs, .agg ys] => if xs.size = n ∧ ys.size = n then (intsEq xs.toList ys.toList).bind (eqOf neg) else none
  | .un .neg, [.int k n] => some (.int k (k.wrap (0 - n)))
  | .un .not, [.bool b] => some (.bool !b)
  | .conv k, [.int _ n] => some (.int k (k.wrap n))
  | .fadr off, [.pointer (some ⟨b, o, none⟩)] => some (.pointer (some ⟨b, o + off, none⟩))
  | .idxa sz, [.slice (some ⟨b, o, none⟩) n _, .int _ i] => if 0 ≤ i ∧ i < n then some (.pointer (some ⟨b, o + i.toNat * sz, none⟩)) else none
  | .idxA n sz, [.pointer (some ⟨b, o, none⟩), .int _ i] => if 0 ≤ i ∧ i < n then some (.pointer (some ⟨b, o + i.toNat * sz, none⟩)) else none
  | .idxS, [.string s, .int _ i] => if 0 ≤ i then (s[i.toNat]?).bind fun b => some (.int .u8 b.toNat) else none
  | .idxV n sz agg, [.agg cs, .int _ i] => if 0 ≤ i ∧ i < n then partV sz agg cs (i.toNat * sz) else none
  | .fld off sz agg, [.agg cs] => partV sz agg cs off
  | .slc sz lo hi, .slice a n c :: r => (cutB n c lo hi r).bind fun x =>
      match a with
      | none => some (.slice none (x.2 - x.1) (c - x.1))
      | some ⟨b, o, none⟩ => some (.slice (some ⟨b, if c = x.1 then o else o + x.1 * sz, none⟩) (x.2 - x.1) (c - x.1))
      | some ⟨b, o, some sp⟩ => if c = x.1 then some (.slice (some ⟨b, o, some sp⟩) (x.2 - x.1) (c - x.1)) else none
  | .slcS lo hi, .string s :: r => (cutB s.size s.size lo hi r).bind fun x => some (.string (s.extract x.1 x.2))
  | .slcA n sz lo hi, .pointer (some ⟨b, o, none⟩) :: r => (cutB n n lo hi r).bind fun x =>
      some (.slice (some ⟨b, if n = x.1 then o else o + x.1 * sz, none⟩) (x.2 - x.1) (n - x.1))
  | .ext i, [.tuple vs] => vs[i]?
  | .build zero pl ix, xs => (Instr.fill (fun i => pl[i]?) zero (ix.zip xs)).bind fun cs => some (.agg cs)
  | .buildA sz zero ix, xs => (Instr.fill (fun i => some (i * sz, sz)) zero (ix.zip xs)).bind fun cs => some (.agg cs)
  | .mkI t, [x] => some (.iface (Y.tid t) x)
  | .len, [.slice _ n _] => some (.int .i64 n)
  | .lenS, [.string s] => some (.int .i64 s.size)
  | .lenA n, [_] => some (.int .i64 n)
  | .cap, [.slice _ _ n] => some (.int .i64 n)
  | .mn, [.int k x, .int _ y] => some (.int k (if y < x then y else x))
  | .mx, [.int k x, .int _ y] => some (.int k (if x < y then y else x))
  | .load sz true, [.pointer (some ⟨b, o, none⟩)] => (rd h b o sz).bind fun l => some (.agg l.toArray)
  | .load _ false, [.pointer (some ⟨b, o, none⟩)] => hc h b o
  | .b2s, [.slice none _ _] => some (.string .empty)
  | .b2s, [.slice (some ⟨b, o, none⟩) n _] => (rd h b o n).bind fun l => (bytesV l).bind fun s => some (.string ⟨s.toArray⟩)
  | .ta t ok zero, [.iface t' v] =>
      if t' = Y.tid t then some (if ok then .tuple #[v, .bool true] else v) else if ok then some (.tuple #[zero, .bool false]) else none
  | .ta _ true zero, [.nilIface] => some (.tuple #[zero, .bool false])
  | .mkf f k, xs => some (.func (.func (Y.fid f)) (xs.take k).toArray (xs.drop k).toArray)
  | .lookup kk ok zero, [.map r, key] => lookV h kk ok zero r key
  | .lenM, [.map r] => (entriesOf h r).map fun es => .int .i64 es.length
  | _, _ => none

def zeros (zero : Array Value) (n : Nat) : Array Value := (Array.range n).map (zero[· % zero.size]!)

/-- the cells of a slice, or of a string, that append and copy take -/
def srcOf (h : Heap) (sz n : Nat) : Value → Option (List Value)
  | .slice (some ⟨b, o, none⟩) _ _ => rd h b o (n * sz)
  | .slice (some ⟨_, _, some _⟩) _ _ => if n = 0 then some [] else none
  | .slice none _ _ => some []
  | .string s => some ((s.extract 0 n).data.toList.map fun b => .int .u8 b.toNat)
  | _ => none

def lenV : Value → Option Nat
  | .slice _ n _ => some n
  | .string s => some s.size
  | _ => none

def Ef.wp (h : Heap) (K : Value → Heap → Prop) : Ef → List Value → Prop
  | .store sz, [.pointer (some ⟨b, o, none⟩), v] => v.cells.size = sz ∧
      match hst h b o v.cells.toList with
      | some h' => K undef h'
      | none => False
  | .new, [v] => ∀ t : TypeId, K (.pointer (some ⟨h.size, 0, none⟩)) (h.push (.cells v.cells t))
  | .bslice len sz zero pl, xs =>
      match Instr.fill (fun i => some (i * sz, sz)) (zeros zero (len * sz)) (pl.zip xs) with
      | some cs => ∀ t : TypeId, K (.slice (some ⟨h.size, 0, none⟩) len len) (h.push (.cells cs t))
      | none => False
  | .mkslice sz bytes zero, [.int _ l, .int _ c] => 0 ≤ l ∧ l ≤ c ∧ c ≤ 9223372036854775807 ∧ (bytes : Int) * c ≤ 281474976710656 ∧
      ∀ t : TypeId, K (.slice (some ⟨h.size, 0, none⟩) l.toNat c.toNat) (h.push (.cells (zeros zero (c.toNat * sz)) t))
  | .append sz bytes zero, [.slice a n c, x] =>
      match lenV x with
      | none => False
      | some m =>
        match srcOf h sz m x with
        | none => False
        | some nw =>
          if n + m ≤ c then
            match a with
            | some ⟨b, o, none⟩ =>
              match hst h b (o + n * sz) nw with
              | some h' => K (.slice a (n + m) c) h'
              | none => False
            | none => K (.slice none (n + m) c) h
            | _ => False
          else
            n + m ≤ 9223372036854775807 ∧ (n + m) * bytes ≤ 140737488355328 ∧
            match srcOf h sz n (.slice a n c) with
            | some old => ∀ (t : TypeId) (nc : Nat), n + m ≤ nc → nc ≤ 9223372036854775807 →
                K (.slice (some ⟨h.size, 0, none⟩) (n + m) nc) (h.push (.cells (old.toArray ++ nw.toArray ++ Builtin.zeroCells zero (nc - (n + m))) t))
            | none => False
  | .copy sz, [.slice a n _, x] =>
      match lenV x with
      | none => False
      | some m =>
        match srcOf h sz (min m n) x with
        | none => False
        | some nw =>
          match a with
          | some ⟨b, o, none⟩ =>
            match hst h b o nw with
            | some h' => K (.int .i64 (min m n : Nat)) h'
            | none => False
          | none => K (.int .i64 (min m n : Nat)) h
          | _ => False
  | .s2b, [.string s] => ∀ (t : TypeId) (nc : Nat), s.size ≤ nc →
      K (.slice (some ⟨h.size, 0, none⟩) s.size nc)
        (h.push (.cells ((s.data.map fun b => Value.int .u8 b.toNat) ++ Array.replicate (nc - s.size) (.int .u8 0)) t (nc, nc + 1)))
  | .b2b, [.slice (some a) n c] =>
      match h[a.block]? with
      | some (.cells cs t (0, 0)) => K (.slice (some a) n c) (h.modify a.block fun _ => .cells cs t (cs.size, cs.size + 1))
      | _ => False
  | .mkmap, [] => K (.map (some h.size)) (h.push (.map #[] 0))
  | .mkmap, [.int _ _] => K (.map (some h.size)) (h.push (.map #[] 0))
  | .mupd kk, [.map (some r), key, val] =>
      match h[r]? with
      | some (.map es clock) => keyOk kk key = true ∧
        match findV kk key es.toList 0 with
        | some (some (i, _)) => K undef (h.setIfInBounds r (.map (es.modify i fun e => { e with key, val }) clock))
        | some none => K undef (h.setIfInBounds r (.map (es.push { key, val, born := clock }) (clock + 1)))
        | none => False
      | _ => False
  | _, _ => False

inductive Instr where
  | op (o : IOp) (xs : List Arg) (d : Dst)
  | ef (f : Ef) (xs : List Arg) (d : Dst)
  | call (f : Nat) (xs : List Arg) (d : Dst)
  | callv (x : Arg) (xs : List Arg) (d : Dst)
  | stab (o : IOp) (xs : List Arg) (v : Arg)

def Dst.e (v : Value) (e : List Value) : Dst → List Value
  | .set i => e.set i v
  | _ => e

def Dst.T (v : Value) (T : List Value) : Dst → List Value
  | .push => T ++ [v]
  | _ => T

/-- an option that must be there -/
def need (o : Option Value) (k : Value → Prop) : Prop :=
  match o with
  | some v => k v
  | none => False

abbrev Kont := List Value → List Value → Heap → Prop

def Instr.wp (Y : Sys) (K : Kont) (e T : List Value) (h : Heap) : Instr → Prop
  | .op o xs d => need (o.sem Y h (xs.map (Arg.ev Y e T))) fun v => K (d.e v e) (d.T v T) h
  | .ef f xs d => f.wp h (fun v h' => K (d.e v e) (d.T v T) h') (xs.map (Arg.ev Y e T))
  | .call f xs d => Y.C (Y.fid f) (xs.map (Arg.ev Y e T)) h fun v h' => K (d.e v e) (d.T v T) h'
  | .callv x xs d =>
    match x.ev Y e T with
    | .func (.func f) first cap => Y.able f ∧ Y.C f (first.toList ++ xs.map (Arg.ev Y e T) ++ cap.toList) h fun v h' => K (d.e v e) (d.T v T) h'
    | _ => False
  | .stab o xs v => o.sem Y h (xs.map (Arg.ev Y e T)) = some (v.ev Y e T) ∧ K e T h

def Instr.dst : Instr → Dst
  | .op _ _ d | .ef _ _ d | .call _ _ d | .callv _ _ d => d
  | .stab _ _ _ => .drop

def gdB (v : Value) (want : Bool) : Bool :=
  match v with
  | .bool b => b == want
  | _ => false

/-- a flat instruction: under a guard, or none -/
structure FI where
  g : Option (Arg × Bool)
  i : Instr

def FI.wp (Y : Sys) (x : FI) (K : Kont) (e T : List Value) (h : Heap) : Prop :=
  match x.g with
  | none => x.i.wp Y K e T h
  | some (g, want) => if gdB (g.ev Y e T) want then x.i.wp Y K e T h else K (x.i.dst.e undef e) (x.i.dst.T undef T) h

def FL.wp (Y : Sys) (K : Kont) : List FI → Kont
  | [], e, T, h => K e T h
  | x :: r, e, T, h => x.wp Y (FL.wp Y K r) e T h

/-- instructions in groups: what stands under one guard is one group -/
inductive IL where
  | nil
  | op (i : Instr) (k : IL)
  | gd (g : Arg) (want : Bool) (body : IL) (ds : List Dst) (k : IL)
  | alt (a b : IL)

def undE : List Dst → List Value → List Value
  | [], e => e
  | d :: r, e => undE r (d.e undef e)

def undT : List Dst → List Value → List Value
  | [], T => T
  | d :: r, T => undT r (d.T undef T)

def IL.wp (Y : Sys) (K : Kont) : IL → Kont
  | .nil, e, T, h => K e T h
  | .op i k, e, T, h => i.wp Y (IL.wp Y K k) e T h
  | .gd g want body ds k, e, T, h => if gdB (g.ev Y e T) want then IL.wp Y (IL.wp Y K k) body e T h else IL.wp Y K k (undE ds e) (undT ds T) h
  | .alt a b, e, T, h => IL.wp Y K a e T h ∧ IL.wp Y K b e T h

/-- flat instructions, where the order of two may be open: both ways -/
inductive FT where
  | nil
  | cons (x : FI) (k : FT)
  | alt (a b : FT)

def FT.wp (Y : Sys) (K : Kont) : FT → Kont
  | .nil, e, T, h => K e T h
  | .cons x k, e, T, h => x.wp Y (FT.wp Y K k) e T h
  | .alt a b, e, T, h => FT.wp Y K a e T h ∧ FT.wp Y K b e T h

def FT.app : List FI → FT → FT
  | [], k => k
  | x :: r, k => .cons x (FT.app r k)

inductive Stmt where
  | skip
  | seq (a b : Stmt)
  | reg (l : IL)
  | cond (x : Arg) (a b : Stmt)
  | block (id : Nat) (s : Stmt)
  | loop (s : Stmt)
  | exit (id : Nat)
  | ret

def Stmt.wp (Y : Sys) : Stmt → (kn : List Value → Heap → Prop) → (ke : Nat → List Value → Heap → Prop) → (kr : List Value → Heap → Prop) → List Value → Heap → Prop
  | .skip, kn, _, _, e, h => kn e h
  | .seq a b, kn, ke, kr, e, h => a.wp Y (fun e h => b.wp Y kn ke kr e h) ke kr e h
  | .reg l, kn, _, _, e, h => l.wp Y (fun e _ h => kn e h) e [] h
  | .cond x a b, kn, ke, kr, e, h =>
    match x.ev Y e [] with
    | .bool c => if c = true then a.wp Y kn ke kr e h else b.wp Y kn ke kr e h
    | _ => False
  | .block id s, kn, ke, kr, e, h => s.wp Y kn (fun i e h => if i = id then kn e h else ke i e h) kr e h
  | .loop s, _, ke, kr, e, h => ∃ (I : List Value → Heap → Prop) (μ : List Value → Heap → Nat), I e h ∧
      ∀ e h, I e h → s.wp Y (fun e' h' => I e' h' ∧ μ e' h' < μ e h) ke kr e h
  | .exit id, _, ke, _, e, h => ke id e h
  | .ret, _, _, kr, e, h => kr e h

/-- a result: a named local, or what its box holds -/
inductive Res where
  | n (i : Nat)
  | box (i : Nat) (sz : Nat) (agg : Bool)

def Res.ev (e : List Value) (h : Heap) : Res → Option Value
  | .n i => some (e.getD i undef)
  | .box i sz agg =>
    match e.getD i undef with
    | .pointer (some ⟨b, o, none⟩) => if agg then (rd h b o sz).bind fun l => some (.agg l.toArray) else hc h b o
    | _ => none

structure FnS where
  np : Nat
  nn : Nat
  body : Stmt
  res : List Res

def resAll (e : List Value) (h : Heap) : List Res → Option (List Value)
  | [] => some []
  | r :: l => (r.ev e h).bind fun v => (resAll e h l).bind fun vs => some (v :: vs)

def resP (res : List Res) (R : Value → Heap → Prop) (e : List Value) (h : Heap) : Prop :=
  match resAll e h res with
  | some [v] => R v h
  | some vs => R (.tuple vs.toArray) h
  | none => False

def FnS.wp (Y : Sys) (S : FnS) (args : List Value) (h : Heap) (R : Value → Heap → Prop) : Prop :=
  S.body.wp Y (resP S.res R) (fun _ _ _ => False) (resP S.res R) (args ++ List.replicate (S.nn - S.np) undef) h

/-- function j of the system is the program S -/
def Sys.Has (Y : Sys) (j : Nat) (S : FnS) : Prop :=
  Y.able (Y.fid j) ∧ ∀ (args : List Value) (h : Heap) (R : Value → Heap → Prop), args.length = S.np → S.wp Y args h R → Y.C (Y.fid j) args h R

end Go.Rm
