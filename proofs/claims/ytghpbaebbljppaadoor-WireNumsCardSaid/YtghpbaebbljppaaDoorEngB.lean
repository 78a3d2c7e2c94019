/- The engine, part B: the compiler from the model's code to the small language. -/
import Derived.Test.YtghpbaebbljppaaDoorEngA
set_option linter.unusedSimpArgs false
set_option linter.unusedVariables false
namespace Go.Rm

structure Cx where
  P : Program
  fn : FuncId → Option Nat
  tn : TypeId → Option Nat
  gn : Nat → Option Nat
  nm : List Nat
  nt : Nat

inductive Kd where
  | io (o : IOp)
  | ef (f : Ef)
  | call (f : Nat)
  | callv

def isAggD : TypeDesc → Bool
  | .struct _ | .array _ _ => true
  | _ => false

def Operand.isC : Operand → Bool
  | .const _ => true
  | _ => false

section
variable (cx : Cx)

def szOf (t : TypeId) : Option Nat := (cx.P.info? t).map (·.size)
def zeroOf (t : TypeId) : Option Value := (cx.P.info? t).bind (·.zero)

def eqKind (neg : Bool) (op : BinOp) (t : TypeId) (x y : Operand) : Option Kd :=
  match cx.P.underlying t with
  | some (.int _) => some (.io (.ib op))
  | some .string => some (.io (.sb op))
  | some .bool => some (.io (.eqb neg))
  | some (.pointer _) => some (.io (.eqp neg))
  | some (.interface _) => some (.io (.eqi neg (Operand.isC x || Operand.isC y)))
  | some (.slice _) => some (.io (.eqs neg))
  | some (.func _ _ _) => some (.io (.eqf neg))
  | _ => none

def binKind (op : BinOp) (t : TypeId) (x y : Operand) : Option Kd :=
  match op with
  | .eql => eqKind cx false op t x y
  | .neq => eqKind cx true op t x y
  | _ =>
    match cx.P.underlying t with
    | some (.int _) => some (.io (.ib op))
    | some .string => some (.io (.sb op))
    | _ => none

def kind : Op → Option (Kd × List Operand)
  | .move x | .assign x => some (.io .mv, [x])
  | .pick c a b => some (.io .pick, [c, a, b])
  | .alloc t => (zeroOf cx t).map fun z => (.ef .new, [.const z])
  | .box _ x => some (.ef .new, [x])
  | .build t ps =>
    match cx.P.underlying t, zeroOf cx t with
    | some (.struct fs), some z => (fs.toList.mapM fun f => (szOf cx f.type).map fun n => (f.offset, n)).map fun pl => (.io (.build z.cells pl (ps.toList.map (·.1))), ps.toList.map (·.2))
    | some (.array _ e), some z => (szOf cx e).map fun n => (.io (.buildA n z.cells (ps.toList.map (·.1))), ps.toList.map (·.2))
    | _, _ => none
  | .buildSlice t len ps =>
    match cx.P.underlying t with
    | some (.slice e) =>
      match szOf cx e, zeroOf cx e with
      | some sz, some z => if len * sz ≤ 16777216 then some (.ef (.bslice len sz (if len * sz = 0 then #[] else z.cells) (ps.toList.map (·.1))), ps.toList.map (·.2)) else none
      | _, _ => none
    | _ => none
  | .load t x =>
    match cx.P.underlying t with
    | some d => if isAggD d then (szOf cx t).map fun n => (.io (.load n true), [x]) else some (.io (.load 1 false), [x])
    | none => none
  | .store t a v => (szOf cx t).map fun n => (.ef (.store n), [a, v])
  | .nilCheck x => some (.io .nilck, [x])
  | .binOp op t x y _ => (binKind cx op t x y).map fun k => (k, [x, y])
  | .unOp op _ x => some (.io (.un op), [x])
  | .convert s d x =>
    match cx.P.underlying s, cx.P.underlying d with
    | some _, some (.int k) => some (.io (.conv k), [x])
    | some (.slice e), some .string => match cx.P.underlying e with | some (.int .u8) => some (.io .b2s, [x]) | _ => none
    | some .string, some (.slice e) => match cx.P.underlying e with | some (.int .u8) => some (.ef .s2b, [x]) | _ => none
    | _, _ => none
  | .makeInterface t x =>
    match cx.P.underlying t with
    | some (.interface _) => none
    | some _ => (cx.tn t).map fun n => (.io (.mkI n), [x])
    | none => none
  | .makeFunc (.func f) first cap => (cx.fn f).map fun n => (.io (.mkf n first.size), first.toList ++ cap.toList)
  | .makeSlice t l c =>
    match cx.P.underlying t with
    | some (.slice e) =>
      match szOf cx e, zeroOf cx e, cx.P.info? e with
      | some sz, some z, some i => some (.ef (.mkslice sz i.bytes z.cells), [l, c])
      | _, _, _ => none
    | _ => none
  | .slice t x lo hi none =>
    match cx.P.underlying t with
    | some (.slice e) => (szOf cx e).map fun n => (.io (.slc n lo.isSome hi.isSome), x :: (lo.toList ++ hi.toList))
    | some .string => some (.io (.slcS lo.isSome hi.isSome), x :: (lo.toList ++ hi.toList))
    | some (.array len e) => (szOf cx e).map fun n => (.io (.slcA len n lo.isSome hi.isSome), x :: (lo.toList ++ hi.toList))
    | _ => none
  | .fieldAddr t x f =>
    match cx.P.underlying t with
    | some (.struct fs) => (fs[f]?).bind fun fd => (szOf cx fd.type).bind fun n => if n = 0 then none else some (.io (.fadr fd.offset), [x])
    | _ => none
  | .field t x f =>
    match cx.P.underlying t with
    | some (.struct fs) => (fs[f]?).bind fun fd =>
      match cx.P.underlying fd.type with
      | some d => if isAggD d then (szOf cx fd.type).map fun n => (.io (.fld fd.offset n true), [x]) else some (.io (.fld fd.offset 1 false), [x])
      | none => none
    | _ => none
  | .indexAddr t x i =>
    match cx.P.underlying t with
    | some (.slice e) => (szOf cx e).map fun n => (.io (.idxa n), [x, i])
    | some (.array len e) => (szOf cx e).map fun n => (.io (.idxA len n), [x, i])
    | _ => none
  | .index t x i =>
    match cx.P.underlying t with
    | some .string => some (.io .idxS, [x, i])
    | some (.array len e) =>
      match cx.P.underlying e, szOf cx e with
      | some d, some n => some (.io (.idxV len n (isAggD d)), [x, i])
      | _, _ => none
    | _ => none
  | .typeAssert x _ t ok =>
    match cx.P.underlying t with
    | some (.interface _) => none
    | some _ => match cx.tn t, zeroOf cx t with
      | some n, some z => some (.io (.ta n ok z), [x])
      | _, _ => none
    | none => none
  | .extract x i => some (.io (.ext i), [x])
  | .call c =>
    match c.callee with
    | .value (.func f) => (cx.fn f).map fun n => (.call n, c.args.toList)
    | .value x => some (.callv, x :: c.args.toList)
    | .builtin .len =>
      match c.argTypes.toList, c.args.toList with
      | [t], [x] =>
        match cx.P.underlying t with
        | some (.slice _) => some (.io .len, [x])
        | some .string => some (.io .lenS, [x])
        | some (.array n _) => some (.io (.lenA n), [x])
        | _ => none
      | _, _ => none
    | .builtin .cap =>
      match c.argTypes.toList, c.args.toList with
      | [t], [x] => match cx.P.underlying t with | some (.slice _) => some (.io .cap, [x]) | _ => none
      | _, _ => none
    | .builtin .min => match c.args.toList with | [x, y] => some (.io .mn, [x, y]) | _ => none
    | .builtin .max => match c.args.toList with | [x, y] => some (.io .mx, [x, y]) | _ => none
    | .builtin .append =>
      match c.argTypes.toList, c.args.toList with
      | [t, u], [x, y] =>
        match cx.P.underlying t, cx.P.underlying u with
        | some (.slice e), some du =>
          match szOf cx e, zeroOf cx e, cx.P.info? e, du with
          | some sz, some z, some i, .slice _ => if z.cells.size = sz ∧ i.bytes ≠ 0 then some (.ef (.append sz i.bytes z.cells), [x, y]) else none
          | some sz, some z, some i, .string => if z.cells.size = sz ∧ i.bytes ≠ 0 then some (.ef (.append sz i.bytes z.cells), [x, y]) else none
          | _, _, _, _ => none
        | _, _ => none
      | _, _ => none
    | .builtin .copy =>
      match c.argTypes.toList, c.args.toList with
      | t :: _, [x, y] =>
        match cx.P.underlying t with
        | some (.slice e) => (szOf cx e).map fun n => (.ef (.copy n), [x, y])
        | _ => none
      | _, _ => none
    | _ => none
  | _ => none

abbrev SM := List (Nat × Arg)

def Arg.isN (i : Nat) : Arg → Bool
  | .n j => j == i
  | _ => false

def rsv (m : SM) : Operand → Option Arg
  | .tmp s =>
    match m.lookup s with
    | some a => some a
    | none => (cx.nm.idxOf? s).map .n
  | .const v => some (.c v)
  | .global g => (cx.gn g).map .g
  | .func f => (cx.fn f).map .f

def instrOf (d : Dst) : Kd → List Arg → Option Instr
  | .io o, xs => some (.op o xs d)
  | .ef f, xs => some (.ef f xs d)
  | .call f, xs => some (.call f xs d)
  | .callv, x :: xs => some (.callv x xs d)
  | .callv, [] => none

def guardOf (ops : Array Oper) (m : SM) : Option (Nat × Bool) → Option (Option (Arg × Bool))
  | none => some none
  | some (j, want) => ((ops[j]?).bind (·.dst)).bind fun s => (rsv cx m (.tmp s)).map fun a => some (a, want)

/-- where the result goes; what is known of the slots behind it -/
def dstOf (m : SM) (d : Nat) : Option Tmp → Option (Dst × SM × Nat)
  | none => some (.drop, m, d)
  | some s =>
    if s < cx.nt then
      match cx.nm.idxOf? s with
      | some i => some (.set i, m.filter (fun p => !p.2.isN i && p.1 != s), d)
      | none => some (.push, (s, .t d) :: m.filter (fun p => p.1 != s), d + 1)
    else none

def isMv : Kd → List Arg → Option Arg
  | .io .mv, [x] => some x
  | _, _ => none

/-- a move into a slot of no name: the slot is another word for its source -/
def aliasOf (o : Oper) (k : Kd) (xs : List Arg) : Option (Nat × Arg) :=
  match o.guard, isMv k xs, o.dst with
  | none, some x, some s => if s < cx.nt ∧ cx.nm.idxOf? s = none then some (s, x) else none
  | _, _, _ => none

def stepOp (ops : Array Oper) (m : SM) (d : Nat) (o : Oper) : Option (List FI × SM × Nat) :=
  match guardOf cx ops m o.guard, kind cx o.op with
  | some g, some (k, xs) =>
    match xs.mapM (rsv cx m) with
    | some as =>
      match aliasOf cx o k as with
      | some (s, x) => some ([], (s, x) :: m.filter (fun p => p.1 != s), d)
      | none =>
        match dstOf cx m d o.dst with
        | some (ds, m', d') => (instrOf ds k as).map fun i => ([⟨g, i⟩], m', d')
        | none => none
    | none => none
  | _, _ => none

def compL (ops : Array Oper) : List Nat → SM → Nat → Option (List FI)
  | [], _, _ => some []
  | i :: r, m, d =>
    match ops[i]? with
    | none => none
    | some o =>
      match stepOp cx ops m d o with
      | none => none
      | some (fl, m', d') => (compL ops r m' d').map (fl ++ ·)


def Arg.same : Arg → Arg → Bool
  | .t i, .t j => i == j
  | .n i, .n j => i == j
  | _, _ => false

def Dst.keeps (d : Dst) : Arg → Bool
  | .n i => match d with | .set j => i != j | _ => true
  | _ => true

def consFI (x : FI) (k : IL) : IL :=
  match x.g with
  | none => .op x.i k
  | some (g, w) =>
    match k with
    | .gd g' w' body ds k' => if g.same g' && w == w' && x.i.dst.keeps g then .gd g w (.op x.i body) (x.i.dst :: ds) k' else .gd g w (.op x.i .nil) [x.i.dst] k
    | _ => .gd g w (.op x.i .nil) [x.i.dst] k

def grp : List FI → IL
  | [] => .nil
  | x :: r => consFI x (grp r)

def grpT : FT → IL
  | .nil => .nil
  | .cons x k => consFI x (grpT k)
  | .alt a b => .alt (grpT a) (grpT b)


end

section
variable (cx : Cx)

/-- any-binding direct deps of an operation -/
def depsOf (o : Oper) : List Nat := o.after.toList.filterMap fun e => if Region.binds .any e then some e.on else none

def compC (compD : Array Oper → Option FT) : Code → Option Stmt
  | .skip => some .skip
  | .seq a b => (compC compD a).bind fun x => (compC compD b).map fun y => .seq x y
  | .region _ ops draw => if draw then (compD ops).map fun l => .reg (grpT l) else (compL cx ops (List.range ops.size) [] 0).map fun l => .reg (grp l)
  | .cond c a b => (rsv cx [] c).bind fun x => (compC compD a).bind fun y => (compC compD b).map fun z => .cond x y z
  | .block id s => (compC compD s).map (.block id)
  | .loop s => (compC compD s).map .loop
  | .exit id => some (.exit id)
  | .ret => some .ret
  | _ => none

def compRes (r : ResultVar) : Option Res :=
  match r with
  | .tmp t => (cx.nm.idxOf? t).map .n
  | .cell a t =>
    match cx.P.underlying t, cx.nm.idxOf? a with
    | some d, some i => if isAggD d then (szOf cx t).map fun n => .box i n true else some (.box i 1 false)
    | _, _ => none

def mapO {α β : Type} (f : α → Option β) : List α → Option (List β)
  | [] => some []
  | x :: r => (f x).bind fun y => (mapO f r).map (y :: ·)

def nodupB : List Nat → Bool
  | [] => true
  | x :: r => !r.contains x && nodupB r

def compF (compD : Array Oper → Option FT) (fn : Func) : Option FnS :=
  if cx.nt = fn.ntmps ∧ cx.nm.all (· < cx.nt) ∧ nodupB cx.nm ∧ (cx.nm.take (fn.params.size + fn.nfree) = List.range (fn.params.size + fn.nfree)) ∧ fn.params.size + fn.nfree ≤ cx.nm.length then
    match fn.body with
    | none => none
    | some c => (compC cx compD c).bind fun s => (mapO (compRes cx) fn.results.toList).map fun rs => ⟨fn.params.size + fn.nfree, cx.nm.length, s, rs⟩
  else none
end
end Go.Rm
