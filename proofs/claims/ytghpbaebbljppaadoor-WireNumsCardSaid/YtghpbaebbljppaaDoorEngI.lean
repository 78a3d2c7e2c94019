/- The engine, part I: the compiler of regions that draw their order. -/
import Derived.Test.YtghpbaebbljppaaDoorEngB
set_option linter.unusedSimpArgs false
set_option linter.unusedVariables false
namespace Go.Rm

/-- a floating operation that has been compiled: its number, guard, operation, operands, and where its value stands; the slots that it reads -/
structure FR where
  i : Nat
  g : Option (Arg × Bool)
  io : IOp
  as : List Arg
  x : Arg
  uses : List (Nat × Arg)

structure DS where
  m : SM
  d : Nat
  W : List (Nat × Nat)
  F : List FR

def heapDep : IOp → Bool
  | .load _ _ | .b2s => true
  | _ => false

section
variable (cx : Cx)

/-- the slots among operands that are no named locals, with what stands for them -/
def usesOf (m : SM) : List Operand → List (Nat × Arg)
  | [] => []
  | .tmp s :: r =>
    match m.lookup s with
    | some x => (s, x) :: usesOf m r
    | none => usesOf m r
  | _ :: r => usesOf m r

def guardSlot (ops : Array Oper) : Option (Nat × Bool) → List Operand
  | none => []
  | some (j, _) => match (ops[j]?).bind (·.dst) with | some s => [.tmp s] | none => []

/-- each slot's writer is among the operations that come ahead -/
def writersIn (W : List (Nat × Nat)) (deps : List Nat) (us : List (Nat × Arg)) : Bool :=
  us.all fun u => match W.lookup u.1 with | some i => deps.contains i | none => false

def mentions (j : Nat) (f : FR) : Bool :=
  f.as.any (Arg.isN j) || f.x.isN j || (match f.g with | some (y, _) => y.isN j | none => false) || f.uses.any (fun u => u.2.isN j)

def setOf (d : Dst) : Option Nat :=
  match d with
  | .set j => some j
  | _ => none

def takenDst (W : List (Nat × Nat)) : Option Tmp → Bool
  | some s => (W.lookup s).isSome
  | none => false

def addW (W : List (Nat × Nat)) (i : Nat) : Option Tmp → List (Nat × Nat)
  | some s => (s, i) :: W
  | none => W

def setFree (F : List FR) : Option Nat → Bool
  | some j => F.all fun f => !mentions j f
  | none => true

def stabs (F : List FR) : List FI := (F.filter (fun f => heapDep f.io)).map fun f => ⟨f.g, .stab f.io f.as f.x⟩

def floatDst (k : Kd) (dst : Option Tmp) : Option (IOp × Nat) :=
  match k, dst with
  | .io io, some s => if s < cx.nt ∧ cx.nm.idxOf? s = none then some (io, s) else none
  | _, _ => none

def isFloat (o : Oper) : Bool :=
  match kind cx o.op with
  | some (k, _) => (floatDst cx k o.dst).isSome
  | none => false

/-- nothing that is left must come ahead of i -/
def freeOf (ops : Array Oper) (left : List Nat) (i : Nat) : Bool :=
  match ops[i]? with
  | some o => (depsOf o).all fun q => !left.contains q
  | none => false

def altAll : List FT → Option FT
  | [] => none
  | [x] => some x
  | x :: r => (altAll r).map fun y => .alt x y

/-- operation i is compiled, the rest by 'go' -/
def compOne (ops : Array Oper) (bm : Array Nat) (go : List Nat → DS → Option FT) (left : List Nat) (st : DS) (i : Nat) : Option FT :=
  match ops[i]? with
  | none => none
  | some o =>
    match guardOf cx ops st.m o.guard, kind cx o.op with
    | some g, some (k, xs) =>
      match xs.mapM (rsv cx st.m) with
      | none => none
      | some as =>
        let us := usesOf st.m (guardSlot ops o.guard ++ xs)
        if writersIn st.W (depsOf o) us then
          match floatDst cx k o.dst with
          | some (io, s) =>
            if (st.W.lookup s).isSome then none else
            match aliasOf cx o k as with
            | some (_, x) => go (left.erase i) ⟨(s, x) :: st.m, st.d, (s, i) :: st.W, ⟨i, none, .mv, [x], x, us⟩ :: st.F⟩
            | none => (go (left.erase i) ⟨(s, .t st.d) :: st.m, st.d + 1, (s, i) :: st.W, ⟨i, g, io, as, .t st.d, us⟩ :: st.F⟩).map (.cons ⟨g, .op io as .push⟩)
          | none =>
            if takenDst st.W o.dst then none else
            match dstOf cx st.m st.d o.dst with
            | none => none
            | some (ds, m', d') =>
              match instrOf ds k as with
              | none => none
              | some ins =>
                let F' := st.F.filter (fun f => !(bm.getD i 0).testBit f.i)
                if setFree F' (setOf ds) then
                  (go (left.erase i) ⟨m', d', addW st.W i o.dst, F'⟩).map fun t => .cons ⟨g, ins⟩ (FT.app (stabs F') t)
                else none
        else none
    | _, _ => none

def floatNext (ops : Array Oper) (left : List Nat) : Option Nat :=
  left.find? fun i => (match ops[i]? with | some o => isFloat cx o | none => false) && freeOf ops left i

def compDT (ops : Array Oper) (bm : Array Nat) : Nat → List Nat → DS → Option FT
  | 0, left, _ => if left.isEmpty then some .nil else none
  | n + 1, left, st =>
    if left.isEmpty then some .nil else
    match floatNext cx ops left with
    | some i => compOne cx ops bm (compDT ops bm n) left st i
    | none => (mapO (compOne cx ops bm (compDT ops bm n) left st) (left.filter (freeOf ops left))).bind altAll

/-- the certificate of what must come ahead -/
def bmOk (ops : Array Oper) (bm : Array Nat) : Bool :=
  (List.range ops.size).all fun c =>
    match ops[c]? with
    | some o => (depsOf o).all (· < c) && (bm.getD c 0 == (depsOf o).foldl (fun s j => s ||| 2 ^ j ||| bm.getD j 0) 0)
    | none => false

def bmMake (ops : Array Oper) : Array Nat :=
  ops.foldl (fun bm o => bm.push ((depsOf o).foldl (fun s j => s ||| 2 ^ j ||| bm.getD j 0) 0)) #[]

def compD (ops : Array Oper) : Option FT :=
  let bm := bmMake ops
  if bmOk ops bm then compDT cx ops bm ops.size (List.range ops.size) ⟨[], 0, [], []⟩ else none

end
end Go.Rm
