/- The engine, part N: a program's functions and types by numbers of our own; each function that compiles is in the system. -/
import Derived.Test.YtghpbaebbljppaaDoorEngL
set_option linter.unusedSimpArgs false
set_option linter.unusedVariables false
namespace Go.Rm

def Operand.slot : Operand → List Nat
  | .tmp s => [s]
  | _ => []

def regionReads (ops : Array Oper) : List Nat :=
  (ops.foldl (fun (acc : List Nat × List Nat) o =>
    let rs := o.op.operands.toList.flatMap Operand.slot
    let new := rs.filter fun s => !acc.1.contains s
    ((match o.dst with | some d => d :: acc.1 | none => acc.1), new ++ acc.2)) ([], [])).2

def regionAssigns (ops : Array Oper) : List Nat :=
  ops.toList.flatMap fun o => match o.op, o.dst with | .assign _, some d => [d] | _, _ => []

def codeNames : Code → List Nat
  | .seq a b => codeNames a ++ codeNames b
  | .region _ ops _ => regionReads ops ++ regionAssigns ops
  | .cond c a b => Operand.slot c ++ codeNames a ++ codeNames b
  | .block _ s => codeNames s
  | .loop s => codeNames s
  | _ => []

def insSorted (x : Nat) : List Nat → List Nat
  | [] => [x]
  | y :: r => if x < y then x :: y :: r else if x = y then y :: r else y :: insSorted x r

def namesOf (fn : Func) : List Nat :=
  let np := fn.params.size + fn.nfree
  let rs := fn.results.toList.map fun r => match r with | .tmp t => t | .cell a _ => a
  let cs := match fn.body with | some c => codeNames c | none => []
  List.range np ++ ((rs ++ cs).filter (fun s => np ≤ s)).foldl (fun l x => insSorted x l) []

structure Seat where
  P : Program
  fns : List (Nat × Nat)
  tps : List (Nat × Nat)
  gs : List (Nat × Nat)

def rev (l : List (Nat × Nat)) (f : Nat) : Option Nat := (l.find? (fun p => p.2 == f)).map (·.1)

def Seat.cx (s : Seat) (fn : Func) : Cx := ⟨s.P, rev s.fns, rev s.tps, rev s.gs, namesOf fn, fn.ntmps⟩

def Seat.comp (s : Seat) (fn : Func) : Option FnS := compF (s.cx fn) (compD (s.cx fn)) fn

def okList (l : List (Nat × Nat)) : Bool := l.all fun p => l.lookup p.1 == some p.2

def callable (P : Program) (f : Nat) : Bool :=
  match P.funcs[f]? with
  | some fn => !(fn.name == "runtime.NumGoroutine") && fn.body.isSome
  | none => false

def Seat.ok (s : Seat) : Bool := okList s.fns && okList s.tps && okList s.gs && s.fns.all (fun p => callable s.P p.2) && s.P.follows .mixedOrders

theorem sysC_mono {P : Program} {f : FuncId} {xs : List Value} {h : Heap} {R R' : Value → Heap → Prop} (hc : sysC P f xs h R) (hr : ∀ v h', R v h' → R' v h') : sysC P f xs h R' :=
  fun w hw => (hc w hw).mono fun _ _ ⟨v, he, hR, hs⟩ => ⟨v, he, hr _ _ hR, hs⟩

def Seat.sys (s : Seat) : Sys where
  fid j := (s.fns.lookup j).getD 0
  tid j := (s.tps.lookup j).getD 0
  gid j := (s.gs.lookup j).getD 0
  C := sysC s.P
  mono := sysC_mono
  able f := f ∈ s.fns.map (·.2)

theorem rev_ok {l : List (Nat × Nat)} (h : okList l = true) {f j : Nat} (hr : rev l f = some j) : l.lookup j = some f ∧ f ∈ l.map (·.2) := by
  simp only [rev, Option.map_eq_some_iff] at hr
  obtain ⟨p, hp, rfl⟩ := hr
  have hf : p.2 = f := by simpa using List.find?_some hp
  have hm := List.mem_of_find?_eq_some hp
  have := List.all_eq_true.1 h p hm
  refine ⟨?_, ?_⟩
  · rw [← hf]; simpa using this
  · rw [← hf]; exact List.mem_map_of_mem hm

theorem callable_get {P : Program} {f : Nat} (h : callable P f = true) : ∃ fn, P.funcs[f]? = some fn ∧ (fn.name == "runtime.NumGoroutine") = false ∧ fn.body.isNone = false := by
  unfold callable at h
  split at h
  · rename_i fn hf
    simp only [Bool.and_eq_true, Bool.not_eq_true'] at h
    refine ⟨fn, hf, h.1, ?_⟩
    cases hb : fn.body with
    | none => rw [hb] at h; simp at h
    | some c => rfl
  · cases h

theorem Seat.good {s : Seat} (h : s.ok = true) (fn : Func) : Ok (s.cx fn) s.sys := by
  simp only [Seat.ok, Bool.and_eq_true] at h
  obtain ⟨⟨⟨⟨h1, h2⟩, h3⟩, h4⟩, h5⟩ := h
  have hcall : ∀ f, f ∈ s.fns.map (·.2) → ∃ fn, s.P.funcs[f]? = some fn ∧ (fn.name == "runtime.NumGoroutine") = false ∧ fn.body.isNone = false := by
    intro f hf
    obtain ⟨p, hp, rfl⟩ := List.mem_map.1 hf
    exact callable_get (List.all_eq_true.1 h4 p hp)
  refine ⟨rfl, ?_, ?_, ?_, h5, ?_⟩
  · intro f j hr
    obtain ⟨g1, g2⟩ := rev_ok h1 hr
    exact ⟨by simp [Seat.sys, g1], hcall f g2⟩
  · intro t j hr
    simp [Seat.sys, (rev_ok h2 hr).1]
  · intro t j hr
    simp [Seat.sys, (rev_ok h3 hr).1]
  · exact fun f hf => hcall f hf

theorem mem_of_lookup {l : List (Nat × Nat)} {j f : Nat} (h : l.lookup j = some f) : f ∈ l.map (·.2) := by
  induction l with
  | nil => cases h
  | cons p l ih =>
    obtain ⟨a, b⟩ := p
    simp only [List.lookup_cons] at h
    split at h
    · cases h; simp
    · exact List.mem_cons_of_mem _ (ih h)

/-- a function that compiles to S is S in the system -/
theorem Seat.has {s : Seat} (h : s.ok = true) {j f : Nat} {fn : Func} {S : FnS} (hj : s.fns.lookup j = some f) (hf : s.P.funcs[f]? = some fn) (hc : s.comp fn = some S) : s.sys.Has j S := by
  have hid : s.sys.fid j = f := by simp [Seat.sys, hj]
  refine ⟨?_, ?_⟩
  · rw [hid]; exact mem_of_lookup hj
  · intro args hp R hl hw
    rw [hid]
    exact comp_sound (s.good h fn) hf hc args hp R hl hw
end Go.Rm
