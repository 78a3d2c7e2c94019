/- The engine, part J: regions that draw their order, whatever the order. -/
import Derived.Test.YtghpbaebbljppaaDoorEngH
import Derived.Test.YtghpbaebbljppaaDoorEngI
set_option linter.unusedSimpArgs false
set_option linter.unusedVariables false
namespace Go.Rm

def Lst (listed : Array Bool) (i : Nat) : Prop := listed.getD i false = true

theorem Lst.set_self {listed : Array Bool} {i : Nat} (h : i < listed.size) : Lst (listed.setIfInBounds i true) i := by simp [Lst, h]
theorem Lst.set {listed : Array Bool} {i j : Nat} (h : Lst listed j) : Lst (listed.setIfInBounds i true) j := getD_set_true h
theorem Lst.of_set {listed : Array Bool} {i j : Nat} (h : Lst (listed.setIfInBounds i true) j) : j = i ∨ Lst listed j := by
  by_cases hij : i = j
  · exact .inl hij.symm
  · right; unfold Lst at *; rwa [getD_set_ne false hij] at h

section
variable {cx : Cx} {Y : Sys}

theorem ev_same {x : Arg} {ds : Dst} {e T : List Value} {v : Value} (hl : x.lt T.length) (hn : ∀ j, setOf ds = some j → x.isN j = false) :
    x.ev Y (ds.e v e) (ds.T v T) = x.ev Y e T := by
  cases ds with
  | drop => rfl
  | push => exact ev_push hl
  | set j => exact ev_set (hn j rfl)

theorem ev_same_all {l : List Arg} {ds : Dst} {e T : List Value} {v : Value} (hl : ∀ x ∈ l, x.lt T.length) (hn : ∀ j, setOf ds = some j → ∀ x ∈ l, x.isN j = false) :
    l.map (Arg.ev Y (ds.e v e) (ds.T v T)) = l.map (Arg.ev Y e T) :=
  List.map_congr_left fun x hx => ev_same (hl x hx) fun j hj => hn j hj x hx

def gLt (d : Nat) : Option (Arg × Bool) → Prop
  | none => True
  | some (x, _) => x.lt d

theorem gOk_same {g : Option (Arg × Bool)} {ds : Dst} {e T : List Value} {v : Value} (hl : gLt T.length g) (hn : ∀ j, setOf ds = some j → ∀ x w, g = some (x, w) → x.isN j = false) :
    gOk Y (ds.e v e) (ds.T v T) g = gOk Y e T g := by
  cases g with
  | none => rfl
  | some xw =>
    obtain ⟨x, w⟩ := xw
    simp only [gOk]
    rw [ev_same hl fun j hj => hn j hj x w rfl]

theorem sem_heap {io : IOp} {h h' : Heap} {xs : List Value} (hd : heapDep io = false) : io.sem Y h xs = io.sem Y h' xs := by
  unfold IOp.sem
  split <;> first | rfl | (simp [heapDep] at hd)

def VF (Y : Sys) (f : FR) (e T : List Value) (h : Heap) : Prop :=
  (gOk Y e T f.g = true → f.io.sem Y h (f.as.map (Arg.ev Y e T)) = some (f.x.ev Y e T)) ∧ (gOk Y e T f.g = false → f.x.ev Y e T = undef)

def Hold (Y : Sys) (listed : Array Bool) (W : List (Nat × Nat)) (a : Act) (e T : List Value) (u : Nat × Arg) : Prop :=
  ∀ i, W.lookup u.1 = some i → Lst listed i → a.tmps.getD u.1 undef = u.2.ev Y e T

structure Link (cx : Cx) (Y : Sys) (ops : Array Oper) (W : List (Nat × Nat)) (f : FR) (o : Oper) (xs : List Operand) (s : Nat) : Prop where
  op : ops[f.i]? = some o
  knd : kind cx o.op = some (.io f.io, xs)
  dst : o.dst = some s
  lt : s < cx.nt
  out : s ∉ cx.nm
  wr : W.lookup s = some f.i
  uses : ∀ u ∈ f.uses, ∃ i, W.lookup u.1 = some i ∧ i ∈ depsOf o
  ev : ∀ (a : Act) (T : List Value), (∀ u ∈ f.uses, a.tmps.getD u.1 undef = u.2.ev Y (envOf cx.nm a) T) →
    xs.map a.eval = f.as.map (Arg.ev Y (envOf cx.nm a) T) ∧ Region.wanted o (yielded ops a.tmps) = gOk Y (envOf cx.nm a) T f.g

structure Pre (cx : Cx) (Y : Sys) (ops : Array Oper) (bm : Array Nat) (K : List Value → Heap → Prop) (w0 : World) (listed : Array Bool) (a : Act) (w : World) (L : List Nat) (st : DS) (T : List Value) (r : FT) : Prop where
  defers : a.defers = []
  size : a.tmps.size = cx.nt
  same : Same w0 w
  comp : ∃ n, compDT cx ops bm n L st = some r
  wp : FT.wp Y (fun e _ h => K e h) r (envOf cx.nm a) T w.heap
  len : T.length = st.d
  ltm : ∀ p ∈ st.m, p.2.lt st.d
  ltF : ∀ f ∈ st.F, f.x.lt st.d ∧ (∀ y ∈ f.as, y.lt st.d) ∧ (∀ u ∈ f.uses, u.2.lt st.d) ∧ gLt st.d f.g
  wm : ∀ p ∈ st.m, ∃ i, st.W.lookup p.1 = some i
  holdm : ∀ p ∈ st.m, Hold Y listed st.W a (envOf cx.nm a) T p
  holdF : ∀ f ∈ st.F, ¬ Lst listed f.i → ∀ u ∈ f.uses, Hold Y listed st.W a (envOf cx.nm a) T u
  cons : ∀ f ∈ st.F, (∀ p ∈ st.m, st.W.lookup p.1 = some f.i → p.2 = f.x) ∧ (∀ f' ∈ st.F, ∀ u ∈ f'.uses, st.W.lookup u.1 = some f.i → u.2 = f.x)
  vF : ∀ f ∈ st.F, ¬ Lst listed f.i → VF Y f (envOf cx.nm a) T w.heap
  link : ∀ f ∈ st.F, ∃ o xs s, Link cx Y ops st.W f o xs s
  winj : ∀ s t i, st.W.lookup s = some i → st.W.lookup t = some i → s = t
  wL : ∀ s i, st.W.lookup s = some i → i ∉ L
  fL : ∀ f ∈ st.F, f.i ∉ L
  unl : ∀ i ∈ L, ¬ Lst listed i ∧ i < ops.size
  nd : L.Nodup
  cover : ∀ i, i < ops.size → Lst listed i ∨ i ∈ L ∨ ∃ f ∈ st.F, f.i = i
  closed : ∀ i o, ops[i]? = some o → Lst listed i → ∀ j ∈ depsOf o, Lst listed j
  lsize : listed.size = ops.size

theorem lookup_mem {m : SM} {s : Nat} {x : Arg} (h : m.lookup s = some x) : (s, x) ∈ m := by
  induction m with
  | nil => cases h
  | cons p m ih =>
    obtain ⟨t, b⟩ := p
    simp only [List.lookup_cons] at h
    split at h
    · rename_i hb
      cases h
      have : s = t := by simpa using hb
      subst this
      simp
    · exact List.mem_cons_of_mem _ (ih h)

theorem usesOf_mem {m : SM} : ∀ {xs : List Operand} {u : Nat × Arg}, u ∈ usesOf m xs → u ∈ m := by
  intro xs
  induction xs with
  | nil => intro u h; cases h
  | cons x xs ih =>
    intro u h
    cases x with
    | tmp s =>
      simp only [usesOf] at h
      split at h
      · rename_i y hy
        rcases List.mem_cons.1 h with rfl | h
        · exact lookup_mem hy
        · exact ih h
      · exact ih h
    | const v => exact ih h
    | global g => exact ih h
    | func f => exact ih h

theorem usesOf_append {m : SM} {xs ys : List Operand} {u : Nat × Arg} (h : u ∈ usesOf m xs ∨ u ∈ usesOf m ys) : u ∈ usesOf m (xs ++ ys) := by
  induction xs with
  | nil => simpa [usesOf] using h
  | cons x xs ih =>
    cases x with
    | tmp s =>
      simp only [usesOf, List.cons_append] at h ⊢
      split
      · rename_i y hy
        simp only [hy] at h
        rcases h with h | h
        · rcases List.mem_cons.1 h with rfl | h
          · simp
          · exact List.mem_cons_of_mem _ (ih (.inl h))
        · exact List.mem_cons_of_mem _ (ih (.inr h))
      · rename_i hy
        simp only [hy] at h
        exact ih h
    | const v => exact ih h
    | global g => exact ih h
    | func f => exact ih h

/-- the value of an operand, from what is known of the slots that it reads -/
theorem rsv_uses {m : SM} {a : Act} {T : List Value} {x : Operand} {arg : Arg} (ok : Ok cx Y) (hr : rsv cx m x = some arg)
    (hu : ∀ u ∈ usesOf m [x], a.tmps.getD u.1 undef = u.2.ev Y (envOf cx.nm a) T) : arg.ev Y (envOf cx.nm a) T = a.eval x := by
  cases x with
  | tmp s =>
    simp only [rsv] at hr
    cases hl : m.lookup s with
    | some b =>
      rw [hl] at hr
      cases hr
      exact (hu (s, arg) (by simp [usesOf, hl])).symm
    | none =>
      rw [hl] at hr
      simp only [Option.map_eq_some_iff] at hr
      obtain ⟨i, hi, rfl⟩ := hr
      exact envOf_getD hi
  | const v => cases hr; rfl
  | global g =>
    simp only [rsv, Option.map_eq_some_iff] at hr
    obtain ⟨j, hj, rfl⟩ := hr
    simp only [Arg.ev, ok.hg _ _ hj]
    rfl
  | func f =>
    simp only [rsv, Option.map_eq_some_iff] at hr
    obtain ⟨j, hj, rfl⟩ := hr
    simp only [Arg.ev, (ok.hf _ _ hj).1]
    rfl

theorem rsv_uses_all {m : SM} {a : Act} {T : List Value} (ok : Ok cx Y) : ∀ {xs : List Operand} {as : List Arg}, xs.mapM (rsv cx m) = some as →
    (∀ u ∈ usesOf m xs, a.tmps.getD u.1 undef = u.2.ev Y (envOf cx.nm a) T) → xs.map a.eval = as.map (Arg.ev Y (envOf cx.nm a) T) := by
  intro xs
  induction xs with
  | nil => intro as h _; simp at h; subst h; rfl
  | cons x xs ih =>
    intro as h hu
    simp only [List.mapM_cons, Option.bind_eq_bind, Option.bind_eq_some_iff] at h
    obtain ⟨b, hb, bs, hbs, he⟩ := h
    cases he
    have h1 := rsv_uses (T := T) (a := a) ok hb fun u hu' => hu u (usesOf_append (xs := [x]) (.inl hu'))
    have h2 := ih hbs fun u hu' => hu u (usesOf_append (xs := [x]) (.inr hu'))
    simp [h1, h2]

theorem guard_uses {ops : Array Oper} {m : SM} {a : Act} {T : List Value} {o : Oper} {g : Option (Arg × Bool)} (ok : Ok cx Y) (h : guardOf cx ops m o.guard = some g)
    (hu : ∀ u ∈ usesOf m (guardSlot ops o.guard), a.tmps.getD u.1 undef = u.2.ev Y (envOf cx.nm a) T) :
    Region.wanted o (yielded ops a.tmps) = gOk Y (envOf cx.nm a) T g := by
  unfold Region.wanted
  cases hg : o.guard with
  | none => rw [hg] at h; cases h; rfl
  | some jw =>
    obtain ⟨j, want⟩ := jw
    rw [hg] at h hu
    simp only [guardOf, Option.bind_eq_some_iff, Option.map_eq_some_iff] at h
    obtain ⟨s, ⟨oj, hoj, hs⟩, x, hx, rfl⟩ := h
    simp only [guardSlot, hoj, Option.bind_some, hs] at hu
    have hev := rsv_uses ok hx hu
    simp only [gOk, hev, Act.eval, yielded, hoj, Option.bind_some, hs]
    rw [Array.getD_eq_getD_getElem?]
    cases ht : a.tmps[s]? with
    | none => simp [gdB, undef]
    | some v =>
      simp only [Option.getD_some]
      cases v <;> simp [gdB]

theorem rsv_lt {m : SM} {d : Nat} {x : Operand} {arg : Arg} (hm : ∀ p ∈ m, p.2.lt d) (hr : rsv cx m x = some arg) : arg.lt d := by
  cases x with
  | tmp s =>
    simp only [rsv] at hr
    cases hl : m.lookup s with
    | some b => rw [hl] at hr; cases hr; exact hm _ (lookup_mem hl)
    | none =>
      rw [hl] at hr
      simp only [Option.map_eq_some_iff] at hr
      obtain ⟨i, _, rfl⟩ := hr
      trivial
  | const v => cases hr; trivial
  | global g => simp only [rsv, Option.map_eq_some_iff] at hr; obtain ⟨i, _, rfl⟩ := hr; trivial
  | func g => simp only [rsv, Option.map_eq_some_iff] at hr; obtain ⟨i, _, rfl⟩ := hr; trivial

theorem rsv_lt_all {m : SM} {d : Nat} (hm : ∀ p ∈ m, p.2.lt d) : ∀ {xs : List Operand} {as : List Arg}, xs.mapM (rsv cx m) = some as → ∀ y ∈ as, y.lt d := by
  intro xs
  induction xs with
  | nil => intro as h; simp at h; subst h; simp
  | cons x xs ih =>
    intro as h
    simp only [List.mapM_cons, Option.bind_eq_bind, Option.bind_eq_some_iff] at h
    obtain ⟨b, hb, bs, hbs, he⟩ := h
    cases he
    intro y hy
    rcases List.mem_cons.1 hy with rfl | hy
    · exact rsv_lt hm hb
    · exact ih hbs y hy

theorem guard_lt {ops : Array Oper} {m : SM} {d : Nat} {gd : Option (Nat × Bool)} {g : Option (Arg × Bool)} (hm : ∀ p ∈ m, p.2.lt d) (h : guardOf cx ops m gd = some g) : gLt d g := by
  cases gd with
  | none => cases h; trivial
  | some jw =>
    obtain ⟨j, want⟩ := jw
    simp only [guardOf, Option.bind_eq_some_iff, Option.map_eq_some_iff] at h
    obtain ⟨s, _, x, hx, rfl⟩ := h
    exact rsv_lt hm hx

theorem gLt_succ {d : Nat} {g : Option (Arg × Bool)} (h : gLt d g) : gLt (d + 1) g := by
  cases g with
  | none => trivial
  | some xw => exact Arg.lt_succ h

end
end Go.Rm
