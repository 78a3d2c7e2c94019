import Derived.Test.YtgmbpmnbpakhbaaGreatDoorEngB
import Derived.Test.YtgmbpmnbpakhbaaGreatDoorEngP
import Derived.ProofKit
import Derived.WideKeyArgs
import GoSem.ClaimSeven
import Derived.Deep.Slices

/- The engine, part R: from a condition in the system to a given row: a law that answers true and leaves what was there alone. -/
set_option linter.unusedSimpArgs false
set_option linter.unusedVariables false
namespace Go.Rm
open Go.ChangeShapes Go.WideShapes Go.ChangeAt Go.RowKit

section
variable {H : Type} {enc : TypeId × Value → H} {P : Program}

theorem Ext.same {W W' : World} (he : Ext W.heap W'.heap) {p : MemPlace} (hp : p.block < W.heap.size) : W.sameAt W' p := by
  cases p with
  | cell b o =>
    have := he.get b hp (fun h => h)
    simp only [World.sameAt, World.cell?, this]
  | map b => exact he.get b hp (fun h => h)

theorem Ext.kept {W W' : World} (he : Ext W.heap W'.heap) (hs : Same W W') (may : MemPlace → Prop) : W.keptBut W' may := by
  refine ⟨hs.2.1, hs.2.2, fun i hi => ?_⟩
  rw [he.get i hi (fun h => h)]
  cases hx : W.heap[i]? with
  | none => trivial
  | some x =>
    cases x with
    | cells c t fr => exact ⟨rfl, rfl, rfl, fun _ _ => rfl⟩
    | map es clock => exact .inr ⟨rfl, rfl⟩
    | _ => rfl

theorem trodAll_ext {W W' : World} (hl : laidOutB P = true) (he : Ext W.heap W'.heap) {sp : Nat → Bool} :
    ∀ {ts : List TypeId} {vs : List Value} {ds : List (DataW H)} {ps : List MemPlace}, (∀ t ∈ ts, P.readableRec t = true ∧ t < P.types.size) → DataW.TrodAll enc P W 0 (fun _ => true) true ts vs ds ps →
      (∀ p ∈ ps, p.block < W.heap.size) → (∀ p ∈ ps, sp p.block = true) → DataW.TrodAll enc P W' 0 sp true ts vs ds ps
  | [], _, _, _, _, h, _, _ => by
    obtain ⟨rfl, rfl, rfl⟩ := trodAll_nil h
    rfl
  | t :: ts, _, _, _, ht, h, hlt, hsp => by
    obtain ⟨v, vs1, d, ds1, a, b, rfl, rfl, rfl, h1, h2⟩ := trodAll_cons h
    obtain ⟨g1, g2⟩ := ht t (by simp)
    exact ⟨a, b, Go.WideElems.Trod_stays hl g1 g2 h1 (fun p hp => he.same (hlt p (List.mem_append_left _ hp))) (fun p hp => hsp p (List.mem_append_left _ hp)),
      trodAll_ext hl he (fun u hu => ht u (List.mem_cons_of_mem _ hu)) h2 (fun p hp => hlt p (List.mem_append_right _ hp)) (fun p hp => hsp p (List.mem_append_right _ hp)), rfl⟩

theorem trodAll_len {base : Nat} {spare : Nat → Bool} {held : Bool} {w : World} : ∀ {ts : List TypeId} {vs : List Value} {ds : List (DataW H)} {ps : List MemPlace}, DataW.TrodAll enc P w base spare held ts vs ds ps → ds.length = ts.length
  | [], _, _, _, h => by
    obtain ⟨rfl, rfl, _⟩ := trodAll_nil h
    rfl
  | _ :: _, _, _, _, h => by
    obtain ⟨v, vs1, d, ds1, a, b, rfl, rfl, rfl, _, h2⟩ := trodAll_cons h
    simp [trodAll_len h2]

/-- what a law's row asks: true; the arguments as they were -/
def LawSpec (s : ChangeSpec) (n : Nat) : Prop := s.vars = [] ∧ ∀ (H : Type) (ds : List (DataW H)), ds.length = n → s.fn H ds = { results := [.lit (.bool true)], args := ds }

theorem law_post {fn : Func} {s : ChangeSpec} {apart fresh handsOn again : Bool} {W W' : World} {args : Array Value} {ds gs : List (DataW H)} {before : List MemPlace} {tb : TypeId}
    (hs : LawSpec s fn.params.size) (hl : laidOutB P = true) (hr : ∀ t ∈ fn.params.toList, P.readableRec t = true ∧ t < P.types.size) (hb : fn.resultTypes = #[tb]) (htb : P.underlying tb = some .bool)
    (hW : DataW.Whole enc P fn.params.toList s.vars apart W args.toList ds gs before) (he : Ext W.heap W'.heap) (hsame : Same W W') :
    s.post enc P fn apart fresh handsOn again W args (.bool true) W' := by
  have hlt := hW.lt
  have hW0 := hW
  obtain ⟨p, q, hA, hV, rfl, hz, hn⟩ := hW
  rw [hs.1] at hV
  obtain ⟨rfl, rfl⟩ := trodVars_none hV
  simp only [List.append_nil] at *
  have hlen : ds.length = fn.params.size := by have := trodAll_len hA; simpa using this
  have hfn := hs.2 H ds hlen
  have hres : ∀ (b : Nat) (sp : Nat → Bool) (hd : Bool), DataW.TrodAll enc P W' b sp hd fn.resultTypes.toList ((Value.bool true).resultList fn.resultTypes.size) (s.fn H ds).results [] := by
    intro b sp hd
    rw [hfn, hb]
    exact trodAll_mk1 ⟨1, by simp [DataW.trod, htb, Value.cells]⟩
  refine ⟨ds, [], p, [], p, [], hW0, ?_, ?_, ?_, he.kept hsame _, fun _ => ?_⟩
  · simpa using hres _ _ _
  · simp only [List.append_nil]
    rw [hfn]
    exact trodAll_ext hl he hr hA hlt (fun x hx => by simpa using hlt x hx)
  · rw [hs.1]
    simp only [List.append_nil]
    rw [hfn]; rfl
  · refine ⟨?_, _, [], p, ⟨p, [], trodAll_append (trodAll_ext hl he hr hA hlt (fun _ _ => rfl)) (hres _ _ _), by rw [hs.1]; rfl, by simp, ?_, ?_⟩, fun x hx _ => hx⟩
    · intro j t r h1 h2
      rw [hb] at h1 h2
      match j with
      | 0 =>
        have e1 : t = tb := by simpa using h1.symm
        have e2 : r = .bool true := by simpa [Value.resultList] using h2.symm
        subst e1; subst e2
        simp [Value.okWide, htb, Cell.okWide, Cell.ok]
      | j + 1 => simp at h1
    · intro b off hp
      have h1 := hz b off hp
      have h2 := he.get b (hlt _ hp) (fun h => h)
      simp only [World.frozen?, h2] at h1 ⊢
      exact h1
    · intro ha
      exact hn ha

/-- what is read as type t: whatever the fuel -/
def Read (enc : TypeId × Value → H) (P : Program) (W : World) (base : Nat) (t : TypeId) (cs : List Value) : Prop := ∃ n x, DataW.trod enc P W base (fun _ => true) true n t cs = some x

theorem Read.of {W : World} {base : Nat} {t : TypeId} {v : Value} {d : DataW H} {ps : List MemPlace} (h : DataW.Trod enc P W base (fun _ => true) true t v d ps) : Read enc P W base t v.cells.toList := by
  obtain ⟨n, h⟩ := h
  exact ⟨n, _, h⟩

/-- a value of one cell, where its type is no struct and no array; a slice has no spot -/
def OneCell (P : Program) (t : TypeId) (v : Value) : Prop :=
  (match P.underlying t with
  | some (.struct _) | some (.array _ _) => ∃ cs, v = .agg cs
  | _ => v.cells = #[v]) ∧ ∀ a n c, v = .slice (some a) n c → a.spot = none

theorem OneCell.of {W : World} {r : Reach} {base : Nat} {t : TypeId} {v : Value} (h : Value.okWide P W r base t v) : OneCell P t v := by
  unfold Value.okWide at h
  unfold OneCell
  split at h
  · rename_i fs hf
    obtain ⟨cs, rfl, _⟩ := h
    exact ⟨by rw [hf]; exact ⟨_, rfl⟩, fun a n c e => by cases e⟩
  · rename_i n e hf
    obtain ⟨cs, rfl, _⟩ := h
    exact ⟨by rw [hf]; exact ⟨_, rfl⟩, fun a n c e => by cases e⟩
  · rename_i h1 h2
    constructor
    · split
      · rename_i fs hf; exact absurd hf (h1 fs)
      · rename_i n e hf; exact absurd hf (h2 n e)
      · cases v with
        | agg cs =>
          unfold Cell.okWide at h
          split at h <;> simp_all [Cell.ok]
        | _ => rfl
    · rintro a n c rfl
      unfold Cell.okWide at h
      split at h <;> simp_all [Cell.ok]
      split at h
      all_goals first | exact h.elim | skip
      all_goals simp_all
      exact h.2.2.2.1

/-- what a law is handed -/
def ArgIs (enc : TypeId × Value → H) (P : Program) (W : World) (t : TypeId) (v : Value) : Prop := Read enc P W 0 t v.cells.toList ∧ OneCell P t v
def Args (enc : TypeId × Value → H) (P : Program) (W : World) : List TypeId → List Value → Prop
  | [], [] => True
  | t :: ts, v :: vs => ArgIs enc P W t v ∧ Args enc P W ts vs
  | _, _ => False

theorem args_of {W : World} {r : Reach} {base : Nat} : ∀ {ts : List TypeId} {vs : List Value} {ds : List (DataW H)} {ps : List MemPlace}, DataW.TrodAll enc P W 0 (fun _ => true) true ts vs ds ps →
    (∀ (j : Nat) t v, ts[j]? = some t → vs[j]? = some v → Value.okWide P W r base t v) → Args enc P W ts vs
  | [], _, _, _, h, _ => by
    obtain ⟨rfl, rfl, rfl⟩ := trodAll_nil h
    trivial
  | t :: ts, _, _, _, h, hv => by
    obtain ⟨v, vs1, d, ds1, a, b, rfl, rfl, rfl, h1, h2⟩ := trodAll_cons h
    exact ⟨⟨Read.of h1, OneCell.of (hv 0 t v rfl rfl)⟩, args_of h2 fun j t' v' e1 e2 => hv (j + 1) t' v' (by simpa using e1) (by simpa using e2)⟩

theorem law_lifted {C : Checked} {os : Os} {f : FuncId} {fn : Func} {s : ChangeSpec} {conds : List PathCond} {apart fresh handsOn again : Bool} {tb : TypeId}
    (own : ownKnob C.prog.godebug = none) (started : os.Started) (noInit : C.prog.inits.idxOf? f = none) (hfn : C.prog.funcs[f]? = some fn)
    (witness : ∃ (w : World) (tape : Tape) (i : Input), w.os = os ∧ (w.forCall tape i).Shaped C.prog ∧ i.vars = [] ∧ Input.okWide C.prog (w.forCall tape i) .any w.heap.size f i ∧
      s.pre6 enc C.prog fn conds apart (w.forCall tape i).memory i.args ∧ ({} : Assume).holds C.prog (lone (Frame.enter C.prog f i.args .normal) [] (w.forCall tape i)))
    (hs : LawSpec s fn.params.size) (hl : laidOutB C.prog = true) (hr : ∀ t ∈ fn.params.toList, C.prog.readableRec t = true ∧ t < C.prog.types.size) (hb : fn.resultTypes = #[tb]) (htb : C.prog.underlying tb = some .bool)
    (law : ∀ (W : World) (vs : List Value), Args enc C.prog W fn.params.toList vs → sysC C.prog f vs W.heap fun v h' => v = .bool true ∧ Ext W.heap h') :
    ReturnsInHanded {} C os f .any (s.pre6 enc C.prog fn conds apart) (s.post enc C.prog fn apart fresh handsOn again) := by
  refine returnsInHanded_of_change (C := C) own started noInit hfn witness ?_
  intro W base args ds gs before hval hW hcnd _
  obtain ⟨p, q, hA, hV, he, hz, hn⟩ := id hW
  have hV' := hV
  rw [hs.1] at hV'
  have := law W args.toList (args_of hA fun j t v h1 h2 => hval j t v (by simpa using h1) (by simpa using h2)) W rfl
  simp only [Array.toArray_toList] at this
  refine this.mono ?_
  rintro e W' ⟨v, rfl, ⟨rfl, hext⟩, hsame⟩
  exact ⟨_, rfl, law_post hs hl hr hb htb hW hext hsame⟩

theorem law_lifted_and {C : Checked} {os : Os} {f : FuncId} {fn : Func} {s : ChangeSpec} {conds : List PathCond} {apart fresh handsOn again : Bool} {tb : TypeId} {X : World → Array Value → Prop}
    (hX : ∀ (w w' : World) (args : Array Value), w.heap = w'.heap → X w args → X w' args)
    (own : ownKnob C.prog.godebug = none) (started : os.Started) (noInit : C.prog.inits.idxOf? f = none) (hfn : C.prog.funcs[f]? = some fn)
    (witness : ∃ (w : World) (tape : Tape) (i : Input), w.os = os ∧ (w.forCall tape i).Shaped C.prog ∧ i.vars = [] ∧ Input.okWide C.prog (w.forCall tape i) .any w.heap.size f i ∧
      ((s.pre enc C.prog fn conds apart (w.forCall tape i).memory i.args ∧ X (w.forCall tape i).memory i.args) ∧ sizedMet enc C.prog fn (OpenSpec.ofChange s) apart (w.forCall tape i).memory i.args) ∧ ({} : Assume).holds C.prog (lone (Frame.enter C.prog f i.args .normal) [] (w.forCall tape i)))
    (hs : LawSpec s fn.params.size) (hl : laidOutB C.prog = true) (hr : ∀ t ∈ fn.params.toList, C.prog.readableRec t = true ∧ t < C.prog.types.size) (hb : fn.resultTypes = #[tb]) (htb : C.prog.underlying tb = some .bool)
    (law : ∀ (W : World) (vs : List Value), (∃ args, X W args) → Args enc C.prog W fn.params.toList vs → sysC C.prog f vs W.heap fun v h' => v = .bool true ∧ Ext W.heap h') :
    ReturnsInHanded {} C os f .any (fun w args => (s.pre enc C.prog fn conds apart w args ∧ X w args) ∧ sizedMet enc C.prog fn (OpenSpec.ofChange s) apart w args) (s.post enc C.prog fn apart fresh handsOn again) := by
  refine returnsInHanded_of_change_and (C := C) hX own started noInit hfn witness ?_
  intro W base args ds gs before hval hW hcnd _ hx _
  obtain ⟨p, q, hA, hV, he, hz, hn⟩ := id hW
  have := law W args.toList ⟨args, hx⟩ (args_of hA fun j t v h1 h2 => hval j t v (by simpa using h1) (by simpa using h2)) W rfl
  simp only [Array.toArray_toList] at this
  refine this.mono ?_
  rintro e W' ⟨v, rfl, ⟨rfl, hext⟩, hsame⟩
  exact ⟨_, rfl, law_post hs hl hr hb htb hW hext hsame⟩

theorem noStand_of {P : Program} {ts : Array TypeId} (h : (ts.toList.all fun t => !P.wantsStandIn t) = true) : ∀ (j : Nat) (t : TypeId), ts[j]? = some t → P.wantsStandIn t = false := by
  intro j t ht
  have hm : t ∈ ts.toList := by
    have := Array.mem_of_getElem? ht
    simpa using this
  have := List.all_eq_true.1 h t hm
  simpa using this
end

theorem sysC_of {s : Seat} {j f : Nat} (hj : s.fns.lookup j = some f) {xs : List Value} {h : Heap} {R : Value → Heap → Prop} (hc : CallP s.sys j xs h R) : sysC s.P f xs h R := by
  have hid : s.sys.fid j = f := by simp [Seat.sys, hj]
  unfold CallP at hc
  rw [hid] at hc
  exact hc

theorem readable_of {P : Program} {ts : List TypeId} (h : (ts.all fun t => P.readableRec t && decide (t < P.types.size)) = true) : ∀ t ∈ ts, P.readableRec t = true ∧ t < P.types.size := by
  intro t ht
  have := List.all_eq_true.1 h t ht
  simpa using this
end Go.Rm

/- The engine, part O: what a law is handed: each argument, read out of memory. -/
set_option linter.unusedSimpArgs false
set_option linter.unusedVariables false
namespace Go.Rm
open Go.ChangeShapes Go.WideShapes Go.Deep

section
variable {H : Type} {enc : TypeId × Value → H} {P : Program} {W : World} {base : Nat}

theorem wf_range {k : IntKind} {n : Int} (h : (Lit.int k n).wf = true) : k.min ≤ n ∧ n ≤ k.max := by
  simpa [Lit.wf] using h

theorem Read.int {t : TypeId} {k : IntKind} {cs : List Value} (ht : P.underlying t = some (.int k)) (h : Read enc P W base t cs) : ∃ n, cs = [.int k n] ∧ k.min ≤ n ∧ n ≤ k.max := by
  obtain ⟨m, x, h⟩ := h
  obtain ⟨n, rfl, _, hw⟩ := DataW.trod_int ht h
  exact ⟨n, rfl, wf_range hw⟩
theorem Read.bool {t : TypeId} {cs : List Value} (ht : P.underlying t = some .bool) (h : Read enc P W base t cs) : ∃ b, cs = [.bool b] := by
  obtain ⟨m, x, h⟩ := h
  obtain ⟨b, rfl, _⟩ := DataW.trod_bool ht h
  exact ⟨b, rfl⟩
theorem Read.string {t : TypeId} {cs : List Value} (ht : P.underlying t = some .string) (h : Read enc P W base t cs) : ∃ s : ByteArray, cs = [.string s] ∧ s.size ≤ maxLen := by
  obtain ⟨m, x, h⟩ := h
  obtain ⟨b, rfl, _, h⟩ := DataW.trod_string ht h
  exact ⟨b, rfl, h⟩

theorem addr_add (b o : Nat) (sp : Option Nat) (j : Nat) (hsp : sp = none) : (Addr.mk b o sp).add j = ⟨b, o + j, none⟩ := by
  subst hsp
  unfold Addr.add
  split
  · rename_i h; subst h; rfl
  · rfl

/-- a slice: each of its elements is read -/
theorem Read.slice {t e : TypeId} {sz : Nat} {cs : List Value} (ht : P.underlying t = some (.slice e)) (hsz : P.cellsOf e = sz) (h0 : 0 < sz) (h : Read enc P W base t cs) :
    ∃ s : Sl, cs = [s.v] ∧ s.ok ∧ s.c ≤ maxLen ∧ ∀ i, i < s.n → ∃ cs', cs'.length = sz ∧ (∀ j, j < sz → hc W.heap s.b (s.o + i * sz + j) = cs'[j]?) ∧ Read enc P W base e cs' := by
  obtain ⟨m, x, h⟩ := h
  subst hsz
  rcases open_slice ht h with ⟨rfl, rfl⟩ | ⟨⟨b, o, sp⟩, len, cap, m, n, D, Pl, rfl, hb, hl, hm, hmm, rfl, hx⟩
  · exact ⟨Sl.nil, rfl, Sl.nil_ok, by simp [Sl.nil], fun i hi => by simp [Sl.nil] at hi⟩
  · simp only [if_true] at hmm
    subst hmm
    have hsp : sp = none ∨ m = 0 := by
      rcases Nat.eq_zero_or_pos m with h | h
      · exact .inr h
      · left
        obtain ⟨cs', h1, _⟩ := hx 0 h
        obtain ⟨_, hlen, hall⟩ := World.cells?_some h1
        cases sp with
        | none => rfl
        | some q =>
          have := hall 0 h0
          rw [List.getElem?_eq_getElem (by omega)] at this
          simp [Addr.add, World.cell?] at this
          split at this <;> cases this
    refine ⟨⟨b, o, len, m, false, sp⟩, rfl, ⟨fun h => (by cases h), hl, hsp⟩, hm, fun i hi => ?_⟩
    have hi : i < len := hi
    obtain ⟨cs', h1, h2⟩ := hx i (by omega)
    obtain ⟨_, hlen, hall⟩ := World.cells?_some h1
    refine ⟨cs', hlen, fun j hj => ?_, ⟨n, _, h2⟩⟩
    have := hall j hj
    have hs : sp = none := hsp.resolve_right (by omega)
    rw [addr_add _ _ _ _ hs, addr_add _ _ _ _ rfl] at this
    rw [← cell_hc]
    exact this

theorem Read.ints {t e : TypeId} {k : IntKind} {cs : List Value} (ht : P.underlying t = some (.slice e)) (he : P.underlying e = some (.int k)) (hsz : P.cellsOf e = 1) (h : Read enc P W base t cs) :
    ∃ (s : Sl) (f : Nat → Int), cs = [s.v] ∧ s.c ≤ maxLen ∧ IntsAt W.heap s k f ∧ ∀ i, i < s.n → k.min ≤ f i ∧ f i ≤ k.max := by
  obtain ⟨s, rfl, hok, hm, hx⟩ := h.slice ht hsz (by omega)
  obtain ⟨f, hf⟩ := choose_lt (α := Int) (n := s.n) (p := fun i n => hc W.heap s.b (s.o + i) = some (.int k n) ∧ k.min ≤ n ∧ n ≤ k.max) (fun i hi => by
    obtain ⟨cs', hl, hall, hr⟩ := hx i hi
    obtain ⟨n, rfl, h1, h2⟩ := hr.int he
    have := hall 0 (by omega)
    simp at this
    exact ⟨n, this, h1, h2⟩)
  exact ⟨s, f, rfl, hm, ⟨hok, fun i hi => (hf i hi).1⟩, fun i hi => (hf i hi).2⟩

/-- a struct: each of its fields is read -/
theorem Read.struct {t : TypeId} {fs : Array Field} {cs : List Value} (ht : P.underlying t = some (.struct fs)) (h : Read enc P W base t cs) :
    cs.length = P.cellsOf t ∧ ∀ (i : Nat) (f : Field), fs[i]? = some f → Read enc P W base f.type ((cs.drop f.offset).take (P.cellsOf f.type)) := by
  obtain ⟨m, x, h⟩ := h
  obtain ⟨xs, n, _, rfl, hl, hlen, hf⟩ := DataW.trod_struct ht h
  refine ⟨hl, fun i f hi => ?_⟩
  have h1 := hf i f hi
  have hi' : i < fs.size := (Array.getElem?_eq_some_iff.1 hi).1
  rw [List.getElem?_eq_getElem (by omega)] at h1
  exact ⟨n, _, h1⟩

theorem ArgIs.int {t : TypeId} {k : IntKind} {v : Value} (h : ArgIs enc P W t v) (ht : P.underlying t = some (.int k)) : ∃ n, v = .int k n ∧ k.min ≤ n ∧ n ≤ k.max := by
  obtain ⟨n, h1, h2⟩ := h.1.int ht
  have := h.2.1; simp only [ht] at this
  rw [this] at h1
  exact ⟨n, by simpa using h1, h2⟩
theorem ArgIs.bool {t : TypeId} {v : Value} (h : ArgIs enc P W t v) (ht : P.underlying t = some .bool) : ∃ n, v = .bool n := by
  obtain ⟨n, h1⟩ := h.1.bool ht
  have := h.2.1; simp only [ht] at this
  rw [this] at h1
  exact ⟨n, by simpa using h1⟩
theorem ArgIs.slice {t e : TypeId} {v : Value} (h : ArgIs enc P W t v) (ht : P.underlying t = some (.slice e)) : Read enc P W 0 t [v] := by
  have := h.2.1; simp only [ht] at this
  have h1 := h.1
  rw [this] at h1
  exact h1
theorem ArgIs.ints {t e : TypeId} {k : IntKind} {v : Value} (h : ArgIs enc P W t v) (ht : P.underlying t = some (.slice e)) (he : P.underlying e = some (.int k)) (hsz : P.cellsOf e = 1) :
    ∃ (s : Sl) (f : Nat → Int), v = s.v ∧ s.c ≤ maxLen ∧ IntsAt W.heap s k f ∧ ∀ i, i < s.n → k.min ≤ f i ∧ f i ≤ k.max := by
  obtain ⟨s, f, h1, h2⟩ := (h.slice ht).ints ht he hsz
  exact ⟨s, f, by simpa using h1, h2⟩

theorem drop_take_one {l : List Value} {o : Nat} {v : Value} (h : (l.drop o).take 1 = [v]) : l[o]? = some v := by
  have : ((l.drop o).take 1)[0]? = some v := by rw [h]; rfl
  rw [List.getElem?_take_of_lt (by omega), List.getElem?_drop] at this
  simpa using this

/-- a field of one cell -/
theorem Read.fint {t : TypeId} {fs : Array Field} {cs : List Value} {i : Nat} {f : Field} {k : IntKind} (h : Read enc P W base t cs) (ht : P.underlying t = some (.struct fs)) (hf : fs[i]? = some f) (hk : P.underlying f.type = some (.int k))
    (hc : P.cellsOf f.type = 1) : ∃ n, cs[f.offset]? = some (.int k n) ∧ k.min ≤ n ∧ n ≤ k.max := by
  have := (h.struct ht).2 i f hf
  rw [hc] at this
  obtain ⟨n, h1, h2⟩ := this.int hk
  exact ⟨n, drop_take_one h1, h2⟩
theorem Read.fbool {t : TypeId} {fs : Array Field} {cs : List Value} {i : Nat} {f : Field} (h : Read enc P W base t cs) (ht : P.underlying t = some (.struct fs)) (hf : fs[i]? = some f) (hk : P.underlying f.type = some .bool)
    (hc : P.cellsOf f.type = 1) : ∃ n, cs[f.offset]? = some (.bool n) := by
  have := (h.struct ht).2 i f hf
  rw [hc] at this
  obtain ⟨n, h1⟩ := this.bool hk
  exact ⟨n, drop_take_one h1⟩
theorem Read.fslice {t e : TypeId} {fs : Array Field} {cs : List Value} {i : Nat} {f : Field} (h : Read enc P W base t cs) (ht : P.underlying t = some (.struct fs)) (hf : fs[i]? = some f) (hk : P.underlying f.type = some (.slice e))
    (hc : P.cellsOf f.type = 1) : ∃ v, cs[f.offset]? = some v ∧ Read enc P W base f.type [v] := by
  have := (h.struct ht).2 i f hf
  rw [hc] at this
  have h0 := this
  obtain ⟨m, x, h⟩ := h0
  rcases open_slice hk h with ⟨e1, _⟩ | ⟨_, _, _, _, _, _, _, e1, _⟩
  · exact ⟨_, drop_take_one e1, by rw [← e1]; exact this⟩
  · exact ⟨_, drop_take_one e1, by rw [← e1]; exact this⟩

/-- a struct of two cells or more is a whole -/
theorem Read.agg {t : TypeId} {fs : Array Field} {v : Value} (h : Read enc P W base t v.cells.toList) (ht : P.underlying t = some (.struct fs)) (hc : P.cellsOf t ≠ 1) : ∃ cs, v = .agg cs ∧ cs.size = P.cellsOf t ∧ Read enc P W base t cs.toList := by
  have hl := (h.struct ht).1
  cases v with
  | agg cs => exact ⟨cs, rfl, by simpa [Value.cells] using hl, h⟩
  | _ => simp [Value.cells] at hl; exact absurd hl.symm hc

/-- a slice of numbers, which has no spot -/
theorem ArgIs.ints' {t e : TypeId} {k : IntKind} {v : Value} (h : ArgIs enc P W t v) (ht : P.underlying t = some (.slice e)) (he : P.underlying e = some (.int k)) (hsz : P.cellsOf e = 1) :
    ∃ (s : Sl) (f : Nat → Int), v = s.v ∧ s.c ≤ maxLen ∧ IntsAt W.heap s k f ∧ (∀ i, i < s.n → k.min ≤ f i ∧ f i ≤ k.max) ∧ s.sp = none := by
  obtain ⟨s, f, rfl, h1, h2, h3⟩ := h.ints ht he hsz
  cases hnl : s.nl with
  | true =>
    have hn := h2.ok.nil hnl
    refine ⟨Sl.nil, f, ?_, by simp [Sl.nil], ⟨Sl.nil_ok, fun i hi => by simp [Sl.nil] at hi⟩, fun i hi => by simp [Sl.nil] at hi, rfl⟩
    unfold Sl.v
    rw [hnl, hn.1, hn.2]
    rfl
  | false =>
    refine ⟨s, f, rfl, h1, h2, h3, ?_⟩
    exact h.2.2 ⟨s.b, s.o, s.sp⟩ s.n s.c (by unfold Sl.v; rw [hnl]; rfl)
end
end Go.Rm
