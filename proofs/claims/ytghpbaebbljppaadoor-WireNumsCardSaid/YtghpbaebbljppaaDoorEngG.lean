/- The engine, part G: a list of operations in its own order. -/
import Derived.Test.YtghpbaebbljppaaDoorEngF
set_option linter.unusedSimpArgs false
set_option linter.unusedVariables false
namespace Go.Rm

def envOf (nm : List Nat) (a : Act) : List Value := nm.map fun s => a.tmps.getD s undef

def Arg.lt (d : Nat) : Arg → Prop
  | .t j => j < d
  | _ => True

structure Wf (cx : Cx) : Prop where
  nodup : cx.nm.Nodup
  lt : ∀ s ∈ cx.nm, s < cx.nt

structure St (cx : Cx) (Y : Sys) (m : SM) (d : Nat) (a : Act) (T : List Value) : Prop where
  defers : a.defers = []
  size : a.tmps.size = cx.nt
  len : T.length = d
  rel : ∀ p ∈ m, p.2.ev Y (envOf cx.nm a) T = a.tmps.getD p.1 undef
  lt : ∀ p ∈ m, p.2.lt d

section
variable {cx : Cx} {Y : Sys} {w : World} {ops : Array Oper} {Q : Exit → Act → World → Prop}

theorem call_run {o : Oper} {ρ : Operand → Value} {n : Nat} {xs : List Operand} (ok : Ok cx Y) (hρ : ∀ f, ρ (.func f) = .func (.func f) #[] #[])
    (hk : kind cx o.op = some (.call n, xs)) : (execOp ρ o).run cx.P w = .ok (.enter (Y.fid n) (xs.map ρ).toArray) w := by
  unfold execOp
  cases ho : o.op <;> simp only [ho, kind] at hk ⊢
  case call c =>
    obtain ⟨callee, args, argTypes⟩ := c
    simp only at hk
    split at hk
    · rename_i f
      simp only [Option.map_eq_some_iff, Prod.mk.injEq, Kd.call.injEq] at hk
      obtain ⟨j, hj, rfl, rfl⟩ := hk
      obtain ⟨hid, fn, hf, hn, hb⟩ := ok.hf _ _ hj
      simp only [resolve, hρ, Deferred.ofValue, Sem.run_bind, Sem.run_pure, Result.andThen_ok, invoke, callFunc, run_program, hf, hn, hb, Bool.false_eq_true, if_false]
      rw [hid]
      congr 2
      apply Array.ext'
      simp
    · cases hk
    all_goals ((repeat' split at hk) <;> simp_all [Option.map_eq_some_iff])
  case binOp op t x y yt =>
    simp only [Option.map_eq_some_iff, Prod.mk.injEq] at hk
    obtain ⟨k, hk, rfl, rfl⟩ := hk
    unfold binKind at hk
    split at hk
    · unfold eqKind at hk; split at hk <;> cases hk
    · unfold eqKind at hk; split at hk <;> cases hk
    · split at hk <;> cases hk
  case field t x f =>
    split at hk
    · simp only [Option.bind_eq_some_iff] at hk
      obtain ⟨fd, h2, hk⟩ := hk
      split at hk
      · split at hk
        · simp [Option.map_eq_some_iff] at hk
        · cases hk
      · cases hk
    · cases hk
  all_goals first
    | (cases hk; done)
    | ((repeat' split at hk) <;> simp_all [Option.map_eq_some_iff, Option.bind_eq_some_iff])

theorem callv_run {o : Oper} {ρ : Operand → Value} {xs : List Operand} (ok : Ok cx Y)
    (hk : kind cx o.op = some (.callv, xs)) : ∃ x r, xs = x :: r ∧ ∀ f first cap, ρ x = .func (.func f) first cap → Y.able f →
      (execOp ρ o).run cx.P w = .ok (.enter f (first.toList ++ r.map ρ ++ cap.toList).toArray) w := by
  unfold execOp
  cases ho : o.op <;> simp only [ho, kind] at hk ⊢
  case call c =>
    obtain ⟨callee, args, argTypes⟩ := c
    simp only at hk
    split at hk
    · simp [Option.map_eq_some_iff] at hk
    · rename_i x hx
      cases hk
      refine ⟨x, args.toList, rfl, ?_⟩
      intro f first cap hv hable
      obtain ⟨fn, hf, hn, hb⟩ := ok.able _ hable
      simp only [resolve, hv, Deferred.ofValue, Sem.run_bind, Sem.run_pure, Result.andThen_ok, invoke, callFunc, run_program, hf, hn, hb, Bool.false_eq_true, if_false]
      congr 2
      apply Array.ext'
      simp
    all_goals ((repeat' split at hk) <;> simp_all [Option.map_eq_some_iff])
  case binOp op t x y yt =>
    simp only [Option.map_eq_some_iff, Prod.mk.injEq] at hk
    obtain ⟨k, hk, rfl, rfl⟩ := hk
    unfold binKind at hk
    split at hk
    · unfold eqKind at hk; split at hk <;> cases hk
    · unfold eqKind at hk; split at hk <;> cases hk
    · split at hk <;> cases hk
  case field t x f =>
    split at hk
    · simp only [Option.bind_eq_some_iff] at hk
      obtain ⟨fd, h2, hk⟩ := hk
      split at hk
      · split at hk
        · simp [Option.map_eq_some_iff] at hk
        · cases hk
      · cases hk
    · cases hk
  all_goals first
    | (cases hk; done)
    | ((repeat' split at hk) <;> simp_all [Option.map_eq_some_iff, Option.bind_eq_some_iff])

theorem need_some {o : Option Value} {k : Value → Prop} (h : need o k) : ∃ v, o = some v ∧ k v := by
  cases o with
  | none => exact h.elim
  | some v => exact ⟨v, rfl, h⟩

theorem instr_sound {o : Oper} {a : Act} {k : Kd} {xs : List Operand} {as : List Arg} {ds : Dst} {ins : Instr} {K : Kont} {e T : List Value} {next : Act → World → Prop} (ok : Ok cx Y)
    (hk : kind cx o.op = some (k, xs)) (hargs : as.map (Arg.ev Y e T) = xs.map a.eval) (hi : instrOf ds k as = some ins) (hw : ins.wp Y K e T w.heap)
    (hn : ∀ v w', Same w w' → K (ds.e v e) (ds.T v T) w'.heap → next (a.put o.dst v) w') : o.wp cx.P a w next Q := by
  unfold Oper.wp
  cases k with
  | io io =>
    cases hi
    obtain ⟨v, hv, hkv⟩ := need_some hw
    rw [hargs] at hv
    rw [sem_run ok hk hv]
    exact hn v w (Same.refl w) hkv
  | ef f =>
    cases hi
    have hw : f.wp w.heap (fun v h' => K (ds.e v e) (ds.T v T) h') (as.map (Arg.ev Y e T)) := hw
    rw [hargs] at hw
    obtain ⟨r, v, w', h1, h2, h3, h4⟩ := ef_run (ρ := a.eval) (fun _ => rfl) hk hw
    rw [h1]
    rcases h2 with rfl | ⟨rfl, rfl⟩
    · exact hn v w' h3 h4
    · exact hn undef w' h3 h4
  | call n =>
    cases hi
    have hw : Y.C (Y.fid n) (as.map (Arg.ev Y e T)) w.heap (fun v h' => K (ds.e v e) (ds.T v T) h') := hw
    rw [hargs, ok.hC] at hw
    rw [call_run ok (fun _ => rfl) hk, Oper.upon_enter]
    refine (hw w rfl).mono ?_
    rintro e w' ⟨v, rfl, hr, hs⟩
    exact hn v w' hs hr
  | callv =>
    obtain ⟨x, r, rfl, hrun⟩ := callv_run (w := w) (ρ := a.eval) ok hk
    cases as with
    | nil => cases hi
    | cons x' r' =>
      cases hi
      simp only [List.map_cons, List.cons.injEq] at hargs
      simp only [Instr.wp, hargs.1, hargs.2] at hw
      split at hw
      · rename_i f first cap hv
        obtain ⟨h1, h2⟩ := hw
        rw [hrun f first cap hv h1, Oper.upon_enter]
        rw [ok.hC] at h2
        refine (h2 w rfl).mono ?_
        rintro e w' ⟨v, rfl, hr, hs⟩
        exact hn v w' hs hr
      · exact hw.elim

theorem envOf_getD {a : Act} {s i : Nat} (h : cx.nm.idxOf? s = some i) : (envOf cx.nm a).getD i undef = a.tmps.getD s undef := by
  have hi : cx.nm[i]? = some s := by
    rw [List.idxOf?_eq_some_iff] at h
    obtain ⟨hl, hs, _⟩ := h
    rw [List.getElem?_eq_getElem hl, hs]
  simp [envOf, List.getD_eq_getElem?_getD, hi]

theorem rsv_eval {m : SM} {d : Nat} {a : Act} {T : List Value} {x : Operand} {arg : Arg} (ok : Ok cx Y) (st : St cx Y m d a T) (hr : rsv cx m x = some arg) :
    arg.ev Y (envOf cx.nm a) T = a.eval x := by
  cases x with
  | tmp s =>
    simp only [rsv] at hr
    cases hl : m.lookup s with
    | some b =>
      rw [hl] at hr
      cases hr
      have hmem : (s, arg) ∈ m := by
        have : ∀ (m : SM), m.lookup s = some arg → (s, arg) ∈ m := by
          intro m
          induction m with
          | nil => intro h; cases h
          | cons p m ih =>
            intro h
            obtain ⟨t, b⟩ := p
            simp only [List.lookup_cons] at h
            split at h
            · rename_i hb
              cases h
              have : s = t := by simpa using hb
              subst this
              simp
            · exact List.mem_cons_of_mem _ (ih h)
        exact this m hl
      exact st.rel _ hmem
    | none =>
      rw [hl] at hr
      simp only [Option.map_eq_some_iff] at hr
      obtain ⟨i, hi, rfl⟩ := hr
      exact envOf_getD hi
  | const v => cases hr; rfl
  | global g =>
    simp only [rsv, Option.map_eq_some_iff] at hr
    obtain ⟨j, hj, rfl⟩ := hr
    simp only [Arg.ev, ok.hg _ _ hj]
    rfl
  | func f =>
    simp only [rsv, Option.map_eq_some_iff] at hr
    obtain ⟨j, hj, rfl⟩ := hr
    simp only [Arg.ev, (ok.hf _ _ hj).1]
    rfl

theorem rsv_all {m : SM} {d : Nat} {a : Act} {T : List Value} (ok : Ok cx Y) (st : St cx Y m d a T) : ∀ {xs : List Operand} {as : List Arg}, xs.mapM (rsv cx m) = some as →
    as.map (Arg.ev Y (envOf cx.nm a) T) = xs.map a.eval := by
  intro xs
  induction xs with
  | nil => intro as h; simp at h; subst h; rfl
  | cons x xs ih =>
    intro as h
    simp only [List.mapM_cons, Option.bind_eq_bind, Option.bind_eq_some_iff] at h
    obtain ⟨b, hb, bs, hbs, he⟩ := h
    cases he
    simp [rsv_eval ok st hb, ih hbs]

theorem getD_put_self {a : Act} {s : Nat} {v : Value} (h : s < a.tmps.size) : (a.put (some s) v).tmps.getD s undef = v := by
  simp [Act.put, Array.getD_eq_getD_getElem?, h]

theorem getD_put_ne {a : Act} {s t : Nat} {v : Value} (h : t ≠ s) : (a.put (some s) v).tmps.getD t undef = a.tmps.getD t undef := by
  simp [Act.put, Array.getD_eq_getD_getElem?, Array.getElem?_setIfInBounds_ne h.symm]

theorem envOf_put_out {a : Act} {s : Nat} {v : Value} (h : s ∉ cx.nm) : envOf cx.nm (a.put (some s) v) = envOf cx.nm a := by
  unfold envOf
  apply List.map_congr_left
  intro t ht
  exact getD_put_ne (fun e => h (e ▸ ht))

theorem envOf_put_in {a : Act} {s i : Nat} {v : Value} (wf : Wf cx) (hs : s < a.tmps.size) (h : cx.nm.idxOf? s = some i) :
    envOf cx.nm (a.put (some s) v) = (envOf cx.nm a).set i v := by
  rw [List.idxOf?_eq_some_iff] at h
  obtain ⟨hl, hsi, _⟩ := h
  apply List.ext_getElem
  · simp [envOf]
  · intro j h1 h2
    have hj : j < cx.nm.length := by simpa [envOf] using h1
    rw [List.getElem_set]
    split
    · rename_i hij
      subst hij
      simp only [envOf, List.getElem_map, hsi]
      exact getD_put_self hs
    · rename_i hij
      simp only [envOf, List.getElem_map]
      apply getD_put_ne
      intro he
      apply hij
      have := wf.nodup
      exact (List.getElem_inj this).1 (hsi.trans he.symm)


theorem ev_set {x : Arg} {i : Nat} {e T : List Value} {v : Value} (h : x.isN i = false) : x.ev Y (e.set i v) T = x.ev Y e T := by
  cases x with
  | n j =>
    have hj : j ≠ i := by simpa [Arg.isN] using h
    simp only [Arg.ev, List.getD_eq_getElem?_getD]
    rw [List.getElem?_set_ne (fun e => hj e.symm)]
  | _ => rfl

theorem ev_push {x : Arg} {e T : List Value} {v : Value} (h : x.lt T.length) : x.ev Y e (T ++ [v]) = x.ev Y e T := by
  cases x with
  | t j =>
    have hj : j < T.length := h
    simp only [Arg.ev, List.getD_eq_getElem?_getD, List.getElem?_append_left hj]
  | _ => rfl

theorem Arg.lt_succ {x : Arg} {d : Nat} (h : x.lt d) : x.lt (d + 1) := by
  cases x with
  | t j => exact Nat.lt_succ_of_lt h
  | _ => trivial

theorem put_defers (a : Act) (s : Option Tmp) (v : Value) : (a.put s v).defers = a.defers := by cases s <;> rfl
theorem put_size (a : Act) (s : Option Tmp) (v : Value) : (a.put s v).tmps.size = a.tmps.size := by cases s <;> simp [Act.put]

/-- the state behind a result -/
theorem dst_sound {m m' : SM} {d d' : Nat} {a : Act} {T : List Value} {dst : Option Tmp} {ds : Dst} (wf : Wf cx) (st : St cx Y m d a T) (h : dstOf cx m d dst = some (ds, m', d')) (v : Value) :
    St cx Y m' d' (a.put dst v) (ds.T v T) ∧ envOf cx.nm (a.put dst v) = ds.e v (envOf cx.nm a) := by
  cases dst with
  | none => cases h; exact ⟨st, rfl⟩
  | some s =>
    simp only [dstOf] at h
    split at h
    · rename_i hs
      have hs' : s < a.tmps.size := by rw [st.size]; exact hs
      split at h
      · rename_i i hi
        cases h
        have henv := envOf_put_in (v := v) wf hs' hi
        refine ⟨⟨?_, ?_, st.len, ?_, ?_⟩, henv⟩
        · rw [put_defers]; exact st.defers
        · rw [put_size]; exact st.size
        · intro p hp
          simp only [List.mem_filter, Bool.and_eq_true, Bool.not_eq_true', bne_iff_ne, ne_eq] at hp
          rw [henv, getD_put_ne hp.2.2]
          exact (ev_set hp.2.1).trans (st.rel p hp.1)
        · intro p hp
          simp only [List.mem_filter] at hp
          exact st.lt p hp.1
      · rename_i hi
        cases h
        have hout : s ∉ cx.nm := List.idxOf?_eq_none_iff.1 hi
        have henv := envOf_put_out (v := v) (a := a) hout
        refine ⟨⟨?_, ?_, ?_, ?_, ?_⟩, henv⟩
        · rw [put_defers]; exact st.defers
        · rw [put_size]; exact st.size
        · simp [Dst.T, st.len]
        · intro p hp
          rcases List.mem_cons.1 hp with rfl | hp
          · simp only [Arg.ev, Dst.T, getD_put_self hs']
            simp [← st.len]
          · simp only [List.mem_filter, bne_iff_ne, ne_eq] at hp
            rw [henv, Dst.T, ev_push (by rw [st.len]; exact st.lt p hp.1), st.rel p hp.1, getD_put_ne hp.2]
        · intro p hp
          rcases List.mem_cons.1 hp with rfl | hp
          · exact Nat.lt_succ_self d
          · simp only [List.mem_filter] at hp
            exact Arg.lt_succ (st.lt p hp.1)
    · cases h

def gOk (Y : Sys) (e T : List Value) : Option (Arg × Bool) → Bool
  | none => true
  | some (x, want) => gdB (x.ev Y e T) want

theorem guard_sound {m : SM} {d : Nat} {a : Act} {T : List Value} {o : Oper} {g : Option (Arg × Bool)} (ok : Ok cx Y) (st : St cx Y m d a T) (h : guardOf cx ops m o.guard = some g) :
    Region.wanted o (yielded ops a.tmps) = gOk Y (envOf cx.nm a) T g := by
  unfold Region.wanted
  cases hg : o.guard with
  | none => rw [hg] at h; cases h; rfl
  | some jw =>
    obtain ⟨j, want⟩ := jw
    rw [hg] at h
    simp only [guardOf, Option.bind_eq_some_iff, Option.map_eq_some_iff] at h
    obtain ⟨s, ⟨oj, hoj, hs⟩, x, hx, rfl⟩ := h
    have hev := rsv_eval ok st hx
    simp only [gOk, hev, Act.eval, yielded, hoj, Option.bind_some, hs]
    rw [Array.getD_eq_getD_getElem?]
    cases ht : a.tmps[s]? with
    | none => simp [gdB, undef]
    | some v =>
      simp only [Option.getD_some]
      cases v <;> simp [gdB]

theorem step_sound {i : Nat} {m m' : SM} {d d' : Nat} {a : Act} {T : List Value} {o : Oper} {fl : List FI} {K : Kont} {Kw : Act → World → Prop} (ok : Ok cx Y) (wf : Wf cx)
    (hi : ops[i]? = some o) (h : stepOp cx ops m d o = some (fl, m', d')) (st : St cx Y m d a T) (hw : FL.wp Y K fl (envOf cx.nm a) T w.heap)
    (hn : ∀ a' T' w', St cx Y m' d' a' T' → Same w w' → K (envOf cx.nm a') T' w'.heap → Kw a' w') : wpOp cx.P ops Q i Kw a w := by
  unfold stepOp at h
  split at h
  case h_2 => cases h
  rename_i g k xs hg hk
  split at h
  case h_2 => cases h
  rename_i as has
  have hargs := rsv_all ok st has
  have hwant := guard_sound ok st hg
  unfold wpOp
  simp only [hi]
  split at h
  · rename_i s x hal
    cases h
    have hw : K (envOf cx.nm a) T w.heap := hw
    unfold aliasOf at hal
    split at hal
    case h_2 => cases hal
    rename_i x' s' hgn hmv hds
    split at hal
    case isFalse => cases hal
    rename_i hsn
    cases hal
    rw [hgn] at hg
    cases hg
    rw [hwant]
    simp only [gOk, if_true]
    left
    cases k with
    | io io =>
      cases io with
      | mv =>
        match as, hmv with
        | [y], hmv =>
          cases hmv
          have hs' : s < a.tmps.size := by rw [st.size]; exact hsn.1
          have hout : s ∉ cx.nm := List.idxOf?_eq_none_iff.1 hsn.2
          have hv : IOp.sem Y w.heap .mv (xs.map a.eval) = some (x.ev Y (envOf cx.nm a) T) := by
            rw [← hargs]; rfl
          unfold Oper.wp
          rw [sem_run ok hk hv]
          have henv := envOf_put_out (v := x.ev Y (envOf cx.nm a) T) (a := a) hout
          have hxlt : x.lt d := by
            match xs, has with
            | [y], has =>
              simp only [List.mapM_cons, List.mapM_nil, Option.bind_eq_bind, Option.bind_eq_some_iff] at has
              obtain ⟨b, hb, bs, hbs, he⟩ := has
              cases he
              cases y with
              | tmp t =>
                simp only [rsv] at hb
                cases hl : m.lookup t with
                | some b =>
                  rw [hl] at hb
                  cases hb
                  have : ∀ (m : SM), m.lookup t = some x → (t, x) ∈ m := by
                    intro m
                    induction m with
                    | nil => intro h; cases h
                    | cons p m ih =>
                      intro h
                      obtain ⟨u, c⟩ := p
                      simp only [List.lookup_cons] at h
                      split at h
                      · rename_i hbb
                        cases h
                        have : t = u := by simpa using hbb
                        subst this
                        simp
                      · exact List.mem_cons_of_mem _ (ih h)
                  exact st.lt _ (this m hl)
                | none =>
                  rw [hl] at hb
                  simp only [Option.map_eq_some_iff] at hb
                  obtain ⟨i, _, rfl⟩ := hb
                  trivial
              | const v => cases hb; trivial
              | global g => simp only [rsv, Option.map_eq_some_iff] at hb; obtain ⟨i, _, rfl⟩ := hb; trivial
              | func g => simp only [rsv, Option.map_eq_some_iff] at hb; obtain ⟨i, _, rfl⟩ := hb; trivial
            | [], has => simp at has
            | y :: z :: r, has =>
              simp only [List.mapM_cons, Option.bind_eq_bind, Option.bind_eq_some_iff] at has
              obtain ⟨b, hb, bs, ⟨c, hc, cs, hcs, he'⟩, he⟩ := has
              cases he'
              cases he
          refine hn (a.put o.dst _) T w ⟨?_, ?_, st.len, ?_, ?_⟩ (Same.refl w) ?_
          · rw [put_defers]; exact st.defers
          · rw [put_size]; exact st.size
          · rw [hds]
            intro p hp
            rcases List.mem_cons.1 hp with rfl | hp
            · rw [henv, getD_put_self hs']
            · simp only [List.mem_filter, bne_iff_ne, ne_eq] at hp
              rw [henv, st.rel p hp.1, getD_put_ne hp.2]
          · intro p hp
            rcases List.mem_cons.1 hp with rfl | hp
            · exact hxlt
            · simp only [List.mem_filter] at hp
              exact st.lt p hp.1
          · rw [hds, henv]; exact hw
      | _ => simp [isMv] at hmv
    | _ => simp [isMv] at hmv
  · split at h
    case h_2 => cases h
    rename_i ds m1 d1 hd
    simp only [Option.map_eq_some_iff, Prod.mk.injEq] at h
    obtain ⟨ins, hins, rfl, rfl, rfl⟩ := h
    have hw : FI.wp Y ⟨g, ins⟩ K (envOf cx.nm a) T w.heap := hw
    have hdst : ins.dst = ds := by
      cases k with
      | io io => cases hins; rfl
      | ef f => cases hins; rfl
      | call f => cases hins; rfl
      | callv => cases as with
        | nil => cases hins
        | cons y r => cases hins; rfl
    have run : ins.wp Y K (envOf cx.nm a) T w.heap → o.wp cx.P a w Kw Q := by
      intro hw
      refine instr_sound ok hk hargs hins hw fun v w' hs hk => ?_
      obtain ⟨h1, h2⟩ := dst_sound wf st hd v
      exact hn _ _ _ h1 hs (by rw [h2]; exact hk)
    rw [hwant]
    cases g with
    | none =>
      simp only [gOk, if_true]
      exact .inl (run hw)
    | some gw =>
      obtain ⟨x, want⟩ := gw
      simp only [FI.wp] at hw
      split at hw
      · rename_i hb
        have hb' : gOk Y (envOf cx.nm a) T (some (x, want)) = true := hb
        rw [if_pos hb']
        exact .inl (run hw)
      · rename_i hb
        have hb' : ¬ (gOk Y (envOf cx.nm a) T (some (x, want)) = true) := hb
        rw [if_neg hb']
        obtain ⟨h1, h2⟩ := dst_sound wf st hd undef
        rw [hdst] at hw
        exact hn _ _ _ h1 (Same.refl w) (by rw [h2]; exact hw)

theorem compL_sound (ok : Ok cx Y) (wf : Wf cx) {K : List Value → Heap → Prop} : ∀ {l : List Nat} {m : SM} {d : Nat} {a : Act} {T : List Value} {w : World} {fl : List FI},
    compL cx ops l m d = some fl → St cx Y m d a T → FL.wp Y (fun e _ h => K e h) fl (envOf cx.nm a) T w.heap →
    (∀ a' w', a'.defers = [] → a'.tmps.size = cx.nt → Same w w' → K (envOf cx.nm a') w'.heap → Q .normal a' w') → wpOps cx.P ops Q l a w := by
  intro l
  induction l with
  | nil =>
    intro m d a T w fl h st hw hn
    cases h
    exact hn a w st.defers st.size (Same.refl w) hw
  | cons i r ih =>
    intro m d a T w fl h st hw hn
    simp only [compL] at h
    split at h
    · cases h
    rename_i o ho
    split at h
    · cases h
    rename_i f1 m1 d1 hs
    simp only [Option.map_eq_some_iff] at h
    obtain ⟨f2, h2, rfl⟩ := h
    rw [wpOps_cons]
    rw [FL.wp_append] at hw
    refine step_sound ok wf ho hs st hw fun a' T' w' st' hsame hk => ?_
    exact ih h2 st' hk fun a'' w'' g1 g2 g3 g4 => hn a'' w'' g1 g2 (Same.trans hsame g3) g4

end
end Go.Rm
