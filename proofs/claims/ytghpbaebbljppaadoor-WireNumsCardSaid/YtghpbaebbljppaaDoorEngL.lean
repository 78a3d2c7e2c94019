/- The engine, part L: whatever the order, the region does what the language says. -/
import Derived.Test.YtghpbaebbljppaaDoorEngK
set_option linter.unusedSimpArgs false
set_option linter.unusedVariables false
namespace Go.Rm
section
variable {cx : Cx} {Y : Sys} {ops : Array Oper} {bm : Array Nat} {K : List Value → Heap → Prop} {w0 : World} {listed : Array Bool} {a : Act} {w : World}

theorem deps_listed {o : Oper} (h : ∀ e ∈ o.after, Region.binds .any e = true → listed.getD e.on false = true) : ∀ j ∈ depsOf o, Lst listed j := by
  intro j hj
  simp only [depsOf, List.mem_filterMap] at hj
  obtain ⟨e, he, hb⟩ := hj
  split at hb
  · rename_i hbi
    cases hb
    exact h e (by simpa using he) hbi
  · cases hb

/-- a floating operation is done now: it gives the value that was seen -/
theorem float_step (ok : Ok cx Y) {L : List Nat} {st : DS} {T : List Value} {fl : FT} {f : FR} {o : Oper} {Q : Exit → Act → World → Prop} {Kw : Act → World → Prop}
    (P : Pre cx Y ops bm K w0 listed a w L st T fl) (hf : f ∈ st.F) (hl : ¬ Lst listed f.i) (ho : ops[f.i]? = some o) (hd : ∀ j ∈ depsOf o, Lst listed j)
    (hn : ∀ a', Pre cx Y ops bm K w0 (listed.setIfInBounds f.i true) a' w L st T fl → Kw a' w) : wpOp cx.P ops Q f.i Kw a w := by
  obtain ⟨o', xs, s, lk⟩ := P.link f hf
  have : o' = o := by have := lk.op; rw [ho] at this; cases this; rfl
  subst this
  have huses : ∀ u ∈ f.uses, a.tmps.getD u.1 undef = u.2.ev Y (envOf cx.nm a) T := by
    intro u hu
    obtain ⟨j, hj, hjd⟩ := lk.uses u hu
    exact P.holdF f hf hl u hu j hj (hd j hjd)
  obtain ⟨hxs, hwant⟩ := lk.ev a T huses
  obtain ⟨v1, v2⟩ := P.vF f hf hl
  have hsz : f.i < listed.size := by
    rw [P.lsize]
    exact (Array.getElem?_eq_some_iff.1 ho).1
  have hs' : s < a.tmps.size := by rw [P.size]; exact lk.lt
  have henv : envOf cx.nm (a.put o'.dst (f.x.ev Y (envOf cx.nm a) T)) = envOf cx.nm a := by rw [lk.dst]; exact envOf_put_out lk.out
  have hself : (a.put o'.dst (f.x.ev Y (envOf cx.nm a) T)).tmps.getD s undef = f.x.ev Y (envOf cx.nm a) T := by rw [lk.dst]; exact getD_put_self hs'
  have hoth : ∀ t, t ≠ s → (a.put o'.dst (f.x.ev Y (envOf cx.nm a) T)).tmps.getD t undef = a.tmps.getD t undef := by intro t ht; rw [lk.dst]; exact getD_put_ne ht
  have key : Pre cx Y ops bm K w0 (listed.setIfInBounds f.i true) (a.put o'.dst (f.x.ev Y (envOf cx.nm a) T)) w L st T fl := by
    have hhold : ∀ u : Nat × Arg, (st.W.lookup u.1 = some f.i → u.2 = f.x) → Hold Y listed st.W a (envOf cx.nm a) T u →
        Hold Y (listed.setIfInBounds f.i true) st.W (a.put o'.dst (f.x.ev Y (envOf cx.nm a) T)) (envOf cx.nm a) T u := by
      intro u hc h j hj hlj
      by_cases hus : u.1 = s
      · have : st.W.lookup u.1 = some f.i := by rw [hus]; exact lk.wr
        rw [hc this, hus]
        exact hself
      · rw [hoth _ hus]
        rcases hlj.of_set with rfl | hlj
        · exact absurd (P.winj _ _ _ hj lk.wr) hus
        · exact h j hj hlj
    obtain ⟨c1, c2⟩ := P.cons f hf
    refine ⟨by rw [put_defers]; exact P.defers, by rw [put_size]; exact P.size, P.same, P.comp, by rw [henv]; exact P.wp, P.len, P.ltm, P.ltF, P.wm, ?_, ?_, P.cons, ?_, P.link, P.winj, P.wL, P.fL, ?_, P.nd, ?_, ?_, by simp [P.lsize]⟩
    · intro p hp
      rw [henv]
      exact hhold p (c1 p hp) (P.holdm p hp)
    · intro f' hf' hl' u hu
      rw [henv]
      exact hhold u (c2 f' hf' u hu) (P.holdF f' hf' (fun h => hl' h.set) u hu)
    · intro f' hf' hl'
      rw [henv]
      exact P.vF f' hf' (fun h => hl' h.set)
    · intro j hj
      refine ⟨fun h => ?_, (P.unl j hj).2⟩
      rcases h.of_set with rfl | h
      · exact P.fL f hf hj
      · exact (P.unl j hj).1 h
    · intro j hj
      rcases P.cover j hj with h | h | h
      · exact .inl h.set
      · exact .inr (.inl h)
      · exact .inr (.inr h)
    · intro j oj hoj hlj q hq
      rcases hlj.of_set with rfl | hlj
      · rw [ho] at hoj
        cases hoj
        exact (hd q hq).set
      · exact (P.closed j oj hoj hlj q hq).set
  unfold wpOp
  simp only [ho]
  split
  · rename_i hw
    rw [hwant] at hw
    left
    unfold Oper.wp
    have hsem := v1 hw
    rw [← hxs] at hsem
    rw [sem_run ok lk.knd hsem]
    exact hn _ key
  · rename_i hw
    rw [hwant] at hw
    have := v2 (by simpa using hw)
    rw [this] at key
    exact hn _ key

theorem foldl_bits {bm : Array Nat} {i : Nat} : ∀ {l : List Nat} {s : Nat}, (l.foldl (fun s j => s ||| 2 ^ j ||| bm.getD j 0) s).testBit i = true →
    s.testBit i = true ∨ ∃ j ∈ l, i = j ∨ (bm.getD j 0).testBit i = true := by
  intro l
  induction l with
  | nil => intro s h; exact .inl h
  | cons j l ih =>
    intro s h
    simp only [List.foldl_cons] at h
    rcases ih h with h | ⟨q, hq, h⟩
    · simp only [Nat.testBit_or, Nat.testBit_two_pow, Bool.or_eq_true, decide_eq_true_eq] at h
      rcases h with (h | h) | h
      · exact .inl h
      · exact .inr ⟨j, by simp, .inl h.symm⟩
      · exact .inr ⟨j, by simp, .inr h⟩
    · exact .inr ⟨q, List.mem_cons_of_mem _ hq, h⟩

theorem bmOk_get (hb : bmOk ops bm = true) {c : Nat} {o : Oper} (ho : ops[c]? = some o) :
    (∀ j ∈ depsOf o, j < c) ∧ bm.getD c 0 = (depsOf o).foldl (fun s j => s ||| 2 ^ j ||| bm.getD j 0) 0 := by
  have hc : c < ops.size := (Array.getElem?_eq_some_iff.1 ho).1
  have := List.all_eq_true.1 hb c (List.mem_range.2 hc)
  simp only [ho, Bool.and_eq_true, List.all_eq_true, decide_eq_true_eq, beq_iff_eq] at this
  exact this

theorem anc_listed (hb : bmOk ops bm = true) (hcl : ∀ i o, ops[i]? = some o → Lst listed i → ∀ j ∈ depsOf o, Lst listed j) (hsz : listed.size = ops.size) :
    ∀ (n c : Nat) (o : Oper), c < n → ops[c]? = some o → (∀ j ∈ depsOf o, Lst listed j) → ∀ i, (bm.getD c 0).testBit i = true → Lst listed i := by
  intro n
  induction n with
  | zero => intro c o h; omega
  | succ n ih =>
    intro c o hc ho hd i hi
    obtain ⟨hlt, hbm⟩ := bmOk_get hb ho
    rw [hbm] at hi
    rcases foldl_bits hi with h | ⟨j, hj, h | h⟩
    · simp at h
    · rw [h]; exact hd j hj
    · have hlj := hd j hj
      have hjs : j < ops.size := by
        rw [← hsz]
        rcases Nat.lt_or_ge j listed.size with h' | h'
        · exact h'
        · unfold Lst at hlj; simp [Array.getElem?_eq_none h'] at hlj
      have hjo : ops[j]? = some ops[j] := Array.getElem?_eq_getElem hjs
      exact ih j ops[j] (by have := hlt j hj; omega) hjo (hcl j _ hjo hlj) i h

theorem stabs_sound : ∀ {F : List FR} {K : Kont} {e T : List Value} {h : Heap}, FL.wp Y K (stabs F) e T h →
    (∀ f ∈ F, heapDep f.io = true → gOk Y e T f.g = true → f.io.sem Y h (f.as.map (Arg.ev Y e T)) = some (f.x.ev Y e T)) ∧ K e T h := by
  intro F
  induction F with
  | nil => intro K e T h hw; exact ⟨fun f hf => (by cases hf), hw⟩
  | cons f F ih =>
    intro K e T h hw
    cases hd : heapDep f.io with
    | false =>
      have : stabs (f :: F) = stabs F := by simp [stabs, hd]
      rw [this] at hw
      obtain ⟨h1, h2⟩ := ih hw
      refine ⟨fun f' hf' hd' hg => ?_, h2⟩
      rcases List.mem_cons.1 hf' with rfl | hf'
      · rw [hd] at hd'; cases hd'
      · exact h1 f' hf' hd' hg
    | true =>
      have : stabs (f :: F) = ⟨f.g, .stab f.io f.as f.x⟩ :: stabs F := by simp [stabs, hd]
      rw [this] at hw
      have hw : FI.wp Y ⟨f.g, .stab f.io f.as f.x⟩ (FL.wp Y K (stabs F)) e T h := hw
      have : (gOk Y e T f.g = true → f.io.sem Y h (f.as.map (Arg.ev Y e T)) = some (f.x.ev Y e T)) ∧ FL.wp Y K (stabs F) e T h := by
        cases hg : f.g with
        | none =>
          rw [hg] at hw
          exact ⟨fun _ => hw.1, hw.2⟩
        | some xw =>
          obtain ⟨x, b⟩ := xw
          rw [hg] at hw
          simp only [FI.wp] at hw
          split at hw
          · exact ⟨fun _ => hw.1, hw.2⟩
          · rename_i hb; exact ⟨fun h => absurd h hb, hw⟩
      obtain ⟨h0, hw⟩ := this
      obtain ⟨h1, h2⟩ := ih hw
      refine ⟨fun f' hf' hd' hg => ?_, h2⟩
      rcases List.mem_cons.1 hf' with rfl | hf'
      · exact h0 hg
      · exact h1 f' hf' hd' hg

theorem app_wp {K : Kont} {t : FT} : ∀ {l : List FI} {e T : List Value} {h : Heap}, FT.wp Y K (FT.app l t) e T h = FL.wp Y (FT.wp Y K t) l e T h := by
  intro l
  induction l with
  | nil => intros; rfl
  | cons x l ih =>
    intro e T h
    simp only [FT.app, FT.wp, FL.wp]
    rw [show FT.wp Y K (FT.app l t) = FL.wp Y (FT.wp Y K t) l from funext fun e => funext fun T => funext fun h => ih]

theorem mapO_get {α β : Type} {f : α → Option β} : ∀ {l : List α} {ys : List β}, mapO f l = some ys → ∀ x ∈ l, ∃ y ∈ ys, f x = some y := by
  intro l
  induction l with
  | nil => intro ys _ x hx; cases hx
  | cons a l ih =>
    intro ys h x hx
    simp only [mapO, Option.bind_eq_some_iff, Option.map_eq_some_iff] at h
    obtain ⟨y, hy, zs, hzs, rfl⟩ := h
    rcases List.mem_cons.1 hx with rfl | hx
    · exact ⟨y, by simp, hy⟩
    · obtain ⟨z, hz, he⟩ := ih hzs x hx
      exact ⟨z, List.mem_cons_of_mem _ hz, he⟩

theorem altAll_get {K : Kont} {e T : List Value} {h : Heap} : ∀ {ts : List FT} {r : FT}, altAll ts = some r → FT.wp Y K r e T h → ∀ t ∈ ts, FT.wp Y K t e T h := by
  intro ts
  induction ts with
  | nil => intro r hr; cases hr
  | cons x ts ih =>
    intro r hr hw t ht
    cases ts with
    | nil =>
      cases hr
      rcases List.mem_cons.1 ht with rfl | ht
      · exact hw
      · cases ht
    | cons y ts =>
      simp only [altAll, Option.map_eq_some_iff] at hr
      obtain ⟨z, hz, rfl⟩ := hr
      rcases List.mem_cons.1 ht with rfl | ht
      · exact hw.1
      · exact ih (by simpa only [altAll, Option.map_eq_some_iff] using hz) hw.2 t ht

theorem dst_env {m m' : SM} {d d' : Nat} {a : Act} {T : List Value} {dst : Option Tmp} {ds : Dst} (wf : Wf cx) (hsz : a.tmps.size = cx.nt) (hlen : T.length = d) (h : dstOf cx m d dst = some (ds, m', d')) (v : Value) :
    envOf cx.nm (a.put dst v) = ds.e v (envOf cx.nm a) ∧ (ds.T v T).length = d' ∧ d ≤ d' ∧
    (∀ p ∈ m', (p ∈ m ∧ (∀ s, dst = some s → p.1 ≠ s) ∧ (∀ j, setOf ds = some j → p.2.isN j = false)) ∨ (∃ s, dst = some s ∧ ds = .push ∧ p = (s, .t d) ∧ s < cx.nt)) := by
  cases dst with
  | none => cases h; exact ⟨rfl, hlen, Nat.le_refl _, fun p hp => .inl ⟨hp, fun s hs => (by cases hs), fun j hj => (by cases hj)⟩⟩
  | some s =>
    simp only [dstOf] at h
    split at h
    · rename_i hs
      have hs' : s < a.tmps.size := by rw [hsz]; exact hs
      split at h
      · rename_i i hi
        cases h
        refine ⟨envOf_put_in wf hs' hi, hlen, Nat.le_refl _, ?_⟩
        intro p hp
        simp only [List.mem_filter, Bool.and_eq_true, Bool.not_eq_true', bne_iff_ne, ne_eq] at hp
        refine .inl ⟨hp.1, ?_, ?_⟩
        · intro t ht; cases ht; exact hp.2.2
        · intro j hj; cases hj; exact hp.2.1
      · rename_i hi
        cases h
        refine ⟨envOf_put_out (List.idxOf?_eq_none_iff.1 hi), by simp [Dst.T, hlen], Nat.le_succ _, ?_⟩
        intro p hp
        rcases List.mem_cons.1 hp with rfl | hp
        · exact .inr ⟨s, rfl, rfl, rfl, hs⟩
        · simp only [List.mem_filter, bne_iff_ne, ne_eq] at hp
          refine .inl ⟨hp.1, ?_, fun j hj => by cases hj⟩
          intro t ht; cases ht; exact hp.2
    · cases h

theorem put_getD_ne {a : Act} {dst : Option Tmp} {v : Value} {t : Nat} (h : ∀ s, dst = some s → t ≠ s) : (a.put dst v).tmps.getD t undef = a.tmps.getD t undef := by
  cases dst with
  | none => rfl
  | some s => exact getD_put_ne (h s rfl)

theorem any_false_not {α : Type} {l : List α} {p : α → Bool} (h : l.any p = false) : ∀ x ∈ l, p x = false := by
  intro x hx
  cases hp : p x with
  | false => rfl
  | true => rw [List.any_eq_true.2 ⟨x, hx, hp⟩] at h; cases h

theorem eff_step (ok : Ok cx Y) (wf : Wf cx) (hb : bmOk ops bm = true) {i : Nat} {L : List Nat} {st : DS} {T : List Value} {fl : FT} {o : Oper} {Q : Exit → Act → World → Prop} {Kw : Act → World → Prop}
    (P : Pre cx Y ops bm K w0 listed a w L st T fl) (hiL : i ∈ L) (he : floatNext cx ops L = none) (ho : ops[i]? = some o) (hd : ∀ j ∈ depsOf o, Lst listed j)
    (hn : ∀ a' w' st' T' fl', Pre cx Y ops bm K w0 (listed.setIfInBounds i true) a' w' (L.erase i) st' T' fl' → Kw a' w') : wpOp cx.P ops Q i Kw a w := by
  have hfree : freeOf ops L i = true := by
    simp only [freeOf, ho, List.all_eq_true, Bool.not_eq_true', List.contains_eq_mem, decide_eq_false_iff_not]
    intro q hq hqL
    exact (P.unl q hqL).1 (hd q hq)
  have hnf : isFloat cx o = false := by
    unfold floatNext at he
    have := List.find?_eq_none.1 he i hiL
    simp only [ho, hfree, Bool.and_true] at this
    exact (Bool.not_eq_true _).mp this
  obtain ⟨n, hcmp⟩ := P.comp
  have hne : L.isEmpty = false := by cases L with | nil => cases hiL | cons x r => rfl
  have hone : ∃ n t, compOne cx ops bm (compDT cx ops bm n) L st i = some t ∧ FT.wp Y (fun e _ h => K e h) t (envOf cx.nm a) T w.heap := by
    cases n with
    | zero => simp [compDT, hne] at hcmp
    | succ n =>
      simp only [compDT, hne, he, Bool.false_eq_true, if_false, Option.bind_eq_some_iff] at hcmp
      obtain ⟨ts, hts, halt⟩ := hcmp
      obtain ⟨t, ht, hct⟩ := mapO_get hts i (List.mem_filter.2 ⟨hiL, hfree⟩)
      exact ⟨n, t, hct, altAll_get halt P.wp t ht⟩
  obtain ⟨n, t, hc, hwt⟩ := hone
  simp only [compOne, ho] at hc
  split at hc
  case h_2 => cases hc
  rename_i g k xs hg hk
  split at hc
  · cases hc
  rename_i as has
  split at hc
  case isFalse => cases hc
  rename_i hwr
  have hfl : floatDst cx k o.dst = none := by
    unfold isFloat at hnf
    rw [hk] at hnf
    cases h : floatDst cx k o.dst with
    | none => rfl
    | some x => simp only [h] at hnf; cases hnf
  simp only [hfl] at hc
  split at hc
  · cases hc
  rename_i hfresh
  split at hc
  · cases hc
  rename_i ds m' d' hds
  split at hc
  · cases hc
  rename_i ins hins
  split at hc
  case isFalse => cases hc
  rename_i hment
  simp only [Option.map_eq_some_iff] at hc
  obtain ⟨rest, hrest, rfl⟩ := hc
  have hwruses : ∀ u ∈ usesOf st.m (guardSlot ops o.guard ++ xs), ∃ j, st.W.lookup u.1 = some j ∧ j ∈ depsOf o := by
    intro u hu
    have := List.all_eq_true.1 hwr u hu
    cases h : st.W.lookup u.1 with
    | none => rw [h] at this; cases this
    | some j => rw [h] at this; exact ⟨j, rfl, by simpa using this⟩
  have huses : ∀ u ∈ usesOf st.m (guardSlot ops o.guard ++ xs), a.tmps.getD u.1 undef = u.2.ev Y (envOf cx.nm a) T := by
    intro u hu
    obtain ⟨j, hj, hjd⟩ := hwruses u hu
    exact P.holdm u (usesOf_mem hu) j hj (hd j hjd)
  have hargs := rsv_uses_all (T := T) (a := a) ok has fun u hu => huses u (usesOf_append (.inr hu))
  have hwant := guard_uses (T := T) (a := a) ok hg fun u hu => huses u (usesOf_append (.inl hu))
  have hun := P.unl i hiL
  have hnd : i ∉ L.erase i ∧ (L.erase i).Nodup := ⟨P.nd.not_mem_erase, P.nd.erase i⟩
  have hsub : ∀ j, j ∈ L.erase i → j ∈ L := fun j hj => List.mem_of_mem_erase hj
  have hsz : i < listed.size := by rw [P.lsize]; exact hun.2
  have hWd : ∀ s, o.dst = some s → st.W.lookup s = none := by
    intro s hs
    rw [hs] at hfresh
    cases h : st.W.lookup s with
    | none => rfl
    | some j => simp only [takenDst, h] at hfresh; simp at hfresh
  generalize hF' : st.F.filter (fun f => !(bm.getD i 0).testBit f.i) = F' at *
  have hFmem : ∀ f ∈ F', f ∈ st.F ∧ (bm.getD i 0).testBit f.i = false := by
    intro f hf
    rw [← hF'] at hf
    obtain ⟨h1, h2⟩ := List.mem_filter.1 hf
    exact ⟨h1, by simpa only [Bool.not_eq_true'] using h2⟩
  have hFdrop : ∀ f ∈ st.F, f ∈ F' ∨ Lst listed f.i := by
    intro f hf
    cases ht : (bm.getD i 0).testBit f.i with
    | true => exact .inr (anc_listed hb P.closed P.lsize (i + 1) i o (Nat.lt_succ_self i) ho hd f.i ht)
    | false => left; rw [← hF']; exact List.mem_filter.2 ⟨hf, by rw [ht]; rfl⟩
  have hmen : ∀ f ∈ F', ∀ j, setOf ds = some j → mentions j f = false := by
    intro f hf j hj
    rw [hj] at hment
    have := List.all_eq_true.1 (show F'.all (fun f => !mentions j f) = true from hment) f hf
    simpa using this
  generalize hW' : addW st.W i o.dst = W' at *
  have hWold : ∀ t, (∀ s, o.dst = some s → t ≠ s) → W'.lookup t = st.W.lookup t := by
    intro t ht
    rw [← hW']
    cases hdst : o.dst with
    | none => rfl
    | some s => exact lookup_cons_ne (ht s hdst)
  have hWnew : ∀ s, o.dst = some s → W'.lookup s = some i := by
    intro s hs
    rw [← hW', hs]
    exact lookup_cons_self
  have hWne : ∀ t j, st.W.lookup t = some j → ∀ s, o.dst = some s → t ≠ s := by
    intro t j h s hs e
    rw [e, hWd s hs] at h; cases h
  -- the state behind it
  have key : ∀ (v : Value) (w' : World), Same w w' → FL.wp Y (FT.wp Y (fun e _ h => K e h) rest) (stabs F') (ds.e v (envOf cx.nm a)) (ds.T v T) w'.heap →
      Pre cx Y ops bm K w0 (listed.setIfInBounds i true) (a.put o.dst v) w' (L.erase i) ⟨m', d', W', F'⟩ (ds.T v T) rest := by
    intro v w' hsame hw
    obtain ⟨henv, hlen, hdd, hm'⟩ := dst_env wf P.size P.len hds v
    obtain ⟨hst, hw⟩ := stabs_sound hw
    have hup : ∀ y : Arg, y.lt st.d → y.lt d' := by
      intro y hy
      cases y with
      | t j => exact Nat.lt_of_lt_of_le hy hdd
      | _ => trivial
    have hgup : ∀ g : Option (Arg × Bool), gLt st.d g → gLt d' g := by
      intro g hg
      cases g with
      | none => trivial
      | some xw => exact hup _ hg
    have hnomen : ∀ f ∈ F', ∀ j, setOf ds = some j → f.x.isN j = false ∧ (∀ y ∈ f.as, y.isN j = false) ∧ (∀ u ∈ f.uses, u.2.isN j = false) ∧ (∀ x b, f.g = some (x, b) → x.isN j = false) := by
      intro f hf j hj
      have := hmen f hf j hj
      simp only [mentions, Bool.or_eq_false_iff] at this
      obtain ⟨⟨⟨h1, h2⟩, h3⟩, h4⟩ := this
      refine ⟨h2, any_false_not h1, any_false_not h4, ?_⟩
      intro x b hgx
      rw [hgx] at h3
      exact h3
    have hlinkold : ∀ f ∈ F', ∃ o xs s, Link cx Y ops st.W f o xs s := fun f hf => P.link f (hFmem f hf).1
    have husesW : ∀ f ∈ F', ∀ u ∈ f.uses, ∃ j, st.W.lookup u.1 = some j := by
      intro f hf u hu
      obtain ⟨o', xs', s', lk⟩ := hlinkold f hf
      obtain ⟨j, hj, _⟩ := lk.uses u hu
      exact ⟨j, hj⟩
    have hold : ∀ u : Nat × Arg, u.2.lt st.d → (∃ j, st.W.lookup u.1 = some j) → (∀ j, setOf ds = some j → u.2.isN j = false) → Hold Y listed st.W a (envOf cx.nm a) T u →
        Hold Y (listed.setIfInBounds i true) W' (a.put o.dst v) (envOf cx.nm (a.put o.dst v)) (ds.T v T) u := by
      intro u hlt ⟨j, hj⟩ hset h q hq hlq
      have hne := hWne _ _ hj
      rw [hWold _ hne] at hq
      rw [put_getD_ne hne, henv, ev_same (by rw [P.len]; exact hlt) hset]
      rcases hlq.of_set with rfl | hlq
      · exact absurd hiL (P.wL _ _ hq)
      · exact h q hq hlq
    refine ⟨by rw [put_defers]; exact P.defers, by rw [put_size]; exact P.size, Same.trans P.same hsame, ⟨n, hrest⟩, by rw [henv]; exact hw, hlen, ?_, ?_, ?_, ?_, ?_, ?_, ?_, ?_, ?_, ?_, ?_, ?_, hnd.2, ?_, ?_, by simp [P.lsize]⟩
    · -- ltm
      intro p hp
      rcases hm' p hp with ⟨h, _⟩ | ⟨s, _, hpush, rfl, _⟩
      · exact hup _ (P.ltm p h)
      · subst hpush
        have : (T ++ [v]).length = d' := hlen
        simp only [List.length_append, List.length_cons, List.length_nil, P.len] at this
        show st.d < d'
        omega
    · -- ltF
      intro f hf
      obtain ⟨h1, h2, h3, h4⟩ := P.ltF f (hFmem f hf).1
      exact ⟨hup _ h1, fun y hy => hup _ (h2 y hy), fun u hu => hup _ (h3 u hu), hgup _ h4⟩
    · -- wm
      intro p hp
      rcases hm' p hp with ⟨h, _⟩ | ⟨s, hs, _, rfl, _⟩
      · obtain ⟨j, hj⟩ := P.wm p h
        exact ⟨j, by rw [hWold _ (hWne _ _ hj)]; exact hj⟩
      · exact ⟨i, hWnew s hs⟩
    · -- holdm
      intro p hp
      rcases hm' p hp with ⟨h, _, hset⟩ | ⟨s, hs, hpush, rfl, hslt⟩
      · exact hold p (P.ltm p h) (P.wm p h) hset (P.holdm p h)
      · intro q hq hlq
        subst hpush
        rw [hs]
        simp only [Arg.ev, Dst.T]
        rw [getD_put_self (by rw [P.size]; exact hslt)]
        simp [← P.len]
    · -- holdF
      intro f hf hl u hu
      obtain ⟨h1, h2, h3, h4⟩ := P.ltF f (hFmem f hf).1
      exact hold u (h3 u hu) (husesW f hf u hu) (fun j hj => (hnomen f hf j hj).2.2.1 u hu) (P.holdF f (hFmem f hf).1 (fun h => hl h.set) u hu)
    · -- cons
      intro f hf
      obtain ⟨c1, c2⟩ := P.cons f (hFmem f hf).1
      have hfi : f.i ≠ i := fun e => P.fL f (hFmem f hf).1 (by rw [e]; exact hiL)
      refine ⟨?_, ?_⟩
      · intro p hp hq
        rcases hm' p hp with ⟨h, hne, _⟩ | ⟨s, hs, _, rfl, _⟩
        · rw [hWold _ hne] at hq; exact c1 p h hq
        · rw [hWnew s hs] at hq; cases hq; exact absurd rfl hfi
      · intro f' hf' u hu hq
        obtain ⟨j, hj⟩ := husesW f' hf' u hu
        rw [hWold _ (hWne _ _ hj)] at hq
        exact c2 f' (hFmem f' hf').1 u hu hq
    · -- vF
      intro f hf hl
      obtain ⟨h1, h2, h3, h4⟩ := P.ltF f (hFmem f hf).1
      obtain ⟨v1, v2⟩ := P.vF f (hFmem f hf).1 (fun h => hl h.set)
      have hx := ev_same (Y := Y) (x := f.x) (ds := ds) (e := envOf cx.nm a) (T := T) (v := v) (by rw [P.len]; exact h1) (fun j hj => (hnomen f hf j hj).1)
      have hgs := gOk_same (Y := Y) (g := f.g) (ds := ds) (e := envOf cx.nm a) (T := T) (v := v) (by rw [P.len]; exact h4) (fun j hj => (hnomen f hf j hj).2.2.2)
      have has' := ev_same_all (Y := Y) (l := f.as) (ds := ds) (e := envOf cx.nm a) (T := T) (v := v) (by rw [P.len]; exact h2) (fun j hj => (hnomen f hf j hj).2.1)
      rw [henv]
      refine ⟨fun hb' => ?_, fun hb' => ?_⟩
      · cases hhd : heapDep f.io with
        | true => exact hst f hf hhd hb'
        | false =>
          rw [has', hx, sem_heap (h' := w.heap) hhd]
          exact v1 (by rw [← hgs]; exact hb')
      · rw [hx]
        exact v2 (by rw [← hgs]; exact hb')
    · -- link
      intro f hf
      obtain ⟨o', xs', s', lk⟩ := hlinkold f hf
      refine ⟨o', xs', s', lk.op, lk.knd, lk.dst, lk.lt, lk.out, by rw [hWold _ (hWne _ _ lk.wr)]; exact lk.wr, ?_, lk.ev⟩
      intro u hu
      obtain ⟨j, hj, hjd⟩ := lk.uses u hu
      exact ⟨j, by rw [hWold _ (hWne _ _ hj)]; exact hj, hjd⟩
    · -- winj
      intro t u j ht hu
      by_cases h1 : ∃ s, o.dst = some s ∧ t = s
      · obtain ⟨s, hs, rfl⟩ := h1
        rw [hWnew _ hs] at ht
        cases ht
        by_cases h2 : u = t
        · exact h2.symm
        · rw [hWold u (fun s' hs' => by rw [hs] at hs'; cases hs'; exact h2)] at hu
          exact absurd hiL (P.wL u _ hu)
      · have ht' : ∀ s, o.dst = some s → t ≠ s := fun s hs e => h1 ⟨s, hs, e⟩
        rw [hWold t ht'] at ht
        by_cases h2 : ∃ s, o.dst = some s ∧ u = s
        · obtain ⟨s, hs, rfl⟩ := h2
          rw [hWnew _ hs] at hu
          cases hu
          exact absurd hiL (P.wL t _ ht)
        · rw [hWold u (fun s hs e => h2 ⟨s, hs, e⟩)] at hu
          exact P.winj t u j ht hu
    · -- wL
      intro t j h
      by_cases h1 : ∃ s, o.dst = some s ∧ t = s
      · obtain ⟨s, hs, rfl⟩ := h1
        rw [hWnew _ hs] at h
        cases h
        exact hnd.1
      · rw [hWold t (fun s hs e => h1 ⟨s, hs, e⟩)] at h
        exact fun hj => P.wL t j h (hsub _ hj)
    · -- fL
      exact fun f hf hj => P.fL f (hFmem f hf).1 (hsub _ hj)
    · -- unl
      intro j hj
      refine ⟨fun h => ?_, (P.unl j (hsub _ hj)).2⟩
      rcases h.of_set with rfl | h
      · exact hnd.1 hj
      · exact (P.unl j (hsub _ hj)).1 h
    · -- cover
      intro j hj
      rcases P.cover j hj with h | h | ⟨f, hf, rfl⟩
      · exact .inl h.set
      · by_cases hji : j = i
        · subst hji
          exact .inl (Lst.set_self hsz)
        · exact .inr (.inl ((List.mem_erase_of_ne hji).2 h))
      · rcases hFdrop f hf with h | h
        · exact .inr (.inr ⟨f, h, rfl⟩)
        · exact .inl h.set
    · -- closed
      intro j oj hoj hlj q hq
      rcases hlj.of_set with rfl | hlj
      · rw [ho] at hoj
        cases hoj
        exact (hd q hq).set
      · exact (P.closed j oj hoj hlj q hq).set
  have hw : FI.wp Y ⟨g, ins⟩ (FL.wp Y (FT.wp Y (fun e _ h => K e h) rest) (stabs F')) (envOf cx.nm a) T w.heap := by
    have hw : FI.wp Y ⟨g, ins⟩ (FT.wp Y (fun e _ h => K e h) (FT.app (stabs F') rest)) (envOf cx.nm a) T w.heap := hwt
    rwa [show FT.wp Y (fun e _ h => K e h) (FT.app (stabs F') rest) = FL.wp Y (FT.wp Y (fun e _ h => K e h) rest) (stabs F') from funext fun e => funext fun T => funext fun h => app_wp] at hw
  have hdst : ins.dst = ds := by
    cases k with
    | io io => cases hins; rfl
    | ef f => cases hins; rfl
    | call f => cases hins; rfl
    | callv => cases as with
      | nil => cases hins
      | cons y r => cases hins; rfl
  have run : ins.wp Y (FL.wp Y (FT.wp Y (fun e _ h => K e h) rest) (stabs F')) (envOf cx.nm a) T w.heap → o.wp cx.P a w Kw Q := by
    intro hw
    refine instr_sound ok hk hargs.symm hins hw fun v w' hs hk => ?_
    exact hn _ _ _ _ _ (key v w' hs hk)
  unfold wpOp
  simp only [ho]
  rw [hwant]
  cases g with
  | none =>
    simp only [gOk, if_true]
    exact .inl (run hw)
  | some xw =>
    obtain ⟨x, want⟩ := xw
    simp only [FI.wp] at hw
    split at hw
    · rename_i hbb
      have hb' : gOk Y (envOf cx.nm a) T (some (x, want)) = true := hbb
      rw [if_pos hb']
      exact .inl (run hw)
    · rename_i hbb
      have hb' : ¬ (gOk Y (envOf cx.nm a) T (some (x, want)) = true) := hbb
      rw [if_neg hb']
      rw [hdst] at hw
      exact hn _ _ _ _ _ (key undef w (Same.refl w) hw)

def unlisted (n : Nat) (listed : Array Bool) : Nat := (List.range n).countP fun i => !listed.getD i false

theorem unlisted_set {n : Nat} {listed : Array Bool} {i : Nat} (hi : i < n) (hsz : listed.size = n) (hl : ¬ Lst listed i) : unlisted n (listed.setIfInBounds i true) + 1 = unlisted n listed := by
  have gen : ∀ (l : List Nat), l.Nodup → (i ∈ l → l.countP (fun j => !(listed.setIfInBounds i true).getD j false) + 1 = l.countP (fun j => !listed.getD j false)) ∧
      (i ∉ l → l.countP (fun j => !(listed.setIfInBounds i true).getD j false) = l.countP (fun j => !listed.getD j false)) := by
    intro l
    induction l with
    | nil => intro _; exact ⟨fun h => (by cases h), fun _ => rfl⟩
    | cons x l ih =>
      intro hnd
      obtain ⟨hx, hnd⟩ := List.nodup_cons.1 hnd
      obtain ⟨ih1, ih2⟩ := ih hnd
      have hself : (listed.setIfInBounds i true).getD i false = true := Lst.set_self (by omega)
      have hfalse : listed.getD i false = false := (Bool.not_eq_true _).mp hl
      refine ⟨fun hi => ?_, fun hi => ?_⟩
      · simp only [List.countP_cons]
        by_cases hxi : x = i
        · subst hxi
          rw [ih2 hx, hself, hfalse]
          rfl
        · have hil : i ∈ l := by
            rcases List.mem_cons.1 hi with h | h
            · exact absurd h.symm hxi
            · exact h
          rw [getD_set_ne false (fun e => hxi e.symm)]
          have := ih1 hil
          omega
      · have hxi : x ≠ i := fun e => hi (by rw [e]; simp)
        simp only [List.countP_cons]
        rw [ih2 (fun h => hi (List.mem_cons_of_mem _ h)), getD_set_ne false (fun e => hxi e.symm)]
  exact (gen _ List.nodup_range).1 (List.mem_range.2 hi)

theorem all_of_unlisted {n : Nat} {listed : Array Bool} (h : unlisted n listed = 0) : ∀ i, i < n → Lst listed i := by
  intro i hi
  have := List.countP_eq_zero.1 h i (List.mem_range.2 hi)
  simpa [Lst] using this

theorem fin_all {L : List Nat} {st : DS} {T : List Value} {fl : FT} (P : Pre cx Y ops bm K w0 listed a w L st T fl) (h : ∀ i, i < ops.size → Lst listed i) : K (envOf cx.nm a) w.heap := by
  cases L with
  | nil =>
    obtain ⟨n, hc⟩ := P.comp
    have hf : fl = .nil := by cases n <;> simp [compDT] at hc <;> exact hc.symm
    have hw := P.wp
    rw [hf] at hw
    exact hw
  | cons i r => exact absurd (h i (P.unl i (by simp)).2) (P.unl i (by simp)).1

theorem all_of_stuck (hb : bmOk ops bm = true) (hsz : listed.size = ops.size) (h : Region.ready .any ops listed = []) : ∀ i, i < ops.size → Lst listed i := by
  intro i
  induction i using Nat.strongRecOn with
  | _ i ih =>
    intro hi
    by_cases hl : Lst listed i
    · exact hl
    · exfalso
      have ho : ops[i]? = some ops[i] := Array.getElem?_eq_getElem hi
      have hlt := (bmOk_get hb ho).1
      have : i ∈ Region.ready .any ops listed := by
        rw [mem_ready]
        refine ⟨?_, ops[i], ho, ?_⟩
        · have : listed.getD i false = false := (Bool.not_eq_true _).mp hl
          rw [Array.getD_eq_getD_getElem?] at this ⊢
          rw [Array.getElem?_eq_getElem (by omega)] at this ⊢
          exact this
        · intro e he hbi
          have hd : e.on ∈ depsOf ops[i] := by
            simp only [depsOf, List.mem_filterMap]
            exact ⟨e, by simpa using he, by rw [if_pos hbi]⟩
          have := hlt _ hd
          exact ih _ this (by omega)
      rw [h] at this
      cases this

theorem any_sound (ok : Ok cx Y) (wf : Wf cx) (hb : bmOk ops bm = true) {Q : Exit → Act → World → Prop}
    (hn : ∀ a' w', a'.defers = [] → a'.tmps.size = cx.nt → Same w0 w' → K (envOf cx.nm a') w'.heap → Q .normal a' w') :
    ∀ (fuel : Nat) {listed : Array Bool} {a : Act} {w : World} {L : List Nat} {st : DS} {T : List Value} {fl : FT}, unlisted ops.size listed ≤ fuel →
      Pre cx Y ops bm K w0 listed a w L st T fl → wpAny cx.P .any ops Q fuel listed a w := by
  intro fuel
  induction fuel with
  | zero =>
    intro listed a w L st T fl hf P
    have hall := all_of_unlisted (Nat.le_zero.1 hf)
    refine ⟨?_, hn a w P.defers P.size P.same (fin_all P hall)⟩
    apply List.eq_nil_iff_forall_not_mem.2
    intro i hi
    obtain ⟨h0, o, ho, _⟩ := mem_ready.1 hi
    have hlt := (Array.getElem?_eq_some_iff.1 ho).1
    have := hall i hlt
    unfold Lst at this
    rw [Array.getD_eq_getD_getElem?, Array.getElem?_eq_getElem (by rw [P.lsize]; exact hlt)] at this h0
    simp only [Option.getD_some] at this h0
    rw [this] at h0
    cases h0
  | succ fuel ih =>
    intro listed a w L st T fl hf P
    refine ⟨fun hr => hn a w P.defers P.size P.same (fin_all P (all_of_stuck hb P.lsize hr)), ?_⟩
    intro i hi
    obtain ⟨h0, o, ho, hdeps⟩ := mem_ready.1 hi
    have hd := deps_listed hdeps
    have hlt := (Array.getElem?_eq_some_iff.1 ho).1
    have hul : ¬ Lst listed i := by
      intro hl
      unfold Lst at hl
      rw [Array.getD_eq_getD_getElem?, Array.getElem?_eq_getElem (by rw [P.lsize]; exact hlt)] at hl h0
      simp only [Option.getD_some] at hl h0
      rw [hl] at h0
      cases h0
    have hcount := unlisted_set hlt P.lsize hul
    obtain ⟨L', st', T', fl', P', he⟩ := adv ok L.length (Nat.le_refl _) P
    rcases P'.cover i hlt with h | h | ⟨f, hf', rfl⟩
    · exact absurd h hul
    · exact eff_step ok wf hb P' h he ho hd fun a' w' st'' T'' fl'' P'' => ih (by omega) P''
    · exact float_step ok P' hf' hul ho hd fun a' P'' => ih (by omega) P''

theorem drawOk (ok : Ok cx Y) (wf : Wf cx) : DrawOk cx Y (compD cx) := by
  intro ops fl hc id Q K a w hdef hsize hw hn
  simp only [compD] at hc
  split at hc
  case isFalse => cases hc
  rename_i hb
  refine wp_region_any ok.mixed ?_
  have hfalse : ∀ i, ¬ Lst (Array.replicate ops.size false) i := by
    intro i h
    unfold Lst at h
    rw [Array.getD_eq_getD_getElem?, Array.getElem?_replicate] at h
    split at h <;> simp at h
  have P : Pre cx Y ops (bmMake ops) K w (Array.replicate ops.size false) a { w with drawn := w.drawn + 1 } (List.range ops.size) ⟨[], 0, [], []⟩ [] fl := by
    refine ⟨hdef, hsize, ⟨rfl, rfl, rfl⟩, ⟨_, hc⟩, hw, rfl, ?_, ?_, ?_, ?_, ?_, ?_, ?_, ?_, ?_, ?_, ?_, ?_, List.nodup_range, ?_, ?_, by simp⟩
    all_goals first
      | (intro p hp; cases hp; done)
      | skip
    · intro s t i h; cases h
    · intro s i h; cases h
    · exact fun i hi => ⟨hfalse i, List.mem_range.1 hi⟩
    · exact fun i hi => .inr (.inl (List.mem_range.2 hi))
    · exact fun i o _ h => absurd h (hfalse i)
  refine any_sound ok wf hb (w0 := w) hn ops.size ?_ P
  unfold unlisted
  exact Nat.le_trans List.countP_le_length (by simp)

/-- THE ENGINE: a function whose text compiles to S does what S says. -/
theorem comp_sound (ok : Ok cx Y) {f : FuncId} {fn : Func} {S : FnS} (hf : cx.P.funcs[f]? = some fn) (h : compF cx (compD cx) fn = some S)
    (args : List Value) (hp : Heap) (R : Value → Heap → Prop) (hl : args.length = S.np) (hw : S.wp Y args hp R) : sysC cx.P f args hp R := by
  have wf : Wf cx := by
    unfold compF at h
    split at h
    case isFalse => cases h
    rename_i hcond
    obtain ⟨_, hall, hnd, _⟩ := hcond
    refine ⟨?_, fun s hs => by simpa using List.all_eq_true.1 hall s hs⟩
    have : ∀ l : List Nat, nodupB l = true → l.Nodup := by
      intro l
      induction l with
      | nil => intro _; exact List.nodup_nil
      | cons x l ih =>
        intro h
        simp only [nodupB, Bool.and_eq_true, Bool.not_eq_true', List.contains_eq_mem, decide_eq_false_iff_not] at h
        exact List.nodup_cons.2 ⟨h.1, ih h.2⟩
    exact this _ hnd
  exact compF_sound ok (drawOk ok wf) hf h args hp R hl hw
end
end Go.Rm
