/- The engine, part K: what floats is looked at as soon as it may be. -/
import Derived.Test.YtghpbaebbljppaaDoorEngJ
set_option linter.unusedSimpArgs false
set_option linter.unusedVariables false
namespace Go.Rm
section
variable {cx : Cx} {Y : Sys} {ops : Array Oper} {bm : Array Nat} {K : List Value → Heap → Prop} {w0 : World} {listed : Array Bool} {a : Act} {w : World}

theorem floatDst_some {k : Kd} {dst : Option Tmp} {io : IOp} {s : Nat} (h : floatDst cx k dst = some (io, s)) : k = .io io ∧ dst = some s ∧ s < cx.nt ∧ s ∉ cx.nm := by
  unfold floatDst at h
  split at h
  · split at h
    · rename_i hc
      cases h
      exact ⟨rfl, rfl, hc.1, List.idxOf?_eq_none_iff.1 hc.2⟩
    · cases h
  · cases h

theorem lookup_cons_ne {s t i : Nat} {W : List (Nat × Nat)} (h : t ≠ s) : ((s, i) :: W).lookup t = W.lookup t := by
  simp only [List.lookup_cons]
  have : (t == s) = false := by simpa using h
  rw [this]

theorem lookup_cons_self {s i : Nat} {W : List (Nat × Nat)} : ((s, i) :: W).lookup s = some i := by simp

/-- a floating operation at the head: its value is looked at; nothing is done -/
theorem adv_core {i : Nat} {L : List Nat} {st : DS} {T : List Value} {fl : FT} (P : Pre cx Y ops bm K w0 listed a w L st T fl) (hiL : i ∈ L)
    {o : Oper} {g : Option (Arg × Bool)} {io : IOp} {xs : List Operand} {as : List Arg} {s : Nat} {x : Arg} {d' : Nat} {T' : List Value} {fl' : FT} {gf : Option (Arg × Bool)} (ok : Ok cx Y)
    (ho : ops[i]? = some o) (hg : guardOf cx ops st.m o.guard = some g) (hk : kind cx o.op = some (.io io, xs)) (has : xs.mapM (rsv cx st.m) = some as)
    (hwr : writersIn st.W (depsOf o) (usesOf st.m (guardSlot ops o.guard ++ xs)) = true) (hd : o.dst = some s) (hs : s < cx.nt) (hout : s ∉ cx.nm) (hfresh : (st.W.lookup s).isSome = false) (hgf : gf = g)
    (hcomp : ∃ n, compDT cx ops bm n (L.erase i) ⟨(s, x) :: st.m, d', (s, i) :: st.W, ⟨i, gf, io, as, x, usesOf st.m (guardSlot ops o.guard ++ xs)⟩ :: st.F⟩ = some fl')
    (hw : FT.wp Y (fun e _ h => K e h) fl' (envOf cx.nm a) T' w.heap) (hlen : T'.length = d') (hx : x.lt d')
    (hT : (T' = T ∧ d' = st.d) ∨ (∃ v, T' = T ++ [v] ∧ d' = st.d + 1))
    (hv : VF Y ⟨i, gf, io, as, x, usesOf st.m (guardSlot ops o.guard ++ xs)⟩ (envOf cx.nm a) T' w.heap) :
    Pre cx Y ops bm K w0 listed a w (L.erase i) ⟨(s, x) :: st.m, d', (s, i) :: st.W, ⟨i, gf, io, as, x, usesOf st.m (guardSlot ops o.guard ++ xs)⟩ :: st.F⟩ T' fl' := by
  subst hgf
  have hnone : st.W.lookup s = none := by
    cases h : st.W.lookup s with
    | none => rfl
    | some j => rw [h] at hfresh; cases hfresh
  have hWne : ∀ t j, st.W.lookup t = some j → t ≠ s := by
    intro t j h e; subst e; rw [hnone] at h; cases h
  have hev : ∀ y : Arg, y.lt st.d → y.ev Y (envOf cx.nm a) T' = y.ev Y (envOf cx.nm a) T := by
    intro y hy
    rcases hT with ⟨rfl, _⟩ | ⟨v, rfl, _⟩
    · rfl
    · exact ev_push (by rw [P.len]; exact hy)
  have hup : ∀ y : Arg, y.lt st.d → y.lt d' := by
    intro y hy
    rcases hT with ⟨_, rfl⟩ | ⟨v, _, rfl⟩
    · exact hy
    · exact Arg.lt_succ hy
  have hgup : ∀ g : Option (Arg × Bool), gLt st.d g → gLt d' g := by
    intro g hg
    cases g with
    | none => trivial
    | some xw => exact hup _ hg
  have hun : ¬ Lst listed i := (P.unl i hiL).1
  have hnd : i ∉ L.erase i ∧ (L.erase i).Nodup := ⟨P.nd.not_mem_erase, P.nd.erase i⟩
  have hsub : ∀ j, j ∈ L.erase i → j ∈ L := fun j hj => List.mem_of_mem_erase hj
  -- what a slot of the elder map holds still
  have hold : ∀ p : Nat × Arg, p.2.lt st.d → (∃ j, st.W.lookup p.1 = some j) → Hold Y listed st.W a (envOf cx.nm a) T p → Hold Y listed ((s, i) :: st.W) a (envOf cx.nm a) T' p := by
    intro p hp ⟨j, hj⟩ h q hq hl
    rw [lookup_cons_ne (hWne _ _ hj)] at hq
    rw [hev _ hp]
    exact h q hq hl
  have husesm : ∀ u ∈ usesOf st.m (guardSlot ops o.guard ++ xs), u ∈ st.m := fun u hu => usesOf_mem hu
  have hwruses : ∀ u ∈ usesOf st.m (guardSlot ops o.guard ++ xs), ∃ j, st.W.lookup u.1 = some j ∧ j ∈ depsOf o := by
    intro u hu
    have := List.all_eq_true.1 hwr u hu
    cases h : st.W.lookup u.1 with
    | none => rw [h] at this; cases this
    | some j => rw [h] at this; exact ⟨j, rfl, by simpa using this⟩
  refine ⟨P.defers, P.size, P.same, hcomp, hw, hlen, ?_, ?_, ?_, ?_, ?_, ?_, ?_, ?_, ?_, ?_, ?_, ?_, hnd.2, ?_, P.closed, P.lsize⟩
  · -- ltm
    intro p hp
    rcases List.mem_cons.1 hp with rfl | hp
    · exact hx
    · exact hup _ (P.ltm p hp)
  · -- ltF
    intro f hf
    rcases List.mem_cons.1 hf with rfl | hf
    · exact ⟨hx, fun y hy => hup _ (rsv_lt_all P.ltm has y hy), fun u hu => hup _ (P.ltm u (husesm u hu)), hgup _ (guard_lt P.ltm hg)⟩
    · obtain ⟨h1, h2, h3, h4⟩ := P.ltF f hf
      exact ⟨hup _ h1, fun y hy => hup _ (h2 y hy), fun u hu => hup _ (h3 u hu), hgup _ h4⟩
  · -- wm
    intro p hp
    rcases List.mem_cons.1 hp with rfl | hp
    · exact ⟨i, lookup_cons_self⟩
    · obtain ⟨j, hj⟩ := P.wm p hp
      exact ⟨j, by rw [lookup_cons_ne (hWne _ _ hj)]; exact hj⟩
  · -- holdm
    intro p hp
    rcases List.mem_cons.1 hp with rfl | hp
    · intro q hq hl
      rw [lookup_cons_self] at hq
      cases hq
      exact absurd hl hun
    · exact hold p (P.ltm p hp) (P.wm p hp) (P.holdm p hp)
  · -- holdF
    intro f hf hl
    rcases List.mem_cons.1 hf with rfl | hf
    · intro u hu
      exact hold u (P.ltm u (husesm u hu)) (P.wm u (husesm u hu)) (P.holdm u (husesm u hu))
    · intro u hu
      obtain ⟨o', xs', s', lk⟩ := P.link f hf
      obtain ⟨j, hj, _⟩ := lk.uses u hu
      exact hold u ((P.ltF f hf).2.2.1 u hu) ⟨j, hj⟩ (P.holdF f hf hl u hu)
  · -- cons
    intro f hf
    have hWi : ∀ t, st.W.lookup t ≠ some i := fun t h => P.wL t i h hiL
    rcases List.mem_cons.1 hf with rfl | hf
    · refine ⟨?_, ?_⟩
      · intro p hp hq
        rcases List.mem_cons.1 hp with rfl | hp
        · rfl
        · obtain ⟨j, hj⟩ := P.wm p hp
          rw [lookup_cons_ne (hWne _ _ hj)] at hq
          exact absurd hq (hWi _)
      · intro f' hf' u hu hq
        have hex : ∃ j, st.W.lookup u.1 = some j := by
          rcases List.mem_cons.1 hf' with rfl | hf'
          · obtain ⟨j, hj, _⟩ := hwruses u hu; exact ⟨j, hj⟩
          · obtain ⟨o', xs', s', lk⟩ := P.link f' hf'
            obtain ⟨j, hj, _⟩ := lk.uses u hu
            exact ⟨j, hj⟩
        obtain ⟨j, hj⟩ := hex
        rw [lookup_cons_ne (hWne _ _ hj)] at hq
        exact absurd hq (hWi _)
    · obtain ⟨c1, c2⟩ := P.cons f hf
      have hfi : f.i ≠ i := fun e => P.fL f hf (by rw [e]; exact hiL)
      refine ⟨?_, ?_⟩
      · intro p hp hq
        rcases List.mem_cons.1 hp with rfl | hp
        · rw [lookup_cons_self] at hq; cases hq; exact absurd rfl hfi
        · obtain ⟨j, hj⟩ := P.wm p hp
          rw [lookup_cons_ne (hWne _ _ hj)] at hq
          exact c1 p hp hq
      · intro f' hf' u hu hq
        rcases List.mem_cons.1 hf' with rfl | hf'
        · obtain ⟨j, hj, _⟩ := hwruses u hu
          rw [lookup_cons_ne (hWne _ _ hj)] at hq
          exact c1 u (husesm u hu) hq
        · obtain ⟨o', xs', s', lk⟩ := P.link f' hf'
          obtain ⟨j, hj, _⟩ := lk.uses u hu
          rw [lookup_cons_ne (hWne _ _ hj)] at hq
          exact c2 f' hf' u hu hq
  · -- vF
    intro f hf hl
    rcases List.mem_cons.1 hf with rfl | hf
    · exact hv
    · obtain ⟨h1, h2, h3, h4⟩ := P.ltF f hf
      obtain ⟨v1, v2⟩ := P.vF f hf hl
      have hgs : gOk Y (envOf cx.nm a) T' f.g = gOk Y (envOf cx.nm a) T f.g := by
        cases hgg : f.g with
        | none => rfl
        | some xw =>
          obtain ⟨y, b⟩ := xw
          rw [hgg] at h4
          simp only [gOk]
          rw [hev y h4]
      have has' : f.as.map (Arg.ev Y (envOf cx.nm a) T') = f.as.map (Arg.ev Y (envOf cx.nm a) T) := List.map_congr_left fun y hy => hev y (h2 y hy)
      exact ⟨fun hb => by rw [has', hev _ h1]; exact v1 (by rw [← hgs]; exact hb), fun hb => by rw [hev _ h1]; exact v2 (by rw [← hgs]; exact hb)⟩
  · -- link
    intro f hf
    rcases List.mem_cons.1 hf with rfl | hf
    · refine ⟨o, xs, s, ho, hk, hd, hs, hout, lookup_cons_self, ?_, ?_⟩
      · intro u hu
        obtain ⟨j, hj, hjd⟩ := hwruses u hu
        exact ⟨j, by rw [lookup_cons_ne (hWne _ _ hj)]; exact hj, hjd⟩
      · intro a' T'' hu
        exact ⟨rsv_uses_all ok has fun u hu' => hu u (usesOf_append (.inr hu')), guard_uses ok hg fun u hu' => hu u (usesOf_append (.inl hu'))⟩
    · obtain ⟨o', xs', s', lk⟩ := P.link f hf
      refine ⟨o', xs', s', lk.op, lk.knd, lk.dst, lk.lt, lk.out, by rw [lookup_cons_ne (hWne _ _ lk.wr)]; exact lk.wr, ?_, lk.ev⟩
      intro u hu
      obtain ⟨j, hj, hjd⟩ := lk.uses u hu
      exact ⟨j, by rw [lookup_cons_ne (hWne _ _ hj)]; exact hj, hjd⟩
  · -- winj
    intro t u j ht hu
    by_cases h1 : t = s
    · subst h1
      rw [lookup_cons_self] at ht
      cases ht
      by_cases h2 : u = t
      · exact h2.symm
      · rw [lookup_cons_ne h2] at hu
        exact absurd hiL (P.wL u i hu)
    · rw [lookup_cons_ne h1] at ht
      by_cases h2 : u = s
      · subst h2
        rw [lookup_cons_self] at hu
        cases hu
        exact absurd hiL (P.wL t i ht)
      · rw [lookup_cons_ne h2] at hu
        exact P.winj t u j ht hu
  · -- wL
    intro t j h
    by_cases ht : t = s
    · subst ht; rw [lookup_cons_self] at h; cases h; exact hnd.1
    · rw [lookup_cons_ne ht] at h
      exact fun hj => P.wL t j h (hsub _ hj)
  · -- fL
    intro f hf
    rcases List.mem_cons.1 hf with rfl | hf
    · exact hnd.1
    · exact fun hj => P.fL f hf (hsub _ hj)
  · -- unl
    exact fun j hj => P.unl j (hsub _ hj)
  · -- cover
    intro j hj
    rcases P.cover j hj with h | h | ⟨f, hf, h⟩
    · exact .inl h
    · by_cases hji : j = i
      · subst hji
        exact .inr (.inr ⟨_, List.mem_cons_self, rfl⟩)
      · exact .inr (.inl ((List.mem_erase_of_ne hji).2 h))
    · exact .inr (.inr ⟨f, List.mem_cons_of_mem _ hf, h⟩)

theorem adv_step {i : Nat} {L : List Nat} {st : DS} {T : List Value} {fl : FT} {n : Nat} (ok : Ok cx Y) (P : Pre cx Y ops bm K w0 listed a w L st T fl) (hiL : i ∈ L)
    (hc : compOne cx ops bm (compDT cx ops bm n) L st i = some fl)
    {o : Oper} {k : Kd} {xs : List Operand} {ios : IOp × Nat} (ho : ops[i]? = some o) (hk : kind cx o.op = some (k, xs)) (hf : floatDst cx k o.dst = some ios) :
    ∃ st' T' fl', Pre cx Y ops bm K w0 listed a w (L.erase i) st' T' fl' := by
  obtain ⟨io, s⟩ := ios
  obtain ⟨rfl, hd, hs, hout⟩ := floatDst_some hf
  simp only [compOne, ho, hk] at hc
  split at hc
  case h_2 => cases hc
  rename_i g k' xs' hg hkk
  cases hkk
  split at hc
  · cases hc
  rename_i as has
  split at hc
  case isFalse => cases hc
  rename_i hwr
  simp only [hf] at hc
  split at hc
  · cases hc
  rename_i hfresh
  have hfresh : (st.W.lookup s).isSome = false := (Bool.not_eq_true _).mp hfresh
  split at hc
  · rename_i s' x hal
    have hal' := hal
    unfold aliasOf at hal
    split at hal
    case h_2 => cases hal
    rename_i y s'' hgn hmv hds
    split at hal
    case isFalse => cases hal
    cases hal
    cases io with
    | mv =>
      match as, hmv, has with
      | [z], hmv, has =>
        cases hmv
        rw [hgn] at hg
        cases hg
        have hxlt : x.lt st.d := rsv_lt_all P.ltm has x (by simp)
        exact ⟨_, T, fl, adv_core P hiL (gf := none) (g := none) ok ho (by rw [hgn]; rfl) hk has hwr hd hs hout hfresh rfl ⟨n, hc⟩ P.wp P.len hxlt (.inl ⟨rfl, rfl⟩) ⟨fun _ => rfl, fun h => by cases h⟩⟩
    | _ => simp [isMv] at hmv
  · simp only [Option.map_eq_some_iff] at hc
    obtain ⟨fl', hc, hfl⟩ := hc
    have hw := P.wp
    rw [← hfl] at hw
    have hw : FI.wp Y ⟨g, .op io as .push⟩ (FT.wp Y (fun e _ h => K e h) fl') (envOf cx.nm a) T w.heap := hw
    have hlast : ∀ v : Value, Arg.ev Y (envOf cx.nm a) (T ++ [v]) (.t st.d) = v := by
      intro v
      simp only [Arg.ev, ← P.len]
      simp
    have hasT : ∀ v : Value, as.map (Arg.ev Y (envOf cx.nm a) (T ++ [v])) = as.map (Arg.ev Y (envOf cx.nm a) T) := fun v =>
      List.map_congr_left fun y hy => ev_push (by rw [P.len]; exact rsv_lt_all P.ltm has y hy)
    have hgT : ∀ v : Value, gOk Y (envOf cx.nm a) (T ++ [v]) g = gOk Y (envOf cx.nm a) T g := by
      intro v
      have := guard_lt P.ltm hg
      cases g with
      | none => rfl
      | some xw =>
        obtain ⟨y, b⟩ := xw
        simp only [gOk]
        rw [ev_push (by rw [P.len]; exact this)]
    have go : ∀ v : Value, FT.wp Y (fun e _ h => K e h) fl' (envOf cx.nm a) (T ++ [v]) w.heap →
        (gOk Y (envOf cx.nm a) T g = true → io.sem Y w.heap (as.map (Arg.ev Y (envOf cx.nm a) T)) = some v) → (gOk Y (envOf cx.nm a) T g = false → v = undef) →
        ∃ st' T' fl', Pre cx Y ops bm K w0 listed a w (L.erase i) st' T' fl' := by
      intro v hw h1 h2
      refine ⟨_, T ++ [v], fl', adv_core P hiL (gf := g) ok ho hg hk has hwr hd hs hout hfresh rfl ⟨n, hc⟩ hw (by simp [P.len]) (Nat.lt_succ_self _) (.inr ⟨v, rfl, rfl⟩) ⟨?_, ?_⟩⟩
      · intro hb
        show io.sem Y w.heap (as.map (Arg.ev Y (envOf cx.nm a) (T ++ [v]))) = some (Arg.ev Y (envOf cx.nm a) (T ++ [v]) (.t st.d))
        rw [hlast, hasT]
        exact h1 (by rw [← hgT v]; exact hb)
      · intro hb
        show Arg.ev Y (envOf cx.nm a) (T ++ [v]) (.t st.d) = undef
        rw [hlast]
        exact h2 (by rw [← hgT v]; exact hb)
    cases g with
    | none =>
      obtain ⟨v, hv, hw⟩ := need_some (k := fun v => FT.wp Y (fun e _ h => K e h) fl' (envOf cx.nm a) (T ++ [v]) w.heap) hw
      exact go v hw (fun _ => hv) (fun h => by cases h)
    | some xw =>
      obtain ⟨y, b⟩ := xw
      simp only [FI.wp] at hw
      split at hw
      · rename_i hb
        obtain ⟨v, hv, hw⟩ := need_some (k := fun v => FT.wp Y (fun e _ h => K e h) fl' (envOf cx.nm a) (T ++ [v]) w.heap) hw
        exact go v hw (fun _ => hv) (fun h => by simp only [gOk] at h; rw [hb] at h; cases h)
      · rename_i hb
        exact go undef hw (fun h => absurd h hb) (fun _ => rfl)

theorem isFloat_get {o : Oper} (h : isFloat cx o = true) : ∃ k xs ios, kind cx o.op = some (k, xs) ∧ floatDst cx k o.dst = some ios := by
  unfold isFloat at h
  split at h
  · rename_i k xs hk
    obtain ⟨ios, hi⟩ := Option.isSome_iff_exists.1 h
    exact ⟨k, xs, ios, hk, hi⟩
  · cases h

theorem adv (ok : Ok cx Y) : ∀ (n : Nat) {L : List Nat} {st : DS} {T : List Value} {fl : FT}, L.length ≤ n → Pre cx Y ops bm K w0 listed a w L st T fl →
    ∃ L' st' T' fl', Pre cx Y ops bm K w0 listed a w L' st' T' fl' ∧ floatNext cx ops L' = none := by
  intro n
  induction n with
  | zero =>
    intro L st T fl hl P
    have : L = [] := List.eq_nil_of_length_eq_zero (Nat.le_zero.1 hl)
    subst this
    exact ⟨_, _, _, _, P, rfl⟩
  | succ n ih =>
    intro L st T fl hl P
    cases hfn : floatNext cx ops L with
    | none => exact ⟨_, _, _, _, P, hfn⟩
    | some i =>
      have hfn' := hfn
      unfold floatNext at hfn'
      have hiL := List.mem_of_find?_eq_some hfn'
      have hp := List.find?_some hfn'
      simp only [Bool.and_eq_true] at hp
      cases ho : ops[i]? with
      | none => rw [ho] at hp; simp at hp
      | some o =>
        rw [ho] at hp
        obtain ⟨k, xs, ios, hk, hf⟩ := isFloat_get hp.1
        obtain ⟨q, hc⟩ := P.comp
        have hne : L.isEmpty = false := by cases L with | nil => cases hiL | cons x r => rfl
        cases q with
        | zero => simp [compDT, hne] at hc
        | succ q =>
          simp only [compDT, hne, hfn, Bool.false_eq_true, if_false] at hc
          obtain ⟨st', T', fl', P'⟩ := adv_step ok P hiL hc ho hk hf
          refine ih ?_ P'
          rw [List.length_erase_of_mem hiL]
          have : 0 < L.length := List.length_pos_of_mem hiL
          omega
end
end Go.Rm
