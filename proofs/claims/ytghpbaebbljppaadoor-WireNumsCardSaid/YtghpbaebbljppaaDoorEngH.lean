/- The engine, part H: whole functions. -/
import Derived.Test.YtghpbaebbljppaaDoorEngG
set_option linter.unusedSimpArgs false
set_option linter.unusedVariables false
namespace Go.Rm

/-- what a compiler of regions that draw must give -/
def DrawOk (cx : Cx) (Y : Sys) (compD : Array Oper → Option FT) : Prop :=
  ∀ (ops : Array Oper) (fl : FT), compD ops = some fl → ∀ (id : Nat) (Q : Exit → Act → World → Prop) (K : List Value → Heap → Prop) (a : Act) (w : World),
    a.defers = [] → a.tmps.size = cx.nt → FT.wp Y (fun e _ h => K e h) fl (envOf cx.nm a) [] w.heap →
    (∀ a' w', a'.defers = [] → a'.tmps.size = cx.nt → Same w w' → K (envOf cx.nm a') w'.heap → Q .normal a' w') → (Code.region id ops true).wp cx.P Q a w

section
variable {cx : Cx} {Y : Sys}

structure Good (cx : Cx) (w0 : World) (a : Act) (w : World) : Prop where
  defers : a.defers = []
  size : a.tmps.size = cx.nt
  same : Same w0 w

def PostQ (cx : Cx) (w0 : World) (kn : List Value → Heap → Prop) (ke : Nat → List Value → Heap → Prop) (kr : List Value → Heap → Prop) : Exit → Act → World → Prop
  | .normal, a, w => Good cx w0 a w ∧ kn (envOf cx.nm a) w.heap
  | .exit i, a, w => Good cx w0 a w ∧ ke i (envOf cx.nm a) w.heap
  | .ret, a, w => Good cx w0 a w ∧ kr (envOf cx.nm a) w.heap
  | _, _, _ => False

theorem st_nil {a : Act} (h1 : a.defers = []) (h2 : a.tmps.size = cx.nt) : St cx Y [] 0 a [] :=
  ⟨h1, h2, rfl, fun p hp => by simp at hp, fun p hp => by simp at hp⟩

theorem compC_sound (ok : Ok cx Y) (wf : Wf cx) {compD : Array Oper → Option FT} (hD : DrawOk cx Y compD) (w0 : World) : ∀ {c : Code} {s : Stmt}, compC cx compD c = some s →
    ∀ {kn : List Value → Heap → Prop} {ke : Nat → List Value → Heap → Prop} {kr : List Value → Heap → Prop} {a : Act} {w : World}, Good cx w0 a w → s.wp Y kn ke kr (envOf cx.nm a) w.heap →
    c.wp cx.P (PostQ cx w0 kn ke kr) a w := by
  intro c
  induction c with
  | skip => intro s h kn ke kr a w g hw; cases h; exact wp_skip ⟨g, hw⟩
  | seq x y ihx ihy =>
    intro s h kn ke kr a w g hw
    simp only [compC, Option.bind_eq_some_iff, Option.map_eq_some_iff] at h
    obtain ⟨sx, hx, sy, hy, rfl⟩ := h
    refine wp_seq (wp_mono (ihx hx g hw) ?_)
    intro e a' w' hq
    cases e with
    | normal => exact ihy hy hq.1 hq.2
    | exit i => exact hq
    | ret => exact hq
    | goto l => exact hq.elim
    | panic c => exact hq.elim
    | outgrown => exact hq.elim
  | region id ops draw =>
    intro s h kn ke kr a w g hw
    simp only [compC] at h
    split at h
    · rename_i hd
      simp only [Option.map_eq_some_iff] at h
      obtain ⟨fl, hl, rfl⟩ := h
      subst hd
      exact hD ops fl hl id _ kn a w g.defers g.size (grpT_sound hw) fun a' w' h1 h2 h3 h4 => ⟨⟨h1, h2, Same.trans g.same h3⟩, h4⟩
    · rename_i hd
      simp only [Option.map_eq_some_iff] at h
      obtain ⟨fl, hl, rfl⟩ := h
      have hd : draw = false := by simpa using hd
      subst hd
      exact wp_region (compL_sound ok wf hl (st_nil g.defers g.size) (grp_sound hw) fun a' w' h1 h2 h3 h4 => ⟨⟨h1, h2, Same.trans g.same h3⟩, h4⟩)
  | cond c x y ihx ihy =>
    intro s h kn ke kr a w g hw
    simp only [compC, Option.bind_eq_some_iff, Option.map_eq_some_iff] at h
    obtain ⟨xc, hc, sx, hx, sy, hy, rfl⟩ := h
    have hev := rsv_eval ok (st_nil g.defers g.size) hc
    simp only [Stmt.wp] at hw
    split at hw
    · rename_i b hb
      rw [hb] at hev
      refine wp_cond hev.symm ?_
      cases b with
      | true => exact ihx hx g hw
      | false => exact ihy hy g (by simpa using hw)
    · exact hw.elim
  | block id c ih =>
    intro s h kn ke kr a w g hw
    simp only [compC, Option.map_eq_some_iff] at h
    obtain ⟨sc, hc, rfl⟩ := h
    refine wp_block (wp_mono (ih hc g hw) ?_)
    intro e a' w' hq
    cases e with
    | normal => exact hq
    | exit i =>
      obtain ⟨hg, hq⟩ := hq
      simp only [Exit.inBlock]
      split at hq
      · rename_i hi; rw [if_pos hi]; exact ⟨hg, hq⟩
      · rename_i hi; rw [if_neg hi]; exact ⟨hg, hq⟩
    | ret => exact hq
    | goto l => exact hq.elim
    | panic c => exact hq.elim
    | outgrown => exact hq.elim
  | loop c ih =>
    intro s h kn ke kr a w g hw
    simp only [compC, Option.map_eq_some_iff] at h
    obtain ⟨sc, hc, rfl⟩ := h
    obtain ⟨I, μ, hI, hs⟩ := hw
    refine wp_loop (fun a w => Good cx w0 a w ∧ I (envOf cx.nm a) w.heap) (fun a w => μ (envOf cx.nm a) w.heap) ⟨g, hI⟩ ?_
    intro a w hi
    refine wp_mono (ih hc hi.1 (hs _ _ hi.2)) ?_
    intro e a' w' hq
    cases e with
    | normal => exact ⟨⟨hq.1, hq.2.1⟩, hq.2.2⟩
    | exit i => exact hq
    | ret => exact hq
    | goto l => exact hq.elim
    | panic c => exact hq.elim
    | outgrown => exact hq.elim
  | exit id => intro s h kn ke kr a w g hw; cases h; exact wp_exit ⟨g, hw⟩
  | ret => intro s h kn ke kr a w g hw; cases h; exact wp_ret ⟨g, hw⟩
  | rangeFunc f ps x y ihx ihy => intro s h; cases h
  | scope c ih => intro s h; cases h
  | label l => intro s h; cases h
  | goto l => intro s h; cases h
  | refuse y => intro s h; cases h

def rowV (tmps : Array Value) : ResultVar → Sem Value
  | .tmp t => pure (tmps.getD t undef)
  | .cell b t => do loadVar t (← asAddr (tmps.getD b undef))

def packV : List Value → Value
  | [v] => v
  | vs => .tuple vs.toArray

theorem res_run (Y : Sys) {r : ResultVar} {x : Res} {a : Act} {w : World} {v : Value} (h : compRes cx r = some x) (hv : x.ev (envOf cx.nm a) w.heap = some v) :
    (rowV a.tmps r).run cx.P w = .ok v w := by
  cases r with
  | tmp t =>
    simp only [compRes, Option.map_eq_some_iff] at h
    obtain ⟨i, hi, rfl⟩ := h
    simp only [Res.ev, envOf_getD hi, Option.some.injEq] at hv
    simp only [rowV, Sem.run_pure, hv]
  | cell b t =>
    simp only [compRes] at h
    have main : ∀ (d : TypeDesc) (i n : Nat), cx.P.underlying t = some d → cx.nm.idxOf? b = some i → (isAggD d = true → szOf cx t = some n) → Res.ev (envOf cx.nm a) w.heap (.box i n (isAggD d)) = some v →
        (do loadVar t (← asAddr (a.tmps.getD b undef)) : Sem Value).run cx.P w = .ok v w := by
      intro d i n hd hi hn hv
      simp only [Res.ev, envOf_getD hi] at hv
      split at hv
      · rename_i b' o' hp
        rw [hp]
        simp only [asAddr, Sem.run_bind, Sem.run_pure, Result.andThen_ok]
        refine loadVar_run (Y := Y) hd hn ?_
        cases ha : isAggD d with
        | true => rw [ha] at hv; exact hv
        | false => rw [ha] at hv; exact hv
      · cases hv
    split at h
    · rename_i d i hd hi
      split at h
      · rename_i ha
        simp only [Option.map_eq_some_iff] at h
        obtain ⟨n, hn, rfl⟩ := h
        exact main d i n hd hi (fun _ => hn) (by rw [ha]; exact hv)
      · rename_i ha
        have ha : isAggD d = false := by simpa using ha
        cases h
        exact main d i 1 hd hi (fun h => by rw [ha] at h; cases h) (by rw [ha]; exact hv)
    · cases h

theorem resAll_run (Y : Sys) {a : Act} {w : World} : ∀ {rs : List ResultVar} {xs : List Res} {vs : List Value}, mapO (compRes cx) rs = some xs → resAll (envOf cx.nm a) w.heap xs = some vs →
    (rs.mapM (m := Sem) (rowV a.tmps)).run cx.P w = .ok vs w := by
  intro rs
  induction rs with
  | nil => intro xs vs h hv; cases h; cases hv; rfl
  | cons r rs ih =>
    intro xs vs h hv
    simp only [mapO, Option.bind_eq_some_iff, Option.map_eq_some_iff] at h
    obtain ⟨x, hx, ys, hys, rfl⟩ := h
    simp only [resAll, Option.bind_eq_some_iff] at hv
    obtain ⟨v, hv1, vs', hv2, he⟩ := hv
    cases he
    rw [List.mapM_cons]
    simp only [Sem.run_bind, res_run Y hx hv1, Result.andThen_ok, ih hys hv2, Sem.run_pure]

theorem results_run (Y : Sys) {fn : Func} {a : Act} {w : World} {xs : List Res} {vs : List Value} (h : mapO (compRes cx) fn.results.toList = some xs) (hv : resAll (envOf cx.nm a) w.heap xs = some vs) :
    (results fn a.tmps).run cx.P w = .ok (packV vs) w := by
  have hm : (fn.results.mapM (m := Sem) (rowV a.tmps)).run cx.P w = .ok vs.toArray w := by
    rw [← Array.toArray_toList (xs := fn.results), List.mapM_toArray, Sem.run_map, resAll_run Y h hv]
    rfl
  have he : results fn a.tmps = (do let vs ← fn.results.mapM (m := Sem) (rowV a.tmps); pure (if h : vs.size = 1 then vs[0] else .tuple vs)) := by
    unfold results
    congr 1
  rw [he]
  simp only [Sem.run_bind, hm, Result.andThen_ok, Sem.run_pure]
  congr 1
  match vs, hv, hm with
  | [], _, _ => rfl
  | [v], _, _ => rfl
  | v :: u :: r, _, _ => simp [packV]

theorem compF_sound (ok : Ok cx Y) {compD : Array Oper → Option FT} (hD : DrawOk cx Y compD) {f : FuncId} {fn : Func} {S : FnS} (hf : cx.P.funcs[f]? = some fn) (h : compF cx compD fn = some S)
    (args : List Value) (hp : Heap) (R : Value → Heap → Prop) (hl : args.length = S.np) (hw : S.wp Y args hp R) : sysC cx.P f args hp R := by
  unfold compF at h
  split at h
  case isFalse => cases h
  rename_i hcond
  obtain ⟨hnt, hall, hnd, htake, hlen⟩ := hcond
  split at h
  case h_1 => cases h
  rename_i c hb
  simp only [Option.bind_eq_some_iff, Option.map_eq_some_iff] at h
  obtain ⟨s, hs, rs, hrs, rfl⟩ := h
  have hnodup : cx.nm.Nodup := by
    have : ∀ l : List Nat, nodupB l = true → l.Nodup := by
      intro l
      induction l with
      | nil => intro _; exact List.nodup_nil
      | cons x l ih =>
        intro h
        simp only [nodupB, Bool.and_eq_true, Bool.not_eq_true', List.contains_eq_mem, decide_eq_false_iff_not] at h
        exact List.nodup_cons.2 ⟨h.1, ih h.2⟩
    exact this _ hnd
  have wf : Wf cx := ⟨hnodup, fun s hs => by simpa using List.all_eq_true.1 hall s hs⟩
  intro w hwh
  subst hwh
  refine calls_of_wp hf hb ?_
  have hnp : args.length = fn.params.size + fn.nfree := hl
  generalize hnpd : fn.params.size + fn.nfree = np at *
  have hle : args.length ≤ cx.nt := by
    rcases Nat.eq_zero_or_pos np with h0 | h0
    · omega
    · have hmem : np - 1 ∈ cx.nm := by
        have : np - 1 ∈ cx.nm.take np := by rw [htake]; simp; omega
        exact List.mem_of_mem_take this
      have := wf.lt _ hmem
      omega
  have hsize : (args.toArray ++ Array.replicate (fn.ntmps - args.toArray.size) undef).size = cx.nt := by
    simp only [Array.size_append, Array.size_replicate, List.size_toArray]; omega
  have henv : envOf cx.nm { tmps := args.toArray ++ Array.replicate (fn.ntmps - args.toArray.size) undef, defers := [] } = args ++ List.replicate (cx.nm.length - np) undef := by
    have hget : ∀ s, (args.toArray ++ Array.replicate (fn.ntmps - args.toArray.size) undef).getD s undef = args.getD s undef := by
      intro s
      rw [Array.getD_eq_getD_getElem?, List.getD_eq_getElem?_getD]
      by_cases hs : s < args.length
      · rw [Array.getElem?_append_left (by simpa using hs)]; simp
      · rw [Array.getElem?_append_right (by simpa using hs), List.getElem?_eq_none (by omega)]
        simp [Array.getElem?_replicate]
        split <;> rfl
    apply List.ext_getElem?
    intro i
    simp only [envOf, List.getElem?_map, hget]
    by_cases hi : i < np
    · have hnm : cx.nm[i]? = some i := by
        have : (cx.nm.take np)[i]? = some i := by rw [htake]; simp [hi]
        rw [List.getElem?_take] at this
        simpa [hi] using this
      rw [hnm, List.getElem?_append_left (by omega)]
      simp [List.getD_eq_getElem?_getD, List.getElem?_eq_getElem (show i < args.length by omega)]
    · rw [List.getElem?_append_right (by omega)]
      by_cases hi2 : i < cx.nm.length
      · rw [List.getElem?_eq_getElem hi2]
        have hout : np ≤ cx.nm[i] := by
          rcases Nat.lt_or_ge cx.nm[i] np with hlt | hge
          · exfalso
            have hnm : cx.nm[cx.nm[i]]? = some cx.nm[i] := by
              have : (cx.nm.take np)[cx.nm[i]]? = some cx.nm[i] := by rw [htake]; simp [hlt]
              rw [List.getElem?_take] at this
              simpa [hlt] using this
            obtain ⟨hl2, he⟩ := List.getElem?_eq_some_iff.1 hnm
            have := (List.getElem_inj hnodup).1 he
            omega
          · exact hge
        simp only [Option.map_some]
        rw [List.getD_eq_getElem?_getD, List.getElem?_eq_none (by omega), List.getElem?_replicate]
        rw [if_pos (by omega)]
        rfl
      · rw [List.getElem?_eq_none (by omega), List.getElem?_eq_none (by simp; omega)]
        rfl
  have hw' : s.wp Y (resP rs R) (fun _ _ _ => False) (resP rs R) (args ++ List.replicate (cx.nm.length - np) undef) w.heap := hw
  refine wp_mono (compC_sound ok wf hD w hs (a := { tmps := args.toArray ++ Array.replicate (fn.ntmps - args.toArray.size) undef, defers := [] }) ⟨rfl, hsize, Same.refl w⟩ (by rw [henv]; exact hw')) ?_
  have fin : ∀ a' w', Good cx w a' w' → resP rs R (envOf cx.nm a') w'.heap → a'.defers = [] ∧ ∃ v, (results fn a'.tmps).run cx.P w' = .ok v w' ∧ Rr R w (.returned v) w' := by
    intro a' w' g hr
    refine ⟨g.defers, ?_⟩
    unfold resP at hr
    cases hv : resAll (envOf cx.nm a') w'.heap rs with
    | none => rw [hv] at hr; exact hr.elim
    | some vs =>
      have hrun := results_run Y hrs hv
      rw [hv] at hr
      match vs, hr, hrun with
      | [], hr, hrun => exact ⟨_, hrun, _, rfl, hr, g.same⟩
      | [v], hr, hrun => exact ⟨_, hrun, _, rfl, hr, g.same⟩
      | v :: u :: r, hr, hrun => exact ⟨_, hrun, _, rfl, hr, g.same⟩
  intro e a' w' hq
  cases e with
  | normal => exact fin a' w' hq.1 hq.2
  | exit i => exact hq.2.elim
  | ret => exact fin a' w' hq.1 hq.2
  | goto l => exact hq.elim
  | panic c => exact hq.elim
  | outgrown => exact hq.elim
end
end Go.Rm
