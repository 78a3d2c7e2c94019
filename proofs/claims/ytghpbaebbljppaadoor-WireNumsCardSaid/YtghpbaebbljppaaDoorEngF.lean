/- The engine, part F: operations that change the heap. -/
import Derived.Test.YtghpbaebbljppaaDoorEngE
set_option linter.unusedSimpArgs false
set_option linter.unusedVariables false
namespace Go.Rm
section ops
variable {cx : Cx} {Y : Sys} {w : World}

/-- what an effect leaves: a value or nothing, and a world that parts from the old one in the heap and the draws alone -/
def Leaves (cx : Cx) (s : Sem Next) (w : World) (K : Value → Heap → Prop) : Prop :=
  ∃ r v w', s.run cx.P w = .ok r w' ∧ (r = .value v ∨ (r = .skip ∧ v = undef)) ∧ Same w w' ∧ K v w'.heap

theorem leaves_v {s : Sem Value} {v : Value} {w' : World} {K : Value → Heap → Prop} (h : s.run cx.P w = .ok v w') (hs : Same w w') (hk : K v w'.heap) :
    Leaves cx (s >>= fun x => (pure (Next.value x) : Sem Next)) w K :=
  ⟨.value v, v, w', by simp [h], .inl rfl, hs, hk⟩

theorem leaves_u {s : Sem Unit} {w' : World} {K : Value → Heap → Prop} (h : s.run cx.P w = .ok () w') (hs : Same w w') (hk : K undef w'.heap) :
    Leaves cx (s >>= fun _ => (pure Next.skip : Sem Next)) w K :=
  ⟨.skip, undef, w', by simp [h], .inr ⟨rfl, rfl⟩, hs, hk⟩

theorem hst_run : ∀ (vs : List Value) (i : Nat) (w : World) (b o : Nat) (h' : Heap), hst w.heap b (o + i) vs = some h' →
    ∃ w', (storeCells ⟨b, o, none⟩ vs i).run cx.P w = .ok () w' ∧ Same w w' ∧ w'.heap = h' := by
  intro vs
  induction vs with
  | nil => intro i w b o h' hs; simp only [hst, Option.some.injEq] at hs; exact ⟨w, rfl, Same.refl w, hs⟩
  | cons v r ih =>
    intro i w b o h' hs
    simp only [hst] at hs
    split at hs
    · rename_i hc
      simp only [Bool.and_eq_true, Bool.not_eq_true'] at hc
      obtain ⟨⟨hc, hf⟩, h1⟩ := hc
      obtain ⟨u, hu⟩ := Option.isSome_iff_exists.1 hc
      have hst' : (store ((⟨b, o, none⟩ : Addr).add i) v).run cx.P w = .ok () (w.setCell ⟨b, o + i, none⟩ v) := by
        rw [Addr.add_lit, run_store cx.P w _ v _ h1, cell_hc, hu, frozen_hfz, hf]
        rfl
      have hh := setCell_hset w b (o + i) v
      obtain ⟨w', h1, h2, h3⟩ := ih (i + 1) (w.setCell ⟨b, o + i, none⟩ v) b o h' (by rw [hh]; exact hs)
      refine ⟨w', ?_, Same.trans (b := w.setCell ⟨b, o + i, none⟩ v) ⟨rfl, rfl, rfl⟩ h2, h3⟩
      simp only [storeCells, Sem.run_bind, hst', Result.andThen_ok, h1]
    · cases hs

theorem store_shape {h : Heap} {K : Value → Heap → Prop} {sz : Nat} {p q : Value} (hs : Ef.wp h K (.store sz) [p, q]) :
    ∃ b o h', p = .pointer (some ⟨b, o, none⟩) ∧ q.cells.size = sz ∧ hst h b o q.cells.toList = some h' ∧ K undef h' := by
  cases p with
  | pointer a =>
    cases a with
    | none => exact hs.elim
    | some a =>
      obtain ⟨b, o, s⟩ := a
      cases s with
      | some s => exact hs.elim
      | none =>
        obtain ⟨h1, h2⟩ := hs
        cases hh : hst h b o q.cells.toList with
        | none => rw [hh] at h2; exact h2.elim
        | some h' => rw [hh] at h2; exact ⟨b, o, h', rfl, h1, hh, h2⟩
  | _ => exact hs.elim

theorem store_run {t : TypeId} {n : Nat} {p q : Value} {K : Value → Heap → Prop} (h1 : szOf cx t = some n) (hs : Ef.wp w.heap K (.store n) [p, q]) :
    ∃ w', (Instr.storeAt t p q).run cx.P w = .ok () w' ∧ Same w w' ∧ K undef w'.heap := by
  obtain ⟨b, o, h', rfl, hsz, hh, hk⟩ := store_shape hs
  obtain ⟨w', h2, h3, h4⟩ := hst_run (cx := cx) q.cells.toList 0 w b o h' (by simpa using hh)
  refine ⟨w', ?_, h3, by rw [h4]; exact hk⟩
  simp only [Instr.storeAt, Instr.sureAddr, Sem.run_bind, Sem.run_pure, Result.andThen_ok, storeVar, szOf_run h1, hsz]
  simp [h2]

theorem new_run {t : TypeId} {p : Value} {K : Value → Heap → Prop} (hs : Ef.wp w.heap K .new [p]) :
    ∃ v w', (do pure (.pointer (some (← newVar t p))) : Sem Value).run cx.P w = .ok v w' ∧ Same w w' ∧ K v w'.heap :=
  ⟨_, { w with heap := w.heap.push (.cells p.cells t) }, by simp [newVar, newRow], ⟨rfl, rfl, rfl⟩, hs t⟩

theorem bslice_run {t e : TypeId} {len sz : Nat} {z : Value} {ps : Array (Nat × Operand)} {ρ : Operand → Value} {K : Value → Heap → Prop} (h1 : cx.P.underlying t = some (.slice e)) (h2 : szOf cx e = some sz) (h3 : zeroOf cx e = some z)
    (h4 : len * sz ≤ 16777216) (hs : Ef.wp w.heap K (.bslice len sz (if len * sz = 0 then #[] else z.cells) (ps.toList.map (·.1))) ((ps.toList.map (·.2)).map ρ)) :
    ∃ v w', (Instr.buildSlice t len (ps.map fun (i, x) => (i, ρ x))).run cx.P w = .ok v w' ∧ Same w w' ∧ K v w'.heap := by
  simp only [Ef.wp] at hs
  have h4' : ¬ (16777216 < len * sz) := by omega
  split at hs
  · rename_i cs hcs
    refine ⟨_, { w with heap := w.heap.push (.cells cs e) }, ?_, ⟨rfl, rfl, rfl⟩, hs e⟩
    have hp := zip_parts ρ ps
    simp only [zeros] at hcs
    by_cases hz : len * sz = 0
    · simp only [hz, if_true, List.map_map] at hcs
      simp only [Array.toList_map, List.map_map] at hp
      simp at hcs
      simp [Instr.buildSlice, run_underlying h1, szOf_run h2, hz, hp, hcs, newRow]
    · simp only [hz, if_false, List.map_map] at hcs
      simp only [Array.toList_map, List.map_map] at hp
      simp [Instr.buildSlice, run_underlying h1, szOf_run h2, h4', hz, zeroOf_run h3, hp, hcs, newRow]
  · exact hs.elim

theorem mk_shape {h : Heap} {K : Value → Heap → Prop} {sz bytes : Nat} {zero : Array Value} {p q : Value} (hs : Ef.wp h K (.mkslice sz bytes zero) [p, q]) :
    ∃ j l k c, p = .int j l ∧ q = .int k c ∧ (0 ≤ l ∧ l ≤ c ∧ c ≤ 9223372036854775807 ∧ (bytes : Int) * c ≤ 281474976710656 ∧
      ∀ t : TypeId, K (.slice (some ⟨h.size, 0, none⟩) l.toNat c.toNat) (h.push (.cells (zeros zero (c.toNat * sz)) t))) := by
  cases p with
  | int j l =>
    cases q with
    | int k c => exact ⟨j, l, k, c, rfl, rfl, hs⟩
    | _ => exact hs.elim
  | _ => exact hs.elim

theorem mkslice_run {t e : TypeId} {sz : Nat} {z : Value} {i : TypeInfo} {p q : Value} {K : Value → Heap → Prop} (h1 : cx.P.underlying t = some (.slice e)) (h2 : szOf cx e = some sz) (h3 : zeroOf cx e = some z)
    (h4 : cx.P.info? e = some i) (hs : Ef.wp w.heap K (.mkslice sz i.bytes z.cells) [p, q]) :
    ∃ v w', (Instr.makeSlice t p q).run cx.P w = .ok v w' ∧ Same w w' ∧ K v w'.heap := by
  obtain ⟨j, l, k, c, rfl, rfl, h0, hlc, hc, hb, hk⟩ := mk_shape hs
  have hwl : IntKind.i64.wrap l = l := by rw [IntKind.wrap_i64]; omega
  have hwc : IntKind.i64.wrap c = c := by rw [IntKind.wrap_i64]; omega
  refine ⟨_, { w with heap := w.heap.push (.cells (zeros z.cells (c.toNat * sz)) e) }, ?_, ⟨rfl, rfl, rfl⟩, hk e⟩
  have hc0 : ¬ (c < 0) := by omega
  have hl0 : ¬ (l < 0) := by omega
  have hlc' : ¬ (c < l) := by omega
  have hb' : ¬ (281474976710656 < (i.bytes : Int) * c) := by omega
  by_cases hz : c.toNat * sz = 0
  · simp [Instr.makeSlice, run_underlying h1, asInt, asIntOf, typeInfo, h4, hwl, hwc, hc0, hl0, hlc', hb', szOf_run h2, hz, newRow, zeros]
    congr 2; apply Array.ext <;> simp
  · simp [Instr.makeSlice, run_underlying h1, asInt, asIntOf, typeInfo, h4, hwl, hwc, hc0, hl0, hlc', hb', szOf_run h2, hz, zeroOf_run h3, newRow, zeros]

theorem s2b_run {sT dT e : TypeId} {p : Value} {K : Value → Heap → Prop} (h1 : cx.P.underlying sT = some .string) (h2 : cx.P.underlying dT = some (.slice e)) (h3 : cx.P.underlying e = some (.int .u8))
    (hs : Ef.wp w.heap K .s2b [p]) : ∃ v w', (convert sT dT p).run cx.P w = .ok v w' ∧ Same w w' ∧ K v w'.heap := by
  cases p with
  | string s =>
    have hs : ∀ (t : TypeId) (nc : Nat), s.size ≤ nc → K (.slice (some ⟨w.heap.size, 0, none⟩) s.size nc)
        (w.heap.push (.cells ((s.data.map fun b => Value.int .u8 b.toNat) ++ Array.replicate (nc - s.size) (.int .u8 0)) t (nc, nc + 1))) := hs
    have hr := run_bytes_of_string (P := cx.P) w sT dT e s h1 h2 h3
    have hge := grownCap_ge w s.size 0 e
    have hsz : (bytesRow s (grownCap w s.size 0 e)).size = grownCap w s.size 0 e := by
      have : s.data.size = s.size := rfl
      simp [bytesRow]; omega
    rw [hsz] at hr
    refine ⟨_, _, hr, ⟨rfl, rfl, rfl⟩, ?_⟩
    exact hs e (grownCap w s.size 0 e) hge
  | _ => exact hs.elim

theorem src_run {sz n : Nat} {x : Value} {l : List Value} (hs : srcOf w.heap sz n x = some l) (w' : World) (hw : w'.heap = w.heap) : (Builtin.firstCells sz n x).run cx.P w' = .ok l.toArray w' := by
  cases x with
  | slice a m c =>
    cases a with
    | none => have hs : some [] = some l := hs; cases hs; rfl
    | some a =>
      obtain ⟨b, o, s⟩ := a
      cases s with
      | none => exact run_loadCells_rd (by rw [hw]; exact hs)
      | some s =>
        have hs : (if n = 0 then some [] else none) = some l := hs
        split at hs
        · rename_i h0
          cases hs
          subst h0
          simp [Builtin.firstCells, loadCells, loadCellsFrom]
        · cases hs
  | string s =>
    have hs : some ((s.extract 0 n).data.toList.map fun b : UInt8 => Value.int .u8 b.toNat) = some l := hs
    cases hs
    simp only [Builtin.firstCells, Sem.run_pure]
    congr 1
    apply Array.ext'
    simp
  | _ => cases hs

theorem lenV_run {x : Value} {m : Nat} (hs : lenV x = some m) : (Builtin.lenOf x).run cx.P w = .ok m w := by
  cases x <;> cases hs <;> rfl

theorem nextcap_le {need c bytes : Nat} (h : ¬ need ≤ c) (hb : need * bytes ≤ 140737488355328) : Builtin.nextslicecap need c * bytes ≤ 281474976710656 := by
  exact growslice_fits (by omega) hb

theorem append_shape {h : Heap} {K : Value → Heap → Prop} {sz bytes : Nat} {zero : Array Value} {p x : Value} (hs : Ef.wp h K (.append sz bytes zero) [p, x]) :
    ∃ a n c m nw, p = .slice a n c ∧ lenV x = some m ∧ srcOf h sz m x = some nw ∧
      (if n + m ≤ c then
        match a with
        | some ⟨b, o, none⟩ =>
          match hst h b (o + n * sz) nw with
          | some h' => K (.slice a (n + m) c) h'
          | none => False
        | none => K (.slice none (n + m) c) h
        | _ => False
      else
        n + m ≤ 9223372036854775807 ∧ (n + m) * bytes ≤ 140737488355328 ∧
        match srcOf h sz n (.slice a n c) with
        | some old => ∀ (t : TypeId) (nc : Nat), n + m ≤ nc → nc ≤ 9223372036854775807 →
            K (.slice (some ⟨h.size, 0, none⟩) (n + m) nc) (h.push (.cells (old.toArray ++ nw.toArray ++ Builtin.zeroCells zero (nc - (n + m))) t))
        | none => False) := by
  cases p with
  | slice a n c =>
    simp only [Ef.wp] at hs
    cases hl : lenV x with
    | none => rw [hl] at hs; exact hs.elim
    | some m =>
      rw [hl] at hs
      simp only at hs
      cases hsrc : srcOf h sz m x with
      | none => rw [hsrc] at hs; exact hs.elim
      | some nw =>
        rw [hsrc] at hs
        exact ⟨a, n, c, m, nw, rfl, rfl, hsrc, hs⟩
  | _ => exact hs.elim

theorem append_run {t u e ty : TypeId} {du : TypeDesc} {sz : Nat} {z : Value} {i : TypeInfo} {p x : Value} {K : Value → Heap → Prop} (h1 : cx.P.underlying t = some (.slice e)) (h5 : cx.P.underlying u = some du)
    (hdu : ∀ k, du ≠ .int k) (h2 : szOf cx e = some sz) (h3 : zeroOf cx e = some z)
    (h4 : cx.P.info? e = some i) (hib : i.bytes ≠ 0) (hs : Ef.wp w.heap K (.append sz i.bytes z.cells) [p, x]) :
    ∃ v w', (Builtin.append_ #[t, u] ty #[p, x]).run cx.P w = .ok v w' ∧ Same w w' ∧ K v w'.heap := by
  obtain ⟨a, n, c, m, nw, rfl, hl, hsrc, hs⟩ := append_shape hs
  have hnew := src_run (cx := cx) hsrc
  by_cases hr : n + m ≤ c
  · rw [if_pos hr] at hs
    cases a with
    | none =>
      refine ⟨.slice none (n + m) c, w, ?_, Same.refl w, hs⟩
      simp [Builtin.append_, run_underlying h1, run_underlying h5, szOf_run h2, lenV_run hl, hr, hnew w rfl]
    | some a =>
      obtain ⟨b, o, s⟩ := a
      cases s with
      | some s => exact hs.elim
      | none =>
        simp only at hs
        cases hh : hst w.heap b (o + n * sz) nw with
        | none => rw [hh] at hs; exact hs.elim
        | some h' =>
          rw [hh] at hs
          obtain ⟨w', g1, g2, g3⟩ := hst_run (cx := cx) nw 0 w b (o + n * sz) h' (by simpa using hh)
          refine ⟨_, w', ?_, g2, by rw [g3]; exact hs⟩
          simp [Builtin.append_, run_underlying h1, run_underlying h5, szOf_run h2, lenV_run hl, hr, hnew w rfl, Addr.add_lit, g1]
  · rw [if_neg hr] at hs
    obtain ⟨h63, hby, hs⟩ := hs
    cases ho : srcOf w.heap sz n (.slice a n c) with
    | none => rw [ho] at hs; exact hs.elim
    | some old =>
      rw [ho] at hs
      have hold := src_run (cx := cx) ho
      have hge := grownCap_ge w (n + m) c e
      have hle := grownCap_le_maxLen w (n + m) c e (by simp only [maxLen]; omega)
      have h63' : ¬ (9223372036854775807 < ((n : Int) + (m : Int))) := by omega
      have h48' : ¬ (281474976710656 < Builtin.nextslicecap (n + m) c * i.bytes) := by have := nextcap_le hr hby; omega
      refine ⟨_, w.drew.alloc (.cells (old.toArray ++ nw.toArray ++ Builtin.zeroCells z.cells (grownCap w (n + m) c e - (n + m))) e), ?_, ⟨rfl, rfl, rfl⟩,
        hs e (grownCap w (n + m) c e) hge (by simp only [maxLen] at hle; omega)⟩
      have ho1 := hold w.drew rfl
      have hn1 := hnew w.drew rfl
      simp [Builtin.append_, run_underlying h1, run_underlying h5, szOf_run h2, lenV_run hl, hr, typeInfo, h4, h63', h48', hib, Question.forced, ho1, hn1, zeroOf_run h3, newRow, grownCap]
      congr 2
      apply Array.ext'
      simp [List.append_assoc]

theorem copy_shape {h : Heap} {K : Value → Heap → Prop} {sz : Nat} {p x : Value} (hs : Ef.wp h K (.copy sz) [p, x]) :
    ∃ a n c m nw, p = .slice a n c ∧ lenV x = some m ∧ srcOf h sz (min m n) x = some nw ∧
      (match a with
        | some ⟨b, o, none⟩ =>
          match hst h b o nw with
          | some h' => K (.int .i64 (min m n : Nat)) h'
          | none => False
        | none => K (.int .i64 (min m n : Nat)) h
        | _ => False) := by
  cases p with
  | slice a n c =>
    simp only [Ef.wp] at hs
    cases hl : lenV x with
    | none => rw [hl] at hs; exact hs.elim
    | some m =>
      rw [hl] at hs
      simp only at hs
      cases hsrc : srcOf h sz (min m n) x with
      | none => rw [hsrc] at hs; exact hs.elim
      | some nw =>
        rw [hsrc] at hs
        exact ⟨a, n, c, m, nw, rfl, rfl, hsrc, hs⟩
  | _ => exact hs.elim

theorem copy_run {t e ty : TypeId} {ts : List TypeId} {sz : Nat} {p x : Value} {K : Value → Heap → Prop} (h1 : cx.P.underlying t = some (.slice e)) (h2 : szOf cx e = some sz)
    (hs : Ef.wp w.heap K (.copy sz) [p, x]) :
    ∃ v w', (Builtin.copy_ (t :: ts).toArray ty #[p, x]).run cx.P w = .ok v w' ∧ Same w w' ∧ K v w'.heap := by
  obtain ⟨a, n, c, m, nw, rfl, hl, hsrc, hs⟩ := copy_shape hs
  have hnew := src_run (cx := cx) hsrc
  cases a with
  | none =>
    refine ⟨_, w, ?_, Same.refl w, hs⟩
    simp [Builtin.copy_, run_underlying h1, szOf_run h2, lenV_run hl, hnew w rfl, goInt]
  | some a =>
    obtain ⟨b, o, s⟩ := a
    cases s with
    | some s => exact hs.elim
    | none =>
      simp only at hs
      cases hh : hst w.heap b o nw with
      | none => rw [hh] at hs; exact hs.elim
      | some h' =>
        rw [hh] at hs
        obtain ⟨w', g1, g2, g3⟩ := hst_run (cx := cx) nw 0 w b o h' (by simpa using hh)
        refine ⟨_, w', ?_, g2, by rw [g3]; exact hs⟩
        simp [Builtin.copy_, run_underlying h1, szOf_run h2, lenV_run hl, hnew w rfl, goInt, g1]

theorem ef_run {o : Oper} {ρ : Operand → Value} {f : Ef} {xs : List Operand} {K : Value → Heap → Prop} (hρ : ∀ v, ρ (.const v) = v)
    (hk : kind cx o.op = some (.ef f, xs)) (hs : f.wp w.heap K (xs.map ρ)) : Leaves cx (execOp ρ o) w K := by
  unfold execOp
  cases ho : o.op <;> simp only [ho, kind] at hk ⊢
  case alloc t =>
    simp only [Option.map_eq_some_iff, Prod.mk.injEq, Kd.ef.injEq] at hk
    obtain ⟨z, hz, rfl, rfl⟩ := hk
    have hs : ∀ t : TypeId, K (.pointer (some ⟨w.heap.size, 0, none⟩)) (w.heap.push (.cells (ρ (.const z)).cells t)) := hs
    refine leaves_v (v := .pointer (some ⟨w.heap.size, 0, none⟩)) (w' := { w with heap := w.heap.push (.cells z.cells t) }) ?_ ⟨rfl, rfl, rfl⟩ ?_
    · simp only [Instr.alloc, Sem.run_bind, zeroOf_run hz, Result.andThen_ok]
      simp [newVar, newRow]
    · have := hs t
      rw [hρ] at this
      exact this
  case box t x =>
    cases hk
    obtain ⟨v, w', h1, h2, h3⟩ := new_run (cx := cx) (t := t) hs
    exact leaves_v h1 h2 h3
  case buildSlice t len ps =>
    split at hk
    · rename_i e h1
      split at hk
      · rename_i sz z h2 h3
        split at hk
        · rename_i h4
          cases hk
          obtain ⟨v, w', g1, g2, g3⟩ := bslice_run h1 h2 h3 h4 hs
          exact leaves_v g1 g2 g3
        · cases hk
      · cases hk
    · cases hk
  case store t a v =>
    simp only [Option.map_eq_some_iff, Prod.mk.injEq, Kd.ef.injEq] at hk
    obtain ⟨n, h1, rfl, rfl⟩ := hk
    obtain ⟨w', g1, g2, g3⟩ := store_run h1 hs
    exact leaves_u g1 g2 g3
  case convert sT dT x =>
    split at hk
    · cases hk
    · split at hk <;> cases hk
    · rename_i e h1 h2
      split at hk
      · rename_i h3
        cases hk
        obtain ⟨v, w', g1, g2, g3⟩ := s2b_run h1 h2 h3 hs
        exact leaves_v g1 g2 g3
      · cases hk
    · cases hk
  case makeSlice t l c =>
    split at hk
    · rename_i e h1
      split at hk
      · rename_i sz z i h2 h3 h4
        cases hk
        obtain ⟨v, w', g1, g2, g3⟩ := mkslice_run h1 h2 h3 h4 hs
        exact leaves_v g1 g2 g3
      · cases hk
    · cases hk
  case call c =>
    obtain ⟨callee, args, argTypes⟩ := c
    simp only at hk
    split at hk
    · simp [Option.map_eq_some_iff] at hk
    · cases hk
    · split at hk
      · split at hk <;> cases hk
      · cases hk
    · split at hk
      · split at hk <;> cases hk
      · cases hk
    · split at hk <;> cases hk
    · split at hk <;> cases hk
    · split at hk
      · rename_i t u x y ht ha
        have ht : argTypes = #[t, u] := by apply Array.ext'; simpa using ht
        have ha : args = #[x, y] := by apply Array.ext'; simpa using ha
        subst ht; subst ha
        split at hk
        · rename_i e du h1 h5
          have fin : ∀ {sz z i}, szOf cx e = some sz → zeroOf cx e = some z → cx.P.info? e = some i → (∀ k, du ≠ .int k) → (if z.cells.size = sz ∧ i.bytes ≠ 0 then some (Kd.ef (Ef.append sz i.bytes z.cells), [x, y]) else none) = some (Kd.ef f, xs) →
              Leaves cx (do let d ← resolve ρ { callee := .builtin .append, args := #[x, y], argTypes := #[t, u] } o.type; invoke d.target d.args) w K := by
            intro sz z i h2 h3 h4 hdu hk
            split at hk
            · rename_i hzb
              cases hk
              obtain ⟨v, w', g1, g2, g3⟩ := append_run (ty := o.type) h1 h5 hdu h2 h3 h4 hzb.2 hs
              refine ⟨.value v, v, w', ?_, .inl rfl, g2, g3⟩
              simp [resolve, invoke, builtin, g1]
            · cases hk
          split at hk
          · rename_i h2 h3 h4
            exact fin h2 h3 h4 (by simp) hk
          · rename_i h2 h3 h4
            exact fin h2 h3 h4 (by simp) hk
          · cases hk
        · cases hk
      · cases hk
    · split at hk
      · rename_i t ts x y ht ha
        have ht : argTypes = (t :: ts).toArray := by apply Array.ext'; simpa using ht
        have ha : args = #[x, y] := by apply Array.ext'; simpa using ha
        subst ht; subst ha
        split at hk
        · rename_i e h1
          simp only [Option.map_eq_some_iff, Prod.mk.injEq, Kd.ef.injEq] at hk
          obtain ⟨sz, h2, rfl, rfl⟩ := hk
          obtain ⟨v, w', g1, g2, g3⟩ := copy_run (ty := o.type) (ts := ts) h1 h2 hs
          refine ⟨.value v, v, w', ?_, .inl rfl, g2, g3⟩
          simp [resolve, invoke, builtin, g1]
        · cases hk
      · cases hk
    · cases hk
  case binOp op t x y yt =>
    simp only [Option.map_eq_some_iff, Prod.mk.injEq] at hk
    obtain ⟨k, hk, rfl, rfl⟩ := hk
    unfold binKind at hk
    split at hk
    · unfold eqKind at hk; split at hk <;> cases hk
    · unfold eqKind at hk; split at hk <;> cases hk
    · split at hk <;> cases hk
  case field t x f =>
    split at hk
    · simp only [Option.bind_eq_some_iff] at hk
      obtain ⟨fd, h2, hk⟩ := hk
      split at hk
      · split at hk
        · simp [Option.map_eq_some_iff] at hk
        · cases hk
      · cases hk
    · cases hk
  all_goals first
    | (cases hk; done)
    | ((repeat' split at hk) <;> simp_all [Option.map_eq_some_iff, Option.bind_eq_some_iff])
end ops
end Go.Rm
