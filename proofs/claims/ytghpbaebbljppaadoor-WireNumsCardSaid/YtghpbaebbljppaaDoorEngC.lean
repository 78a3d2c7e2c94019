/- The engine, part C: what the language means is monotone; groups mean what the flat list means. -/
import Derived.Test.YtghpbaebbljppaaDoorEngB
set_option linter.unusedSimpArgs false
set_option linter.unusedVariables false
namespace Go.Rm
variable {Y : Sys}

theorem Ef.wp_mono {h : Heap} {K K' : Value → Heap → Prop} {f : Ef} {xs : List Value} (hw : f.wp h K xs) (hk : ∀ v h', K v h' → K' v h') : f.wp h K' xs := by
  unfold Ef.wp at *
  split at hw
  · refine ⟨hw.1, ?_⟩
    have := hw.2
    split at this
    · exact hk _ _ this
    · exact this.elim
  · exact fun t => hk _ _ (hw t)
  · split at hw
    · exact fun t => hk _ _ (hw t)
    · exact hw.elim
  · exact ⟨hw.1, hw.2.1, hw.2.2.1, hw.2.2.2.1, fun t => hk _ _ (hw.2.2.2.2 t)⟩
  · split at hw
    · exact hw.elim
    · split at hw
      · exact hw.elim
      · split at hw
        · rename_i hr
          rw [if_pos hr]
          split at hw
          · split at hw
            · exact hk _ _ hw
            · exact hw.elim
          · exact hk _ _ hw
          · exact hw.elim
        · rename_i hr
          rw [if_neg hr]
          refine ⟨hw.1, hw.2.1, ?_⟩
          have := hw.2.2
          split at this
          · exact fun t nc h1 h2 => hk _ _ (this t nc h1 h2)
          · exact this.elim
  · split at hw
    · exact hw.elim
    · split at hw
      · exact hw.elim
      · split at hw
        · split at hw
          · exact hk _ _ hw
          · exact hw.elim
        · exact hk _ _ hw
        · exact hw.elim
  · exact fun t nc h1 => hk _ _ (hw t nc h1)
  · exact hw.elim

theorem need_mono {o : Option Value} {k k' : Value → Prop} (hn : need o k) (hk : ∀ v, k v → k' v) : need o k' := by
  cases o with
  | none => exact hn
  | some v => exact hk v hn

theorem Instr.wp_mono {i : Instr} {K K' : Kont} {e T : List Value} {h : Heap} (hw : i.wp Y K e T h)
    (hk : ∀ v h', K (i.dst.e v e) (i.dst.T v T) h' → K' (i.dst.e v e) (i.dst.T v T) h') : i.wp Y K' e T h := by
  cases i with
  | op o xs d => exact need_mono hw fun v hv => hk v h hv
  | ef f xs d => exact Ef.wp_mono (f := f) (xs := xs.map (Arg.ev Y e T)) (K := fun v h' => K (d.e v e) (d.T v T) h') hw fun v h' hv => hk v h' hv
  | call f xs d => exact Y.mono hw fun v h' hv => hk v h' hv
  | callv x xs d =>
    simp only [Instr.wp] at hw ⊢
    split at hw
    · exact ⟨hw.1, Y.mono hw.2 fun v h' hv => hk v h' hv⟩
    · exact hw.elim
  | stab o xs v => exact ⟨hw.1, hk undef h hw.2⟩

theorem FI.wp_mono {x : FI} {K K' : Kont} {e T : List Value} {h : Heap} (hw : x.wp Y K e T h)
    (hk : ∀ e T h, K e T h → K' e T h) : x.wp Y K' e T h := by
  unfold FI.wp at *
  split
  · rename_i hg
    simp only [hg] at hw
    exact Instr.wp_mono hw fun v h' hv => hk _ _ _ hv
  · rename_i g w hg
    simp only [hg] at hw
    split
    · rename_i hb; rw [if_pos hb] at hw; exact Instr.wp_mono hw fun v h' hv => hk _ _ _ hv
    · rename_i hb; rw [if_neg hb] at hw; exact hk _ _ _ hw

theorem IL.wp_mono {l : IL} : ∀ {K K' : Kont} {e T : List Value} {h : Heap}, l.wp Y K e T h → (∀ e T h, K e T h → K' e T h) → l.wp Y K' e T h := by
  induction l with
  | nil => intro K K' e T h hw hk; exact hk _ _ _ hw
  | op i k ih => intro K K' e T h hw hk; exact Instr.wp_mono hw fun v h' hv => ih hv hk
  | gd g w body ds k ihb ih =>
    intro K K' e T h hw hk
    simp only [IL.wp] at hw ⊢
    split at hw
    · rename_i hb; rw [if_pos hb]; exact ihb hw fun e T h hv => ih hv hk
    · rename_i hb; rw [if_neg hb]; exact ih hw hk
  | alt a b iha ihb => intro K K' e T h hw hk; exact ⟨iha hw.1 hk, ihb hw.2 hk⟩

theorem FL.wp_append {l r : List FI} : ∀ {K : Kont} {e T : List Value} {h : Heap}, FL.wp Y K (l ++ r) e T h = FL.wp Y (FL.wp Y K r) l e T h := by
  induction l with
  | nil => intros; rfl
  | cons x l ih =>
    intro K e T h
    simp only [List.cons_append, FL.wp]
    rw [show FL.wp Y K (l ++ r) = FL.wp Y (FL.wp Y K r) l from funext fun e => funext fun T => funext fun h => ih]

theorem gdB_push {g : Arg} {w : Bool} {e T : List Value} {v : Value} {d : Dst} (hk : d.keeps g = true) (hb : gdB (g.ev Y e T) w = true) :
    gdB (g.ev Y (d.e v e) (d.T v T)) w = true := by
  cases g with
  | n i =>
    simp only [Arg.ev] at hb ⊢
    cases d with
    | set j =>
      simp only [Dst.keeps, bne_iff_ne, ne_eq] at hk
      simp only [Dst.e]
      rw [List.getD_eq_getElem?_getD, List.getElem?_set_ne (fun h => hk h.symm), ← List.getD_eq_getElem?_getD]
      exact hb
    | drop => exact hb
    | push => exact hb
  | t i =>
    simp only [Arg.ev] at hb ⊢
    cases d with
    | push =>
      simp only [Dst.T]
      have hi : i < T.length := by
        rcases Nat.lt_or_ge i T.length with h | h
        · exact h
        · rw [List.getD_eq_getElem?_getD, List.getElem?_eq_none h] at hb
          simp [gdB, undef] at hb
      rw [List.getD_eq_getElem?_getD, List.getElem?_append_left hi, ← List.getD_eq_getElem?_getD]
      exact hb
    | drop => exact hb
    | set j => exact hb
  | c v => exact hb
  | f j => exact hb
  | g j => exact hb

theorem gdB_undef {g : Arg} {w : Bool} {e T : List Value} {d : Dst} (hk : d.keeps g = true) (hb : gdB (g.ev Y e T) w = false) :
    gdB (g.ev Y (d.e undef e) (d.T undef T)) w = false := by
  cases g with
  | n i =>
    simp only [Arg.ev] at hb ⊢
    cases d with
    | set j =>
      simp only [Dst.keeps, bne_iff_ne, ne_eq] at hk
      simp only [Dst.e]
      rw [List.getD_eq_getElem?_getD, List.getElem?_set_ne (fun h => hk h.symm), ← List.getD_eq_getElem?_getD]
      exact hb
    | drop => exact hb
    | push => exact hb
  | t i =>
    simp only [Arg.ev] at hb ⊢
    cases d with
    | push =>
      simp only [Dst.T]
      rcases Nat.lt_trichotomy i T.length with h | h | h
      · rw [List.getD_eq_getElem?_getD, List.getElem?_append_left h, ← List.getD_eq_getElem?_getD]; exact hb
      · subst h; simp [gdB, undef]
      · rw [List.getD_eq_getElem?_getD, List.getElem?_eq_none (by simp; omega)]; simp [gdB, undef]
    | drop => exact hb
    | set j => exact hb
  | c v => exact hb
  | f j => exact hb
  | g j => exact hb

theorem Arg.same_eq {a b : Arg} (h : a.same b = true) : a = b := by
  cases a <;> cases b <;> simp_all [Arg.same]

theorem consFI_sound {x : FI} {k : IL} {K : Kont} {e T : List Value} {h : Heap} (hw : (consFI x k).wp Y K e T h) : x.wp Y (k.wp Y K) e T h := by
  obtain ⟨g, i⟩ := x
  cases g with
  | none => exact hw
  | some gw =>
    obtain ⟨g, w⟩ := gw
    have plain : ∀ k : IL, (IL.gd g w (.op i .nil) [i.dst] k).wp Y K e T h → FI.wp Y ⟨some (g, w), i⟩ (k.wp Y K) e T h := by
      intro k hw
      simp only [IL.wp, undE, undT] at hw
      simp only [FI.wp]
      exact hw
    cases k with
    | nil => exact plain _ hw
    | op j k => exact plain _ hw
    | alt a b => exact plain _ hw
    | gd g' w' body ds k' =>
      simp only [consFI] at hw
      split at hw
      · rename_i hc
        simp only [Bool.and_eq_true, beq_iff_eq] at hc
        obtain ⟨⟨hg, hww⟩, hkeep⟩ := hc
        have := Arg.same_eq hg
        subst this; subst hww
        simp only [IL.wp, undE, undT] at hw
        simp only [FI.wp]
        split at hw
        · rename_i hb
          rw [if_pos hb]
          refine Instr.wp_mono hw fun v h' hv => ?_
          simp only [IL.wp]
          rw [if_pos (gdB_push hkeep hb)]
          exact hv
        · rename_i hb
          rw [if_neg hb]
          simp only [IL.wp]
          rw [if_neg (by rw [gdB_undef hkeep (by simpa using hb)]; simp)]
          exact hw
      · exact plain _ hw

theorem grp_sound {l : List FI} : ∀ {K : Kont} {e T : List Value} {h : Heap}, (grp l).wp Y K e T h → FL.wp Y K l e T h := by
  induction l with
  | nil => intro K e T h hw; exact hw
  | cons x r ih =>
    intro K e T h hw
    exact FI.wp_mono (consFI_sound hw) fun e T h hv => ih hv

theorem grpT_sound {t : FT} : ∀ {K : Kont} {e T : List Value} {h : Heap}, (grpT t).wp Y K e T h → FT.wp Y K t e T h := by
  induction t with
  | nil => intro K e T h hw; exact hw
  | cons x r ih =>
    intro K e T h hw
    exact FI.wp_mono (consFI_sound hw) fun e T h hv => ih hv
  | alt a b iha ihb => intro K e T h hw; exact ⟨iha hw.1, ihb hw.2⟩

theorem resP_mono {res : List Res} {R R' : Value → Heap → Prop} {e : List Value} {h : Heap} (hr : resP res R e h) (hk : ∀ v h, R v h → R' v h) : resP res R' e h := by
  unfold resP at *
  cases hq : resAll e h res with
  | none => simp only [hq] at hr
  | some vs =>
    simp only [hq] at hr ⊢
    match vs, hr with
    | [], hr => exact hk _ _ hr
    | [v], hr => exact hk _ _ hr
    | a :: b :: r, hr => exact hk _ _ hr

theorem Stmt.wp_mono {s : Stmt} : ∀ {kn kn' : List Value → Heap → Prop} {ke ke' : Nat → List Value → Heap → Prop} {kr kr' : List Value → Heap → Prop} {e : List Value} {h : Heap},
    s.wp Y kn ke kr e h → (∀ e h, kn e h → kn' e h) → (∀ i e h, ke i e h → ke' i e h) → (∀ e h, kr e h → kr' e h) → s.wp Y kn' ke' kr' e h := by
  induction s with
  | skip => intro kn kn' ke ke' kr kr' e h hw h1 h2 h3; exact h1 _ _ hw
  | seq a b iha ihb => intro kn kn' ke ke' kr kr' e h hw h1 h2 h3; exact iha hw (fun e h hv => ihb hv h1 h2 h3) h2 h3
  | reg l => intro kn kn' ke ke' kr kr' e h hw h1 h2 h3; exact IL.wp_mono hw fun e T h hv => h1 _ _ hv
  | cond x a b iha ihb =>
    intro kn kn' ke ke' kr kr' e h hw h1 h2 h3
    simp only [Stmt.wp] at hw ⊢
    split at hw
    · split at hw
      · rename_i hc; rw [if_pos hc]; exact iha hw h1 h2 h3
      · rename_i hc; rw [if_neg hc]; exact ihb hw h1 h2 h3
    · exact hw.elim
  | block id s ih =>
    intro kn kn' ke ke' kr kr' e h hw h1 h2 h3
    refine ih hw h1 (fun i e h hv => ?_) h3
    split at hv
    · rename_i hi; simp only [hi, if_true]; exact h1 _ _ hv
    · rename_i hi; simp only [hi, if_false]; exact h2 _ _ _ hv
  | loop s ih =>
    intro kn kn' ke ke' kr kr' e h hw h1 h2 h3
    obtain ⟨I, μ, hI, hs⟩ := hw
    exact ⟨I, μ, hI, fun e h hi => ih (hs e h hi) (fun _ _ hv => hv) h2 h3⟩
  | exit id => intro kn kn' ke ke' kr kr' e h hw h1 h2 h3; exact h2 _ _ _ hw
  | ret => intro kn kn' ke ke' kr kr' e h hw h1 h2 h3; exact h3 _ _ hw

end Go.Rm
