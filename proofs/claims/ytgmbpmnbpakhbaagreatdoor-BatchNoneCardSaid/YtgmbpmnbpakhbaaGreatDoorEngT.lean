import Derived.Test.YtgmbpmnbpakhbaaGreatDoorEngP
import Derived.Test.YtgmbpmnbpakhbaaGreatDoorSNums

/- Errors: what errors.Is and errors.As do at our errors, as conditions of a system; the law's Tells. -/
set_option linter.unusedSimpArgs false
set_option linter.unusedVariables false
namespace Go.Rm


/-- an error: its Faults, the outermost first, and the Errno within -/
def ErrAt (Y : Sys) (h : Heap) : List (ByteArray × Int) → Int → Value → Prop
  | [], c, v => v = .iface (Y.tid Ty.api_Errno) (.int .i64 c)
  | (p, a) :: ps, c, v => ∃ b u, v = .iface (Y.tid Ty.api_Fault) (.pointer (some ⟨b, 0, none⟩)) ∧ hc h b 0 = some (.string p) ∧ hc h b 1 = some (.int .i64 a) ∧ hc h b 2 = some u ∧ ErrAt Y h ps c u

theorem ErrAt.ext {Y : Sys} {h h' : Heap} (he : Ext h h') : ∀ {ps : List (ByteArray × Int)} {c : Int} {v : Value}, ErrAt Y h ps c v → ErrAt Y h' ps c v
  | [], _, _, e => e
  | _ :: _, _, _, ⟨b, u, e, h1, h2, h3, h4⟩ => ⟨b, u, e, he.hc h1 (fun h => h), he.hc h2 (fun h => h), he.hc h3 (fun h => h), ErrAt.ext he h4⟩

/-- the parts of a Wrong, as they lie in memory -/
structure PartsAt (h : Heap) (s : Sl) (ps : List (ByteArray × Int)) : Prop where
  ok : s.ok
  len : ps.length = s.n
  p : ∀ i x, ps[i]? = some x → hc h s.b (s.o + i * 2) = some (.string x.1) ∧ hc h s.b (s.o + i * 2 + 1) = some (.int .i64 x.2)

theorem PartsAt.ext {h h' : Heap} {s : Sl} {ps : List (ByteArray × Int)} (p : PartsAt h s ps) (he : Ext h h') : PartsAt h' s ps :=
  ⟨p.ok, p.len, fun i x hx => ⟨he.hc (p.p i x hx).1 (fun h => h), he.hc (p.p i x hx).2 (fun h => h)⟩⟩

/-- a Wrong in memory: none, or its parts and its number -/
def WrongV (h : Heap) (ps : List (ByteArray × Int)) (c : Int) (v : Value) : Prop := ∃ s : Sl, v = .agg #[s.v, .int .i64 c] ∧ PartsAt h s ps
theorem WrongV.ext {h h' : Heap} {ps : List (ByteArray × Int)} {c : Int} {v : Value} (w : WrongV h ps c v) (he : Ext h h') : WrongV h' ps c v := by
  obtain ⟨s, e, p⟩ := w
  exact ⟨s, e, p.ext he⟩

/-- an error or none -/
def ErrV (Y : Sys) (h : Heap) (ps : List (ByteArray × Int)) (c : Int) (v : Value) : Prop := (c = 0 ∧ v = .nilIface) ∨ (c ≠ 0 ∧ ErrAt Y h ps c v)
theorem ErrV.ext {Y : Sys} {h h' : Heap} {ps : List (ByteArray × Int)} {c : Int} {v : Value} (w : ErrV Y h ps c v) (he : Ext h h') : ErrV Y h' ps c v := by
  rcases w with w | ⟨w1, w2⟩
  · exact .inl w
  · exact .inr ⟨w1, w2.ext he⟩

structure ErrSys (Y : Sys) where
  gb : Nat
  hv : Value
  is_hit : ∀ {h : Heap} {ps : List (ByteArray × Int)} {c : Int} {v : Value} {R : Value → Heap → Prop}, ErrAt Y h ps c v → 0 < ps.length → ps.length ≤ 4 → (∀ h', Ext h h' → R (.bool true) h') →
    CallP Y F.errors_Is [v, .iface (Y.tid Ty.api_Errno) (.int .i64 c)] h R
  as_fault : ∀ {h : Heap} {b t : Nat} {old : Value} {R : Value → Heap → Prop}, hc h gb 0 = some hv → hc h t 0 = some old → hfz h t 0 = false →
    (∀ h', Mod (fun j => j = t) h h' → hc h' t 0 = some (.pointer (some ⟨b, 0, none⟩)) → R (.bool true) h') →
    CallP Y F.errors_As [.iface (Y.tid Ty.api_Fault) (.pointer (some ⟨b, 0, none⟩)), .iface (Y.tid Ty.api_Fault_51) (.pointer (some ⟨t, 0, none⟩))] h R
  as_errno : ∀ {h : Heap} {t : Nat} {c : Int} {old : Value} {R : Value → Heap → Prop}, hc h gb 0 = some hv → hc h t 0 = some old → hfz h t 0 = false →
    (∀ h', Mod (fun j => j = t) h h' → hc h' t 0 = some (.int .i64 c) → R (.bool true) h') →
    CallP Y F.errors_As [.iface (Y.tid Ty.api_Errno) (.int .i64 c), .iface (Y.tid Ty.api_Errno_54) (.pointer (some ⟨t, 0, none⟩))] h R
  as_miss : ∀ {h : Heap} {t : Nat} {c : Int} {old : Value} {R : Value → Heap → Prop}, hc h gb 0 = some hv → hc h t 0 = some old →
    (∀ h', Ext h h' → R (.bool false) h') →
    CallP Y F.errors_As [.iface (Y.tid Ty.api_Errno) (.int .i64 c), .iface (Y.tid Ty.api_Fault_51) (.pointer (some ⟨t, 0, none⟩))] h R

section
variable {Y : Sys} {h : Heap}

def TellsI (s : Sl) (psAll : List (ByteArray × Int)) (c : Int) (b : Nat) (Y : Sys) (h0 : Heap) (wv : Value) (e : List Value) (h' : Heap) : Prop :=
  ∃ (i : Nat) (err v5 v6 v7 v8 v9 v10 v11 : Value), e = [err, wv, .pointer (some ⟨b, 0, none⟩), .bool false, .int .i64 i, v5, v6, v7, v8, v9, v10, v11] ∧ i ≤ s.n ∧ ErrAt Y h' (psAll.drop i) c err ∧
    hc h' b 0 = some s.v ∧ hc h' b 1 = some (.int .i64 c) ∧ PartsAt h' s psAll ∧ Ext h0 h'

theorem sbin_neq {a b : ByteArray} : sbin .neq a b = some (.bool !(a.toList == b.toList)) := rfl
theorem sbin_eql {a b : ByteArray} : sbin .eql a b = some (.bool (a.toList == b.toList)) := rfl

theorem tells_spec (HT : Y.Has F.rlaw1_Tells S_rlaw1_Tells) (E : ErrSys Y) {ps : List (ByteArray × Int)} {c : Int} {err wv : Value} (hg : hc h E.gb 0 = some E.hv) (hw : WrongV h ps c wv) (he : ErrV Y h ps c err) (hps : c ≠ 0 → 0 < ps.length) (hbig : ps.length ≤ 4)
    {R : Value → Heap → Prop} (hr : ∀ h', Ext h h' → R (.bool true) h') : CallP Y F.rlaw1_Tells [err, wv] h R := by
  obtain ⟨s, rfl, hp⟩ := hw
  refine .of_has HT rfl ?_
  have hcells : (Value.agg #[s.v, .int .i64 c]).cells = #[s.v, .int .i64 c] := rfl
  simp [S_rlaw1_Tells, FnS.wp, ef_new, hcells, hc_push]
  intro t0
  have e0 : Ext h (h.push (.cells #[s.v, .int .i64 c] t0)) := Mod.push
  have b1 : hc (h.push (.cells #[s.v, .int .i64 c] t0)) h.size 1 = some (.int .i64 c) := by simp [hc_push]
  have b0 : hc (h.push (.cells #[s.v, .int .i64 c] t0)) h.size 0 = some s.v := by simp [hc_push]
  rcases he with ⟨rfl, rfl⟩ | ⟨hc0, he⟩
  · simp [hc_push]
    exact hr _ e0
  · have herr : ∃ t v, err = .iface t v := by
      cases ps with
      | nil => exact ⟨_, _, he⟩
      | cons p ps => obtain ⟨b, u, e, _⟩ := he; exact ⟨_, _, e⟩
    obtain ⟨te, ve, herr⟩ := herr
    have he1 := he.ext e0
    have hp1 := hp.ext e0
    have hg1 := e0.hc hg (fun h => h)
    generalize h.push (.cells #[s.v, .int .i64 c] t0) = h1 at *
    generalize h.size = b at *
    simp [herr, hc0, b1]
    rw [← herr]
    refine E.is_hit he1 (hps hc0) hbig ?_
    intro h2 e2
    simp
    have e02 := e0.trans e2
    refine wp_loop' (TellsI s ps c b Y h (.agg #[s.v, .int .i64 c])) (fun e _ => s.n - argI e 4)
      ⟨0, err, _, _, _, _, _, _, _, rfl, by omega, he1.ext e2, e2.hc b0 (fun h => h), e2.hc b1 (fun h => h), hp1.ext e2, e02⟩ ?_
    clear herr he1 hp1 b0 b1 e0 e2 e02 he hp hg1
    rintro e h3 ⟨i, err, v5, v6, v7, v8, v9, v10, v11, rfl, hi, he3, b0, b1, hp3, e3⟩
    have hg3 := e3.hc hg (fun h => h)
    have hsn := hp3.len
    by_cases hlt : i < s.n
    · have hlt' : (i : Int) < s.n := by omega
      have w1 : IntKind.i64.wrap ((i : Int) + 1) = (i : Int) + 1 := i64_wrap (by omega)
      have hil : i < ps.length := by omega
      rw [List.drop_eq_getElem_cons hil] at he3
      obtain ⟨fb, u, rfl, f0, f1, f2, f3⟩ := he3
      obtain ⟨p0, p1⟩ := hp3.p i ps[i] (by simp [hil])
      simp [b0, hlt', ef_new]
      intro t1
      have e4 : Ext h3 (h3.push (.cells (Value.pointer none).cells t1)) := Mod.push
      refine E.as_fault (old := .pointer none) (e4.hc hg3 (fun h => h)) (by simp [hc_push, Value.cells]) hfz_push ?_
      intro h5 m5 g5
      have e5 : Ext h3 h5 := Mod.ext e4 m5 (fun j hj => by rw [hj]; exact Nat.le_refl _)
      have q0 := e5.hc f0 (fun h => h)
      have q1 := e5.hc f1 (fun h => h)
      have q2 := e5.hc f2 (fun h => h)
      have r0 := e5.hc p0 (fun h => h)
      have r1 := e5.hc p1 (fun h => h)
      have c0 := e5.hc b0 (fun h => h)
      have c1 := e5.hc b1 (fun h => h)
      simp [g5, q0, q1, q2, c0, sem_idxa hp3.ok, hlt', r0, r1, sbin_neq, w1]
      exact ⟨⟨i + 1, u, _, _, _, _, _, _, _, rfl, by omega, f3.ext e5, c0, c1, hp3.ext e5, e3.trans e5⟩, by simp [argI]; omega⟩
    · have hlt' : ¬ (i : Int) < s.n := by omega
      rw [List.drop_eq_nil_of_le (by omega)] at he3
      simp only [ErrAt] at he3
      subst he3
      simp [b0, hlt', ef_new]
      intro t1 t2
      have e4 : Ext h3 (h3.push (.cells (Value.pointer none).cells t1)) := Mod.push
      have e5 : Ext h3 ((h3.push (.cells (Value.pointer none).cells t1)).push (.cells (Value.int .i64 0).cells t2)) := e4.trans Mod.push
      have g6 : hc ((h3.push (.cells (Value.pointer none).cells t1)).push (.cells (Value.int .i64 0).cells t2)) h3.size 0 = some (.pointer none) := by
        have : hc (h3.push (.cells (Value.pointer none).cells t1)) h3.size 0 = some (.pointer none) := by simp [hc_push, Value.cells]
        exact Mod.hc (S := fun _ => False) Mod.push this (fun h => h)
      have g7 : hc ((h3.push (.cells (Value.pointer none).cells t1)).push (.cells (Value.int .i64 0).cells t2)) (h3.size + 1) 0 = some (.int .i64 0) := by
        have := hc_push (h := h3.push (.cells (Value.pointer none).cells t1)) (c := (Value.int .i64 0).cells) (t := t2) (o := 0)
        simpa [Value.cells] using this
      have z7 : hfz ((h3.push (.cells (Value.pointer none).cells t1)).push (.cells (Value.int .i64 0).cells t2)) (h3.size + 1) 0 = false := by
        have := hfz_push (h := h3.push (.cells (Value.pointer none).cells t1)) (c := (Value.int .i64 0).cells) (t := t2) (o := 0)
        simpa using this
      have zs : ((h3.push (.cells (Value.pointer none).cells t1)).push (.cells (Value.int .i64 0).cells t2)).size = h3.size + 2 := by simp
      generalize (h3.push (.cells (Value.pointer none).cells t1)).push (.cells (Value.int .i64 0).cells t2) = h6 at *
      refine E.as_miss (e5.hc hg3 (fun h => h)) g6 ?_
      intro h7 e7
      simp
      have z8 : hfz h7 (h3.size + 1) 0 = false := by
        unfold hfz at z7 ⊢
        rw [e7.get _ (by omega) (fun h => h)]; exact z7
      refine E.as_errno ((e5.trans e7).hc hg3 (fun h => h)) (e7.hc g7 (fun h => h)) z8 ?_
      intro h8 m8 g8
      have e8 : Ext h3 h8 := Mod.ext (e5.trans e7) m8 (fun j hj => by rw [hj]; omega)
      simp [g8, e8.hc b1 (fun h => h)]
      exact hr _ (e3.trans e8)
end

end Go.Rm
