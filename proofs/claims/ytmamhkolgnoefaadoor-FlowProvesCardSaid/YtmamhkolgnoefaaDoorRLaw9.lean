import Derived.Test.YtmamhkolgnoefaaDoorRFlow16
import Derived.Test.YtmamhkolgnoefaaDoorSNums

/- The laws of flows: rows that are copied. -/
set_option linter.unusedSimpArgs false
set_option linter.unusedVariables false
namespace Go.Rm
def pairC (l : List (Int × Int)) : List Value := l.flatMap fun e => [.int .i64 e.1, .int .i64 e.2]
theorem pairC_len {l : List (Int × Int)} : (pairC l).length = l.length * 2 := by
  induction l with
  | nil => rfl
  | cons a r ih => simp only [pairC, List.flatMap_cons, List.length_append, List.length_cons]; simp only [pairC] at ih; rw [ih]; simp; omega
theorem pairC_app {l m : List (Int × Int)} : pairC (l ++ m) = pairC l ++ pairC m := by simp [pairC]
theorem pairC_at {l : List (Int × Int)} : ∀ {i : Nat}, i < l.length → (pairC l)[i * 2]? = some (.int .i64 (nthE l i).1) ∧ (pairC l)[i * 2 + 1]? = some (.int .i64 (nthE l i).2) := by
  induction l with
  | nil => intro i h; simp at h
  | cons a r ih =>
    intro i h
    have e : pairC (a :: r) = .int .i64 a.1 :: .int .i64 a.2 :: pairC r := by simp [pairC]
    rw [e]
    cases i with
    | zero => simp [nthE]
    | succ i =>
      have := ih (i := i) (by simpa using h)
      rw [show (i + 1) * 2 = i * 2 + 1 + 1 by omega]
      simpa [nthE] using this
theorem pairC_one {l : List (Int × Int)} : ∀ v ∈ pairC l, v.oneCell' = true := by
  intro v hv
  simp only [pairC, List.mem_flatMap] at hv
  obtain ⟨a, _, hv⟩ := hv
  simp only [List.mem_cons, List.not_mem_nil, or_false] at hv
  rcases hv with rfl | rfl <;> rfl
theorem boolsM_one {l : List Bool} : ∀ v ∈ boolsM l, v.oneCell' = true := by
  intro v hv
  simp only [boolsM, List.mem_map] at hv
  obtain ⟨a, _, rfl⟩ := hv
  rfl
section
variable {Y : Sys} {h h' : Heap}
theorem Own.rowE {s : Sl} {l : List (Int × Int)} (o : Own h 2 s (pairC l)) : RowE h s l := by
  have hl := o.1
  rw [pairC_len] at hl
  refine ⟨o.ok, by omega, fun i hi => o.cell (pairC_at hi).1, fun i hi => ?_⟩
  rw [Nat.add_assoc]; exact o.cell (pairC_at hi).2
theorem RowE.rdAll {s : Sl} {l : List (Int × Int)} (r : RowE h s l) : Rm.rd h s.b s.o (l.length * 2) = some (pairC l) := by
  have hl := pairC_len (l := l)
  have := rd_of (h := h) (b := s.b) (l := pairC l) (o := s.o) fun j v hj => by
    have hlt : j < l.length * 2 := by
      have := (List.getElem?_eq_some_iff.1 hj).1
      rwa [hl] at this
    have hi : j / 2 < l.length := by omega
    obtain ⟨g0, g1⟩ := pairC_at hi
    have k0 := r.v0 _ hi
    have k1 := r.v1 _ hi
    have hm : j % 2 = 0 ∨ j % 2 = 1 := by omega
    rcases hm with m | m
    · have e : j = j / 2 * 2 := by omega
      rw [← e] at g0 k0
      rw [hj] at g0
      cases g0
      exact k0
    · have e : j = j / 2 * 2 + 1 := by omega
      rw [← e] at g1
      rw [hj] at g1
      cases g1
      rw [show s.o + j = s.o + j / 2 * 2 + 1 by omega]
      exact k1
  rwa [hl] at this
theorem srcOf_any {s : Sl} {sz : Nat} {cells : List Value} (ok : s.ok) (hl : cells.length = s.n * sz) (hr : Rm.rd h s.b s.o (s.n * sz) = some cells) : srcOf h sz s.n s.v = some cells := by
  unfold Sl.v
  cases hnl : s.nl with
  | true =>
    have h0 := (ok.nil hnl).1
    rw [h0] at hl
    have : cells = [] := List.eq_nil_of_length_eq_zero (by simpa using hl)
    subst this
    rfl
  | false =>
    cases hsp : s.sp with
    | none => simp only [Bool.false_eq_true, if_false, srcOf]; exact hr
    | some q =>
      have h0 : s.n = 0 := by
        have := ok.spot.resolve_left (by rw [hsp]; simp)
        have := ok.le; omega
      rw [h0] at hl
      have : cells = [] := List.eq_nil_of_length_eq_zero (by simpa using hl)
      subst this
      simp [srcOf, h0]
theorem srcOf_rowE {s : Sl} {l : List (Int × Int)} (r : RowE h s l) : srcOf h 2 s.n s.v = some (pairC l) :=
  srcOf_any r.ok (by rw [pairC_len, r.len]) (by rw [← r.len]; exact r.rdAll)
theorem srcOf_rowM {s : Sl} {l : List Bool} (r : RowM h s l) : srcOf h 1 s.n s.v = some (boolsM l) :=
  srcOf_any r.ok (by rw [boolsM_len, r.len, Nat.mul_one]) (by
    have := rd_of (h := h) (b := s.b) (l := boolsM l) (o := s.o) fun j v hj => by
      have hlt : j < l.length := by
        have := (List.getElem?_eq_some_iff.1 hj).1
        rwa [boolsM_len] at this
      have := r.val j hlt
      rw [this]
      simp [boolsM, hlt] at hj
      rw [← hj, nthM_at hlt]
    rw [boolsM_len, r.len] at this
    simpa using this)
theorem copies_spec (H : Y.Has F.rlaw9_copies S_rlaw9_copies) {se : Sl} {es : List (Int × Int)} (re : RowE h se es) (be : es.length ≤ 1000000)
    {R : Value → Heap → Prop} (hr : ∀ h' s', Ext h h' → Own h' 2 s' (pairC es) → s'.nl = false → h.size ≤ s'.b → R s'.v h') :
    CallP Y F.rlaw9_copies [se.v] h R := by
  have le := re.len
  refine .of_has H rfl ?_
  simp [S_rlaw9_copies, FnS.wp]
  refine ef_bslice0_box ?_
  intro b h1 g1 o1 e1
  simp
  refine ef_appendE o1 rfl (srcOf_rowE (re.ext e1)) (by rw [pairC_len, le]) pairC_one rfl (by omega) (by omega) ?_
  intro s' h2 o2 n2 e2 nl2 b2
  have z1 := e1.size
  simp
  exact hr h2 s' (e1.trans e2) o2 nl2 (by rcases b2 with b2 | b2 <;> omega)
end
end Go.Rm

/- The laws of flows: To. Printed by mkto.py. -/
set_option linter.unusedSimpArgs false
set_option linter.unusedVariables false
namespace Go.Rm
def toAlt : IL := (.alt (.op (.ef (.bslice 0 1 #[] []) [] .push) (.op (.stab (.load 1 .false) [(.t 6)] (.t 7)) (.op (.stab (.load 1 .false) [(.t 4)] (.t 5)) (.op (.stab (.load 1 .false) [(.t 2)] (.t 3)) (.op (.stab (.load 1 .false) [(.t 0)] (.t 1)) (.alt (.op (.ef (.append 1 8 #[(.int .i64 0)]) [(.t 8), (.t 3)] .push) (.op (.stab (.load 1 .false) [(.t 6)] (.t 7)) (.op (.stab (.load 1 .false) [(.t 4)] (.t 5)) (.op (.stab (.load 1 .false) [(.t 0)] (.t 1)) (.alt (.op (.ef (.bslice 0 1 #[] []) [] .push) (.op (.stab (.load 1 .false) [(.t 6)] (.t 7)) (.op (.stab (.load 1 .false) [(.t 4)] (.t 5)) (.op (.stab (.load 1 .false) [(.t 0)] (.t 1)) (.alt (.op (.ef (.append 1 1 #[(.bool .false)]) [(.t 10), (.t 5)] .push) (.op (.stab (.load 1 .false) [(.t 6)] (.t 7)) (.op (.stab (.load 1 .false) [(.t 0)] (.t 1)) (.op (.ef (.bslice 0 1 #[] []) [] .push) (.op (.stab (.load 1 .false) [(.t 6)] (.t 7)) (.op (.stab (.load 1 .false) [(.t 0)] (.t 1)) (.op (.ef (.append 1 1 #[(.bool .false)]) [(.t 12), (.t 7)] .push) (.op (.stab (.load 1 .false) [(.t 0)] (.t 1)) (.op (.op (.build #[(.int .i64 0), (.slice .none 0 0), (.slice .none 0 0), (.slice .none 0 0)] [(0, 1), (1, 1), (2, 1), (3, 1)] [0, 1, 2, 3]) [(.t 1), (.t 9), (.t 11), (.t 13)] .push) (.op (.ef (.store 4) [(.n 2), (.t 14)] .drop) .nil)))))))))) (.op (.ef (.bslice 0 1 #[] []) [] .push) (.op (.stab (.load 1 .false) [(.t 6)] (.t 7)) (.op (.stab (.load 1 .false) [(.t 4)] (.t 5)) (.op (.stab (.load 1 .false) [(.t 0)] (.t 1)) (.op (.ef (.append 1 1 #[(.bool .false)]) [(.t 10), (.t 5)] .push) (.op (.stab (.load 1 .false) [(.t 6)] (.t 7)) (.op (.stab (.load 1 .false) [(.t 0)] (.t 1)) (.op (.ef (.append 1 1 #[(.bool .false)]) [(.t 11), (.t 7)] .push) (.op (.stab (.load 1 .false) [(.t 0)] (.t 1)) (.op (.op (.build #[(.int .i64 0), (.slice .none 0 0), (.slice .none 0 0), (.slice .none 0 0)] [(0, 1), (1, 1), (2, 1), (3, 1)] [0, 1, 2, 3]) [(.t 1), (.t 9), (.t 12), (.t 13)] .push) (.op (.ef (.store 4) [(.n 2), (.t 14)] .drop) .nil)))))))))))))))) (.op (.ef (.bslice 0 1 #[] []) [] .push) (.op (.stab (.load 1 .false) [(.t 6)] (.t 7)) (.op (.stab (.load 1 .false) [(.t 4)] (.t 5)) (.op (.stab (.load 1 .false) [(.t 0)] (.t 1)) (.op (.ef (.bslice 0 1 #[] []) [] .push) (.op (.stab (.load 1 .false) [(.t 6)] (.t 7)) (.op (.stab (.load 1 .false) [(.t 4)] (.t 5)) (.op (.stab (.load 1 .false) [(.t 0)] (.t 1)) (.op (.ef (.append 1 1 #[(.bool .false)]) [(.t 11), (.t 5)] .push) (.op (.stab (.load 1 .false) [(.t 6)] (.t 7)) (.op (.stab (.load 1 .false) [(.t 0)] (.t 1)) (.op (.ef (.append 1 1 #[(.bool .false)]) [(.t 10), (.t 7)] .push) (.op (.stab (.load 1 .false) [(.t 0)] (.t 1)) (.op (.op (.build #[(.int .i64 0), (.slice .none 0 0), (.slice .none 0 0), (.slice .none 0 0)] [(0, 1), (1, 1), (2, 1), (3, 1)] [0, 1, 2, 3]) [(.t 1), (.t 9), (.t 12), (.t 13)] .push) (.op (.ef (.store 4) [(.n 2), (.t 14)] .drop) .nil)))))))))))))))))))) (.alt (.op (.ef (.bslice 0 1 #[] []) [] .push) (.op (.stab (.load 1 .false) [(.t 6)] (.t 7)) (.op (.stab (.load 1 .false) [(.t 4)] (.t 5)) (.op (.stab (.load 1 .false) [(.t 2)] (.t 3)) (.op (.stab (.load 1 .false) [(.t 0)] (.t 1)) (.alt (.op (.ef (.append 1 8 #[(.int .i64 0)]) [(.t 8), (.t 3)] .push) (.op (.stab (.load 1 .false) [(.t 6)] (.t 7)) (.op (.stab (.load 1 .false) [(.t 4)] (.t 5)) (.op (.stab (.load 1 .false) [(.t 0)] (.t 1)) (.alt (.op (.ef (.append 1 1 #[(.bool .false)]) [(.t 9), (.t 5)] .push) (.op (.stab (.load 1 .false) [(.t 6)] (.t 7)) (.op (.stab (.load 1 .false) [(.t 0)] (.t 1)) (.op (.ef (.bslice 0 1 #[] []) [] .push) (.op (.stab (.load 1 .false) [(.t 6)] (.t 7)) (.op (.stab (.load 1 .false) [(.t 0)] (.t 1)) (.op (.ef (.append 1 1 #[(.bool .false)]) [(.t 12), (.t 7)] .push) (.op (.stab (.load 1 .false) [(.t 0)] (.t 1)) (.op (.op (.build #[(.int .i64 0), (.slice .none 0 0), (.slice .none 0 0), (.slice .none 0 0)] [(0, 1), (1, 1), (2, 1), (3, 1)] [0, 1, 2, 3]) [(.t 1), (.t 10), (.t 11), (.t 13)] .push) (.op (.ef (.store 4) [(.n 2), (.t 14)] .drop) .nil)))))))))) (.op (.ef (.bslice 0 1 #[] []) [] .push) (.op (.stab (.load 1 .false) [(.t 6)] (.t 7)) (.op (.stab (.load 1 .false) [(.t 4)] (.t 5)) (.op (.stab (.load 1 .false) [(.t 0)] (.t 1)) (.op (.ef (.append 1 1 #[(.bool .false)]) [(.t 9), (.t 5)] .push) (.op (.stab (.load 1 .false) [(.t 6)] (.t 7)) (.op (.stab (.load 1 .false) [(.t 0)] (.t 1)) (.op (.ef (.append 1 1 #[(.bool .false)]) [(.t 11), (.t 7)] .push) (.op (.stab (.load 1 .false) [(.t 0)] (.t 1)) (.op (.op (.build #[(.int .i64 0), (.slice .none 0 0), (.slice .none 0 0), (.slice .none 0 0)] [(0, 1), (1, 1), (2, 1), (3, 1)] [0, 1, 2, 3]) [(.t 1), (.t 10), (.t 12), (.t 13)] .push) (.op (.ef (.store 4) [(.n 2), (.t 14)] .drop) .nil)))))))))))))))) (.op (.ef (.bslice 0 1 #[] []) [] .push) (.op (.stab (.load 1 .false) [(.t 6)] (.t 7)) (.op (.stab (.load 1 .false) [(.t 4)] (.t 5)) (.op (.stab (.load 1 .false) [(.t 2)] (.t 3)) (.op (.stab (.load 1 .false) [(.t 0)] (.t 1)) (.op (.ef (.append 1 8 #[(.int .i64 0)]) [(.t 8), (.t 3)] .push) (.op (.stab (.load 1 .false) [(.t 6)] (.t 7)) (.op (.stab (.load 1 .false) [(.t 4)] (.t 5)) (.op (.stab (.load 1 .false) [(.t 0)] (.t 1)) (.op (.ef (.append 1 1 #[(.bool .false)]) [(.t 9), (.t 5)] .push) (.op (.stab (.load 1 .false) [(.t 6)] (.t 7)) (.op (.stab (.load 1 .false) [(.t 0)] (.t 1)) (.op (.ef (.append 1 1 #[(.bool .false)]) [(.t 10), (.t 7)] .push) (.op (.stab (.load 1 .false) [(.t 0)] (.t 1)) (.op (.op (.build #[(.int .i64 0), (.slice .none 0 0), (.slice .none 0 0), (.slice .none 0 0)] [(0, 1), (1, 1), (2, 1), (3, 1)] [0, 1, 2, 3]) [(.t 1), (.t 11), (.t 12), (.t 13)] .push) (.op (.ef (.store 4) [(.n 2), (.t 14)] .drop) .nil)))))))))))))))))))))) (.op (.ef (.bslice 0 1 #[] []) [] .push) (.op (.stab (.load 1 .false) [(.t 6)] (.t 7)) (.op (.stab (.load 1 .false) [(.t 4)] (.t 5)) (.op (.stab (.load 1 .false) [(.t 2)] (.t 3)) (.op (.stab (.load 1 .false) [(.t 0)] (.t 1)) (.alt (.op (.ef (.append 1 8 #[(.int .i64 0)]) [(.t 8), (.t 3)] .push) (.op (.stab (.load 1 .false) [(.t 6)] (.t 7)) (.op (.stab (.load 1 .false) [(.t 4)] (.t 5)) (.op (.stab (.load 1 .false) [(.t 0)] (.t 1)) (.op (.ef (.bslice 0 1 #[] []) [] .push) (.op (.stab (.load 1 .false) [(.t 6)] (.t 7)) (.op (.stab (.load 1 .false) [(.t 4)] (.t 5)) (.op (.stab (.load 1 .false) [(.t 0)] (.t 1)) (.op (.ef (.append 1 1 #[(.bool .false)]) [(.t 11), (.t 5)] .push) (.op (.stab (.load 1 .false) [(.t 6)] (.t 7)) (.op (.stab (.load 1 .false) [(.t 0)] (.t 1)) (.op (.ef (.append 1 1 #[(.bool .false)]) [(.t 9), (.t 7)] .push) (.op (.stab (.load 1 .false) [(.t 0)] (.t 1)) (.op (.op (.build #[(.int .i64 0), (.slice .none 0 0), (.slice .none 0 0), (.slice .none 0 0)] [(0, 1), (1, 1), (2, 1), (3, 1)] [0, 1, 2, 3]) [(.t 1), (.t 10), (.t 12), (.t 13)] .push) (.op (.ef (.store 4) [(.n 2), (.t 14)] .drop) .nil))))))))))))))) (.op (.ef (.bslice 0 1 #[] []) [] .push) (.op (.stab (.load 1 .false) [(.t 6)] (.t 7)) (.op (.stab (.load 1 .false) [(.t 4)] (.t 5)) (.op (.stab (.load 1 .false) [(.t 2)] (.t 3)) (.op (.stab (.load 1 .false) [(.t 0)] (.t 1)) (.op (.ef (.append 1 8 #[(.int .i64 0)]) [(.t 8), (.t 3)] .push) (.op (.stab (.load 1 .false) [(.t 6)] (.t 7)) (.op (.stab (.load 1 .false) [(.t 4)] (.t 5)) (.op (.stab (.load 1 .false) [(.t 0)] (.t 1)) (.op (.ef (.append 1 1 #[(.bool .false)]) [(.t 10), (.t 5)] .push) (.op (.stab (.load 1 .false) [(.t 6)] (.t 7)) (.op (.stab (.load 1 .false) [(.t 0)] (.t 1)) (.op (.ef (.append 1 1 #[(.bool .false)]) [(.t 9), (.t 7)] .push) (.op (.stab (.load 1 .false) [(.t 0)] (.t 1)) (.op (.op (.build #[(.int .i64 0), (.slice .none 0 0), (.slice .none 0 0), (.slice .none 0 0)] [(0, 1), (1, 1), (2, 1), (3, 1)] [0, 1, 2, 3]) [(.t 1), (.t 11), (.t 12), (.t 13)] .push) (.op (.ef (.store 4) [(.n 2), (.t 14)] .drop) .nil))))))))))))))))))))))))))))) (.alt (.op (.ef (.bslice 0 1 #[] []) [] .push) (.op (.stab (.load 1 .false) [(.t 6)] (.t 7)) (.op (.stab (.load 1 .false) [(.t 4)] (.t 5)) (.op (.stab (.load 1 .false) [(.t 2)] (.t 3)) (.op (.stab (.load 1 .false) [(.t 0)] (.t 1)) (.alt (.op (.ef (.bslice 0 1 #[] []) [] .push) (.op (.stab (.load 1 .false) [(.t 6)] (.t 7)) (.op (.stab (.load 1 .false) [(.t 4)] (.t 5)) (.op (.stab (.load 1 .false) [(.t 2)] (.t 3)) (.op (.stab (.load 1 .false) [(.t 0)] (.t 1)) (.alt (.op (.ef (.append 1 8 #[(.int .i64 0)]) [(.t 9), (.t 3)] .push) (.op (.stab (.load 1 .false) [(.t 6)] (.t 7)) (.op (.stab (.load 1 .false) [(.t 4)] (.t 5)) (.op (.stab (.load 1 .false) [(.t 0)] (.t 1)) (.alt (.op (.ef (.append 1 1 #[(.bool .false)]) [(.t 8), (.t 5)] .push) (.op (.stab (.load 1 .false) [(.t 6)] (.t 7)) (.op (.stab (.load 1 .false) [(.t 0)] (.t 1)) (.op (.ef (.bslice 0 1 #[] []) [] .push) (.op (.stab (.load 1 .false) [(.t 6)] (.t 7)) (.op (.stab (.load 1 .false) [(.t 0)] (.t 1)) (.op (.ef (.append 1 1 #[(.bool .false)]) [(.t 12), (.t 7)] .push) (.op (.stab (.load 1 .false) [(.t 0)] (.t 1)) (.op (.op (.build #[(.int .i64 0), (.slice .none 0 0), (.slice .none 0 0), (.slice .none 0 0)] [(0, 1), (1, 1), (2, 1), (3, 1)] [0, 1, 2, 3]) [(.t 1), (.t 10), (.t 11), (.t 13)] .push) (.op (.ef (.store 4) [(.n 2), (.t 14)] .drop) .nil)))))))))) (.op (.ef (.bslice 0 1 #[] []) [] .push) (.op (.stab (.load 1 .false) [(.t 6)] (.t 7)) (.op (.stab (.load 1 .false) [(.t 4)] (.t 5)) (.op (.stab (.load 1 .false) [(.t 0)] (.t 1)) (.op (.ef (.append 1 1 #[(.bool .false)]) [(.t 8), (.t 5)] .push) (.op (.stab (.load 1 .false) [(.t 6)] (.t 7)) (.op (.stab (.load 1 .false) [(.t 0)] (.t 1)) (.op (.ef (.append 1 1 #[(.bool .false)]) [(.t 11), (.t 7)] .push) (.op (.stab (.load 1 .false) [(.t 0)] (.t 1)) (.op (.op (.build #[(.int .i64 0), (.slice .none 0 0), (.slice .none 0 0), (.slice .none 0 0)] [(0, 1), (1, 1), (2, 1), (3, 1)] [0, 1, 2, 3]) [(.t 1), (.t 10), (.t 12), (.t 13)] .push) (.op (.ef (.store 4) [(.n 2), (.t 14)] .drop) .nil)))))))))))))))) (.op (.ef (.bslice 0 1 #[] []) [] .push) (.op (.stab (.load 1 .false) [(.t 6)] (.t 7)) (.op (.stab (.load 1 .false) [(.t 4)] (.t 5)) (.op (.stab (.load 1 .false) [(.t 2)] (.t 3)) (.op (.stab (.load 1 .false) [(.t 0)] (.t 1)) (.op (.ef (.append 1 8 #[(.int .i64 0)]) [(.t 9), (.t 3)] .push) (.op (.stab (.load 1 .false) [(.t 6)] (.t 7)) (.op (.stab (.load 1 .false) [(.t 4)] (.t 5)) (.op (.stab (.load 1 .false) [(.t 0)] (.t 1)) (.op (.ef (.append 1 1 #[(.bool .false)]) [(.t 8), (.t 5)] .push) (.op (.stab (.load 1 .false) [(.t 6)] (.t 7)) (.op (.stab (.load 1 .false) [(.t 0)] (.t 1)) (.op (.ef (.append 1 1 #[(.bool .false)]) [(.t 10), (.t 7)] .push) (.op (.stab (.load 1 .false) [(.t 0)] (.t 1)) (.op (.op (.build #[(.int .i64 0), (.slice .none 0 0), (.slice .none 0 0), (.slice .none 0 0)] [(0, 1), (1, 1), (2, 1), (3, 1)] [0, 1, 2, 3]) [(.t 1), (.t 11), (.t 12), (.t 13)] .push) (.op (.ef (.store 4) [(.n 2), (.t 14)] .drop) .nil)))))))))))))))))))))) (.op (.ef (.bslice 0 1 #[] []) [] .push) (.op (.stab (.load 1 .false) [(.t 6)] (.t 7)) (.op (.stab (.load 1 .false) [(.t 4)] (.t 5)) (.op (.stab (.load 1 .false) [(.t 2)] (.t 3)) (.op (.stab (.load 1 .false) [(.t 0)] (.t 1)) (.op (.ef (.bslice 0 1 #[] []) [] .push) (.op (.stab (.load 1 .false) [(.t 6)] (.t 7)) (.op (.stab (.load 1 .false) [(.t 4)] (.t 5)) (.op (.stab (.load 1 .false) [(.t 2)] (.t 3)) (.op (.stab (.load 1 .false) [(.t 0)] (.t 1)) (.op (.ef (.append 1 8 #[(.int .i64 0)]) [(.t 10), (.t 3)] .push) (.op (.stab (.load 1 .false) [(.t 6)] (.t 7)) (.op (.stab (.load 1 .false) [(.t 4)] (.t 5)) (.op (.stab (.load 1 .false) [(.t 0)] (.t 1)) (.op (.ef (.append 1 1 #[(.bool .false)]) [(.t 8), (.t 5)] .push) (.op (.stab (.load 1 .false) [(.t 6)] (.t 7)) (.op (.stab (.load 1 .false) [(.t 0)] (.t 1)) (.op (.ef (.append 1 1 #[(.bool .false)]) [(.t 9), (.t 7)] .push) (.op (.stab (.load 1 .false) [(.t 0)] (.t 1)) (.op (.op (.build #[(.int .i64 0), (.slice .none 0 0), (.slice .none 0 0), (.slice .none 0 0)] [(0, 1), (1, 1), (2, 1), (3, 1)] [0, 1, 2, 3]) [(.t 1), (.t 11), (.t 12), (.t 13)] .push) (.op (.ef (.store 4) [(.n 2), (.t 14)] .drop) .nil))))))))))))))))))))))))))) (.op (.ef (.bslice 0 1 #[] []) [] .push) (.op (.stab (.load 1 .false) [(.t 6)] (.t 7)) (.op (.stab (.load 1 .false) [(.t 4)] (.t 5)) (.op (.stab (.load 1 .false) [(.t 2)] (.t 3)) (.op (.stab (.load 1 .false) [(.t 0)] (.t 1)) (.alt (.op (.ef (.bslice 0 1 #[] []) [] .push) (.op (.stab (.load 1 .false) [(.t 6)] (.t 7)) (.op (.stab (.load 1 .false) [(.t 4)] (.t 5)) (.op (.stab (.load 1 .false) [(.t 2)] (.t 3)) (.op (.stab (.load 1 .false) [(.t 0)] (.t 1)) (.alt (.op (.ef (.append 1 8 #[(.int .i64 0)]) [(.t 9), (.t 3)] .push) (.op (.stab (.load 1 .false) [(.t 6)] (.t 7)) (.op (.stab (.load 1 .false) [(.t 4)] (.t 5)) (.op (.stab (.load 1 .false) [(.t 0)] (.t 1)) (.op (.ef (.bslice 0 1 #[] []) [] .push) (.op (.stab (.load 1 .false) [(.t 6)] (.t 7)) (.op (.stab (.load 1 .false) [(.t 4)] (.t 5)) (.op (.stab (.load 1 .false) [(.t 0)] (.t 1)) (.op (.ef (.append 1 1 #[(.bool .false)]) [(.t 11), (.t 5)] .push) (.op (.stab (.load 1 .false) [(.t 6)] (.t 7)) (.op (.stab (.load 1 .false) [(.t 0)] (.t 1)) (.op (.ef (.append 1 1 #[(.bool .false)]) [(.t 8), (.t 7)] .push) (.op (.stab (.load 1 .false) [(.t 0)] (.t 1)) (.op (.op (.build #[(.int .i64 0), (.slice .none 0 0), (.slice .none 0 0), (.slice .none 0 0)] [(0, 1), (1, 1), (2, 1), (3, 1)] [0, 1, 2, 3]) [(.t 1), (.t 10), (.t 12), (.t 13)] .push) (.op (.ef (.store 4) [(.n 2), (.t 14)] .drop) .nil))))))))))))))) (.op (.ef (.bslice 0 1 #[] []) [] .push) (.op (.stab (.load 1 .false) [(.t 6)] (.t 7)) (.op (.stab (.load 1 .false) [(.t 4)] (.t 5)) (.op (.stab (.load 1 .false) [(.t 2)] (.t 3)) (.op (.stab (.load 1 .false) [(.t 0)] (.t 1)) (.op (.ef (.append 1 8 #[(.int .i64 0)]) [(.t 9), (.t 3)] .push) (.op (.stab (.load 1 .false) [(.t 6)] (.t 7)) (.op (.stab (.load 1 .false) [(.t 4)] (.t 5)) (.op (.stab (.load 1 .false) [(.t 0)] (.t 1)) (.op (.ef (.append 1 1 #[(.bool .false)]) [(.t 10), (.t 5)] .push) (.op (.stab (.load 1 .false) [(.t 6)] (.t 7)) (.op (.stab (.load 1 .false) [(.t 0)] (.t 1)) (.op (.ef (.append 1 1 #[(.bool .false)]) [(.t 8), (.t 7)] .push) (.op (.stab (.load 1 .false) [(.t 0)] (.t 1)) (.op (.op (.build #[(.int .i64 0), (.slice .none 0 0), (.slice .none 0 0), (.slice .none 0 0)] [(0, 1), (1, 1), (2, 1), (3, 1)] [0, 1, 2, 3]) [(.t 1), (.t 11), (.t 12), (.t 13)] .push) (.op (.ef (.store 4) [(.n 2), (.t 14)] .drop) .nil)))))))))))))))))))))) (.op (.ef (.bslice 0 1 #[] []) [] .push) (.op (.stab (.load 1 .false) [(.t 6)] (.t 7)) (.op (.stab (.load 1 .false) [(.t 4)] (.t 5)) (.op (.stab (.load 1 .false) [(.t 2)] (.t 3)) (.op (.stab (.load 1 .false) [(.t 0)] (.t 1)) (.op (.ef (.bslice 0 1 #[] []) [] .push) (.op (.stab (.load 1 .false) [(.t 6)] (.t 7)) (.op (.stab (.load 1 .false) [(.t 4)] (.t 5)) (.op (.stab (.load 1 .false) [(.t 2)] (.t 3)) (.op (.stab (.load 1 .false) [(.t 0)] (.t 1)) (.op (.ef (.append 1 8 #[(.int .i64 0)]) [(.t 10), (.t 3)] .push) (.op (.stab (.load 1 .false) [(.t 6)] (.t 7)) (.op (.stab (.load 1 .false) [(.t 4)] (.t 5)) (.op (.stab (.load 1 .false) [(.t 0)] (.t 1)) (.op (.ef (.append 1 1 #[(.bool .false)]) [(.t 9), (.t 5)] .push) (.op (.stab (.load 1 .false) [(.t 6)] (.t 7)) (.op (.stab (.load 1 .false) [(.t 0)] (.t 1)) (.op (.ef (.append 1 1 #[(.bool .false)]) [(.t 8), (.t 7)] .push) (.op (.stab (.load 1 .false) [(.t 0)] (.t 1)) (.op (.op (.build #[(.int .i64 0), (.slice .none 0 0), (.slice .none 0 0), (.slice .none 0 0)] [(0, 1), (1, 1), (2, 1), (3, 1)] [0, 1, 2, 3]) [(.t 1), (.t 11), (.t 12), (.t 13)] .push) (.op (.ef (.store 4) [(.n 2), (.t 14)] .drop) .nil)))))))))))))))))))))))))))))
def toS : FnS := ⟨1, 3, (.seq (.reg (.op (.ef .new [(.n 0)] (.set 1)) (.op (.ef .new [(.c (.agg #[(.int .i64 0), (.slice .none 0 0), (.slice .none 0 0), (.slice .none 0 0)]))] (.set 2)) .nil))) (.seq (.reg (.op (.op (.fadr 0) [(.n 1)] .push) (.op (.op (.load 1 .false) [(.t 0)] .push) (.op (.op (.fadr 1) [(.n 1)] .push) (.op (.op (.load 1 .false) [(.t 2)] .push) (.op (.op (.fadr 2) [(.n 1)] .push) (.op (.op (.load 1 .false) [(.t 4)] .push) (.op (.op (.fadr 3) [(.n 1)] .push) (.op (.op (.load 1 .false) [(.t 6)] .push) toAlt))))))))) .ret)), [(.box 2 4 .true)]⟩
theorem toS_eq : S_rlaw9_To = toS := rfl
section
variable {Y : Sys} {h h' : Heap}
theorem sem_build_res {z0 z1 z2 z3 : Value} {a : Int} {s t u : Sl} : IOp.sem Y h (.build #[z0, z1, z2, z3] [(0, 1), (1, 1), (2, 1), (3, 1)] [0, 1, 2, 3]) [.int .i64 a, s.v, t.v, u.v] = some (.agg #[.int .i64 a, s.v, t.v, u.v]) := by
  rfl
theorem toAlt_wp {e : List Value} {B : Nat} {val : Int} {sf sn sr : Sl} {fl : List Int} {near far : List Bool} (rf : Row64 h sf fl) (rn : RowM h sn near) (rr : RowM h sr far) (bf : sf.n ≤ 1000000) (bn : sn.n ≤ 1000000) (br : sr.n ≤ 1000000)
    (B1 : Blk h B #[.int .i64 val, sf.v, sn.v, sr.v]) {K : Kont} {p2 : Nat} (he : e[2]?.getD undef = .pointer (some ⟨p2, 0, none⟩))
    (fin : ∀ (g : Heap) (s t u : Sl) (x : Ext h g), Own g 1 s (ints64 fl) → Own g 1 t (boolsM near) → Own g 1 u (boolsM far) → h.size ≤ s.b → h.size ≤ t.b → h.size ≤ u.b → ∀ T, Ef.wp g (EfK Y K .nil .drop e T) (.store 4) [.pointer (some ⟨p2, 0, none⟩), .agg #[.int .i64 val, s.v, t.v, u.v]]) :
    IL.wp Y K toAlt e [.pointer (some ⟨B, 0, none⟩), .int .i64 val, .pointer (some ⟨B, 1, none⟩), sf.v, .pointer (some ⟨B, 2, none⟩), sn.v, .pointer (some ⟨B, 3, none⟩), sr.v] h := by
  have x0 : Ext h h := Mod.refl h
  simp [toAlt]
  refine ⟨?_, ?_⟩
  · skip
    refine ef_bslice0_box ?_
    intro b1 h1 g1 o1 e1
    have x1 := x0.trans e1
    have z1 := e1.size
    simp [sem_build_res, he, B1.sk _ _ x1]
    refine ⟨?_, ?_⟩
    · skip
      refine ef_appendE o1 rfl (srcOf_row64 (rf.ext x1)) (by rw [ints64_len]; simpa using rf.len) ints64_one rfl (by omega) (by omega) ?_
      intro s2 h2 o2 n2 e2 l2 q2
      have x2 := x1.trans e2
      have z2 := e2.size
      have w2 : h.size ≤ s2.b := by rcases q2 with q | q <;> omega
      simp [sem_build_res, he, B1.sk _ _ x2]
      refine ⟨?_, ?_⟩
      · skip
        refine ef_bslice0_box ?_
        intro b3 h3 g3 o3 e3
        have x3 := x2.trans e3
        have z3 := e3.size
        replace o2 := o2.ext' e3
        simp [sem_build_res, he, B1.sk _ _ x3]
        refine ⟨?_, ?_⟩
        · skip
          refine ef_appendE o3 rfl (srcOf_rowM (rn.ext x3)) (by rw [boolsM_len]; simpa using rn.len) boolsM_one rfl (by omega) (by omega) ?_
          intro s4 h4 o4 n4 e4 l4 q4
          have x4 := x3.trans e4
          have z4 := e4.size
          have w4 : h.size ≤ s4.b := by rcases q4 with q | q <;> omega
          replace o2 := o2.ext' e4
          simp [sem_build_res, he, B1.sk _ _ x4]
          refine ef_bslice0_box ?_
          intro b5 h5 g5 o5 e5
          have x5 := x4.trans e5
          have z5 := e5.size
          replace o2 := o2.ext' e5
          replace o4 := o4.ext' e5
          simp [sem_build_res, he, B1.sk _ _ x5]
          refine ef_appendE o5 rfl (srcOf_rowM (rr.ext x5)) (by rw [boolsM_len]; simpa using rr.len) boolsM_one rfl (by omega) (by omega) ?_
          intro s6 h6 o6 n6 e6 l6 q6
          have x6 := x5.trans e6
          have z6 := e6.size
          have w6 : h.size ≤ s6.b := by rcases q6 with q | q <;> omega
          replace o2 := o2.ext' e6
          replace o4 := o4.ext' e6
          simp [sem_build_res, he, B1.sk _ _ x6]
          exact fin _ _ _ _ x6 o2 o4 o6 w2 w4 w6 _
        · skip
          refine ef_bslice0_box ?_
          intro b4 h4 g4 o4 e4
          have x4 := x3.trans e4
          have z4 := e4.size
          replace o2 := o2.ext' e4
          replace o3 := o3.ext' e4
          simp [sem_build_res, he, B1.sk _ _ x4]
          refine ef_appendE o3 rfl (srcOf_rowM (rn.ext x4)) (by rw [boolsM_len]; simpa using rn.len) boolsM_one rfl (by omega) (by omega) ?_
          intro s5 h5 o5 n5 e5 l5 q5
          have x5 := x4.trans e5
          have z5 := e5.size
          have w5 : h.size ≤ s5.b := by rcases q5 with q | q <;> omega
          replace o2 := o2.ext' e5
          replace o4 := o4.ext' e5
          simp [sem_build_res, he, B1.sk _ _ x5]
          refine ef_appendE o4 rfl (srcOf_rowM (rr.ext x5)) (by rw [boolsM_len]; simpa using rr.len) boolsM_one rfl (by omega) (by omega) ?_
          intro s6 h6 o6 n6 e6 l6 q6
          have x6 := x5.trans e6
          have z6 := e6.size
          have w6 : h.size ≤ s6.b := by rcases q6 with q | q <;> omega
          replace o2 := o2.ext' e6
          replace o5 := o5.ext' e6
          simp [sem_build_res, he, B1.sk _ _ x6]
          exact fin _ _ _ _ x6 o2 o5 o6 w2 w5 w6 _
      · skip
        refine ef_bslice0_box ?_
        intro b3 h3 g3 o3 e3
        have x3 := x2.trans e3
        have z3 := e3.size
        replace o2 := o2.ext' e3
        simp [sem_build_res, he, B1.sk _ _ x3]
        refine ef_bslice0_box ?_
        intro b4 h4 g4 o4 e4
        have x4 := x3.trans e4
        have z4 := e4.size
        replace o2 := o2.ext' e4
        replace o3 := o3.ext' e4
        simp [sem_build_res, he, B1.sk _ _ x4]
        refine ef_appendE o4 rfl (srcOf_rowM (rn.ext x4)) (by rw [boolsM_len]; simpa using rn.len) boolsM_one rfl (by omega) (by omega) ?_
        intro s5 h5 o5 n5 e5 l5 q5
        have x5 := x4.trans e5
        have z5 := e5.size
        have w5 : h.size ≤ s5.b := by rcases q5 with q | q <;> omega
        replace o2 := o2.ext' e5
        replace o3 := o3.ext' e5
        simp [sem_build_res, he, B1.sk _ _ x5]
        refine ef_appendE o3 rfl (srcOf_rowM (rr.ext x5)) (by rw [boolsM_len]; simpa using rr.len) boolsM_one rfl (by omega) (by omega) ?_
        intro s6 h6 o6 n6 e6 l6 q6
        have x6 := x5.trans e6
        have z6 := e6.size
        have w6 : h.size ≤ s6.b := by rcases q6 with q | q <;> omega
        replace o2 := o2.ext' e6
        replace o5 := o5.ext' e6
        simp [sem_build_res, he, B1.sk _ _ x6]
        exact fin _ _ _ _ x6 o2 o5 o6 w2 w5 w6 _
    · skip
      refine ⟨?_, ?_⟩
      · skip
        refine ef_bslice0_box ?_
        intro b2 h2 g2 o2 e2
        have x2 := x1.trans e2
        have z2 := e2.size
        replace o1 := o1.ext' e2
        simp [sem_build_res, he, B1.sk _ _ x2]
        refine ⟨?_, ?_⟩
        · skip
          refine ef_appendE o1 rfl (srcOf_row64 (rf.ext x2)) (by rw [ints64_len]; simpa using rf.len) ints64_one rfl (by omega) (by omega) ?_
          intro s3 h3 o3 n3 e3 l3 q3
          have x3 := x2.trans e3
          have z3 := e3.size
          have w3 : h.size ≤ s3.b := by rcases q3 with q | q <;> omega
          replace o2 := o2.ext' e3
          simp [sem_build_res, he, B1.sk _ _ x3]
          refine ⟨?_, ?_⟩
          · skip
            refine ef_appendE o2 rfl (srcOf_rowM (rn.ext x3)) (by rw [boolsM_len]; simpa using rn.len) boolsM_one rfl (by omega) (by omega) ?_
            intro s4 h4 o4 n4 e4 l4 q4
            have x4 := x3.trans e4
            have z4 := e4.size
            have w4 : h.size ≤ s4.b := by rcases q4 with q | q <;> omega
            replace o3 := o3.ext' e4
            simp [sem_build_res, he, B1.sk _ _ x4]
            refine ef_bslice0_box ?_
            intro b5 h5 g5 o5 e5
            have x5 := x4.trans e5
            have z5 := e5.size
            replace o3 := o3.ext' e5
            replace o4 := o4.ext' e5
            simp [sem_build_res, he, B1.sk _ _ x5]
            refine ef_appendE o5 rfl (srcOf_rowM (rr.ext x5)) (by rw [boolsM_len]; simpa using rr.len) boolsM_one rfl (by omega) (by omega) ?_
            intro s6 h6 o6 n6 e6 l6 q6
            have x6 := x5.trans e6
            have z6 := e6.size
            have w6 : h.size ≤ s6.b := by rcases q6 with q | q <;> omega
            replace o3 := o3.ext' e6
            replace o4 := o4.ext' e6
            simp [sem_build_res, he, B1.sk _ _ x6]
            exact fin _ _ _ _ x6 o3 o4 o6 w3 w4 w6 _
          · skip
            refine ef_bslice0_box ?_
            intro b4 h4 g4 o4 e4
            have x4 := x3.trans e4
            have z4 := e4.size
            replace o2 := o2.ext' e4
            replace o3 := o3.ext' e4
            simp [sem_build_res, he, B1.sk _ _ x4]
            refine ef_appendE o2 rfl (srcOf_rowM (rn.ext x4)) (by rw [boolsM_len]; simpa using rn.len) boolsM_one rfl (by omega) (by omega) ?_
            intro s5 h5 o5 n5 e5 l5 q5
            have x5 := x4.trans e5
            have z5 := e5.size
            have w5 : h.size ≤ s5.b := by rcases q5 with q | q <;> omega
            replace o3 := o3.ext' e5
            replace o4 := o4.ext' e5
            simp [sem_build_res, he, B1.sk _ _ x5]
            refine ef_appendE o4 rfl (srcOf_rowM (rr.ext x5)) (by rw [boolsM_len]; simpa using rr.len) boolsM_one rfl (by omega) (by omega) ?_
            intro s6 h6 o6 n6 e6 l6 q6
            have x6 := x5.trans e6
            have z6 := e6.size
            have w6 : h.size ≤ s6.b := by rcases q6 with q | q <;> omega
            replace o3 := o3.ext' e6
            replace o5 := o5.ext' e6
            simp [sem_build_res, he, B1.sk _ _ x6]
            exact fin _ _ _ _ x6 o3 o5 o6 w3 w5 w6 _
        · skip
          refine ef_bslice0_box ?_
          intro b3 h3 g3 o3 e3
          have x3 := x2.trans e3
          have z3 := e3.size
          replace o1 := o1.ext' e3
          replace o2 := o2.ext' e3
          simp [sem_build_res, he, B1.sk _ _ x3]
          refine ef_appendE o1 rfl (srcOf_row64 (rf.ext x3)) (by rw [ints64_len]; simpa using rf.len) ints64_one rfl (by omega) (by omega) ?_
          intro s4 h4 o4 n4 e4 l4 q4
          have x4 := x3.trans e4
          have z4 := e4.size
          have w4 : h.size ≤ s4.b := by rcases q4 with q | q <;> omega
          replace o2 := o2.ext' e4
          replace o3 := o3.ext' e4
          simp [sem_build_res, he, B1.sk _ _ x4]
          refine ef_appendE o2 rfl (srcOf_rowM (rn.ext x4)) (by rw [boolsM_len]; simpa using rn.len) boolsM_one rfl (by omega) (by omega) ?_
          intro s5 h5 o5 n5 e5 l5 q5
          have x5 := x4.trans e5
          have z5 := e5.size
          have w5 : h.size ≤ s5.b := by rcases q5 with q | q <;> omega
          replace o3 := o3.ext' e5
          replace o4 := o4.ext' e5
          simp [sem_build_res, he, B1.sk _ _ x5]
          refine ef_appendE o3 rfl (srcOf_rowM (rr.ext x5)) (by rw [boolsM_len]; simpa using rr.len) boolsM_one rfl (by omega) (by omega) ?_
          intro s6 h6 o6 n6 e6 l6 q6
          have x6 := x5.trans e6
          have z6 := e6.size
          have w6 : h.size ≤ s6.b := by rcases q6 with q | q <;> omega
          replace o4 := o4.ext' e6
          replace o5 := o5.ext' e6
          simp [sem_build_res, he, B1.sk _ _ x6]
          exact fin _ _ _ _ x6 o4 o5 o6 w4 w5 w6 _
      · skip
        refine ef_bslice0_box ?_
        intro b2 h2 g2 o2 e2
        have x2 := x1.trans e2
        have z2 := e2.size
        replace o1 := o1.ext' e2
        simp [sem_build_res, he, B1.sk _ _ x2]
        refine ⟨?_, ?_⟩
        · skip
          refine ef_appendE o1 rfl (srcOf_row64 (rf.ext x2)) (by rw [ints64_len]; simpa using rf.len) ints64_one rfl (by omega) (by omega) ?_
          intro s3 h3 o3 n3 e3 l3 q3
          have x3 := x2.trans e3
          have z3 := e3.size
          have w3 : h.size ≤ s3.b := by rcases q3 with q | q <;> omega
          replace o2 := o2.ext' e3
          simp [sem_build_res, he, B1.sk _ _ x3]
          refine ef_bslice0_box ?_
          intro b4 h4 g4 o4 e4
          have x4 := x3.trans e4
          have z4 := e4.size
          replace o2 := o2.ext' e4
          replace o3 := o3.ext' e4
          simp [sem_build_res, he, B1.sk _ _ x4]
          refine ef_appendE o4 rfl (srcOf_rowM (rn.ext x4)) (by rw [boolsM_len]; simpa using rn.len) boolsM_one rfl (by omega) (by omega) ?_
          intro s5 h5 o5 n5 e5 l5 q5
          have x5 := x4.trans e5
          have z5 := e5.size
          have w5 : h.size ≤ s5.b := by rcases q5 with q | q <;> omega
          replace o2 := o2.ext' e5
          replace o3 := o3.ext' e5
          simp [sem_build_res, he, B1.sk _ _ x5]
          refine ef_appendE o2 rfl (srcOf_rowM (rr.ext x5)) (by rw [boolsM_len]; simpa using rr.len) boolsM_one rfl (by omega) (by omega) ?_
          intro s6 h6 o6 n6 e6 l6 q6
          have x6 := x5.trans e6
          have z6 := e6.size
          have w6 : h.size ≤ s6.b := by rcases q6 with q | q <;> omega
          replace o3 := o3.ext' e6
          replace o5 := o5.ext' e6
          simp [sem_build_res, he, B1.sk _ _ x6]
          exact fin _ _ _ _ x6 o3 o5 o6 w3 w5 w6 _
        · skip
          refine ef_bslice0_box ?_
          intro b3 h3 g3 o3 e3
          have x3 := x2.trans e3
          have z3 := e3.size
          replace o1 := o1.ext' e3
          replace o2 := o2.ext' e3
          simp [sem_build_res, he, B1.sk _ _ x3]
          refine ef_appendE o1 rfl (srcOf_row64 (rf.ext x3)) (by rw [ints64_len]; simpa using rf.len) ints64_one rfl (by omega) (by omega) ?_
          intro s4 h4 o4 n4 e4 l4 q4
          have x4 := x3.trans e4
          have z4 := e4.size
          have w4 : h.size ≤ s4.b := by rcases q4 with q | q <;> omega
          replace o2 := o2.ext' e4
          replace o3 := o3.ext' e4
          simp [sem_build_res, he, B1.sk _ _ x4]
          refine ef_appendE o3 rfl (srcOf_rowM (rn.ext x4)) (by rw [boolsM_len]; simpa using rn.len) boolsM_one rfl (by omega) (by omega) ?_
          intro s5 h5 o5 n5 e5 l5 q5
          have x5 := x4.trans e5
          have z5 := e5.size
          have w5 : h.size ≤ s5.b := by rcases q5 with q | q <;> omega
          replace o2 := o2.ext' e5
          replace o4 := o4.ext' e5
          simp [sem_build_res, he, B1.sk _ _ x5]
          refine ef_appendE o2 rfl (srcOf_rowM (rr.ext x5)) (by rw [boolsM_len]; simpa using rr.len) boolsM_one rfl (by omega) (by omega) ?_
          intro s6 h6 o6 n6 e6 l6 q6
          have x6 := x5.trans e6
          have z6 := e6.size
          have w6 : h.size ≤ s6.b := by rcases q6 with q | q <;> omega
          replace o4 := o4.ext' e6
          replace o5 := o5.ext' e6
          simp [sem_build_res, he, B1.sk _ _ x6]
          exact fin _ _ _ _ x6 o4 o5 o6 w4 w5 w6 _
  · skip
    refine ⟨?_, ?_⟩
    · skip
      refine ef_bslice0_box ?_
      intro b1 h1 g1 o1 e1
      have x1 := x0.trans e1
      have z1 := e1.size
      simp [sem_build_res, he, B1.sk _ _ x1]
      refine ⟨?_, ?_⟩
      · skip
        refine ef_bslice0_box ?_
        intro b2 h2 g2 o2 e2
        have x2 := x1.trans e2
        have z2 := e2.size
        replace o1 := o1.ext' e2
        simp [sem_build_res, he, B1.sk _ _ x2]
        refine ⟨?_, ?_⟩
        · skip
          refine ef_appendE o2 rfl (srcOf_row64 (rf.ext x2)) (by rw [ints64_len]; simpa using rf.len) ints64_one rfl (by omega) (by omega) ?_
          intro s3 h3 o3 n3 e3 l3 q3
          have x3 := x2.trans e3
          have z3 := e3.size
          have w3 : h.size ≤ s3.b := by rcases q3 with q | q <;> omega
          replace o1 := o1.ext' e3
          simp [sem_build_res, he, B1.sk _ _ x3]
          refine ⟨?_, ?_⟩
          · skip
            refine ef_appendE o1 rfl (srcOf_rowM (rn.ext x3)) (by rw [boolsM_len]; simpa using rn.len) boolsM_one rfl (by omega) (by omega) ?_
            intro s4 h4 o4 n4 e4 l4 q4
            have x4 := x3.trans e4
            have z4 := e4.size
            have w4 : h.size ≤ s4.b := by rcases q4 with q | q <;> omega
            replace o3 := o3.ext' e4
            simp [sem_build_res, he, B1.sk _ _ x4]
            refine ef_bslice0_box ?_
            intro b5 h5 g5 o5 e5
            have x5 := x4.trans e5
            have z5 := e5.size
            replace o3 := o3.ext' e5
            replace o4 := o4.ext' e5
            simp [sem_build_res, he, B1.sk _ _ x5]
            refine ef_appendE o5 rfl (srcOf_rowM (rr.ext x5)) (by rw [boolsM_len]; simpa using rr.len) boolsM_one rfl (by omega) (by omega) ?_
            intro s6 h6 o6 n6 e6 l6 q6
            have x6 := x5.trans e6
            have z6 := e6.size
            have w6 : h.size ≤ s6.b := by rcases q6 with q | q <;> omega
            replace o3 := o3.ext' e6
            replace o4 := o4.ext' e6
            simp [sem_build_res, he, B1.sk _ _ x6]
            exact fin _ _ _ _ x6 o3 o4 o6 w3 w4 w6 _
          · skip
            refine ef_bslice0_box ?_
            intro b4 h4 g4 o4 e4
            have x4 := x3.trans e4
            have z4 := e4.size
            replace o1 := o1.ext' e4
            replace o3 := o3.ext' e4
            simp [sem_build_res, he, B1.sk _ _ x4]
            refine ef_appendE o1 rfl (srcOf_rowM (rn.ext x4)) (by rw [boolsM_len]; simpa using rn.len) boolsM_one rfl (by omega) (by omega) ?_
            intro s5 h5 o5 n5 e5 l5 q5
            have x5 := x4.trans e5
            have z5 := e5.size
            have w5 : h.size ≤ s5.b := by rcases q5 with q | q <;> omega
            replace o3 := o3.ext' e5
            replace o4 := o4.ext' e5
            simp [sem_build_res, he, B1.sk _ _ x5]
            refine ef_appendE o4 rfl (srcOf_rowM (rr.ext x5)) (by rw [boolsM_len]; simpa using rr.len) boolsM_one rfl (by omega) (by omega) ?_
            intro s6 h6 o6 n6 e6 l6 q6
            have x6 := x5.trans e6
            have z6 := e6.size
            have w6 : h.size ≤ s6.b := by rcases q6 with q | q <;> omega
            replace o3 := o3.ext' e6
            replace o5 := o5.ext' e6
            simp [sem_build_res, he, B1.sk _ _ x6]
            exact fin _ _ _ _ x6 o3 o5 o6 w3 w5 w6 _
        · skip
          refine ef_bslice0_box ?_
          intro b3 h3 g3 o3 e3
          have x3 := x2.trans e3
          have z3 := e3.size
          replace o1 := o1.ext' e3
          replace o2 := o2.ext' e3
          simp [sem_build_res, he, B1.sk _ _ x3]
          refine ef_appendE o2 rfl (srcOf_row64 (rf.ext x3)) (by rw [ints64_len]; simpa using rf.len) ints64_one rfl (by omega) (by omega) ?_
          intro s4 h4 o4 n4 e4 l4 q4
          have x4 := x3.trans e4
          have z4 := e4.size
          have w4 : h.size ≤ s4.b := by rcases q4 with q | q <;> omega
          replace o1 := o1.ext' e4
          replace o3 := o3.ext' e4
          simp [sem_build_res, he, B1.sk _ _ x4]
          refine ef_appendE o1 rfl (srcOf_rowM (rn.ext x4)) (by rw [boolsM_len]; simpa using rn.len) boolsM_one rfl (by omega) (by omega) ?_
          intro s5 h5 o5 n5 e5 l5 q5
          have x5 := x4.trans e5
          have z5 := e5.size
          have w5 : h.size ≤ s5.b := by rcases q5 with q | q <;> omega
          replace o3 := o3.ext' e5
          replace o4 := o4.ext' e5
          simp [sem_build_res, he, B1.sk _ _ x5]
          refine ef_appendE o3 rfl (srcOf_rowM (rr.ext x5)) (by rw [boolsM_len]; simpa using rr.len) boolsM_one rfl (by omega) (by omega) ?_
          intro s6 h6 o6 n6 e6 l6 q6
          have x6 := x5.trans e6
          have z6 := e6.size
          have w6 : h.size ≤ s6.b := by rcases q6 with q | q <;> omega
          replace o4 := o4.ext' e6
          replace o5 := o5.ext' e6
          simp [sem_build_res, he, B1.sk _ _ x6]
          exact fin _ _ _ _ x6 o4 o5 o6 w4 w5 w6 _
      · skip
        refine ef_bslice0_box ?_
        intro b2 h2 g2 o2 e2
        have x2 := x1.trans e2
        have z2 := e2.size
        replace o1 := o1.ext' e2
        simp [sem_build_res, he, B1.sk _ _ x2]
        refine ef_bslice0_box ?_
        intro b3 h3 g3 o3 e3
        have x3 := x2.trans e3
        have z3 := e3.size
        replace o1 := o1.ext' e3
        replace o2 := o2.ext' e3
        simp [sem_build_res, he, B1.sk _ _ x3]
        refine ef_appendE o3 rfl (srcOf_row64 (rf.ext x3)) (by rw [ints64_len]; simpa using rf.len) ints64_one rfl (by omega) (by omega) ?_
        intro s4 h4 o4 n4 e4 l4 q4
        have x4 := x3.trans e4
        have z4 := e4.size
        have w4 : h.size ≤ s4.b := by rcases q4 with q | q <;> omega
        replace o1 := o1.ext' e4
        replace o2 := o2.ext' e4
        simp [sem_build_res, he, B1.sk _ _ x4]
        refine ef_appendE o1 rfl (srcOf_rowM (rn.ext x4)) (by rw [boolsM_len]; simpa using rn.len) boolsM_one rfl (by omega) (by omega) ?_
        intro s5 h5 o5 n5 e5 l5 q5
        have x5 := x4.trans e5
        have z5 := e5.size
        have w5 : h.size ≤ s5.b := by rcases q5 with q | q <;> omega
        replace o2 := o2.ext' e5
        replace o4 := o4.ext' e5
        simp [sem_build_res, he, B1.sk _ _ x5]
        refine ef_appendE o2 rfl (srcOf_rowM (rr.ext x5)) (by rw [boolsM_len]; simpa using rr.len) boolsM_one rfl (by omega) (by omega) ?_
        intro s6 h6 o6 n6 e6 l6 q6
        have x6 := x5.trans e6
        have z6 := e6.size
        have w6 : h.size ≤ s6.b := by rcases q6 with q | q <;> omega
        replace o4 := o4.ext' e6
        replace o5 := o5.ext' e6
        simp [sem_build_res, he, B1.sk _ _ x6]
        exact fin _ _ _ _ x6 o4 o5 o6 w4 w5 w6 _
    · skip
      refine ef_bslice0_box ?_
      intro b1 h1 g1 o1 e1
      have x1 := x0.trans e1
      have z1 := e1.size
      simp [sem_build_res, he, B1.sk _ _ x1]
      refine ⟨?_, ?_⟩
      · skip
        refine ef_bslice0_box ?_
        intro b2 h2 g2 o2 e2
        have x2 := x1.trans e2
        have z2 := e2.size
        replace o1 := o1.ext' e2
        simp [sem_build_res, he, B1.sk _ _ x2]
        refine ⟨?_, ?_⟩
        · skip
          refine ef_appendE o2 rfl (srcOf_row64 (rf.ext x2)) (by rw [ints64_len]; simpa using rf.len) ints64_one rfl (by omega) (by omega) ?_
          intro s3 h3 o3 n3 e3 l3 q3
          have x3 := x2.trans e3
          have z3 := e3.size
          have w3 : h.size ≤ s3.b := by rcases q3 with q | q <;> omega
          replace o1 := o1.ext' e3
          simp [sem_build_res, he, B1.sk _ _ x3]
          refine ef_bslice0_box ?_
          intro b4 h4 g4 o4 e4
          have x4 := x3.trans e4
          have z4 := e4.size
          replace o1 := o1.ext' e4
          replace o3 := o3.ext' e4
          simp [sem_build_res, he, B1.sk _ _ x4]
          refine ef_appendE o4 rfl (srcOf_rowM (rn.ext x4)) (by rw [boolsM_len]; simpa using rn.len) boolsM_one rfl (by omega) (by omega) ?_
          intro s5 h5 o5 n5 e5 l5 q5
          have x5 := x4.trans e5
          have z5 := e5.size
          have w5 : h.size ≤ s5.b := by rcases q5 with q | q <;> omega
          replace o1 := o1.ext' e5
          replace o3 := o3.ext' e5
          simp [sem_build_res, he, B1.sk _ _ x5]
          refine ef_appendE o1 rfl (srcOf_rowM (rr.ext x5)) (by rw [boolsM_len]; simpa using rr.len) boolsM_one rfl (by omega) (by omega) ?_
          intro s6 h6 o6 n6 e6 l6 q6
          have x6 := x5.trans e6
          have z6 := e6.size
          have w6 : h.size ≤ s6.b := by rcases q6 with q | q <;> omega
          replace o3 := o3.ext' e6
          replace o5 := o5.ext' e6
          simp [sem_build_res, he, B1.sk _ _ x6]
          exact fin _ _ _ _ x6 o3 o5 o6 w3 w5 w6 _
        · skip
          refine ef_bslice0_box ?_
          intro b3 h3 g3 o3 e3
          have x3 := x2.trans e3
          have z3 := e3.size
          replace o1 := o1.ext' e3
          replace o2 := o2.ext' e3
          simp [sem_build_res, he, B1.sk _ _ x3]
          refine ef_appendE o2 rfl (srcOf_row64 (rf.ext x3)) (by rw [ints64_len]; simpa using rf.len) ints64_one rfl (by omega) (by omega) ?_
          intro s4 h4 o4 n4 e4 l4 q4
          have x4 := x3.trans e4
          have z4 := e4.size
          have w4 : h.size ≤ s4.b := by rcases q4 with q | q <;> omega
          replace o1 := o1.ext' e4
          replace o3 := o3.ext' e4
          simp [sem_build_res, he, B1.sk _ _ x4]
          refine ef_appendE o3 rfl (srcOf_rowM (rn.ext x4)) (by rw [boolsM_len]; simpa using rn.len) boolsM_one rfl (by omega) (by omega) ?_
          intro s5 h5 o5 n5 e5 l5 q5
          have x5 := x4.trans e5
          have z5 := e5.size
          have w5 : h.size ≤ s5.b := by rcases q5 with q | q <;> omega
          replace o1 := o1.ext' e5
          replace o4 := o4.ext' e5
          simp [sem_build_res, he, B1.sk _ _ x5]
          refine ef_appendE o1 rfl (srcOf_rowM (rr.ext x5)) (by rw [boolsM_len]; simpa using rr.len) boolsM_one rfl (by omega) (by omega) ?_
          intro s6 h6 o6 n6 e6 l6 q6
          have x6 := x5.trans e6
          have z6 := e6.size
          have w6 : h.size ≤ s6.b := by rcases q6 with q | q <;> omega
          replace o4 := o4.ext' e6
          replace o5 := o5.ext' e6
          simp [sem_build_res, he, B1.sk _ _ x6]
          exact fin _ _ _ _ x6 o4 o5 o6 w4 w5 w6 _
      · skip
        refine ef_bslice0_box ?_
        intro b2 h2 g2 o2 e2
        have x2 := x1.trans e2
        have z2 := e2.size
        replace o1 := o1.ext' e2
        simp [sem_build_res, he, B1.sk _ _ x2]
        refine ef_bslice0_box ?_
        intro b3 h3 g3 o3 e3
        have x3 := x2.trans e3
        have z3 := e3.size
        replace o1 := o1.ext' e3
        replace o2 := o2.ext' e3
        simp [sem_build_res, he, B1.sk _ _ x3]
        refine ef_appendE o3 rfl (srcOf_row64 (rf.ext x3)) (by rw [ints64_len]; simpa using rf.len) ints64_one rfl (by omega) (by omega) ?_
        intro s4 h4 o4 n4 e4 l4 q4
        have x4 := x3.trans e4
        have z4 := e4.size
        have w4 : h.size ≤ s4.b := by rcases q4 with q | q <;> omega
        replace o1 := o1.ext' e4
        replace o2 := o2.ext' e4
        simp [sem_build_res, he, B1.sk _ _ x4]
        refine ef_appendE o2 rfl (srcOf_rowM (rn.ext x4)) (by rw [boolsM_len]; simpa using rn.len) boolsM_one rfl (by omega) (by omega) ?_
        intro s5 h5 o5 n5 e5 l5 q5
        have x5 := x4.trans e5
        have z5 := e5.size
        have w5 : h.size ≤ s5.b := by rcases q5 with q | q <;> omega
        replace o1 := o1.ext' e5
        replace o4 := o4.ext' e5
        simp [sem_build_res, he, B1.sk _ _ x5]
        refine ef_appendE o1 rfl (srcOf_rowM (rr.ext x5)) (by rw [boolsM_len]; simpa using rr.len) boolsM_one rfl (by omega) (by omega) ?_
        intro s6 h6 o6 n6 e6 l6 q6
        have x6 := x5.trans e6
        have z6 := e6.size
        have w6 : h.size ≤ s6.b := by rcases q6 with q | q <;> omega
        replace o4 := o4.ext' e6
        replace o5 := o5.ext' e6
        simp [sem_build_res, he, B1.sk _ _ x6]
        exact fin _ _ _ _ x6 o4 o5 o6 w4 w5 w6 _
end
end Go.Rm

/- The laws of flows: known. -/
set_option linter.unusedSimpArgs false
set_option linter.unusedVariables false
namespace Go.Rm
theorem chk_of {N : Nat} {es : List (Int × Int)} {src dst : List Int} (c : ChkOK N es src dst) : chkW N es src dst = wOK := by
  have h1 := bad1_none (p := fun i => inE N (nthE es i)) (n := es.length) c.ends
  have h2 := bad1_none (p := fun i => inV N (nthI src i)) (n := src.length) c.sr
  have h3 := bad1_none (p := fun i => inV N (nthI dst i)) (n := dst.length) c.ds
  have h4 : (dst.any fun v => decide (v ∈ src)) = false := by
    rw [Bool.eq_false_iff]
    intro h
    obtain ⟨x, hx, hd⟩ := List.any_eq_true.1 h
    have hd' : x ∈ src := of_decide_eq_true hd
    obtain ⟨j, hj, he⟩ := List.getElem_of_mem hx
    obtain ⟨v, hv, lv⟩ := inV_nat (c.ds j hj)
    rw [nthI_at hj, he] at hv
    subst hv
    exact c.dj v hd' hx
  have n1 : ¬ (N : Int) < 0 := by omega
  have n2 : ¬ 4096 < (N : Int) := by have := c.n; omega
  have n3 : ¬ 16384 < es.length := by have := c.e; omega
  simp only [chkW, n1, n2, n3, h1, h2, h3, h4, if_false, Bool.false_eq_true]
/-- a square with one edge across -/
abbrev sqE : List (Int × Int) := [(0, 1), (0, 2), (1, 2), (1, 3), (3, 2), (3, 3)]
theorem sq_chk : ChkOK 4 sqE [0] [3] := by
  refine ⟨by decide, by decide, ?_, ?_, ?_, ?_⟩
  · intro i hi
    have : i < 6 := hi
    have h : ∀ i : Fin 6, inE 4 (nthE sqE i) = true := by decide
    exact h ⟨i, this⟩
  · intro i hi
    have : i = 0 := by simp at hi; omega
    subst this; decide
  · intro i hi
    have : i = 0 := by simp at hi; omega
    subst this; decide
  · intro v h1 h2
    simp [inSetN] at h1 h2
    omega
theorem sq_cross {S : Nat → Bool} {fl : List Int} : crossS S (edL sqE fl) = (if S 0 ≠ S 1 then 1 else 0) + ((if S 0 ≠ S 2 then 1 else 0) + ((if S 1 ≠ S 2 then 1 else 0) + ((if S 1 ≠ S 3 then 1 else 0) + ((if S 3 ≠ S 2 then 1 else 0) + ((if S 3 ≠ S 3 then 1 else 0) + 0))))) := rfl
theorem sq_max {fl : List Int} {val : Int} {near far : Nat → Bool} (m : MaxOf 4 (edL sqE fl) (inSetN [0]) (inSetN [3]) val near far) :
    val = 2 ∧ near 0 = true ∧ near 1 = false ∧ near 2 = false ∧ near 3 = false ∧ far 0 = true ∧ far 1 = true ∧ far 2 = true ∧ far 3 = false := by
  have hA : ∀ v, inSetN [0] v ↔ v = 0 := fun v => by simp [inSetN] <;> omega
  have hB : ∀ v, inSetN [3] v ↔ v = 3 := fun v => by simp [inSetN] <;> omega
  have n0 := m.nearA 0 ((hA 0).2 rfl)
  have n3 := m.apart 3 ((hB 3).2 rfl)
  have f0 := m.farA 0 ((hA 0).2 rfl)
  have f3 := m.farB 3 ((hB 3).2 rfl)
  have c1 : crossS (fun v => decide (v = 0)) (edL sqE fl) = 2 := by rw [sq_cross]; decide
  have c2 : crossS (fun v => decide (v < 3)) (edL sqE fl) = 2 := by rw [sq_cross]; decide
  have le := m.le (S := fun v => decide (v = 0)) (fun v a => by rw [hA] at a; simp [a]) (fun v b => by rw [hB] at b; simp [b])
  have cn := m.crossNear
  rw [sq_cross, n0, n3] at cn
  rw [c1] at le
  have hv : val = 2 := by
    cases h1 : near 1 <;> cases h2 : near 2 <;> simp [h1, h2] at cn <;> try omega
  have b1 := m.between (S := fun v => decide (v = 0)) (fun v a => by rw [hA] at a; simp [a]) (fun v b => by rw [hB] at b; simp [b]) (by rw [c1, hv])
  have b2 := m.between (S := fun v => decide (v < 3)) (fun v a => by rw [hA] at a; simp [a]) (fun v b => by rw [hB] at b; simp [b]) (by rw [c2, hv])
  have q1 := (b1 1 (by omega)).1
  have q2 := (b1 2 (by omega)).1
  have q3 := (b2 1 (by omega)).2
  have q4 := (b2 2 (by omega)).2
  simp at q1 q2 q3 q4
  exact ⟨hv, n0, q1, q2, n3, f0, q3, q4, f3⟩
theorem len4 {l : List Bool} {a b c d : Bool} (hl : l.length = 4) (h0 : nthM l 0 = a) (h1 : nthM l 1 = b) (h2 : nthM l 2 = c) (h3 : nthM l 3 = d) : l = [a, b, c, d] := by
  match l, hl with
  | [x, y, z, w], _ => simp [nthM] at h0 h1 h2 h3; simp [h0, h1, h2, h3]
section
variable {Y : Sys} {h h' : Heap}
theorem flto_spec (H : Y.Has F.rlaw9_To S_rlaw9_To) {val : Int} {sf sn sr : Sl} {fl : List Int} {near far : List Bool} (rf : Row64 h sf fl) (rn : RowM h sn near) (rr : RowM h sr far) (bf : sf.n ≤ 1000000) (bn : sn.n ≤ 1000000) (br : sr.n ≤ 1000000)
    {R : Value → Heap → Prop} (hr : ∀ h' s t u, Ext h h' → Row64 h' s fl → RowM h' t near → RowM h' u far → R (.agg #[.int .i64 val, s.v, t.v, u.v]) h') :
    CallP Y F.rlaw9_To [.agg #[.int .i64 val, sf.v, sn.v, sr.v]] h R := by
  rw [toS_eq] at H
  refine .of_has H rfl ?_
  simp [toS, FnS.wp]
  refine ef_new_box ?_
  intro B h1 g1 B1 e1
  simp
  refine ef_new_box ?_
  intro p h2 g2 P2 e2
  have B2 := B1.ext e2
  have x2 := e1.trans e2
  have lB := B2.lt
  simp [B2.hc]
  refine toAlt_wp (B := B) (p2 := p) (rf.ext x2) (rn.ext x2) (rr.ext x2) bf bn br B2 (by simp) ?_
  intro g s t u x r1 r2 r3 w1 w2 w3 T
  have Pg := P2.ext x
  refine ef_store_box Pg rfl rfl (by simp) ?_
  intro g' Pg' mg
  simp
  refine resP_x rfl Pg' rfl ?_
  have lp := P2.lt
  exact hr g' s t u (Mod.toExtF (x2.trans x) mg (by have := e1.size; omega)) (r1.mod mg (fun _ => by omega)).row64 (r2.mod mg (fun _ => by omega)).rowM (r3.mod mg (fun _ => by omega)).rowM
@[simp] theorem sem_buildA2 {z0 z1 : Value} {a b : Int} : IOp.sem Y h (.buildA 1 #[z0, z1] [0, 1]) [.int .i64 a, .int .i64 b] = some (.agg #[.int .i64 a, .int .i64 b]) := by
  rfl
structure KnownFns (Y : Sys) : Prop where
  M : MaxFns Y
  P : ProvesFns Y
  copies : Y.Has F.rlaw9_copies S_rlaw9_copies
  same : Y.Has F.rref11_SameBools S_rref11_SameBools
  At : Y.Has F.rref6_At S_rref6_At
  Tells : Y.Has F.rlaw1_Tells S_rlaw1_Tells
  known : Y.Has F.rlaw9_known S_rlaw9_known
theorem known_spec (K : KnownFns Y) (E : ErrSys Y) (hg : hc h E.gb 0 = some E.hv) {R : Value → Heap → Prop} (hr : ∀ h', Ext h h' → R (.bool true) h') : CallP Y F.rlaw9_known [] h R := by
  refine .of_has K.known rfl ?_
  simp [S_rlaw9_known, FnS.wp]
  refine ef_bslice_all rfl rfl rfl ?_ (by omega)
  intro b h1 g1 B1 e1 o1
  have oe : Own h1 2 (Sl.at b 6 6) (pairC sqE) := o1
  have re := oe.rowE
  simp
  refine copies_spec K.copies (se := Sl.at b 6 6) re (by decide) ?_
  intro s2 h2 e2 o2 nl2 b2
  have re2 := o2.rowE
  simp
  refine ef_bslice_all rfl rfl rfl ?_ (by omega)
  intro b3 h3 g3 B3 e3 o3
  have r3 : Row64 h3 (Sl.at b3 1 1) [0] := Own.row64 (cs := [0]) o3
  simp
  refine ef_bslice_all rfl rfl rfl ?_ (by omega)
  intro b4 h4 g4 B4 e4 o4
  have r4 : Row64 h4 (Sl.at b4 1 1) [3] := Own.row64 (cs := [3]) o4
  simp
  refine flmax_spec (n := 4) (ss := Sl.at b3 1 1) (sd := Sl.at b4 1 1) K.M ((re2.ext e3).ext e4) (r3.ext e4) r4 (by simp) (by simp) ?_ ?_
  · intro h5 v e5 _ _ hne
    exact absurd (by rw [show (4 : Int) = ((4 : Nat) : Int) from rfl, chk_of sq_chk]; rfl) hne
  intro h5 val fl near far sf sn sr e5 pv rf rn rr
  have m := pv.most sq_chk
  obtain ⟨hv, n0, n1, n2, n3, f0, f1, f2, f3⟩ := sq_max m
  have hn : near = [true, false, false, false] := len4 pv.nlen n0 n1 n2 n3
  have hf : far = [true, true, true, false] := len4 pv.flen f0 f1 f2 f3
  subst hv hn hf
  have x5 := (((e1.trans e2).trans e3).trans e4).trans e5
  simp
  refine ef_new_box ?_
  intro B h6 g6 B6 e6
  simp
  refine ef_store_box B6 rfl rfl (by simp) ?_
  intro h7 B7 m7
  have e7 : Ext h5 h7 := Mod.toExtF e6 m7 g6
  have x7 := x5.trans e7
  have re7 : RowE h7 (Sl.at b 6 6) sqE := re.ext ((((e2.trans e3).trans e4).trans e5).trans e7)
  simp
  refine ef_bslice_all rfl rfl rfl ?_ (by omega)
  intro b8 h8 g8 _ e8 o8
  have r8 : Row64 h8 (Sl.at b8 1 1) [0] := Own.row64 (cs := [0]) o8
  simp
  refine ef_bslice_all rfl rfl rfl ?_ (by omega)
  intro b9 h9 g9 _ e9 o9
  have r9 : Row64 h9 (Sl.at b9 1 1) [0] := Own.row64 (cs := [0]) o9
  have x9 := (x7.trans e8).trans e9
  have hw : chkW 4 sqE [0] [0] = atW wFlow 2 6 := by decide
  simp
  refine flmax_spec (n := 4) (se := Sl.at b 6 6) (ss := Sl.at b8 1 1) (sd := Sl.at b9 1 1) K.M ((re7.ext e8).ext e9) (r8.ext e9) r9 (by simp) (by simp) ?_ ?_
  rotate_left
  · intro h10 val2 fl2 near2 far2 sf2 sn2 sr2 e10 pv2
    have := pv2.chk
    rw [hw] at this
    cases this
  intro h10 v e10 f10 _ _
  rw [hw] at f10
  have x10 := x9.trans e10
  simp
  refine ef_new_box ?_
  intro B' h11 g11 B11 e11
  simp
  refine ef_store_box B11 rfl rfl (by simp) ?_
  intro h12 B12 m12
  have e12 : Ext h10 h12 := Mod.toExtF e11 m12 g11
  have x12 := x10.trans e12
  have y12 : Ext h7 h12 := ((e8.trans e9).trans e10).trans e12
  have B12 := B7.ext y12
  have z12 : Ext h5 h12 := e7.trans y12
  have rf12 := rf.ext z12
  have rn12 := rn.ext z12
  have rr12 := rr.ext z12
  have f12 := f10.ext e12
  simp [B12.hc]
  refine ef_bslice_all rfl rfl rfl ?_ (by omega)
  intro b13 h13 g13 _ e13 o13
  have r13 : RowM h13 (Sl.at b13 4 4) [true, false, false, false] := Own.rowM o13
  simp
  refine sameB_spec (t := Sl.at b13 4 4) K.same (rn12.ext e13) r13 (by simp) ?_
  simp [(B12.ext e13).hc]
  refine ef_bslice_all rfl rfl rfl ?_ (by omega)
  intro b14 h14 g14 _ e14 o14
  have r14 : RowM h14 (Sl.at b14 4 4) [true, true, true, false] := Own.rowM o14
  simp
  refine sameB_spec (t := Sl.at b14 4 4) K.same ((rr12.ext e13).ext e14) r14 (by simp) ?_
  simp
  refine ef_bslice_all rfl rfl rfl ?_ (by omega)
  intro b15 h15 g15 _ e15 o15
  have r15 : Row64 h15 (Sl.at b15 1 1) [0] := Own.row64 (cs := [0]) o15
  simp
  refine ef_bslice_all rfl rfl rfl ?_ (by omega)
  intro b16 h16 g16 _ e16 o16
  have r16 : Row64 h16 (Sl.at b16 1 1) [3] := Own.row64 (cs := [3]) o16
  have y16 : Ext h12 h16 := ((e13.trans e14).trans e15).trans e16
  have x16 := x12.trans y16
  have sfn : sf.n ≤ 1000000 := by have := rf.len; have := pv.ok.1; simp at this; omega
  simp [rd_blk (B12.ext y16)]
  refine flproves_spec (n := 4) (val := 2) (se := Sl.at b 6 6) (ss := Sl.at b15 1 1) (sd := Sl.at b16 1 1) K.P (re7.ext (y12.trans y16)) (r15.ext e16) r16 (rf12.ext y16) (rn12.ext y16) (rr12.ext y16) (by simp) (by simp) sfn ?_
  intro h17 c e17 hc17
  have hc1 : c = true := hc17.2 pv
  subst hc1
  simp
  refine rat_spec K.At ?_
  intro h18 w e18 hw18
  have x18 := (x16.trans e17).trans e18
  simp
  refine tells_spec (ps := [(wFlow, 2)]) (c := 6) K.Tells E (x18.hc hg (fun h => h)) hw18.here ((f12.ext ((y16.trans e17).trans e18)).here : Err _ _ _ _) (by simp) (by simp) ?_
  intro h19 e19
  have x19 := x18.trans e19
  simp
  refine ef_bslice_all rfl rfl rfl ?_ (by omega)
  intro b20 h20 g20 _ e20 o20
  have r20 : Row64 h20 (Sl.at b20 1 1) [0] := Own.row64 (cs := [0]) o20
  simp
  refine ef_bslice_all rfl rfl rfl ?_ (by omega)
  intro b21 h21 g21 _ e21 o21
  have r21 : Row64 h21 (Sl.at b21 1 1) [3] := Own.row64 (cs := [3]) o21
  have x21 := (x19.trans e20).trans e21
  have y21 : Ext h16 h21 := ((((e17.trans e18).trans e19).trans e20).trans e21)
  have r0 : Row64 h21 Sl.nil [] := ⟨Sl.nil_ok, rfl, fun i hi => by simp at hi⟩
  have m0 : RowM h21 Sl.nil [] := ⟨Sl.nil_ok, rfl, fun i hi => by simp at hi⟩
  simp
  refine flproves_spec (n := 4) (val := 0) (se := Sl.at b 6 6) (ss := Sl.at b20 1 1) (sd := Sl.at b21 1 1) (sf := Sl.nil) (sn := Sl.nil) (sr := Sl.nil) K.P (re7.ext ((y12.trans y16).trans y21)) (r20.ext e21) r21 r0 m0 m0 (by simp) (by simp) (by decide) ?_
  intro h22 c e22 hc22
  have hc0 : c = false := by
    cases c with
    | false => rfl
    | true => have := (hc22.1 rfl).nlen; simp at this
  subst hc0
  simp
  exact hr h22 (x21.trans e22)
end
end Go.Rm

/- The laws of flows: FlowProves, FlowMore. -/
set_option linter.unusedSimpArgs false
set_option linter.unusedVariables false
namespace Go.Rm
structure FlowLaw (Y : Sys) : Prop where
  K : KnownFns Y
  R : RProvesFns Y
  Cross : Y.Has F.rref11_Cross S_rref11_Cross
  marked : Y.Has F.rref11_marked S_rref11_marked
section
variable {Y : Sys} {h h' : Heap}
theorem flowproves_law (L : FlowLaw Y) (HT : Y.Has F.rlaw9_To S_rlaw9_To) (H : Y.Has F.rlaw9_FlowProves S_rlaw9_FlowProves) (E : ErrSys Y) (hg : hc h E.gb 0 = some E.hv) {n val : Int} {se ss sd sf sn sr : Sl} {es : List (Int × Int)} {src dst fl : List Int} {near far : List Bool}
    (re : RowE h se es) (rs : Row64 h ss src) (rd' : Row64 h sd dst) (rf : Row64 h sf fl) (rn : RowM h sn near) (rr : RowM h sr far)
    {R : Value → Heap → Prop} (hr : ∀ h', Ext h h' → R (.bool true) h') :
    CallP Y F.rlaw9_FlowProves [.int .i64 n, se.v, ss.v, sd.v, .agg #[.int .i64 val, sf.v, sn.v, sr.v]] h R := by
  have le := re.len
  refine .of_has H rfl ?_
  simp [S_rlaw9_FlowProves, FnS.wp]
  refine ef_new_box ?_
  intro B h1 g1 B1 e1
  simp
  refine known_spec L.K E (e1.hc hg (fun h => h)) ?_
  intro h2 e2
  have x2 := e1.trans e2
  have B2 := B1.ext e2
  simp
  by_cases c0 : (60 : Int) < n
  · have c0b : ¬ n ≤ 60 := by omega
    simp [B2.hc, c0, c0b]; exact hr h2 x2
  have c0b : n ≤ 60 := by omega
  by_cases c1 : (150 : Int) < se.n
  · have c1b : ¬ (se.n : Int) ≤ 150 := by omega
    have c1c : 150 < se.n := by omega
    have c1d : ¬ se.n ≤ 150 := by omega
    simp [B2.hc, c0, c0b, c1, c1b, c1c, c1d]; exact hr h2 x2
  have c1b : (se.n : Int) ≤ 150 := by omega
  have c1c : ¬ 150 < se.n := by omega
  have c1d : se.n ≤ 150 := by omega
  by_cases c2 : (80 : Int) < ss.n
  · have c2b : ¬ (ss.n : Int) ≤ 80 := by omega
    have c2c : 80 < ss.n := by omega
    have c2d : ¬ ss.n ≤ 80 := by omega
    simp [B2.hc, c0, c0b, c1, c1b, c1c, c1d, c2, c2b, c2c, c2d]; exact hr h2 x2
  have c2b : (ss.n : Int) ≤ 80 := by omega
  have c2c : ¬ 80 < ss.n := by omega
  have c2d : ss.n ≤ 80 := by omega
  by_cases c3 : (80 : Int) < sd.n
  · have c3b : ¬ (sd.n : Int) ≤ 80 := by omega
    have c3c : 80 < sd.n := by omega
    have c3d : ¬ sd.n ≤ 80 := by omega
    simp [B2.hc, c0, c0b, c1, c1b, c1c, c1d, c2, c2b, c2c, c2d, c3, c3b, c3c, c3d]; exact hr h2 x2
  have c3b : (sd.n : Int) ≤ 80 := by omega
  have c3c : ¬ 80 < sd.n := by omega
  have c3d : sd.n ≤ 80 := by omega
  by_cases c4 : (200 : Int) < sf.n
  · have c4b : ¬ (sf.n : Int) ≤ 200 := by omega
    have c4c : 200 < sf.n := by omega
    have c4d : ¬ sf.n ≤ 200 := by omega
    simp [B2.hc, c0, c0b, c1, c1b, c1c, c1d, c2, c2b, c2c, c2d, c3, c3b, c3c, c3d, c4, c4b, c4c, c4d]; exact hr h2 x2
  have c4b : (sf.n : Int) ≤ 200 := by omega
  have c4c : ¬ 200 < sf.n := by omega
  have c4d : sf.n ≤ 200 := by omega
  by_cases c5 : (100 : Int) < sn.n
  · have c5b : ¬ (sn.n : Int) ≤ 100 := by omega
    have c5c : 100 < sn.n := by omega
    have c5d : ¬ sn.n ≤ 100 := by omega
    simp [B2.hc, c0, c0b, c1, c1b, c1c, c1d, c2, c2b, c2c, c2d, c3, c3b, c3c, c3d, c4, c4b, c4c, c4d, c5, c5b, c5c, c5d]; exact hr h2 x2
  have c5b : (sn.n : Int) ≤ 100 := by omega
  have c5c : ¬ 100 < sn.n := by omega
  have c5d : sn.n ≤ 100 := by omega
  by_cases c6 : (100 : Int) < sr.n
  · have c6b : ¬ (sr.n : Int) ≤ 100 := by omega
    have c6c : 100 < sr.n := by omega
    have c6d : ¬ sr.n ≤ 100 := by omega
    simp [B2.hc, c0, c0b, c1, c1b, c1c, c1d, c2, c2b, c2c, c2d, c3, c3b, c3c, c3d, c4, c4b, c4c, c4d, c5, c5b, c5c, c5d, c6, c6b, c6c, c6d]; exact hr h2 x2
  have c6b : (sr.n : Int) ≤ 100 := by omega
  have c6c : ¬ 100 < sr.n := by omega
  have c6d : sr.n ≤ 100 := by omega
  simp [B2.hc, c0, c0b, c1, c1b, c1c, c1d, c2, c2b, c2c, c2d, c3, c3b, c3c, c3d, c4, c4b, c4c, c4d, c5, c5b, c5c, c5d, c6, c6b, c6c, c6d, rd_blk B2]
  refine copies_spec L.K.copies (re.ext x2) (by omega) ?_
  intro s3 h3 e3 o3 nl3 b3
  have x3 := x2.trans e3
  have B3 := B2.ext e3
  simp [rd_blk B3]
  refine flto_spec HT (rf.ext x3) (rn.ext x3) (rr.ext x3) (by omega) (by omega) (by omega) ?_
  intro h4 s t u e4 rf4 rn4 rr4
  have x4 := x3.trans e4
  have B4 := B3.ext e4
  have lf4 := rf4.len
  have lf := rf.len
  simp [rd_blk B4]
  refine flproves_spec L.K.P (o3.ext' e4).rowE (rs.ext x4) (rd'.ext x4) rf4 rn4 rr4 (by omega) (by omega) (by omega) ?_
  intro h5 a e5 ha
  have x5 := x4.trans e5
  simp [rd_blk (B4.ext e5)]
  refine rproves_spec L.R (re.ext x5) (rs.ext x5) (rd'.ext x5) (rf.ext x5) (rn.ext x5) (rr.ext x5) (by omega) (by omega) (by omega) (by omega) (by omega) ?_
  intro h6 b e6 hb
  have hab : a = b := by rw [Bool.eq_iff_iff, ha, hb]
  simp [hab]
  exact hr h6 (x5.trans e6)
end
end Go.Rm
