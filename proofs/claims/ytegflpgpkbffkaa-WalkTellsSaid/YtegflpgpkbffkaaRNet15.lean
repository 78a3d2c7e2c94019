import Derived.Test.YtegflpgpkbffkaaRLaw3f

/- The document's nets: CopyNet. -/
set_option linter.unusedSimpArgs false
set_option linter.unusedVariables false
namespace Go.Rm

section
variable {Y : Sys} {h : Heap}

theorem ef_bslice0_box {K : Value → Heap → Prop} {sz : Nat} (hk : ∀ (b : Nat) (h' : Heap), h.size ≤ b → Own h' sz (Sl.at b 0 0) [] → Ext h h' → K (.slice (some ⟨b, 0, none⟩) 0 0) h') : Ef.wp h K (.bslice 0 sz #[] []) [] := by
  rw [ef_bslice0]
  intro t
  exact hk h.size _ (Nat.le_refl _) own_empty Mod.push
/-- append to an empty slice that has no room: nothing that was there is written -/
theorem ef_appendE {K : Value → Heap → Prop} {sz bytes m b : Nat} {zero : Array Value} {nw : List Value} {x : Value} (ho : Own h sz (Sl.at b 0 0) []) (hx : lenV x = some m) (hsrc : srcOf h sz m x = some nw)
    (hl : nw.length = m * sz) (h1 : ∀ v ∈ nw, v.oneCell' = true) (hz : zero.size = sz) (hb : m * bytes ≤ 140737488355328) (h63 : m ≤ 9223372036854775807)
    (hk : ∀ (s' : Sl) (h' : Heap), Own h' sz s' nw → s'.n = m → Ext h h' → s'.nl = false → (s'.b = b ∨ h.size ≤ s'.b) → K s'.v h') : Ef.wp h K (.append sz bytes zero) [.slice (some ⟨b, 0, none⟩) 0 0, x] := by
  simp only [Ef.wp, hx, hsrc, Nat.zero_add]
  by_cases hm : m ≤ 0
  · obtain rfl : m = 0 := by omega
    have hnw : nw = [] := List.eq_nil_of_length_eq_zero (by simpa using hl)
    subst hnw
    rw [if_pos hm]
    simp only [hst]
    exact hk (Sl.at b 0 0) h ho rfl (Mod.refl h) rfl (.inl rfl)
  · rw [if_neg hm]
    refine ⟨h63, hb, ?_⟩
    simp only [srcOf, Nat.zero_mul, rd]
    intro t nc hge hle
    refine hk (Sl.at h.size m nc) _ ?_ rfl Mod.push rfl (.inr (Nat.le_refl _))
    refine ⟨hl, .inr ⟨rfl, rfl, rfl, hge, hle, _, Blk.new, ?_, ?_⟩⟩
    · simp only [Array.size_append, List.size_toArray, size_zeroCells', hz, hl, Sl.at_c, List.length_nil, Nat.zero_add]
      rw [← Nat.add_mul]
      congr 1
      omega
    · simp only [Array.toList_append, Sl.at_n, List.nil_append]
      rw [← hl]
      exact List.take_left
theorem cells3_one {l : List Tri} : ∀ v ∈ cells3 (l.map triV), v.oneCell' = true := by
  intro v hv
  simp only [cells3, List.mem_flatMap, List.mem_map] at hv
  obtain ⟨a, ⟨t, _, rfl⟩, hv⟩ := hv
  simp only [triV, List.mem_cons, List.not_mem_nil, or_false] at hv
  rcases hv with rfl | rfl | rfl <;> rfl
theorem Row3.rdAll {s : Sl} {l : List Tri} (r : Row3 h s l) : Rm.rd h s.b s.o (l.length * 3) = some (cells3 (l.map triV)) := by
  have hl : (cells3 (l.map triV)).length = l.length * 3 := by rw [cells3_len, List.length_map]
  have := rd_of (h := h) (b := s.b) (l := cells3 (l.map triV)) (o := s.o) fun j v hj => by
    have hlt : j < l.length * 3 := by
      have := (List.getElem?_eq_some_iff.1 hj).1
      rwa [hl] at this
    have hi : j / 3 < l.length := by omega
    obtain ⟨g0, g1, g2⟩ := cells3_get (l := l.map triV) (i := j / 3) (by simpa using hi)
    simp only [List.getElem_map, triV] at g0 g1 g2
    have k0 := r.v0 _ hi
    have k1 := r.v1 _ hi
    have k2 := r.v2 _ hi
    rw [nthT_eq hi] at k0 k1 k2
    have hm : j % 3 = 0 ∨ j % 3 = 1 ∨ j % 3 = 2 := by omega
    rcases hm with m | m | m
    · have e : j = j / 3 * 3 := by omega
      rw [← e] at g0 k0
      rw [hj] at g0
      cases g0
      exact k0
    · have e : j = j / 3 * 3 + 1 := by omega
      rw [← e] at g1
      rw [hj] at g1
      cases g1
      rw [show s.o + j = s.o + j / 3 * 3 + 1 by omega]
      exact k1
    · have e : j = j / 3 * 3 + 2 := by omega
      rw [← e] at g2
      rw [hj] at g2
      cases g2
      rw [show s.o + j = s.o + j / 3 * 3 + 2 by omega]
      exact k2
  rwa [hl] at this
theorem srcOf_row3 {s : Sl} {l : List Tri} (r : Row3 h s l) : srcOf h 3 s.n s.v = some (cells3 (l.map triV)) := by
  have hr := r.rdAll
  rw [r.len] at hr
  unfold Sl.v
  cases hnl : s.nl with
  | true =>
    have : l = [] := List.eq_nil_of_length_eq_zero (by rw [r.len]; exact (r.ok.nil hnl).1)
    subst this
    rfl
  | false =>
    cases hsp : s.sp with
    | none => simp only [Bool.false_eq_true, if_false, srcOf]; exact hr
    | some q =>
      have h0 : s.n = 0 := by
        have := r.ok.spot.resolve_left (by rw [hsp]; simp)
        have := r.ok.le; omega
      have : l = [] := List.eq_nil_of_length_eq_zero (by rw [r.len]; exact h0)
      subst this
      simp [srcOf, h0, cells3]
@[simp] theorem sem_build_ssn {z0 z1 z2 : Value} {s t : Sl} : IOp.sem Y h (.build #[z0, z1, z2] [(0, 1), (1, 1), (2, 1)] [0, 1]) [s.v, t.v] = some (.agg #[s.v, t.v, z2]) := by
  simp [IOp.sem, Instr.fill]

end
end Go.Rm
