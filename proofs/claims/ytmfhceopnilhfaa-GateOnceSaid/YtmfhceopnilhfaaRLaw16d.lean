import Derived.Test.YtmfhceopnilhfaaRLaw16

/- The laws of gates: GateOnce. -/
set_option linter.unusedSimpArgs false
set_option linter.unusedVariables false
namespace Go.Rm

/-- the two rows that are made, in whichever order -/
def goAlt : IL := (.alt (.op (.ef (.mkslice 1 8 #[(.int .i64 0)]) [(.t 2), (.t 2)] .push) (.op (.stab (.load 1 .false) [(.t 3)] (.t 4)) (.alt (.op (.ef (.mkslice 1 8 #[(.int .i64 0)]) [(.t 5), (.t 5)] .push) (.op (.op .mv [(.t 6)] (.set 9)) (.op (.op .mv [(.t 7)] (.set 10)) .nil))) (.op (.op .mv [(.t 6)] (.set 9)) (.op (.stab (.load 1 .false) [(.t 3)] (.t 4)) (.op (.ef (.mkslice 1 8 #[(.int .i64 0)]) [(.t 5), (.t 5)] .push) (.op (.op .mv [(.t 7)] (.set 10)) .nil))))))) (.op (.ef (.mkslice 1 8 #[(.int .i64 0)]) [(.t 5), (.t 5)] .push) (.op (.stab (.load 1 .false) [(.t 0)] (.t 1)) (.op (.ef (.mkslice 1 8 #[(.int .i64 0)]) [(.t 2), (.t 2)] .push) (.op (.op .mv [(.t 7)] (.set 9)) (.op (.op .mv [(.t 6)] (.set 10)) .nil))))))
def gateOnceS : FnS := ⟨2, 31, (.seq (.reg (.op (.ef .new [(.n 0)] (.set 2)) (.op (.ef .new [(.n 1)] (.set 3)) (.op (.op .mv [(.c (.bool .false))] (.set 4)) .nil)))) (.seq (.seq (.reg (.op (.call 170 [] .push) (.op (.op (.un .not) [(.t 0)] (.set 19)) .nil))) (.cond (.n 19) (.seq (.reg (.op (.op .mv [(.c (.bool .false))] (.set 4)) .nil)) .ret) .skip)) (.seq (.seq (.reg (.op (.op (.load 3 .true) [(.n 2)] .push) (.op (.op (.load 1 .true) [(.n 3)] .push) (.op (.call 171 [(.t 0), (.t 1)] .push) (.op (.op (.un .not) [(.t 2)] (.set 20)) .nil))))) (.cond (.n 20) (.seq (.reg (.op (.op .mv [(.c (.bool .true))] (.set 4)) .nil)) .ret) .skip)) (.seq (.reg (.op (.op (.load 3 .true) [(.n 2)] .push) (.op (.call 172 [(.t 0)] .push) (.op (.op .mv [(.t 1)] (.set 5)) .nil)))) (.seq (.seq (.reg (.op (.op (.eqp .false) [(.n 5), (.c (.pointer .none))] (.set 21)) .nil)) (.cond (.n 21) (.seq (.reg (.op (.op .mv [(.c (.bool .false))] (.set 4)) .nil)) .ret) .skip)) (.seq (.reg (.op (.op (.load 1 .true) [(.n 3)] .push) (.op (.call 173 [(.t 0)] .push) (.op (.ef .new [(.c (.agg #[(.slice .none 0 0)]))] (.set 6)) (.op (.ef (.store 1) [(.n 6), (.t 1)] .drop) .nil))))) (.seq (.reg (.op (.op (.load 1 .true) [(.n 6)] .push) (.op (.call 174 [(.n 5), (.t 0)] .push) (.op (.op .mv [(.t 1)] (.set 7)) .nil)))) (.seq (.seq (.reg (.op (.op .mv [(.c (.int .i64 0))] (.set 8)) .nil)) (.block 0 (.loop (.seq (.seq (.reg (.op (.op .len [(.n 7)] .push) (.op (.op (.ib .lss) [(.n 8), (.t 0)] (.set 22)) .nil))) (.cond (.n 22) .skip (.exit 0))) (.seq (.block 1 (.seq (.reg (.op (.op (.fadr 1) [(.n 2)] .push) (.op (.op (.load 1 .false) [(.t 0)] .push) (.op (.op .len [(.t 1)] .push) (.op (.op (.fadr 1) [(.n 2)] .push) (.op (.op (.load 1 .false) [(.t 3)] .push) (.op (.op .len [(.t 4)] .push) goAlt))))))) (.seq (.seq (.reg (.op (.op .mv [(.c (.int .i64 0))] (.set 11)) .nil)) (.block 2 (.loop (.seq (.seq (.reg (.op (.op (.idxa 1) [(.n 7), (.n 8)] .push) (.op (.op (.load 1 .false) [(.t 0)] .push) (.op (.op .len [(.t 1)] .push) (.op (.op (.ib .lss) [(.n 11), (.t 2)] (.set 23)) .nil))))) (.cond (.n 23) .skip (.exit 2))) (.seq (.block 3 (.seq (.seq (.reg (.op (.op .mv [(.c (.int .i64 0))] (.set 12)) .nil)) (.block 4 (.loop (.seq (.seq (.reg (.op (.op (.idxa 1) [(.n 7), (.n 8)] .push) (.op (.op (.load 1 .false) [(.t 0)] .push) (.op (.op (.idxa 2) [(.t 1), (.n 11)] .push) (.op (.op (.fadr 0) [(.t 2)] .push) (.op (.op (.load 1 .false) [(.t 3)] .push) (.op (.op .len [(.t 4)] .push) (.op (.op (.ib .lss) [(.n 12), (.t 5)] (.set 24)) .nil)))))))) (.cond (.n 24) .skip (.exit 4))) (.seq (.block 5 (.seq (.reg (.op (.op (.idxa 1) [(.n 7), (.n 8)] .push) (.op (.op (.load 1 .false) [(.t 0)] .push) (.op (.op (.idxa 2) [(.t 1), (.n 11)] .push) (.op (.op (.fadr 0) [(.t 2)] .push) (.op (.op (.load 1 .false) [(.t 3)] .push) (.op (.op (.idxa 1) [(.t 4), (.n 12)] .push) (.op (.op (.load 1 .false) [(.t 5)] .push) (.op (.op .mv [(.t 6)] (.set 13)) .nil))))))))) (.seq (.seq (.reg (.op (.op (.load 3 .true) [(.n 2)] .push) (.op (.call 130 [(.t 0), (.n 13)] .push) (.op (.op (.un .not) [(.t 1)] .push) (.gd (.t 2) .false (.op (.op .mv [(.n 5)] .push) (.op (.op (.load 1 .true) [(.n 6)] .push) (.op (.op .mv [(.n 8)] .push) (.op (.op (.ib .add) [(.t 5), (.c (.int .i64 1))] .push) (.op (.op .mv [(.n 13)] .push) (.op (.call 176 [(.t 3), (.t 4), (.t 6), (.t 7)] .push) (.op (.op .mv [(.n 11)] .push) (.op (.op (.ib .neq) [(.t 8), (.t 9)] .push) .nil)))))))) [.push, .push, .push, .push, .push, .push, .push, .push] (.op (.op .pick [(.t 2), (.c (.bool .true)), (.t 10)] .push) (.gd (.t 11) .false (.op (.op .mv [(.n 7)] .push) (.op (.op .mv [(.n 8)] .push) (.op (.op (.idxa 1) [(.t 12), (.t 13)] .push) (.op (.op (.load 1 .false) [(.t 14)] .push) (.op (.op .mv [(.n 11)] .push) (.op (.op (.idxa 2) [(.t 15), (.t 16)] .push) (.op (.op (.fadr 0) [(.t 17)] .push) (.op (.op (.load 1 .false) [(.t 18)] .push) (.op (.op .mv [(.n 13)] .push) (.op (.call 181 [(.t 19), (.t 20)] .push) (.op (.op .mv [(.n 12)] .push) (.op (.op (.ib .neq) [(.t 21), (.t 22)] .push) .nil)))))))))))) [.push, .push, .push, .push, .push, .push, .push, .push, .push, .push, .push, .push] (.op (.op .pick [(.t 11), (.c (.bool .true)), (.t 23)] .push) (.gd (.t 24) .false (.op (.op .mv [(.n 8)] .push) (.op (.op (.ib .gtr) [(.t 25), (.c (.int .i64 0))] .push) (.op (.op .mv [(.t 26)] .push) .nil))) [.push, .push, .push] (.gd (.t 27) .true (.op (.op .mv [(.n 5)] .push) (.op (.op (.load 1 .true) [(.n 6)] .push) (.op (.op .mv [(.n 8)] .push) (.op (.op .mv [(.n 13)] .push) (.op (.call 176 [(.t 28), (.t 29), (.t 30), (.t 31)] .push) (.op (.op (.ib .lss) [(.t 32), (.c (.int .i64 0))] .push) .nil)))))) [.push, .push, .push, .push, .push, .push] (.gd (.t 24) .false (.op (.op .pick [(.t 27), (.t 33), (.c (.bool .false))] .push) .nil) [.push] (.op (.op .pick [(.t 24), (.c (.bool .true)), (.t 34)] (.set 25)) .nil)))))))))))) (.cond (.n 25) (.seq (.reg (.op (.op .mv [(.c (.bool .false))] (.set 4)) .nil)) .ret) .skip)) (.reg (.op (.op (.idxa 1) [(.n 9), (.n 13)] .push) (.op (.op (.load 1 .false) [(.t 0)] .push) (.op (.op (.ib .add) [(.t 1), (.c (.int .i64 1))] .push) (.op (.op (.idxa 1) [(.n 9), (.n 13)] .push) (.op (.ef (.store 1) [(.t 3), (.t 2)] .drop) .nil))))))))) (.reg (.op (.op (.ib .add) [(.n 12), (.c (.int .i64 1))] .push) (.op (.op .mv [(.t 0)] (.set 12)) .nil)))))))) (.seq (.reg (.op (.op .mv [(.c (.int .i64 0))] (.set 14)) .nil)) (.block 6 (.loop (.seq (.seq (.reg (.op (.op (.idxa 1) [(.n 7), (.n 8)] .push) (.op (.op (.load 1 .false) [(.t 0)] .push) (.op (.op (.idxa 2) [(.t 1), (.n 11)] .push) (.op (.op (.fadr 1) [(.t 2)] .push) (.op (.op (.load 1 .false) [(.t 3)] .push) (.op (.op .len [(.t 4)] .push) (.op (.op (.ib .lss) [(.n 14), (.t 5)] (.set 26)) .nil)))))))) (.cond (.n 26) .skip (.exit 6))) (.seq (.block 7 (.seq (.reg (.op (.op (.idxa 1) [(.n 7), (.n 8)] .push) (.op (.op (.load 1 .false) [(.t 0)] .push) (.op (.op (.idxa 2) [(.t 1), (.n 11)] .push) (.op (.op (.fadr 1) [(.t 2)] .push) (.op (.op (.load 1 .false) [(.t 3)] .push) (.op (.op (.idxa 1) [(.t 4), (.n 14)] .push) (.op (.op (.load 1 .false) [(.t 5)] .push) (.op (.op .mv [(.t 6)] (.set 15)) .nil))))))))) (.seq (.seq (.reg (.op (.op (.load 3 .true) [(.n 2)] .push) (.op (.call 130 [(.t 0), (.n 15)] .push) (.op (.op (.un .not) [(.t 1)] .push) (.gd (.t 2) .false (.op (.op .mv [(.n 5)] .push) (.op (.op (.load 1 .true) [(.n 6)] .push) (.op (.op .mv [(.n 8)] .push) (.op (.op (.ib .add) [(.t 5), (.c (.int .i64 1))] .push) (.op (.op .mv [(.n 15)] .push) (.op (.call 178 [(.t 3), (.t 4), (.t 6), (.t 7)] .push) (.op (.op .mv [(.n 11)] .push) (.op (.op (.ib .neq) [(.t 8), (.t 9)] .push) .nil)))))))) [.push, .push, .push, .push, .push, .push, .push, .push] (.op (.op .pick [(.t 2), (.c (.bool .true)), (.t 10)] .push) (.gd (.t 11) .false (.op (.op .mv [(.n 7)] .push) (.op (.op .mv [(.n 8)] .push) (.op (.op (.idxa 1) [(.t 12), (.t 13)] .push) (.op (.op (.load 1 .false) [(.t 14)] .push) (.op (.op .mv [(.n 11)] .push) (.op (.op (.idxa 2) [(.t 15), (.t 16)] .push) (.op (.op (.fadr 1) [(.t 17)] .push) (.op (.op (.load 1 .false) [(.t 18)] .push) (.op (.op .mv [(.n 15)] .push) (.op (.call 181 [(.t 19), (.t 20)] .push) (.op (.op .mv [(.n 14)] .push) (.op (.op (.ib .neq) [(.t 21), (.t 22)] .push) .nil)))))))))))) [.push, .push, .push, .push, .push, .push, .push, .push, .push, .push, .push, .push] (.op (.op .pick [(.t 11), (.c (.bool .true)), (.t 23)] .push) (.gd (.t 24) .false (.op (.op .mv [(.n 8)] .push) (.op (.op (.ib .gtr) [(.t 25), (.c (.int .i64 0))] .push) (.op (.op .mv [(.t 26)] .push) .nil))) [.push, .push, .push] (.gd (.t 27) .true (.op (.op .mv [(.n 5)] .push) (.op (.op (.load 1 .true) [(.n 6)] .push) (.op (.op .mv [(.n 8)] .push) (.op (.op .mv [(.n 15)] .push) (.op (.call 178 [(.t 28), (.t 29), (.t 30), (.t 31)] .push) (.op (.op (.ib .lss) [(.t 32), (.c (.int .i64 0))] .push) .nil)))))) [.push, .push, .push, .push, .push, .push] (.gd (.t 24) .false (.op (.op .pick [(.t 27), (.t 33), (.c (.bool .false))] .push) .nil) [.push] (.op (.op .pick [(.t 24), (.c (.bool .true)), (.t 34)] (.set 27)) .nil)))))))))))) (.cond (.n 27) (.seq (.reg (.op (.op .mv [(.c (.bool .false))] (.set 4)) .nil)) .ret) .skip)) (.reg (.op (.op (.idxa 1) [(.n 10), (.n 15)] .push) (.op (.op (.load 1 .false) [(.t 0)] .push) (.op (.op (.ib .add) [(.t 1), (.c (.int .i64 1))] .push) (.op (.op (.idxa 1) [(.n 10), (.n 15)] .push) (.op (.ef (.store 1) [(.t 3), (.t 2)] .drop) .nil))))))))) (.reg (.op (.op (.ib .add) [(.n 14), (.c (.int .i64 1))] .push) (.op (.op .mv [(.t 0)] (.set 14)) .nil)))))))))) (.reg (.op (.op (.ib .add) [(.n 11), (.c (.int .i64 1))] .push) (.op (.op .mv [(.t 0)] (.set 11)) .nil)))))))) (.seq (.reg (.op (.op (.load 3 .true) [(.n 2)] .push) (.op (.op (.load 1 .true) [(.n 3)] .push) (.op (.op (.ib .add) [(.n 8), (.c (.int .i64 1))] .push) (.op (.call 182 [(.t 0), (.t 1), (.t 2)] .push) (.op (.op .mv [(.t 3)] (.set 16)) .nil)))))) (.seq (.reg (.op (.op .mv [(.c (.int .i64 0))] (.set 17)) .nil)) (.block 8 (.loop (.seq (.seq (.reg (.op (.op (.fadr 1) [(.n 2)] .push) (.op (.op (.load 1 .false) [(.t 0)] .push) (.op (.op .len [(.t 1)] .push) (.op (.op (.ib .lss) [(.n 17), (.t 2)] (.set 28)) .nil))))) (.cond (.n 28) .skip (.exit 8))) (.seq (.block 9 (.seq (.reg (.op (.op .mv [(.c (.int .i64 0))] (.set 18)) .nil)) (.seq (.seq (.reg (.op (.call 131 [(.n 16), (.n 17)] .push) (.op (.op (.ib .geq) [(.t 0), (.c (.int .i64 0))] (.set 29)) .nil))) (.cond (.n 29) (.reg (.op (.op .mv [(.c (.int .i64 1))] (.set 18)) .nil)) .skip)) (.seq (.reg (.op (.op (.idxa 1) [(.n 9), (.n 17)] .push) (.op (.op (.load 1 .false) [(.t 0)] .push) (.op (.op (.ib .neq) [(.t 1), (.n 18)] .push) (.gd (.t 2) .false (.op (.op .mv [(.n 10)] .push) (.op (.op .mv [(.n 17)] .push) (.op (.op (.idxa 1) [(.t 3), (.t 4)] .push) (.op (.op (.load 1 .false) [(.t 5)] .push) (.op (.op .mv [(.n 18)] .push) (.op (.op (.ib .neq) [(.t 6), (.t 7)] .push) .nil)))))) [.push, .push, .push, .push, .push, .push] (.op (.op .pick [(.t 2), (.c (.bool .true)), (.t 8)] (.set 30)) .nil)))))) (.cond (.n 30) (.seq (.reg (.op (.op .mv [(.c (.bool .false))] (.set 4)) .nil)) .ret) .skip))))) (.reg (.op (.op (.ib .add) [(.n 17), (.c (.int .i64 1))] .push) (.op (.op .mv [(.t 0)] (.set 17)) .nil)))))))))))) (.reg (.op (.op (.ib .add) [(.n 8), (.c (.int .i64 1))] .push) (.op (.op .mv [(.t 0)] (.set 8)) .nil)))))))) (.seq (.reg (.op (.op .len [(.n 7)] .push) (.op (.op (.fadr 0) [(.n 3)] .push) (.op (.op (.load 1 .false) [(.t 1)] .push) (.op (.op .len [(.t 2)] .push) (.op (.op (.ib .eql) [(.t 0), (.t 3)] .push) (.op (.op .mv [(.t 4)] (.set 4)) .nil))))))) .ret))))))))), [(.n 4)]⟩
theorem gateOnceS_eq : S_rlaw16_GateOnce = gateOnceS := rfl

/-- the cell at an end of an arc -/
def cellE (N : NetD) (row : List Int) (b : Bool) (a : Int) : Int := nthI row (if b then (nthT N.as a.toNat).a.toNat else (nthT N.as a.toNat).b.toNat)
theorem gateC_mem {N : NetD} {row x : List Int} {b : Bool} {c : Nat} {a : Int} : a ∈ gateC N row x b c ↔ a ∈ x ∧ cellE N row b a = c := by simp [gateC, cellE]
def inS (N : NetD) (row x : List Int) (b : Bool) (c k : Nat) : List Int := (List.range N.as.length).map fun (a : Nat) => if ((a : Int) ∈ x ∧ cellE N row b a < c) ∨ (a : Int) ∈ (gateC N row x b c).take k then (1 : Int) else 0
@[simp] theorem inS_len {N : NetD} {row x : List Int} {b : Bool} {c k : Nat} : (inS N row x b c k).length = N.as.length := by simp [inS]
theorem inS_at {N : NetD} {row x : List Int} {b : Bool} {c k a : Nat} (ha : a < N.as.length) : nthI (inS N row x b c k) a = if ((a : Int) ∈ x ∧ cellE N row b a < c) ∨ (a : Int) ∈ (gateC N row x b c).take k then (1 : Int) else 0 := by simp [nthI, inS, ha]
theorem rises_filter {l : List Int} {p : Int → Bool} (h : Rises l) : Rises (l.filter p) := by
  have hp : l.Pairwise (· < ·) := by
    rw [List.pairwise_iff_getElem]
    intro i j hi hj hij
    have := h i j hij hj
    simpa [nthI, hi, hj] using this
  have := hp.filter p
  intro i j hij hj
  rw [List.pairwise_iff_getElem] at this
  have := this i j (by omega) hj hij
  simpa [nthI, hj, show i < (l.filter p).length by omega] using this
theorem rises_idxF {p : Tri → Bool} : ∀ {l : List Tri} {k : Nat}, (idxF p k l).Pairwise (· < ·) := by
  intro l
  induction l with
  | nil => intro k; simp [idxF]
  | cons x r ih =>
    intro k
    have e : idxF p k (x :: r) = (if p x then [(k : Int)] else []) ++ idxF p (k + 1) r := by simp only [idxF]; split <;> simp_all
    rw [e, List.pairwise_append]
    refine ⟨by split <;> simp, ih, fun a ha b hb => ?_⟩
    obtain ⟨i, h1, h2, h3⟩ := mem_idxF.1 hb
    split at ha
    · simp at ha; omega
    · simp at ha
theorem rises_of {l : List Int} (h : l.Pairwise (· < ·)) : Rises l := by
  intro i j hij hj
  rw [List.pairwise_iff_getElem] at h
  have := h i j (by omega) hj hij
  simpa [nthI, hj, show i < l.length by omega] using this
theorem crossL_rises {N : NetD} {L : List (List Int)} {l : Int} : Rises (crossL N L l) := rises_of rises_idxF
theorem rises_nodup {l : List Int} (h : Rises l) {k : Nat} (hk : k < l.length) : ¬ nthI l k ∈ l.take k := by
  intro hm
  obtain ⟨i, hi, e⟩ := mem_nth hm
  have hi' : i < k := by simp at hi; omega
  have := h i k hi' hk
  rw [show nthI (l.take k) i = nthI l i by simp [nthI, List.getElem?_take, hi']] at e
  omega

section
variable {N : NetD} {L : List (List Int)} {i : Nat}
theorem inS_step {row x : List Int} {b : Bool} {c k a : Nat} (hr : Rises x) (hk : k < (gateC N row x b c).length) (ha : nthI (gateC N row x b c) k = (a : Int)) (han : a < N.as.length) :
    nthI (inS N row x b c k) a = 0 ∧ (inS N row x b c k).set a 1 = inS N row x b c (k + 1) := by
  have hm : (a : Int) ∈ gateC N row x b c := by rw [← ha, show nthI (gateC N row x b c) k = (gateC N row x b c)[k] by simp [nthI, hk]]; exact List.getElem_mem hk
  have hce := (gateC_mem.1 hm).2
  have hnd := rises_nodup (rises_filter (p := fun a => decide (nthI row (if b then (nthT N.as a.toNat).a.toNat else (nthT N.as a.toNat).b.toNat) = (c : Int))) hr) (k := k) hk
  change ¬ nthI (gateC N row x b c) k ∈ (gateC N row x b c).take k at hnd
  rw [ha] at hnd
  refine ⟨?_, ?_⟩
  · rw [inS_at han, if_neg]
    rintro (⟨_, h⟩ | h)
    · omega
    · exact hnd h
  · apply List.ext_getElem (by simp)
    intro j h1 h2
    rw [List.getElem_set]
    simp only [inS, List.getElem_map, List.getElem_range]
    have ht : (gateC N row x b c).take (k + 1) = (gateC N row x b c).take k ++ [(a : Int)] := by rw [List.take_succ_eq_append_getElem hk, ← ha]; simp [nthI, hk]
    rw [ht]
    by_cases e : a = j
    · subst e; simp
    · have : ¬ (j : Int) = (a : Int) := by omega
      simp [e, this]
theorem inS_next {row x : List Int} {b : Bool} {c k : Nat} (hk : (gateC N row x b c).length ≤ k) : inS N row x b c k = inS N row x b (c + 1) 0 := by
  unfold inS
  refine List.map_congr_left (fun a _ => ?_)
  rw [List.take_of_length_le hk]
  simp only [List.take_zero, List.not_mem_nil, or_false, gateC_mem]
  congr 1
  apply propext
  constructor
  · rintro (⟨h1, h2⟩ | ⟨h1, h2⟩)
    · exact ⟨h1, by omega⟩
    · exact ⟨h1, by omega⟩
  · rintro ⟨h1, h2⟩
    rcases Int.lt_or_le (cellE N row b a) c with g | g
    · exact .inl ⟨h1, g⟩
    · exact .inr ⟨h1, by omega⟩
theorem cellE_in (ok : NetOK N) (pk : PartOK N.vs.length L) (hi : i < L.length) {a : Nat} (ha : a < N.as.length) (b : Bool) : 0 ≤ cellE N (nthL L i) b a ∧ cellE N (nthL L i) b a < gateN L i := by
  obtain ⟨_, _, _, rv⟩ := cells_row pk hi
  obtain ⟨x, y, hx, hy, hxn, hyn⟩ := (CellsOf.of ok pk).arc ha
  unfold cellE
  cases b with
  | true =>
    obtain ⟨c, h1, h2⟩ := rv x hxn
    simp [hx, h1]; omega
  | false =>
    obtain ⟨c, h1, h2⟩ := rv y hyn
    simp [hy, h1]; omega
theorem inS_first (ok : NetOK N) (pk : PartOK N.vs.length L) (hi : i < L.length) {x : List Int} {b : Bool} : inS N (nthL L i) x b 0 0 = List.replicate N.as.length 0 := by
  apply List.ext_getElem (by simp)
  intro j h1 h2
  have hj : j < N.as.length := by simpa using h1
  have := (cellE_in ok pk hi hj b).1
  simp [inS]
  omega
theorem inS_last (ok : NetOK N) (pk : PartOK N.vs.length L) (hi : i < L.length) {x : List Int} {b : Bool} {a : Nat} (ha : a < N.as.length) : nthI (inS N (nthL L i) x b (gateN L i) 0) a = if (a : Int) ∈ x then 1 else 0 := by
  have := (cellE_in ok pk hi ha b).2
  rw [inS_at ha]
  simp [this]
/-- who crosses at a level crosses at each level below, too -/
theorem cross_below (ok : NetOK N) (pk : PartOK N.vs.length L) (hi : i + 1 < L.length) {a : Int} (h : a ∈ crossL N L (((i + 1 : Nat) : Int) + 1)) : a ∈ crossL N L ((i : Int) + 1) := by
  obtain ⟨h1, h2⟩ := mem_crossL.1 h
  refine mem_crossL.2 ⟨h1, ?_⟩
  rw [lvl_at hi] at h2
  rw [lvl_at (by omega)]
  obtain ⟨z1, _, _, z4⟩ := lvE_zero (pk.lv (i + 1) hi)
  obtain ⟨y1, _, _, _⟩ := lvE_zero (pk.lv i (by omega))
  unfold crossE at h2 ⊢
  simp only [decide_eq_true_eq] at h2 ⊢
  obtain ⟨q1, q2, q3⟩ := h2
  refine ⟨by omega, by omega, fun e => q3 ?_⟩
  have e1 := z4 (by omega) _ (by omega) _ (by omega) (show nthI (nthL L (i + 1 - 1)) (nthT N.as a.toNat).a.toNat ≤ nthI (nthL L (i + 1 - 1)) (nthT N.as a.toNat).b.toNat by simp only [Nat.add_sub_cancel]; omega)
  have e2 := z4 (by omega) _ (by omega) _ (by omega) (show nthI (nthL L (i + 1 - 1)) (nthT N.as a.toNat).b.toNat ≤ nthI (nthL L (i + 1 - 1)) (nthT N.as a.toNat).a.toNat by simp only [Nat.add_sub_cancel]; omega)
  omega
end

section
variable {Y : Sys} {h h' : Heap}
theorem goAlt_wp {K : Kont} {e : List Value} {B n : Nat} {cs : Array Value} {v : Value} (bB : Blk h B cs) (hv : cs[1]? = some v) (hn : n ≤ 1000000)
    (hk : ∀ b1 b2 h1 T1, Ext h h1 → h.size ≤ b1 → h.size ≤ b2 → b1 ≠ b2 → Own h1 1 (Sl.at b1 n n) (ints64 (List.replicate n 0)) → Own h1 1 (Sl.at b2 n n) (ints64 (List.replicate n 0)) →
      K ((e.set 9 (.slice (some ⟨b1, 0, none⟩) n n)).set 10 (.slice (some ⟨b2, 0, none⟩) n n)) T1 h1) :
    IL.wp Y K goAlt e [.pointer (some ⟨B, 1, none⟩), v, .int .i64 n, .pointer (some ⟨B, 1, none⟩), v, .int .i64 n] h := by
  have fin : ∀ {K' : Kont} {T : List Value}, True := trivial
  simp [goAlt]
  refine ⟨?_, ?_⟩
  · refine ef_make64 (n := n) hn rfl ?_
    intro b1 h1 g1 o1 e1 l1
    simp [(bB.ext e1).hc, hv]
    refine ⟨?_, ?_⟩
    · refine ef_make64 (n := n) hn rfl ?_
      intro b2 h2 g2 o2 e2 l2
      simp
      have := e1.size
      exact hk b1 b2 h2 _ (e1.trans e2) g1 (by omega) (by omega) (o1.ext' e2) o2
    · refine ef_make64 (n := n) hn rfl ?_
      intro b2 h2 g2 o2 e2 l2
      simp
      have := e1.size
      exact hk b1 b2 h2 _ (e1.trans e2) g1 (by omega) (by omega) (o1.ext' e2) o2
  · refine ef_make64 (n := n) hn rfl ?_
    intro b2 h1 g1 o1 e1 l1
    simp [(bB.ext e1).hc, hv]
    refine ef_make64 (n := n) hn rfl ?_
    intro b1 h2 g2 o2 e2 l2
    simp
    have := e1.size
    exact hk b1 b2 h2 _ (e1.trans e2) (by omega) g1 (by omega) o2 (o1.ext' e2)
end
end Go.Rm
