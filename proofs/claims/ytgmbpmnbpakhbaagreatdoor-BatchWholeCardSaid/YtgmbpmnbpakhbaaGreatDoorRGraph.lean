import Derived.Test.YtgmbpmnbpakhbaaGreatDoorRNet15

/- Graphs: May and To of nets by themselves; clones; makes. -/
set_option linter.unusedSimpArgs false
set_option linter.unusedVariables false
namespace Go.Rm

section
variable {Y : Sys} {h : Heap}

/-- slices.Clone of rows of three cells -/
theorem cloneV_spec (HC : Y.Has F.slices_Clone_net_Vert_net_Vert S_slices_Clone_net_Vert_net_Vert) {s : Sl} {l : List Tri} (r : Row3 h s l) (hbig : s.n ≤ 1000000) {R : Value → Heap → Prop}
    (hr : ∀ h' s', Ext h h' → Own h' 3 s' (cells3 (l.map triV)) → (s'.nl = false → h.size ≤ s'.b) → R s'.v h') : CallP Y F.slices_Clone_net_Vert_net_Vert [s.v] h R := by
  have hl := r.len
  refine .of_has HC rfl ?_
  cases hnl : s.nl with
  | true =>
    have : l = [] := List.eq_nil_of_length_eq_zero (by rw [r.len]; exact (r.ok.nil hnl).1)
    subst this
    simp [S_slices_Clone_net_Vert_net_Vert, FnS.wp, hnl]
    exact hr h Sl.nil (Mod.refl h) Own.nil (fun h => (by cases h))
  | false =>
    simp [S_slices_Clone_net_Vert_net_Vert, FnS.wp, hnl]
    refine ef_bslice0_box ?_
    intro b h1 g1 o1 e1
    simp
    refine ef_appendE o1 lenV_slv (srcOf_row3 (r.ext e1)) (by rw [cells3_len, List.length_map, hl]) cells3_one rfl (by omega) (by omega) ?_
    intro s' h2 o2 n2 e2 nl2 hs2
    simp
    have := e1.size
    exact hr h2 s' (e1.trans e2) o2 (fun _ => by omega)
theorem cloneA_spec (HC : Y.Has F.slices_Clone_net_Arc_net_Arc S_slices_Clone_net_Arc_net_Arc) {s : Sl} {l : List Tri} (r : Row3 h s l) (hbig : s.n ≤ 1000000) {R : Value → Heap → Prop}
    (hr : ∀ h' s', Ext h h' → Own h' 3 s' (cells3 (l.map triV)) → (s'.nl = false → h.size ≤ s'.b) → R s'.v h') : CallP Y F.slices_Clone_net_Arc_net_Arc [s.v] h R := by
  have hl := r.len
  refine .of_has HC rfl ?_
  cases hnl : s.nl with
  | true =>
    have : l = [] := List.eq_nil_of_length_eq_zero (by rw [r.len]; exact (r.ok.nil hnl).1)
    subst this
    simp [S_slices_Clone_net_Arc_net_Arc, FnS.wp, hnl]
    exact hr h Sl.nil (Mod.refl h) Own.nil (fun h => (by cases h))
  | false =>
    simp [S_slices_Clone_net_Arc_net_Arc, FnS.wp, hnl]
    refine ef_bslice0_box ?_
    intro b h1 g1 o1 e1
    simp
    refine ef_appendE o1 lenV_slv (srcOf_row3 (r.ext e1)) (by rw [cells3_len, List.length_map, hl]) cells3_one rfl (by omega) (by omega) ?_
    intro s' h2 o2 n2 e2 nl2 hs2
    simp
    have := e1.size
    exact hr h2 s' (e1.trans e2) o2 (fun _ => by omega)

/-- a row of zero values is laid -/
theorem ef_makeN {K : Value → Heap → Prop} {n sz bytes : Nat} {zero : Array Value} {m : Int} (hn : n ≤ 1000000) (hby : bytes ≤ 1000) (hm : m = n)
    (hr : ∀ (b : Nat) (h' : Heap), h.size ≤ b → Own h' sz (Sl.at b n n) (zeros zero (n * sz)).toList → Ext h h' → b < h'.size → K (.slice (some ⟨b, 0, none⟩) n n) h') :
    Ef.wp h K (.mkslice sz bytes zero) [.int .i64 m, .int .i64 m] := by
  subst hm
  rw [ef_mkslice]
  refine ⟨by omega, by omega, by omega, ?_, fun t => ?_⟩
  · have : (bytes : Int) * n ≤ 1000 * 1000000 := Int.mul_le_mul (by omega) (by omega) (by omega) (by omega)
    omega
  · simp only [Int.toNat_natCast]
    refine hr h.size _ (Nat.le_refl _) ?_ Mod.push (by simp)
    exact ⟨by simp [zeros], .inr ⟨rfl, rfl, rfl, Nat.le_refl _, by simp; omega, _, Blk.new, by simp [zeros], by
      rw [List.take_of_length_le]
      simp [zeros]⟩⟩
theorem zeros_one' {v : Value} {n : Nat} : (zeros #[v] (n * 1)).toList = List.replicate n v := by
  rw [Nat.mul_one, zeros_one]
  simp
theorem zeros_two {v : Value} {n : Nat} : (zeros #[v, v] (n * 2)).toList = List.replicate (n * 2) v := by
  apply List.ext_getElem (by simp [zeros])
  intro i h1 h2
  simp only [zeros, Array.toList_map, List.getElem_map, List.getElem_replicate]
  have : ((Array.range (n * 2)).toList[i]'(by simpa [zeros] using h1)) % (#[v, v] : Array Value).size < 2 := by
    exact Nat.mod_lt _ (by simp)
  generalize ((Array.range (n * 2)).toList[i]'(by simpa [zeros] using h1)) % (#[v, v] : Array Value).size = k at this
  match k, this with
  | 0, _ => rfl
  | 1, _ => rfl
theorem zeros_tab {n : Nat} : (zeros #[.int .i64 0, .int .i64 0, .slice none 0 0] (n * 3)).toList = cells3 ((List.replicate n ((⟨0, 0, []⟩ : Tab), Sl.nil)).map tabP) := by
  apply List.ext_getElem (by rw [cells3_len]; simp [zeros])
  intro i h1 h2
  have hi : i < n * 3 := by simpa [zeros] using h1
  have hg := cells3_get (l := (List.replicate n ((⟨0, 0, []⟩ : Tab), Sl.nil)).map tabP) (i := i / 3) (by simp; omega)
  simp only [List.getElem_map, List.getElem_replicate, tabP] at hg
  obtain ⟨g0, g1, g2⟩ := hg
  have e : (zeros #[.int .i64 0, .int .i64 0, .slice none 0 0] (n * 3)).toList[i] = (#[.int .i64 0, .int .i64 0, .slice none 0 0] : Array Value)[i % 3]! := by
    simp [zeros]
  rw [e]
  have e2 : (cells3 ((List.replicate n ((⟨0, 0, []⟩ : Tab), Sl.nil)).map tabP))[i]? = some (cells3 ((List.replicate n ((⟨0, 0, []⟩ : Tab), Sl.nil)).map tabP))[i] := List.getElem?_eq_getElem h2
  have hm : i % 3 = 0 ∨ i % 3 = 1 ∨ i % 3 = 2 := by omega
  rcases hm with m | m | m
  · have q : i = i / 3 * 3 := by omega
    rw [← q, e2] at g0
    rw [m]
    simpa using g0.symm
  · have q : i = i / 3 * 3 + 1 := by omega
    rw [← q, e2] at g1
    rw [m]
    simpa using g1.symm
  · have q : i = i / 3 * 3 + 2 := by omega
    rw [← q, e2] at g2
    rw [m]
    simpa [Sl.nil_v] using g2.symm
end
end Go.Rm
