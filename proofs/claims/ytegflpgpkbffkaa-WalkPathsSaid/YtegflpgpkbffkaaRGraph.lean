import Derived.Test.YtegflpgpkbffkaaRNet15

/- Graphs: May and To of nets by themselves; clones; makes. -/
set_option linter.unusedSimpArgs false
set_option linter.unusedVariables false
namespace Go.Rm

structure NetTo (Y : Sys) : Prop where
  To3 : Y.Has F.rlaw3_To S_rlaw3_To
  To2 : Y.Has F.rlaw2_To S_rlaw2_To
structure NetMay (Y : Sys) : Prop where
  May : Y.Has F.rlaw3_May S_rlaw3_May
  Few : Y.Has F.rlaw3_Few S_rlaw3_Few
  R1 : RefNet Y
  RT : RefTabC Y

section
variable {Y : Sys} {h : Heap}

theorem mayS_spec (L : NetMay Y) {sv sa st : Sl} {N : NetD} (r : NetH h sv sa st N) {R : Value → Heap → Prop} (hr : ∀ h', Ext h h' → R (.bool (mayD N)) h') : CallP Y F.rlaw3_May [netV sv sa st] h R := by
  refine .of_has L.May rfl ?_
  simp [S_rlaw3_May, FnS.wp, netV]
  refine ef_new_box ?_
  intro B hB gB bB eB
  have cB : ∀ g, Ext g h → Ext g hB := fun g e => Mod.trans e eB
  simp (config := { maxDischargeDepth := 60 }) [cB, bB.sk, bB.rk]
  refine few_spec L.Few (r.ext eB) ?_
  intro h1 e1
  have c_h1 : ∀ g, Ext g hB → Ext g h1 := fun g e => Mod.trans e e1
  have x1 := eB.trans e1
  by_cases c : fewD N = true
  rotate_left
  · have c' : fewD N = false := by simpa using c
    simp [mayD, c'] at hr
    simp (config := { maxDischargeDepth := 60 }) [cB, bB.sk, bB.rk, c_h1, c']
    exact hr _ x1
  simp [mayD, c] at hr
  simp (config := { maxDischargeDepth := 60 }) [cB, bB.sk, bB.rk, c_h1, c]
  refine rchecknet_spec L.R1 L.RT (r.ext x1) ?_
  intro h2 v e2 hv
  obtain ⟨ps, rfl⟩ := hv.here.shape
  simp
  exact hr _ (x1.trans e2)
theorem toS_spec (L : NetTo Y) {sv sa st : Sl} {N : NetD} (r : NetH h sv sa st N) (hf : fewD N = true)
    {R : Value → Heap → Prop} (hr : ∀ h' s1 s2 s3, Ext h h' → NetH h' s1 s2 s3 N → R (netV s1 s2 s3) h') : CallP Y F.rlaw3_To [netV sv sa st] h R := by
  obtain ⟨a, b, c, d, _⟩ := few_small hf
  exact to3_spec L.To3 L.To2 r (by omega) (by omega) (by omega) (fun i hi => by have := d i hi; omega) hr

/-- slices.Clone of rows of three cells -/
theorem cloneV_spec (HC : Y.Has F.slices_Clone_net_Vert_net_Vert S_slices_Clone_net_Vert_net_Vert) {s : Sl} {l : List Tri} (r : Row3 h s l) (hbig : s.n ≤ 1000000) {R : Value → Heap → Prop}
    (hr : ∀ h' s', Ext h h' → Own h' 3 s' (cells3 (l.map triV)) → (s'.nl = false → h.size ≤ s'.b) → R s'.v h') : CallP Y F.slices_Clone_net_Vert_net_Vert [s.v] h R := by
  have hl := r.len
  refine .of_has HC rfl ?_
  cases hnl : s.nl with
  | true =>
    have : l = [] := List.eq_nil_of_length_eq_zero (by rw [r.len]; exact (r.ok.nil hnl).1)
    subst this
    simp [S_slices_Clone_net_Vert_net_Vert, FnS.wp, hnl]
    exact hr h Sl.nil (Mod.refl h) Own.nil (fun h => (by cases h))
  | false =>
    simp [S_slices_Clone_net_Vert_net_Vert, FnS.wp, hnl]
    refine ef_bslice0_box ?_
    intro b h1 g1 o1 e1
    simp
    refine ef_appendE o1 lenV_slv (srcOf_row3 (r.ext e1)) (by rw [cells3_len, List.length_map, hl]) cells3_one rfl (by omega) (by omega) ?_
    intro s' h2 o2 n2 e2 nl2 hs2
    simp
    have := e1.size
    exact hr h2 s' (e1.trans e2) o2 (fun _ => by omega)
theorem cloneA_spec (HC : Y.Has F.slices_Clone_net_Arc_net_Arc S_slices_Clone_net_Arc_net_Arc) {s : Sl} {l : List Tri} (r : Row3 h s l) (hbig : s.n ≤ 1000000) {R : Value → Heap → Prop}
    (hr : ∀ h' s', Ext h h' → Own h' 3 s' (cells3 (l.map triV)) → (s'.nl = false → h.size ≤ s'.b) → R s'.v h') : CallP Y F.slices_Clone_net_Arc_net_Arc [s.v] h R := by
  have hl := r.len
  refine .of_has HC rfl ?_
  cases hnl : s.nl with
  | true =>
    have : l = [] := List.eq_nil_of_length_eq_zero (by rw [r.len]; exact (r.ok.nil hnl).1)
    subst this
    simp [S_slices_Clone_net_Arc_net_Arc, FnS.wp, hnl]
    exact hr h Sl.nil (Mod.refl h) Own.nil (fun h => (by cases h))
  | false =>
    simp [S_slices_Clone_net_Arc_net_Arc, FnS.wp, hnl]
    refine ef_bslice0_box ?_
    intro b h1 g1 o1 e1
    simp
    refine ef_appendE o1 lenV_slv (srcOf_row3 (r.ext e1)) (by rw [cells3_len, List.length_map, hl]) cells3_one rfl (by omega) (by omega) ?_
    intro s' h2 o2 n2 e2 nl2 hs2
    simp
    have := e1.size
    exact hr h2 s' (e1.trans e2) o2 (fun _ => by omega)

/-- slices.Clone of a row of numbers -/
theorem cloneI_spec (HC : Y.Has F.slices_Clone_int_int S_slices_Clone_int_int) {s : Sl} {l : List Int} (r : Row64 h s l) (hbig : s.n ≤ 1000000) {R : Value → Heap → Prop}
    (hr : ∀ h' s', Ext h h' → Own h' 1 s' (ints64 l) → (s'.nl = false → h.size ≤ s'.b) → R s'.v h') : CallP Y F.slices_Clone_int_int [s.v] h R := by
  have hl := r.len
  refine .of_has HC rfl ?_
  cases hnl : s.nl with
  | true =>
    have : l = [] := List.eq_nil_of_length_eq_zero (by rw [r.len]; exact (r.ok.nil hnl).1)
    subst this
    simp [S_slices_Clone_int_int, FnS.wp, hnl]
    exact hr h Sl.nil (Mod.refl h) Own.nil (fun h => (by cases h))
  | false =>
    simp [S_slices_Clone_int_int, FnS.wp, hnl]
    refine ef_bslice0_box ?_
    intro b h1 g1 o1 e1
    simp
    refine ef_appendE o1 lenV_slv (srcOf_row64 (r.ext e1)) (by rw [ints64_len, hl, Nat.mul_one]) ints64_one rfl (by omega) (by omega) ?_
    intro s' h2 o2 n2 e2 nl2 hs2
    simp
    have := e1.size
    exact hr h2 s' (e1.trans e2) o2 (fun _ => by omega)

/-- a row of zero values is laid -/
theorem ef_makeN {K : Value → Heap → Prop} {n sz bytes : Nat} {zero : Array Value} {m : Int} (hn : n ≤ 1000000) (hby : bytes ≤ 1000) (hm : m = n)
    (hr : ∀ (b : Nat) (h' : Heap), h.size ≤ b → Own h' sz (Sl.at b n n) (zeros zero (n * sz)).toList → Ext h h' → b < h'.size → K (.slice (some ⟨b, 0, none⟩) n n) h') :
    Ef.wp h K (.mkslice sz bytes zero) [.int .i64 m, .int .i64 m] := by
  subst hm
  rw [ef_mkslice]
  refine ⟨by omega, by omega, by omega, ?_, fun t => ?_⟩
  · have : (bytes : Int) * n ≤ 1000 * 1000000 := Int.mul_le_mul (by omega) (by omega) (by omega) (by omega)
    omega
  · simp only [Int.toNat_natCast]
    refine hr h.size _ (Nat.le_refl _) ?_ Mod.push (by simp)
    exact ⟨by simp [zeros], .inr ⟨rfl, rfl, rfl, Nat.le_refl _, by simp; omega, _, Blk.new, by simp [zeros], by
      rw [List.take_of_length_le]
      simp [zeros]⟩⟩
theorem zeros_one' {v : Value} {n : Nat} : (zeros #[v] (n * 1)).toList = List.replicate n v := by
  rw [Nat.mul_one, zeros_one]
  simp
theorem zeros_two {v : Value} {n : Nat} : (zeros #[v, v] (n * 2)).toList = List.replicate (n * 2) v := by
  apply List.ext_getElem (by simp [zeros])
  intro i h1 h2
  simp only [zeros, Array.toList_map, List.getElem_map, List.getElem_replicate]
  have : ((Array.range (n * 2)).toList[i]'(by simpa [zeros] using h1)) % (#[v, v] : Array Value).size < 2 := by
    exact Nat.mod_lt _ (by simp)
  generalize ((Array.range (n * 2)).toList[i]'(by simpa [zeros] using h1)) % (#[v, v] : Array Value).size = k at this
  match k, this with
  | 0, _ => rfl
  | 1, _ => rfl
theorem zeros_tab {n : Nat} : (zeros #[.int .i64 0, .int .i64 0, .slice none 0 0] (n * 3)).toList = cells3 ((List.replicate n ((⟨0, 0, []⟩ : Tab), Sl.nil)).map tabP) := by
  apply List.ext_getElem (by rw [cells3_len]; simp [zeros])
  intro i h1 h2
  have hi : i < n * 3 := by simpa [zeros] using h1
  have hg := cells3_get (l := (List.replicate n ((⟨0, 0, []⟩ : Tab), Sl.nil)).map tabP) (i := i / 3) (by simp; omega)
  simp only [List.getElem_map, List.getElem_replicate, tabP] at hg
  obtain ⟨g0, g1, g2⟩ := hg
  have e : (zeros #[.int .i64 0, .int .i64 0, .slice none 0 0] (n * 3)).toList[i] = (#[.int .i64 0, .int .i64 0, .slice none 0 0] : Array Value)[i % 3]! := by
    simp [zeros]
  rw [e]
  have e2 : (cells3 ((List.replicate n ((⟨0, 0, []⟩ : Tab), Sl.nil)).map tabP))[i]? = some (cells3 ((List.replicate n ((⟨0, 0, []⟩ : Tab), Sl.nil)).map tabP))[i] := List.getElem?_eq_getElem h2
  have hm : i % 3 = 0 ∨ i % 3 = 1 ∨ i % 3 = 2 := by omega
  rcases hm with m | m | m
  · have q : i = i / 3 * 3 := by omega
    rw [← q, e2] at g0
    rw [m]
    simpa using g0.symm
  · have q : i = i / 3 * 3 + 1 := by omega
    rw [← q, e2] at g1
    rw [m]
    simpa using g1.symm
  · have q : i = i / 3 * 3 + 2 := by omega
    rw [← q, e2] at g2
    rw [m]
    simpa [Sl.nil_v] using g2.symm
end
end Go.Rm
