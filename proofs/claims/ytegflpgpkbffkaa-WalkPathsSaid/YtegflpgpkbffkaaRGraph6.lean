import Derived.Test.YtegflpgpkbffkaaEngU
import Derived.Test.YtegflpgpkbffkaaRGraph5
import Derived.Test.YtegflpgpkbffkaaRNet16
import Derived.Test.YtegflpgpkbffkaaSNums

/- The laws of graphs: Of, Ring, Same, Do. -/
set_option linter.unusedSimpArgs false
set_option linter.unusedVariables false
namespace Go.Rm

section
variable {Y : Sys} {h h' : Heap}

set_option maxHeartbeats 1000000 in
theorem ring6_spec (HR : Y.Has F.rlaw6_Ring S_rlaw6_Ring) {R : Value → Heap → Prop} (hr : ∀ h' s1 s2 s3, Ext h h' → NetH h' s1 s2 s3 ringN → Own h' 3 s1 (cells3 (ringN.vs.map triV)) → h.size ≤ s1.b → s2.b ≠ s1.b → (∀ h'', Mod (fun j => j = s1.b) h' h'' → RowT h'' s3 ringN.ts) → R (netV s1 s2 s3) h') :
    CallP Y F.rlaw6_Ring [] h R := by
  refine .of_has HR rfl ?_
  simp [S_rlaw6_Ring, FnS.wp]
  refine ef_new_box ?_
  intro A hA gA bA eA
  have cA : ∀ g, Ext g h → Ext g hA := fun g e => Mod.trans e eA
  simp
  refine ef_bslice_all rfl rfl rfl ?_ (by omega)
  intro T1 hT1 gT1 bT1 eT1 oT1
  have cT1 : ∀ g, Ext g hA → Ext g hT1 := fun g e => Mod.trans e eT1
  simp at oT1
  simp
  refine new_store (vs := #[.int .i64 1, .int .i64 1, .slice (some ⟨T1, 0, none⟩) 1 1]) rfl rfl (by simp) ?_
  intro B1 hB1p gB1 bB1p eB1p stB1
  have cB1p : ∀ g, Ext g hT1 → Ext g hB1p := fun g e => Mod.trans e eB1p
  simp (config := { maxDischargeDepth := 60 }) [cA, bA.sk, bA.rk, cT1, cB1p]
  refine stB1 _ ?_
  intro hB1 bB1 eB1
  clear cB1p stB1 bB1p eB1p
  have cB1 : ∀ g, Ext g hT1 → Ext g hB1 := fun g e => Mod.trans e eB1
  simp
  refine ef_bslice_all rfl rfl rfl ?_ (by omega)
  intro T2 hT2 gT2 bT2 eT2 oT2
  have cT2 : ∀ g, Ext g hB1 → Ext g hT2 := fun g e => Mod.trans e eT2
  simp at oT2
  simp
  refine new_store (vs := #[.int .i64 2, .int .i64 1, .slice (some ⟨T2, 0, none⟩) 2 2]) rfl rfl (by simp) ?_
  intro B2 hB2p gB2 bB2p eB2p stB2
  have cB2p : ∀ g, Ext g hT2 → Ext g hB2p := fun g e => Mod.trans e eB2p
  simp (config := { maxDischargeDepth := 60 }) [cA, bA.sk, bA.rk, cT1, cB1, bB1.sk, bB1.rk, cT2, cB2p]
  refine stB2 _ ?_
  intro hB2 bB2 eB2
  clear cB2p stB2 bB2p eB2p
  have cB2 : ∀ g, Ext g hT2 → Ext g hB2 := fun g e => Mod.trans e eB2
  simp
  refine ef_bslice_all rfl rfl rfl ?_ (by omega)
  intro T3 hT3 gT3 bT3 eT3 oT3
  have cT3 : ∀ g, Ext g hB2 → Ext g hT3 := fun g e => Mod.trans e eT3
  simp at oT3
  simp
  refine new_store (vs := #[.int .i64 1, .int .i64 2, .slice (some ⟨T3, 0, none⟩) 2 2]) rfl rfl (by simp) ?_
  intro B3 hB3p gB3 bB3p eB3p stB3
  have cB3p : ∀ g, Ext g hT3 → Ext g hB3p := fun g e => Mod.trans e eB3p
  simp (config := { maxDischargeDepth := 60 }) [cA, bA.sk, bA.rk, cT1, cB1, bB1.sk, bB1.rk, cT2, cB2, bB2.sk, bB2.rk, cT3, cB3p]
  refine stB3 _ ?_
  intro hB3 bB3 eB3
  clear cB3p stB3 bB3p eB3p
  have cB3 : ∀ g, Ext g hT3 → Ext g hB3 := fun g e => Mod.trans e eB3
  simp [sem_build_ints3]
  refine ef_bslice_all rfl rfl rfl ?_ (by omega)
  intro V hV gV bV eV oV
  have cV : ∀ g, Ext g hB3 → Ext g hV := fun g e => Mod.trans e eV
  simp at oV
  simp [sem_build_ints3]
  refine ef_bslice_all rfl rfl rfl ?_ (by omega)
  intro W hW gW bW eW oW
  have cW : ∀ g, Ext g hV → Ext g hW := fun g e => Mod.trans e eW
  simp at oW
  simp (config := { maxDischargeDepth := 60 }) [cA, bA.sk, bA.rk, cT1, cB1, bB1.sk, bB1.rk, cT2, cB2, bB2.sk, bB2.rk, cT3, cB3, bB3.sk, bB3.rk, cV, cW]
  refine ef_bslice_all rfl rfl rfl ?_ (by omega)
  intro U hU gU bU eU oU
  have cU : ∀ g, Ext g hW → Ext g hU := fun g e => Mod.trans e eU
  simp at oU
  have zA := bA.lt
  have z1 := eT1.size
  have z2 := eB1.size
  have z3 := eT2.size
  have z4 := eB2.size
  have z5 := eT3.size
  have z6 := eB3.size
  have z7 := eV.size
  have z8 := eW.size
  have z9 := eU.size
  have y1 := bT1.lt
  have y2 := bT2.lt
  have y3 := bT3.lt
  have y4 := bV.lt
  have y5 := bW.lt
  have y6 := bU.lt
  have e8 := eW.trans eU
  have e7 := eV.trans e8
  have e6 := eB3.trans e7
  have e5 := eT3.trans e6
  have e4 := eB2.trans e5
  have e3 := eT2.trans e4
  have e2 := eB1.trans e3
  have e1 := eT1.trans e2
  simp [sem_build3]
  refine ef_store_box (bA.ext e1) rfl rfl (by simp) ?_
  intro hZ bZ mZ
  simp
  refine resP_x rfl bZ rfl ?_
  have qV := ((oV.mod e8 (fun _ h => h)).mod mZ (fun _ hj => by simp at hj; omega) : Own hZ 3 (Sl.at V 3 3) (cells3 (ringN.vs.map triV)))
  have qW := ((oW.mod eU (fun _ h => h)).mod mZ (fun _ hj => by simp at hj; omega) : Own hZ 3 (Sl.at W 4 4) (cells3 (ringN.as.map triV)))
  have q1 := ((oT1.mod e2 (fun _ h => h)).mod mZ (fun _ hj => by simp at hj; omega) : Own hZ 1 (Sl.at T1 1 1) (ints64 [2]))
  have q2 := ((oT2.mod e4 (fun _ h => h)).mod mZ (fun _ hj => by simp at hj; omega) : Own hZ 1 (Sl.at T2 2 2) (ints64 [0, 1152921504606846976]))
  have q3 := ((oT3.mod e6 (fun _ h => h)).mod mZ (fun _ hj => by simp at hj; omega) : Own hZ 1 (Sl.at T3 2 2) (ints64 [1, 5]))
  have qU := (oU.mod mZ (fun _ hj => by simp at hj; omega) : Own hZ 3 (Sl.at U 3 3) (cells3 ([((⟨1, 1, [2]⟩ : Tab), Sl.at T1 1 1), (⟨2, 1, [0, 1152921504606846976]⟩, Sl.at T2 2 2), (⟨1, 2, [1, 5]⟩, Sl.at T3 2 2)].map tabP)))
  have qT : ∀ h'', Mod (fun j => j = V) hZ h'' → RowT h'' (Sl.at U 3 3) ringN.ts := by
    intro h'' m
    have q1 := q1.mod m (fun _ hj => by simp at hj; omega)
    have q2 := q2.mod m (fun _ hj => by simp at hj; omega)
    have q3 := q3.mod m (fun _ hj => by simp at hj; omega)
    refine Own.rowT (P := [((⟨1, 1, [2]⟩ : Tab), Sl.at T1 1 1), (⟨2, 1, [0, 1152921504606846976]⟩, Sl.at T2 2 2), (⟨1, 2, [1, 5]⟩, Sl.at T3 2 2)]) (qU.mod m (fun _ hj => by simp at hj; omega)) rfl ?_
    intro p hp
    simp only [List.mem_cons, List.not_mem_nil, or_false] at hp
    rcases hp with rfl | rfl | rfl
    · exact q1.row64
    · exact q2.row64
    · exact q3.row64
  exact hr hZ (Sl.at V 3 3) (Sl.at W 4 4) (Sl.at U 3 3) (Mod.ext (eA.trans e1) mZ (fun j hj => by omega)) ⟨qV.row3, qW.row3, qT _ (Mod.refl _)⟩ qV (by simp; omega) (by simp; omega) qT

end
end Go.Rm
