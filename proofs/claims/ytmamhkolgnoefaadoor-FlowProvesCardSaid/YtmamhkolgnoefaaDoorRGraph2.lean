import Derived.Test.YtmamhkolgnoefaaDoorRGraph
import Derived.Test.YtmamhkolgnoefaaDoorRLaw3g
import Derived.Test.YtmamhkolgnoefaaDoorSNums

/- Graphs: clone of a net. -/
set_option linter.unusedSimpArgs false
set_option linter.unusedVariables false
namespace Go.Rm

/-- a net whose memory is one's own, laid at lo or above -/
structure NetOwn (h : Heap) (lo : Nat) (s1 s2 s3 : Sl) (P : List (Tab × Sl)) (N : NetD) : Prop where
  o1 : Own h 3 s1 (cells3 (N.vs.map triV))
  o2 : Own h 3 s2 (cells3 (N.as.map triV))
  o3 : Own h 3 s3 (cells3 (P.map tabP))
  hP : P.map Prod.fst = N.ts
  row : ∀ p ∈ P, Row64 h p.2 p.1.cs
  f1 : s1.nl = false → lo ≤ s1.b
  f2 : s2.nl = false → lo ≤ s2.b
  f3 : s3.nl = false → lo ≤ s3.b
  fr : ∀ p ∈ P, p.1.cs ≠ [] → lo ≤ p.2.b ∧ (s1.nl = false → p.2.b ≠ s1.b) ∧ (s2.nl = false → p.2.b ≠ s2.b) ∧ (s3.nl = false → p.2.b ≠ s3.b)
  d12 : s1.nl = false → s2.nl = false → s1.b ≠ s2.b
  d13 : s1.nl = false → s3.nl = false → s1.b ≠ s3.b
  d23 : s2.nl = false → s3.nl = false → s2.b ≠ s3.b

section
variable {Y : Sys} {h h' : Heap}

theorem Row64.lt {s : Sl} {cs : List Int} (r : Row64 h s cs) (hne : cs ≠ []) : s.b < h.size := by
  rcases Nat.lt_or_ge s.b h.size with q | q
  · exact q
  · have := r.val 0 (List.length_pos_iff.2 hne)
    simp [hc, Array.getElem?_eq_none q] at this
theorem NetOwn.mod {S : Nat → Prop} {lo : Nat} {s1 s2 s3 : Sl} {P : List (Tab × Sl)} {N : NetD} (o : NetOwn h lo s1 s2 s3 P N) (m : Mod S h h') (hs : ∀ b, S b → b < lo) : NetOwn h' lo s1 s2 s3 P N :=
  { o with
    o1 := o.o1.mod m fun hn hb => by have := hs _ hb; have := o.f1 hn; omega
    o2 := o.o2.mod m fun hn hb => by have := hs _ hb; have := o.f2 hn; omega
    o3 := o.o3.mod m fun hn hb => by have := hs _ hb; have := o.f3 hn; omega
    row := fun p hp => (o.row p hp).mod m fun hne hb => by have := hs _ hb; have := (o.fr p hp hne).1; omega }
theorem NetOwn.ext {lo : Nat} {s1 s2 s3 : Sl} {P : List (Tab × Sl)} {N : NetD} (o : NetOwn h lo s1 s2 s3 P N) (m : Ext h h') : NetOwn h' lo s1 s2 s3 P N := o.mod m fun _ h => h.elim

@[simp] theorem sem_build_vvv {z0 z1 z2 : Value} {s t u : Sl} : IOp.sem Y h (.build #[z0, z1, z2] [(0, 1), (1, 1), (2, 1)] [0, 1, 2]) [s.v, t.v, u.v] = some (.agg #[s.v, t.v, u.v]) := sem_build3 rfl rfl rfl
end
end Go.Rm
