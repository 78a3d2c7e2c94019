import Derived.Test.YtmamhkolgnoefaaDoorEngU
import Derived.Test.YtmamhkolgnoefaaDoorRGraph3

/- Graphs: what they tell, Set, Bend, Net, Twin, New. -/
set_option linter.unusedSimpArgs false
set_option linter.unusedVariables false
namespace Go.Rm

abbrev wGraph : ByteArray := ⟨#[103, 114, 97, 112, 104]⟩
/-- Set, Bend: why not; the net behind it -/
def setW (N : NetD) (a w : Int) : Wr := if vtxB N.as.length a = false then atW wGraph a 5 else if weightB w = false then atW wGraph a 8 else wOK
def setN (N : NetD) (a w : Int) : NetD := if (setW N a w).2 = 0 then { N with as := N.as.set a.toNat ⟨(nthT N.as a.toNat).a, (nthT N.as a.toNat).b, w⟩ } else N
section
variable {Y : Sys} {h : Heap} {p : Nat} {N : NetD} {S : Nat → Prop}

theorem GraphD.plc {s1 s2 s3 si so sp : Sl} {P : List (Tab × Sl)} {Q : Bool → Nat → Sl} (g : GraphD h p N S s1 s2 s3 si so sp P Q) {a : Nat} (ha : a < N.as.length) :
    hc h sp.b (sp.o + a * 2) = some (.int .i64 (cntB N.as a a : Nat)) ∧ hc h sp.b (sp.o + a * 2 + 1) = some (.int .i64 (cntA N.as a a : Nat)) := by
  obtain ⟨h1, h2⟩ := cells2_get (l := Rm.plc N.as N.as.length) (i := a) (by simpa using ha)
  rw [plc_at ha] at h1 h2
  exact ⟨g.op.cell h1, g.op.cell h2⟩
theorem GraphD.np {s1 s2 s3 si so sp : Sl} {P : List (Tab × Sl)} {Q : Bool → Nat → Sl} (g : GraphD h p N S s1 s2 s3 si so sp P Q) : sp.n = N.as.length := by
  have := g.op.1
  rw [cells2_len, plc_len] at this
  omega

theorem NetOK.small {N : NetD} (ok : NetOK N) : NetSmall N := by
  refine ⟨by have := ok.bv; omega, by have := ok.ba; omega, by have := ok.bt; omega, fun i hi => ?_⟩
  obtain ⟨a1, a2, a3, a4, a5, _, _⟩ := tab_ok (ins := (nthB N.ts i).i) (outs := (nthB N.ts i).o) (cs := (nthB N.ts i).cs) (ok.tab i hi)
  have := (mul_wrap ⟨a1, a2⟩ ⟨a3, a4⟩).2
  omega

end
end Go.Rm
