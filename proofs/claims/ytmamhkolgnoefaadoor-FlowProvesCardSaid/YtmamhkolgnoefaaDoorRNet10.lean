import Derived.Test.YtmamhkolgnoefaaDoorRHeap
import Derived.Test.YtmamhkolgnoefaaDoorRNet

/- Package net: arc, Ins, Outs, bend, Turn. -/
set_option linter.unusedSimpArgs false
set_option linter.unusedVariables false
namespace Go.Rm

/-- the numbers of the arcs that are so -/
def idxF (p : Tri → Bool) : Nat → List Tri → List Int
  | _, [] => []
  | k, t :: r => if p t then (k : Int) :: idxF p (k + 1) r else idxF p (k + 1) r
def insO (as : List Tri) (v : Int) : List Int := idxF (fun t => decide (t.b = v)) 0 as
def outsO (as : List Tri) (v : Int) : List Int := idxF (fun t => decide (t.a = v)) 0 as
def cntB (as : List Tri) (a : Nat) (n : Nat) : Nat := ((as.take n).filter fun t => decide (t.b = (nthT as a).b)).length
def cntA (as : List Tri) (a : Nat) (n : Nat) : Nat := ((as.take n).filter fun t => decide (t.a = (nthT as a).a)).length
section
variable {Y : Sys} {h : Heap}

end
end Go.Rm

/- Package net: places, over, Walk, Cost; sums of costs. -/
set_option linter.unusedSimpArgs false
set_option linter.unusedVariables false
namespace Go.Rm

def insP (as : List Tri) (i : Nat) : List Int := (List.range as.length).map fun j => if j < i then (cntB as j j : Int) else 0
def outsP (as : List Tri) (i : Nat) : List Int := (List.range as.length).map fun j => if j < i then (cntA as j j : Int) else 0
@[simp] theorem insP_len {as : List Tri} {i : Nat} : (insP as i).length = as.length := by simp [insP]
@[simp] theorem outsP_len {as : List Tri} {i : Nat} : (outsP as i).length = as.length := by simp [outsP]
/-- all arcs go from a vertex to one -/
def ArcsIn (N : NetD) : Prop := ∀ i, i < N.as.length → vtxB N.vs.length (nthT N.as i).a = true ∧ vtxB N.vs.length (nthT N.as i).b = true

section
variable {Y : Sys} {h : Heap}

end
end Go.Rm

/- Package net: over, Walk, Cost. -/
set_option linter.unusedSimpArgs false
set_option linter.unusedVariables false
namespace Go.Rm

section
variable {Y : Sys} {h : Heap}

end
end Go.Rm

/- Nets that are alike: slices.Equal, slices.EqualFunc, net.Same, SameNet, SameInts. -/
set_option linter.unusedSimpArgs false
set_option linter.unusedVariables false
namespace Go.Rm

section
variable {Y : Sys} {h : Heap}

def CallvP (Y : Sys) (x : Value) (xs : List Value) (h : Heap) (R : Value → Heap → Prop) : Prop :=
  match x with
  | .func (.func f) first cap => Y.able f ∧ Y.C f (first.toList ++ xs ++ cap.toList) h R
  | _ => False
@[simp] theorem il_callv {K : Kont} {e T : List Value} {x : Arg} {xs : List Arg} {d : Dst} {k : IL} : IL.wp Y K (.op (.callv x xs d) k) e T h = CallvP Y (x.ev Y e T) (xs.map (Arg.ev Y e T)) h (EfK Y K k d e T) := (rfl)
@[simp] theorem CallvP_func {j : Nat} {xs : List Value} {R : Value → Heap → Prop} : CallvP Y (.func (.func (Y.fid j)) #[] #[]) xs h R = (Y.able (Y.fid j) ∧ CallP Y j xs h R) := by
  simp [CallvP, CallP]

/-- no row of a net is very long -/
structure NetSmall (N : NetD) : Prop where
  bv : N.vs.length ≤ 20000
  ba : N.as.length ≤ 20000
  bt : N.ts.length ≤ 20000
  bc : ∀ i, i < N.ts.length → (nthB N.ts i).cs.length ≤ 1000000

end
end Go.Rm

/- The document's nets: Ins, Outs, Turn, Walk, Cost. -/
set_option linter.unusedSimpArgs false
set_option linter.unusedVariables false
namespace Go.Rm

/-- a net that may be -/
structure NetOK (N : NetD) : Prop where
  bv : N.vs.length ≤ 4096
  ba : N.as.length ≤ 16384
  bt : N.ts.length ≤ 256
  tab : ∀ i, i < N.ts.length → (tabWr (nthB N.ts i)).2 = 0
  vx : ∀ i, i < N.vs.length → farB (nthT N.vs i).a = false ∧ farB (nthT N.vs i).b = false
  vt : ∀ i, i < N.vs.length → vtxB N.ts.length (nthT N.vs i).c = true
  arcs : ArcsIn N
  w : ∀ i, i < N.as.length → weightB (nthT N.as i).c = true
  meet : ∀ i, i < N.vs.length → insN N.as i ≤ 16 ∧ outsN N.as i ≤ 16 ∧ (nthB N.ts (nthT N.vs i).c.toNat).i = insN N.as i ∧ (nthB N.ts (nthT N.vs i).c.toNat).o = outsN N.as i

section
variable {Y : Sys} {h : Heap}

end
end Go.Rm

/- The laws of nets: May, ring, known. -/
set_option linter.unusedSimpArgs false
set_option linter.unusedVariables false
namespace Go.Rm

section
variable {Y : Sys} {h : Heap}

end
end Go.Rm

/- The laws of nets: known. -/
set_option linter.unusedSimpArgs false
set_option linter.unusedVariables false
namespace Go.Rm

section
variable {Y : Sys} {h : Heap}

theorem Own.setN {sz : Nat} {s : Sl} {cells : List Value} (ho : Own h sz s cells) {i : Nat} {v : Value} (hi : i < cells.length) : Own (hset h s.b (s.o + i) v) sz s (cells.set i v) := by
  refine ⟨by simp [ho.1], ?_⟩
  rcases ho.2 with ⟨_, rfl⟩ | ⟨h1, h2, hsp, h3, h4, arr, hb, h5, h6⟩
  · simp at hi
  · refine .inr ⟨h1, h2, hsp, h3, h4, arr.setIfInBounds (s.o + i) v, hb.set, by simp [h5], ?_⟩
    rw [h2, Nat.zero_add, Array.toList_setIfInBounds, ← h6, List.take_set]
/-- a cell is stored into a row of one's own -/
theorem stN {K : Value → Heap → Prop} {sz : Nat} {s : Sl} {cells : List Value} (o : Own h sz s cells) {k : Nat} {v : Value} (hk : k < cells.length)
    (hr : ∀ h', Own h' sz s (cells.set k v) → Mod (fun j => j = s.b) h h' → K undef h') : StoreP h s.b (s.o + k) v K := by
  have h1 := o.setN (v := v) hk
  obtain ⟨arr, hb, hlt, hnl⟩ := o.blk hk
  rw [StoreP.open]
  refine ⟨?_, hb.hfz, hr _ h1 (Mod.set rfl)⟩
  rw [hb.hc]
  simp [hlt]
end
end Go.Rm
