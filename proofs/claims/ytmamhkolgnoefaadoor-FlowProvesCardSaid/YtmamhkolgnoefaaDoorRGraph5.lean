import Derived.Test.YtmamhkolgnoefaaDoorRGraph4

/- The document's Set and Bend; nets with the memory that they stand in. -/
set_option linter.unusedSimpArgs false
set_option linter.unusedVariables false
namespace Go.Rm

/-- a net that stands in the blocks of Fb -/
def NetF (Fb : Nat → Prop) (h : Heap) (s1 s2 s3 : Sl) (N : NetD) : Prop := (∀ (h' : Heap) (S' : Nat → Prop), Mod S' h h' → (∀ b, Fb b → ¬ S' b) → NetH h' s1 s2 s3 N) ∧ ∀ b, Fb b → b < h.size

section
variable {Y : Sys} {h h' : Heap} {Fb : Nat → Prop} {s1 s2 s3 : Sl} {N : NetD}

theorem NetF.here (f : NetF Fb h s1 s2 s3 N) : NetH h s1 s2 s3 N := f.1 h (fun _ => False) (Mod.refl h) (fun _ _ h => h)
theorem NetF.mod {S' : Nat → Prop} (f : NetF Fb h s1 s2 s3 N) (m : Mod S' h h') (hd : ∀ b, Fb b → ¬ S' b) : NetF Fb h' s1 s2 s3 N :=
  ⟨fun h'' S'' m'' hd'' => f.1 h'' (fun b => S' b ∨ S'' b) ((m.mono fun _ _ h => .inl h).trans (m''.mono fun _ _ h => .inr h)) (fun b hb h => h.elim (hd b hb) (hd'' b hb)), fun b hb => Nat.lt_of_lt_of_le (f.2 b hb) m.size⟩
theorem NetF.ext (f : NetF Fb h s1 s2 s3 N) (m : Ext h h') : NetF Fb h' s1 s2 s3 N := f.mod m (fun _ _ h => h)
end
end Go.Rm
