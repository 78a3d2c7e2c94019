import Derived.Test.YtmamhkolgnoefaaDoorEngT
import Derived.Test.YtmamhkolgnoefaaDoorEngV
import Derived.Test.YtmamhkolgnoefaaDoorSNums

/- Tables of turns: what each function of package turn does. -/
set_option linter.unusedSimpArgs false
set_option linter.unusedVariables false
namespace Go.Rm

def weightB (a : Int) : Bool := decide (0 ≤ a ∧ a ≤ 2147483648) || decide (a = 1152921504606846976)
abbrev wTurn : ByteArray := ⟨#[116, 117, 114, 110]⟩

/-- a Wrong as plain data: its parts, its number -/
abbrev Wr := List (ByteArray × Int) × Int
def wOK : Wr := ([], 0)
def turnW (at' e : Int) : Wr := ([(wTurn, at')], e)

/-- the first cost that may not be -/
def badFrom : Nat → List Int → Option Nat
  | _, [] => none
  | i, c :: r => if weightB c then badFrom (i + 1) r else some i

def sidesW (ins outs : Int) : Wr := if ins < 0 ∨ 16 < ins then turnW 0 1 else if outs < 0 ∨ 16 < outs then turnW 1 1 else wOK
def tabW (ins outs : Int) (cs : List Int) : Wr :=
  if (sidesW ins outs).2 ≠ 0 then sidesW ins outs
  else if (cs.length : Int) ≠ ins * outs then turnW 2 9
  else match badFrom 0 cs with
    | some i => turnW (3 + i) 8
    | none => wOK

section
variable {Y : Sys} {h : Heap}

def Err (Y : Sys) (h : Heap) (w : Wr) (v : Value) : Prop := ErrV Y h w.1 w.2 v
theorem Err.ext {w : Wr} {v : Value} {h' : Heap} (e : Err Y h w v) (he : Ext h h') : Err Y h' w v := ErrV.ext e he
theorem Err.ok : Err Y h wOK .nilIface := .inl ⟨rfl, rfl⟩
theorem Err.nil {v : Value} {w : Wr} (e : Err Y h w v) (h0 : w.2 = 0) : v = .nilIface := by
  rcases e with ⟨_, e⟩ | ⟨e, _⟩
  · exact e
  · exact absurd h0 e
theorem Err.iface {v : Value} {w : Wr} (e : Err Y h w v) (h0 : w.2 ≠ 0) : ∃ t u, v = .iface t u := by
  rcases e with ⟨e, _⟩ | ⟨_, e⟩
  · exact absurd e h0
  · obtain ⟨l, c⟩ := w
    cases l with
    | nil => exact ⟨_, _, e⟩
    | cons p ps => obtain ⟨b, u, e, _⟩ := e; exact ⟨_, _, e⟩

/-- it holds, and goes on holding whatever is done to blocks below lo -/
def Fresh (lo : Nat) (P : Heap → Prop) (h : Heap) : Prop := ∀ h', Mod (fun j => j < lo) h h' → P h'
theorem Fresh.here {lo : Nat} {P : Heap → Prop} {h : Heap} (f : Fresh lo P h) : P h := f h (Mod.refl h)
theorem Fresh.mono {lo lo' : Nat} {P : Heap → Prop} {h : Heap} (f : Fresh lo P h) (hl : lo' ≤ lo) : Fresh lo' P h := fun h' m => f h' (m.mono fun _ _ h => Nat.lt_of_lt_of_le h hl)
theorem Fresh.step {lo : Nat} {S : Nat → Prop} {P : Heap → Prop} {h h' : Heap} (f : Fresh lo P h) (m : Mod S h h') (hs : ∀ j, S j → j < lo) : Fresh lo P h' := fun h'' m' => f h'' ((m.mono fun j _ h => hs j h).trans m')
theorem Fresh.ext {lo : Nat} {P : Heap → Prop} {h h' : Heap} (f : Fresh lo P h) (m : Ext h h') : Fresh lo P h' := f.step m (fun _ h => h.elim)
abbrev FErr (Y : Sys) (lo : Nat) (h : Heap) (w : Wr) (v : Value) : Prop := Fresh lo (fun h => Err Y h w v) h
theorem FErr.ok {lo : Nat} : FErr Y lo h wOK .nilIface := fun _ _ => Err.ok

theorem fault_at {b : Nat} {p : ByteArray} {a c : Int} (hb : Blk h b #[.string p, .int .i64 a, .iface (Y.tid Ty.api_Errno) (.int .i64 c)]) (hc : c ≠ 0) :
    Err Y h ([(p, a)], c) (.iface (Y.tid Ty.api_Fault) (.pointer (some ⟨b, 0, none⟩))) :=
  .inr ⟨hc, b, _, rfl, by rw [hb.hc]; rfl, by rw [hb.hc]; rfl, by rw [hb.hc]; rfl, rfl⟩

structure TurnCk (Y : Sys) : Prop where
  Check : Y.Has F.turn_Check S_turn_Check
  sides : Y.Has F.turn_sides S_turn_sides
  fault : Y.Has F.turn_fault S_turn_fault
  Weight : Y.Has F.cost_Weight S_cost_Weight
structure TurnFns (Y : Sys) : Prop extends TurnCk Y where
  At : Y.Has F.turn_At S_turn_At
instance : Coe (TurnFns Y) (TurnCk Y) := ⟨TurnFns.toTurnCk⟩

theorem sides_ok {ins outs : Int} (h0 : (sidesW ins outs).2 = 0) : sidesW ins outs = wOK ∧ 0 ≤ ins ∧ ins ≤ 16 ∧ 0 ≤ outs ∧ outs ≤ 16 := by
  unfold sidesW at h0 ⊢
  split at h0
  · simp [turnW] at h0
  · split at h0
    · simp [turnW] at h0
    · rename_i h1 h2
      rw [if_neg h1, if_neg h2]
      refine ⟨rfl, ?_, ?_, ?_, ?_⟩ <;> omega

theorem mul_wrap {a b : Int} (ha : 0 ≤ a ∧ a ≤ 16) (hb : 0 ≤ b ∧ b ≤ 16) : IntKind.i64.wrap (a * b) = a * b ∧ 0 ≤ a * b ∧ a * b ≤ 256 := by
  have h1 : 0 ≤ a * b := Int.mul_nonneg ha.1 hb.1
  have h2 : a * b ≤ 16 * 16 := Int.mul_le_mul ha.2 hb.2 hb.1 (by omega)
  exact ⟨i64_wrap (by omega), h1, by omega⟩

end
end Go.Rm

/- Tables of turns: what each function of package turn does (part two). -/
set_option linter.unusedSimpArgs false
set_option linter.unusedVariables false
namespace Go.Rm

theorem nthI_ext {a b : List Int} (hl : a.length = b.length) (h : ∀ j, j < a.length → nthI a j = nthI b j) : a = b := by
  apply List.ext_getElem hl
  intro i h1 h2
  have := h i h1
  simpa [nthI, h1, h2] using this

def zerosL (n : Nat) : List Int := List.replicate n 0
def backI (n i : Nat) : List Int := (List.range i).foldl (fun l i => l.set (i * n + i) 1152921504606846976) (zerosL (n * n))
theorem backI_succ {n i : Nat} : backI n (i + 1) = (backI n i).set (i * n + i) 1152921504606846976 := by simp [backI, List.range_succ]
@[simp] theorem backI_len {n i : Nat} : (backI n i).length = n * n := by
  induction i with
  | zero => simp [backI, zerosL]
  | succ i ih => rw [backI_succ]; simp [ih]

section
variable {Y : Sys} {h : Heap}

theorem tab_ok {ins outs : Int} {cs : List Int} (h0 : (tabW ins outs cs).2 = 0) : 0 ≤ ins ∧ ins ≤ 16 ∧ 0 ≤ outs ∧ outs ≤ 16 ∧ (cs.length : Int) = ins * outs ∧ badFrom 0 cs = none ∧ tabW ins outs cs = wOK := by
  unfold tabW at h0 ⊢
  split at h0
  · rename_i h1; exact absurd h0 h1
  · rename_i h1
    have h1 : (sidesW ins outs).2 = 0 := by simpa using h1
    obtain ⟨_, a1, a2, a3, a4⟩ := sides_ok h1
    split at h0
    · simp [turnW] at h0
    · rename_i h2
      have h2 : (cs.length : Int) = ins * outs := by simpa using h2
      refine ⟨a1, a2, a3, a4, h2, ?_⟩
      split at h0
      · simp [turnW] at h0
      · rename_i h3
        exact ⟨h3, by simp [h1, h2, h3]⟩

theorem Row64.nil : Row64 h Sl.nil [] := ⟨Sl.nil_ok, rfl, fun i hi => by simp at hi⟩

end
end Go.Rm

/- Tables of turns: Free, Back. -/
set_option linter.unusedSimpArgs false
set_option linter.unusedVariables false
namespace Go.Rm
section
variable {Y : Sys} {h : Heap}

end
end Go.Rm
