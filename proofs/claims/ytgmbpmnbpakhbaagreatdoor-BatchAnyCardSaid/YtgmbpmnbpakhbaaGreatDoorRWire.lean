import Derived.Test.YtgmbpmnbpakhbaaGreatDoorRLaw2
import Derived.Test.YtgmbpmnbpakhbaaGreatDoorSNums
import Derived.Laws.Strings

/- Numbers in bytes: rows of bytes; readers. -/
set_option linter.unusedSimpArgs false
set_option linter.unusedVariables false
namespace Go.Rm

def bytesL (l : List Nat) : List Value := l.map fun (k : Nat) => Value.int .u8 (k : Int)
@[simp] theorem bytesL_len {l : List Nat} : (bytesL l).length = l.length := by simp [bytesL]
section
variable {Y : Sys} {h h' : Heap}

theorem Own.sp {sz : Nat} {s : Sl} {cells : List Value} (o : Own h sz s cells) : s.sp = none := by
  rcases o.2 with ⟨rfl, _⟩ | ⟨_, _, h, _⟩
  · rfl
  · exact h

/-- a row of bytes that is read -/
structure RowB (h : Heap) (s : Sl) (bs : List Nat) : Prop where
  ok : s.ok
  len : bs.length = s.n
  val : ∀ i, i < bs.length → hc h s.b (s.o + i) = some (.int .u8 (nth bs i : Int))
  lt : ∀ i, i < bs.length → nth bs i < 256
theorem RowB.ext {s : Sl} {bs : List Nat} (r : RowB h s bs) (he : Ext h h') : RowB h' s bs := ⟨r.ok, r.len, fun i hi => he.hc (r.val i hi) (fun h => h), r.lt⟩
theorem RowB.mod {S : Nat → Prop} {s : Sl} {bs : List Nat} (r : RowB h s bs) (he : Mod S h h') (hs : bs ≠ [] → ¬ S s.b) : RowB h' s bs :=
  ⟨r.ok, r.len, fun i hi => he.hc (r.val i hi) (hs (by intro e; rw [e] at hi; simp at hi)), r.lt⟩
theorem RowB.at {s : Sl} {bs : List Nat} {i : Nat} (r : RowB h s bs) (hi : i < s.n) : hc h s.b (s.o + i) = some (.int .u8 (nth bs i : Int)) := r.val i (by rw [r.len]; exact hi)
/-- a reader in memory: its bytes, the place, the first error -/
structure RdR (h : Heap) (p : Nat) (bs : List Nat) (at' : Nat) (bad : Int) (s : Sl) : Prop where
  blk : Blk h p #[s.v, .int .i64 at', .int .i64 bad]
  row : RowB h s bs
  ne : bs ≠ [] → s.b ≠ p
  le : at' ≤ bs.length
  big : bs.length ≤ 1000000

theorem RdR.ext {p at' : Nat} {bs : List Nat} {bad : Int} {s : Sl} (r : RdR h p bs at' bad s) (he : Ext h h') : RdR h' p bs at' bad s := ⟨r.blk.ext he, r.row.ext he, r.ne, r.le, r.big⟩
theorem RdR.other {p q at' : Nat} {bs : List Nat} {bad : Int} {s : Sl} (r : RdR h p bs at' bad s) (hm : Mod (fun j => j = q) h h') (h1 : p ≠ q) (h2 : bs ≠ [] → s.b ≠ q) : RdR h' p bs at' bad s :=
  ⟨hm.blk r.blk h1, r.row.mod hm h2, r.ne, r.le, r.big⟩

end
end Go.Rm

/- Numbers in bytes: the plain law. -/
set_option linter.unusedVariables false
namespace Go.Rm

end Go.Rm

/- Numbers in bytes: scan, and a reader's Uint, Bytes. -/
set_option linter.unusedSimpArgs false
set_option linter.unusedVariables false
namespace Go.Rm

section
variable {Y : Sys} {h : Heap} {k : IntKind} {a b : Int}
end
section
variable {Y : Sys} {h h' : Heap}

end
end Go.Rm

/- Numbers in bytes: a reader's Uint, Int, Bytes. -/
set_option linter.unusedSimpArgs false
set_option linter.unusedVariables false
namespace Go.Rm

section
variable {Y : Sys} {h h' : Heap}

theorem RowB.drop {s : Sl} {bs : List Nat} {a : Nat} (r : RowB h s bs) (ha : a ≤ bs.length) : RowB h { s with o := if s.c = a then s.o else s.o + a * 1, n := s.n - a, c := s.c - a } (bs.drop a) := by
  have hl := r.len
  refine ⟨⟨fun h => by have := r.ok.nil h; simp; omega, by have := r.ok.le; simp; omega, ?_⟩, by simp; omega, fun i hi => ?_, fun i hi => ?_⟩
  · rcases r.ok.spot with h | h
    · exact .inl h
    · exact .inr (by simp; omega)
  · simp at hi
    have := r.val (a + i) (by omega)
    have hc : s.c ≠ a := by have := r.ok.le; omega
    simp only [hc, if_false, Nat.mul_one]
    rw [show s.o + a + i = s.o + (a + i) by omega, this]
    congr 2
    simp [nth]
  · simp at hi
    have := r.lt (a + i) (by omega)
    simpa [nth] using this

end
end Go.Rm

/- Numbers in bytes: Uint, Int, Sum, the program's and the document's. -/
set_option linter.unusedSimpArgs false
set_option linter.unusedVariables false
namespace Go.Rm

section
variable {Y : Sys} {h h' : Heap}

end
end Go.Rm

/- Numbers in bytes: Sum; bytes as a string. -/
set_option linter.unusedSimpArgs false
set_option linter.unusedVariables false
namespace Go.Rm

section
variable {Y : Sys} {h h' : Heap}

end
end Go.Rm
