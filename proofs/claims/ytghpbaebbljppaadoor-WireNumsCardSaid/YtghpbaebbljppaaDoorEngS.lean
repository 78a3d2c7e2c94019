/- The engine: the shapes of operands where an operation has a value. -/
import Derived.Test.YtghpbaebbljppaaDoorEngD
set_option linter.unusedSimpArgs false
set_option linter.unusedVariables false
namespace Go.Rm
variable {Y : Sys} {h : Heap}

theorem un_shape {op : UnOp} {p v : Value} (hs : IOp.sem Y h (.un op) [p] = some v) : (op = .neg ∧ ∃ k n, p = .int k n ∧ v = .int k (k.wrap (0 - n))) ∨ (op = .not ∧ ∃ b, p = .bool b ∧ v = .bool !b) := by
  cases op <;> cases p <;> cases hs
  · exact .inl ⟨rfl, _, _, rfl, rfl⟩
  · exact .inr ⟨rfl, _, rfl, rfl⟩
theorem conv_shape {k : IntKind} {p v : Value} (hs : IOp.sem Y h (.conv k) [p] = some v) : ∃ j n, p = .int j n ∧ v = .int k (k.wrap n) := by
  cases p <;> cases hs
  exact ⟨_, _, rfl, rfl⟩
theorem b2s_some {b o n c : Nat} {v : Value} (hs : IOp.sem Y h .b2s [.slice (some ⟨b, o, none⟩) n c] = some v) : ∃ l s, rd h b o n = some l ∧ bytesV l = some s ∧ v = .string ⟨s.toArray⟩ := by
  obtain ⟨l, hl, hs⟩ := Option.bind_eq_some_iff.1 hs
  obtain ⟨s, hb, hs⟩ := Option.bind_eq_some_iff.1 hs
  exact ⟨l, s, hl, hb, (Option.some.inj hs).symm⟩
theorem b2s_shape {p v : Value} (hs : IOp.sem Y h .b2s [p] = some v) : (∃ n c, p = .slice none n c ∧ v = .string .empty) ∨
    (∃ b o n c l s, p = .slice (some ⟨b, o, none⟩) n c ∧ rd h b o n = some l ∧ bytesV l = some s ∧ v = .string ⟨s.toArray⟩) := by
  cases p with
  | slice a n c =>
    cases a with
    | none => cases hs; exact .inl ⟨_, _, rfl, rfl⟩
    | some a =>
      obtain ⟨b, o, s⟩ := a
      cases s with
      | none => obtain ⟨l, s, h1, h2, h3⟩ := b2s_some hs; exact .inr ⟨b, o, n, c, l, s, rfl, h1, h2, h3⟩
      | some s => cases hs
  | _ => cases hs
theorem fadr_shape {off : Nat} {p v : Value} (hs : IOp.sem Y h (.fadr off) [p] = some v) : ∃ b o, p = .pointer (some ⟨b, o, none⟩) ∧ v = .pointer (some ⟨b, o + off, none⟩) := by
  cases p with
  | pointer a =>
    cases a with
    | none => cases hs
    | some a =>
      obtain ⟨b, o, s⟩ := a
      cases s <;> cases hs
      exact ⟨b, o, rfl, rfl⟩
  | _ => cases hs
theorem fld_shape {off sz : Nat} {agg : Bool} {p v : Value} (hs : IOp.sem Y h (.fld off sz agg) [p] = some v) : ∃ cs, p = .agg cs ∧ partV sz agg cs off = some v := by
  cases p with
  | agg cs => exact ⟨cs, rfl, hs⟩
  | _ => cases hs
theorem if_some {c : Prop} [Decidable c] {x v : Value} (hs : (if c then some x else none) = some v) : c ∧ v = x := by
  split at hs
  · rename_i hc; exact ⟨hc, (Option.some.inj hs).symm⟩
  · cases hs
theorem idxa_shape {sz : Nat} {p q v : Value} (hs : IOp.sem Y h (.idxa sz) [p, q] = some v) :
    ∃ b o n c k i, p = .slice (some ⟨b, o, none⟩) n c ∧ q = .int k i ∧ (0 ≤ i ∧ i < n) ∧ v = .pointer (some ⟨b, o + i.toNat * sz, none⟩) := by
  cases p with
  | slice a n c =>
    cases a with
    | none => cases q <;> cases hs
    | some a =>
      obtain ⟨b, o, s⟩ := a
      cases s with
      | some s => cases q <;> cases hs
      | none =>
        cases q with
        | int k i => obtain ⟨h1, h2⟩ := if_some hs; exact ⟨b, o, n, c, k, i, rfl, rfl, h1, h2⟩
        | _ => cases hs
  | _ => cases hs
theorem idxA_shape {len sz : Nat} {p q v : Value} (hs : IOp.sem Y h (.idxA len sz) [p, q] = some v) :
    ∃ b o k i, p = .pointer (some ⟨b, o, none⟩) ∧ q = .int k i ∧ (0 ≤ i ∧ i < len) ∧ v = .pointer (some ⟨b, o + i.toNat * sz, none⟩) := by
  cases p with
  | pointer a =>
    cases a with
    | none => cases q <;> cases hs
    | some a =>
      obtain ⟨b, o, s⟩ := a
      cases s with
      | some s => cases q <;> cases hs
      | none =>
        cases q with
        | int k i => obtain ⟨h1, h2⟩ := if_some hs; exact ⟨b, o, k, i, rfl, rfl, h1, h2⟩
        | _ => cases hs
  | _ => cases hs
theorem idxS_shape {p q v : Value} (hs : IOp.sem Y h .idxS [p, q] = some v) : ∃ s k i b, p = .string s ∧ q = .int k i ∧ 0 ≤ i ∧ s[i.toNat]? = some b ∧ v = .int .u8 b.toNat := by
  cases p with
  | string s =>
    cases q with
    | int k i =>
      have hs : (if 0 ≤ i then (s[i.toNat]?).bind fun b => some (Value.int .u8 b.toNat) else none) = some v := hs
      split at hs
      · rename_i h0
        obtain ⟨b, hb, hs⟩ := Option.bind_eq_some_iff.1 hs
        exact ⟨s, k, i, b, rfl, rfl, h0, hb, (Option.some.inj hs).symm⟩
      · cases hs
    | _ => cases hs
  | _ => cases hs
theorem idxV_shape {len sz : Nat} {agg : Bool} {p q v : Value} (hs : IOp.sem Y h (.idxV len sz agg) [p, q] = some v) :
    ∃ cs k i, p = .agg cs ∧ q = .int k i ∧ (0 ≤ i ∧ i < len) ∧ partV sz agg cs (i.toNat * sz) = some v := by
  cases p with
  | agg cs =>
    cases q with
    | int k i =>
      have hs : (if 0 ≤ i ∧ i < len then partV sz agg cs (i.toNat * sz) else none) = some v := hs
      split at hs
      · rename_i h0; exact ⟨cs, k, i, rfl, rfl, h0, hs⟩
      · cases hs
    | _ => cases hs
  | _ => cases hs
theorem ta_shape {t : Nat} {ok : Bool} {z p v : Value} (hs : IOp.sem Y h (.ta t ok z) [p] = some v) :
    (∃ t' u, p = .iface t' u ∧ (if t' = Y.tid t then some (if ok then .tuple #[u, .bool true] else u) else if ok then some (.tuple #[z, .bool false]) else none) = some v) ∨
    (p = .nilIface ∧ ok = true ∧ v = .tuple #[z, .bool false]) := by
  cases p with
  | iface t' u => exact .inl ⟨t', u, rfl, hs⟩
  | nilIface => cases ok <;> cases hs; exact .inr ⟨rfl, rfl, rfl⟩
  | _ => cases ok <;> cases hs
theorem slc_shape {sz : Nat} {lo hi : Bool} {p v : Value} {r : List Value} (hs : IOp.sem Y h (.slc sz lo hi) (p :: r) = some v) :
    ∃ a n c x, p = .slice a n c ∧ cutB n c lo hi r = some x ∧ ((a = none ∧ v = .slice none (x.2 - x.1) (c - x.1)) ∨
      (∃ b o, a = some ⟨b, o, none⟩ ∧ v = .slice (some ⟨b, if c = x.1 then o else o + x.1 * sz, none⟩) (x.2 - x.1) (c - x.1)) ∨
      (∃ b o s, a = some ⟨b, o, some s⟩ ∧ c = x.1 ∧ v = .slice (some ⟨b, o, some s⟩) (x.2 - x.1) (c - x.1))) := by
  cases p with
  | slice a n c =>
    obtain ⟨x, hx, hs⟩ := Option.bind_eq_some_iff.1 hs
    refine ⟨a, n, c, x, rfl, hx, ?_⟩
    cases a with
    | none => exact .inl ⟨rfl, (Option.some.inj hs).symm⟩
    | some a =>
      obtain ⟨b, o, s⟩ := a
      cases s with
      | none => exact .inr (.inl ⟨b, o, rfl, (Option.some.inj hs).symm⟩)
      | some s =>
        simp only at hs
        split at hs
        · rename_i hc
          exact .inr (.inr ⟨b, o, s, rfl, hc, (Option.some.inj hs).symm⟩)
        · cases hs
  | _ => cases hs
theorem slcS_shape {lo hi : Bool} {p v : Value} {r : List Value} (hs : IOp.sem Y h (.slcS lo hi) (p :: r) = some v) :
    ∃ s x, p = .string s ∧ cutB s.size s.size lo hi r = some x ∧ v = .string (s.extract x.1 x.2) := by
  cases p with
  | string s =>
    obtain ⟨x, hx, hs⟩ := Option.bind_eq_some_iff.1 hs
    exact ⟨s, x, rfl, hx, (Option.some.inj hs).symm⟩
  | _ => cases hs
theorem slcA_shape {n sz : Nat} {lo hi : Bool} {p v : Value} {r : List Value} (hs : IOp.sem Y h (.slcA n sz lo hi) (p :: r) = some v) :
    ∃ b o x, p = .pointer (some ⟨b, o, none⟩) ∧ cutB n n lo hi r = some x ∧ v = .slice (some ⟨b, if n = x.1 then o else o + x.1 * sz, none⟩) (x.2 - x.1) (n - x.1) := by
  cases p with
  | pointer a =>
    cases a with
    | none => cases hs
    | some a =>
      obtain ⟨b, o, s⟩ := a
      cases s with
      | none =>
        obtain ⟨x, hx, hs⟩ := Option.bind_eq_some_iff.1 hs
        exact ⟨b, o, x, rfl, hx, (Option.some.inj hs).symm⟩
      | some s => cases hs
  | _ => cases hs
theorem ext_shape {i : Nat} {p v : Value} (hs : IOp.sem Y h (.ext i) [p] = some v) : ∃ vs, p = .tuple vs ∧ vs[i]? = some v := by
  cases p with
  | tuple vs => exact ⟨vs, rfl, hs⟩
  | _ => cases hs
theorem len_shape {p v : Value} (hs : IOp.sem Y h .len [p] = some v) : ∃ a n c, p = .slice a n c ∧ v = .int .i64 n := by
  cases p <;> cases hs
  exact ⟨_, _, _, rfl, rfl⟩
theorem lenS_shape {p v : Value} (hs : IOp.sem Y h .lenS [p] = some v) : ∃ s, p = .string s ∧ v = .int .i64 s.size := by
  cases p <;> cases hs
  exact ⟨_, rfl, rfl⟩
theorem cap_shape {p v : Value} (hs : IOp.sem Y h .cap [p] = some v) : ∃ a n c, p = .slice a n c ∧ v = .int .i64 c := by
  cases p <;> cases hs
  exact ⟨_, _, _, rfl, rfl⟩
theorem mn_shape {p q v : Value} (hs : IOp.sem Y h .mn [p, q] = some v) : ∃ k x j y, p = .int k x ∧ q = .int j y ∧ v = .int k (if y < x then y else x) := by
  cases p with
  | int k x =>
    cases q with
    | int j y => exact ⟨k, x, j, y, rfl, rfl, (Option.some.inj hs).symm⟩
    | _ => cases hs
  | _ => cases hs
theorem mx_shape {p q v : Value} (hs : IOp.sem Y h .mx [p, q] = some v) : ∃ k x j y, p = .int k x ∧ q = .int j y ∧ v = .int k (if x < y then y else x) := by
  cases p with
  | int k x =>
    cases q with
    | int j y => exact ⟨k, x, j, y, rfl, rfl, (Option.some.inj hs).symm⟩
    | _ => cases hs
  | _ => cases hs
theorem int1 {q : Value} {f : IntKind → Int → Option (Nat × Nat)} {x : Nat × Nat} (hs : (match q with | .int k i => f k i | _ => none) = some x) : ∃ k i, q = .int k i ∧ f k i = some x := by
  cases q with
  | int k i => exact ⟨k, i, rfl, hs⟩
  | _ => cases hs
theorem if_some' {c : Prop} [Decidable c] {x v : Nat × Nat} (hs : (if c then some x else none) = some v) : c ∧ v = x := by
  split at hs
  · rename_i hc; exact ⟨hc, (Option.some.inj hs).symm⟩
  · cases hs
theorem cutB_shape {n c : Nat} {lo hi : Bool} {r : List Value} {x : Nat × Nat} (hs : cutB n c lo hi r = some x) :
    (lo = false ∧ hi = false ∧ r = [] ∧ x = (0, n)) ∨ (lo = true ∧ hi = false ∧ ∃ k l, r = [.int k l] ∧ (0 ≤ l ∧ l ≤ n) ∧ x = (l.toNat, n)) ∨
    (lo = false ∧ hi = true ∧ ∃ k h, r = [.int k h] ∧ (0 ≤ h ∧ h ≤ c) ∧ x = (0, h.toNat)) ∨
    (lo = true ∧ hi = true ∧ ∃ k l j h, r = [.int k l, .int j h] ∧ (0 ≤ l ∧ l ≤ h ∧ h ≤ c) ∧ x = (l.toNat, h.toNat)) := by
  cases lo <;> cases hi
  · match r, hs with
    | [], hs => exact .inl ⟨rfl, rfl, rfl, (Option.some.inj hs).symm⟩
    | _ :: _, hs => cases hs
  · match r, hs with
    | [], hs => cases hs
    | p :: q :: r, hs => cases p <;> cases hs
    | [p], hs =>
      cases p with
      | int k l => obtain ⟨h1, h2⟩ := if_some' hs; exact .inr (.inr (.inl ⟨rfl, rfl, k, l, rfl, h1, h2⟩))
      | _ => cases hs
  · match r, hs with
    | [], hs => cases hs
    | p :: q :: r, hs => cases p <;> cases hs
    | [p], hs =>
      cases p with
      | int k l => obtain ⟨h1, h2⟩ := if_some' hs; exact .inr (.inl ⟨rfl, rfl, k, l, rfl, h1, h2⟩)
      | _ => cases hs
  · match r, hs with
    | [], hs => cases hs
    | [p], hs => cases p <;> cases hs
    | p :: q :: s :: r, hs => cases p <;> cases q <;> cases hs
    | [p, q], hs =>
      cases p with
      | int k l =>
        cases q with
        | int j h => obtain ⟨h1, h2⟩ := if_some' hs; exact .inr (.inr (.inr ⟨rfl, rfl, k, l, j, h, rfl, h1, h2⟩))
        | _ => cases hs
      | _ => cases hs
end Go.Rm
