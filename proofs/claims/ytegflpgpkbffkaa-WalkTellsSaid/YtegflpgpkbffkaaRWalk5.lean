import Derived.Test.YtegflpgpkbffkaaRFlow1
import Derived.Test.YtegflpgpkbffkaaRWalk0
import Derived.Test.YtegflpgpkbffkaaSNums

/- Least walks: From, Reach, Path, Cost. -/
set_option linter.unusedSimpArgs false
set_option linter.unusedVariables false
namespace Go.Rm
/-- a least walk from s, arc by arc -/
inductive ChainW (N : NetD) (s : Int) (L : List Int) : List Nat → Nat → Prop
  | one {b : Nat} : (b : Int) = s → ChainW N s L [b] b
  | more {l : List Nat} {a b : Nat} {w : Int} : ChainW N s L l a → EdW N a b w → nthI L b = nthI L a + w → ChainW N s L (l ++ [b]) b
def natsI (l : List Nat) : List Int := l.map fun (k : Nat) => (k : Int)
/-- what Path tells -/
structure PathOK (N : NetD) (s t : Int) (L : List Int) (l : List Nat) : Prop where
  to : ∃ b : Nat, t = b ∧ b < N.as.length ∧ nthI L b ≠ 1152921504606846976 ∧ ChainW N s L l b
  nd : l.Nodup
  lt : ∀ a, a ∈ l → a < N.as.length
section
variable {Y : Sys} {h h' : Heap} {p : Nat} {N : NetD} {S : Nat → Prop}
def RvI (s : Sl) (l : List Int) (h0 : Heap) (e : List Value) (h' : Heap) : Prop :=
  ∃ (i : Nat) (v3 : Value), e = [s.v, .int .i64 i, .int .i64 ((l.length : Int) - 1 - i), v3] ∧ i ≤ l.length ∧ Mod (fun j => j = s.b) h0 h' ∧ ∃ c : List Int, c.length = l.length ∧ Own h' 1 s (ints64 c) ∧ ∀ k, k < l.length → nthI c k = if k < i ∨ l.length - 1 - k < i then nthI l (l.length - 1 - k) else nthI l k
theorem rev_spec (H : Y.Has F.slices_Reverse_int_int S_slices_Reverse_int_int) {s : Sl} {l : List Int} (o : Own h 1 s (ints64 l)) (hbig : l.length ≤ 1000000)
    {R : Value → Heap → Prop} (hr : ∀ h', Mod (fun j => j = s.b) h h' → Own h' 1 s (ints64 l.reverse) → R (.tuple #[]) h') : CallP Y F.slices_Reverse_int_int [s.v] h R := by
  have sl := o.row64.len
  have ok := o.ok
  have w0 : IntKind.i64.wrap ((s.n : Int) - 1) = (l.length : Int) - 1 := by rw [i64_wrap (by omega)]; omega
  refine .of_has H rfl ?_
  simp [S_slices_Reverse_int_int, FnS.wp, w0]
  refine wp_loop' (RvI s l h) (fun e _ => l.length - argI e 1) ⟨0, _, by simp; rfl, by omega, Mod.refl _, l, rfl, o, fun k hk => by rw [if_neg (by omega)]⟩ ?_
  rintro e h2 ⟨i, v3, rfl, hi, m2, c, hc, o2, hall⟩
  by_cases q : (i : Int) < (l.length : Int) - 1 - i
  · obtain ⟨j, hj⟩ : ∃ j : Nat, (l.length : Int) - 1 - i = j := ⟨l.length - 1 - i, by omega⟩
    have hij : i < j := by omega
    have hjl : j < l.length := by omega
    have q' : (i : Int) < (j : Int) := by omega
    have i1 : ∀ g (z : Nat), z < l.length → IOp.sem Y g (.idxa 1) [s.v, .int .i64 z] = some (.pointer (some ⟨s.b, s.o + z, none⟩)) := fun g z lz => by
      rw [sem_idxa ok (by omega) (by omega)]; simp
    have k1 := o2.row64.val i (by omega)
    have k2 := o2.row64.val j (by omega)
    have w1 : IntKind.i64.wrap ((i : Int) + 1) = (i : Int) + 1 := i64_wrap (by omega)
    have w2 : IntKind.i64.wrap ((j : Int) - 1) = (j : Int) - 1 := i64_wrap (by omega)
    rw [hj]
    simp [q', hij, i1 _ _ hjl, i1 _ i (by omega), k1, k2]
    refine stN o2 (k := i) (by simp; omega) ?_
    intro h3 o3 m3
    rw [ints64_set] at o3
    simp [i1 _ _ hjl]
    refine stN o3 (k := j) (by simp; omega) ?_
    intro h4 o4 m4
    rw [ints64_set] at o4
    simp [w1, w2]
    refine ⟨⟨i + 1, .bool true, ?_, by omega, (m2.trans m3).trans m4, _, by simp [hc], o4, fun k hk => ?_⟩, ?_⟩
    · have : (j : Int) - 1 = (l.length : Int) - 1 - ((i + 1 : Nat) : Int) := by omega
      rw [this]; rfl
    · rw [nthI_set (by simp; omega), nthI_set (by omega)]
      have hji : j = l.length - 1 - i := by omega
      have a1 := hall i (by omega)
      have a2 := hall j (by omega)
      rw [if_neg (by omega)] at a1
      rw [if_neg (by omega)] at a2
      by_cases e1 : k = j
      · subst e1
        rw [if_pos rfl, if_pos (.inr (by omega)), a1]
        congr 1; omega
      · by_cases e2 : k = i
        · subst e2
          rw [if_neg e1, if_pos rfl, if_pos (.inl (by omega)), a2, hji]
        · rw [if_neg e1, if_neg e2, hall k hk]
          by_cases e3 : k < i ∨ l.length - 1 - k < i
          · rw [if_pos e3, if_pos (by omega)]
          · rw [if_neg e3, if_neg (by omega)]
    · simp [argI]; omega
  · simp [q]
    have : c = l.reverse := by
      apply List.ext_getElem (by simp [hc])
      intro k a1 a2
      have hk : k < l.length := by omega
      have := hall k hk
      rw [nthI_at a1] at this
      rw [this, List.getElem_reverse, ← nthI_at (by omega)]
      split
      · rfl
      · congr 1; omega
    subst this
    exact hr h2 m2 o2
structure WalkFn2 (Y : Sys) : Prop where
  W : WalkFns Y
  From : Y.Has F.walk_From S_walk_From
  Path : Y.Has F.walk_Path S_walk_Path
  Reach : Y.Has F.walk_Reach S_walk_Reach
  Cost : Y.Has F.walk_Cost S_walk_Cost
  To : Y.Has F.walk_To S_walk_To
  rev : Y.Has F.slices_Reverse_int_int S_slices_Reverse_int_int
theorem wfrom_spec (X : WalkFn2 Y) (g : GraphA h p N S) (ok : NetOK N) {s : Int}
    {R : Value → Heap → Prop} (hr : ∀ h' cb L, Ext h h' → h.size ≤ cb → Own h' 1 (Sl.at cb N.as.length N.as.length) (ints64 L) → L.length = N.as.length → (∀ b, b < N.as.length → LeastS (FromI N s) (EdW N) b (nthI L b)) → R (.slice (some ⟨cb, 0, none⟩) N.as.length N.as.length) h') :
    CallP Y F.walk_From [.pointer (some ⟨p, 0, none⟩), .int .i64 s] h R := by
  refine .of_has X.From rfl ?_
  simp [S_walk_From, FnS.wp]
  refine spread_spec X.W g ok ?_
  intro h1 cb ab L ah e1 g1 g2 o1 o2 sp
  simp
  exact hr h1 cb L e1 g1 o1 sp.len sp.least
def WrI (v0 v1 v2 v4 v6 v7 v11 : Value) (cb b n : Nat) (L : List Int) (h0 : Heap) (e : List Value) (h' : Heap) : Prop :=
  ∃ (i : Nat) (v6 v7 v11 : Value), e = [v0, v1, v2, .slice (some ⟨cb, 0, none⟩) n n, v4, .slice (some ⟨b, 0, none⟩) n n, v6, v7, .slice (some ⟨cb, 0, none⟩) n n, .int .i64 n, .int .i64 i, v11] ∧ i ≤ n ∧ Mod (fun j => j = b) h0 h' ∧ ∃ m : List Bool, m.length = n ∧ Own h' 1 (Sl.at b n n) (boolsM m) ∧ ∀ j, j < i → nthM m j = decide (nthI L j ≠ 1152921504606846976)
theorem wreach_spec (X : WalkFn2 Y) (g : GraphA h p N S) (ok : NetOK N) {s : Int}
    {R : Value → Heap → Prop} (hr : ∀ h' b L m, Ext h h' → h.size ≤ b → Own h' 1 (Sl.at b N.as.length N.as.length) (boolsM m) → L.length = N.as.length → (∀ b, b < N.as.length → LeastS (FromI N s) (EdW N) b (nthI L b)) → m.length = N.as.length → (∀ j, j < N.as.length → nthM m j = decide (nthI L j ≠ 1152921504606846976)) →
      R (.slice (some ⟨b, 0, none⟩) N.as.length N.as.length) h') :
    CallP Y F.walk_Reach [.pointer (some ⟨p, 0, none⟩), .int .i64 s] h R := by
  have bn := ok.ba
  refine .of_has X.Reach rfl ?_
  simp [S_walk_Reach, FnS.wp]
  refine spread_spec X.W g ok ?_
  intro h1 cb ab L ah e1 g1 g2 o1 o2 sp
  have ll := sp.len
  have z1 := e1.size
  simp
  refine ef_makeM (n := N.as.length) (by omega) rfl ?_
  intro b h2 g3 o3 e2 l2
  have lcb := o1.lt rfl
  simp at lcb
  simp
  refine wp_loop' (WrI (.pointer (some ⟨p, 0, none⟩)) (.int .i64 s) (.slice none 0 0) (.slice (some ⟨ab, 0, none⟩) N.as.length N.as.length) undef undef undef cb b N.as.length L h2) (fun e _ => N.as.length - argI e 10) ⟨0, _, _, _, rfl, by omega, Mod.refl _, List.replicate N.as.length false, by simp, by simpa [boolsM] using o3, fun j hj => by omega⟩ ?_
  rintro e h3 ⟨i, v6, v7, v11, rfl, hi, m3, m, hm, o4, hall⟩
  by_cases k : i < N.as.length
  · have k' : (i : Int) < N.as.length := by omega
    have w1 : IntKind.i64.wrap ((i : Int) + 1) = (i : Int) + 1 := i64_wrap (by omega)
    have hiF : ∀ g z, IOp.sem Y g (.idxa 1) [.slice (some ⟨z, 0, none⟩) N.as.length N.as.length, .int .i64 i] = some (.pointer (some ⟨z, i, none⟩)) := fun g z => by
      have := sem_idxF (Y := Y) (h := g) (b := z) (sz := 1) (show N.as.length ≤ 9223372036854775807 by omega) k (Nat.le_refl N.as.length)
      simpa using this
    have va := ((o1.ext' e2).mod m3 (fun _ => by simp; omega)).row64.val i (by omega)
    simp at va
    simp [k, k', hiF, va]
    refine stAt o4 (k := i) (by rw [boolsM_len]; omega) ?_
    intro h4 o5 m4
    rw [boolsM_set] at o5
    simp [w1]
    refine ⟨⟨i + 1, _, _, _, rfl, by omega, m3.trans m4, _, by simp [hm], o5, fun j hj => by rw [nthM_set (by omega)]; by_cases q : j = i; (simp [q]); (rw [if_neg q]; exact hall j (by omega))⟩, by simp [argI]; omega⟩
  have k' : ¬ (i : Int) < N.as.length := by omega
  simp [k']
  exact hr h3 b L m (Mod.toExtF (e1.trans e2) m3 (by omega)) (by omega) o4 ll sp.least hm (fun j hj => hall j (by omega))
def WpI (N : NetD) (s : Int) (t : Nat) (p cb ab : Nat) (rk : Nat → Nat) (L : List Int) (h0 : Heap) (m : Nat) (e : List Value) (h' : Heap) : Prop :=
  ∃ (a : Int) (q f : List Nat) (u : Sl) (v3 v4 v9 v10 : Value), e = [.pointer (some ⟨p, 0, none⟩), .int .i64 s, .int .i64 t, v3, v4, .slice (some ⟨cb, 0, none⟩) N.as.length N.as.length, .slice (some ⟨ab, 0, none⟩) N.as.length N.as.length, u.v, .int .i64 a, v9, v10] ∧
    Ext h0 h' ∧ Own h' 1 u (ints64 (natsI q)) ∧ (u.nl = false → h0.size ≤ u.b) ∧ f = q.reverse ∧ f.Nodup ∧ (∀ x, x ∈ f → x < N.as.length) ∧
    ((a = -1 ∧ ChainW N s L f t ∧ m = 0) ∨ ∃ k : Nat, a = k ∧ k < N.as.length ∧ nthI L k ≠ 1152921504606846976 ∧ (∀ x, x ∈ f → rk k < rk x) ∧ (∀ l, ChainW N s L l k → ChainW N s L (l ++ f) t) ∧ m = rk k + 1)
theorem wpath_spec (X : WalkFn2 Y) (g : GraphA h p N S) (ok : NetOK N) {s t : Int}
    {R : Value → Heap → Prop} (hr : ∀ h' u L l c, Ext h h' → Own h' 1 u (ints64 (natsI l)) → L.length = N.as.length → (∀ b, b < N.as.length → LeastS (FromI N s) (EdW N) b (nthI L b)) →
      ((c = 1152921504606846976 ∧ l = [] ∧ ∀ b : Nat, t = b → b < N.as.length → nthI L b = 1152921504606846976) ∨ (∃ b : Nat, t = b ∧ b < N.as.length ∧ c = nthI L b ∧ c ≠ 1152921504606846976 ∧ PathOK N s t L l)) → R (.tuple #[u.v, .int .i64 c]) h') :
    CallP Y F.walk_Path [.pointer (some ⟨p, 0, none⟩), .int .i64 s, .int .i64 t] h R := by
  have bn := ok.ba
  refine .of_has X.Path rfl ?_
  simp [S_walk_Path, FnS.wp]
  refine spread_spec X.W g ok ?_
  intro h1 cb ab L ah e1 g1 g2 o1 o2 sp
  have ll := sp.len
  have lah : ah.length = N.as.length := by have := o2.1; simpa using this
  have z1 := e1.size
  obtain ⟨rk, hrk⟩ := sp.ahead
  simp
  have nowhere : (∀ b : Nat, t = b → b < N.as.length → nthI L b = 1152921504606846976) → R (.tuple #[.slice none 0 0, .int .i64 1152921504606846976]) h1 := fun hb =>
    hr h1 Sl.nil L [] _ e1 (by simpa [natsI, ints64] using Own.nil) ll sp.least (.inl ⟨rfl, rfl, hb⟩)
  by_cases c0 : t < 0
  · have c0' : ¬ 0 ≤ t := by omega
    simp [c0, c0']; exact nowhere (fun b hb => by omega)
  by_cases c1 : (N.as.length : Int) ≤ t
  · have c0' : 0 ≤ t := by omega
    have c1' : ¬ t < (N.as.length : Int) := by omega
    simp [c0, c1, c0', c1']; exact nowhere (fun b hb lb => by omega)
  obtain ⟨b, rfl⟩ : ∃ b : Nat, t = b := ⟨t.toNat, by omega⟩
  have lb : b < N.as.length := by omega
  have c1' : ¬ N.as.length ≤ b := by omega
  have hiF : ∀ g z (x : Nat), x < N.as.length → IOp.sem Y g (.idxa 1) [.slice (some ⟨z, 0, none⟩) N.as.length N.as.length, .int .i64 x] = some (.pointer (some ⟨z, x, none⟩)) := fun g z x lx => by
    have := sem_idxF (Y := Y) (h := g) (b := z) (sz := 1) (show N.as.length ≤ 9223372036854775807 by omega) lx (Nat.le_refl N.as.length)
    simpa using this
  have kb := o1.row64.val b (by omega)
  simp at kb
  by_cases c2 : nthI L b = 1152921504606846976
  · simp [c1', lb, hiF _ _ _ lb, kb, c2]
    exact nowhere (fun b' hb _ => by have : b' = b := (by omega); subst this; exact c2)
  simp [c1', lb, hiF _ _ _ lb, kb, c2]
  refine wp_loopM (kn := fun _ _ => True) (WpI N s b p cb ab rk L h1) _ ⟨b, [], [], Sl.nil, _, _, _, _, rfl, Mod.refl _, by simpa [natsI, ints64] using Own.nil, fun h => (by cases h), rfl, List.nodup_nil, fun x h => by simp at h, .inr ⟨b, rfl, lb, c2, fun x h => by simp at h, fun l hl => by simpa using hl, rfl⟩⟩ ?_
  rintro m e h2 ⟨a, q, f, u, v3, v4, v9, v10, rfl, e2, ou, fu, hf, nd, lt, hor⟩
  have o12 := o1.ext' e2
  have o22 := o2.ext' e2
  have un : q.length = u.n := by have := ou.1; simp [natsI] at this; omega
  have qlen : q.length ≤ N.as.length := by
    have := nodup_len nd lt
    rw [hf] at this
    simpa using this
  rcases hor with ⟨rfl, ch, _⟩ | ⟨k, rfl, lk, kL, hrk1, hch, rfl⟩
  · simp
    refine rev_spec X.rev ou (by simp [natsI]; omega) ?_
    intro h3 m3 o3
    have x3 : Ext h1 h3 := Mod.ext e2 m3 (fun j hj => by
      have := ou.ok
      cases hn : u.nl with
      | false => have := fu hn; omega
      | true =>
        exfalso
        have h0 := (ou.ok.nil hn).1
        have : q = [] := List.eq_nil_of_length_eq_zero (by omega)
        subst this
        subst hf
        have : ∀ l, ChainW N s L l b → l ≠ [] := fun l h => by cases h <;> simp
        exact this _ ch rfl)
    have kb3 := (o1.ext' x3).row64.val b (by omega)
    simp at kb3
    simp [hiF _ _ _ lb, kb3]
    refine hr h3 u L f (nthI L b) (e1.trans x3) ?_ ll sp.least (.inr ⟨b, rfl, lb, rfl, c2, ⟨⟨b, rfl, lb, c2, ch⟩, nd, lt⟩⟩)
    rw [hf]
    have : natsI q.reverse = (natsI q).reverse := by simp [natsI]
    rw [this]
    exact o3
  · have k0 : (0 : Int) ≤ k := by omega
    simp [ef_bslice1_int]
    intro T
    refine ef_append1 rfl ou (by omega) (by omega) ?_
    intro u' h3 o3 n3 m3 f3
    have z2 := e2.size
    have x3 : Ext h1 h3 := Mod.ext e2 m3 (fun j hj => by have := fu hj.1; omega)
    have ft : u'.nl = false → h1.size ≤ u'.b := fun hn => by
      rcases f3 with ⟨f5, f6⟩ | ⟨f5, _⟩
      · rw [f5]; exact fu (by rw [← f6]; exact hn)
      · omega
    have ka := (o2.ext' x3).row64.val k (by omega)
    simp at ka
    have o3' : Own h3 1 u' (ints64 (natsI (q ++ [k]))) := by simpa [natsI, ints64] using o3
    have hf' : k :: f = (q ++ [k]).reverse := by rw [hf]; simp
    have kn : k ∉ f := fun h => by have := hrk1 k h; omega
    have nd' : (k :: f).Nodup := List.nodup_cons.2 ⟨kn, nd⟩
    have lt' : ∀ x, x ∈ k :: f → x < N.as.length := fun x hx => by
      rcases List.mem_cons.1 hx with h | h
      · omega
      · exact lt x h
    simp [hiF _ _ _ lk, ka]
    rcases hrk k lk kL with ⟨q1, q2⟩ | ⟨a', q1, q2, q3, ⟨w, q4, q5⟩, q6⟩
    · have cc : WpI N s b p cb ab rk L h1 0 [.pointer (some ⟨p, 0, none⟩), .int .i64 s, .int .i64 b, v3, v4, .slice (some ⟨cb, 0, none⟩) N.as.length N.as.length, .slice (some ⟨ab, 0, none⟩) N.as.length N.as.length, u'.v, .int .i64 (nthI ah k), v9, .bool true] h3 :=
        ⟨_, q ++ [k], k :: f, u', _, _, _, _, rfl, x3, o3', ft, hf', nd', lt', .inl ⟨q2, by have := hch [k] (.one q1); simpa using this, rfl⟩⟩
      exact ⟨⟨_, cc⟩, by have := muI_le cc; omega⟩
    · have cc : WpI N s b p cb ab rk L h1 (rk a' + 1) [.pointer (some ⟨p, 0, none⟩), .int .i64 s, .int .i64 b, v3, v4, .slice (some ⟨cb, 0, none⟩) N.as.length N.as.length, .slice (some ⟨ab, 0, none⟩) N.as.length N.as.length, u'.v, .int .i64 (nthI ah k), v9, .bool true] h3 :=
        ⟨_, q ++ [k], k :: f, u', _, _, _, _, rfl, x3, o3', ft, hf', nd', lt', .inr ⟨a', q2, q1, q3, fun x hx => by
          rcases List.mem_cons.1 hx with h | h
          · subst h; exact q6
          · have := hrk1 x h; omega, fun l hl => by have := hch (l ++ [k]) (.more hl q4 q5); simpa using this, rfl⟩⟩
      exact ⟨⟨_, cc⟩, by have := muI_le cc; omega⟩
end
end Go.Rm

/- Least walks: Cost. -/
set_option linter.unusedSimpArgs false
set_option linter.unusedVariables false
namespace Go.Rm
section
variable {Y : Sys} {h h' : Heap} {p : Nat} {N : NetD} {S : Nat → Prop}
def WcI (N : NetD) (p : Nat) (s : Sl) (l : List Int) (v2 : Value) (h0 : Heap) (e : List Value) (h' : Heap) : Prop :=
  ∃ (i : Nat) (v4 v5 v6 v7 v8 v12 v13 v14 v15 : Value), e = [.pointer (some ⟨p, 0, none⟩), s.v, v2, .int .i64 (costTo N l i), v4, v5, v6, v7, v8, s.v, .int .i64 s.n, .int .i64 i, v12, v13, v14, v15] ∧ i ≤ l.length ∧ Ext h0 h' ∧ ∀ j, j < i → stepOk N l j = true
theorem wcost_spec (X : WalkFn2 Y) (g : GraphA h p N S) (ok : NetOK N) {s : Sl} {l : List Int} (r : Row64 h s l) (hbig : l.length ≤ 1000000)
    {R : Value → Heap → Prop} (hr : ∀ h', Ext h h' → R (.int .i64 (costV N l)) h') :
    CallP Y F.walk_Cost [.pointer (some ⟨p, 0, none⟩), s.v] h R := by
  have sl := r.len
  refine .of_has X.Cost rfl ?_
  simp [S_walk_Cost, FnS.wp]
  by_cases c0 : s.n = 0
  · have : costV N l = 1152921504606846976 := by
      have : walkB N l = false := by
        rw [Bool.eq_false_iff]
        intro q
        exact (walkB_iff.1 q).1 (List.eq_nil_of_length_eq_zero (by omega))
      rw [costV, this]; rfl
    simp [c0]
    have := hr h (Mod.refl _)
    simp_all
  have bad : ∀ i, i < l.length → stepOk N l i = false → costV N l = 1152921504606846976 := fun i hi hb => by
    have : walkB N l = false := by
      rw [Bool.eq_false_iff]
      intro q
      have := (walkB_iff.1 q).2 i hi
      rw [hb] at this
      cases this
    rw [costV, this]; rfl
  simp [c0]
  refine wp_loop' (WcI N p s l (.int .i64 0) h) (fun e _ => l.length - argI e 11) ⟨0, _, _, _, _, _, _, _, _, _, rfl, by omega, Mod.refl _, fun j hj => by omega⟩ ?_
  rintro e h1 ⟨i, v4, v5, v6, v7, v8, v12, v13, v14, v15, rfl, hi, e1, hall⟩
  by_cases c : i < l.length
  rotate_left
  · have c' : ¬ (i : Int) < s.n := by omega
    have hi' : i = l.length := by omega
    subst hi'
    have : costV N l = costTo N l l.length := by
      have : walkB N l = true := walkB_iff.2 ⟨fun e => by subst e; simp at sl; omega, fun j hj => hall j hj⟩
      rw [costV, this]; rfl
    have hr1 := hr h1 e1
    rw [this] at hr1
    simp [c']
    exact hr1
  have c1 : (i : Int) < s.n := by omega
  have c2 : i < s.n := by omega
  have w1 : IntKind.i64.wrap ((i : Int) + 1) = (i : Int) + 1 := i64_wrap (by omega)
  have k1 := (r.ext e1).val i c
  simp [c1, c2, sem_idxa r.ok, k1]
  refine gweight_spec X.W.G.Weight X.W.G.arc (g.ext e1) ?_
  by_cases ws : weightV N (nthI l i) = 1152921504606846976
  · have hb : stepOk N l i = false := by
      unfold stepOk
      unfold weightV at ws
      split at ws
      · rename_i q
        have : arcC N (nthI l i) = InfI := ws
        simp [this]
      · rename_i q
        simp [q]
    have hr1 := hr h1 e1
    rw [bad i c hb] at hr1
    simp [ws]
    exact hr1
  have hv : vtxB N.as.length (nthI l i) = true := by
    unfold weightV at ws
    split at ws
    · assumption
    · exact absurd rfl ws
  have hw : weightV N (nthI l i) = arcC N (nthI l i) := by unfold weightV; rw [if_pos hv]; rfl
  have hwne : arcC N (nthI l i) ≠ InfI := by rw [← hw]; exact ws
  by_cases i0 : i = 0
  · subst i0
    have hs : stepOk N l 0 = true := by simp [stepOk, hv, hwne]
    simp [ws]
    refine ⟨⟨1, _, _, _, _, _, _, _, _, _, rfl, by omega, e1, fun j hj => by have : j = 0 := (by omega); subst this; exact hs⟩, ?_⟩
    simp [argI, IntKind.wrap_i64]
    omega
  have i1 : ¬ (i : Int) = 0 := by omega
  obtain ⟨j, rfl⟩ : ∃ j, i = j + 1 := ⟨i - 1, by omega⟩
  have wj : IntKind.i64.wrap ((j : Int) + 1 - 1) = (j : Int) := by rw [i64_wrap (by omega)]; omega
  have wj2 : IntKind.i64.wrap (j : Int) = (j : Int) := i64_wrap (by omega)
  have j1 : (j : Int) < s.n := by omega
  have j2 : j < s.n := by omega
  have j3 : ¬ (j : Int) + 1 = 0 := by omega
  have k2 := (r.ext e1).val j (by omega)
  simp at w1
  simp [ws, j3, wj, wj2, sem_idxa r.ok, j1, j2, k2]
  refine gturn_spec X.W.G.Turn X.W.G.arc X.W.G.T (g.ext e1) ok ?_
  intro h2 e2
  have x2 := e1.trans e2
  by_cases ts : turnV N (nthI l j) (nthI l (j + 1)) = 1152921504606846976
  · have hb : stepOk N l (j + 1) = false := by
      unfold stepOk
      simp
      intro _ _
      exact ts
    have hr1 := hr h2 x2
    rw [bad (j + 1) c hb] at hr1
    simp [ts]
    exact hr1
  have hs : stepOk N l (j + 1) = true := by
    have : turnV N (nthI l (j + 1 - 1)) (nthI l (j + 1)) ≠ InfI := ts
    simp [stepOk, hv, hwne]
    exact ts
  simp [ts]
  refine ef_bslice_all rfl rfl rfl ?_ (by omega)
  intro b3 h3 g3 _ e3 o3
  have r3 : Row64 h3 (Sl.at b3 3 3) [costTo N l (j + 1), turnV N (nthI l j) (nthI l (j + 1)), weightV N (nthI l (j + 1))] := Own.row64 (cs := [costTo N l (j + 1), turnV N (nthI l j) (nthI l (j + 1)), weightV N (nthI l (j + 1))]) o3
  simp
  refine sum_spec X.W.C r3 (by simp) ?_
  have hsum : sumI [costTo N l (j + 1), turnV N (nthI l j) (nthI l (j + 1)), weightV N (nthI l (j + 1))] = costTo N l (j + 1 + 1) := by
    have h0 : addI 0 (costTo N l (j + 1)) = costTo N l (j + 1) := by rw [addI_zero, held_id costTo_range]
    simp only [sumI, List.foldl_cons, List.foldl_nil]
    rw [h0, hw]
    conv => rhs; rw [costTo]
    rw [if_neg (by omega)]
    rfl
  rw [hsum]
  have w2 : IntKind.i64.wrap ((j : Int) + 1 + 1) = (j : Int) + 1 + 1 := i64_wrap (by omega)
  simp [w2]
  refine ⟨⟨j + 1 + 1, _, _, _, _, _, _, _, _, _, rfl, by omega, x2.trans e3, fun q hq => by by_cases e : q = j + 1; (subst e; exact hs); exact hall q (by omega)⟩, by simp [argI]; omega⟩
end
end Go.Rm

/- Least walks within: the two functions that it has. -/
set_option linter.unusedSimpArgs false
set_option linter.unusedVariables false
namespace Go.Rm
def stepAlt : IL := (.alt (.op (.call 192 [(.t 1), (.n 0)] .push) (.op (.stab (.load 1 .false) [(.n 2)] (.t 0)) (.alt (.op (.call 239 [(.t 0), (.t 2)] (.set 11)) (.alt (.op (.op .len [(.n 11)] (.set 12)) (.op (.op .mv [(.c (.int .i64 0))] (.set 13)) .nil)) (.op (.op .mv [(.c (.int .i64 0))] (.set 13)) (.op (.op .len [(.n 11)] (.set 12)) .nil)))) (.op (.op .mv [(.c (.int .i64 0))] (.set 13)) (.op (.stab (.load 1 .false) [(.n 2)] (.t 0)) (.op (.call 239 [(.t 0), (.t 2)] (.set 11)) (.op (.op .len [(.n 11)] (.set 12)) .nil))))))) (.op (.op .mv [(.c (.int .i64 0))] (.set 13)) (.op (.stab (.load 1 .false) [(.n 2)] (.t 1)) (.op (.stab (.load 1 .false) [(.n 2)] (.t 0)) (.op (.call 192 [(.t 1), (.n 0)] .push) (.op (.stab (.load 1 .false) [(.n 2)] (.t 0)) (.op (.call 239 [(.t 0), (.t 2)] (.set 11)) (.op (.op .len [(.n 11)] (.set 12)) .nil))))))))
def stepS : FnS := ⟨8, 18, (.seq (.reg (.op (.op (.load 1 .false) [(.n 2)] .push) (.op (.op (.load 1 .false) [(.n 2)] .push) stepAlt))) (.block 0 (.loop (.seq (.reg (.op (.op (.ib .lss) [(.n 13), (.n 12)] (.set 14)) .nil)) (.seq (.cond (.n 14) .skip (.exit 0)) (.seq (.block 1 (.seq (.reg (.op (.op (.idxa 1) [(.n 11), (.n 13)] .push) (.op (.op (.load 1 .false) [(.t 0)] .push) (.op (.op .mv [(.t 1)] (.set 8)) .nil)))) (.seq (.reg (.op (.op (.load 1 .false) [(.n 2)] .push) (.op (.call 231 [(.t 0), (.n 0), (.n 8)] .push) (.op (.op .mv [(.t 1)] (.set 9)) .nil)))) (.seq (.seq (.reg (.op (.op (.ib .eql) [(.n 9), (.c (.int .i64 1152921504606846976))] (.set 15)) .nil)) (.cond (.n 15) (.exit 1) .skip)) (.seq (.seq (.reg (.op (.op (.load 1 .false) [(.n 3)] .push) (.op (.op (.ib .eql) [(.n 8), (.t 0)] (.set 16)) .nil))) (.cond (.n 16) (.reg (.op (.op (.load 1 .false) [(.n 4)] .push) (.op (.call 116 [(.n 1), (.n 9)] .push) (.op (.stab (.load 1 .false) [(.n 4)] (.t 0)) (.op (.op .mn [(.t 0), (.t 1)] .push) (.op (.ef (.store 1) [(.n 4), (.t 2)] .drop) .nil)))))) .skip)) (.seq (.reg (.op (.op (.load 1 .false) [(.n 2)] .push) (.op (.call 233 [(.t 0), (.n 8)] .push) (.op (.op .mv [(.t 1)] (.set 10)) .nil)))) (.seq (.reg (.op (.op (.ib .neq) [(.n 10), (.c (.int .i64 1152921504606846976))] .push) (.gd (.t 0) .true (.op (.op (.load 1 .false) [(.n 5)] .push) (.op (.op .mv [(.n 8)] .push) (.op (.op (.idxa 1) [(.t 1), (.t 2)] .push) (.op (.op (.load 1 .false) [(.t 3)] .push) (.op (.op (.un .not) [(.t 4)] .push) .nil))))) [.push, .push, .push, .push, .push] (.op (.op .pick [(.t 0), (.t 5), (.c (.bool .false))] .push) (.gd (.t 6) .true (.op (.op (.load 1 .false) [(.n 6)] .push) (.op (.op (.load 1 .false) [(.n 2)] .push) (.op (.op .mv [(.n 8)] .push) (.op (.call 193 [(.t 8), (.t 9)] .push) (.op (.stab (.load 1 .false) [(.n 6)] (.t 7)) (.op (.callv (.t 7) [(.t 10)] .push) .nil)))))) [.push, .push, .push, .push, .drop, .push] (.op (.op .pick [(.t 6), (.t 11), (.c (.bool .false))] .push) (.gd (.t 12) .true (.op (.op (.load 1 .false) [(.n 6)] .push) (.op (.op (.load 1 .false) [(.n 2)] .push) (.op (.op .mv [(.n 8)] .push) (.op (.call 192 [(.t 14), (.t 15)] .push) (.op (.stab (.load 1 .false) [(.n 6)] (.t 13)) (.op (.callv (.t 13) [(.t 16)] .push) .nil)))))) [.push, .push, .push, .push, .drop, .push] (.op (.op .pick [(.t 12), (.t 17), (.c (.bool .false))] (.set 17)) .nil)))))))) (.cond (.n 17) (.reg (.op (.op (.load 1 .false) [(.n 7)] .push) (.op (.ef (.bslice 3 1 #[(.int .i64 0)] [0, 1, 2]) [(.n 1), (.n 9), (.n 10)] .push) (.op (.stab (.load 1 .false) [(.n 7)] (.t 0)) (.op (.call 135 [(.t 1)] .push) (.op (.stab (.load 1 .false) [(.n 7)] (.t 0)) (.op (.call 8 [(.t 0), (.n 8), (.t 2)] .push) .nil))))))) .skip)))))))) (.reg (.op (.op (.ib .add) [(.n 13), (.c (.int .i64 1))] .push) (.op (.op .mv [(.t 0)] (.set 13)) .nil))))))))), []⟩
theorem stepS_eq : S_walk_Inside_2 = stepS := rfl
def markB (m : List Bool) (v : Int) : Bool := decide (0 ≤ v) && decide (v < m.length) && nthM m v.toNat
/-- what is put into the heap at an arc -/
def heapS (N : NetD) (m dn : List Bool) (k : Nat) (c : Int) (A : KMap) (b : Int) : KMap :=
  if turnV N k b = 1152921504606846976 ∨ weightV N b = 1152921504606846976 ∨ nthM dn b.toNat = true ∨ markB m (fromV N b) = false ∨ markB m (toV N b) = false then A
  else putM N.as.length A b (held (sumI [c, turnV N k b, weightV N b]))
def bestS (N : NetD) (t : Int) (k : Nat) (c : Int) (best : Int) (b : Int) : Int :=
  if turnV N k b = 1152921504606846976 then best else if b = t then (if addI c (turnV N k b) < best then addI c (turnV N k b) else best) else best
/-- where Inside keeps what -/
structure InJ where
  Bg : Nat
  Bt : Nat
  Bb : Nat
  Bd : Nat
  Bm : Nat
  Bh : Nat
  Bi : Nat
  db : Nat
  hp : Nat
  p : Nat
  n : Nat
  lo : Nat
  t : Int
structure InOK (J : InJ) : Prop where
  l1 : J.lo ≤ J.Bg
  l2 : J.lo ≤ J.Bt
  l3 : J.lo ≤ J.Bb
  l4 : J.lo ≤ J.Bd
  l5 : J.lo ≤ J.Bm
  l6 : J.lo ≤ J.Bh
  l7 : J.lo ≤ J.Bi
  l8 : J.lo ≤ J.db
  b1 : J.Bg ≠ J.Bb
  b2 : J.Bt ≠ J.Bb
  b4 : J.Bd ≠ J.Bb
  b5 : J.Bm ≠ J.Bb
  b6 : J.Bh ≠ J.Bb
  b7 : J.Bi ≠ J.Bb
  b8 : J.db ≠ J.Bb
  d1 : J.Bg ≠ J.db
  d2 : J.Bt ≠ J.db
  d4 : J.Bd ≠ J.db
  d5 : J.Bm ≠ J.db
  d6 : J.Bh ≠ J.db
  d7 : J.Bi ≠ J.db
structure StepH (Y : Sys) (h : Heap) (J : InJ) (sm : Sl) (best : Int) (dn : List Bool) (A : KMap) (S : Nat → Prop) : Prop where
  bg : Blk h J.Bg #[.pointer (some ⟨J.p, 0, none⟩)]
  bt : Blk h J.Bt #[.int .i64 J.t]
  bb : Blk h J.Bb #[.int .i64 best]
  bd : Blk h J.Bd #[.slice (some ⟨J.db, 0, none⟩) J.n J.n]
  bm : Blk h J.Bm #[.func (.func (Y.fid F.walk_Inside_1)) #[] #[.pointer (some ⟨J.Bi, 0, none⟩)]]
  bh : Blk h J.Bh #[.pointer (some ⟨J.hp, 0, none⟩)]
  bi : Blk h J.Bi #[sm.v]
  dn : Own h 1 (Sl.at J.db J.n J.n) (boolsM dn)
  hp : HeapR h J.hp J.n A S
  dj : ∀ b, S b → J.lo ≤ b ∧ b ≠ J.Bg ∧ b ≠ J.Bt ∧ b ≠ J.Bb ∧ b ≠ J.Bd ∧ b ≠ J.Bm ∧ b ≠ J.Bh ∧ b ≠ J.Bi ∧ b ≠ J.db
section
variable {Y : Sys} {h h' : Heap} {J : InJ} {sm : Sl} {best : Int} {dn : List Bool} {A : KMap} {S : Nat → Prop}
theorem StepH.ext (k : StepH Y h J sm best dn A S) (e : Ext h h') : StepH Y h' J sm best dn A S :=
  ⟨k.bg.ext e, k.bt.ext e, k.bb.ext e, k.bd.ext e, k.bm.ext e, k.bh.ext e, k.bi.ext e, k.dn.ext' e, k.hp.mod e (fun _ _ h => h), k.dj⟩
theorem StepH.setB {x : Int} (k : StepH Y h J sm best dn A S) (j : InOK J) (m : Mod (fun i => i = J.Bb) h h') (b : Blk h' J.Bb #[.int .i64 x]) : StepH Y h' J sm x dn A S :=
  ⟨m.blk k.bg j.b1, m.blk k.bt j.b2, b, m.blk k.bd j.b4, m.blk k.bm j.b5, m.blk k.bh j.b6, m.blk k.bi j.b7, k.dn.mod m (fun _ => j.b8), k.hp.mod m (fun b hb e => (k.dj b hb).2.2.2.1 e), k.dj⟩
theorem StepH.mark {d : List Bool} (k : StepH Y h J sm best dn A S) (j : InOK J) (m : Mod (fun i => i = J.db) h h') (o : Own h' 1 (Sl.at J.db J.n J.n) (boolsM d)) : StepH Y h' J sm best d A S :=
  ⟨m.blk k.bg j.d1, m.blk k.bt j.d2, m.blk k.bb (fun e => j.b8 e.symm), m.blk k.bd j.d4, m.blk k.bm j.d5, m.blk k.bh j.d6, m.blk k.bi j.d7, o, k.hp.mod m (fun b hb e => (k.dj b hb).2.2.2.2.2.2.2.2 e), k.dj⟩
theorem StepH.heap {A' : KMap} {S' : Nat → Prop} (k : StepH Y h J sm best dn A S) (j : InOK J) (m : Mod S h h') (H : HeapR h' J.hp J.n A' S') (f : ∀ b, S' b → S b ∨ h.size ≤ b) : StepH Y h' J sm best dn A' S' := by
  have l1 := k.bg.lt
  have l2 := k.bt.lt
  have l3 := k.bb.lt
  have l4 := k.bd.lt
  have l5 := k.bm.lt
  have l6 := k.bh.lt
  have l7 := k.bi.lt
  have l8 := k.dn.lt rfl
  have g1 := j.l1
  simp at l8
  refine ⟨m.blk k.bg (fun q => (k.dj _ q).2.1 rfl), m.blk k.bt (fun q => (k.dj _ q).2.2.1 rfl), m.blk k.bb (fun q => (k.dj _ q).2.2.2.1 rfl), m.blk k.bd (fun q => (k.dj _ q).2.2.2.2.1 rfl), m.blk k.bm (fun q => (k.dj _ q).2.2.2.2.2.1 rfl), m.blk k.bh (fun q => (k.dj _ q).2.2.2.2.2.2.1 rfl), m.blk k.bi (fun q => (k.dj _ q).2.2.2.2.2.2.2.1 rfl), k.dn.mod m (fun _ q => (k.dj _ q).2.2.2.2.2.2.2.2 rfl), H, fun b hb => ?_⟩
  rcases f b hb with q | q
  · exact k.dj b q
  · exact ⟨by omega, by omega, by omega, by omega, by omega, by omega, by omega, by omega, by omega⟩
theorem wmarked_spec (H : Y.Has F.walk_Inside_1 S_walk_Inside_1) {b : Nat} {m : List Bool} {v : Int} (hb : hc h b 0 = some sm.v) (r : RowM h sm m) (bm : sm.n ≤ 9223372036854775807) {R : Value → Heap → Prop} (hr : R (.bool (markB m v)) h) :
    CallvP Y (.func (.func (Y.fid F.walk_Inside_1)) #[] #[.pointer (some ⟨b, 0, none⟩)]) [.int .i64 v] h R := by
  refine ⟨H.1, ?_⟩
  have l := r.len
  have : CallP Y F.walk_Inside_1 [.int .i64 v, .pointer (some ⟨b, 0, none⟩)] h R := by
    refine .of_has H rfl ?_
    simp [S_walk_Inside_1, FnS.wp]
    by_cases c0 : 0 ≤ v
    · by_cases c1 : v < m.length
      · obtain ⟨k, rfl⟩ : ∃ k : Nat, v = k := ⟨v.toNat, by omega⟩
        have c1' : (k : Int) < sm.n := by omega
        have c2' : k < sm.n := by omega
        have c3' : k < m.length := by omega
        have kv := r.val k (by omega)
        have e : markB m (k : Int) = nthM m k := by simp [markB, c3']
        rw [e] at hr
        simp [hb, c1', c2', sem_idxa r.ok, kv]
        exact hr
      · have c1' : ¬ v < sm.n := by omega
        have e : markB m v = false := by simp [markB, c1]
        rw [e] at hr
        simp [c0, hb, c1']
        exact hr
    · have e : markB m v = false := by simp [markB, c0]
      rw [e] at hr
      simp [c0]
      exact hr
  exact this
theorem stepAlt_wp (G : WkG Y) {p : Nat} {N : NetD} {S0 : Nat → Prop} (g : GraphA h p N S0) (ok : NetOK N) {a : Int} {Bg : Nat} (bg : hc h Bg 0 = some (.pointer (some ⟨p, 0, none⟩))) (sg : ∀ g, Ext h g → hc g Bg 0 = some (.pointer (some ⟨p, 0, none⟩))) {v1 v3 v4 v5 v6 v7 v8 v9 v10 v11 v12 v13 v14 v15 v16 v17 : Value} {kn : List Value → Heap → Prop}
    (hr : ∀ h' u, Ext h h' → Own h' 1 u (ints64 (if vtxB N.vs.length (toV N a) then outsO N.as (toV N a) else [])) → (u.nl = false → h.size ≤ u.b) → kn [.int .i64 a, v1, .pointer (some ⟨Bg, 0, none⟩), v3, v4, v5, v6, v7, v8, v9, v10, u.v, .int .i64 u.n, .int .i64 0, v14, v15, v16, v17] h') :
    IL.wp Y (RegK kn) stepAlt [.int .i64 a, v1, .pointer (some ⟨Bg, 0, none⟩), v3, v4, v5, v6, v7, v8, v9, v10, v11, v12, v13, v14, v15, v16, v17] [.pointer (some ⟨p, 0, none⟩), .pointer (some ⟨p, 0, none⟩)] h := by
  have bn := ok.ba
  simp [stepAlt]
  refine ⟨?_, ?_⟩
  · refine gto_spec G.To G.arc g ?_
    simp [bg]
    refine ⟨?_, ?_⟩
    · refine gouts_spec G.Outs G.vert G.CI g (by omega) ?_
      intro h' u e o f
      simp
      exact hr h' u e o f
    · refine gouts_spec G.Outs G.vert G.CI g (by omega) ?_
      intro h' u e o f
      simp
      exact hr h' u e o f
  · refine ⟨bg, ?_⟩
    refine gto_spec G.To G.arc g ?_
    simp [bg]
    refine gouts_spec G.Outs G.vert G.CI g (by omega) ?_
    intro h' u e o f
    simp
    exact hr h' u e o f
def StI (Y : Sys) (N : NetD) (J : InJ) (mk dn : List Bool) (sm u : Sl) (a : Nat) (c best : Int) (A : KMap) (l : List Int) (S : Nat → Prop) (hb h0 : Heap) (e : List Value) (h' : Heap) : Prop :=
  ∃ (i : Nat) (S' : Nat → Prop) (v8 v9 v10 v14 v15 v16 v17 : Value),
    e = [.int .i64 a, .int .i64 c, .pointer (some ⟨J.Bg, 0, none⟩), .pointer (some ⟨J.Bt, 0, none⟩), .pointer (some ⟨J.Bb, 0, none⟩), .pointer (some ⟨J.Bd, 0, none⟩), .pointer (some ⟨J.Bm, 0, none⟩), .pointer (some ⟨J.Bh, 0, none⟩), v8, v9, v10, u.v, .int .i64 u.n, .int .i64 i, v14, v15, v16, v17] ∧ i ≤ l.length ∧
    Ext hb h' ∧ h0.size ≤ h'.size ∧ Mod (fun j => j = J.Bb ∨ S j) h0 h' ∧ (∀ j, S' j → S j ∨ h0.size ≤ j) ∧ StepH Y h' J sm ((l.take i).foldl (bestS N J.t a c) best) dn ((l.take i).foldl (heapS N mk dn a c) A) S' ∧ Own h' 1 u (ints64 l) ∧ (u.nl = false → ¬ S' u.b)
set_option maxHeartbeats 1000000 in
theorem wstep_spec (W : WalkFns Y) (HA : Y.Has F.cost_Add S_cost_Add) (HM : Y.Has F.walk_Inside_1 S_walk_Inside_1) (HS : Y.Has F.walk_Inside_2 S_walk_Inside_2) {N : NetD} {S0 : Nat → Prop} {hb : Heap} {mk : List Bool} (g0 : GraphA hb J.p N S0) (ok : NetOK N) (rm : RowM hb sm mk) (bm : sm.n ≤ 9223372036854775807) (jk : InOK J) (hlo : J.lo = hb.size) (hn : J.n = N.as.length)
    (x : Ext hb h) (k : StepH Y h J sm best dn A S) (ldn : dn.length = N.as.length) {a : Nat} {c : Int} (la : a < N.as.length)
    {R : Value → Heap → Prop} (hr : ∀ h' S', Ext hb h' → Mod (fun j => j = J.Bb ∨ S j) h h' → (∀ j, S' j → S j ∨ h.size ≤ j) →
      StepH Y h' J sm ((if vtxB N.vs.length (toV N a) then outsO N.as (toV N a) else []).foldl (bestS N J.t a c) best) dn ((if vtxB N.vs.length (toV N a) then outsO N.as (toV N a) else []).foldl (heapS N mk dn a c) A) S' → R (.tuple #[]) h') :
    CallP Y F.walk_Inside_2 [.int .i64 a, .int .i64 c, .pointer (some ⟨J.Bg, 0, none⟩), .pointer (some ⟨J.Bt, 0, none⟩), .pointer (some ⟨J.Bb, 0, none⟩), .pointer (some ⟨J.Bd, 0, none⟩), .pointer (some ⟨J.Bm, 0, none⟩), .pointer (some ⟨J.Bh, 0, none⟩)] h R := by
  have bn := ok.ba
  rw [stepS_eq] at HS
  refine .of_has HS rfl ?_
  simp [stepS, FnS.wp, k.bg.hc]
  refine stepAlt_wp W.G (g0.ext x) ok (k.bg.hc) (fun g e => by rw [(k.bg.ext e).hc]; rfl) ?_
  intro h1 u e1 ou fu
  obtain ⟨l, hl⟩ : ∃ l, l = (if vtxB N.vs.length (toV N a) then outsO N.as (toV N a) else []) := ⟨_, rfl⟩
  rw [← hl] at ou hr
  have hmem : ∀ x, x ∈ l → ∃ b : Nat, x = b ∧ b < N.as.length := fun x hx => by
    rw [hl] at hx
    split at hx
    · obtain ⟨b, q1, q2, _⟩ := mem_outs.1 hx
      exact ⟨b, q2, q1⟩
    · simp at hx
  have llen : l.length ≤ N.as.length := by
    rw [hl]
    split
    · unfold outsO; rw [idxF_len]; exact List.length_filter_le ..
    · simp
  have tl := ou.row64.len
  have x1 := x.trans e1
  have z1 := e1.size
  have hfu : u.nl = false → ¬ S u.b := fun hn q => by have := fu hn; have := k.hp.lt q; omega
  simp
  refine wp_loop' (StI Y N J mk dn sm u a c best A l S hb h) (fun e _ => l.length - argI e 13) ⟨0, S, _, _, _, _, _, _, _, rfl, by omega, x1, z1, e1.mono (fun _ _ h => h.elim), fun j hj => .inl hj, by simpa using k.ext e1, ou, hfu⟩ ?_
  rintro e h2 ⟨i, S1, v8, v9, v10, v14, v15, v16, v17, rfl, hi, x2, z2, m2, s2, k2, ot, nt⟩
  by_cases ci : i < l.length
  rotate_left
  · have ci' : ¬ (i : Int) < u.n := by omega
    have hi' : i = l.length := by omega
    subst hi'
    rw [List.take_length] at k2
    simp [ci']
    exact hr h2 S1 x2 m2 s2 k2
  have rt := ot.row64
  have ci1 : (i : Int) < u.n := by omega
  have ci2 : i < u.n := by omega
  have wi : IntKind.i64.wrap ((i : Int) + 1) = (i : Int) + 1 := i64_wrap (by omega)
  obtain ⟨b, hb', lb⟩ := hmem _ (nthI_mem ci)
  have rb := rt.val i ci
  rw [hb'] at rb
  have htk : l.take (i + 1) = l.take i ++ [(b : Int)] := by rw [List.take_succ_eq_append_getElem ci, ← nthI_at ci, hb']
  have hiF : ∀ g z (x : Nat), x < N.as.length → IOp.sem Y g (.idxa 1) [.slice (some ⟨z, 0, none⟩) J.n J.n, .int .i64 x] = some (.pointer (some ⟨z, x, none⟩)) := fun g z x lx => by
    have := sem_idxF (Y := Y) (h := g) (b := z) (sz := 1) (show J.n ≤ 9223372036854775807 by omega) (show x < J.n by omega) (Nat.le_refl J.n)
    simpa using this
  simp [ci1, ci2, sem_idxa rt.ok, rb, k2.bg.hc]
  refine gturn_spec W.G.Turn W.G.arc W.G.T (g0.ext x2) ok ?_
  intro h3 e3
  have x3 := x2.trans e3
  have k3 := k2.ext e3
  have z3 := e3.size
  have m3 := m2.then e3 (fun _ _ h => h.elim)
  have ot3 := ot.ext' e3
  by_cases t1 : turnV N a b = 1152921504606846976
  · have hA : (l.take (i + 1)).foldl (heapS N mk dn a c) A = (l.take i).foldl (heapS N mk dn a c) A := by
      rw [htk, List.foldl_append]; simp [heapS, t1]
    have hB : (l.take (i + 1)).foldl (bestS N J.t a c) best = (l.take i).foldl (bestS N J.t a c) best := by
      rw [htk, List.foldl_append]; simp [bestS, t1]
    simp [t1, wi]
    exact ⟨⟨i + 1, S1, _, _, _, _, _, _, _, rfl, by omega, x3, by omega, m3, s2, by rw [hA, hB]; exact k3, ot3, nt⟩, by simp [argI]; omega⟩
  by_cases bt : (b : Int) = J.t
  · have hB0 : (l.take (i + 1)).foldl (bestS N J.t a c) best = (if addI c (turnV N a b) < (l.take i).foldl (bestS N J.t a c) best then addI c (turnV N a b) else (l.take i).foldl (bestS N J.t a c) best) := by
      rw [htk, List.foldl_append]; simp [bestS, t1, (eq_true bt : ((b : Int) = J.t) = True)]
    obtain ⟨bq, hB⟩ : ∃ bq, (if addI c (turnV N a b) < (l.take i).foldl (bestS N J.t a c) best then addI c (turnV N a b) else (l.take i).foldl (bestS N J.t a c) best) = bq := ⟨_, rfl⟩
    rw [hB] at hB0
    simp [t1, k3.bt.hc, (eq_true bt : ((b : Int) = J.t) = True), k3.bb.hc]
    refine add_spec ⟨W.C.Held, HA, W.C.Sum⟩ ?_
    simp [k3.bb.hc]
    rw [hB]
    refine stB k3.bb (by simp) ?_
    intro hq Bq mq0
    have kq := k3.setB jk mq0 (by simpa using Bq)
    have xq : Ext hb hq := Mod.ext x3 mq0 (fun j hj => by have := jk.l3; omega)
    have zq : h.size ≤ hq.size := by have := mq0.size; omega
    have mq : Mod (fun j => j = J.Bb ∨ S j) h hq := m3.then mq0 (fun j _ hj => .inl hj)
    have sq := s2
    have lbb := k.bb.lt
    have otq : Own hq 1 u (ints64 l) := ot3.mod mq0 (fun hn q => by have := fu hn; omega)
    have ntq := nt
    clear hB
    have hB := hB0
    simp [kq.bg.hc]
    refine gweight_spec W.G.Weight W.G.arc (g0.ext xq) ?_
    by_cases w1 : weightV N b = 1152921504606846976
    · have hA : (l.take (i + 1)).foldl (heapS N mk dn a c) A = (l.take i).foldl (heapS N mk dn a c) A := by
        rw [htk, List.foldl_append]; simp [heapS, w1]
      simp [w1, wi]
      exact ⟨⟨i + 1, S1, _, _, _, _, _, _, _, rfl, by omega, xq, zq, mq, sq, by rw [hA, hB]; exact kq, otq, by simpa using ntq⟩, by simp [argI]; omega⟩
    have kd := kq.dn.rowM.val b (by rw [ldn]; exact lb)
    simp at kd
    by_cases d1 : nthM dn b = true
    · have hA : (l.take (i + 1)).foldl (heapS N mk dn a c) A = (l.take i).foldl (heapS N mk dn a c) A := by
        rw [htk, List.foldl_append]; simp [heapS, d1]
      rw [d1] at kd
      simp [w1, kq.bd.hc, hiF _ _ _ lb, kd, wi]
      exact ⟨⟨i + 1, S1, _, _, _, _, _, _, _, rfl, by omega, xq, zq, mq, sq, by rw [hA, hB]; exact kq, otq, by simpa using ntq⟩, by simp [argI]; omega⟩
    have d1' : nthM dn b = false := by simpa using d1
    rw [d1'] at kd
    simp [w1, kq.bd.hc, hiF _ _ _ lb, kd, kq.bm.hc, kq.bg.hc]
    refine gfrom_spec W.G.From W.G.arc (g0.ext xq) ?_
    simp [kq.bm.hc]
    refine wmarked_spec HM kq.bi.hc (rm.ext xq) bm ?_
    by_cases f1 : markB mk (fromV N b) = true
    rotate_left
    · have f1' : markB mk (fromV N b) = false := by simpa using f1
      have hA : (l.take (i + 1)).foldl (heapS N mk dn a c) A = (l.take i).foldl (heapS N mk dn a c) A := by
        rw [htk, List.foldl_append]; simp [heapS, f1']
      simp [f1', wi]
      exact ⟨⟨i + 1, S1, _, _, _, _, _, _, _, rfl, by omega, xq, zq, mq, sq, by rw [hA, hB]; exact kq, otq, by simpa using ntq⟩, by simp [argI]; omega⟩
    simp [f1, kq.bm.hc, kq.bg.hc]
    refine gto_spec W.G.To W.G.arc (g0.ext xq) ?_
    simp [kq.bm.hc]
    refine wmarked_spec HM kq.bi.hc (rm.ext xq) bm ?_
    by_cases f2 : markB mk (toV N b) = true
    rotate_left
    · have f2' : markB mk (toV N b) = false := by simpa using f2
      have hA : (l.take (i + 1)).foldl (heapS N mk dn a c) A = (l.take i).foldl (heapS N mk dn a c) A := by
        rw [htk, List.foldl_append]; simp [heapS, f2']
      simp [f2', wi]
      exact ⟨⟨i + 1, S1, _, _, _, _, _, _, _, rfl, by omega, xq, zq, mq, sq, by rw [hA, hB]; exact kq, otq, by simpa using ntq⟩, by simp [argI]; omega⟩
    have hA : (l.take (i + 1)).foldl (heapS N mk dn a c) A = putM N.as.length ((l.take i).foldl (heapS N mk dn a c) A) b (held (sumI [c, turnV N a b, weightV N b])) := by
      rw [htk, List.foldl_append]; simp [heapS, t1, w1, d1', f1, f2]
    simp [f2, kq.bh.hc]
    refine ef_bslice_all rfl rfl rfl ?_ (by omega)
    intro b3 h12 g12 _ e12 o12
    have r12 : Row64 h12 (Sl.at b3 3 3) [c, turnV N a b, weightV N b] := Own.row64 (cs := [c, turnV N a b, weightV N b]) o12
    have k12 := kq.ext e12
    have z12 := e12.size
    simp [k12.bh.hc]
    refine sum_spec W.C r12 (by simp) ?_
    simp [k12.bh.hc]
    refine put_spec W.H.Put W.H.key W.C.Held W.H.up W.H.ahead W.H.swap k12.hp ?_
    intro h13 S13 H13 f13 m13
    have z13 := m13.size
    have k13 := k12.heap jk m13 H13 f13
    have ot13 := (otq.ext' e12).mod m13 (fun hn => ntq hn)
    have nt13 : u.nl = false → ¬ S13 u.b := fun hn q => by
      rcases f13 _ q with q | q
      · exact ntq hn q
      · have := (otq.ext' e12).lt hn; omega
    simp [wi]
    refine ⟨⟨i + 1, S13, _, _, _, _, _, _, _, rfl, by omega, Mod.ext (xq.trans e12) m13 (fun j hj => by have := (k12.dj j hj).1; omega), by omega, (mq.then e12 (fun _ _ h => h.elim)).then m13 (fun j hj hh => by rcases sq j hh with q | q; exact .inr q; omega), fun j hj => by
      rcases f13 j hj with q | q
      · exact sq j q
      · right; omega, by rw [hA, hB, ← hn]; exact k13, ot13, nt13⟩, by simp [argI]; omega⟩
  · have bt' : ((b : Int) = J.t) = False := eq_false bt
    have hB : (l.take (i + 1)).foldl (bestS N J.t a c) best = (l.take i).foldl (bestS N J.t a c) best := by
      rw [htk, List.foldl_append]; simp [bestS, t1, bt]
    have kq := k3
    have xq := x3
    have zq : h.size ≤ h3.size := by omega
    have mq := m3
    have sq := s2
    have otq := ot3
    have ntq := nt
    simp [t1, k3.bt.hc, bt']
    simp [kq.bg.hc]
    refine gweight_spec W.G.Weight W.G.arc (g0.ext xq) ?_
    by_cases w1 : weightV N b = 1152921504606846976
    · have hA : (l.take (i + 1)).foldl (heapS N mk dn a c) A = (l.take i).foldl (heapS N mk dn a c) A := by
        rw [htk, List.foldl_append]; simp [heapS, w1]
      simp [w1, wi]
      exact ⟨⟨i + 1, S1, _, _, _, _, _, _, _, rfl, by omega, xq, zq, mq, sq, by rw [hA, hB]; exact kq, otq, by simpa using ntq⟩, by simp [argI]; omega⟩
    have kd := kq.dn.rowM.val b (by rw [ldn]; exact lb)
    simp at kd
    by_cases d1 : nthM dn b = true
    · have hA : (l.take (i + 1)).foldl (heapS N mk dn a c) A = (l.take i).foldl (heapS N mk dn a c) A := by
        rw [htk, List.foldl_append]; simp [heapS, d1]
      rw [d1] at kd
      simp [w1, kq.bd.hc, hiF _ _ _ lb, kd, wi]
      exact ⟨⟨i + 1, S1, _, _, _, _, _, _, _, rfl, by omega, xq, zq, mq, sq, by rw [hA, hB]; exact kq, otq, by simpa using ntq⟩, by simp [argI]; omega⟩
    have d1' : nthM dn b = false := by simpa using d1
    rw [d1'] at kd
    simp [w1, kq.bd.hc, hiF _ _ _ lb, kd, kq.bm.hc, kq.bg.hc]
    refine gfrom_spec W.G.From W.G.arc (g0.ext xq) ?_
    simp [kq.bm.hc]
    refine wmarked_spec HM kq.bi.hc (rm.ext xq) bm ?_
    by_cases f1 : markB mk (fromV N b) = true
    rotate_left
    · have f1' : markB mk (fromV N b) = false := by simpa using f1
      have hA : (l.take (i + 1)).foldl (heapS N mk dn a c) A = (l.take i).foldl (heapS N mk dn a c) A := by
        rw [htk, List.foldl_append]; simp [heapS, f1']
      simp [f1', wi]
      exact ⟨⟨i + 1, S1, _, _, _, _, _, _, _, rfl, by omega, xq, zq, mq, sq, by rw [hA, hB]; exact kq, otq, by simpa using ntq⟩, by simp [argI]; omega⟩
    simp [f1, kq.bm.hc, kq.bg.hc]
    refine gto_spec W.G.To W.G.arc (g0.ext xq) ?_
    simp [kq.bm.hc]
    refine wmarked_spec HM kq.bi.hc (rm.ext xq) bm ?_
    by_cases f2 : markB mk (toV N b) = true
    rotate_left
    · have f2' : markB mk (toV N b) = false := by simpa using f2
      have hA : (l.take (i + 1)).foldl (heapS N mk dn a c) A = (l.take i).foldl (heapS N mk dn a c) A := by
        rw [htk, List.foldl_append]; simp [heapS, f2']
      simp [f2', wi]
      exact ⟨⟨i + 1, S1, _, _, _, _, _, _, _, rfl, by omega, xq, zq, mq, sq, by rw [hA, hB]; exact kq, otq, by simpa using ntq⟩, by simp [argI]; omega⟩
    have hA : (l.take (i + 1)).foldl (heapS N mk dn a c) A = putM N.as.length ((l.take i).foldl (heapS N mk dn a c) A) b (held (sumI [c, turnV N a b, weightV N b])) := by
      rw [htk, List.foldl_append]; simp [heapS, t1, w1, d1', f1, f2]
    simp [f2, kq.bh.hc]
    refine ef_bslice_all rfl rfl rfl ?_ (by omega)
    intro b3 h12 g12 _ e12 o12
    have r12 : Row64 h12 (Sl.at b3 3 3) [c, turnV N a b, weightV N b] := Own.row64 (cs := [c, turnV N a b, weightV N b]) o12
    have k12 := kq.ext e12
    have z12 := e12.size
    simp [k12.bh.hc]
    refine sum_spec W.C r12 (by simp) ?_
    simp [k12.bh.hc]
    refine put_spec W.H.Put W.H.key W.C.Held W.H.up W.H.ahead W.H.swap k12.hp ?_
    intro h13 S13 H13 f13 m13
    have z13 := m13.size
    have k13 := k12.heap jk m13 H13 f13
    have ot13 := (otq.ext' e12).mod m13 (fun hn => ntq hn)
    have nt13 : u.nl = false → ¬ S13 u.b := fun hn q => by
      rcases f13 _ q with q | q
      · exact ntq hn q
      · have := (otq.ext' e12).lt hn; omega
    simp [wi]
    refine ⟨⟨i + 1, S13, _, _, _, _, _, _, _, rfl, by omega, Mod.ext (xq.trans e12) m13 (fun j hj => by have := (k12.dj j hj).1; omega), by omega, (mq.then e12 (fun _ _ h => h.elim)).then m13 (fun j hj hh => by rcases sq j hh with q | q; exact .inr q; omega), fun j hj => by
      rcases f13 j hj with q | q
      · exact sq j q
      · right; omega, by rw [hA, hB, ← hn]; exact k13, ot13, nt13⟩, by simp [argI]; omega⟩
end
end Go.Rm

/- Least walks within, in plain Lean; Inside. -/
set_option linter.unusedSimpArgs false
set_option linter.unusedVariables false
namespace Go.Rm
/-- a step within marked vertices -/
def EdI (N : NetD) (m : List Bool) (a b : Nat) (w : Int) : Prop := EdW N a b w ∧ markB m (fromV N b) = true ∧ markB m (toV N b) = true
/-- rows from s to t by arcs within -/
def RowI (N : NetD) (m : List Bool) (s t : Nat) (x : Int) : Prop := ∃ a c, ((a = s ∧ c = 0) ∨ WalkS (EdI N m s) (EdI N m) a c) ∧ turnV N a t ≠ 1152921504606846976 ∧ x = c + turnV N a t
structure InsideP (N : NetD) (m : List Bool) (s t : Nat) (d : Int) : Prop where
  le : d ≤ 1152921504606846976
  all : ∀ x, RowI N m s t x → d ≤ x
  is : d = 1152921504606846976 ∨ RowI N m s t d
theorem InsideP.uniq {N : NetD} {m : List Bool} {s t : Nat} {d d' : Int} (h : InsideP N m s t d) (h' : InsideP N m s t d') : d = d' := by
  have a1 := h.le
  have a2 := h'.le
  rcases h.is with e | e <;> rcases h'.is with e' | e'
  · omega
  · have := h.all _ e'; omega
  · have := h'.all _ e; omega
  · have := h.all _ e'; have := h'.all _ e; omega
theorem in_costs {N : NetD} (ok : NetOK N) {m : List Bool} {s : Nat} : Costs N.as.length (EdI N m s) (EdI N m) :=
  ⟨fun b c h => (from_costs ok (s := 0)).e0 _ _ _ h.1, fun a b w h => (from_costs ok (s := 0)).e0 _ _ _ h.1, ok.ba⟩
section
variable {N : NetD} {m dn : List Bool} {s k : Nat} {ord : List Nat} {cost : Nat → Int} {A : KMap} {c : Int} {V : Bool}
def penI (V : Bool) (rest : List Int) (y : Nat) : Prop := V = true ∧ (y : Int) ∈ rest
def penE (V : Bool) (k : Nat) (rest : List Int) (a y : Nat) : Prop := V = false ∧ a = k ∧ (y : Int) ∈ rest
structure CurW (N : NetD) (m dn : List Bool) (s k : Nat) (ord : List Nat) (cost : Nat → Int) (c : Int) (V : Bool) : Prop where
  virt : V = true → k = s ∧ c = 0
  real : V = false → k ∈ ord ∧ cost k = c
  top : ∀ a, a ∈ ord → cost a ≤ c
  c0 : 0 ≤ c
  cb : c ≤ ord.length * 4294967296
  sett : ∀ b, b < N.as.length → (nthM dn b = true ↔ b ∈ ord)
theorem heapS_step (ok : NetOK N) (u : CurW N m dn s k ord cost c V) {b : Nat} (hb : b < N.as.length) {rest : List Int} (d : Dij N.as.length (EdI N m s) (EdI N m) ord cost A (penI V ((b : Int) :: rest)) (penE V k ((b : Int) :: rest))) :
    Dij N.as.length (EdI N m s) (EdI N m) ord cost (heapS N m dn k c A b) (penI V rest) (penE V k rest) := by
  have C := in_costs ok (m := m) (s := s)
  have olen := nodup_len d.nd d.lt
  -- an edge to b is seen to
  have fin : ∀ A' : KMap, Dij N.as.length (EdI N m s) (EdI N m) ord cost A' (penI V ((b : Int) :: rest)) (penE V k ((b : Int) :: rest)) → (∀ w, EdI N m k b w → RxW ord cost A' b (c + w)) → Dij N.as.length (EdI N m s) (EdI N m) ord cost A' (penI V rest) (penE V k rest) := by
    intro A' d' hx
    refine d'.less (fun y x he hp => ?_) (fun a ha y w he hp => ?_)
    · obtain ⟨h1, h2⟩ := hp
      obtain ⟨rfl, hc⟩ := u.virt h1
      rcases List.mem_cons.1 h2 with e | e
      · have : y = b := by omega
        subst this
        have := hx x he
        rw [hc] at this
        right; simpa using this
      · exact .inl ⟨h1, e⟩
    · obtain ⟨h1, rfl, h2⟩ := hp
      obtain ⟨_, hc⟩ := u.real h1
      rcases List.mem_cons.1 h2 with e | e
      · have : y = b := by omega
        subst this
        right
        rw [hc]
        exact hx w he
      · exact .inl ⟨h1, rfl, e⟩
  unfold heapS
  split
  · rename_i h
    refine fin A d (fun w he => ?_)
    obtain ⟨⟨e1, e2, e3⟩, e4, e5⟩ := he
    rcases h with h | h | h | h | h
    · exact absurd h e1
    · exact absurd h e2
    · have hb' := (u.sett b hb).1 (by simpa using h)
      have tc := (turn_cases ok (a := (k : Int)) (b := (b : Int))).resolve_left e1
      have wc := (arc_cases ok (a := (b : Int))).resolve_left e2
      have := u.top b hb'
      exact .inl ⟨hb', by omega⟩
    · rw [e4] at h; cases h
    · rw [e5] at h; cases h
  · rename_i h
    have h1 : ¬ turnV N k b = 1152921504606846976 := fun e => h (.inl e)
    have h2 : ¬ weightV N b = 1152921504606846976 := fun e => h (.inr (.inl e))
    have h3 : b ∉ ord := fun e => h (.inr (.inr (.inl (by simpa using (u.sett b hb).2 e))))
    have h4 : markB m (fromV N b) = true := by
      cases q : markB m (fromV N b) with
      | true => rfl
      | false => exact absurd (.inr (.inr (.inr (.inl q)))) h
    have h5 : markB m (toV N b) = true := by
      cases q : markB m (toV N b) with
      | true => rfl
      | false => exact absurd (.inr (.inr (.inr (.inr q)))) h
    have tc := (turn_cases ok (a := (k : Int)) (b := (b : Int))).resolve_left h1
    have wc := (arc_cases ok (a := (b : Int))).resolve_left h2
    have bn := ok.ba
    have cb := u.cb
    have c0 := u.c0
    have s3 := sum3 c0 tc.1 wc.1 (by omega)
    have he : EdI N m k b (turnV N k b + weightV N b) := ⟨⟨h1, h2, rfl⟩, h4, h5⟩
    rw [s3, held_in (by omega) (by omega)]
    have hw : WalkS (EdI N m s) (EdI N m) b (c + turnV N k b + weightV N b) := by
      cases hV : V with
      | true =>
        obtain ⟨rfl, hc⟩ := u.virt hV
        have := WalkS.init (I := EdI N m k) (E := EdI N m) he
        rw [hc]; simpa using this
      | false =>
        obtain ⟨q1, q2⟩ := u.real hV
        have := WalkS.step (d.wS k q1) he
        rw [q2] at this
        rwa [Int.add_assoc]
    obtain ⟨p1, p2⟩ := d.put hb h3 hw (by omega) (fun a ha => by have := u.top a ha; omega)
    refine fin _ p1 (fun w he' => ?_)
    have : w = turnV N k b + weightV N b := he'.1.2.2
    subst this
    rw [← Int.add_assoc]
    exact p2
theorem heapS_fold (ok : NetOK N) (u : CurW N m dn s k ord cost c V) : ∀ {l : List Int} {A : KMap}, (∀ x, x ∈ l → ∃ b : Nat, x = b ∧ b < N.as.length) → Dij N.as.length (EdI N m s) (EdI N m) ord cost A (penI V l) (penE V k l) →
    Dij N.as.length (EdI N m s) (EdI N m) ord cost (l.foldl (heapS N m dn k c) A) (fun _ => False) (fun _ _ => False) := by
  intro l
  induction l with
  | nil => intro A _ d; exact d.less (fun _ _ _ h => by simp [penI] at h) (fun _ _ _ _ _ h => by simp [penE] at h)
  | cons x r ih =>
    intro A hl d
    obtain ⟨b, rfl, hb⟩ := hl x (by simp)
    exact ih (fun y hy => hl y (by simp [hy])) (heapS_step ok u hb d)
theorem best_fold {t : Int} : ∀ {l : List Int} {B : Int}, l.foldl (bestS N t k c) B ≤ B ∧ (∀ b, b ∈ l → b = t → turnV N k b ≠ 1152921504606846976 → l.foldl (bestS N t k c) B ≤ addI c (turnV N k b)) ∧
    (l.foldl (bestS N t k c) B = B ∨ ∃ b, b ∈ l ∧ b = t ∧ turnV N k b ≠ 1152921504606846976 ∧ l.foldl (bestS N t k c) B = addI c (turnV N k b)) := by
  intro l
  induction l with
  | nil => intro B; exact ⟨Int.le_refl _, fun b h => by simp at h, .inl rfl⟩
  | cons x r ih =>
    intro B
    obtain ⟨i1, i2, i3⟩ := ih (B := bestS N t k c B x)
    have hs : bestS N t k c B x ≤ B ∧ (x = t → turnV N k x ≠ 1152921504606846976 → bestS N t k c B x ≤ addI c (turnV N k x)) ∧ (bestS N t k c B x = B ∨ (x = t ∧ turnV N k x ≠ 1152921504606846976 ∧ bestS N t k c B x = addI c (turnV N k x))) := by
      unfold bestS
      by_cases h1 : turnV N k x = 1152921504606846976
      · simp [h1]
      · by_cases h2 : x = t
        · simp only [h1, h2, if_false, if_true]
          rw [h2] at h1
          simp only [h1, if_false]
          split
          · exact ⟨by omega, fun _ _ => Int.le_refl _, .inr ⟨trivial, h1, rfl⟩⟩
          · exact ⟨Int.le_refl _, fun _ _ => by omega, .inl rfl⟩
        · simp [h1, h2]
    simp only [List.foldl_cons]
    refine ⟨by omega, fun b hb e ht => ?_, ?_⟩
    · rcases List.mem_cons.1 hb with q | q
      · subst q
        have := hs.2.1 e ht
        omega
      · exact i2 b q e ht
    · rcases i3 with q | ⟨b, q1, q2, q3, q4⟩
      · rcases hs.2.2 with q' | ⟨q1, q2, q3⟩
        · exact .inl (by rw [q, q'])
        · exact .inr ⟨x, by simp, q1, q2, by rw [q, q3]⟩
      · exact .inr ⟨b, by simp [q1], q2, q3, q4⟩
end
/-- what is known on the way -/
structure InsI (N : NetD) (m dn : List Bool) (s t : Nat) (ord : List Nat) (cost : Nat → Int) (A : KMap) (best : Int) : Prop where
  d : Dij N.as.length (EdI N m s) (EdI N m) ord cost A (fun _ => False) (fun _ _ => False)
  sett : ∀ b, b < N.as.length → (nthM dn b = true ↔ b ∈ ord)
  le : best ≤ 1152921504606846976
  is : best = 1152921504606846976 ∨ RowI N m s t best
  virt : turnV N s t ≠ 1152921504606846976 → best ≤ turnV N s t
  real : ∀ a, a ∈ ord → turnV N a t ≠ 1152921504606846976 → best ≤ cost a + turnV N a t
theorem InsI.fin {N : NetD} (ok : NetOK N) {m dn : List Bool} {s t : Nat} {ord : List Nat} {cost : Nat → Int} {A : KMap} {best : Int} (i : InsI N m dn s t ord cost A best) (h : ∀ k x, k < N.as.length → A k = some x → best ≤ x) : InsideP N m s t best := by
  refine ⟨i.le, fun x hx => ?_, i.is⟩
  obtain ⟨a, c, h1, h2, rfl⟩ := hx
  have tc := (turn_cases ok (a := (a : Int)) (b := (t : Int))).resolve_left h2
  rcases h1 with ⟨rfl, rfl⟩ | h1
  · have := i.virt h2; omega
  · rcases i.d.walk (in_costs ok) h1 with ⟨q1, q2⟩ | ⟨k, y, q1, q2, q3⟩
    · have := i.real a q1 h2; omega
    · have := h k y q1 q2; omega
end Go.Rm

/- Least walks: Inside. -/
set_option linter.unusedSimpArgs false
set_option linter.unusedVariables false
namespace Go.Rm
theorem add2 {a b : Int} (ha : 0 ≤ a) (hb : 0 ≤ b) (h : a + b ≤ 1152921504606846976) : addI a b = a + b := by
  unfold addI
  rw [held_in ha (by omega), held_in hb (by omega), held_in (by omega) h]
theorem InsI.next {N : NetD} (ok : NetOK N) {m dn : List Bool} {s t k : Nat} {ord : List Nat} {cost : Nat → Int} {A : KMap} {best c : Int} {V : Bool} {l : List Int} (u : CurW N m dn s k ord cost c V)
    (d : Dij N.as.length (EdI N m s) (EdI N m) ord cost A (penI V l) (penE V k l)) (hl : ∀ x, x ∈ l → ∃ b : Nat, x = b ∧ b < N.as.length) (hin : turnV N k t ≠ 1152921504606846976 → (t : Int) ∈ l)
    (le : best ≤ 1152921504606846976) (is : best = 1152921504606846976 ∨ RowI N m s t best) (virt : V = false → turnV N s t ≠ 1152921504606846976 → best ≤ turnV N s t)
    (real : ∀ a, a ∈ ord → (V = true ∨ a ≠ k) → turnV N a t ≠ 1152921504606846976 → best ≤ cost a + turnV N a t) :
    InsI N m dn s t ord cost (l.foldl (heapS N m dn k c) A) (l.foldl (bestS N t k c) best) := by
  have olen := nodup_len d.nd d.lt
  have bn := ok.ba
  have cb := u.cb
  have c0 := u.c0
  obtain ⟨b1, b2, b3⟩ := best_fold (N := N) (k := k) (c := c) (t := (t : Int)) (l := l) (B := best)
  have hadd : turnV N k t ≠ 1152921504606846976 → addI c (turnV N k t) = c + turnV N k t := fun h => by
    have tc := (turn_cases ok (a := (k : Int)) (b := (t : Int))).resolve_left h
    exact add2 c0 tc.1 (by omega)
  have hk : turnV N k t ≠ 1152921504606846976 → l.foldl (bestS N t k c) best ≤ c + turnV N k t := fun h => by
    have := b2 t (hin h) rfl h
    rw [hadd h] at this
    exact this
  refine ⟨heapS_fold ok u hl d, u.sett, by omega, ?_, fun h => ?_, fun a ha h => ?_⟩
  · rcases b3 with q | ⟨b, q1, q2, q3, q4⟩
    · rw [q]; exact is
    · right
      subst q2
      rw [q4, hadd q3]
      refine ⟨k, c, ?_, q3, rfl⟩
      cases hV : V with
      | true => exact .inl (u.virt hV)
      | false =>
        obtain ⟨r1, r2⟩ := u.real hV
        right
        have := d.wS k r1
        rwa [r2] at this
  · cases hV : V with
    | true =>
      obtain ⟨r1, r2⟩ := u.virt hV
      rw [← r1] at h ⊢
      have := hk h
      omega
    | false =>
      have := virt hV h
      omega
  · by_cases e : V = true ∨ a ≠ k
    · have := real a ha e h; omega
    · have e1 : V = false := by cases hV : V with
        | true => exact absurd (.inl hV) e
        | false => rfl
      have e2 : a = k := Decidable.byContradiction fun q => e (.inr q)
      subst e2
      have := hk h
      rw [(u.real e1).2]
      exact this
theorem ef_store_fn {h : Heap} {K : Value → Heap → Prop} {b o : Nat} {f : Fn} {x y : Array Value} : Ef.wp h K (.store 1) [.pointer (some ⟨b, o, none⟩), .func f x y] = StoreP h b o (.func f x y) K := ef_store1_eq rfl
structure InFns (Y : Sys) : Prop where
  W : WalkFns Y
  Add : Y.Has F.cost_Add S_cost_Add
  M : Y.Has F.walk_Inside_1 S_walk_Inside_1
  S : Y.Has F.walk_Inside_2 S_walk_Inside_2
  Inside : Y.Has F.walk_Inside S_walk_Inside
section
variable {Y : Sys} {h h' : Heap} {p : Nat} {N : NetD} {S0 : Nat → Prop}
def WnO (Y : Sys) (N : NetD) (J : InJ) (mk : List Bool) (sm : Sl) (s t : Nat) (v0 v2 v7 v12 : Value) (h0 : Heap) (mm : Nat) (e : List Value) (h' : Heap) : Prop :=
  ∃ (ord : List Nat) (cost : Nat → Int) (A : KMap) (best : Int) (dn : List Bool) (S : Nat → Prop) (v13 v14 v15 v16 v17 : Value),
    e = [v0, .int .i64 s, v2, sm.v, .pointer (some ⟨J.Bg, 0, none⟩), .pointer (some ⟨J.Bt, 0, none⟩), .pointer (some ⟨J.Bi, 0, none⟩), v7, .pointer (some ⟨J.Bm, 0, none⟩), .pointer (some ⟨J.Bb, 0, none⟩), .pointer (some ⟨J.Bh, 0, none⟩), .pointer (some ⟨J.Bd, 0, none⟩), v12, v13, v14, v15, v16, v17] ∧
    Ext h0 h' ∧ StepH Y h' J sm best dn A S ∧ dn.length = N.as.length ∧ InsI N mk dn s t ord cost A best ∧ mm = N.as.length - ord.length
theorem winside_spec (X : InFns Y) (g : GraphA h p N S0) (ok : NetOK N) {s t : Int} {sm : Sl} {mk : List Bool} (rm : RowM h sm mk) (bm : sm.n ≤ 9223372036854775807)
    {R : Value → Heap → Prop} (hr : ∀ h' d, Ext h h' → (((vtxB N.as.length s = false ∨ vtxB N.as.length t = false) ∧ d = 1152921504606846976) ∨ ∃ a b : Nat, s = a ∧ t = b ∧ a < N.as.length ∧ b < N.as.length ∧ InsideP N mk a b d) → R (.int .i64 d) h') :
    CallP Y F.walk_Inside [.pointer (some ⟨p, 0, none⟩), .int .i64 s, .int .i64 t, sm.v] h R := by
  have bn := ok.ba
  refine .of_has X.Inside rfl ?_
  simp [S_walk_Inside, FnS.wp]
  refine ef_new_box ?_
  intro Bg h1 g1 Bg1 e1
  simp
  refine ef_new_box ?_
  intro Bt h2 g2 Bt2 e2
  simp
  refine ef_new_box ?_
  intro Bi h3 g3 Bi3 e3
  have x3 := (e1.trans e2).trans e3
  have Bg3 := (Bg1.ext e2).ext e3
  have Bt3 := Bt2.ext e3
  have z1 := e1.size
  have z2 := e2.size
  have z3 := e3.size
  have l1 := Bg1.lt
  have l2 := Bt2.lt
  have l3 := Bi3.lt
  simp [Bg3.hc]
  refine gto_spec X.W.G.To X.W.G.arc (g.ext x3) ?_
  have toneg : ∀ a : Int, (toV N a < 0) ↔ vtxB N.as.length a = false := fun a => by
    unfold toV
    cases c : vtxB N.as.length a with
    | true =>
      simp [vtxB] at c
      have := ok.arcs a.toNat (by omega)
      have h2 := this.2
      simp [vtxB] at h2
      simp
      omega
    | false => simp
  by_cases c1 : toV N s < 0
  · simp [c1]
    exact hr h3 _ x3 (.inl ⟨.inl ((toneg s).1 c1), rfl⟩)
  simp [c1, Bg3.hc, Bt3.hc]
  refine gto_spec X.W.G.To X.W.G.arc (g.ext x3) ?_
  by_cases c2 : toV N t < 0
  · simp [c2]
    exact hr h3 _ x3 (.inl ⟨.inr ((toneg t).1 c2), rfl⟩)
  have vs : vtxB N.as.length s = true := by
    cases q : vtxB N.as.length s with
    | true => rfl
    | false => exact absurd ((toneg s).2 q) c1
  have vt : vtxB N.as.length t = true := by
    cases q : vtxB N.as.length t with
    | true => rfl
    | false => exact absurd ((toneg t).2 q) c2
  simp [vtxB] at vs vt
  obtain ⟨a, rfl⟩ : ∃ a : Nat, s = a := ⟨s.toNat, by omega⟩
  obtain ⟨b, rfl⟩ : ∃ b : Nat, t = b := ⟨t.toNat, by omega⟩
  have la : a < N.as.length := by omega
  have lb : b < N.as.length := by omega
  have hmk : ∀ g, IOp.sem Y g (.mkf 266 0) [.pointer (some ⟨Bi, 0, none⟩)] = some (.func (.func (Y.fid F.walk_Inside_1)) #[] #[.pointer (some ⟨Bi, 0, none⟩)]) := fun g => rfl
  simp [c2, hmk]
  refine ef_new_box ?_
  intro Bm h4 g4 Bm4 e4
  replace Bm4 : Blk h4 Bm #[.nilFunc] := Bm4
  simp
  have lm4 := Bm4.lt
  rw [ef_store_fn]
  refine stB Bm4 (by simp) ?_
  intro h5 Bm5 m5
  simp at Bm5
  have e5 : Ext h3 h5 := Mod.toExtF e4 m5 g4
  have x5 := x3.trans e5
  have z4 := e4.size
  have z5 := m5.size
  have Bg5 := Bg3.ext e5
  have Bt5 := Bt3.ext e5
  have Bi5 := Bi3.ext e5
  simp
  refine ef_new_box ?_
  intro Bb h6 g6 Bb6 e6
  replace Bb6 : Blk h6 Bb #[.int .i64 0] := Bb6
  have l6 := Bb6.lt
  have z6 := e6.size
  simp
  refine stB Bb6 (by simp) ?_
  intro h7 Bb7 m7
  simp at Bb7
  have z7 := m7.size
  have e7 : Ext h5 h7 := Mod.toExtF e6 m7 g6
  have x7 := x5.trans e7
  have Bg7 := Bg5.ext e7
  have Bt7 := Bt5.ext e7
  have Bi7 := Bi5.ext e7
  have Bm7 := Bm5.ext e7
  simp [Bg7.hc]
  refine garcs_spec X.W.G.Arcs (g.ext x7) ?_
  simp
  refine new_spec X.W.H.New ?_
  intro h8 hp S8 H8 f8 e8
  rw [keysN_le bn] at H8
  have z8 := e8.size
  simp
  refine ef_new_box ?_
  intro Bh h9 g9 Bh9 e9
  replace Bh9 : Blk h9 Bh #[.pointer none] := Bh9
  have l9 := Bh9.lt
  have z9 := e9.size
  simp
  refine stB Bh9 (by simp) ?_
  intro h10 Bh10 m10
  simp at Bh10
  have z10 := m10.size
  have e10 : Ext h8 h10 := Mod.toExtF e9 m10 g9
  have x10 := (x7.trans e8).trans e10
  have Bg10 := (Bg7.ext e8).ext e10
  simp [Bg10.hc]
  refine garcs_spec X.W.G.Arcs (g.ext x10) ?_
  simp
  refine ef_makeM (n := N.as.length) (by omega) rfl ?_
  intro db h11 g11 o11 e11 l11
  have z11 := e11.size
  simp
  refine ef_new_box ?_
  intro Bd h12 g12 Bd12 e12
  replace Bd12 : Blk h12 Bd #[.slice none 0 0] := Bd12
  have l12 := Bd12.lt
  have z12 := e12.size
  simp
  refine stB Bd12 (by simp) ?_
  intro h13 Bd13 m13
  simp at Bd13
  have z13 := m13.size
  have e13 : Ext h11 h13 := Mod.toExtF e12 m13 g12
  have y13 : Ext h10 h13 := e11.trans e13
  have x13 := x10.trans y13
  obtain ⟨J, hJ⟩ : ∃ J : InJ, J = ⟨Bg, Bt, Bb, Bd, Bm, Bh, Bi, db, hp, p, N.as.length, h.size, b⟩ := ⟨_, rfl⟩
  have jk : InOK J := by
    subst hJ
    refine ⟨?_, ?_, ?_, ?_, ?_, ?_, ?_, ?_, ?_, ?_, ?_, ?_, ?_, ?_, ?_, ?_, ?_, ?_, ?_, ?_, ?_⟩ <;> simp only [] <;> omega
  have k13 : StepH Y h13 J sm 1152921504606846976 (List.replicate N.as.length false) (fun _ => none) S8 := by
    subst hJ
    refine ⟨Bg10.ext y13, ((Bt7.ext e8).ext e10).ext y13, ((Bb7.ext e8).ext e10).ext y13, Bd13, ((Bm7.ext e8).ext e10).ext y13, Bh10.ext y13, ((Bi7.ext e8).ext e10).ext y13, by simpa [boolsM] using o11.ext' e13, (H8.mod e10 (fun _ _ h => h)).mod y13 (fun _ _ h => h), fun q hq => ?_⟩
    have q1 := f8 q hq
    have q2 := H8.lt hq
    simp only []
    refine ⟨by omega, by omega, by omega, by omega, by omega, by omega, by omega, by omega, by omega⟩
  have hmk2 : ∀ g, IOp.sem Y g (.mkf 267 0) [.pointer (some ⟨Bg, 0, none⟩), .pointer (some ⟨Bt, 0, none⟩), .pointer (some ⟨Bb, 0, none⟩), .pointer (some ⟨Bd, 0, none⟩), .pointer (some ⟨Bm, 0, none⟩), .pointer (some ⟨Bh, 0, none⟩)] = some (.func (.func (Y.fid F.walk_Inside_2)) #[] #[.pointer (some ⟨Bg, 0, none⟩), .pointer (some ⟨Bt, 0, none⟩), .pointer (some ⟨Bb, 0, none⟩), .pointer (some ⟨Bd, 0, none⟩), .pointer (some ⟨Bm, 0, none⟩), .pointer (some ⟨Bh, 0, none⟩)]) := fun g => rfl
  have callv : ∀ {g : Heap} {xs : List Value} {R : Value → Heap → Prop}, CallP Y F.walk_Inside_2 (xs ++ [.pointer (some ⟨J.Bg, 0, none⟩), .pointer (some ⟨J.Bt, 0, none⟩), .pointer (some ⟨J.Bb, 0, none⟩), .pointer (some ⟨J.Bd, 0, none⟩), .pointer (some ⟨J.Bm, 0, none⟩), .pointer (some ⟨J.Bh, 0, none⟩)]) g R →
      CallvP Y (.func (.func (Y.fid F.walk_Inside_2)) #[] #[.pointer (some ⟨J.Bg, 0, none⟩), .pointer (some ⟨J.Bt, 0, none⟩), .pointer (some ⟨J.Bb, 0, none⟩), .pointer (some ⟨J.Bd, 0, none⟩), .pointer (some ⟨J.Bm, 0, none⟩), .pointer (some ⟨J.Bh, 0, none⟩)]) xs g R := fun hc => ⟨X.S.1, hc⟩
  simp [hmk2]
  have eg : Bg = J.Bg := by rw [hJ]
  have et : Bt = J.Bt := by rw [hJ]
  have eb : Bb = J.Bb := by rw [hJ]
  have ed : Bd = J.Bd := by rw [hJ]
  have em : Bm = J.Bm := by rw [hJ]
  have eh : Bh = J.Bh := by rw [hJ]
  have ei : Bi = J.Bi := by rw [hJ]
  have jn : J.n = N.as.length := by rw [hJ]
  have jlo : J.lo = h.size := by rw [hJ]
  have jt : J.t = (b : Int) := by rw [hJ]
  have jp : J.p = p := by rw [hJ]
  rw [eg, et, eb, ed, em, eh, ei]
  have gJ : GraphA h J.p N S0 := by rw [jp]; exact g
  clear hJ
  refine callv ?_
  refine wstep_spec X.W X.Add X.M X.S gJ ok rm bm jk jlo jn x13 k13 (by simp) la ?_
  intro h14 S14 x14 m14 f14 k14
  have hmem : ∀ (k : Nat) x, x ∈ (if vtxB N.vs.length (toV N k) then outsO N.as (toV N k) else []) → ∃ b : Nat, x = b ∧ b < N.as.length := fun k x hx => by
    split at hx
    · obtain ⟨b, q1, q2, _⟩ := mem_outs.1 hx
      exact ⟨b, q2, q1⟩
    · simp at hx
  have hin : ∀ (k : Nat) (y : Nat), k < N.as.length → turnV N k y ≠ 1152921504606846976 → (y : Int) ∈ (if vtxB N.vs.length (toV N k) then outsO N.as (toV N k) else []) := fun k y hk h => by
    have tv : toV N k = (nthT N.as k).b := by
      have : vtxB N.as.length (k : Int) = true := by simp [vtxB]; omega
      unfold toV; rw [if_pos this]; simp
    obtain ⟨q1, q2⟩ := outs_of h
    rw [tv, if_pos q1]
    exact q2
  have i14 : InsI N mk (List.replicate N.as.length false) a b [] (fun _ => 0) _ _ := InsI.next (cost := fun _ => 0) (A := fun _ => none) (best := 1152921504606846976) (c := 0) (V := true) (l := (if vtxB N.vs.length (toV N a) then outsO N.as (toV N a) else [])) ok
    ⟨fun _ => ⟨rfl, rfl⟩, fun h => (by cases h), fun x h => by simp at h, by omega, by simp, fun y hy => by simp [nthM, hy]⟩
    (Dij.start (fun y w h => ⟨rfl, hin a y la h.1.1⟩)) (hmem a) (fun h => hin a b la h) (Int.le_refl _) (.inl rfl) (fun h => by cases h) (fun x h => by simp at h)
  rw [jt] at k14
  simp
  refine wp_loopM (WnO Y N J mk sm a b (.pointer (some ⟨p, 0, none⟩)) (.int .i64 b) (.int .i64 0) (.func (.func (Y.fid F.walk_Inside_2)) #[] #[.pointer (some ⟨J.Bg, 0, none⟩), .pointer (some ⟨J.Bt, 0, none⟩), .pointer (some ⟨J.Bb, 0, none⟩), .pointer (some ⟨J.Bd, 0, none⟩), .pointer (some ⟨J.Bm, 0, none⟩), .pointer (some ⟨J.Bh, 0, none⟩)]) h) _ ⟨[], fun _ => 0, _, _, _, S14, _, _, _, _, _, rfl, x14, k14, by simp, i14, rfl⟩ ?_
  clear i14 k14 f14 m14 x14 k13
  rintro mm e h15 ⟨ord, cost, A, best, dn, S15, v13, v14, v15, v16, v17, rfl, x15, k15, ldn, i15, rfl⟩
  simp [k15.bh.hc]
  have H15 := k15.hp
  rw [jn] at H15
  refine pop_spec X.W.H.Pop X.W.H.down X.W.H.ahead X.W.H.swap H15 ?_ ?_
  · intro h0
    simp [k15.bb.hc]
    exact hr h15 best x15 (.inr ⟨a, b, rfl, rfl, la, lb, i15.fin ok (fun k x hk hA => by rw [h0 k hk] at hA; cases hA)⟩)
  intro h16 k c hmin H16 m16
  have H16' : HeapR h16 J.hp J.n (popM A k) S15 := by rw [jn]; exact H16
  have k16 := k15.heap jk m16 H16' (fun q hq => .inl hq)
  have x16 : Ext h h16 := Mod.ext x15 m16 (fun j hj => by have := (k15.dj j hj).1; omega)
  obtain ⟨hn, d16, top, cInf, _⟩ := i15.d.pop ok.ba hmin
  have lk := hmin.1
  by_cases cb : best ≤ c
  · have cb' : ¬ c < best := by omega
    simp [k16.bb.hc, cb, cb']
    exact hr h16 best x16 (.inr ⟨a, b, rfl, rfl, la, lb, i15.fin ok (fun j x hj hA => by
      rcases hmin.2.2 j x hj hA with q | q <;> omega)⟩)
  have cb' : c < best := by omega
  have hiF : ∀ g z (x : Nat), x < N.as.length → IOp.sem Y g (.idxa 1) [.slice (some ⟨z, 0, none⟩) J.n J.n, .int .i64 x] = some (.pointer (some ⟨z, x, none⟩)) := fun g z x lx => by
    have := sem_idxF (Y := Y) (h := g) (b := z) (sz := 1) (show J.n ≤ 9223372036854775807 by omega) (show x < J.n by omega) (Nat.le_refl J.n)
    simpa using this
  simp [k16.bb.hc, cb, cb', k16.bd.hc, hiF _ _ _ lk]
  refine stAt k16.dn (k := k) (by rw [boolsM_len]; omega) ?_
  intro h17 o17 m17
  rw [boolsM_set] at o17
  have k17 := k16.mark jk m17 o17
  have x17 : Ext h h17 := Mod.ext x16 m17 (fun j hj => by have := jk.l8; omega)
  simp
  refine callv ?_
  refine wstep_spec X.W X.Add X.M X.S gJ ok rm bm jk jlo jn x17 k17 (by simp [ldn]) lk ?_
  intro h18 S18 x18 m18 f18 k18
  rw [jt] at k18
  have olen := nodup_len d16.nd d16.lt
  have hck : updI cost k c k = c := by simp [updI]
  have hco : ∀ x, x ∈ ord → updI cost k c x = cost x := fun x hx => by
    unfold updI; rw [if_neg (fun e => hn (by rw [← e]; exact hx))]
  have hsett : ∀ y, y < N.as.length → (nthM (dn.set k true) y = true ↔ y ∈ ord ++ [k]) := by
    intro y hy
    rw [nthM_set (by omega)]
    by_cases e : y = k
    · subst e; simp
    · rw [if_neg e]; simp [e]; exact i15.sett y hy
  have c0 : 0 ≤ c := by
    have := (d16.wS k (by simp)).pos (in_costs ok)
    rw [hck] at this
    exact this.2
  have cbb : c ≤ ((ord ++ [k]).length : Int) * 4294967296 := by
    have := d16.bS k (by simp)
    rw [hck] at this
    exact this
  have i18 := InsI.next (s := a) (t := b) (dn := dn.set k true) (m := mk) (k := k) (V := false) (c := c) (best := best) (l := (if vtxB N.vs.length (toV N k) then outsO N.as (toV N k) else [])) ok
    ⟨fun h => (by cases h), fun _ => ⟨by simp, hck⟩, top, c0, cbb, hsett⟩
    (d16.less (fun _ _ _ h => h.elim) (fun x hx y w he hp => by subst hp; exact .inl ⟨rfl, rfl, hin _ y lk he.1.1⟩)) (hmem k) (fun h => hin k b lk h) i15.le i15.is (fun _ => i15.virt)
    (fun x hx hne ht => by
      rcases List.mem_append.1 hx with q | q
      · rw [hco x q]; exact i15.real x q ht
      · simp at q
        rcases hne with e | e
        · cases e
        · exact absurd q e)
  simp
  refine next_M (m' := N.as.length - (ord ++ [k]).length) ⟨ord ++ [k], _, _, _, _, S18, _, _, _, _, _, rfl, x18, k18, by simp [ldn], i18, rfl⟩ ?_
  simp at olen ⊢
  omega
end
end Go.Rm
