import Derived.Test.YtmamhkolgnoefaaDoorEngA
import Derived.Test.YtmamhkolgnoefaaDoorRGate1
import Derived.Test.YtmamhkolgnoefaaDoorRNet16
import Derived.Test.YtmamhkolgnoefaaDoorSNums

/- Flows, in plain Lean: what goes through, what is reached, cuts. -/
set_option linter.unusedSimpArgs false
set_option linter.unusedVariables false
namespace Go.Rm

/-- an edge with what goes along it -/
structure Ed where
  u : Nat
  v : Nat
  x : Int
deriving DecidableEq

def bI (b : Bool) : Int := if b then 1 else 0
/-- how many more go out of a vertex than come -/
def netF : List Ed → Nat → Int
  | [], _ => 0
  | e :: r, w => (if e.u = w then e.x else 0) - (if e.v = w then e.x else 0) + netF r w
def sumV : Nat → (Nat → Int) → Int
  | 0, _ => 0
  | n + 1, g => sumV n g + g n
def outS (S : Nat → Bool) : List Ed → Int
  | [] => 0
  | e :: r => e.x * (bI (S e.u) - bI (S e.v)) + outS S r
def crossS (S : Nat → Bool) : List Ed → Int
  | [] => 0
  | e :: r => (if S e.u ≠ S e.v then 1 else 0) + crossS S r

theorem sumV_add {f g : Nat → Int} : ∀ {n : Nat}, sumV n (fun v => f v + g v) = sumV n f + sumV n g
  | 0 => rfl
  | n + 1 => by simp only [sumV]; rw [sumV_add]; omega
theorem sumV_zero {f : Nat → Int} : ∀ {n : Nat}, (∀ v, v < n → f v = 0) → sumV n f = 0
  | 0, _ => rfl
  | n + 1, h => by simp only [sumV]; rw [sumV_zero fun v hv => h v (by omega), h n (by omega)]; rfl
theorem sumV_congr {f g : Nat → Int} : ∀ {n : Nat}, (∀ v, v < n → f v = g v) → sumV n f = sumV n g
  | 0, _ => rfl
  | n + 1, h => by simp only [sumV]; rw [sumV_congr fun v hv => h v (by omega), h n (by omega)]
theorem sumV_one {x : Int} {a : Nat} : ∀ {n : Nat}, a < n → sumV n (fun v => if a = v then x else 0) = x
  | 0, h => by omega
  | n + 1, h => by
    simp only [sumV]
    by_cases e : a = n
    · subst e
      rw [sumV_zero fun v hv => by rw [if_neg (by omega)], if_pos rfl]; omega
    · rw [sumV_one (by omega), if_neg e]; omega
theorem sumV_net {S : Nat → Bool} {n : Nat} : ∀ {L : List Ed}, (∀ e ∈ L, e.u < n ∧ e.v < n) → sumV n (fun v => if S v then netF L v else 0) = outS S L
  | [], _ => sumV_zero fun v _ => by simp [netF]
  | e :: r, h => by
    have ih := sumV_net (S := S) (n := n) (L := r) fun x hx => h x (List.mem_cons_of_mem _ hx)
    obtain ⟨hu, hv⟩ := h e (List.mem_cons_self ..)
    have s1 := sumV_one (x := if S e.u then e.x else 0) hu
    have s2 := sumV_one (x := if S e.v then - e.x else 0) hv
    have : ∀ w, w < n → (if S w then netF (e :: r) w else 0) = ((if e.u = w then (if S e.u then e.x else 0) else 0) + (if e.v = w then (if S e.v then - e.x else 0) else 0)) + (if S w then netF r w else 0) := by
      intro w _
      simp only [netF]
      by_cases a : e.u = w <;> by_cases b : e.v = w <;> by_cases c : S w <;> simp_all <;> omega
    rw [sumV_congr this, sumV_add, sumV_add, s1, s2, ih]
    simp only [outS, bI]
    by_cases a : S e.u <;> by_cases b : S e.v <;> simp [a, b] <;> omega

/-- a flow: along each edge at most one goes, along one from a vertex to itself none -/
def FlowB (L : List Ed) : Prop := ∀ e ∈ L, -1 ≤ e.x ∧ e.x ≤ 1 ∧ (e.u = e.v → e.x = 0)
theorem outS_le {S : Nat → Bool} : ∀ {L : List Ed}, FlowB L → outS S L ≤ crossS S L
  | [], _ => Int.le_refl _
  | e :: r, h => by
    have ih := outS_le (S := S) (L := r) fun x hx => h x (List.mem_cons_of_mem _ hx)
    obtain ⟨a, b, _⟩ := h e (List.mem_cons_self ..)
    simp only [outS, crossS, bI]
    by_cases c : S e.u <;> by_cases d : S e.v <;> simp [c, d] <;> omega
/-- just as many go as cross: each edge that crosses is full -/
theorem outS_eq {S : Nat → Bool} : ∀ {L : List Ed}, FlowB L → (outS S L = crossS S L ↔ ∀ e ∈ L, (S e.u = true → S e.v = false → e.x = 1) ∧ (S e.u = false → S e.v = true → e.x = -1))
  | [], _ => by simp [outS, crossS]
  | e :: r, h => by
    have hr : FlowB r := fun x hx => h x (List.mem_cons_of_mem _ hx)
    have ih := outS_eq (S := S) hr
    have le := outS_le (S := S) hr
    obtain ⟨a, b, _⟩ := h e (List.mem_cons_self ..)
    simp only [outS, crossS, bI, List.forall_mem_cons]
    rw [← ih]
    by_cases c : S e.u <;> by_cases d : S e.v <;> simp [c, d] <;> omega

/-- room from one vertex to another one -/
def Room (L : List Ed) (a b : Nat) : Prop := a ≠ b ∧ ∃ e ∈ L, (e.u = a ∧ e.v = b ∧ e.x ≠ 1) ∨ (e.v = a ∧ e.u = b ∧ e.x ≠ -1)
inductive Reach (L : List Ed) (A : Nat → Prop) : Nat → Prop
  | start {v : Nat} : A v → Reach L A v
  | step {v w : Nat} : Reach L A v → Room L v w → Reach L A w
/-- from where one of some can be reached -/
inductive BReach (L : List Ed) (A : Nat → Prop) : Nat → Prop
  | start {v : Nat} : A v → BReach L A v
  | step {v w : Nat} : BReach L A w → Room L v w → BReach L A v
theorem reach_join {L : List Ed} {A B : Nat → Prop} {w : Nat} (b : BReach L B w) : Reach L A w → ∃ t, B t ∧ Reach L A t := by
  induction b with
  | start h => intro r; exact ⟨_, h, r⟩
  | step _ hr ih => intro r; exact ih (r.step hr)

/-- what Max tells -/
structure MaxOf (n : Nat) (L : List Ed) (A B : Nat → Prop) (val : Int) (near far : Nat → Bool) : Prop where
  ends : ∀ e ∈ L, e.u < n ∧ e.v < n
  flow : FlowB L
  src : ∀ v, A v → v < n
  dst : ∀ v, B v → v < n
  keep : ∀ v, v < n → ¬ A v → ¬ B v → netF L v = 0
  valI : ∀ S : Nat → Bool, (∀ v, v < n → (S v = true ↔ A v)) → val = sumV n fun v => if S v then netF L v else 0
  nearI : ∀ v, v < n → (near v = true ↔ Reach L A v)
  farI : ∀ v, v < n → (far v = true ↔ ¬ BReach L B v)
  apart : ∀ v, B v → near v = false

theorem crossS_eq {S T : Nat → Bool} {n : Nat} : ∀ {L : List Ed}, (∀ e ∈ L, e.u < n ∧ e.v < n) → (∀ v, v < n → S v = T v) → crossS S L = crossS T L
  | [], _, _ => rfl
  | e :: r, h, g => by
    simp only [crossS]
    rw [crossS_eq (fun x hx => h x (List.mem_cons_of_mem _ hx)) g, g _ (h e (List.mem_cons_self ..)).1, g _ (h e (List.mem_cons_self ..)).2]

section
variable {n : Nat} {L : List Ed} {A B : Nat → Prop} {val : Int} {near far : Nat → Bool}

open Classical in
theorem MaxOf.out (m : MaxOf n L A B val near far) {S : Nat → Bool} (ha : ∀ v, A v → S v = true) (hb : ∀ v, B v → S v = false) : val = outS S L := by
  rw [← sumV_net m.ends, m.valI (fun v => decide (A v)) (fun v _ => by simp)]
  refine sumV_congr fun v hv => ?_
  by_cases a : A v
  · simp [a, ha v a]
  · by_cases s : S v = true
    · have b : ¬ B v := fun b => by rw [hb v b] at s; cases s
      simp [a, s, m.keep v hv a b]
    · simp [a, s]
theorem MaxOf.le (m : MaxOf n L A B val near far) {S : Nat → Bool} (ha : ∀ v, A v → S v = true) (hb : ∀ v, B v → S v = false) : val ≤ crossS S L := by
  rw [m.out ha hb]
  exact outS_le m.flow
theorem MaxOf.nearA (m : MaxOf n L A B val near far) : ∀ v, A v → near v = true := fun v a => (m.nearI v (m.src v a)).2 (.start a)
theorem MaxOf.farB (m : MaxOf n L A B val near far) : ∀ v, B v → far v = false := fun v b => by
  have := m.farI v (m.dst v b)
  cases h : far v with
  | false => rfl
  | true => exact absurd (.start b) (this.1 h)
theorem MaxOf.farA (m : MaxOf n L A B val near far) : ∀ v, A v → far v = true := fun v a => by
  refine (m.farI v (m.src v a)).2 fun b => ?_
  obtain ⟨t, ht, hr⟩ := reach_join b (.start a)
  have := m.apart t ht
  rw [(m.nearI t (m.dst t ht)).2 hr] at this
  cases this
/-- a cut that just as many leave -/
theorem MaxOf.full (m : MaxOf n L A B val near far) {S : Nat → Bool} (ha : ∀ v, A v → S v = true) (hb : ∀ v, B v → S v = false) :
    crossS S L = val ↔ ∀ v w, S v = true → S w = false → ¬ Room L v w := by
  rw [m.out ha hb, eq_comm, outS_eq m.flow]
  constructor
  · rintro h v w hv hw ⟨_, e, he, ⟨rfl, rfl, hx⟩ | ⟨rfl, rfl, hx⟩⟩
    · exact hx ((h e he).1 hv hw)
    · exact hx ((h e he).2 hw hv)
  · intro h e he
    have key : ∀ a b : Nat, S a = true → S b = false → a ≠ b := fun a b ha hb e => by rw [e, hb] at ha; cases ha
    constructor
    · intro hu hv
      exact Decidable.byContradiction fun hx => h _ _ hu hv ⟨key _ _ hu hv, e, he, .inl ⟨rfl, rfl, hx⟩⟩
    · intro hu hv
      exact Decidable.byContradiction fun hx => h _ _ hv hu ⟨key _ _ hv hu, e, he, .inr ⟨rfl, rfl, hx⟩⟩
theorem Room.lt (ends : ∀ e ∈ L, e.u < n ∧ e.v < n) {v w : Nat} (r : Room L v w) : v < n ∧ w < n := by
  obtain ⟨_, e, he, ⟨rfl, rfl, _⟩ | ⟨rfl, rfl, _⟩⟩ := r
  · exact ends e he
  · exact (ends e he).symm
theorem MaxOf.crossNear (m : MaxOf n L A B val near far) : crossS near L = val := by
  refine (m.full m.nearA m.apart).2 fun v w hv hw r => ?_
  have := r.lt m.ends
  rw [(m.nearI w this.2).2 (((m.nearI v this.1).1 hv).step r)] at hw
  cases hw
theorem MaxOf.crossFar (m : MaxOf n L A B val near far) : crossS far L = val := by
  refine (m.full m.farA m.farB).2 fun v w hv hw r => ?_
  have := r.lt m.ends
  have hn : ¬ ¬ BReach L B w := fun h => by rw [(m.farI w this.2).2 h] at hw; cases hw
  exact hn fun h => (m.farI v this.1).1 hv (h.step r)
/-- of all least cuts Near is the least, Far the greatest -/
theorem MaxOf.between (m : MaxOf n L A B val near far) {S : Nat → Bool} (ha : ∀ v, A v → S v = true) (hb : ∀ v, B v → S v = false) (hc : crossS S L = val) :
    ∀ v, v < n → (near v = true → S v = true) ∧ (S v = true → far v = true) := by
  have h := (m.full ha hb).1 hc
  have r1 : ∀ v, Reach L A v → S v = true := by
    intro v r
    induction r with
    | start a => exact ha _ a
    | step _ hr ih =>
      rename_i v w _
      cases hs : S w with
      | true => rfl
      | false => exact absurd hr (h _ _ ih hs)
  have r2 : ∀ v, BReach L B v → S v = false := by
    intro v r
    induction r with
    | start b => exact hb _ b
    | step _ hr ih =>
      rename_i v w _
      cases hs : S v with
      | false => rfl
      | true => exact absurd hr (h _ _ hs ih)
  intro v hv
  refine ⟨fun hn => r1 v ((m.nearI v hv).1 hn), fun hs => (m.farI v hv).2 fun b => ?_⟩
  rw [r2 v b] at hs
  cases hs
end
end Go.Rm

/- Flows, in plain Lean: two flows side by side. -/
set_option linter.unusedSimpArgs false
set_option linter.unusedVariables false
namespace Go.Rm
section
variable {n : Nat} {L L' : List Ed} {A B : Nat → Prop} {val val' : Int} {near far near' far' : Nat → Bool}

theorem crossS_not {S : Nat → Bool} : ∀ {L : List Ed}, crossS (fun v => !S v) L = crossS S L
  | [] => rfl
  | e :: r => by
    simp only [crossS, crossS_not]
    by_cases a : S e.u <;> by_cases b : S e.v <;> simp [a, b]
theorem crossS_app {S : Nat → Bool} : ∀ {L M : List Ed}, crossS S (L ++ M) = crossS S L + crossS S M
  | [], M => by simp [crossS]
  | e :: r, M => by simp only [List.cons_append, crossS, crossS_app]; omega
def Ed.uv (e : Ed) : Nat × Nat := (e.u, e.v)
theorem crossS_uv {S : Nat → Bool} : ∀ {L M : List Ed}, L.map Ed.uv = M.map Ed.uv → crossS S L = crossS S M
  | [], [], _ => rfl
  | [], _ :: _, h => by simp at h
  | _ :: _, [], h => by simp at h
  | a :: r, b :: s, h => by
    simp only [List.map_cons, List.cons.injEq, Ed.uv, Prod.mk.injEq] at h
    simp only [crossS, h.1.1, h.1.2, crossS_uv h.2]

theorem MaxOf.same (m : MaxOf n L A B val near far) (m' : MaxOf n L' A B val' near' far') (hc : ∀ S, crossS S L = crossS S L') :
    val = val' ∧ ∀ v, v < n → near v = near' v ∧ far v = far' v := by
  have h1 := m.le m'.nearA m'.apart
  have h2 := m'.le m.nearA m.apart
  rw [hc, m'.crossNear] at h1
  rw [← hc, m.crossNear] at h2
  have e : val = val' := by omega
  refine ⟨e, fun v hv => ?_⟩
  have a1 := (m.between m'.nearA m'.apart (by rw [hc, m'.crossNear, e]) v hv).1
  have a2 := (m'.between m.nearA m.apart (by rw [← hc, m.crossNear, e]) v hv).1
  have b1 := (m.between m'.farA m'.farB (by rw [hc, m'.crossFar, e]) v hv).2
  have b2 := (m'.between m.farA m.farB (by rw [← hc, m.crossFar, e]) v hv).2
  constructor
  · cases x : near v <;> cases y : near' v <;> simp_all
  · cases x : far v <;> cases y : far' v <;> simp_all
theorem MaxOf.back (m : MaxOf n L A B val near far) (m' : MaxOf n L' B A val' near' far') (hc : ∀ S, crossS S L = crossS S L') :
    val = val' ∧ ∀ v, v < n → near' v = !far v ∧ far' v = !near v := by
  have h1 := m.le (S := fun v => !near' v) (fun v a => by simp [m'.apart v a]) (fun v b => by simp [m'.nearA v b])
  have h2 := m'.le (S := fun v => !near v) (fun v a => by simp [m.apart v a]) (fun v b => by simp [m.nearA v b])
  rw [crossS_not, hc, m'.crossNear] at h1
  rw [crossS_not, ← hc, m.crossNear] at h2
  have e : val = val' := by omega
  refine ⟨e, fun v hv => ?_⟩
  have a1 := m.between (S := fun v => !near' v) (fun v a => by simp [m'.apart v a]) (fun v b => by simp [m'.nearA v b]) (by rw [crossS_not, hc, m'.crossNear, e]) v hv
  have a2 := m.between (S := fun v => !far' v) (fun v a => by simp [m'.farB v a]) (fun v b => by simp [m'.farA v b]) (by rw [crossS_not, hc, m'.crossFar, e]) v hv
  have b1 := m'.between (S := fun v => !near v) (fun v a => by simp [m.apart v a]) (fun v b => by simp [m.nearA v b]) (by rw [crossS_not, ← hc, m.crossNear, e]) v hv
  have b2 := m'.between (S := fun v => !far v) (fun v a => by simp [m.farB v a]) (fun v b => by simp [m.farA v b]) (by rw [crossS_not, ← hc, m.crossFar, e]) v hv
  constructor
  · cases x : near' v <;> cases y : far v <;> simp_all
  · cases x : far' v <;> cases y : near v <;> simp_all
/-- one edge more -/
theorem MaxOf.more (m : MaxOf n L A B val near far) (m' : MaxOf n L' A B val' near' far') {x y : Nat} (hx : x < n) (hy : y < n) (hc : ∀ S : Nat → Bool, crossS S L' = crossS S L + if S x ≠ S y then 1 else 0) :
    ((near x && !far y || near y && !far x) = true ∧ val' = val + 1) ∨ ((near x && !far y || near y && !far x) = false ∧ val' = val) := by
  have n0 := m'.le m.nearA m.apart
  have f0 := m'.le m.farA m.farB
  rw [hc, m.crossNear] at n0
  rw [hc, m.crossFar] at f0
  have g0 := m.le m'.nearA m'.apart
  have g1 := m'.crossNear
  rw [hc] at g1
  have nfx : near x = true → far x = true := fun h => (m.between m.nearA m.apart m.crossNear x hx).2 h
  have nfy : near y = true → far y = true := fun h => (m.between m.nearA m.apart m.crossNear y hy).2 h
  by_cases e : crossS near' L = val
  · have bx := m.between m'.nearA m'.apart e x hx
    have by' := m.between m'.nearA m'.apart e y hy
    cases a1 : near x <;> cases a2 : near y <;> cases a3 : far x <;> cases a4 : far y <;> cases a5 : near' x <;> cases a6 : near' y <;> simp_all <;> omega
  · have : val < crossS near' L := by omega
    cases a1 : near x <;> cases a2 : near y <;> cases a3 : far x <;> cases a4 : far y <;> cases a5 : near' x <;> cases a6 : near' y <;> simp_all <;> omega
end
end Go.Rm

/- Flows: rows of edges and of marks in memory; the checks. -/
set_option linter.unusedSimpArgs false
set_option linter.unusedVariables false
namespace Go.Rm

def nthE (l : List (Int × Int)) (i : Nat) : Int × Int := l.getD i (0, 0)
def nthM (l : List Bool) (i : Nat) : Bool := l.getD i false
structure RowE (h : Heap) (s : Sl) (l : List (Int × Int)) : Prop where
  ok : s.ok
  len : l.length = s.n
  v0 : ∀ i, i < l.length → hc h s.b (s.o + i * 2) = some (.int .i64 (nthE l i).1)
  v1 : ∀ i, i < l.length → hc h s.b (s.o + i * 2 + 1) = some (.int .i64 (nthE l i).2)
structure RowM (h : Heap) (s : Sl) (l : List Bool) : Prop where
  ok : s.ok
  len : l.length = s.n
  val : ∀ i, i < l.length → hc h s.b (s.o + i) = some (.bool (nthM l i))
theorem RowE.ext {h h' : Heap} {s : Sl} {l : List (Int × Int)} (r : RowE h s l) (e : Ext h h') : RowE h' s l :=
  ⟨r.ok, r.len, fun i hi => e.hc (r.v0 i hi) (fun h => h), fun i hi => e.hc (r.v1 i hi) (fun h => h)⟩
theorem RowM.ext {h h' : Heap} {s : Sl} {l : List Bool} (r : RowM h s l) (e : Ext h h') : RowM h' s l :=
  ⟨r.ok, r.len, fun i hi => e.hc (r.val i hi) (fun h => h)⟩
theorem RowE.rd {h : Heap} {s : Sl} {l : List (Int × Int)} (r : RowE h s l) {i : Nat} (hi : i < l.length) : rd h s.b (s.o + i * 2) 2 = some [.int .i64 (nthE l i).1, .int .i64 (nthE l i).2] := by
  refine rd_of (l := [.int .i64 (nthE l i).1, .int .i64 (nthE l i).2]) fun j v hj => ?_
  match j with
  | 0 => simp at hj; subst hj; exact r.v0 i hi
  | 1 => simp at hj; subst hj; exact r.v1 i hi
  | j + 2 => simp at hj

abbrev wFlow : ByteArray := ⟨#[102, 108, 111, 119]⟩
abbrev wEdge : ByteArray := ⟨#[101, 100, 103, 101]⟩
abbrev wSrc : ByteArray := ⟨#[115, 114, 99]⟩
abbrev wDst : ByteArray := ⟨#[100, 115, 116]⟩
def inV (n x : Int) : Bool := decide (0 ≤ x) && decide (x < n)
def inE (n : Int) (e : Int × Int) : Bool := inV n e.1 && inV n e.2
/-- the first that may not be -/
def bad1 (p : Nat → Bool) (n : Nat) : Option Nat := (List.range n).find? (fun i => !p i)
theorem bad1_at {p : Nat → Bool} {n i : Nat} (hi : i < n) (h : ∀ j, j < i → p j = true) (hp : p i = false) : bad1 p n = some i := by
  unfold bad1
  rw [List.find?_range_eq_some]
  exact ⟨by simp [hp], by simp [hi], fun j hj => by simp [h j hj]⟩
theorem bad1_none {p : Nat → Bool} {n : Nat} (h : ∀ j, j < n → p j = true) : bad1 p n = none := by
  unfold bad1
  rw [List.find?_range_eq_none]
  exact fun j hj => by simp [h j hj]
def chkW (n : Int) (es : List (Int × Int)) (src dst : List Int) : Wr :=
  if n < 0 then atW wFlow 0 1 else if 4096 < n then atW wFlow 0 4 else if 16384 < es.length then atW wFlow 1 4 else
  match bad1 (fun i => inE n (nthE es i)) es.length with
  | some i => atW wEdge i 5
  | none =>
    match bad1 (fun i => inV n (nthI src i)) src.length with
    | some i => atW wSrc i 5
    | none =>
      match bad1 (fun i => inV n (nthI dst i)) dst.length with
      | some i => atW wDst i 5
      | none => if dst.any (fun v => decide (v ∈ src)) then atW wFlow 2 6 else wOK

section
variable {Y : Sys} {h h' : Heap}

@[simp] theorem sem_idxA20 {b o : Nat} : IOp.sem Y h (.idxA 2 1) [.pointer (some ⟨b, o, none⟩), .int .i64 0] = some (.pointer (some ⟨b, o, none⟩)) := by
  rw [sem_idxA' (by omega) (by omega)]; rfl
@[simp] theorem sem_idxA21 {b o : Nat} : IOp.sem Y h (.idxA 2 1) [.pointer (some ⟨b, o, none⟩), .int .i64 1] = some (.pointer (some ⟨b, o + 1, none⟩)) := by
  rw [sem_idxA' (by omega) (by omega)]; rfl
theorem flfault_spec (H : Y.Has F.flow_fault S_flow_fault) {p : ByteArray} {a c : Int} (hc : c ≠ 0) {R : Value → Heap → Prop} (hr : ∀ v h', Ext h h' → FErr Y h.size h' (atW p a c) v → (∃ t u, v = .iface t u) → R v h') :
    CallP Y F.flow_fault [.string p, .int .i64 a, .int .i64 c] h R := by
  refine .of_has H rfl ?_
  simp [S_flow_fault, FnS.wp]
  refine ef_new_box ?_
  intro b h1 g1 B e1
  simp
  exact hr _ _ e1 (fun h' m => fault_at (m.blk B (by omega)) hc) ⟨_, _, rfl⟩

theorem flvertex_spec (H : Y.Has F.flow_check_1 S_flow_check_1) {b : Nat} {n x : Int} (hb : hc h b 0 = some (.int .i64 n)) {R : Value → Heap → Prop} (hr : R (.bool (inV n x)) h) :
    CallvP Y (.func (.func (Y.fid F.flow_check_1)) #[] #[.pointer (some ⟨b, 0, none⟩)]) [.int .i64 x] h R := by
  refine ⟨H.1, ?_⟩
  have : CallP Y F.flow_check_1 [.int .i64 x, .pointer (some ⟨b, 0, none⟩)] h R := by
    refine .of_has H rfl ?_
    simp [S_flow_check_1, FnS.wp]
    by_cases c : 0 ≤ x
    · have c' : (0 ≤ x) = True := by simp [c]
      simp [inV, c] at hr
      simp [c, hb]
      exact hr
    · simp [inV, c] at hr
      simp [c]
      exact hr
  exact this
theorem ef_makeM {K : Value → Heap → Prop} {n : Nat} {m : Int} (hn : n ≤ 1000000) (hm : m = n) (hr : ∀ (b : Nat) (h' : Heap), h.size ≤ b → Own h' 1 (Sl.at b n n) (List.replicate n (.bool false)) → Ext h h' → b < h'.size → K (.slice (some ⟨b, 0, none⟩) n n) h') :
    Ef.wp h K (.mkslice 1 1 #[.bool false]) [.int .i64 m, .int .i64 m] := by
  subst hm
  rw [ef_mkslice]
  refine ⟨by omega, by omega, by omega, by omega, fun t => ?_⟩
  simp only [Int.toNat_natCast, Nat.mul_one, zeros_one]
  refine hr h.size _ (Nat.le_refl _) ⟨by simp, .inr ⟨rfl, rfl, rfl, Nat.le_refl _, by simp; omega, _, Blk.new, by simp, by simp⟩⟩ Mod.push (by simp)

theorem stAt {K : Value → Heap → Prop} {b n m k : Nat} {cells : List Value} {v : Value} (o : Own h 1 (Sl.at b n m) cells) (hk : k < cells.length)
    (hr : ∀ h', Own h' 1 (Sl.at b n m) (cells.set k v) → Mod (fun j => j = b) h h' → K undef h') : StoreP h b k v K := by
  have := stN (v := v) (K := K) o hk hr
  simpa using this
theorem nthI_at {l : List Int} {i : Nat} (hi : i < l.length) : nthI l i = l[i] := by simp [nthI, hi]
theorem sem_idxF {b n m v sz : Nat} (hn : m ≤ 9223372036854775807) (hv : v < n) (hm : n ≤ m) : IOp.sem Y h (.idxa sz) [.slice (some ⟨b, 0, none⟩) n m, .int .i64 v] = some (.pointer (some ⟨b, v * sz, none⟩)) := by
  have := sem_idxa (Y := Y) (h := h) (s := Sl.at b n m) (sz := sz) (k := .i64) (i := v) ⟨fun h => (by cases h), (by simp; omega), .inl rfl⟩ (by omega) (by simp; omega)
  simpa using this
theorem inV_nat {N : Nat} {x : Int} (hx : inV N x = true) : ∃ v : Nat, x = v ∧ v < N := by
  simp [inV] at hx
  exact ⟨x.toNat, by omega, by omega⟩
structure FlCk (Y : Sys) : Prop where
  check : Y.Has F.flow_check S_flow_check
  vertex : Y.Has F.flow_check_1 S_flow_check_1
  fault : Y.Has F.flow_fault S_flow_fault

theorem Mod.toExtF {p : Nat} {h0 h h' : Heap} (x : Ext h0 h) (m : Mod (fun j => j = p) h h') (hp : h0.size ≤ p) : Ext h0 h' := Mod.ext x m (fun j hj => by omega)
def markL (N : Nat) (l : List Int) : List Bool := (List.range N).map fun (v : Nat) => decide ((v : Int) ∈ l)
def boolsM (l : List Bool) : List Value := l.map fun x => Value.bool x
theorem markL_len {N : Nat} {l : List Int} : (markL N l).length = N := by simp [markL]
theorem boolsM_len {l : List Bool} : (boolsM l).length = l.length := by simp [boolsM]
theorem markL_nil {N : Nat} : boolsM (markL N []) = List.replicate N (.bool false) := by
  apply List.ext_getElem
  · simp [boolsM, markL]
  · intro i h1 h2; simp [boolsM, markL]
theorem nthM_mark {N v : Nat} {l : List Int} (hv : v < N) : nthM (markL N l) v = decide ((v : Int) ∈ l) := by
  simp [nthM, markL, hv]
theorem mark_set {N v : Nat} {l : List Int} (hv : v < N) : (boolsM (markL N l)).set v (.bool true) = boolsM (markL N (l ++ [(v : Int)])) := by
  apply List.ext_getElem
  · simp [boolsM, markL]
  · intro i h1 h2
    simp [boolsM, markL] at h1
    rw [List.getElem_set]
    simp only [boolsM, markL, List.getElem_map, List.getElem_range, List.mem_append, List.mem_singleton]
    by_cases c : v = i
    · subst c; simp
    · have : ¬ (i : Int) = v := by omega
      simp [c, this]
theorem Own.rowM {s : Sl} {l : List Bool} (o : Own h 1 s (boolsM l)) : RowM h s l := by
  refine ⟨o.ok, by have := o.1; simpa [boolsM] using this, fun i hi => o.cell (by simp [boolsM, nthM, hi])⟩

def FcI1 (b : Nat) (n : Int) (es : List (Int × Int)) (se ss sd : Sl) (h0 : Heap) (e : List Value) (h' : Heap) : Prop :=
  ∃ (i : Nat) (v5 v7 v8 v9 v10 v11 v12 v13 v14 v15 v16 v17 v21 v22 v23 v24 v25 v26 v27 v28 v29 v30 v31 v32 v33 : Value), e = [.int .i64 n, se.v, ss.v, sd.v, .pointer (some ⟨b, 0, none⟩), v5, .func (.func (Y.fid F.flow_check_1)) #[] #[.pointer (some ⟨b, 0, none⟩)], v7, v8, v9, v10, v11, v12, v13, v14, v15, v16, v17, se.v, .int .i64 se.n, .int .i64 i, v21, v22, v23, v24, v25, v26, v27, v28, v29, v30, v31, v32, v33] ∧ i ≤ es.length ∧ Ext h0 h' ∧ ∀ j, j < i → inE n (nthE es j) = true
def FcI2 (b f N : Nat) (src : List Int) (se ss sd : Sl) (h0 : Heap) (e : List Value) (h' : Heap) : Prop :=
  ∃ (i : Nat) (v5 v7 v8 v10 v11 v12 v13 v14 v15 v16 v17 v18 v19 v20 v21 v22 v26 v27 v28 v29 v30 v31 v32 v33 : Value), e = [.int .i64 N, se.v, ss.v, sd.v, .pointer (some ⟨b, 0, none⟩), v5, .func (.func (Y.fid F.flow_check_1)) #[] #[.pointer (some ⟨b, 0, none⟩)], v7, v8, (Sl.at f N N).v, v10, v11, v12, v13, v14, v15, v16, v17, v18, v19, v20, v21, v22, ss.v, .int .i64 ss.n, .int .i64 i, v26, v27, v28, v29, v30, v31, v32, v33] ∧ i ≤ src.length ∧ Mod (fun j => j = f) h0 h' ∧ Own h' 1 (Sl.at f N N) (boolsM (markL N (src.take i))) ∧ ∀ j, j < i → inV N (nthI src j) = true
def FcI3 (b f N : Nat) (src dst : List Int) (se ss sd : Sl) (h0 : Heap) (e : List Value) (h' : Heap) : Prop :=
  ∃ (i : Nat) (bo : Bool) (v5 v7 v8 v10 v11 v13 v14 v15 v16 v17 v18 v19 v20 v21 v22 v23 v24 v25 v26 v27 v31 v32 v33 : Value), e = [.int .i64 N, se.v, ss.v, sd.v, .pointer (some ⟨b, 0, none⟩), v5, .func (.func (Y.fid F.flow_check_1)) #[] #[.pointer (some ⟨b, 0, none⟩)], v7, v8, (Sl.at f N N).v, v10, v11, .bool bo, v13, v14, v15, v16, v17, v18, v19, v20, v21, v22, v23, v24, v25, v26, v27, sd.v, .int .i64 sd.n, .int .i64 i, v31, v32, v33] ∧ i ≤ dst.length ∧ Ext h0 h' ∧ bo = ((dst.take i).any fun v => decide (v ∈ src)) ∧ ∀ j, j < i → inV N (nthI dst j) = true


theorem flcheck_spec (P : FlCk Y) {n : Int} {se ss sd : Sl} {es : List (Int × Int)} {src dst : List Int} (re : RowE h se es) (rs : Row64 h ss src) (rd' : Row64 h sd dst) (bs : ss.n ≤ 1000000) (bd : sd.n ≤ 1000000)
    {R : Value → Heap → Prop} (hr : ∀ v h', Ext h h' → FErr Y h.size h' (chkW n es src dst) v → ((chkW n es src dst).2 ≠ 0 → ∃ t u, v = .iface t u) → R v h') : CallP Y F.flow_check [.int .i64 n, se.v, ss.v, sd.v] h R := by
  have le := re.len
  have ls := rs.len
  have ld := rd'.len
  refine .of_has P.check rfl ?_
  simp [S_flow_check, FnS.wp]
  refine ef_new_box ?_
  intro b h1 g1 B1 e1
  simp [B1.hc]
  by_cases c0 : n < 0
  · have hw : chkW n es src dst = atW wFlow 0 1 := by simp [chkW, c0]
    simp [c0]
    refine flfault_spec P.fault (by decide) ?_
    intro v h2 e2 f2 i2
    simp
    exact hr _ _ (e1.trans e2) (by rw [hw]; exact f2.mono e1.size) (fun _ => i2)
  by_cases c1 : 4096 < n
  · have hw : chkW n es src dst = atW wFlow 0 4 := by simp [chkW, c0, c1]
    simp [c0, c1, B1.hc]
    refine flfault_spec P.fault (by decide) ?_
    intro v h2 e2 f2 i2
    simp
    exact hr _ _ (e1.trans e2) (by rw [hw]; exact f2.mono e1.size) (fun _ => i2)
  by_cases c2 : 16384 < es.length
  · have hw : chkW n es src dst = atW wFlow 1 4 := by simp [chkW, c0, c1, c2]
    have c2' : (16384 : Int) < se.n := by omega
    simp [c0, c1, B1.hc, c2']
    refine flfault_spec P.fault (by decide) ?_
    intro v h2 e2 f2 i2
    simp
    exact hr _ _ (e1.trans e2) (by rw [hw]; exact f2.mono e1.size) (fun _ => i2)
  have c2' : ¬ (16384 : Int) < se.n := by omega
  simp [c0, c1, B1.hc, c2']
  have hmk : ∀ g, IOp.sem Y g (.mkf 159 0) [.pointer (some ⟨b, 0, none⟩)] = some (.func (.func (Y.fid F.flow_check_1)) #[] #[.pointer (some ⟨b, 0, none⟩)]) := fun g => rfl
  simp [hmk]
  refine wp_loop' (FcI1 (Y := Y) b n es se ss sd h1) (fun e _ => es.length - argI e 20) ⟨0, _, _, _, _, _, _, _, _, _, _, _, _, _, _, _, _, _, _, _, _, _, _, _, _, _, rfl, by omega, Mod.refl _, fun j hj => by omega⟩ ?_
  rintro e h2 ⟨i, v5, v7, v8, v9, v10, v11, v12, v13, v14, v15, v16, v17, v21, v22, v23, v24, v25, v26, v27, v28, v29, v30, v31, v32, v33, rfl, hi, e2, hall⟩
  have x2 := e1.trans e2
  have B2 := B1.ext e2
  by_cases c : i < es.length
  · have c' : (i : Int) < se.n := by omega
    have cs : i < se.n := by omega
    have w1 : IntKind.i64.wrap ((i : Int) + 1) = (i : Int) + 1 := i64_wrap (by omega)
    simp [c', cs, sem_idxa re.ok, (re.ext x2).rd c]
    refine ef_new_box ?_
    intro T h3 g3 T3 e3
    simp
    refine ef_store_box T3 rfl rfl (by simp) ?_
    intro h4 T4 m4
    have e4 := Mod.toExtF e3 m4 g3
    simp [T4.hc]
    refine flvertex_spec P.vertex (by rw [(B2.ext e4).hc]; rfl) ?_
    have wbad : ∀ hx : inE n (nthE es i) = false, chkW n es src dst = atW wEdge i 5 := fun hx => by
      have := bad1_at (p := fun i => inE n (nthE es i)) c hall hx
      simp [chkW, c0, c1, c2, this]
    cases k1 : inV n (nthE es i).1 with
    | false =>
      have hw := wbad (by simp [inE, k1])
      simp
      refine flfault_spec P.fault (by decide) ?_
      intro v h5 e5 f5 i5
      simp
      exact hr _ _ ((x2.trans e4).trans e5) (by rw [hw]; exact f5.mono (x2.trans e4).size) (fun _ => i5)
    | true =>
      simp [T4.hc]
      refine flvertex_spec P.vertex (by rw [(B2.ext e4).hc]; rfl) ?_
      cases k2 : inV n (nthE es i).2 with
      | false =>
        have hw := wbad (by simp [inE, k2])
        simp
        refine flfault_spec P.fault (by decide) ?_
        intro v h5 e5 f5 i5
        simp
        exact hr _ _ ((x2.trans e4).trans e5) (by rw [hw]; exact f5.mono (x2.trans e4).size) (fun _ => i5)
      | true =>
        simp [w1]
        refine ⟨⟨i + 1, _, _, _, _, _, _, _, _, _, _, _, _, _, _, _, _, _, _, _, _, _, _, _, _, _, rfl, by omega, e2.trans e4, fun j hj => by by_cases q : j = i; subst q; simp [inE, k1, k2]; exact hall j (by omega)⟩, by simp [argI]; omega⟩
  have c' : ¬ (i : Int) < se.n := by omega
  have hb1 : bad1 (fun i => inE n (nthE es i)) es.length = none := bad1_none fun j hj => hall j (by omega)
  obtain ⟨N, rfl⟩ : ∃ N : Nat, n = N := ⟨n.toNat, by omega⟩
  simp [c', B2.hc]
  refine ef_makeM (n := N) (by omega) rfl ?_
  intro f h5 g5 o5 e5 lf
  simp
  rw [← markL_nil] at o5
  refine wp_loop' (FcI2 (Y := Y) b f N src se ss sd h5) (fun e _ => src.length - argI e 25) ⟨0, _, _, _, _, _, _, _, _, _, _, _, _, _, _, _, _, _, _, _, _, _, _, _, _, rfl, by omega, Mod.refl _, by simpa using o5, fun j hj => by omega⟩ ?_
  rintro e h6 ⟨k, v5, v7, v8, v10, v11, v12, v13, v14, v15, v16, v17, v18, v19, v20, v21, v22, v26, v27, v28, v29, v30, v31, v32, v33, rfl, hk, m6, o6, hall6⟩
  have x5 := x2.trans e5
  have lb := B1.lt
  have z1 := e1.size
  have z2 := e2.size
  have x6 : Ext h h6 := Mod.toExtF x5 m6 (by omega)
  have B6 : Blk h6 b (Value.int .i64 N).cells := m6.blk (B2.ext e5) (by omega)
  by_cases d : k < src.length
  · have d' : (k : Int) < ss.n := by omega
    have ds : k < ss.n := by omega
    have w1 : IntKind.i64.wrap ((k : Int) + 1) = (k : Int) + 1 := i64_wrap (by omega)
    simp [d', ds, sem_idxa rs.ok, (rs.ext x6).val k d]
    refine flvertex_spec P.vertex (by rw [B6.hc]; rfl) ?_
    cases k1 : inV N (nthI src k) with
    | false =>
      have hb2 := bad1_at (p := fun i => inV N (nthI src i)) d hall6 k1
      have hw : chkW N es src dst = atW wSrc k 5 := by simp [chkW, c0, c1, c2, hb1, hb2]
      simp
      refine flfault_spec P.fault (by decide) ?_
      intro v h7 e7 f7 i7
      simp
      exact hr _ _ (x6.trans e7) (by rw [hw]; exact f7.mono x6.size) (fun _ => i7)
    | true =>
      obtain ⟨v, hv, lv⟩ := inV_nat k1
      simp [hv, sem_idxF (show N ≤ 9223372036854775807 by omega) lv (Nat.le_refl N)]
      refine stAt o6 (k := v) (by rw [boolsM_len, markL_len]; exact lv) ?_
      intro h7 o7 m7
      rw [mark_set lv, ← hv, show src.take k ++ [nthI src k] = src.take (k + 1) from by rw [nthI_at d, List.take_succ_eq_append_getElem d]] at o7
      simp [w1]
      refine ⟨⟨k + 1, _, _, _, _, _, _, _, _, _, _, _, _, _, _, _, _, _, _, _, _, _, _, _, _, rfl, by omega, m6.trans m7, o7, fun j hj => by by_cases q : j = k; subst q; exact k1; exact hall6 j (by omega)⟩, by simp [argI]; omega⟩
  have d' : ¬ (k : Int) < ss.n := by omega
  have hb2 : bad1 (fun i => inV N (nthI src i)) src.length = none := bad1_none fun j hj => hall6 j (by omega)
  rw [List.take_of_length_le (by omega)] at o6
  simp [d']
  refine wp_loop' (FcI3 (Y := Y) b f N src dst se ss sd h6) (fun e _ => dst.length - argI e 30) ⟨0, false, _, _, _, _, _, _, _, _, _, _, _, _, _, _, _, _, _, _, _, _, _, _, _, rfl, by omega, Mod.refl _, by simp, fun j hj => by omega⟩ ?_
  rintro e h7 ⟨k3, bo, v5, v7, v8, v10, v11, v13, v14, v15, v16, v17, v18, v19, v20, v21, v22, v23, v24, v25, v26, v27, v31, v32, v33, rfl, hk3, e7, hbo, hall7⟩
  have x7 := x6.trans e7
  have B7 := B6.ext e7
  by_cases q : k3 < dst.length
  · have q' : (k3 : Int) < sd.n := by omega
    have qs : k3 < sd.n := by omega
    have w1 : IntKind.i64.wrap ((k3 : Int) + 1) = (k3 : Int) + 1 := i64_wrap (by omega)
    simp [q', qs, sem_idxa rd'.ok, (rd'.ext x7).val k3 q]
    refine flvertex_spec P.vertex (by rw [B7.hc]; rfl) ?_
    cases k1 : inV N (nthI dst k3) with
    | false =>
      have hb3 := bad1_at (p := fun i => inV N (nthI dst i)) q hall7 k1
      have hw : chkW N es src dst = atW wDst k3 5 := by simp [chkW, c0, c1, c2, hb1, hb2, hb3]
      simp
      refine flfault_spec P.fault (by decide) ?_
      intro v h8 e8 f8 i8
      simp
      exact hr _ _ (x7.trans e8) (by rw [hw]; exact f8.mono x7.size) (fun _ => i8)
    | true =>
      obtain ⟨v, hv, lv⟩ := inV_nat k1
      have hm := (o6.rowM.ext e7).val v (by rw [markL_len]; exact lv)
      rw [nthM_mark lv] at hm
      simp at hm
      have ht : (dst.take (k3 + 1)).any (fun v => decide (v ∈ src)) = ((dst.take k3).any (fun v => decide (v ∈ src)) || decide (nthI dst k3 ∈ src)) := by
        rw [List.take_succ_eq_append_getElem q, List.any_append, nthI_at q]
        simp only [List.any_cons, List.any_nil, Bool.or_false]
      have hiF : ∀ g, IOp.sem Y g (.idxa 1) [.slice (some ⟨f, 0, none⟩) N N, .int .i64 v] = some (.pointer (some ⟨f, v, none⟩)) := fun g => by
        have := sem_idxF (Y := Y) (h := g) (b := f) (sz := 1) (show N ≤ 9223372036854775807 by omega) lv (Nat.le_refl N)
        simpa using this
      have hall8 : ∀ j, j < k3 + 1 → inV N (nthI dst j) = true := fun j hj => by
        by_cases q : j = k3
        · subst q; exact k1
        · exact hall7 j (by omega)
      cases bo with
      | true =>
        simp [hv, w1]
        refine ⟨⟨k3 + 1, _, _, _, _, _, _, _, _, _, _, _, _, _, _, _, _, _, _, _, _, _, _, _, _, rfl, by omega, e7, by rw [ht, ← hbo]; rfl, hall8⟩, by simp [argI]; omega⟩
      | false =>
        simp [hv, hiF, hm, w1]
        refine ⟨⟨k3 + 1, _, _, _, _, _, _, _, _, _, _, _, _, _, _, _, _, _, _, _, _, _, _, _, _, rfl, by omega, e7, by rw [ht, ← hbo, hv]; rfl, hall8⟩, by simp [argI]; omega⟩
  have q' : ¬ (k3 : Int) < sd.n := by omega
  have hb3 : bad1 (fun i => inV N (nthI dst i)) dst.length = none := bad1_none fun j hj => hall7 j (by omega)
  rw [List.take_of_length_le (by omega)] at hbo
  subst hbo
  cases k2 : dst.any (fun v => decide (v ∈ src)) with
  | true =>
    have hw : chkW N es src dst = atW wFlow 2 6 := by simp only [chkW, c0, c1, c2, hb1, hb2, hb3, k2, if_false, if_true]
    simp [q']
    refine flfault_spec P.fault (by decide) ?_
    intro v h8 e8 f8 i8
    simp
    exact hr _ _ (x7.trans e8) (by rw [hw]; exact f8.mono x7.size) (fun _ => i8)
  | false =>
    have hw : chkW N es src dst = wOK := by simp [chkW, c0, c1, c2, hb1, hb2, hb3, k2]
    simp [q']
    exact hr _ _ x7 (by rw [hw]; exact FErr.ok) (by rw [hw]; intro c; exact absurd rfl c)
end
end Go.Rm

/- Flows: the document's check. -/
set_option linter.unusedSimpArgs false
set_option linter.unusedVariables false
namespace Go.Rm
theorem place_pos {a : Int} : ∀ {l : List Int} {k : Nat}, 0 ≤ placeF k l a ↔ a ∈ l
  | [], k => by simp [placeF]
  | x :: r, k => by
    simp only [placeF, List.mem_cons]
    by_cases e : x = a
    · simp [e]
    · rw [if_neg e, place_pos]
      simp [Ne.symm e]
theorem any_swap {a b : List Int} : (a.any fun v => decide (v ∈ b)) = b.any fun v => decide (v ∈ a) := by
  rw [Bool.eq_iff_iff]
  simp only [List.any_eq_true, decide_eq_true_eq]
  exact ⟨fun ⟨x, h1, h2⟩ => ⟨x, h2, h1⟩, fun ⟨x, h1, h2⟩ => ⟨x, h2, h1⟩⟩
section
variable {Y : Sys} {h h' : Heap}

def FdI1 (b : Nat) (n : Int) (es : List (Int × Int)) (se ss sd : Sl) (h0 : Heap) (e : List Value) (h' : Heap) : Prop :=
  ∃ (i : Nat) (v6 v7 v8 v9 v10 v11 v12 v13 v14 v15 v16 v17 v18 v19 : Value), e = [.int .i64 n, se.v, ss.v, sd.v, .pointer (some ⟨b, 0, none⟩), .int .i64 i, v6, v7, v8, v9, v10, v11, v12, v13, v14, v15, v16, v17, v18, v19] ∧ i ≤ es.length ∧ Ext h0 h' ∧ ∀ j, j < i → inE n (nthE es j) = true
def FdI2 (b : Nat) (n : Int) (l : List Int) (se ss sd : Sl) (h0 : Heap) (e : List Value) (h' : Heap) : Prop :=
  ∃ (i : Nat) (v5 v7 v8 v9 v10 v11 v12 v13 v14 v15 v16 v17 v18 v19 : Value), e = [.int .i64 n, se.v, ss.v, sd.v, .pointer (some ⟨b, 0, none⟩), v5, .int .i64 i, v7, v8, v9, v10, v11, v12, v13, v14, v15, v16, v17, v18, v19] ∧ i ≤ l.length ∧ Ext h0 h' ∧ ∀ j, j < i → inV n (nthI l j) = true
def FdI3 (b : Nat) (n : Int) (l : List Int) (se ss sd : Sl) (h0 : Heap) (e : List Value) (h' : Heap) : Prop :=
  ∃ (i : Nat) (v5 v6 v8 v9 v10 v11 v12 v13 v14 v15 v16 v17 v18 v19 : Value), e = [.int .i64 n, se.v, ss.v, sd.v, .pointer (some ⟨b, 0, none⟩), v5, v6, .int .i64 i, v8, v9, v10, v11, v12, v13, v14, v15, v16, v17, v18, v19] ∧ i ≤ l.length ∧ Ext h0 h' ∧ ∀ j, j < i → inV n (nthI l j) = true
def FdI4 (b : Nat) (n : Int) (l d : List Int) (se ss sd : Sl) (h0 : Heap) (e : List Value) (h' : Heap) : Prop :=
  ∃ (i : Nat) (v5 v6 v7 v9 v10 v11 v12 v13 v14 v15 v16 v17 v18 v19 : Value), e = [.int .i64 n, se.v, ss.v, sd.v, .pointer (some ⟨b, 0, none⟩), v5, v6, v7, .int .i64 i, v9, v10, v11, v12, v13, v14, v15, v16, v17, v18, v19] ∧ i ≤ l.length ∧ Ext h0 h' ∧ ∀ j, j < i → nthI l j ∉ d

theorem rcheckflow_spec (H : Y.Has F.rref11_CheckFlow S_rref11_CheckFlow) (HA : Y.Has F.rref6_At S_rref6_At) (HP : Y.Has F.rref6_Place S_rref6_Place) {n : Int} {se ss sd : Sl} {es : List (Int × Int)} {src dst : List Int} (re : RowE h se es) (rs : Row64 h ss src) (rd' : Row64 h sd dst) (bs : ss.n ≤ 1000000) (bd : sd.n ≤ 1000000)
    {R : Value → Heap → Prop} (hr : ∀ v h', Ext h h' → FWr h.size h' (chkW n es src dst) v → R v h') : CallP Y F.rref11_CheckFlow [.int .i64 n, se.v, ss.v, sd.v] h R := by
  have le := re.len
  have ls := rs.len
  have ld := rd'.len
  refine .of_has H rfl ?_
  simp [S_rref11_CheckFlow, FnS.wp]
  refine ef_new_box ?_
  intro b h1 g1 B1 e1
  simp
  by_cases c0 : n < 0
  · have hw : chkW n es src dst = atW wFlow 0 1 := by simp [chkW, c0]
    simp [c0]
    refine rat_spec HA ?_
    intro hX v eX fX
    obtain ⟨s, rfl⟩ := fX.here.shape
    simp
    refine ef_store_box (B1.ext eX) rfl rfl (by simp) ?_
    intro hY BY mY
    simp
    refine resP_x rfl BY rfl ?_
    refine hr _ _ (Mod.toExtF (e1.trans eX) mY g1) ?_
    rw [hw]
    exact (fX.step mY (fun j hj => by have := B1.lt; omega)).mono e1.size
  by_cases c1 : 4096 < n
  · have hw : chkW n es src dst = atW wFlow 0 4 := by simp [chkW, c0, c1]
    simp [c0, c1]
    refine rat_spec HA ?_
    intro hX v eX fX
    obtain ⟨s, rfl⟩ := fX.here.shape
    simp
    refine ef_store_box (B1.ext eX) rfl rfl (by simp) ?_
    intro hY BY mY
    simp
    refine resP_x rfl BY rfl ?_
    refine hr _ _ (Mod.toExtF (e1.trans eX) mY g1) ?_
    rw [hw]
    exact (fX.step mY (fun j hj => by have := B1.lt; omega)).mono e1.size
  by_cases c2 : 16384 < es.length
  · have hw : chkW n es src dst = atW wFlow 1 4 := by simp [chkW, c0, c1, c2]
    have c2' : (16384 : Int) < se.n := by omega
    simp [c0, c1, c2']
    refine rat_spec HA ?_
    intro hX v eX fX
    obtain ⟨s, rfl⟩ := fX.here.shape
    simp
    refine ef_store_box (B1.ext eX) rfl rfl (by simp) ?_
    intro hY BY mY
    simp
    refine resP_x rfl BY rfl ?_
    refine hr _ _ (Mod.toExtF (e1.trans eX) mY g1) ?_
    rw [hw]
    exact (fX.step mY (fun j hj => by have := B1.lt; omega)).mono e1.size
  have c2' : ¬ (16384 : Int) < se.n := by omega
  simp [c0, c1, c2']
  refine wp_loop' (FdI1 b n es se ss sd h1) (fun e _ => es.length - argI e 5) ⟨0, _, _, _, _, _, _, _, _, _, _, _, _, _, _, rfl, by omega, Mod.refl _, fun j hj => by omega⟩ ?_
  rintro e h2 ⟨i, v6, v7, v8, v9, v10, v11, v12, v13, v14, v15, v16, v17, v18, v19, rfl, hi, e2, hall⟩
  have x2 := e1.trans e2
  have B2 := B1.ext e2
  by_cases c : i < es.length
  · have c' : (i : Int) < se.n := by omega
    have cs : i < se.n := by omega
    have w1 : IntKind.i64.wrap ((i : Int) + 1) = (i : Int) + 1 := i64_wrap (by omega)
    have r0 := (re.ext x2).v0 i c
    have r1 := (re.ext x2).v1 i c
    cases k : inE n (nthE es i) with
    | false =>
      have hb := bad1_at (p := fun i => inE n (nthE es i)) c hall k
      have hw : chkW n es src dst = atW wEdge i 5 := by simp [chkW, c0, c1, c2, hb]
      simp [inE, inV] at k
      by_cases p1 : (nthE es i).1 < 0
      · have p1' : ¬ 0 ≤ (nthE es i).1 := by omega
        simp [c', cs, sem_idxa re.ok, r0, r1, p1, p1']
        refine rat_spec HA ?_
        intro hX v eX fX
        obtain ⟨s, rfl⟩ := fX.here.shape
        simp
        refine ef_store_box (B2.ext eX) rfl rfl (by simp) ?_
        intro hY BY mY
        simp
        refine resP_x rfl BY rfl ?_
        refine hr _ _ (Mod.toExtF (x2.trans eX) mY g1) ?_
        rw [hw]
        exact (fX.step mY (fun j hj => by have := B2.lt; omega)).mono x2.size
      have p1' : 0 ≤ (nthE es i).1 := by omega
      by_cases p2 : n ≤ (nthE es i).1
      · have p2' : ¬ (nthE es i).1 < n := by omega
        simp [c', cs, sem_idxa re.ok, r0, r1, p1, p1', p2, p2']
        refine rat_spec HA ?_
        intro hX v eX fX
        obtain ⟨s, rfl⟩ := fX.here.shape
        simp
        refine ef_store_box (B2.ext eX) rfl rfl (by simp) ?_
        intro hY BY mY
        simp
        refine resP_x rfl BY rfl ?_
        refine hr _ _ (Mod.toExtF (x2.trans eX) mY g1) ?_
        rw [hw]
        exact (fX.step mY (fun j hj => by have := B2.lt; omega)).mono x2.size
      have p2' : (nthE es i).1 < n := by omega
      by_cases p3 : (nthE es i).2 < 0
      · have p3' : ¬ 0 ≤ (nthE es i).2 := by omega
        simp [c', cs, sem_idxa re.ok, r0, r1, p1, p1', p2, p2', p3, p3']
        refine rat_spec HA ?_
        intro hX v eX fX
        obtain ⟨s, rfl⟩ := fX.here.shape
        simp
        refine ef_store_box (B2.ext eX) rfl rfl (by simp) ?_
        intro hY BY mY
        simp
        refine resP_x rfl BY rfl ?_
        refine hr _ _ (Mod.toExtF (x2.trans eX) mY g1) ?_
        rw [hw]
        exact (fX.step mY (fun j hj => by have := B2.lt; omega)).mono x2.size
      have p3' : 0 ≤ (nthE es i).2 := by omega
      have p4 : n ≤ (nthE es i).2 := k p1' p2' p3'
      have p4' : ¬ (nthE es i).2 < n := by omega
      simp [c', cs, sem_idxa re.ok, r0, r1, p1, p1', p2, p2', p3, p3', p4, p4']
      refine rat_spec HA ?_
      intro hX v eX fX
      obtain ⟨s, rfl⟩ := fX.here.shape
      simp
      refine ef_store_box (B2.ext eX) rfl rfl (by simp) ?_
      intro hY BY mY
      simp
      refine resP_x rfl BY rfl ?_
      refine hr _ _ (Mod.toExtF (x2.trans eX) mY g1) ?_
      rw [hw]
      exact (fX.step mY (fun j hj => by have := B2.lt; omega)).mono x2.size
    | true =>
      have k' := k
      simp [inE, inV] at k
      obtain ⟨⟨p1', p2'⟩, p3', p4'⟩ := k
      have p1 : ¬ (nthE es i).1 < 0 := by omega
      have p2 : ¬ n ≤ (nthE es i).1 := by omega
      have p3 : ¬ (nthE es i).2 < 0 := by omega
      have p4 : ¬ n ≤ (nthE es i).2 := by omega
      simp [c', cs, sem_idxa re.ok, r0, r1, p1, p1', p2, p2', p3, p3', p4, p4', w1]
      refine ⟨⟨i + 1, _, _, _, _, _, _, _, _, _, _, _, _, _, _, rfl, by omega, e2, fun j hj => by by_cases q : j = i; subst q; exact k'; exact hall j (by omega)⟩, by simp [argI]; omega⟩
  have c' : ¬ (i : Int) < se.n := by omega
  have hb1 : bad1 (fun i => inE n (nthE es i)) es.length = none := bad1_none fun j hj => hall j (by omega)
  simp [c']
  refine wp_loop' (FdI2 b n src se ss sd h2) (fun e _ => src.length - argI e 6) ⟨0, _, _, _, _, _, _, _, _, _, _, _, _, _, _, rfl, by omega, Mod.refl _, fun j hj => by omega⟩ ?_
  rintro e h2' ⟨i2, v5, v7, v8, v9, v10, v11, v12, v13, v14, v15, v16, v17, v18, v19, rfl, hii2, ei2, halli2⟩
  have xi2 := x2.trans ei2
  have Bi2 := B2.ext ei2
  by_cases di2 : i2 < src.length
  · have c' : (i2 : Int) < ss.n := by omega
    have cs : i2 < ss.n := by omega
    have w1 : IntKind.i64.wrap ((i2 : Int) + 1) = (i2 : Int) + 1 := i64_wrap (by omega)
    have r0 := (rs.ext xi2).val i2 di2
    cases k : inV n (nthI src i2) with
    | false =>
      have hb := bad1_at (p := fun i => inV n (nthI src i)) di2 halli2 k
      have hw : chkW n es src dst = atW wSrc i2 5 := by simp [chkW, c0, c1, c2, hb1, hb]
      simp [inV] at k
      by_cases p1 : nthI src i2 < 0
      · have p1' : ¬ 0 ≤ nthI src i2 := by omega
        simp [c', cs, sem_idxa rs.ok, r0, p1, p1']
        refine rat_spec HA ?_
        intro hX v eX fX
        obtain ⟨s, rfl⟩ := fX.here.shape
        simp
        refine ef_store_box (Bi2.ext eX) rfl rfl (by simp) ?_
        intro hY BY mY
        simp
        refine resP_x rfl BY rfl ?_
        refine hr _ _ (Mod.toExtF (xi2.trans eX) mY g1) ?_
        rw [hw]
        exact (fX.step mY (fun j hj => by have := Bi2.lt; omega)).mono xi2.size
      have p1' : 0 ≤ nthI src i2 := by omega
      have p2 : n ≤ nthI src i2 := k p1'
      have p2' : ¬ nthI src i2 < n := by omega
      simp [c', cs, sem_idxa rs.ok, r0, p1, p1', p2, p2']
      refine rat_spec HA ?_
      intro hX v eX fX
      obtain ⟨s, rfl⟩ := fX.here.shape
      simp
      refine ef_store_box (Bi2.ext eX) rfl rfl (by simp) ?_
      intro hY BY mY
      simp
      refine resP_x rfl BY rfl ?_
      refine hr _ _ (Mod.toExtF (xi2.trans eX) mY g1) ?_
      rw [hw]
      exact (fX.step mY (fun j hj => by have := Bi2.lt; omega)).mono xi2.size
    | true =>
      have k' := k
      simp [inV] at k
      obtain ⟨p1', p2'⟩ := k
      have p1 : ¬ nthI src i2 < 0 := by omega
      have p2 : ¬ n ≤ nthI src i2 := by omega
      simp [c', cs, sem_idxa rs.ok, r0, p1, p1', p2, p2', w1]
      refine ⟨⟨i2 + 1, _, _, _, _, _, _, _, _, _, _, _, _, _, _, rfl, by omega, ei2, fun j hj => by by_cases q : j = i2; subst q; exact k'; exact halli2 j (by omega)⟩, by simp [argI]; omega⟩
  have c' : ¬ (i2 : Int) < ss.n := by omega
  have hb2 : bad1 (fun i => inV n (nthI src i)) src.length = none := bad1_none fun j hj => halli2 j (by omega)
  simp [c']
  refine wp_loop' (FdI3 b n dst se ss sd h2') (fun e _ => dst.length - argI e 7) ⟨0, _, _, _, _, _, _, _, _, _, _, _, _, _, _, rfl, by omega, Mod.refl _, fun j hj => by omega⟩ ?_
  rintro e h2'' ⟨i3, v5, v6, v8, v9, v10, v11, v12, v13, v14, v15, v16, v17, v18, v19, rfl, hii3, ei3, halli3⟩
  have xi3 := xi2.trans ei3
  have Bi3 := Bi2.ext ei3
  by_cases di3 : i3 < dst.length
  · have c' : (i3 : Int) < sd.n := by omega
    have cs : i3 < sd.n := by omega
    have w1 : IntKind.i64.wrap ((i3 : Int) + 1) = (i3 : Int) + 1 := i64_wrap (by omega)
    have r0 := (rd'.ext xi3).val i3 di3
    cases k : inV n (nthI dst i3) with
    | false =>
      have hb := bad1_at (p := fun i => inV n (nthI dst i)) di3 halli3 k
      have hw : chkW n es src dst = atW wDst i3 5 := by simp [chkW, c0, c1, c2, hb1, hb2, hb]
      simp [inV] at k
      by_cases p1 : nthI dst i3 < 0
      · have p1' : ¬ 0 ≤ nthI dst i3 := by omega
        simp [c', cs, sem_idxa rd'.ok, r0, p1, p1']
        refine rat_spec HA ?_
        intro hX v eX fX
        obtain ⟨s, rfl⟩ := fX.here.shape
        simp
        refine ef_store_box (Bi3.ext eX) rfl rfl (by simp) ?_
        intro hY BY mY
        simp
        refine resP_x rfl BY rfl ?_
        refine hr _ _ (Mod.toExtF (xi3.trans eX) mY g1) ?_
        rw [hw]
        exact (fX.step mY (fun j hj => by have := Bi3.lt; omega)).mono xi3.size
      have p1' : 0 ≤ nthI dst i3 := by omega
      have p2 : n ≤ nthI dst i3 := k p1'
      have p2' : ¬ nthI dst i3 < n := by omega
      simp [c', cs, sem_idxa rd'.ok, r0, p1, p1', p2, p2']
      refine rat_spec HA ?_
      intro hX v eX fX
      obtain ⟨s, rfl⟩ := fX.here.shape
      simp
      refine ef_store_box (Bi3.ext eX) rfl rfl (by simp) ?_
      intro hY BY mY
      simp
      refine resP_x rfl BY rfl ?_
      refine hr _ _ (Mod.toExtF (xi3.trans eX) mY g1) ?_
      rw [hw]
      exact (fX.step mY (fun j hj => by have := Bi3.lt; omega)).mono xi3.size
    | true =>
      have k' := k
      simp [inV] at k
      obtain ⟨p1', p2'⟩ := k
      have p1 : ¬ nthI dst i3 < 0 := by omega
      have p2 : ¬ n ≤ nthI dst i3 := by omega
      simp [c', cs, sem_idxa rd'.ok, r0, p1, p1', p2, p2', w1]
      refine ⟨⟨i3 + 1, _, _, _, _, _, _, _, _, _, _, _, _, _, _, rfl, by omega, ei3, fun j hj => by by_cases q : j = i3; subst q; exact k'; exact halli3 j (by omega)⟩, by simp [argI]; omega⟩
  have c' : ¬ (i3 : Int) < sd.n := by omega
  have hb3 : bad1 (fun i => inV n (nthI dst i)) dst.length = none := bad1_none fun j hj => halli3 j (by omega)
  simp [c']
  refine wp_loop' (FdI4 b n src dst se ss sd h2'') (fun e _ => src.length - argI e 8) ⟨0, _, _, _, _, _, _, _, _, _, _, _, _, _, _, rfl, by omega, Mod.refl _, fun j hj => by omega⟩ ?_
  rintro e h5 ⟨i4, v5, v6, v7, v9, v10, v11, v12, v13, v14, v15, v16, v17, v18, v19, rfl, hi4, e4, hall4⟩
  have x4 := xi3.trans e4
  have B4 := Bi3.ext e4
  by_cases d4 : i4 < src.length
  · have c' : (i4 : Int) < ss.n := by omega
    have cs : i4 < ss.n := by omega
    have w1 : IntKind.i64.wrap ((i4 : Int) + 1) = (i4 : Int) + 1 := i64_wrap (by omega)
    have r0 := (rs.ext x4).val i4 d4
    simp [c', cs, sem_idxa rs.ok, r0]
    refine rplace_spec HP (rd'.ext x4) bd ?_
    by_cases k : nthI src i4 ∈ dst
    · have hs : (dst.any fun v => decide (v ∈ src)) = true := by
        rw [← any_swap, List.any_eq_true]
        exact ⟨_, nthI_mem d4, by simpa using k⟩
      have hw : chkW n es src dst = atW wFlow 2 6 := by simp only [chkW, c0, c1, c2, hb1, hb2, hb3, hs, if_false, if_true]
      have p := (place_pos (l := dst) (a := nthI src i4) (k := 0)).2 k
      simp [p]
      refine rat_spec HA ?_
      intro hX v eX fX
      obtain ⟨s, rfl⟩ := fX.here.shape
      simp
      refine ef_store_box (B4.ext eX) rfl rfl (by simp) ?_
      intro hY BY mY
      simp
      refine resP_x rfl BY rfl ?_
      refine hr _ _ (Mod.toExtF (x4.trans eX) mY g1) ?_
      rw [hw]
      exact (fX.step mY (fun j hj => by have := B4.lt; omega)).mono x4.size
    · have p : ¬ 0 ≤ placeF 0 dst (nthI src i4) := fun h => k (place_pos.1 h)
      simp [p, w1]
      refine ⟨⟨i4 + 1, _, _, _, _, _, _, _, _, _, _, _, _, _, _, rfl, by omega, e4, fun j hj => by by_cases q : j = i4; subst q; exact k; exact hall4 j (by omega)⟩, by simp [argI]; omega⟩
  have c' : ¬ (i4 : Int) < ss.n := by omega
  have hs : (dst.any fun v => decide (v ∈ src)) = false := by
    rw [← any_swap, Bool.eq_false_iff]
    intro h
    obtain ⟨x, hx, hd⟩ := List.any_eq_true.1 h
    obtain ⟨j, hj, rfl⟩ := List.getElem_of_mem hx
    exact hall4 j (by omega) (by rw [nthI_at hj]; simpa using hd)
  have hw : chkW n es src dst = wOK := by simp [chkW, c0, c1, c2, hb1, hb2, hb3, hs]
  simp [c']
  refine ef_store_box B4 rfl rfl (by simp) ?_
  intro hY BY mY
  simp
  refine resP_x rfl BY rfl ?_
  refine hr _ _ (Mod.toExtF x4 mY g1) ?_
  rw [hw]
  exact FWr.ok
end
end Go.Rm

/- Rows that are taken from in front and grow behind. -/
set_option linter.unusedSimpArgs false
set_option linter.unusedVariables false
namespace Go.Rm
section
variable {Y : Sys} {h h' : Heap}

/-- a row of one's own that may begin within its block -/
def OwnQ (h : Heap) (s : Sl) (cells : List Value) : Prop :=
  cells.length = s.n ∧ ((s.nl = true ∧ s.n = 0 ∧ s.c = 0 ∧ s.o = 0 ∧ s.sp = none ∧ cells = []) ∨
    (s.nl = false ∧ s.sp = none ∧ s.n ≤ s.c ∧ s.c ≤ 9223372036854775807 ∧ ∃ arr : Array Value, Blk h s.b arr ∧ s.o + s.c ≤ arr.size ∧ (arr.toList.drop s.o).take s.n = cells))
theorem OwnQ.ok {s : Sl} {cells : List Value} (ho : OwnQ h s cells) : s.ok := by
  rcases ho.2 with ⟨a, b, c, d, e, f⟩ | ⟨a, b, c, d, _⟩
  · exact ⟨fun _ => ⟨b, c⟩, by omega, by first | exact .inl e | exact e⟩
  · exact ⟨fun h => (by rw [a] at h; cases h), by omega, by first | exact .inl b | exact b⟩
theorem OwnQ.nil : OwnQ h Sl.nil [] := ⟨rfl, .inl ⟨rfl, rfl, rfl, rfl, rfl, rfl⟩⟩
theorem OwnQ.cell {s : Sl} {cells : List Value} (ho : OwnQ h s cells) {i : Nat} {v : Value} (hi : cells[i]? = some v) : hc h s.b (s.o + i) = some v := by
  rcases ho.2 with ⟨_, _, _, _, _, rfl⟩ | ⟨g1, gsp, g3, g4, arr, gb, g5, g6⟩
  · simp at hi
  · rw [gb.hc]
    rw [← g6, List.getElem?_take] at hi
    split at hi
    · rw [List.getElem?_drop] at hi
      simpa using hi
    · cases hi
theorem OwnQ.mod {S : Nat → Prop} {s : Sl} {cells : List Value} (ho : OwnQ h s cells) (hm : Mod S h h') (hs : s.nl = false → ¬ S s.b) : OwnQ h' s cells := by
  refine ⟨ho.1, ?_⟩
  rcases ho.2 with a | ⟨g1, gsp, g3, g4, arr, gb, g5, g6⟩
  · exact .inl a
  · exact .inr ⟨g1, gsp, g3, g4, arr, hm.blk gb (hs g1), g5, g6⟩
theorem OwnQ.tail {s : Sl} {v : Value} {r : List Value} (ho : OwnQ h s (v :: r)) : ∃ t : Sl, (∀ g, IOp.sem Y g (.slc 1 true false) [s.v, .int .i64 1] = some t.v) ∧ t.b = s.b ∧ t.nl = false ∧ OwnQ h t r := by
  have h0 := ho.1
  simp at h0
  rcases ho.2 with ⟨_, _, _, _, _, e⟩ | ⟨g1, gsp, g3, g4, arr, gb, g5, g6⟩
  · cases e
  · refine ⟨_, fun g => sem_slc_lo (Y := Y) (h := g) (sz := 1) (k := .i64) (j := 1) ho.ok (by omega) (by omega), rfl, g1, by simp; omega, .inr ⟨g1, gsp, by simp; omega, by simp; omega, arr, gb, ?_, ?_⟩⟩
    · simp only [Int.toNat_one]
      split <;> omega
    · simp only [Int.toNat_one, Nat.mul_one]
      have e : (arr.toList.drop s.o).take s.n = v :: r := g6
      rw [show s.n = r.length + 1 by omega] at e ⊢
      have h1 : arr.toList.drop (s.o + 1) = (arr.toList.drop s.o).drop 1 := by rw [List.drop_drop]
      rw [Nat.add_sub_cancel]
      have key : ((arr.toList.drop s.o).drop 1).take r.length = r := by
        cases hd : arr.toList.drop s.o with
        | nil => rw [hd] at e; simp at e
        | cons x xs =>
          rw [hd] at e
          simp only [List.take_succ_cons, List.cons.injEq] at e
          simp only [List.drop_succ_cons, List.drop_zero]
          exact e.2
      by_cases c1 : s.c = 1
      · have r0 : r = [] := List.eq_nil_of_length_eq_zero (by omega)
        subst r0
        simp
      · rw [if_neg c1, h1]
        exact key
/-- one more behind -/
theorem ef_appendQ {K : Value → Heap → Prop} {bytes : Nat} {z v : Value} {s : Sl} {cells : List Value} {t : TypeId} (hv : v.oneCell' = true) (ho : OwnQ h s cells)
    (hb : (s.n + 1) * bytes ≤ 140737488355328) (h63 : s.n + 1 ≤ 9223372036854775807)
    (hk : ∀ (s' : Sl) (h' : Heap), OwnQ h' s' (cells ++ [v]) → Mod (fun j => s.nl = false ∧ j = s.b) h h' → ((s'.b = s.b ∧ s.nl = false) ∨ h.size ≤ s'.b) → s'.nl = false → K s'.v h') :
    Ef.wp (h.push (.cells #[v] t)) K (.append 1 bytes #[z]) [s.v, .slice (some ⟨h.size, 0, none⟩) 1 1] := by
  have ho' : OwnQ (h.push (.cells #[v] t)) s cells := ho.mod (S := fun _ => False) Mod.push (fun _ h => h)
  have hblk : Blk (h.push (.cells #[v] t)) h.size #[v] := Blk.new
  have hsrc : srcOf (h.push (.cells #[v] t)) 1 1 (.slice (some ⟨h.size, 0, none⟩) 1 1) = some [v] := by
    rw [srcOf_at]
    exact rd_of (l := [v]) fun i u hi => by rw [hblk.hc]; simpa using hi
  have hp : Ext h (h.push (.cells #[v] t)) := Mod.push
  have hz := hp.size
  generalize h.push (.cells #[v] t) = g at *
  have hx : lenV (.slice (some ⟨h.size, 0, none⟩) 1 1) = some 1 := rfl
  have hsv : s.v = .slice (if s.nl then none else some ⟨s.b, s.o, s.sp⟩) s.n s.c := rfl
  have hlen := ho.1
  rw [hsv]
  simp only [Ef.wp, hx, hsrc]
  have grown : ∀ (old : List Value) (t : TypeId) (nc : Nat), old = cells → s.n + 1 ≤ nc → nc ≤ 9223372036854775807 →
      K (.slice (some ⟨g.size, 0, none⟩) (s.n + 1) nc) (g.push (.cells (old.toArray ++ [v].toArray ++ Builtin.zeroCells #[z] (nc - (s.n + 1))) t)) := by
    intro old t nc he hge hle
    subst he
    have hO : OwnQ (g.push (.cells (old.toArray ++ [v].toArray ++ Builtin.zeroCells #[z] (nc - (s.n + 1))) t)) (Sl.at g.size (s.n + 1) nc) (old ++ [v]) := by
      refine ⟨by simp [hlen], .inr ⟨rfl, rfl, hge, hle, _, Blk.new, ?_, ?_⟩⟩
      · simp only [Array.size_append, List.size_toArray, size_zeroCells', List.length_singleton, Sl.at_c]
        simp
        omega
      · simp only [Array.toList_append, Sl.at_n]
        rw [show (Sl.at g.size (s.n + 1) nc).o = 0 from rfl, List.drop_zero, show s.n + 1 = (old ++ [v]).length by simp [hlen]]
        exact List.take_left
    exact hk (Sl.at g.size (s.n + 1) nc) _ hO ((hp.mono fun _ _ h => h.elim).trans Mod.push) (.inr hz) rfl
  rcases ho'.2 with ⟨a1, a2, a3, a4, a5, rfl⟩ | ⟨g1, gsp, g3, g4, arr, gb, g5, g6⟩
  · simp only [a1, a2, a3, if_true]
    rw [if_neg (by omega)]
    refine ⟨by omega, by simpa [a2] using hb, ?_⟩
    simp only [srcOf]
    intro t nc hge hle
    have := grown [] t nc rfl (by omega) hle
    simpa [a2] using this
  · simp only [g1, gsp, Bool.false_eq_true, if_false]
    have hcells : rd g s.b s.o (s.n * 1) = some cells := by
      rw [Nat.mul_one, ← hlen]
      exact rd_of fun i v hi => ho'.cell hi
    by_cases hr : s.n + 1 ≤ s.c
    · rw [if_pos hr]
      obtain ⟨h', q1, q2, q3, q4⟩ := hst_blk (o := s.o + s.n) (vs := [v]) gb (by simp; omega) (by simpa using hv)
      rw [Nat.mul_one, q1]
      have hO : OwnQ h' { s with n := s.n + 1 } (cells ++ [v]) := by
        refine ⟨by simp [hlen], .inr ⟨g1, gsp, hr, g4, _, q2, ?_, ?_⟩⟩
        · simp only [List.size_toArray, List.length_append, List.length_take, List.length_drop, Array.length_toList, List.length_singleton]
          omega
        · simp only
          rw [List.append_assoc, List.drop_append_of_le_length (by simp; omega), List.drop_take, Nat.add_sub_cancel_left, g6, ← List.append_assoc]
          rw [List.take_append_of_le_length (by simp; omega)]
          exact List.take_of_length_le (by simp; omega)
      have := hk { s with n := s.n + 1 } h' hO ((hp.mono fun _ _ h => h.elim).trans (q3.mono fun i _ hi => ⟨g1, hi⟩)) (.inl ⟨rfl, g1⟩) g1
      simpa only [Sl.v, g1, gsp, Bool.false_eq_true, if_false] using this
    · rw [if_neg hr]
      refine ⟨h63, hb, ?_⟩
      simp only [srcOf, hcells]
      intro t nc hge hle
      exact grown cells t nc rfl hge hle
end
end Go.Rm

/- Flows: what is reached, the document's way. -/
set_option linter.unusedSimpArgs false
set_option linter.unusedVariables false
namespace Go.Rm

def edL (es : List (Int × Int)) (fl : List Int) : List Ed := (List.range es.length).map fun i => ⟨(nthE es i).1.toNat, (nthE es i).2.toNat, nthI fl i⟩
def roomV (e : Int × Int) (x v : Int) : Int × Bool := if e.1 = e.2 then (0, false) else if e.1 = v ∧ x ≠ 1 then (e.2, true) else if e.2 = v ∧ x ≠ -1 then (e.1, true) else (0, false)
def EsIn (N : Nat) (es : List (Int × Int)) : Prop := ∀ i, i < es.length → inE N (nthE es i) = true
theorem EsIn.at {N : Nat} {es : List (Int × Int)} (h : EsIn N es) {i : Nat} (hi : i < es.length) : ∃ a b : Nat, nthE es i = ((a : Int), (b : Int)) ∧ a < N ∧ b < N := by
  have := h i hi
  simp [inE, inV] at this
  refine ⟨(nthE es i).1.toNat, (nthE es i).2.toNat, ?_, by omega, by omega⟩
  apply Prod.ext <;> simp <;> omega
theorem room_iff {N : Nat} {es : List (Int × Int)} {fl : List Int} (hE : EsIn N es) {a b : Nat} : Room (edL es fl) a b ↔ ∃ i, i < es.length ∧ roomV (nthE es i) (nthI fl i) a = ((b : Int), true) := by
  simp only [Room, edL, List.mem_map, List.mem_range]
  constructor
  · rintro ⟨hab, _, ⟨i, hi, rfl⟩, h⟩
    obtain ⟨p, q, he, hp, hq⟩ := hE.at hi
    refine ⟨i, hi, ?_⟩
    rw [he] at h ⊢
    simp only [Int.toNat_natCast] at h
    simp only [roomV]
    rcases h with ⟨rfl, rfl, hx⟩ | ⟨rfl, rfl, hx⟩
    · rw [if_neg (by omega), if_pos ⟨rfl, hx⟩]
    · rw [if_neg (by omega), if_neg (by omega), if_pos ⟨rfl, hx⟩]
  · rintro ⟨i, hi, h⟩
    obtain ⟨p, q, he, hp, hq⟩ := hE.at hi
    rw [he] at h
    simp only [roomV] at h
    split at h
    · cases h
    · split at h
      · rename_i c1 c2
        simp at h
        refine ⟨by omega, _, ⟨i, hi, rfl⟩, .inl ?_⟩
        rw [he]
        simp
        exact ⟨by omega, by omega, c2.2⟩
      · split at h
        · rename_i c1 _ c2
          simp at h
          refine ⟨by omega, _, ⟨i, hi, rfl⟩, .inr ?_⟩
          rw [he]
          simp
          exact ⟨by omega, by omega, c2.2⟩
        · cases h
theorem roomV_lt {N : Nat} {es : List (Int × Int)} (hE : EsIn N es) {i : Nat} (hi : i < es.length) {x v w : Int} (h : roomV (nthE es i) x v = (w, true)) : ∃ b : Nat, w = b ∧ b < N := by
  obtain ⟨p, q, he, hp, hq⟩ := hE.at hi
  rw [he] at h
  simp only [roomV] at h
  split at h
  · cases h
  · split at h
    · simp at h; exact ⟨q, h.symm, hq⟩
    · split at h
      · simp at h; exact ⟨p, h.symm, hp⟩
      · cases h

/-- a search: what is marked can be reached; of what is marked and waits no more, all is marked that can be reached from it at once -/
structure Bfs (N : Nat) (L : List Ed) (A : Nat → Prop) (mk : Nat → Prop) (q : List Nat) (cur : Nat → Nat → Prop) : Prop where
  sound : ∀ v, v < N → mk v → Reach L A v
  start : ∀ v, A v → mk v
  wait : ∀ v, v ∈ q → v < N ∧ mk v
  closed : ∀ v, v < N → mk v → v ∉ q → ∀ w, Room L v w → cur v w ∨ mk w
theorem Bfs.done {N : Nat} {L : List Ed} {A mk : Nat → Prop} (b : Bfs N L A mk [] (fun _ _ => False)) (ha : ∀ v, A v → v < N) (ends : ∀ e ∈ L, e.u < N ∧ e.v < N) : ∀ v, v < N → (mk v ↔ Reach L A v) := by
  have key : ∀ v, Reach L A v → v < N ∧ mk v := by
    intro v r
    induction r with
    | start a => exact ⟨ha _ a, b.start _ a⟩
    | step _ hr ih =>
      refine ⟨(hr.lt ends).2, ?_⟩
      rcases b.closed _ ih.1 ih.2 (by simp) _ hr with h | h
      · exact h.elim
      · exact h
  exact fun v hv => ⟨b.sound v hv, fun r => (key v r).2⟩

/-- edges of the current vertex that are still to be looked at -/
def curE (es : List (Int × Int)) (fl : List Int) (v i : Nat) (a w : Nat) : Prop := a = v ∧ ∃ j, i ≤ j ∧ j < es.length ∧ roomV (nthE es j) (nthI fl j) v = ((w : Int), true)
section
variable {N : Nat} {es : List (Int × Int)} {fl : List Int} {A mk mk' : Nat → Prop} {q : List Nat} {v i : Nat}
theorem Bfs.pop (hE : EsIn N es) (b : Bfs N (edL es fl) A mk (v :: q) (fun _ _ => False)) : Bfs N (edL es fl) A mk q (curE es fl v 0) where
  sound := b.sound
  start := b.start
  wait := fun w hw => b.wait w (List.mem_cons_of_mem _ hw)
  closed := fun a ha hm hq w hr => by
    by_cases e : a = v
    · subst e
      obtain ⟨j, hj, hv⟩ := (room_iff hE).1 hr
      exact .inl ⟨rfl, j, by omega, hj, hv⟩
    · rcases b.closed a ha hm (by simp [e, hq]) w hr with h | h
      · exact h.elim
      · exact .inr h
theorem Bfs.mark (hE : EsIn N es) (hi : i < es.length) (b : Bfs N (edL es fl) A mk q (curE es fl v i)) (hv : v < N) (hmv : mk v) {w : Nat} (hw : w < N) (hroom : roomV (nthE es i) (nthI fl i) v = ((w : Int), true))
    (hmk : ∀ a, a < N → (mk' a ↔ mk a ∨ a = w)) (hA : ∀ a, A a → a < N) : Bfs N (edL es fl) A mk' (q ++ [w]) (curE es fl v (i + 1)) where
  sound := fun a ha hm => by
    rcases (hmk a ha).1 hm with h | rfl
    · exact b.sound a ha h
    · exact (b.sound v hv hmv).step ((room_iff hE).2 ⟨i, hi, hroom⟩)
  start := fun a ha => (hmk a (hA a ha)).2 (.inl (b.start a ha))
  wait := fun a ha => by
    rcases List.mem_append.1 ha with h | h
    · exact ⟨(b.wait a h).1, (hmk a (b.wait a h).1).2 (.inl (b.wait a h).2)⟩
    · simp at h
      subst h
      exact ⟨hw, (hmk a hw).2 (.inr rfl)⟩
  closed := fun a ha hm hq x hr => by
    simp at hq
    have hx : x < N := by
      obtain ⟨j, hj, hv⟩ := (room_iff hE).1 hr
      obtain ⟨c, hc, hcN⟩ := roomV_lt hE hj hv
      omega
    rcases (hmk a ha).1 hm with h | h
    · rcases b.closed a ha h hq.1 x hr with ⟨rfl, j, hj, hl, hv'⟩ | h'
      · by_cases e : j = i
        · subst e
          rw [hroom] at hv'
          simp at hv'
          exact .inr ((hmk x hx).2 (.inr (by omega)))
        · exact .inl ⟨rfl, j, by omega, hl, hv'⟩
      · exact .inr ((hmk x hx).2 (.inl h'))
    · exact absurd h hq.2
theorem Bfs.skip (b : Bfs N (edL es fl) A mk q (curE es fl v i)) (h : ∀ w : Nat, roomV (nthE es i) (nthI fl i) v = ((w : Int), true) → mk w) : Bfs N (edL es fl) A mk q (curE es fl v (i + 1)) where
  sound := b.sound
  start := b.start
  wait := b.wait
  closed := fun a ha hm hq x hr => by
    rcases b.closed a ha hm hq x hr with ⟨rfl, j, hj, hl, hv'⟩ | h'
    · by_cases e : j = i
      · subst e
        exact .inr (h x hv')
      · exact .inl ⟨rfl, j, by omega, hl, hv'⟩
    · exact .inr h'
theorem Bfs.end (b : Bfs N (edL es fl) A mk q (curE es fl v i)) (hi : es.length ≤ i) : Bfs N (edL es fl) A mk q (fun _ _ => False) where
  sound := b.sound
  start := b.start
  wait := b.wait
  closed := fun a ha hm hq x hr => by
    rcases b.closed a ha hm hq x hr with ⟨rfl, j, hj, hl, hv'⟩ | h'
    · omega
    · exact .inr h'
end

section
variable {Y : Sys} {h h' : Heap}
theorem rroom_spec (H : Y.Has F.rref11_room S_rref11_room) {a b x v : Int} {R : Value → Heap → Prop} (hr : ∀ h', Ext h h' → R (.tuple #[.int .i64 (roomV (a, b) x v).1, .bool (roomV (a, b) x v).2]) h') :
    CallP Y F.rref11_room [.agg #[.int .i64 a, .int .i64 b], .int .i64 x, .int .i64 v] h R := by
  refine .of_has H rfl ?_
  simp [S_rref11_room, FnS.wp]
  refine ef_new_box ?_
  intro B h1 g1 B1 e1
  have hr' := hr h1 e1
  simp only [roomV] at hr'
  simp [B1.hc]
  by_cases c0 : a = b
  · simp [c0] at hr' ⊢
    exact hr'
  · simp [c0, B1.hc]
    rw [if_neg c0] at hr'
    by_cases c1 : a = v
    · by_cases c2 : x = 1
      · simp [c1, c2] at hr'
        simp [c1, c2, B1.hc]
        by_cases c3 : b = v
        · exact absurd (c1.trans c3.symm) c0
        · simp [c3] at hr'
          simp [c3]
          exact hr'
      · simp [c1, c2] at hr'
        simp [c1, c2, B1.hc]
        exact hr'
    · simp [c1] at hr'
      simp [c1, B1.hc]
      by_cases c3 : b = v
      · by_cases c4 : x = -1
        · simp [c3, c4] at hr'
          simp [c3, c4]
          exact hr'
        · simp [c3, c4] at hr'
          simp [c3, c4, B1.hc]
          exact hr'
      · simp [c3] at hr'
        simp [c3]
        exact hr'

theorem least_of {P : Nat → Prop} (h : ∃ n, P n) : ∃ n, P n ∧ ∀ m, P m → n ≤ m := by
  obtain ⟨n, hn⟩ := h
  induction n using Nat.strongRecOn with
  | _ n ih =>
    by_cases c : ∃ m, m < n ∧ P m
    · obtain ⟨m, hm, hp⟩ := c
      exact ih m hm hp
    · exact ⟨n, hn, fun m hp => Nat.le_of_not_lt fun hl => c ⟨m, hl, hp⟩⟩
def ILoop (I : Nat → List Value → Heap → Prop) (e : List Value) (h : Heap) : Prop := ∃ m, I m e h
open Classical in
noncomputable def muI (I : Nat → List Value → Heap → Prop) (e : List Value) (h : Heap) : Nat := if c : ∃ m, I m e h then Classical.choose (least_of c) else 0
theorem muI_at {I : Nat → List Value → Heap → Prop} {e : List Value} {h : Heap} (c : ILoop I e h) : I (muI I e h) e h := by
  have c' : ∃ m, I m e h := c
  unfold muI
  rw [dif_pos c']
  exact (Classical.choose_spec (least_of c')).1
theorem muI_le {I : Nat → List Value → Heap → Prop} {m : Nat} {e : List Value} {h : Heap} (c : I m e h) : muI I e h ≤ m := by
  have c' : ∃ m, I m e h := ⟨m, c⟩
  unfold muI
  rw [dif_pos c']
  exact (Classical.choose_spec (least_of c')).2 m c
/-- a loop that ends since a number that is no local gets less -/
theorem wp_loopM {s : Stmt} {e : List Value} {kn : List Value → Heap → Prop} {ke : Nat → List Value → Heap → Prop} {kr : List Value → Heap → Prop} (I : Nat → List Value → Heap → Prop) (m0 : Nat) (h0 : I m0 e h)
    (hs : ∀ m e h, I m e h → s.wp Y (LoopK (ILoop I) (muI I) m) ke kr e h) : Stmt.wp Y (.loop s) kn ke kr e h :=
  wp_loop' (ILoop I) (muI I) ⟨m0, h0⟩ fun e h c => hs _ e h (muI_at c)
theorem next_M {I : Nat → List Value → Heap → Prop} {m m' : Nat} {e : List Value} {h : Heap} (c : I m' e h) (hl : m' < m) : LoopK (ILoop I) (muI I) m e h :=
  ⟨⟨m', c⟩, Nat.lt_of_le_of_lt (muI_le c) hl⟩
theorem count_mark {l : List Int} {v : Nat} {x : Int} (hv : v < l.length) (h2 : nthI l v = -2) (hx : x ≠ -2) : (l.set v x).count (-2) + 1 = l.count (-2) := by
  rw [List.count_set hv]
  have e : l[v] = -2 := by rw [← nthI_at hv]; exact h2
  have hp : 0 < l.count (-2) := List.count_pos_iff.2 (by rw [← e]; exact List.getElem_mem hv)
  simp [e, hx]
  omega
def vtsV (q : List Nat) : List Value := q.map fun (v : Nat) => Value.int .i64 v
def inSetN (l : List Int) (v : Nat) : Prop := (v : Int) ∈ l

def RcI1 (N : Nat) (se sf ss : Sl) (b : Nat) (h0 : Heap) (e : List Value) (h' : Heap) : Prop :=
  ∃ (i : Nat) (v4 v7 v8 v9 v10 v11 v12 v13 v14 v15 v16 v17 v18 : Value), e = [.int .i64 N, se.v, sf.v, ss.v, v4, .slice (some ⟨b, 0, none⟩) N N, .int .i64 i, v7, v8, v9, v10, v11, v12, v13, v14, v15, v16, v17, v18] ∧ i ≤ N ∧ Mod (fun j => j = b) h0 h' ∧
    ∃ l : List Int, l.length = N ∧ Own h' 1 (Sl.at b N N) (ints64 l) ∧ ∀ j, j < i → nthI l j = -2
def RcI2 (N : Nat) (se sf ss : Sl) (src : List Int) (b : Nat) (h0 : Heap) (e : List Value) (h' : Heap) : Prop :=
  ∃ (i : Nat) (s : Sl) (v4 v6 v9 v10 v11 v12 v13 v14 v15 v16 v17 v18 : Value), e = [.int .i64 N, se.v, sf.v, ss.v, v4, .slice (some ⟨b, 0, none⟩) N N, v6, s.v, .int .i64 i, v9, v10, v11, v12, v13, v14, v15, v16, v17, v18] ∧ i ≤ src.length ∧ Mod (fun j => j = b) h0 h' ∧
    ∃ (l : List Int) (q : List Nat), l.length = N ∧ Own h' 1 (Sl.at b N N) (ints64 l) ∧ OwnQ h' s (vtsV q) ∧ (s.nl = false → h0.size ≤ s.b) ∧ q.length + l.count (-2) = N ∧
      (∀ v, v < N → (nthI l v ≠ -2 ↔ inSetN (src.take i) v)) ∧ (∀ v, v ∈ q ↔ inSetN (src.take i) v)
theorem inSetN_succ {src : List Int} {i v : Nat} (hi : i < src.length) : inSetN (src.take (i + 1)) v ↔ inSetN (src.take i) v ∨ (v : Int) = nthI src i := by
  unfold inSetN
  rw [List.take_succ_eq_append_getElem hi, List.mem_append, nthI_at hi]
  simp
end
end Go.Rm

/- Flows: the document's reach. -/
set_option linter.unusedSimpArgs false
set_option linter.unusedVariables false
namespace Go.Rm
section
variable {Y : Sys} {h h' : Heap}

def RcO (N : Nat) (se sf ss : Sl) (b : Nat) (es : List (Int × Int)) (fl : List Int) (A : Nat → Prop) (h0 : Heap) (m : Nat) (e : List Value) (h' : Heap) : Prop :=
  ∃ (s : Sl) (v4 v6 v8 v9 v10 v11 v12 v13 v14 v15 v16 v17 v18 : Value), e = [.int .i64 N, se.v, sf.v, ss.v, v4, .slice (some ⟨b, 0, none⟩) N N, v6, s.v, v8, v9, v10, v11, v12, v13, v14, v15, v16, v17, v18] ∧ Mod (fun j => j = b) h0 h' ∧
    ∃ (l : List Int) (q : List Nat), l.length = N ∧ Own h' 1 (Sl.at b N N) (ints64 l) ∧ OwnQ h' s (vtsV q) ∧ (s.nl = false → h0.size ≤ s.b) ∧ q.length + l.count (-2) ≤ N ∧
      Bfs N (edL es fl) A (fun v => nthI l v ≠ -2) q (fun _ _ => False) ∧ m = 2 * l.count (-2) + q.length
def RcI (N : Nat) (se sf ss : Sl) (b v M : Nat) (es : List (Int × Int)) (fl : List Int) (A : Nat → Prop) (h0 : Heap) (e : List Value) (h' : Heap) : Prop :=
  ∃ (i : Nat) (s : Sl) (v4 v6 v8 v11 v12 v13 v14 v15 v16 v17 v18 : Value), e = [.int .i64 N, se.v, sf.v, ss.v, v4, .slice (some ⟨b, 0, none⟩) N N, v6, s.v, v8, .int .i64 v, .int .i64 i, v11, v12, v13, v14, v15, v16, v17, v18] ∧ i ≤ es.length ∧ Mod (fun j => j = b) h0 h' ∧
    ∃ (l : List Int) (q : List Nat), l.length = N ∧ Own h' 1 (Sl.at b N N) (ints64 l) ∧ OwnQ h' s (vtsV q) ∧ (s.nl = false → h0.size ≤ s.b) ∧ q.length + l.count (-2) ≤ N ∧ nthI l v ≠ -2 ∧
      Bfs N (edL es fl) A (fun v => nthI l v ≠ -2) q (curE es fl v i) ∧ 2 * l.count (-2) + q.length < M
theorem rreach_spec (H : Y.Has F.rref11_reach S_rref11_reach) (HR : Y.Has F.rref11_room S_rref11_room) {N : Nat} {se sf ss : Sl} {es : List (Int × Int)} {fl src : List Int} (re : RowE h se es) (rf : Row64 h sf fl) (rs : Row64 h ss src)
    (hE : EsIn N es) (hS : ∀ i, i < src.length → inV N (nthI src i) = true) (hf : fl.length = es.length) (hN : N ≤ 4096) (be : es.length ≤ 16384) (bs : src.length ≤ 1000000)
    {R : Value → Heap → Prop} (hr : ∀ h' b l, Ext h h' → h.size ≤ b → l.length = N → Own h' 1 (Sl.at b N N) (ints64 l) → (∀ v, v < N → (nthI l v ≠ -2 ↔ Reach (edL es fl) (inSetN src) v)) → R (.slice (some ⟨b, 0, none⟩) N N) h') :
    CallP Y F.rref11_reach [.int .i64 N, se.v, sf.v, ss.v] h R := by
  have le := re.len
  have ls := rs.len
  have lf := rf.len
  refine .of_has H rfl ?_
  simp [S_rref11_reach, FnS.wp]
  refine ef_make64 (n := N) (by omega) rfl ?_
  intro b h1 g1 o1 e1 l1
  simp
  refine wp_loop' (RcI1 N se sf ss b h1) (fun e _ => N - argI e 6) ⟨0, _, _, _, _, _, _, _, _, _, _, _, _, _, rfl, by omega, Mod.refl _, _, by simp, o1, fun j hj => by omega⟩ ?_
  rintro e h2 ⟨i, v4, v7, v8, v9, v10, v11, v12, v13, v14, v15, v16, v17, v18, rfl, hi, m2, l, hl, o2, hall⟩
  by_cases c : i < N
  · have c' : (i : Int) < N := by omega
    have w1 : IntKind.i64.wrap ((i : Int) + 1) = (i : Int) + 1 := i64_wrap (by omega)
    have hiF : ∀ g, IOp.sem Y g (.idxa 1) [.slice (some ⟨b, 0, none⟩) N N, .int .i64 i] = some (.pointer (some ⟨b, i, none⟩)) := fun g => by
      have := sem_idxF (Y := Y) (h := g) (b := b) (sz := 1) (show N ≤ 9223372036854775807 by omega) c (Nat.le_refl N)
      simpa using this
    simp [c', c, hiF]
    refine stAt o2 (k := i) (by simp [hl]; omega) ?_
    intro h3 o3 m3
    rw [ints64_set] at o3
    simp [w1]
    refine ⟨⟨i + 1, _, _, _, _, _, _, _, _, _, _, _, _, _, rfl, by omega, m2.trans m3, l.set i (-2), by simp [hl], o3, fun j hj => ?_⟩, by simp [argI]; omega⟩
    rw [nthI_set (by omega)]
    by_cases q : j = i
    · simp [q]
    · simp [q]; exact hall j (by omega)
  have c' : ¬ (i : Int) < N := by omega
  simp [c']
  have hall' : ∀ j, j < N → nthI l j = -2 := fun j hj => hall j (by omega)
  have lrep : l = List.replicate N (-2) := by
    apply List.ext_getElem
    · simp [hl]
    · intro j a1 a2
      have := hall' j (by omega)
      rw [nthI_at a1] at this
      simp [this]
  refine wp_loop' (RcI2 N se sf ss src b h2) (fun e _ => src.length - argI e 8) ⟨0, Sl.nil, _, _, _, _, _, _, _, _, _, _, _, _, rfl, by omega, Mod.refl _, l, [], hl, o2, OwnQ.nil, fun h => (by cases h), by rw [lrep]; simp, fun v hv => by simp [inSetN, hall' v hv], fun v => by simp [inSetN]⟩ ?_
  clear hall' lrep hall o2 hl
  rintro e h3 ⟨i, s, v4, v6, v9, v10, v11, v12, v13, v14, v15, v16, v17, v18, rfl, hi, m3, l, q, hl, o3, oq, fq, cq, hm, hq⟩
  have lb : b < h2.size := by have := m2.size; omega
  have x3 : Ext h h3 := Mod.ext e1 (m2.trans (m3.mono fun _ _ h => h)) (fun j hj => by omega)
  by_cases d : i < src.length
  · have d' : (i : Int) < ss.n := by omega
    have ds : i < ss.n := by omega
    have w1 : IntKind.i64.wrap ((i : Int) + 1) = (i : Int) + 1 := i64_wrap (by omega)
    obtain ⟨v, hv, lv⟩ := inV_nat (hS i d)
    have hiF : ∀ g, IOp.sem Y g (.idxa 1) [.slice (some ⟨b, 0, none⟩) N N, .int .i64 v] = some (.pointer (some ⟨b, v, none⟩)) := fun g => by
      have := sem_idxF (Y := Y) (h := g) (b := b) (sz := 1) (show N ≤ 9223372036854775807 by omega) lv (Nat.le_refl N)
      simpa using this
    have hb := o3.row64.val v (by omega)
    simp at hb
    have hs3 := (rs.ext x3).val i d
    rw [hv] at hs3
    simp [d', ds, sem_idxa rs.ok, hs3, hiF, hb]
    by_cases k : nthI l v = -2
    · simp [k, d', ds, sem_idxa rs.ok, hs3, hiF]
      refine stAt o3 (k := v) (by simp [hl]; omega) ?_
      intro h4 o4 m4
      rw [ints64_set] at o4
      have x4 : Ext h h4 := Mod.ext x3 m4 (fun j hj => by omega)
      have hs4 := (rs.ext x4).val i d
      rw [hv] at hs4
      have oq4 := oq.mod m4 (fun hn hb' => by have := fq hn; omega)
      simp [ds, sem_idxa rs.ok, hs4, ef_bslice1_int]
      intro t
      have hql : (vtsV q).length = s.n := oq.1
      simp [vtsV] at hql
      refine ef_appendQ rfl oq4 (by omega) (by omega) ?_
      intro s' h5 o5 m5 f5 nl5
      simp [w1]
      have hc := count_mark (x := -1) (by omega) k (by decide)
      have z4 := m4.size
      have z3 := m3.size
      refine ⟨⟨i + 1, s', _, _, _, _, _, _, _, _, _, _, _, _, rfl, by omega, (m3.trans m4).then m5 (fun j hj hh => by have := fq hh.1; omega), l.set v (-1), q ++ [v], by simp [hl], o4.mod m5 (fun _ hh => by have := fq hh.1; have := hh.2; simp at this; omega), by simpa [vtsV] using o5, fun _ => by rcases f5 with ⟨f5, f6⟩ | f5; rw [f5]; exact fq f6; omega, by simp; omega, fun w hw => ?_, fun w => ?_⟩, by simp [argI]; omega⟩
      · rw [nthI_set (by omega), inSetN_succ d, hv]
        by_cases e : w = v
        · subst e; simp
        · rw [if_neg e, hm w hw]
          constructor
          · exact .inl
          · rintro (a | a)
            · exact a
            · omega
      · rw [inSetN_succ d, hv, List.mem_append, hq w, List.mem_singleton]
        exact or_congr Iff.rfl (by omega)
    · have hsame : ∀ w, inSetN (src.take (i + 1)) w ↔ inSetN (src.take i) w := fun w => by
        rw [inSetN_succ d, hv]
        refine ⟨?_, .inl⟩
        rintro (a | a)
        · exact a
        · have : w = v := by omega
          subst this
          exact (hm w lv).1 k
      simp [k, w1]
      refine ⟨⟨i + 1, s, _, _, _, _, _, _, _, _, _, _, _, _, rfl, by omega, m3, l, q, hl, o3, oq, fq, cq, fun w hw => by rw [hsame]; exact hm w hw, fun w => by rw [hsame]; exact hq w⟩, by simp [argI]; omega⟩
  have d' : ¬ (i : Int) < ss.n := by omega
  rw [List.take_of_length_le (by omega)] at hm hq
  simp [d']
  have hA : ∀ a, inSetN src a → a < N := fun a ha => by
    obtain ⟨j, hj, he⟩ := List.getElem_of_mem ha
    have := hS j hj
    rw [nthI_at hj, he] at this
    simp [inV] at this
    exact this
  have bf : Bfs N (edL es fl) (inSetN src) (fun v => nthI l v ≠ -2) q (fun _ _ => False) := by
    refine ⟨fun v hv k => .start ((hm v hv).1 k), fun v a => (hm v (hA v a)).2 a, fun v hv => ⟨hA v ((hq v).1 hv), (hm v (hA v ((hq v).1 hv))).2 ((hq v).1 hv)⟩, fun v hv k hn => absurd ((hq v).2 ((hm v hv).1 k)) hn⟩
  refine wp_loopM (RcO N se sf ss b es fl (inSetN src) h2) _ ⟨s, _, _, _, _, _, _, _, _, _, _, _, _, _, rfl, m3, l, q, hl, o3, oq, fq, by omega, bf, rfl⟩ ?_
  clear bf hm hq cq fq oq o3 hl x3 m3 d d' hi
  rintro m e h4 ⟨s, v4, v6, v8, v9, v10, v11, v12, v13, v14, v15, v16, v17, v18, rfl, m4, l, q, hl, o4, oq, fq, cq, bf, rfl⟩
  have x4 : Ext h h4 := Mod.ext e1 (m2.trans m4) (fun j hj => by omega)
  have hql : q.length = s.n := by have := oq.1; simpa [vtsV] using this
  cases q with
  | nil =>
    have hs0 : s.n = 0 := by simpa using hql.symm
    simp [hs0]
    have z1 := e1.size
    refine hr h4 b l x4 (by omega) hl o4 (bf.done hA fun e he => ?_)
    simp only [edL, List.mem_map, List.mem_range] at he
    obtain ⟨j, hj, rfl⟩ := he
    obtain ⟨p, q, he, hp, hq⟩ := hE.at hj
    simp [he, hp, hq]
  | cons v r =>
    simp at hql
    have hs0 : (0 : Int) < s.n := by omega
    have hs0' : 0 < s.n := by omega
    have hv := oq.cell (i := 0) (v := .int .i64 v) (by simp [vtsV])
    simp at hv
    obtain ⟨t, hsl, tb, tn, oq'⟩ := OwnQ.tail (Y := Y) (v := .int .i64 v) (r := vtsV r) (by simpa [vtsV] using oq)
    simp [hs0, hs0', sem_idxa oq.ok, hv, hsl]
    have hv2 := bf.wait v (by simp)
    refine wp_loop' (RcI N se sf ss b v (2 * l.count (-2) + (v :: r).length) es fl (inSetN src) h2) (fun e _ => es.length - argI e 10) ⟨0, t, _, _, _, _, _, _, _, _, _, _, _, rfl, by omega, m4, l, r, hl, o4, oq', fun hn => by rw [tb]; exact fq (by cases hh : s.nl with | false => rfl | true => have := (oq.ok.nil hh).1; omega), by simp at cq; omega, hv2.2, bf.pop hE, by simp⟩ ?_
    have hvN := hv2.1
    generalize hM : 2 * l.count (-2) + (v :: r).length = M
    clear hM hv2 hsl oq' hv hs0' hs0 hql bf cq fq oq o4 hl x4 m4 tb tn
    rintro e h5 ⟨i, s, v4, v6, v8, v11, v12, v13, v14, v15, v16, v17, v18, rfl, hi, m5, l, q, hl, o5, oq, fq, cq, mv, bf, hlt⟩
    have x5 : Ext h h5 := Mod.ext e1 (m2.trans m5) (fun j hj => by omega)
    by_cases c : i < es.length
    rotate_left
    · have c1 : ¬ (i : Int) < se.n := by omega
      simp [c1]
      refine next_M (m' := 2 * l.count (-2) + q.length) ⟨s, _, _, _, _, _, _, _, _, _, _, _, _, _, rfl, m5, l, q, hl, o5, oq, fq, cq, bf.end (by omega), rfl⟩ hlt
    have c1 : (i : Int) < se.n := by omega
    have c2 : i < se.n := by omega
    have c3 : (i : Int) < sf.n := by omega
    have c4 : i < sf.n := by omega
    have w1 : IntKind.i64.wrap ((i : Int) + 1) = (i : Int) + 1 := i64_wrap (by omega)
    simp [c1, c2, c3, c4, sem_idxa re.ok, sem_idxa rf.ok, (re.ext x5).rd c, (rf.ext x5).val i (by omega)]
    refine rroom_spec HR ?_
    intro h6 e6
    have hroomE : roomV ((nthE es i).1, (nthE es i).2) (nthI fl i) v = roomV (nthE es i) (nthI fl i) v := rfl
    have x6 := x5.trans e6
    have m6 : Mod (fun j => j = b) h2 h6 := m5.trans (e6.mono fun _ _ h => h.elim)
    have o6 := o5.ext' e6
    have oq6 := oq.mod e6 (fun _ h => h)
    have z5 := m5.size
    have z6 := e6.size
    cases k1 : (roomV ((nthE es i).1, (nthE es i).2) (nthI fl i) v).2 with
    | false =>
      simp [w1]
      refine ⟨⟨i + 1, s, _, _, _, _, _, _, _, _, _, _, _, rfl, by omega, m6, l, q, hl, o6, oq6, fq, cq, mv, bf.skip (fun w hw => by rw [hroomE, hw] at k1; cases k1), hlt⟩, by simp [argI]; omega⟩
    | true =>
      have hpair : roomV (nthE es i) (nthI fl i) v = ((roomV ((nthE es i).1, (nthE es i).2) (nthI fl i) v).1, true) := by rw [← k1]
      obtain ⟨w, hw, lw⟩ := roomV_lt hE c hpair
      rw [hw] at hpair
      have hiF : ∀ g, IOp.sem Y g (.idxa 1) [.slice (some ⟨b, 0, none⟩) N N, .int .i64 w] = some (.pointer (some ⟨b, w, none⟩)) := fun g => by
        have := sem_idxF (Y := Y) (h := g) (b := b) (sz := 1) (show N ≤ 9223372036854775807 by omega) lw (Nat.le_refl N)
        simpa using this
      have hb := o6.row64.val w (by omega)
      simp at hb
      by_cases k : nthI l w = -2
      · simp [hw, hiF, hb, k]
        refine stAt o6 (k := w) (by simp [hl]; omega) ?_
        intro h7 o7 m7
        rw [ints64_set] at o7
        have oq7 := oq6.mod m7 (fun hn hb' => by have := fq hn; omega)
        simp [ef_bslice1_int]
        intro t
        have hql : (vtsV q).length = s.n := oq.1
        simp [vtsV] at hql
        refine ef_appendQ rfl oq7 (by omega) (by omega) ?_
        intro s' h8 o8 m8 f8 nl8
        simp [w1]
        have hc := count_mark (x := (i : Int)) (by omega) k (by omega)
        have z7 := m7.size
        have hset : ∀ a, a < N → (nthI (l.set w i) a ≠ -2 ↔ nthI l a ≠ -2 ∨ a = w) := fun a ha => by
          rw [nthI_set (by omega)]
          by_cases e : a = w
          · subst e; simp
          · simp [e]
        refine ⟨⟨i + 1, s', _, _, _, _, _, _, _, _, _, _, _, rfl, by omega, (m6.trans m7).then m8 (fun j hj hh => by have := fq hh.1; omega), l.set w i, q ++ [w], by simp [hl], o7.mod m8 (fun _ hh => by have := fq hh.1; have := hh.2; simp at this; omega), by simpa [vtsV] using o8, fun _ => by rcases f8 with ⟨f8, f9⟩ | f8; rw [f8]; exact fq f9; omega, by simp; omega, (hset v hvN).2 (.inl mv), bf.mark hE c hvN mv lw hpair hset hA, by simp; omega⟩, by simp [argI]; omega⟩
      · simp [hw, hiF, hb, k, w1]
        refine ⟨⟨i + 1, s, _, _, _, _, _, _, _, _, _, _, _, rfl, by omega, m6, l, q, hl, o6, oq6, fq, cq, mv, bf.skip (fun x hx => by rw [hpair] at hx; simp at hx; have : x = w := (by omega); subst this; exact k), hlt⟩, by simp [argI]; omega⟩
end
end Go.Rm

/- Flows: the document's sides. -/
set_option linter.unusedSimpArgs false
set_option linter.unusedVariables false
namespace Go.Rm
def negL (fl : List Int) : List Int := fl.map fun x => -x
theorem nthI_neg {fl : List Int} {i : Nat} : nthI (negL fl) i = - nthI fl i := by
  simp only [nthI, negL, List.getD_eq_getElem?_getD, List.getElem?_map]
  cases fl[i]? <;> rfl
theorem room_neg {es : List (Int × Int)} {fl : List Int} {a b : Nat} : Room (edL es (negL fl)) a b ↔ Room (edL es fl) b a := by
  simp only [Room, edL, List.mem_map, List.mem_range]
  constructor
  · rintro ⟨hab, _, ⟨i, hi, rfl⟩, h⟩
    refine ⟨Ne.symm hab, _, ⟨i, hi, rfl⟩, ?_⟩
    simp only [nthI_neg] at h ⊢
    rcases h with ⟨h1, h2, h3⟩ | ⟨h1, h2, h3⟩
    · exact .inr ⟨h2, h1, by omega⟩
    · exact .inl ⟨h2, h1, by omega⟩
  · rintro ⟨hab, _, ⟨i, hi, rfl⟩, h⟩
    refine ⟨Ne.symm hab, _, ⟨i, hi, rfl⟩, ?_⟩
    simp only [nthI_neg] at h ⊢
    rcases h with ⟨h1, h2, h3⟩ | ⟨h1, h2, h3⟩
    · exact .inr ⟨h2, h1, by omega⟩
    · exact .inl ⟨h2, h1, by omega⟩
theorem reach_neg {es : List (Int × Int)} {fl : List Int} {A : Nat → Prop} {v : Nat} : Reach (edL es (negL fl)) A v ↔ BReach (edL es fl) A v := by
  constructor
  · intro r
    induction r with
    | start a => exact .start a
    | step _ hr ih => exact .step ih (room_neg.1 hr)
  · intro r
    induction r with
    | start a => exact .start a
    | step _ hr ih => exact .step ih (room_neg.2 hr)
section
variable {Y : Sys} {h h' : Heap}
def RsI1 (N nb : Nat) (fl : List Int) (se sf ss sd : Sl) (n7 n8 n9 : Value) (h0 : Heap) (e : List Value) (h' : Heap) : Prop :=
  ∃ (i : Nat) (v5 v6 v12 v13 v14 v15 : Value), e = [.int .i64 N, se.v, sf.v, ss.v, sd.v, v5, v6, n7, n8, n9, .slice (some ⟨nb, 0, none⟩) sf.n sf.n, .int .i64 i, v12, v13, v14, v15] ∧ i ≤ fl.length ∧ Mod (fun j => j = nb) h0 h' ∧ ∃ l : List Int, l.length = fl.length ∧ Own h' 1 (Sl.at nb sf.n sf.n) (ints64 l) ∧ ∀ j, j < i → nthI l j = - nthI fl j

def RsI2 (N b c : Nat) (l k : List Int) (d f : Nat) (se sf ss sd : Sl) (h0 : Heap) (e : List Value) (h' : Heap) : Prop :=
  ∃ (i : Nat) (v5 v6 v10 v11 v14 v15 : Value), e = [.int .i64 N, se.v, sf.v, ss.v, sd.v, v5, v6, .slice (some ⟨b, 0, none⟩) N N, .slice (some ⟨c, 0, none⟩) N N, .slice (some ⟨d, 0, none⟩) N N, v10, v11, .slice (some ⟨f, 0, none⟩) N N, .int .i64 i, v14, v15] ∧ i ≤ N ∧ Mod (fun j => j = b ∨ j = c) h0 h' ∧ ∃ m w : List Bool, m.length = N ∧ w.length = N ∧ Own h' 1 (Sl.at b N N) (boolsM m) ∧ Own h' 1 (Sl.at c N N) (boolsM w) ∧ (∀ j, j < i → nthM m j = !decide (nthI l j = -2)) ∧ (∀ j, j < i → nthM w j = decide (nthI k j = -2))
theorem boolsM_set {l : List Bool} {i : Nat} {x : Bool} : (boolsM l).set i (.bool x) = boolsM (l.set i x) := by simp [boolsM, List.map_set]
theorem nthM_set {l : List Bool} {i j : Nat} {x : Bool} (hi : i < l.length) : nthM (l.set i x) j = if j = i then x else nthM l j := by
  simp only [nthM, List.getD_eq_getElem?_getD, List.getElem?_set]
  by_cases e : i = j
  · subst e; simp [hi]
  · simp [e, Ne.symm e]
theorem rsides_spec (H : Y.Has F.rref11_sides S_rref11_sides) (HH : Y.Has F.rref11_reach S_rref11_reach) (HR : Y.Has F.rref11_room S_rref11_room) {N : Nat} {se sf ss sd : Sl} {es : List (Int × Int)} {fl src dst : List Int} (re : RowE h se es) (rf : Row64 h sf fl) (rs : Row64 h ss src) (rd' : Row64 h sd dst)
    (hE : EsIn N es) (hS : ∀ i, i < src.length → inV N (nthI src i) = true) (hD : ∀ i, i < dst.length → inV N (nthI dst i) = true) (hf : fl.length = es.length) (hF : ∀ i, i < fl.length → -1 ≤ nthI fl i ∧ nthI fl i ≤ 1) (hN : N ≤ 4096) (be : es.length ≤ 16384) (bs : src.length ≤ 1000000) (bd : dst.length ≤ 1000000)
    {R : Value → Heap → Prop} (hr : ∀ h' b c m w, Ext h h' → h.size ≤ b → h.size ≤ c → m.length = N → w.length = N → Own h' 1 (Sl.at b N N) (boolsM m) → Own h' 1 (Sl.at c N N) (boolsM w) →
      (∀ v, v < N → (nthM m v = true ↔ Reach (edL es fl) (inSetN src) v)) → (∀ v, v < N → (nthM w v = true ↔ ¬ BReach (edL es fl) (inSetN dst) v)) → R (.tuple #[.slice (some ⟨b, 0, none⟩) N N, .slice (some ⟨c, 0, none⟩) N N]) h') :
    CallP Y F.rref11_sides [.int .i64 N, se.v, sf.v, ss.v, sd.v] h R := by
  have le := re.len
  have ls := rs.len
  have ld := rd'.len
  have lf := rf.len
  refine .of_has H rfl ?_
  simp [S_rref11_sides, FnS.wp]
  refine ef_makeM (n := N) (by omega) rfl ?_
  intro b h1 g1 o1 e1 l1
  simp
  refine ef_makeM (n := N) (by omega) rfl ?_
  intro c h2 g2 o2 e2 l2
  have x2 := e1.trans e2
  simp
  refine rreach_spec HH HR (re.ext x2) (rf.ext x2) (rs.ext x2) hE hS hf hN be bs ?_
  intro h3 d l e3 g3 hl o3 hreach
  have x3 := x2.trans e3
  simp
  refine ef_make64 (n := sf.n) (by omega) rfl ?_
  intro nb h4 g4 o4 e4 l4
  have x4 := x3.trans e4
  simp
  refine wp_loop' (RsI1 N nb fl se sf ss sd (.slice (some ⟨b, 0, none⟩) N N) (.slice (some ⟨c, 0, none⟩) N N) (.slice (some ⟨d, 0, none⟩) N N) h4) (fun e _ => fl.length - argI e 11) ⟨0, _, _, _, _, _, _, rfl, by omega, Mod.refl _, _, by simp; omega, o4, fun j hj => by omega⟩ ?_
  rintro e h5 ⟨i, v5, v6, v12, v13, v14, v15, rfl, hi, m5, nl, hnl, o5, hall⟩
  have z3 := x3.size
  have x5 : Ext h h5 := Mod.ext x4 m5 (fun j hj => by omega)
  by_cases k : i < fl.length
  · have k' : (i : Int) < sf.n := by omega
    have ks : i < sf.n := by omega
    have w1 : IntKind.i64.wrap ((i : Int) + 1) = (i : Int) + 1 := i64_wrap (by omega)
    have w2 : IntKind.i64.wrap (- nthI fl i) = - nthI fl i := i64_wrap (by have := hF i k; omega)
    have hiF : ∀ g, IOp.sem Y g (.idxa 1) [.slice (some ⟨nb, 0, none⟩) sf.n sf.n, .int .i64 i] = some (.pointer (some ⟨nb, i, none⟩)) := fun g => by
      have := sem_idxF (Y := Y) (h := g) (b := nb) (sz := 1) (show sf.n ≤ 9223372036854775807 by omega) ks (Nat.le_refl _)
      simpa using this
    simp [k', ks, sem_idxa rf.ok, (rf.ext x5).val i k, hiF, w2]
    refine stAt o5 (k := i) (by simp [hnl]; omega) ?_
    intro h6 o6 m6
    rw [ints64_set] at o6
    simp [w1]
    refine ⟨⟨i + 1, _, _, _, _, _, _, rfl, by omega, m5.trans m6, nl.set i (- nthI fl i), by simp [hnl], o6, fun j hj => by rw [nthI_set (by omega)]; by_cases q : j = i; (simp [q]); (rw [if_neg q]; exact hall j (by omega))⟩, by simp [argI]; omega⟩
  have k' : ¬ (i : Int) < sf.n := by omega
  have hnn : nl = negL fl := nthI_ext (by simp [negL, hnl]) (fun j hj => by rw [nthI_neg]; exact hall j (by omega))
  subst hnn
  simp [k']
  refine rreach_spec HH HR (sf := Sl.at nb sf.n sf.n) (re.ext x5) o5.row64 (rd'.ext x5) hE hD (by simp [negL, hf]) hN be bd ?_
  intro h6 f l2 e6 g6 hl2 o6 hreach2
  have x6 := x5.trans e6
  simp
  have z1 := e1.size
  have z2 := e2.size
  have z5 := m5.size
  have z4 := e4.size
  have z33 := e3.size
  have lo1 : Own h6 1 (Sl.at b N N) (boolsM (markL N [])) := by
    rw [markL_nil]
    exact (((((o1.ext' e2).ext' e3).ext' e4).mod m5 (fun _ => by simp; omega)).ext' e6)
  have lo2 : Own h6 1 (Sl.at c N N) (boolsM (markL N [])) := by
    rw [markL_nil]
    exact ((((o2.ext' e3).ext' e4).mod m5 (fun _ => by simp; omega)).ext' e6)
  have ld3 : d < h3.size := o3.lt rfl
  have lo3 : Own h6 1 (Sl.at d N N) (ints64 l) := (((o3.ext' e4).mod m5 (fun _ => by simp; omega)).ext' e6)
  refine wp_loop' (RsI2 N b c l l2 d f se sf ss sd h6) (fun e _ => N - argI e 13) ⟨0, _, _, _, _, _, _, rfl, by omega, Mod.refl _, _, _, markL_len, markL_len, lo1, lo2, fun j hj => by omega, fun j hj => by omega⟩ ?_
  rintro e h7 ⟨i, v5, v6, v10, v11, v14, v15, rfl, hi7, m7, m, w, hm, hw, om, ow, am, aw⟩
  have x7 : Ext h h7 := Mod.ext x6 m7 (fun j hj => by rcases hj with hj | hj <;> omega)
  have ld6 : f < h6.size := o6.lt rfl
  by_cases k : i < N
  · have k' : (i : Int) < N := by omega
    have w1 : IntKind.i64.wrap ((i : Int) + 1) = (i : Int) + 1 := i64_wrap (by omega)
    have hiF : ∀ (g : Heap) (z : Nat), IOp.sem Y g (.idxa 1) [.slice (some ⟨z, 0, none⟩) N N, .int .i64 i] = some (.pointer (some ⟨z, i, none⟩)) := fun g z => by
      have := sem_idxF (Y := Y) (h := g) (b := z) (sz := 1) (show N ≤ 9223372036854775807 by omega) k (Nat.le_refl N)
      simpa using this
    have ol7 : Own h7 1 (Sl.at d N N) (ints64 l) := lo3.mod m7 (fun _ => by simp; omega)
    have of7 : Own h7 1 (Sl.at f N N) (ints64 l2) := o6.mod m7 (fun _ => by simp; omega)
    have va := ol7.row64.val i (by omega)
    simp at va
    simp [k, k', hiF, va]
    refine stAt om (k := i) (by rw [boolsM_len]; omega) ?_
    intro h8 om8 m8
    rw [boolsM_set] at om8
    have ow8 := ow.mod m8 (fun _ => by simp; omega)
    have of8 := of7.mod m8 (fun _ => by simp; omega)
    have vb := of8.row64.val i (by omega)
    simp at vb
    simp [hiF, vb]
    refine stAt ow8 (k := i) (by rw [boolsM_len]; omega) ?_
    intro h9 ow9 m9
    rw [boolsM_set] at ow9
    have om9 := om8.mod m9 (fun _ => by simp; omega)
    simp [w1]
    refine ⟨⟨i + 1, _, _, _, _, _, _, rfl, by omega, (m7.trans (m8.mono fun _ _ hj => .inl hj)).trans (m9.mono fun _ _ hj => .inr hj), _, _, by simp [hm], by simp [hw], om9, ow9, fun j hj => by rw [nthM_set (by omega)]; by_cases q : j = i; (simp [q]); (rw [if_neg q]; exact am j (by omega)), fun j hj => by rw [nthM_set (by omega)]; by_cases q : j = i; (simp [q]); (rw [if_neg q]; exact aw j (by omega))⟩, by simp [argI]; omega⟩
  have k' : ¬ (i : Int) < N := by omega
  simp [k']
  refine hr h7 b c m w x7 (by omega) (by omega) hm hw om ow (fun v hv => ?_) (fun v hv => ?_)
  · rw [am v (by omega), ← hreach v hv]
    simp
  · have := hreach2 v hv
    rw [reach_neg] at this
    rw [aw v (by omega), ← this]
    simp
end
end Go.Rm

/- Flows: what goes out of each vertex, edge by edge. -/
set_option linter.unusedSimpArgs false
set_option linter.unusedVariables false
namespace Go.Rm
theorem netF_snoc {e : Ed} {v : Nat} : ∀ {L : List Ed}, netF (L ++ [e]) v = netF L v + ((if e.u = v then e.x else 0) - (if e.v = v then e.x else 0))
  | [] => by simp [netF]
  | a :: r => by simp only [List.cons_append, netF, netF_snoc]; omega
/-- the first i edges -/
def edT (es : List (Int × Int)) (fl : List Int) (i : Nat) : List Ed := (List.range i).map fun i => ⟨(nthE es i).1.toNat, (nthE es i).2.toNat, nthI fl i⟩
theorem edT_all {es : List (Int × Int)} {fl : List Int} : edT es fl es.length = edL es fl := rfl
theorem edT_succ {es : List (Int × Int)} {fl : List Int} {i : Nat} : edT es fl (i + 1) = edT es fl i ++ [⟨(nthE es i).1.toNat, (nthE es i).2.toNat, nthI fl i⟩] := by
  simp [edT, List.range_succ]
theorem netT_succ {es : List (Int × Int)} {fl : List Int} {i a b v : Nat} (he : nthE es i = ((a : Int), (b : Int))) : netF (edT es fl (i + 1)) v = netF (edT es fl i) v + ((if a = v then nthI fl i else 0) - (if b = v then nthI fl i else 0)) := by
  rw [edT_succ, netF_snoc, he]
  simp
/-- how far from nought it can be -/
theorem netT_bound {es : List (Int × Int)} {fl : List Int} {v : Nat} : ∀ {i : Nat}, (∀ j, j < i → -1 ≤ nthI fl j ∧ nthI fl j ≤ 1) → -(2 * i : Int) ≤ netF (edT es fl i) v ∧ netF (edT es fl i) v ≤ 2 * i
  | 0, _ => by simp [edT, netF]
  | i + 1, h => by
    have ih := netT_bound (es := es) (fl := fl) (v := v) (i := i) fun j hj => h j (by omega)
    have hi := h i (by omega)
    rw [edT_succ, netF_snoc]
    simp only
    split <;> split <;> omega
end Go.Rm
