import Derived.Test.YtgmbpmnbpakhbaaGreatDoorEngA
import Derived.Test.YtgmbpmnbpakhbaaGreatDoorRGate1
import Derived.Test.YtgmbpmnbpakhbaaGreatDoorRNet16
import Derived.Test.YtgmbpmnbpakhbaaGreatDoorSNums

/- Flows, in plain Lean: what goes through, what is reached, cuts. -/
set_option linter.unusedSimpArgs false
set_option linter.unusedVariables false
namespace Go.Rm

/-- an edge with what goes along it -/
structure Ed where
  u : Nat
  v : Nat
  x : Int
deriving DecidableEq

def bI (b : Bool) : Int := if b then 1 else 0
/-- how many more go out of a vertex than come -/
def netF : List Ed → Nat → Int
  | [], _ => 0
  | e :: r, w => (if e.u = w then e.x else 0) - (if e.v = w then e.x else 0) + netF r w
def sumV : Nat → (Nat → Int) → Int
  | 0, _ => 0
  | n + 1, g => sumV n g + g n
def outS (S : Nat → Bool) : List Ed → Int
  | [] => 0
  | e :: r => e.x * (bI (S e.u) - bI (S e.v)) + outS S r
def crossS (S : Nat → Bool) : List Ed → Int
  | [] => 0
  | e :: r => (if S e.u ≠ S e.v then 1 else 0) + crossS S r

theorem sumV_add {f g : Nat → Int} : ∀ {n : Nat}, sumV n (fun v => f v + g v) = sumV n f + sumV n g
  | 0 => rfl
  | n + 1 => by simp only [sumV]; rw [sumV_add]; omega
theorem sumV_zero {f : Nat → Int} : ∀ {n : Nat}, (∀ v, v < n → f v = 0) → sumV n f = 0
  | 0, _ => rfl
  | n + 1, h => by simp only [sumV]; rw [sumV_zero fun v hv => h v (by omega), h n (by omega)]; rfl
theorem sumV_congr {f g : Nat → Int} : ∀ {n : Nat}, (∀ v, v < n → f v = g v) → sumV n f = sumV n g
  | 0, _ => rfl
  | n + 1, h => by simp only [sumV]; rw [sumV_congr fun v hv => h v (by omega), h n (by omega)]
theorem sumV_one {x : Int} {a : Nat} : ∀ {n : Nat}, a < n → sumV n (fun v => if a = v then x else 0) = x
  | 0, h => by omega
  | n + 1, h => by
    simp only [sumV]
    by_cases e : a = n
    · subst e
      rw [sumV_zero fun v hv => by rw [if_neg (by omega)], if_pos rfl]; omega
    · rw [sumV_one (by omega), if_neg e]; omega
theorem sumV_net {S : Nat → Bool} {n : Nat} : ∀ {L : List Ed}, (∀ e ∈ L, e.u < n ∧ e.v < n) → sumV n (fun v => if S v then netF L v else 0) = outS S L
  | [], _ => sumV_zero fun v _ => by simp [netF]
  | e :: r, h => by
    have ih := sumV_net (S := S) (n := n) (L := r) fun x hx => h x (List.mem_cons_of_mem _ hx)
    obtain ⟨hu, hv⟩ := h e (List.mem_cons_self ..)
    have s1 := sumV_one (x := if S e.u then e.x else 0) hu
    have s2 := sumV_one (x := if S e.v then - e.x else 0) hv
    have : ∀ w, w < n → (if S w then netF (e :: r) w else 0) = ((if e.u = w then (if S e.u then e.x else 0) else 0) + (if e.v = w then (if S e.v then - e.x else 0) else 0)) + (if S w then netF r w else 0) := by
      intro w _
      simp only [netF]
      by_cases a : e.u = w <;> by_cases b : e.v = w <;> by_cases c : S w <;> simp_all <;> omega
    rw [sumV_congr this, sumV_add, sumV_add, s1, s2, ih]
    simp only [outS, bI]
    by_cases a : S e.u <;> by_cases b : S e.v <;> simp [a, b] <;> omega

/-- a flow: along each edge at most one goes, along one from a vertex to itself none -/
def FlowB (L : List Ed) : Prop := ∀ e ∈ L, -1 ≤ e.x ∧ e.x ≤ 1 ∧ (e.u = e.v → e.x = 0)
theorem outS_le {S : Nat → Bool} : ∀ {L : List Ed}, FlowB L → outS S L ≤ crossS S L
  | [], _ => Int.le_refl _
  | e :: r, h => by
    have ih := outS_le (S := S) (L := r) fun x hx => h x (List.mem_cons_of_mem _ hx)
    obtain ⟨a, b, _⟩ := h e (List.mem_cons_self ..)
    simp only [outS, crossS, bI]
    by_cases c : S e.u <;> by_cases d : S e.v <;> simp [c, d] <;> omega
/-- just as many go as cross: each edge that crosses is full -/
theorem outS_eq {S : Nat → Bool} : ∀ {L : List Ed}, FlowB L → (outS S L = crossS S L ↔ ∀ e ∈ L, (S e.u = true → S e.v = false → e.x = 1) ∧ (S e.u = false → S e.v = true → e.x = -1))
  | [], _ => by simp [outS, crossS]
  | e :: r, h => by
    have hr : FlowB r := fun x hx => h x (List.mem_cons_of_mem _ hx)
    have ih := outS_eq (S := S) hr
    have le := outS_le (S := S) hr
    obtain ⟨a, b, _⟩ := h e (List.mem_cons_self ..)
    simp only [outS, crossS, bI, List.forall_mem_cons]
    rw [← ih]
    by_cases c : S e.u <;> by_cases d : S e.v <;> simp [c, d] <;> omega

/-- room from one vertex to another one -/
def Room (L : List Ed) (a b : Nat) : Prop := a ≠ b ∧ ∃ e ∈ L, (e.u = a ∧ e.v = b ∧ e.x ≠ 1) ∨ (e.v = a ∧ e.u = b ∧ e.x ≠ -1)
inductive Reach (L : List Ed) (A : Nat → Prop) : Nat → Prop
  | start {v : Nat} : A v → Reach L A v
  | step {v w : Nat} : Reach L A v → Room L v w → Reach L A w
/-- from where one of some can be reached -/
inductive BReach (L : List Ed) (A : Nat → Prop) : Nat → Prop
  | start {v : Nat} : A v → BReach L A v
  | step {v w : Nat} : BReach L A w → Room L v w → BReach L A v
theorem reach_join {L : List Ed} {A B : Nat → Prop} {w : Nat} (b : BReach L B w) : Reach L A w → ∃ t, B t ∧ Reach L A t := by
  induction b with
  | start h => intro r; exact ⟨_, h, r⟩
  | step _ hr ih => intro r; exact ih (r.step hr)

/-- what Max tells -/
structure MaxOf (n : Nat) (L : List Ed) (A B : Nat → Prop) (val : Int) (near far : Nat → Bool) : Prop where
  ends : ∀ e ∈ L, e.u < n ∧ e.v < n
  flow : FlowB L
  src : ∀ v, A v → v < n
  dst : ∀ v, B v → v < n
  keep : ∀ v, v < n → ¬ A v → ¬ B v → netF L v = 0
  valI : ∀ S : Nat → Bool, (∀ v, v < n → (S v = true ↔ A v)) → val = sumV n fun v => if S v then netF L v else 0
  nearI : ∀ v, v < n → (near v = true ↔ Reach L A v)
  farI : ∀ v, v < n → (far v = true ↔ ¬ BReach L B v)
  apart : ∀ v, B v → near v = false

section
variable {n : Nat} {L : List Ed} {A B : Nat → Prop} {val : Int} {near far : Nat → Bool}

open Classical in
theorem MaxOf.out (m : MaxOf n L A B val near far) {S : Nat → Bool} (ha : ∀ v, A v → S v = true) (hb : ∀ v, B v → S v = false) : val = outS S L := by
  rw [← sumV_net m.ends, m.valI (fun v => decide (A v)) (fun v _ => by simp)]
  refine sumV_congr fun v hv => ?_
  by_cases a : A v
  · simp [a, ha v a]
  · by_cases s : S v = true
    · have b : ¬ B v := fun b => by rw [hb v b] at s; cases s
      simp [a, s, m.keep v hv a b]
    · simp [a, s]
theorem MaxOf.le (m : MaxOf n L A B val near far) {S : Nat → Bool} (ha : ∀ v, A v → S v = true) (hb : ∀ v, B v → S v = false) : val ≤ crossS S L := by
  rw [m.out ha hb]
  exact outS_le m.flow
theorem MaxOf.nearA (m : MaxOf n L A B val near far) : ∀ v, A v → near v = true := fun v a => (m.nearI v (m.src v a)).2 (.start a)
theorem MaxOf.farB (m : MaxOf n L A B val near far) : ∀ v, B v → far v = false := fun v b => by
  have := m.farI v (m.dst v b)
  cases h : far v with
  | false => rfl
  | true => exact absurd (.start b) (this.1 h)
theorem MaxOf.farA (m : MaxOf n L A B val near far) : ∀ v, A v → far v = true := fun v a => by
  refine (m.farI v (m.src v a)).2 fun b => ?_
  obtain ⟨t, ht, hr⟩ := reach_join b (.start a)
  have := m.apart t ht
  rw [(m.nearI t (m.dst t ht)).2 hr] at this
  cases this
/-- a cut that just as many leave -/
theorem MaxOf.full (m : MaxOf n L A B val near far) {S : Nat → Bool} (ha : ∀ v, A v → S v = true) (hb : ∀ v, B v → S v = false) :
    crossS S L = val ↔ ∀ v w, S v = true → S w = false → ¬ Room L v w := by
  rw [m.out ha hb, eq_comm, outS_eq m.flow]
  constructor
  · rintro h v w hv hw ⟨_, e, he, ⟨rfl, rfl, hx⟩ | ⟨rfl, rfl, hx⟩⟩
    · exact hx ((h e he).1 hv hw)
    · exact hx ((h e he).2 hw hv)
  · intro h e he
    have key : ∀ a b : Nat, S a = true → S b = false → a ≠ b := fun a b ha hb e => by rw [e, hb] at ha; cases ha
    constructor
    · intro hu hv
      exact Decidable.byContradiction fun hx => h _ _ hu hv ⟨key _ _ hu hv, e, he, .inl ⟨rfl, rfl, hx⟩⟩
    · intro hu hv
      exact Decidable.byContradiction fun hx => h _ _ hv hu ⟨key _ _ hv hu, e, he, .inr ⟨rfl, rfl, hx⟩⟩
theorem Room.lt (ends : ∀ e ∈ L, e.u < n ∧ e.v < n) {v w : Nat} (r : Room L v w) : v < n ∧ w < n := by
  obtain ⟨_, e, he, ⟨rfl, rfl, _⟩ | ⟨rfl, rfl, _⟩⟩ := r
  · exact ends e he
  · exact (ends e he).symm
theorem MaxOf.crossNear (m : MaxOf n L A B val near far) : crossS near L = val := by
  refine (m.full m.nearA m.apart).2 fun v w hv hw r => ?_
  have := r.lt m.ends
  rw [(m.nearI w this.2).2 (((m.nearI v this.1).1 hv).step r)] at hw
  cases hw
theorem MaxOf.crossFar (m : MaxOf n L A B val near far) : crossS far L = val := by
  refine (m.full m.farA m.farB).2 fun v w hv hw r => ?_
  have := r.lt m.ends
  have hn : ¬ ¬ BReach L B w := fun h => by rw [(m.farI w this.2).2 h] at hw; cases hw
  exact hn fun h => (m.farI v this.1).1 hv (h.step r)
/-- of all least cuts Near is the least, Far the greatest -/
theorem MaxOf.between (m : MaxOf n L A B val near far) {S : Nat → Bool} (ha : ∀ v, A v → S v = true) (hb : ∀ v, B v → S v = false) (hc : crossS S L = val) :
    ∀ v, v < n → (near v = true → S v = true) ∧ (S v = true → far v = true) := by
  have h := (m.full ha hb).1 hc
  have r1 : ∀ v, Reach L A v → S v = true := by
    intro v r
    induction r with
    | start a => exact ha _ a
    | step _ hr ih =>
      rename_i v w _
      cases hs : S w with
      | true => rfl
      | false => exact absurd hr (h _ _ ih hs)
  have r2 : ∀ v, BReach L B v → S v = false := by
    intro v r
    induction r with
    | start b => exact hb _ b
    | step _ hr ih =>
      rename_i v w _
      cases hs : S v with
      | false => rfl
      | true => exact absurd hr (h _ _ hs ih)
  intro v hv
  refine ⟨fun hn => r1 v ((m.nearI v hv).1 hn), fun hs => (m.farI v hv).2 fun b => ?_⟩
  rw [r2 v b] at hs
  cases hs
end
end Go.Rm

/- Flows, in plain Lean: two flows side by side. -/
set_option linter.unusedSimpArgs false
set_option linter.unusedVariables false
namespace Go.Rm
section
variable {n : Nat} {L L' : List Ed} {A B : Nat → Prop} {val val' : Int} {near far near' far' : Nat → Bool}

theorem MaxOf.same (m : MaxOf n L A B val near far) (m' : MaxOf n L' A B val' near' far') (hc : ∀ S, crossS S L = crossS S L') :
    val = val' ∧ ∀ v, v < n → near v = near' v ∧ far v = far' v := by
  have h1 := m.le m'.nearA m'.apart
  have h2 := m'.le m.nearA m.apart
  rw [hc, m'.crossNear] at h1
  rw [← hc, m.crossNear] at h2
  have e : val = val' := by omega
  refine ⟨e, fun v hv => ?_⟩
  have a1 := (m.between m'.nearA m'.apart (by rw [hc, m'.crossNear, e]) v hv).1
  have a2 := (m'.between m.nearA m.apart (by rw [← hc, m.crossNear, e]) v hv).1
  have b1 := (m.between m'.farA m'.farB (by rw [hc, m'.crossFar, e]) v hv).2
  have b2 := (m'.between m.farA m.farB (by rw [← hc, m.crossFar, e]) v hv).2
  constructor
  · cases x : near v <;> cases y : near' v <;> simp_all
  · cases x : far v <;> cases y : far' v <;> simp_all
end
end Go.Rm

/- Flows: rows of edges and of marks in memory; the checks. -/
set_option linter.unusedSimpArgs false
set_option linter.unusedVariables false
namespace Go.Rm

def nthE (l : List (Int × Int)) (i : Nat) : Int × Int := l.getD i (0, 0)
def nthM (l : List Bool) (i : Nat) : Bool := l.getD i false
structure RowE (h : Heap) (s : Sl) (l : List (Int × Int)) : Prop where
  ok : s.ok
  len : l.length = s.n
  v0 : ∀ i, i < l.length → hc h s.b (s.o + i * 2) = some (.int .i64 (nthE l i).1)
  v1 : ∀ i, i < l.length → hc h s.b (s.o + i * 2 + 1) = some (.int .i64 (nthE l i).2)
structure RowM (h : Heap) (s : Sl) (l : List Bool) : Prop where
  ok : s.ok
  len : l.length = s.n
  val : ∀ i, i < l.length → hc h s.b (s.o + i) = some (.bool (nthM l i))
theorem RowE.ext {h h' : Heap} {s : Sl} {l : List (Int × Int)} (r : RowE h s l) (e : Ext h h') : RowE h' s l :=
  ⟨r.ok, r.len, fun i hi => e.hc (r.v0 i hi) (fun h => h), fun i hi => e.hc (r.v1 i hi) (fun h => h)⟩
theorem RowM.ext {h h' : Heap} {s : Sl} {l : List Bool} (r : RowM h s l) (e : Ext h h') : RowM h' s l :=
  ⟨r.ok, r.len, fun i hi => e.hc (r.val i hi) (fun h => h)⟩
theorem RowE.rd {h : Heap} {s : Sl} {l : List (Int × Int)} (r : RowE h s l) {i : Nat} (hi : i < l.length) : rd h s.b (s.o + i * 2) 2 = some [.int .i64 (nthE l i).1, .int .i64 (nthE l i).2] := by
  refine rd_of (l := [.int .i64 (nthE l i).1, .int .i64 (nthE l i).2]) fun j v hj => ?_
  match j with
  | 0 => simp at hj; subst hj; exact r.v0 i hi
  | 1 => simp at hj; subst hj; exact r.v1 i hi
  | j + 2 => simp at hj

section
variable {Y : Sys} {h h' : Heap}

@[simp] theorem sem_idxA20 {b o : Nat} : IOp.sem Y h (.idxA 2 1) [.pointer (some ⟨b, o, none⟩), .int .i64 0] = some (.pointer (some ⟨b, o, none⟩)) := by
  rw [sem_idxA' (by omega) (by omega)]; rfl
@[simp] theorem sem_idxA21 {b o : Nat} : IOp.sem Y h (.idxA 2 1) [.pointer (some ⟨b, o, none⟩), .int .i64 1] = some (.pointer (some ⟨b, o + 1, none⟩)) := by
  rw [sem_idxA' (by omega) (by omega)]; rfl
theorem ef_makeM {K : Value → Heap → Prop} {n : Nat} {m : Int} (hn : n ≤ 1000000) (hm : m = n) (hr : ∀ (b : Nat) (h' : Heap), h.size ≤ b → Own h' 1 (Sl.at b n n) (List.replicate n (.bool false)) → Ext h h' → b < h'.size → K (.slice (some ⟨b, 0, none⟩) n n) h') :
    Ef.wp h K (.mkslice 1 1 #[.bool false]) [.int .i64 m, .int .i64 m] := by
  subst hm
  rw [ef_mkslice]
  refine ⟨by omega, by omega, by omega, by omega, fun t => ?_⟩
  simp only [Int.toNat_natCast, Nat.mul_one, zeros_one]
  refine hr h.size _ (Nat.le_refl _) ⟨by simp, .inr ⟨rfl, rfl, rfl, Nat.le_refl _, by simp; omega, _, Blk.new, by simp, by simp⟩⟩ Mod.push (by simp)

theorem stAt {K : Value → Heap → Prop} {b n m k : Nat} {cells : List Value} {v : Value} (o : Own h 1 (Sl.at b n m) cells) (hk : k < cells.length)
    (hr : ∀ h', Own h' 1 (Sl.at b n m) (cells.set k v) → Mod (fun j => j = b) h h' → K undef h') : StoreP h b k v K := by
  have := stN (v := v) (K := K) o hk hr
  simpa using this
theorem sem_idxF {b n m v sz : Nat} (hn : m ≤ 9223372036854775807) (hv : v < n) (hm : n ≤ m) : IOp.sem Y h (.idxa sz) [.slice (some ⟨b, 0, none⟩) n m, .int .i64 v] = some (.pointer (some ⟨b, v * sz, none⟩)) := by
  have := sem_idxa (Y := Y) (h := h) (s := Sl.at b n m) (sz := sz) (k := .i64) (i := v) ⟨fun h => (by cases h), (by simp; omega), .inl rfl⟩ (by omega) (by simp; omega)
  simpa using this
def boolsM (l : List Bool) : List Value := l.map fun x => Value.bool x
theorem boolsM_len {l : List Bool} : (boolsM l).length = l.length := by simp [boolsM]
end
end Go.Rm
