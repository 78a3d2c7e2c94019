import Derived.Test.YtmamhkolgnoefaaDoorRFlow8

/- Flows, in plain Lean: ways that are pushed, vertices that are done with. -/
set_option linter.unusedSimpArgs false
set_option linter.unusedVariables false
namespace Go.Rm
abbrev lkF (es : List (Int × Int)) (v : Nat) : List Lk := lkT es es.length v
/-- an edge with room that leads one farther -/
def Use (es : List (Int × Int)) (fl dl : List Int) (v i : Nat) : Prop := nthI fl (nthK (lkF es v) i).e ≠ (nthK (lkF es v) i).w ∧ nthI dl (nthK (lkF es v) i).t = nthI dl v + 1
inductive Path (es : List (Int × Int)) (fl dl nx : List Int) (s : Nat) : List Lk → Nat → Prop
  | nil : Path es fl dl nx s [] s
  | snoc {row : List Lk} {u k : Nat} : Path es fl dl nx s row u → nthI nx u = (k : Int) → k < (lkF es u).length → Use es fl dl u k → Path es fl dl nx s (row ++ [nthK (lkF es u) k]) (nthK (lkF es u) k).t
def pushL (row : List Lk) (fl : List Int) : List Int := row.foldl (fun f l => f.set l.e (nthI f l.e + l.w)) fl
theorem pushL_snoc {row : List Lk} {l : Lk} {fl : List Int} : pushL (row ++ [l]) fl = (pushL row fl).set l.e (nthI (pushL row fl) l.e + l.w) := by simp [pushL, List.foldl_append]
theorem netT_set {es : List (Int × Int)} {fl : List Int} {e a b v : Nat} {y : Int} (he : nthE es e = ((a : Int), (b : Int))) (hl : e < fl.length) : ∀ {i : Nat},
    netF (edT es (fl.set e y) i) v = netF (edT es fl i) v + if e < i then (if a = v then y - nthI fl e else 0) - (if b = v then y - nthI fl e else 0) else 0
  | 0 => by simp [edT, netF]
  | i + 1 => by
    have ih := netT_set (v := v) (y := y) he hl (i := i)
    rw [edT_succ, edT_succ, netF_snoc, netF_snoc, ih, nthI_set hl]
    simp only
    by_cases c : i = e
    · subst c
      rw [he]
      simp
      split <;> split <;> omega
    · by_cases d : e < i
      · have d' : e < i + 1 := by omega
        simp only [c, d, d', if_true, if_false]
        omega
      · have d' : ¬ e < i + 1 := by omega
        simp only [c, d, d', if_false]
        omega
theorem net_set {es : List (Int × Int)} {fl : List Int} {e a b v : Nat} {y : Int} (he : nthE es e = ((a : Int), (b : Int))) (hl : e < fl.length) (hf : fl.length = es.length) :
    netF (edL es (fl.set e y)) v = netF (edL es fl) v + ((if a = v then y - nthI fl e else 0) - (if b = v then y - nthI fl e else 0)) := by
  rw [← edT_all, ← edT_all, netT_set he hl, if_pos (by omega)]
section
variable {N : Nat} {es : List (Int × Int)} {fl dl nx src dst : List Int} {en : List Bool} {s v : Nat} {row : List Lk}
theorem Path.inv (p : Path es fl dl nx s row v) : (row = [] ∧ v = s) ∨ ∃ row' u k, row = row' ++ [nthK (lkF es u) k] ∧ v = (nthK (lkF es u) k).t ∧ Path es fl dl nx s row' u ∧ nthI nx u = (k : Int) ∧ k < (lkF es u).length ∧ Use es fl dl u k := by
  cases p with
  | nil => exact .inl ⟨rfl, rfl⟩
  | snoc p a b c => exact .inr ⟨_, _, _, rfl, rfl, p, a, b, c⟩
theorem Path.lt (hE : EsIn N es) (hs : s < N) (p : Path es fl dl nx s row v) : v < N := by
  cases p with
  | nil => exact hs
  | snoc p a b c => exact (lk_ok hE (nthK_mem b)).t
theorem Path.dep (p : Path es fl dl nx s row v) : nthI dl v = nthI dl s + row.length := by
  induction p with
  | nil => simp
  | snoc p a b c ih => rw [c.2, ih]; simp; omega
theorem Path.set {x : Nat} {k : Int} (hx : x < nx.length) (p : Path es fl dl nx s row v) : nthI dl v ≤ nthI dl x → Path es fl dl (nx.set x k) s row v := by
  induction p with
  | nil => intro _; exact .nil
  | snoc p a b c ih =>
    rename_i row u k'
    intro h
    have h2 := c.2
    have hne : u ≠ x := fun e => by subst e; omega
    exact .snoc (ih (by omega)) (by rw [nthI_set hx, if_neg hne]; exact a) b c
theorem Path.links (hE : EsIn N es) (p : Path es fl dl nx s row v) : ∀ l ∈ row, LkOK N es l.f l ∧ nthI dl l.t = nthI dl l.f + 1 ∧ nthI dl l.t ≤ nthI dl v := by
  induction p with
  | nil => intro l h; simp at h
  | snoc p a b c ih =>
    rename_i row u k
    intro l hl
    have h2 := c.2
    have ok := lk_ok hE (nthK_mem b)
    rcases List.mem_append.1 hl with h | h
    · obtain ⟨i1, i2, i3⟩ := ih l h
      exact ⟨i1, i2, by omega⟩
    · simp at h
      subst h
      rw [ok.f]
      exact ⟨ok, h2, Int.le_refl _⟩
theorem Path.push (hE : EsIn N es) (ok : okFl es fl) (p : Path es fl dl nx s row v) :
    okFl es (pushL row fl) ∧ (∀ x, netF (edL es (pushL row fl)) x = netF (edL es fl) x + ((if s = x then 1 else 0) - (if v = x then 1 else 0))) ∧ (∀ e, (∀ l ∈ row, l.e ≠ e) → nthI (pushL row fl) e = nthI fl e) := by
  induction p with
  | nil => exact ⟨ok, fun x => by simp [pushL], fun _ _ => rfl⟩
  | snoc p a b c ih =>
    rename_i row u k
    obtain ⟨i1, i2, i3⟩ := ih
    have lk := lk_ok hE (nthK_mem b)
    obtain ⟨l, hl⟩ : ∃ l, nthK (lkF es u) k = l := ⟨_, rfl⟩
    obtain ⟨c1, c2⟩ := c
    simp only [lkF] at hl c1 c2 ⊢
    rw [hl] at lk c1 c2 ⊢
    have nu : ∀ m ∈ row, m.e ≠ l.e := fun m hm he => by
      obtain ⟨m1, m2, m3⟩ := p.links hE m hm
      have w1 := m1.way
      have w2 := lk.way
      rw [he] at w1
      have q1 : (m.f = u ∧ m.t = l.t) ∨ (m.f = l.t ∧ m.t = u) := by
        rcases w1 with ⟨_, w1⟩ | ⟨_, w1⟩ <;> rcases w2 with ⟨_, w2⟩ | ⟨_, w2⟩ <;> rw [w1] at w2 <;> simp at w2 <;> omega
      rcases q1 with ⟨q1, q2⟩ | ⟨q1, q2⟩
      · rw [q2] at m3; omega
      · rw [q1, q2] at m2; omega
    have hx := i3 l.e nu
    have hlen : (pushL row fl).length = es.length := i1.1
    have hb := okE_bound (ok.2 l.e lk.e)
    have hle : l.e < (pushL row fl).length := by rw [hlen]; exact lk.e
    have hw : l.w = 1 ∨ l.w = -1 := by rcases lk.way with ⟨a, _⟩ | ⟨a, _⟩ <;> simp [a]
    rw [pushL_snoc, hx]
    refine ⟨⟨by simp [hlen], fun i hi => ?_⟩, fun x => ?_, fun e he => ?_⟩
    · rw [nthI_set hle]
      split
      · rename_i e
        subst e
        have hne : ¬ (nthE es l.e).1 = (nthE es l.e).2 := by
          have := lk.ne
          rcases lk.way with ⟨_, w⟩ | ⟨_, w⟩ <;> rw [w] <;> simp <;> omega
        simp [okE, hne]
        omega
      · exact i1.2 i hi
    · rcases lk.way with ⟨w1, w2⟩ | ⟨w1, w2⟩
      · rw [net_set w2 hle hlen, i2, hx, w1]
        have e1 : nthI fl l.e + 1 - nthI fl l.e = 1 := by omega
        rw [e1]
        split <;> split <;> split <;> omega
      · rw [net_set w2 hle hlen, i2, hx, w1]
        have e1 : nthI fl l.e + -1 - nthI fl l.e = -1 := by omega
        rw [e1]
        split <;> split <;> split <;> omega
    · rw [nthI_set hle, if_neg (fun h => he l (by simp) h.symm)]
      exact i3 e fun m hm => he m (by simp [hm])
/-- what is left to be tried -/
def remN (es : List (Int × Int)) (nx : List Int) : Nat → Nat
  | 0 => 0
  | n + 1 => remN es nx n + ((lkF es n).length - (nthI nx n).toNat)
theorem remN_set {x : Nat} {k : Int} (hx : x < nx.length) (hk : nthI nx x ≤ k) : ∀ {n : Nat}, remN es (nx.set x k) n ≤ remN es nx n
  | 0 => Nat.le_refl _
  | n + 1 => by
    have ih := remN_set hx hk (n := n)
    simp only [remN]
    rw [nthI_set hx]
    split
    · rename_i e; subst e; omega
    · omega
theorem remN_less {x : Nat} {k : Int} (hx : x < nx.length) (h0 : 0 ≤ nthI nx x) (hk : nthI nx x < k) (hl : k ≤ (lkF es x).length) : ∀ {n : Nat}, x < n → remN es (nx.set x k) n < remN es nx n
  | 0, h => by omega
  | n + 1, h => by
    have ih := remN_set (es := es) hx (Int.le_of_lt hk) (n := n)
    simp only [remN]
    rw [nthI_set hx]
    by_cases e : n = x
    · subst e
      rw [if_pos rfl]
      omega
    · have := remN_less hx h0 hk hl (n := n) (by omega)
      rw [if_neg e]
      omega
structure NxOK (N : Nat) (es : List (Int × Int)) (nx : List Int) : Prop where
  len : nx.length = N
  val : ∀ v, v < N → ∃ k : Nat, nthI nx v = k ∧ k ≤ (lkF es v).length
theorem NxOK.set (o : NxOK N es nx) {x k : Nat} (hx : x < N) (hk : k ≤ (lkF es x).length) : NxOK N es (nx.set x k) :=
  ⟨by simp [o.len], fun v hv => by
    rw [nthI_set (by rw [o.len]; exact hx)]
    split
    · rename_i e; subst e; exact ⟨k, rfl, hk⟩
    · exact o.val v hv⟩
/-- a vertex that is done with -/
def DeadV (es : List (Int × Int)) (en : List Bool) (nx : List Int) (u : Nat) : Prop := nthI nx u = (lkF es u).length ∧ nthM en u = false
/-- what was tried leads to vertices that are done with -/
def DeadI (N : Nat) (es : List (Int × Int)) (fl dl : List Int) (en : List Bool) (nx : List Int) : Prop :=
  ∀ v, v < N → ∀ i : Nat, (i : Int) < nthI nx v → i < (lkF es v).length → Use es fl dl v i → DeadV es en nx (nthK (lkF es v) i).t
/-- one that is done with stays so -/
theorem DeadV.mono {nx' : List Int} {u : Nat} (d : DeadV es en nx u) (o : NxOK N es nx') (hu : u < N) (h : nthI nx u ≤ nthI nx' u) : DeadV es en nx' u := by
  obtain ⟨k, h1, h2⟩ := o.val u hu
  obtain ⟨d1, d2⟩ := d
  exact ⟨by omega, d2⟩
/-- the next one that is to be tried is farther on: all between are of no use, or lead to what is done with -/
theorem DeadI.set (hE : EsIn N es) (o : NxOK N es nx) (d : DeadI N es fl dl en nx) {x k : Nat} (hx : x < N) (hk : k ≤ (lkF es x).length) (hge : nthI nx x ≤ k)
    (hu : ∀ i : Nat, nthI nx x ≤ i → i < k → Use es fl dl x i → DeadV es en (nx.set x k) (nthK (lkF es x) i).t) : DeadI N es fl dl en (nx.set x k) := by
  have hxl : x < nx.length := by rw [o.len]; exact hx
  intro v hv i hi hil hus
  rw [nthI_set hxl] at hi
  have o' := o.set hx hk
  have mono : ∀ u, u < N → nthI nx u ≤ nthI (nx.set x k) u := fun u hu => by
    rw [nthI_set hxl]; split
    · rename_i e; subst e; exact hge
    · exact Int.le_refl _
  by_cases e : v = x
  · subst e
    rw [if_pos rfl] at hi
    by_cases h : (i : Int) < nthI nx v
    · have t := (lk_ok hE (nthK_mem hil)).t
      exact (d v hv i h hil hus).mono o' t (mono _ t)
    · exact hu i (by omega) (by omega) hus
  · rw [if_neg e] at hi
    have t := (lk_ok hE (nthK_mem hil)).t
    exact (d v hv i hi hil hus).mono o' t (mono _ t)
/-- where all beginnings are done with, no end is reached -/
theorem dead_none (hE : EsIn N es) (d : DeadI N es fl dl en nx) (dk : DepthOK N (edL es fl) (inSetN src) dl) (hs : ∀ s, inSetN src s → DeadV es en nx s) : ∀ v, v < N → Reach (edL es fl) (inSetN src) v → nthM en v = false := by
  have key : ∀ n v : Nat, v < N → nthI dl v = (n : Int) → DeadV es en nx v := by
    intro n
    induction n using Nat.strongRecOn with
    | _ n ih =>
      intro v hv hn
      rcases dk.up v hv (by omega) with h | ⟨u, hu, h0, hr, h1⟩
      · exact hs v h
      · have du := ih (nthI dl u).toNat (by omega) u hu (by omega)
        obtain ⟨k, hk, ht, hw⟩ := (room_lk hE).1 hr
        obtain ⟨i, hi, rfl⟩ := mem_nthK hk
        have := d u hu i (by rw [du.1]; simp only [lkF]; omega) hi ⟨hw, by simp only [lkF]; rw [ht, h1]⟩
        simp only [lkF] at this
        rw [ht] at this
        exact this
  intro v hv r
  have h0 := (dk.reach v hv).2 r
  exact (key (nthI dl v).toNat v hv (by omega)).2
/-- one more from s to t -/
theorem rest_push (hr : RestZ N es fl src dst) {fl' : List Int} {t : Nat} (hs : inSetN src s) (ht : inSetN dst t) (h : ∀ x, netF (edL es fl') x = netF (edL es fl) x + ((if s = x then 1 else 0) - (if t = x then 1 else 0))) : RestZ N es fl' src dst := by
  intro v hv h1 h2
  have e1 : s ≠ v := fun e => h1 (e ▸ hs)
  have e2 : t ≠ v := fun e => h2 (e ▸ ht)
  rw [h, if_neg e1, if_neg e2, hr v hv h1 h2]
  rfl
theorem val_push {fl' : List Int} {t : Nat} (hs : inSetN src s) (lt : s < N) (ht : ¬ inSetN src t) (h : ∀ x, netF (edL es fl') x = netF (edL es fl) x + ((if s = x then 1 else 0) - (if t = x then 1 else 0))) : valV N es fl' src = valV N es fl src + 1 := by
  have s1 := sumV_one (x := 1) lt
  unfold valV
  rw [← s1, ← sumV_add]
  refine sumV_congr fun v hv => ?_
  rw [h]
  by_cases c : (v : Int) ∈ src
  · have : t ≠ v := fun e => ht (by subst e; exact c)
    simp only [c, if_true, if_neg this]
    omega
  · have : s ≠ v := fun e => c (by subst e; exact hs)
    simp only [c, if_false, if_neg this]
    omega
theorem crossS_len {S : Nat → Bool} : ∀ {L : List Ed}, crossS S L ≤ L.length
  | [] => by simp [crossS]
  | e :: r => by
    have := crossS_len (S := S) (L := r)
    simp only [crossS, List.length_cons]
    split <;> omega
open Classical in
theorem val_le (hE : EsIn N es) (ok : okFl es fl) : valV N es fl src ≤ es.length := by
  have h1 := sumV_net (S := fun v => decide ((v : Int) ∈ src)) (n := N) (edL_ends (fl := fl) hE)
  have h2 := outS_le (S := fun v => decide ((v : Int) ∈ src)) (edL_flow hE ok)
  have h3 := crossS_len (S := fun v => decide ((v : Int) ∈ src)) (L := edL es fl)
  have : valV N es fl src = outS (fun v => decide ((v : Int) ∈ src)) (edL es fl) := by
    rw [← h1]
    unfold valV
    refine sumV_congr fun v hv => ?_
    simp
  rw [this]
  simp only [edL, List.length_map, List.length_range] at h3
  simp only [edL] at h2 ⊢
  omega
end
end Go.Rm

/- Flows: the flow that grows, in memory; advance. -/
set_option linter.unusedSimpArgs false
set_option linter.unusedVariables false
namespace Go.Rm
/-- where the parts of a flow that grows lie -/
structure Wk where
  p : Nat
  ab : Nat
  fb : Nat
  eb : Nat
  db : Nat
  nb : Nat
  lo : Nat
  hi : Nat
  N : Nat
structure WkOK (w : Wk) (es : List (Int × Int)) : Prop where
  pf : w.p ≠ w.fb
  pn : w.p ≠ w.nb
  pe : w.p ≠ w.eb
  fe : w.fb ≠ w.eb
  fd : w.fb ≠ w.db
  fn : w.fb ≠ w.nb
  ne : w.nb ≠ w.eb
  nd : w.nb ≠ w.db
  lp : ¬ (w.lo ≤ w.p ∧ w.p < w.hi)
  lf : ¬ (w.lo ≤ w.fb ∧ w.fb < w.hi)
  ln : ¬ (w.lo ≤ w.nb ∧ w.nb < w.hi)
  N : w.N ≤ 4096
  E : es.length ≤ 16384
  ends : EsIn w.N es
structure WorkH (h : Heap) (w : Wk) (es : List (Int × Int)) (fl : List Int) (en : List Bool) (dl nx : List Int) : Prop where
  W : Blk h w.p #[.slice (some ⟨w.ab, 0, none⟩) w.N w.N, .slice (some ⟨w.fb, 0, none⟩) es.length es.length, .slice (some ⟨w.eb, 0, none⟩) w.N w.N, .slice (some ⟨w.db, 0, none⟩) w.N w.N, .slice (some ⟨w.nb, 0, none⟩) w.N w.N]
  lk : LinksK w.lo w.hi h (Sl.at w.ab w.N w.N) w.N es
  fl : Own h 1 (Sl.at w.fb es.length es.length) (ints64 fl)
  en : Own h 1 (Sl.at w.eb w.N w.N) (boolsM en)
  dl : Own h 1 (Sl.at w.db w.N w.N) (ints64 dl)
  nx : Own h 1 (Sl.at w.nb w.N w.N) (ints64 nx)
section
variable {Y : Sys} {h h' : Heap} {w : Wk} {es : List (Int × Int)} {fl dl nx : List Int} {en : List Bool}
theorem WorkH.ext (k : WorkH h w es fl en dl nx) (e : Ext h h') : WorkH h' w es fl en dl nx :=
  ⟨k.W.ext e, k.lk.mod e (fun _ _ _ h => h), k.fl.ext' e, k.en.ext' e, k.dl.ext' e, k.nx.ext' e⟩
theorem WorkH.setN {nx' : List Int} (o : WkOK w es) (k : WorkH h w es fl en dl nx) (m : Mod (fun j => j = w.nb) h h') (n : Own h' 1 (Sl.at w.nb w.N w.N) (ints64 nx')) : WorkH h' w es fl en dl nx' :=
  ⟨m.blk k.W o.pn, k.lk.mod m (fun j h1 h2 e => by subst e; exact o.ln ⟨h1, h2⟩), k.fl.mod m (fun _ => o.fn), k.en.mod m (fun _ e => o.ne e.symm), k.dl.mod m (fun _ e => o.nd e.symm), n⟩
theorem WorkH.setF {fl' : List Int} (o : WkOK w es) (k : WorkH h w es fl en dl nx) (m : Mod (fun j => j = w.fb) h h') (n : Own h' 1 (Sl.at w.fb es.length es.length) (ints64 fl')) : WorkH h' w es fl' en dl nx :=
  ⟨m.blk k.W o.pf, k.lk.mod m (fun j h1 h2 e => by subst e; exact o.lf ⟨h1, h2⟩), n, k.en.mod m (fun _ e => o.fe e.symm), k.dl.mod m (fun _ e => o.fd e.symm), k.nx.mod m (fun _ e => o.fn e.symm)⟩
theorem WorkH.flen (k : WorkH h w es fl en dl nx) : fl.length = es.length := by have := k.fl.1; simpa using this
theorem WorkH.elen (k : WorkH h w es fl en dl nx) : en.length = w.N := by have := k.en.1; simpa [boolsM] using this
theorem WorkH.dlen (k : WorkH h w es fl en dl nx) : dl.length = w.N := by have := k.dl.1; simpa using this
theorem WorkH.nlen (k : WorkH h w es fl en dl nx) : nx.length = w.N := by have := k.nx.1; simpa using this

def FaI (w : Wk) (Z v old : Nat) (es : List (Int × Int)) (fl : List Int) (en : List Bool) (dl nx : List Int) (h0 : Heap) (m : Nat) (e : List Value) (h' : Heap) : Prop :=
  ∃ (i : Nat) (v4 v5 v6 : Value), e = [.pointer (some ⟨w.p, 0, none⟩), .int .i64 v, .pointer (some ⟨Z, 0, none⟩), .bool false, v4, v5, v6] ∧ old ≤ i ∧ i ≤ (lkF es v).length ∧ Mod (fun j => j = w.nb) h0 h' ∧ WorkH h' w es fl en dl (nx.set v i) ∧
    (∀ j : Nat, old ≤ j → j < i → ¬ Use es fl dl v j) ∧ m = (lkF es v).length - i
theorem advance_spec (H : Y.Has F.flow_work_advance S_flow_work_advance) (ok : WkOK w es) (k : WorkH h w es fl en dl nx) (o : NxOK w.N es nx) {v : Nat} (hv : v < w.N) (hd : ∀ u, u < w.N → -1 ≤ nthI dl u ∧ nthI dl u ≤ w.N)
    {R : Value → Heap → Prop}
    (hr0 : ∀ h', Mod (fun j => j = w.nb) h h' → WorkH h' w es fl en dl (nx.set v (lkF es v).length) → (∀ j : Nat, nthI nx v ≤ j → j < (lkF es v).length → ¬ Use es fl dl v j) → R (.tuple #[.agg #[.int .i64 0, .int .i64 0, .int .i64 0, .int .i64 0], .bool false]) h')
    (hr1 : ∀ h' (i : Nat), Mod (fun j => j = w.nb) h h' → nthI nx v ≤ i → i < (lkF es v).length → WorkH h' w es fl en dl (nx.set v i) → Use es fl dl v i → (∀ j : Nat, nthI nx v ≤ j → j < i → ¬ Use es fl dl v j) → R (.tuple #[.agg (nthK (lkF es v) i).cells.toArray, .bool true]) h') :
    CallP Y F.flow_work_advance [.pointer (some ⟨w.p, 0, none⟩), .int .i64 v] h R := by
  have oN := ok.N
  have oE := ok.E
  have nl := k.nlen
  obtain ⟨old, hold, hle⟩ := o.val v hv
  rw [hold] at hr0 hr1
  refine .of_has H rfl ?_
  simp [S_flow_work_advance, FnS.wp]
  refine ef_new_box ?_
  intro Z h1 g1 Z1 e1
  simp
  have hset : nx.set v (old : Int) = nx := by
    apply List.ext_getElem
    · simp
    · intro j a1 a2
      rw [List.getElem_set]
      split
      · rename_i e; subst e; rw [← hold, nthI_at a2]
      · rfl
  refine wp_loopM (FaI w Z v old es fl en dl nx h1) _ ⟨old, _, _, _, rfl, Nat.le_refl _, hle, Mod.refl _, by rw [hset]; exact k.ext e1, fun j h1 h2 => by omega, rfl⟩ ?_
  rintro m e h2 ⟨i, v4, v5, v6, rfl, gi, li, m2, k2, hus, rfl⟩
  have z1 := e1.size
  have z2 := m2.size
  have lnb : w.nb < h.size := (k.nx.lt rfl)
  have Z2 : Blk h2 Z _ := m2.blk Z1 (by omega)
  have mm2 : Mod (fun j => j = w.nb) h h2 := (e1.mono fun _ _ h => h.elim).trans m2
  have ll : (lkF es v).length ≤ es.length := lkT_len
  have hiF : ∀ g z (x : Nat), x < w.N → IOp.sem Y g (.idxa 1) [.slice (some ⟨z, 0, none⟩) w.N w.N, .int .i64 x] = some (.pointer (some ⟨z, x, none⟩)) := fun g z x lx => by
    have := sem_idxF (Y := Y) (h := g) (b := z) (sz := 1) (show w.N ≤ 9223372036854775807 by omega) lx (Nat.le_refl w.N)
    simpa using this
  have hiE : ∀ g z (x : Nat), x < es.length → IOp.sem Y g (.idxa 1) [.slice (some ⟨z, 0, none⟩) es.length es.length, .int .i64 x] = some (.pointer (some ⟨z, x, none⟩)) := fun g z x lx => by
    have := sem_idxF (Y := Y) (h := g) (b := z) (sz := 1) (show es.length ≤ 9223372036854775807 by omega) lx (Nat.le_refl es.length)
    simpa using this
  obtain ⟨u, hu, ru⟩ := k2.lk.here.val v hv
  simp at hu
  have ul : (lkF es v).length = u.n := ru.len
  have hn := k2.nx.row64.val v (by simp; omega)
  rw [nthI_set (by omega), if_pos rfl] at hn
  simp at hn
  by_cases c : i < (lkF es v).length
  rotate_left
  · have c1 : ¬ (i : Int) < u.n := by omega
    have hi : i = (lkF es v).length := by omega
    simp [k2.W.hc, hiF _ _ _ hv, hn, hu, c1]
    refine ef_store_box Z2 rfl rfl (by simp) ?_
    intro h3 Z3 m3
    simp
    refine resP_xn rfl Z3 rfl ?_
    have e3 : Mod (fun j => j = w.nb) h h3 := mm2.then m3 (fun j hj h => by omega)
    rw [hi] at k2 hus
    refine hr0 h3 e3 ?_ (fun j a b => hus j (by omega) b)
    have e3' : Mod (fun j => j = Z) h2 h3 := m3
    have ne : ∀ x, x < h.size → ¬ x = Z := fun x hx => by omega
    refine ⟨e3'.blk k2.W (ne _ k.W.lt), k2.lk.mod e3' (fun j _ h2 e => by have := k.lk.le; omega), k2.fl.mod e3' (fun _ => ne _ (k.fl.lt rfl)), k2.en.mod e3' (fun _ => ne _ (k.en.lt rfl)), k2.dl.mod e3' (fun _ => ne _ (k.dl.lt rfl)), k2.nx.mod e3' (fun _ => ne _ lnb)⟩
  have c1 : (i : Int) < u.n := by omega
  have c2 : i < u.n := by omega
  have w1 : IntKind.i64.wrap ((i : Int) + 1) = (i : Int) + 1 := i64_wrap (by omega)
  have rd := ru.rd c
  have lk := lk_ok ok.ends (nthK_mem c)
  simp [k2.W.hc, hiF _ _ _ hv, hn, hu, c1, sem_idxa ru.ok, c2, rd]
  refine ef_new_box ?_
  intro T h3 g3 T3 e3
  have k3 := k2.ext e3
  have Z3 := Z2.ext e3
  have z3 := e3.size
  have hn3 := e3.hc hn (fun h => h)
  have hu3 := e3.hc hu (fun h => h)
  have rd3 := (ru.ext e3).rd c
  simp [k3.W.hc, hiF _ _ _ hv, hn3, hu3, c1, sem_idxa ru.ok, c2, rd3]
  refine ef_store_box T3 rfl rfl (by simp [Lk.cells]) ?_
  intro h4 T4 m4
  have e4 : Ext h2 h4 := Mod.toExtF e3 m4 g3
  have k4 := k2.ext e4
  have Z4 := Z2.ext e4
  have z4 := e4.size
  have mm4 : Mod (fun j => j = w.nb) h h4 := mm2.then e4 (fun _ _ h => h.elim)
  obtain ⟨l, hl⟩ : ∃ l, nthK (lkF es v) i = l := ⟨_, rfl⟩
  have hl' : nthK (lkT es es.length v) i = l := hl
  rw [hl'] at lk T4
  simp [Lk.cells] at T4
  have kf := k4.fl.row64.val l.e (by rw [k.flen]; exact lk.e)
  have kt := k4.dl.row64.val l.t (by rw [k.dlen]; exact lk.t)
  have kv := k4.dl.row64.val v (by rw [k.dlen]; exact hv)
  have kn := k4.nx.row64.val v (by simp; omega)
  rw [nthI_set (by omega), if_pos rfl] at kn
  simp at kf kt kv kn
  have bv := hd v hv
  have wd : IntKind.i64.wrap (nthI dl v + 1) = nthI dl v + 1 := i64_wrap (by omega)
  by_cases u1 : nthI fl l.e = l.w
  · simp [T4.hc, k4.W.hc, hiE _ _ _ lk.e, kf, u1, hiF _ _ _ hv, kn, w1]
    refine stAt k4.nx (k := v) (by simp; omega) ?_
    intro h5 o5 m5
    rw [ints64_set, List.set_set] at o5
    have k5 := k4.setN ok m5 o5
    simp
    have hnu : ¬ Use es fl dl v i := fun q => by
      unfold Use at q
      rw [hl] at q
      first | exact q.1 u1 | exact u2 q.2
    refine next_M (m' := (lkF es v).length - (i + 1)) ⟨i + 1, _, _, _, rfl, by omega, by omega, (m2.then e4 (fun _ _ h => h.elim)).trans m5, by simpa using k5, fun j a b => by by_cases q : j = i; (subst q; exact hnu); exact hus j a (by omega), rfl⟩ (by omega)
  · by_cases u2 : nthI dl l.t = nthI dl v + 1
    · simp [T4.hc, k4.W.hc, hiE _ _ _ lk.e, kf, u1, hiF _ _ _ lk.t, kt, hiF _ _ _ hv, kv, wd, u2, rd_blk T4]
      refine ef_store_box Z4 rfl rfl (by simp) ?_
      intro h5 Z5 m5
      simp
      refine resP_xn rfl Z5 rfl ?_
      have e5 : Mod (fun j => j = w.nb) h h5 := mm4.then m5 (fun j hj h => by omega)
      have m5' : Mod (fun j => j = Z) h4 h5 := m5
      have ne : ∀ x, x < h.size → ¬ x = Z := fun x hx => by omega
      have := hr1 h5 i e5 (by omega) c ?_ (by unfold Use; rw [hl]; exact ⟨u1, u2⟩) (fun j a b => hus j (by omega) b)
      · rw [hl] at this
        simpa [Lk.cells] using this
      · exact ⟨m5'.blk k4.W (ne _ k.W.lt), k4.lk.mod m5' (fun j _ h2 e => by have := k.lk.le; omega), k4.fl.mod m5' (fun _ => ne _ (k.fl.lt rfl)), k4.en.mod m5' (fun _ => ne _ (k.en.lt rfl)), k4.dl.mod m5' (fun _ => ne _ (k.dl.lt rfl)), k4.nx.mod m5' (fun _ => ne _ lnb)⟩
    · simp [T4.hc, k4.W.hc, hiE _ _ _ lk.e, kf, u1, hiF _ _ _ lk.t, kt, hiF _ _ _ hv, kv, wd, u2, kn, w1]
      refine stAt k4.nx (k := v) (by simp; omega) ?_
      intro h5 o5 m5
      rw [ints64_set, List.set_set] at o5
      have k5 := k4.setN ok m5 o5
      simp
      have hnu : ¬ Use es fl dl v i := fun q => by
        unfold Use at q
        rw [hl] at q
        first | exact q.1 u1 | exact u2 q.2
      refine next_M (m' := (lkF es v).length - (i + 1)) ⟨i + 1, _, _, _, rfl, by omega, by omega, (m2.then e4 (fun _ _ h => h.elim)).trans m5, by simpa using k5, fun j a b => by by_cases q : j = i; (subst q; exact hnu); exact hus j a (by omega), rfl⟩ (by omega)
end
end Go.Rm

/- Flows: push. -/
set_option linter.unusedSimpArgs false
set_option linter.unusedVariables false
namespace Go.Rm
structure WkLt (w : Wk) (L : Nat) : Prop where
  p : w.p < L
  fb : w.fb < L
  eb : w.eb < L
  db : w.db < L
  nb : w.nb < L
  hi : w.hi ≤ L
section
variable {Y : Sys} {h h' : Heap} {w : Wk} {es : List (Int × Int)} {fl dl nx : List Int} {en : List Bool}
theorem WorkH.lt (k : WorkH h w es fl en dl nx) : WkLt w h.size := ⟨k.W.lt, k.fl.lt rfl, k.en.lt rfl, k.dl.lt rfl, k.nx.lt rfl, k.lk.le⟩
theorem WorkH.keep {S : Nat → Prop} {L : Nat} (k : WorkH h w es fl en dl nx) (l : WkLt w L) (m : Mod S h h') (hs : ∀ j, S j → L ≤ j) : WorkH h' w es fl en dl nx := by
  have ne : ∀ x, x < L → ¬ S x := fun x hx q => by have := hs x q; omega
  exact ⟨m.blk k.W (ne _ l.p), k.lk.mod m (fun j _ h2 => ne _ (by have := l.hi; omega)), k.fl.mod m (fun _ => ne _ l.fb), k.en.mod m (fun _ => ne _ l.eb), k.dl.mod m (fun _ => ne _ l.db), k.nx.mod m (fun _ => ne _ l.nb)⟩
theorem Path.take {s v : Nat} {row : List Lk} (p : Path es fl dl nx s row v) : ∀ i, i ≤ row.length → ∃ v', Path es fl dl nx s (row.take i) v' := by
  induction p with
  | nil => intro i h; simp; exact ⟨_, .nil⟩
  | snoc p a b c ih =>
    rename_i row u k
    intro i hi
    by_cases e : i ≤ row.length
    · rw [List.take_append_of_le_length e]; exact ih i e
    · rw [List.take_of_length_le (by simp at hi ⊢; omega)]
      exact ⟨_, .snoc p a b c⟩
theorem lkC_take {l : List Lk} {k : Lk} : (lkC (l ++ [k])).take (l.length * 4) = lkC l := by
  rw [lkC_app, ← lkC_len]; exact List.take_left
theorem nthK_last {l : List Lk} {k : Lk} : nthK (l ++ [k]) l.length = k := by simp [nthK]

def FuI (w : Wk) (s : Nat) (es : List (Int × Int)) (fl : List Int) (en : List Bool) (dl nx : List Int) (h0 : Heap) (m : Nat) (e : List Value) (h' : Heap) : Prop :=
  ∃ (row : List Lk) (v : Nat) (t : Sl) (nx' : List Int) (v1 v2 v5 v6 v7 v8 v9 v10 v11 v12 v13 v14 : Value), e = [.pointer (some ⟨w.p, 0, none⟩), v1, v2, t.v, .int .i64 v, v5, v6, v7, v8, v9, v10, v11, v12, v13, v14] ∧ v < w.N ∧
    Own h' 4 t (lkC row) ∧ (t.nl = false → h0.size ≤ t.b) ∧ Mod (fun j => j = w.nb) h0 h' ∧ WorkH h' w es fl en dl nx' ∧ NxOK w.N es nx' ∧ Path es fl dl nx' s row v ∧ (∀ u, u < w.N → nthI nx u ≤ nthI nx' u) ∧
    (DeadI w.N es fl dl en nx → DeadI w.N es fl dl en nx') ∧ m = remN es nx' w.N * (w.N + 3) + (w.N + 2 - row.length)
def FuJ (w : Wk) (t : Sl) (es : List (Int × Int)) (fl : List Int) (en : List Bool) (dl nx : List Int) (row : List Lk) (h0 : Heap) (e : List Value) (h' : Heap) : Prop :=
  ∃ (i : Nat) (v1 v2 v3 v4 v5 v6 v7 v8 v9 v10 v14 : Value), e = [.pointer (some ⟨w.p, 0, none⟩), v1, v2, v3, v4, v5, v6, v7, v8, v9, v10, t.v, .int .i64 t.n, .int .i64 i, v14] ∧ i ≤ row.length ∧ Mod (fun j => j = w.fb) h0 h' ∧ WorkH h' w es (pushL (row.take i) fl) en dl nx
structure PushFns (Y : Sys) : Prop where
  adv : Y.Has F.flow_work_advance S_flow_work_advance
  push : Y.Has F.flow_work_push S_flow_work_push
theorem push_spec (P : PushFns Y) (ok : WkOK w es) (k : WorkH h w es fl en dl nx) (o : NxOK w.N es nx) (okf : okFl es fl) {s : Nat} (hs : s < w.N) (hd : ∀ u, u < w.N → -1 ≤ nthI dl u ∧ nthI dl u ≤ w.N)
    {R : Value → Heap → Prop}
    (hr0 : ∀ h' nx', Mod (fun j => j = w.nb) h h' → WorkH h' w es fl en dl nx' → NxOK w.N es nx' → (∀ u, u < w.N → nthI nx u ≤ nthI nx' u) → (DeadI w.N es fl dl en nx → DeadI w.N es fl dl en nx' ∧ DeadV es en nx' s) → R (.bool false) h')
    (hr1 : ∀ h' nx' fl' t, Mod (fun j => j = w.nb ∨ j = w.fb) h h' → WorkH h' w es fl' en dl nx' → NxOK w.N es nx' → t < w.N → nthM en t = true → okFl es fl' →
      (∀ x, netF (edL es fl') x = netF (edL es fl) x + ((if s = x then 1 else 0) - (if t = x then 1 else 0))) → R (.bool true) h') :
    CallP Y F.flow_work_push [.pointer (some ⟨w.p, 0, none⟩), .int .i64 s] h R := by
  have oN := ok.N
  have oE := ok.E
  have kl := k.lt
  refine .of_has P.push rfl ?_
  simp [S_flow_work_push, FnS.wp]
  refine wp_loopM (FuI w s es fl en dl nx h) _ ⟨[], s, Sl.nil, nx, _, _, _, _, _, _, _, _, _, _, _, _, rfl, hs, by simpa [lkC] using Own.nil, fun h => (by cases h), Mod.refl _, k, o, .nil, fun _ _ => Int.le_refl _, id, rfl⟩ ?_
  rintro m e h2 ⟨row, v, t, nx', v1, v2, v5, v6, v7, v8, v9, v10, v11, v12, v13, v14, rfl, hv, ot, ft, m2, k2, o2, pt, mono, dead, rfl⟩
  have z2 := m2.size
  have nl := k2.nlen
  have dep := pt.dep
  have dv := hd v hv
  have dss := hd s hs
  have rl : row.length ≤ w.N + 1 := by omega
  have ol := ot.1
  rw [lkC_len] at ol
  have tn : row.length = t.n := by omega
  have hiF : ∀ g z (x : Nat), x < w.N → IOp.sem Y g (.idxa 1) [.slice (some ⟨z, 0, none⟩) w.N w.N, .int .i64 x] = some (.pointer (some ⟨z, x, none⟩)) := fun g z x lx => by
    have := sem_idxF (Y := Y) (h := g) (b := z) (sz := 1) (show w.N ≤ 9223372036854775807 by omega) lx (Nat.le_refl w.N)
    simpa using this
  have hiE : ∀ g z (x : Nat), x < es.length → IOp.sem Y g (.idxa 1) [.slice (some ⟨z, 0, none⟩) es.length es.length, .int .i64 x] = some (.pointer (some ⟨z, x, none⟩)) := fun g z x lx => by
    have := sem_idxF (Y := Y) (h := g) (b := z) (sz := 1) (show es.length ≤ 9223372036854775807 by omega) lx (Nat.le_refl es.length)
    simpa using this
  have ke := k2.en.rowM.val v (by rw [k2.elen]; exact hv)
  simp at ke
  cases hen : nthM en v with
  | true =>
    rw [hen] at ke
    simp [k2.W.hc, hiF _ _ _ hv, ke]
    obtain ⟨p1, p2, _⟩ := pt.push ok.ends okf
    refine wp_loop' (FuJ w t es fl en dl nx' row h2) (fun e _ => row.length - argI e 13) ⟨0, _, _, _, _, _, _, _, _, _, _, _, rfl, by omega, Mod.refl _, by simpa [pushL] using k2⟩ ?_
    rintro e h3 ⟨i, v1, v2, v3, v4, v5, v6, v7, v8, v9, v10, v14, rfl, hi, m3, k3⟩
    by_cases c : i < row.length
    rotate_left
    · have c1 : ¬ (i : Int) < t.n := by omega
      have hi' : i = row.length := by omega
      subst hi'
      rw [List.take_length] at k3
      simp [c1]
      exact hr1 h3 nx' _ v ((m2.mono fun _ _ h => .inl h).then m3 (fun _ _ h => .inr h)) k3 o2 hv hen p1 p2
    have c1 : (i : Int) < t.n := by omega
    have c2 : i < t.n := by omega
    have w1 : IntKind.i64.wrap ((i : Int) + 1) = (i : Int) + 1 := i64_wrap (by omega)
    have ot3 := ot.mod m3 (fun hn e => by have := ft hn; have := kl.fb; omega)
    have rd := ot3.rowK.rd c
    have lk := (pt.links ok.ends _ (nthK_mem c)).1
    simp [c1, c2, sem_idxa ot.ok, rd]
    refine ef_new_box ?_
    intro T h4 g4 T4 e4
    simp
    refine ef_store_box T4 rfl rfl (by simp [Lk.cells]) ?_
    intro h5 T5 m5
    have e5 : Ext h3 h5 := Mod.toExtF e4 m5 g4
    have k5 := k3.ext e5
    simp [Lk.cells] at T5
    obtain ⟨v', pt'⟩ := pt.take i (by omega)
    obtain ⟨q1, _, _⟩ := pt'.push ok.ends okf
    have hb := okE_bound (q1.2 _ lk.e)
    have hw : (nthK row i).w = 1 ∨ (nthK row i).w = -1 := by rcases lk.way with ⟨a, _⟩ | ⟨a, _⟩ <;> simp [a]
    have kf := k5.fl.row64.val (nthK row i).e (by rw [k5.flen]; exact lk.e)
    simp at kf
    have wd : IntKind.i64.wrap (nthI (pushL (row.take i) fl) (nthK row i).e + (nthK row i).w) = nthI (pushL (row.take i) fl) (nthK row i).e + (nthK row i).w := i64_wrap (by omega)
    simp [T5.hc, k5.W.hc, hiE _ _ _ lk.e, kf, wd]
    refine stAt k5.fl (k := (nthK row i).e) (by rw [ints64_len, k5.flen]; exact lk.e) ?_
    intro h6 o6 m6
    rw [ints64_set] at o6
    have k6 := k5.setF ok m6 o6
    simp [w1]
    refine ⟨⟨i + 1, _, _, _, _, _, _, _, _, _, _, _, rfl, by omega, (m3.then e5 (fun _ _ h => h.elim)).trans m6, ?_⟩, by simp [argI]; omega⟩
    have : row.take (i + 1) = row.take i ++ [nthK row i] := by
      rw [List.take_succ_eq_append_getElem c]; simp [nthK, c]
    rw [this, pushL_snoc]
    exact k6
  | false =>
    rw [hen] at ke
    simp [k2.W.hc, hiF _ _ _ hv, ke]
    refine advance_spec P.adv ok k2 o2 hv hd ?_ ?_
    · intro h3 m3 k3 hus
      obtain ⟨old, hold, hle⟩ := o2.val v hv
      have o3 := o2.set hv (Nat.le_refl _)
      have mono3 : ∀ u, u < w.N → nthI nx' u ≤ nthI (nx'.set v (lkF es v).length) u := fun u hu => by
        rw [nthI_set (by omega)]; split
        · rename_i e; subst e; omega
        · exact Int.le_refl _
      have dead3 : DeadI w.N es fl dl en nx → DeadI w.N es fl dl en (nx'.set v (lkF es v).length) := fun d =>
        (dead d).set ok.ends o2 hv (Nat.le_refl _) (by omega) (fun i a b us => absurd us (hus i a b))
      have deadv : DeadV es en (nx'.set v (lkF es v).length) v := ⟨by rw [nthI_set (by omega), if_pos rfl], hen⟩
      have pt3 : Path es fl dl (nx'.set v (lkF es v).length) s row v := pt.set (by omega) (Int.le_refl _)
      have rm3 := remN_set (es := es) (nx := nx') (x := v) (k := (lkF es v).length) (by omega) (by omega) (n := w.N)
      obtain ⟨n3, hn3⟩ : ∃ n3, nx'.set v ((lkF es v).length : Int) = n3 := ⟨_, rfl⟩
      rw [hn3] at o3 mono3 dead3 deadv pt3 rm3 k3
      simp
      refine ef_new_box ?_
      intro T h4 g4 T4 e4
      simp
      refine ef_store_box T4 rfl rfl (by simp) ?_
      intro h5 T5 m5
      have e5 : Ext h3 h5 := Mod.toExtF e4 m5 g4
      have k5 := k3.ext e5
      have m5' : Mod (fun j => j = w.nb) h h5 := (m2.trans m3).then e5 (fun _ _ h => h.elim)
      have ot5 : Own h5 4 t (lkC row) := (ot.mod m3 (fun hn e => by have := ft hn; have := kl.nb; omega)).ext' e5
      rcases pt3.inv with ⟨rfl, rfl⟩ | ⟨row', u, k', rfl, hv', p', hk', hlt, hus'⟩
      · have t0 : t.n = 0 := by simpa using tn.symm
        simp [t0]
        exact hr0 h5 n3 m5' k5 o3 (fun u hu => Int.le_trans (mono u hu) (mono3 u hu)) (fun d => ⟨dead3 d, deadv⟩)
      · have tn' : t.n = row'.length + 1 := by simpa using tn.symm
        have t0 : ¬ t.n = 0 := by omega
        have hu := p'.lt ok.ends hs
        have lk := lk_ok ok.ends (nthK_mem hlt)
        have w1 : IntKind.i64.wrap (row'.length : Int) = row'.length := i64_wrap (by omega)
        have c00 : ¬ ((row'.length : Int) + 1 = 0) := by omega
        have t1 : (row'.length : Int) < t.n := by omega
        have t2 : row'.length < t.n := by omega
        have t3 : (row'.length : Int) ≤ t.c := by have := ot.ok.le; omega
        have kf := ot5.rowK.v1 row'.length (by simp)
        rw [nthK_last, lk.f] at kf
        have sl := sem_slc_hi (Y := Y) (h := h5) (s := t) (sz := 4) (k := .i64) (j := (row'.length : Int)) ot.ok (by omega) t3
        have kn := k5.nx.row64.val u (by rw [o3.len]; exact hu)
        rw [hk'] at kn
        simp at kn
        have ll : (lkF es u).length ≤ es.length := lkT_len
        have w2 : IntKind.i64.wrap ((k' : Int) + 1) = (k' : Int) + 1 := i64_wrap (by omega)
        have ix : ∀ g, IOp.sem Y g (.idxa 4) [t.v, .int .i64 (row'.length : Int)] = some (.pointer (some ⟨t.b, t.o + row'.length * 4, none⟩)) := fun g => by
          rw [sem_idxa ot.ok (by omega) (by omega)]; simp
        simp [tn', w1, c00, ix, kf, sl, k5.W.hc, hiF _ _ _ hu, kn, w2]
        refine stAt k5.nx (k := u) (by rw [ints64_len, o3.len]; exact hu) ?_
        intro h6 o6 m6
        rw [ints64_set] at o6
        have k6 := k5.setN ok m6 o6
        simp
        have nl3 := o3.len
        have mono6 : ∀ x, x < w.N → nthI n3 x ≤ nthI (n3.set u ((k' : Int) + 1)) x := fun x hx => by
          rw [nthI_set (by omega)]; split
          · rename_i e; subst e; omega
          · exact Int.le_refl _
        have o6' : NxOK w.N es (n3.set u ((k' : Int) + 1)) := by
          have := o3.set (k := k' + 1) hu hlt
          simpa using this
        have dead6 : DeadI w.N es fl dl en nx → DeadI w.N es fl dl en (n3.set u ((k' : Int) + 1)) := fun d => by
          have := (dead3 d).set (k := k' + 1) ok.ends o3 hu hlt (by omega) (fun i a b us => by
            have : i = k' := by omega
            subst this
            rw [← hv']
            have := deadv.mono o6' hv (mono6 v hv)
            simpa using this)
          simpa using this
        have rm6 := remN_less (es := es) (nx := n3) (x := u) (k := (k' : Int) + 1) (by omega) (by omega) (by omega) (by omega) hu
        have rmul : (remN es (n3.set u ((k' : Int) + 1)) w.N + 1) * (w.N + 3) ≤ remN es nx' w.N * (w.N + 3) := Nat.mul_le_mul_right _ (by omega)
        rw [Nat.add_mul, Nat.one_mul] at rmul
        have otk := (ot5.mod m6 (fun hn e => by have := ft hn; have := kl.nb; omega)).take (k := row'.length) (by omega)
        rw [lkC_take] at otk
        refine next_M (m' := remN es (n3.set u ((k' : Int) + 1)) w.N * (w.N + 3) + (w.N + 2 - row'.length)) ⟨row', u, { t with n := row'.length }, n3.set u ((k' : Int) + 1), _, _, _, _, _, _, _, _, _, _, _, _, rfl, hu, otk, ft, m5'.trans m6, k6, o6', p'.set (by omega) (Int.le_refl _), fun x hx => Int.le_trans (mono x hx) (Int.le_trans (mono3 x hx) (mono6 x hx)), dead6, rfl⟩ (by omega)
    · intro h3 i m3 gi li k3 us hus
      have o3 := o2.set hv (Nat.le_of_lt li)
      have lk := lk_ok ok.ends (nthK_mem li)
      have mono3 : ∀ u, u < w.N → nthI nx' u ≤ nthI (nx'.set v i) u := fun u hu => by
        rw [nthI_set (by omega)]; split
        · rename_i e; subst e; exact gi
        · exact Int.le_refl _
      have dead3 : DeadI w.N es fl dl en nx → DeadI w.N es fl dl en (nx'.set v i) := fun d =>
        (dead d).set ok.ends o2 hv (Nat.le_of_lt li) gi (fun j a b us => absurd us (hus j a b))
      have pt3 : Path es fl dl (nx'.set v i) s row v := pt.set (by omega) (Int.le_refl _)
      have pt4 := pt3.snoc (k := i) (by rw [nthI_set (by omega), if_pos rfl]) li us
      have rm3 := remN_set (es := es) (nx := nx') (x := v) (k := (i : Int)) (by omega) gi (n := w.N)
      have rmul : remN es (nx'.set v i) w.N * (w.N + 3) ≤ remN es nx' w.N * (w.N + 3) := Nat.mul_le_mul_right _ rm3
      have dep4 := pt4.dep
      have dt := hd _ lk.t
      simp at dep4
      obtain ⟨l, hl⟩ : ∃ l, nthK (lkF es v) i = l := ⟨_, rfl⟩
      have hl' : nthK (lkT es es.length v) i = l := hl
      simp only [lkF] at pt4 dep4
      rw [hl'] at lk pt4 dep4 dt
      rw [hl]
      simp [Lk.cells]
      refine ef_new_box ?_
      intro T h4 g4 T4 e4
      simp
      refine ef_store_box T4 rfl rfl (by simp) ?_
      intro h5 T5 m5
      have e5 : Ext h3 h5 := Mod.toExtF e4 m5 g4
      have k5 := k3.ext e5
      have m5' : Mod (fun j => j = w.nb) h h5 := (m2.trans m3).then e5 (fun _ _ h => h.elim)
      have ot5 : Own h5 4 t (lkC row) := (ot.mod m3 (fun hn e => by have := ft hn; have := kl.nb; omega)).ext' e5
      have z5 := m5'.size
      simp [rd_blk T5]
      refine ef_bsliceK ?_
      intro b h6 g6 B6 e6
      have z6 := e6.size
      simp
      refine ef_appendK (k := l) rfl (ot5.ext' e6) B6 (by omega) ?_
      intro t' h7 o7 n7 m7 f7
      have T6 := T5.ext e6
      have hT7 : ∀ x, x < h.size → ¬ (t.nl = false ∧ x = t.b) := fun x hx hh => by have := ft hh.1; omega
      have k7 := (k5.ext e6).keep (L := h.size) kl m7 (fun j hj => by have := ft hj.1; omega)
      have T7 : hc h7 T 2 = some (.int .i64 l.t) := by
        have hTt : ¬ (t.nl = false ∧ T = t.b) := fun hh => by
          have := ot.lt hh.1
          have := m3.size
          omega
        exact m7.hc (by rw [T6.hc]; rfl) hTt
      have ft' : t'.nl = false → h.size ≤ t'.b := fun hn => by
        rcases f7 with ⟨f5, f6⟩ | ⟨f5, _⟩
        · rw [f5]; exact ft (by rw [← f6]; exact hn)
        · omega
      simp [T7]
      refine next_M (m' := remN es (nx'.set v i) w.N * (w.N + 3) + (w.N + 2 - (row ++ [l]).length)) ⟨row ++ [l], l.t, t', nx'.set v i, _, _, _, _, _, _, _, _, _, _, _, _, rfl, lk.t, o7, ft', (m5'.then e6 (fun _ _ h => h.elim)).then m7 (fun j hj hh => by have := ft hh.1; omega), k7, o3, pt4, fun u hu => Int.le_trans (mono u hu) (mono3 u hu), dead3, rfl⟩ ?_
      simp only [List.length_append, List.length_singleton]
      omega
end
end Go.Rm

/- Flows: grow. -/
set_option linter.unusedSimpArgs false
set_option linter.unusedVariables false
namespace Go.Rm
structure GwOK (w : Wk) (es : List (Int × Int)) : Prop where
  pf : w.p ≠ w.fb
  pe : w.p ≠ w.eb
  fe : w.fb ≠ w.eb
  lp : ¬ (w.lo ≤ w.p ∧ w.p < w.hi)
  lf : ¬ (w.lo ≤ w.fb ∧ w.fb < w.hi)
  N : w.N ≤ 4096
  E : es.length ≤ 16384
  ends : EsIn w.N es
  lE : ¬ (w.lo ≤ w.eb ∧ w.eb < w.hi)
structure GrowH (h : Heap) (w : Wk) (es : List (Int × Int)) (fl : List Int) (en : List Bool) : Prop where
  W : ∃ x y, Blk h w.p #[.slice (some ⟨w.ab, 0, none⟩) w.N w.N, .slice (some ⟨w.fb, 0, none⟩) es.length es.length, .slice (some ⟨w.eb, 0, none⟩) w.N w.N, x, y]
  lk : LinksK w.lo w.hi h (Sl.at w.ab w.N w.N) w.N es
  fl : Own h 1 (Sl.at w.fb es.length es.length) (ints64 fl)
  en : Own h 1 (Sl.at w.eb w.N w.N) (boolsM en)
theorem nthI_rep {n v : Nat} : nthI (List.replicate n 0) v = 0 := by
  unfold nthI
  rw [List.getD_eq_getElem?_getD, List.getElem?_replicate]
  split <;> rfl
section
variable {Y : Sys} {h h' : Heap} {w : Wk} {es : List (Int × Int)} {fl dl nx : List Int} {en : List Bool}
theorem st_blkF {K : Value → Heap → Prop} {b o : Nat} {c : Array Value} {v : Value} (hb : Blk h b c) (ho : o < c.size) (hr : ∀ h', Blk h' b (c.setIfInBounds o v) → Mod (fun j => j = b) h h' → K undef h') : StoreP h b o v K := by
  rw [StoreP.open]
  exact ⟨by rw [hb.hc]; simp [ho], hb.hfz, hr _ hb.set (Mod.set rfl)⟩
theorem GrowH.flen (k : GrowH h w es fl en) : fl.length = es.length := by have := k.fl.1; simpa using this

def FgI (w : Wk) (ss : Sl) (es : List (Int × Int)) (fl src dst : List Int) (en : List Bool) (dl : List Int) (h0 : Heap) (e : List Value) (h' : Heap) : Prop :=
  ∃ (i n : Nat) (fl' nx : List Int) (v2 v4 v8 v9 : Value), e = [.pointer (some ⟨w.p, 0, none⟩), ss.v, v2, .int .i64 n, v4, ss.v, .int .i64 ss.n, .int .i64 i, v8, v9] ∧ i ≤ src.length ∧ Mod (fun j => j = w.nb ∨ j = w.fb) h0 h' ∧
    WorkH h' w es fl' en dl nx ∧ NxOK w.N es nx ∧ okFl es fl' ∧ RestZ w.N es fl' src dst ∧ valV w.N es fl' src = valV w.N es fl src + n ∧
    (n = 0 → fl' = fl ∧ DeadI w.N es fl dl en nx ∧ ∀ j, j < i → ∀ v : Nat, nthI src j = v → DeadV es en nx v)
def FgJ (w : Wk) (i s : Nat) (ss : Sl) (es : List (Int × Int)) (fl src dst : List Int) (en : List Bool) (dl : List Int) (h0 : Heap) (m : Nat) (e : List Value) (h' : Heap) : Prop :=
  ∃ (n : Nat) (fl' nx : List Int) (v2 v8 v9 : Value), e = [.pointer (some ⟨w.p, 0, none⟩), ss.v, v2, .int .i64 n, .int .i64 s, ss.v, .int .i64 ss.n, .int .i64 i, v8, v9] ∧ Mod (fun j => j = w.nb ∨ j = w.fb) h0 h' ∧
    WorkH h' w es fl' en dl nx ∧ NxOK w.N es nx ∧ okFl es fl' ∧ RestZ w.N es fl' src dst ∧ valV w.N es fl' src = valV w.N es fl src + n ∧
    (n = 0 → fl' = fl ∧ DeadI w.N es fl dl en nx ∧ ∀ j, j < i → ∀ v : Nat, nthI src j = v → DeadV es en nx v) ∧ m = ((es.length : Int) - valV w.N es fl' src).toNat
structure GrowFns (Y : Sys) : Prop where
  P : PushFns Y
  S : SidesFns Y
  grow : Y.Has F.flow_work_grow S_flow_work_grow
theorem grow_spec (P : GrowFns Y) (ok : GwOK w es) (k : GrowH h w es fl en) {ss : Sl} {src dst : List Int} (rs : Row64 h ss src) (hS : ∀ i, i < src.length → inV w.N (nthI src i) = true) (bs : src.length ≤ 1000000)
    (dj : ∀ v : Nat, inSetN src v → ¬ inSetN dst v) (hen : ∀ v, v < w.N → (nthM en v = true ↔ inSetN dst v)) (okf : okFl es fl) (rest : RestZ w.N es fl src dst) (v0 : 0 ≤ valV w.N es fl src)
    (hsp : Row64 h ss src → ∀ h', Mod (fun j => j = w.p ∨ j = w.fb) h h' → Row64 h' ss src)
    {R : Value → Heap → Prop}
    (hr : ∀ h' fl' (n : Nat), Mod (fun j => j = w.p ∨ j = w.fb) h h' → GrowH h' w es fl' en → okFl es fl' → RestZ w.N es fl' src dst → valV w.N es fl' src = valV w.N es fl src + n →
      (n = 0 → fl' = fl ∧ ∀ v, v < w.N → Reach (edL es fl) (inSetN src) v → ¬ inSetN dst v) → R (.int .i64 n) h') :
    CallP Y F.flow_work_grow [.pointer (some ⟨w.p, 0, none⟩), ss.v] h R := by
  have oN := ok.N
  have oE := ok.E
  have ls := rs.len
  obtain ⟨x, y, W0⟩ := k.W
  have hall := hsp rs
  refine .of_has P.grow rfl ?_
  simp [S_flow_work_grow, FnS.wp, W0.hc]
  refine depths_spec (s := Sl.at w.ab w.N w.N) (sf := Sl.at w.fb es.length es.length) (d := true) P.S.depths k.lk.here k.fl.row64 rs ok.ends hS okf.1 oN oE bs ?_
  intro h1 db dl e1 g1 od dk
  simp only [wayL, if_true] at dk
  have W1 := W0.ext e1
  simp
  refine st_blkF W1 (by simp) ?_
  intro h2 W2 m2
  simp at W2
  simp [W2.hc]
  refine ef_make64 (n := w.N) (by omega) rfl ?_
  intro nb h3 g3 o3 e3 l3
  have W3 := W2.ext e3
  simp
  refine st_blkF W3 (by simp) ?_
  intro h4 W4 m4
  simp at W4
  simp
  have z1 := e1.size
  have z2 := m2.size
  have z3 := e3.size
  have z4 := m4.size
  have lp := W0.lt
  have lfb := k.fl.lt rfl
  have leb := k.en.lt rfl
  have ldb : db < h1.size := od.lt rfl
  simp at lfb leb ldb
  have lhi := k.lk.le
  -- the parts
  obtain ⟨w', hw'⟩ : ∃ w' : Wk, w' = { w with db := db, nb := nb } := ⟨_, rfl⟩
  have mh : Mod (fun j => j = w.p) h h4 := (((e1.mono fun _ _ h => h.elim).trans m2).then e3 (fun _ _ h => h.elim)).trans m4
  have wok : WkOK w' es := by
    subst hw'
    exact ⟨ok.pf, by show w.p ≠ nb; omega, ok.pe, ok.fe, by show w.fb ≠ db; omega, by show w.fb ≠ nb; omega, by show nb ≠ w.eb; omega, by show nb ≠ db; omega, ok.lp, ok.lf, by show ¬ (w.lo ≤ nb ∧ nb < w.hi); omega, ok.N, ok.E, ok.ends⟩
  have k4 : WorkH h4 w' es fl en dl (List.replicate w.N 0) := by
    subst hw'
    exact ⟨W4, k.lk.mod mh (fun j a b e => by subst e; exact ok.lp ⟨a, b⟩), k.fl.mod mh (fun _ e => ok.pf e.symm), k.en.mod mh (fun _ e => ok.pe e.symm),
      ((od.mod m2 (fun _ => by simp; omega)).ext' e3).mod m4 (fun _ => by simp; omega), o3.mod m4 (fun _ => by simp; omega)⟩
  have wN : w'.N = w.N := by rw [hw']
  have wp : w'.p = w.p := by rw [hw']
  have wf : w'.fb = w.fb := by rw [hw']
  have wnb : w'.nb = nb := by rw [hw']
  have back : ∀ h' fl' nx, WorkH h' w' es fl' en dl nx → GrowH h' w es fl' en := fun h' fl' nx k' => by
    subst hw'
    exact ⟨⟨_, _, k'.W⟩, k'.lk, k'.fl, k'.en⟩
  clear hw'
  rw [← wN] at hS hen rest hr dk v0
  rw [← wp]
  have o4 : NxOK w'.N es (List.replicate w.N 0) := ⟨by simp [wN], fun v hv => ⟨0, by rw [nthI_rep]; rfl, by omega⟩⟩
  have d4 : DeadI w'.N es fl dl en (List.replicate w.N 0) := fun v hv i hi => by
    rw [nthI_rep] at hi; omega
  refine wp_loop' (FgI w' ss es fl src dst en dl h4) (fun e _ => src.length - argI e 7) ⟨0, 0, fl, _, _, _, _, _, rfl, by omega, Mod.refl _, k4, o4, okf, rest, by simp, fun _ => ⟨rfl, d4, fun j hj => by omega⟩⟩ ?_
  rintro e h5 ⟨i, n, fl', nx, v2, v4, v8, v9, rfl, hi, m5, k5, o5, okf5, rest5, val5, zero5⟩
  have m5' : Mod (fun j => j = w.p ∨ j = w.fb) h h5 := (mh.mono fun _ _ h => .inl h).then m5 (fun j hj hh => by rw [wnb, wf] at hh; rcases hh with hh | hh; omega; exact .inr hh)
  have le5 := val_le (src := src) wok.ends okf5
  by_cases c : i < src.length
  rotate_left
  · have c1 : ¬ (i : Int) < ss.n := by omega
    simp [c1]
    refine hr h5 fl' n m5' (back _ _ _ k5) okf5 rest5 val5 (fun hn => ?_)
    obtain ⟨a1, a2, a3⟩ := zero5 hn
    refine ⟨a1, fun v hv hre hd => ?_⟩
    have := dead_none wok.ends a2 dk (fun s hs => by
      obtain ⟨j, hj, he⟩ := List.getElem_of_mem hs
      exact a3 j (by omega) s (by rw [nthI_at hj]; exact he)) v hv hre
    rw [(hen v hv).2 hd] at this
    cases this
  have c1 : (i : Int) < ss.n := by omega
  have c2 : i < ss.n := by omega
  obtain ⟨s, hs, lsN⟩ := inV_nat (hS i c)
  have sin : inSetN src s := by unfold inSetN; rw [← hs]; exact nthI_mem c
  have r5 := (hall h5 m5').val i c
  rw [hs] at r5
  have w1 : IntKind.i64.wrap ((i : Int) + 1) = (i : Int) + 1 := i64_wrap (by omega)
  simp [c1, c2, sem_idxa rs.ok, r5]
  refine wp_loopM (FgJ w' i s ss es fl src dst en dl h4) _ ⟨n, fl', nx, _, _, _, rfl, m5, k5, o5, okf5, rest5, val5, zero5, rfl⟩ ?_
  clear m5 k5 o5 okf5 rest5 val5 zero5 le5 r5 m5'
  rintro m e h6 ⟨n, fl', nx, v2, v8, v9, rfl, m6, k6, o6, okf6, rest6, val6, zero6, rfl⟩
  simp
  refine push_spec P.P wok k6 o6 okf6 lsN (fun u hu => ⟨dk.lo u hu, dk.hi u hu⟩) ?_ ?_
  · intro h7 nx7 m7 k7 o7 mono7 dead7
    simp [w1]
    refine ⟨⟨i + 1, n, fl', nx7, _, _, _, _, rfl, by omega, m6.then m7 (fun _ _ h => .inl h), k7, o7, okf6, rest6, val6, fun hn => ?_⟩, by simp [argI]; omega⟩
    obtain ⟨a1, a2, a3⟩ := zero6 hn
    subst a1
    obtain ⟨b1, b2⟩ := dead7 a2
    refine ⟨rfl, b1, fun j hj v hv => ?_⟩
    by_cases q : j = i
    · subst q
      have : v = s := by omega
      subst this; exact b2
    · have lv : v < w'.N := by
        have := hS j (by omega)
        rw [hv] at this
        simp [inV] at this
        exact this
      exact (a3 j (by omega) v hv).mono o7 lv (mono7 v lv)
  · intro h7 nx7 fl7 t m7 k7 o7 lt ht okf7 net7
    have htd := (hen t lt).1 ht
    have rest7 := rest_push rest6 sin htd net7
    have val7 := val_push sin lsN (fun h => dj t h htd) net7
    have le7 := val_le (src := src) wok.ends okf7
    have wn : IntKind.i64.wrap ((n : Int) + 1) = (n : Int) + 1 := i64_wrap (by omega)
    simp [wn]
    have cc : FgJ w' i s ss es fl src dst en dl h4 ((es.length : Int) - valV w'.N es fl7 src).toNat [.pointer (some ⟨w'.p, 0, none⟩), ss.v, v2, .int .i64 ((n : Int) + 1), .int .i64 s, ss.v, .int .i64 ss.n, .int .i64 i, v8, .bool true] h7 :=
      ⟨n + 1, fl7, nx7, _, _, _, rfl, m6.trans m7, k7, o7, okf7, rest7, by rw [val7, val6]; omega, fun hn => by omega, rfl⟩
    exact ⟨⟨_, cc⟩, by have := muI_le cc; omega⟩
end
end Go.Rm

/- Flows: Max, the parts that are laid. -/
set_option linter.unusedSimpArgs false
set_option linter.unusedVariables false
namespace Go.Rm
def maxAlt : IL := (.alt (.op (.call 153 [(.n 0), (.n 1)] .push) (.alt (.op (.ef (.mkslice 1 8 #[(.int .i64 0)]) [(.t 0), (.t 0)] .push) (.op (.ef (.mkslice 1 1 #[(.bool .false)]) [(.n 0), (.n 0)] .push) (.op (.op (.build #[(.slice .none 0 0), (.slice .none 0 0), (.slice .none 0 0), (.slice .none 0 0), (.slice .none 0 0)] [(0, 1), (1, 1), (2, 1), (3, 1), (4, 1)] [0, 1, 2]) [(.t 1), (.t 2), (.t 3)] .push) (.op (.ef .new [(.t 4)] .push) (.op (.op .mv [(.t 5)] (.set 7)) .nil))))) (.op (.ef (.mkslice 1 1 #[(.bool .false)]) [(.n 0), (.n 0)] .push) (.op (.ef (.mkslice 1 8 #[(.int .i64 0)]) [(.t 0), (.t 0)] .push) (.op (.op (.build #[(.slice .none 0 0), (.slice .none 0 0), (.slice .none 0 0), (.slice .none 0 0), (.slice .none 0 0)] [(0, 1), (1, 1), (2, 1), (3, 1), (4, 1)] [0, 1, 2]) [(.t 1), (.t 3), (.t 2)] .push) (.op (.ef .new [(.t 4)] .push) (.op (.op .mv [(.t 5)] (.set 7)) .nil))))))) (.alt (.op (.ef (.mkslice 1 8 #[(.int .i64 0)]) [(.t 0), (.t 0)] .push) (.alt (.op (.call 153 [(.n 0), (.n 1)] .push) (.op (.ef (.mkslice 1 1 #[(.bool .false)]) [(.n 0), (.n 0)] .push) (.op (.op (.build #[(.slice .none 0 0), (.slice .none 0 0), (.slice .none 0 0), (.slice .none 0 0), (.slice .none 0 0)] [(0, 1), (1, 1), (2, 1), (3, 1), (4, 1)] [0, 1, 2]) [(.t 2), (.t 1), (.t 3)] .push) (.op (.ef .new [(.t 4)] .push) (.op (.op .mv [(.t 5)] (.set 7)) .nil))))) (.op (.ef (.mkslice 1 1 #[(.bool .false)]) [(.n 0), (.n 0)] .push) (.op (.call 153 [(.n 0), (.n 1)] .push) (.op (.op (.build #[(.slice .none 0 0), (.slice .none 0 0), (.slice .none 0 0), (.slice .none 0 0), (.slice .none 0 0)] [(0, 1), (1, 1), (2, 1), (3, 1), (4, 1)] [0, 1, 2]) [(.t 3), (.t 1), (.t 2)] .push) (.op (.ef .new [(.t 4)] .push) (.op (.op .mv [(.t 5)] (.set 7)) .nil))))))) (.op (.ef (.mkslice 1 1 #[(.bool .false)]) [(.n 0), (.n 0)] .push) (.alt (.op (.call 153 [(.n 0), (.n 1)] .push) (.op (.ef (.mkslice 1 8 #[(.int .i64 0)]) [(.t 0), (.t 0)] .push) (.op (.op (.build #[(.slice .none 0 0), (.slice .none 0 0), (.slice .none 0 0), (.slice .none 0 0), (.slice .none 0 0)] [(0, 1), (1, 1), (2, 1), (3, 1), (4, 1)] [0, 1, 2]) [(.t 2), (.t 3), (.t 1)] .push) (.op (.ef .new [(.t 4)] .push) (.op (.op .mv [(.t 5)] (.set 7)) .nil))))) (.op (.ef (.mkslice 1 8 #[(.int .i64 0)]) [(.t 0), (.t 0)] .push) (.op (.call 153 [(.n 0), (.n 1)] .push) (.op (.op (.build #[(.slice .none 0 0), (.slice .none 0 0), (.slice .none 0 0), (.slice .none 0 0), (.slice .none 0 0)] [(0, 1), (1, 1), (2, 1), (3, 1), (4, 1)] [0, 1, 2]) [(.t 3), (.t 2), (.t 1)] .push) (.op (.ef .new [(.t 4)] .push) (.op (.op .mv [(.t 5)] (.set 7)) .nil)))))))))
def maxS : FnS := ⟨4, 17, (.seq (.reg (.op (.ef .new [(.c (.agg #[(.int .i64 0), (.slice .none 0 0), (.slice .none 0 0), (.slice .none 0 0)]))] (.set 4)) (.op (.op .mv [(.c .nilIface)] (.set 5)) .nil))) (.seq (.seq (.reg (.op (.call 150 [(.n 0), (.n 1), (.n 2), (.n 3)] .push) (.op (.op .mv [(.t 0)] (.set 6)) .nil))) (.seq (.reg (.op (.op (.eqi .true .true) [(.n 6), (.c .nilIface)] (.set 11)) .nil)) (.cond (.n 11) (.seq (.reg (.op (.op (.build #[(.int .i64 0), (.slice .none 0 0), (.slice .none 0 0), (.slice .none 0 0)] [(0, 1), (1, 1), (2, 1), (3, 1)] []) [] .push) (.op (.ef (.store 4) [(.n 4), (.t 0)] .drop) (.op (.op .mv [(.n 6)] (.set 5)) .nil)))) .ret) .skip))) (.seq (.reg (.op (.op .len [(.n 1)] .push) maxAlt)) (.seq (.seq (.reg (.op (.op .mv [(.n 3)] (.set 12)) (.op (.op .len [(.n 12)] (.set 13)) (.op (.op .mv [(.c (.int .i64 0))] (.set 14)) .nil)))) (.block 0 (.loop (.seq (.reg (.op (.op (.ib .lss) [(.n 14), (.n 13)] (.set 15)) .nil)) (.seq (.cond (.n 15) .skip (.exit 0)) (.seq (.block 1 (.seq (.reg (.op (.op (.idxa 1) [(.n 12), (.n 14)] .push) (.op (.op (.load 1 .false) [(.t 0)] .push) (.op (.op .mv [(.t 1)] (.set 8)) .nil)))) (.reg (.op (.op .nilck [(.n 7)] .push) (.op (.op (.fadr 2) [(.t 0)] .push) (.op (.op (.load 1 .false) [(.t 1)] .push) (.op (.op (.idxa 1) [(.t 2), (.n 8)] .push) (.op (.ef (.store 1) [(.t 3), (.c (.bool .true))] .drop) .nil)))))))) (.reg (.op (.op (.ib .add) [(.n 14), (.c (.int .i64 1))] .push) (.op (.op .mv [(.t 0)] (.set 14)) .nil))))))))) (.seq (.reg (.op (.op (.build #[(.int .i64 0), (.slice .none 0 0), (.slice .none 0 0), (.slice .none 0 0)] [(0, 1), (1, 1), (2, 1), (3, 1)] []) [] .push) (.op (.ef .new [(.c (.agg #[(.int .i64 0), (.slice .none 0 0), (.slice .none 0 0), (.slice .none 0 0)]))] (.set 9)) (.op (.ef (.store 4) [(.n 9), (.t 0)] .drop) .nil)))) (.seq (.seq (.reg (.op (.call 156 [(.n 7), (.n 2)] .push) (.op (.op .mv [(.t 0)] (.set 10)) .nil))) (.block 2 (.loop (.seq (.seq (.reg (.op (.op (.ib .gtr) [(.n 10), (.c (.int .i64 0))] (.set 16)) .nil)) (.cond (.n 16) .skip (.exit 2))) (.seq (.block 3 (.reg (.op (.op (.fadr 0) [(.n 9)] .push) (.op (.op (.load 1 .false) [(.t 0)] .push) (.op (.op (.ib .add) [(.t 1), (.n 10)] .push) (.op (.op (.fadr 0) [(.n 9)] .push) (.op (.ef (.store 1) [(.t 3), (.t 2)] .drop) .nil))))))) (.reg (.op (.call 156 [(.n 7), (.n 2)] .push) (.op (.op .mv [(.t 0)] (.set 10)) .nil)))))))) (.seq (.reg (.op (.op .nilck [(.n 7)] .push) (.op (.op (.fadr 1) [(.t 0)] .push) (.op (.op (.load 1 .false) [(.t 1)] .push) (.op (.op (.fadr 1) [(.n 9)] .push) (.op (.ef (.store 1) [(.t 3), (.t 2)] .drop) .nil)))))) (.seq (.reg (.op (.op .nilck [(.n 7)] .push) (.op (.op (.fadr 0) [(.t 0)] .push) (.op (.op (.load 1 .false) [(.t 1)] .push) (.op (.op .nilck [(.n 7)] .push) (.op (.op (.fadr 1) [(.t 3)] .push) (.op (.op (.load 1 .false) [(.t 4)] .push) (.op (.call 152 [(.t 2), (.t 5), (.n 2), (.n 3)] .push) (.op (.op (.ext 0) [(.t 6)] .push) (.op (.op (.ext 1) [(.t 6)] .push) (.op (.op (.fadr 2) [(.n 9)] .push) (.op (.ef (.store 1) [(.t 9), (.t 7)] .drop) (.op (.op (.fadr 3) [(.n 9)] .push) (.op (.ef (.store 1) [(.t 10), (.t 8)] .drop) .nil)))))))))))))) (.seq (.reg (.op (.op (.load 4 .true) [(.n 9)] .push) (.op (.ef (.store 4) [(.n 4), (.t 0)] .drop) (.op (.op .mv [(.c .nilIface)] (.set 5)) .nil)))) .ret))))))))), [(.box 4 4 .true), (.n 5)]⟩
theorem maxS_eq : S_flow_Max = maxS := rfl
section
variable {Y : Sys} {h h' : Heap}
@[simp] theorem sem_build_work {z0 z1 z2 z3 z4 : Value} {x y w : Option Addr} {n c n' c' n'' c'' : Nat} : IOp.sem Y h (.build #[z0, z1, z2, z3, z4] [(0, 1), (1, 1), (2, 1), (3, 1), (4, 1)] [0, 1, 2]) [.slice x n c, .slice y n' c', .slice w n'' c''] = some (.agg #[.slice x n c, .slice y n' c', .slice w n'' c'', z3, z4]) := by
  rfl
theorem maxAlt_wp (H : Y.Has F.flow_links S_flow_links) {e : List Value} {N : Nat} {se : Sl} {es : List (Int × Int)} (re : RowE h se es) (hE : EsIn N es) (hN : N ≤ 4096) (be : es.length ≤ 16384)
    (he0 : e[0]?.getD undef = .int .i64 N) (he1 : e[1]?.getD undef = se.v) {kn : List Value → Heap → Prop}
    (hr : ∀ h' (w : Wk), w.N = N → Ext h h' → h.size ≤ w.p → h.size ≤ w.fb → h.size ≤ w.eb → GwOK w es → GrowH h' w es (List.replicate es.length 0) (markL N []) → kn (e.set 7 (.pointer (some ⟨w.p, 0, none⟩))) h') :
    IL.wp Y (RegK kn) maxAlt e [.int .i64 es.length] h := by
  have fin : ∀ g g' ab fb eb p lo hi, Ext h g → h.size ≤ fb → h.size ≤ eb → fb ≠ eb → LinksK lo hi g (Sl.at ab N N) N es → Own g 1 (Sl.at fb es.length es.length) (ints64 (List.replicate es.length 0)) → Own g 1 (Sl.at eb N N) (List.replicate N (.bool false)) →
      ¬ (lo ≤ fb ∧ fb < hi) → ¬ (lo ≤ eb ∧ eb < hi) → g.size ≤ p → Ext g g' → Blk g' p #[.slice (some ⟨ab, 0, none⟩) N N, .slice (some ⟨fb, 0, none⟩) es.length es.length, .slice (some ⟨eb, 0, none⟩) N N, .slice none 0 0, .slice none 0 0] → kn (e.set 7 (.pointer (some ⟨p, 0, none⟩))) g' := by
    intro g g' ab fb eb p lo hi eg h1 h2 h3 lk of oe n1 n2 gp eg' B
    have lf := of.lt rfl
    have lE := oe.lt rfl
    simp at lf lE
    have ll := lk.le
    have zz := eg.size
    refine hr g' ⟨p, ab, fb, eb, 0, 0, lo, hi, N⟩ rfl (eg.trans eg') (by show h.size ≤ p; omega) h1 h2 ⟨by show p ≠ fb; omega, by show p ≠ eb; omega, h3, by show ¬ (lo ≤ p ∧ p < hi); omega, n1, hN, be, hE, n2⟩ ⟨⟨_, _, B⟩, lk.mod eg' (fun _ _ _ h => h), of.ext' eg', ?_⟩
    rw [markL_nil]
    exact oe.ext' eg'
  have ext1 : ∀ {lo hi : Nat} {g g' : Heap} {s : Sl}, LinksK lo hi g s N es → Ext g g' → LinksK lo hi g' s N es := fun l m => l.mod m (fun _ _ _ h => h)
  simp [maxAlt, he0, he1]
  refine ⟨?_, ?_, ?_⟩
  · refine links_spec H re hE hN be ?_
    intro h1 ab e1 ga lk
    have z1 := e1.size
    simp [he0]
    constructor
    · refine ef_make64 (n := es.length) (by omega) rfl ?_
      intro fb h2 gf of e2 lf
      have z2 := e2.size
      simp [he0]
      refine ef_makeM (n := N) (by omega) rfl ?_
      intro eb h3 ge oe e3 le
      have z3 := e3.size
      simp
      refine ef_new_box ?_
      intro p h4 gp Bp e4
      simp
      exact fin h3 h4 ab fb eb p _ _ ((e1.trans e2).trans e3) (by omega) (by omega) (by omega) (ext1 (ext1 lk e2) e3) (of.ext' e3) oe (by omega) (by omega) gp e4 (by simpa using Bp)
    · refine ef_makeM (n := N) (by omega) rfl ?_
      intro eb h2 ge oe e2 le
      have z2 := e2.size
      simp [he0]
      refine ef_make64 (n := es.length) (by omega) rfl ?_
      intro fb h3 gf of e3 lf
      have z3 := e3.size
      simp
      refine ef_new_box ?_
      intro p h4 gp Bp e4
      simp
      exact fin h3 h4 ab fb eb p _ _ ((e1.trans e2).trans e3) (by omega) (by omega) (by omega) (ext1 (ext1 lk e2) e3) of (oe.ext' e3) (by omega) (by omega) gp e4 (by simpa using Bp)
  · refine ef_make64 (n := es.length) (by omega) rfl ?_
    intro fb h1 gf of e1 lf
    have z1 := e1.size
    simp [he0, he1]
    constructor
    · refine links_spec H (re.ext e1) hE hN be ?_
      intro h2 ab e2 ga lk
      have z2 := e2.size
      simp [he0]
      refine ef_makeM (n := N) (by omega) rfl ?_
      intro eb h3 ge oe e3 le
      have z3 := e3.size
      simp
      refine ef_new_box ?_
      intro p h4 gp Bp e4
      simp
      exact fin h3 h4 ab fb eb p _ _ ((e1.trans e2).trans e3) (by omega) (by omega) (by omega) (ext1 lk e3) ((of.ext' e2).ext' e3) oe (by omega) (by omega) gp e4 (by simpa using Bp)
    · refine ef_makeM (n := N) (by omega) rfl ?_
      intro eb h2 ge oe e2 le
      have z2 := e2.size
      simp [he0, he1]
      refine links_spec H ((re.ext e1).ext e2) hE hN be ?_
      intro h3 ab e3 ga lk
      have z3 := e3.size
      simp
      refine ef_new_box ?_
      intro p h4 gp Bp e4
      simp
      exact fin h3 h4 ab fb eb p _ _ ((e1.trans e2).trans e3) (by omega) (by omega) (by omega) lk ((of.ext' e2).ext' e3) (oe.ext' e3) (by omega) (by omega) gp e4 (by simpa using Bp)
  · refine ef_makeM (n := N) (by omega) rfl ?_
    intro eb h1 ge oe e1 le
    have z1 := e1.size
    simp [he0, he1]
    constructor
    · refine links_spec H (re.ext e1) hE hN be ?_
      intro h2 ab e2 ga lk
      have z2 := e2.size
      simp [he0]
      refine ef_make64 (n := es.length) (by omega) rfl ?_
      intro fb h3 gf of e3 lf
      have z3 := e3.size
      simp
      refine ef_new_box ?_
      intro p h4 gp Bp e4
      simp
      exact fin h3 h4 ab fb eb p _ _ ((e1.trans e2).trans e3) (by omega) (by omega) (by omega) (ext1 lk e3) of ((oe.ext' e2).ext' e3) (by omega) (by omega) gp e4 (by simpa using Bp)
    · refine ef_make64 (n := es.length) (by omega) rfl ?_
      intro fb h2 gf of e2 lf
      have z2 := e2.size
      simp [he0, he1]
      refine links_spec H ((re.ext e1).ext e2) hE hN be ?_
      intro h3 ab e3 ga lk
      have z3 := e3.size
      simp
      refine ef_new_box ?_
      intro p h4 gp Bp e4
      simp
      exact fin h3 h4 ab fb eb p _ _ ((e1.trans e2).trans e3) (by omega) (by omega) (by omega) lk (of.ext' e3) ((oe.ext' e2).ext' e3) (by omega) (by omega) gp e4 (by simpa using Bp)
end
end Go.Rm

/- Flows: Max. -/
set_option linter.unusedSimpArgs false
set_option linter.unusedVariables false
namespace Go.Rm
theorem netT_zero {es : List (Int × Int)} {n v : Nat} : ∀ {i : Nat}, netF (edT es (List.replicate n 0) i) v = 0
  | 0 => by simp [edT, netF]
  | i + 1 => by
    rw [edT_succ, netF_snoc, netT_zero, nthI_rep]
    simp
theorem val_zero {N n : Nat} {es : List (Int × Int)} {src : List Int} : valV N es (List.replicate n 0) src = 0 := by
  unfold valV
  refine sumV_zero fun v _ => ?_
  rw [← edT_all, netT_zero]
  simp
structure MaxFns (Y : Sys) : Prop where
  C : FlCk Y
  G : GrowFns Y
  Max : Y.Has F.flow_Max S_flow_Max
section
variable {Y : Sys} {h h' : Heap}
def FmI (w : Wk) (Z : Nat) (v0 v5 v6 : Value) (se ss sd : Sl) (es : List (Int × Int)) (dst : List Int) (h0 : Heap) (e : List Value) (h' : Heap) : Prop :=
  ∃ (i : Nat) (v8 v9 v10 v11 v15 v16 : Value), e = [v0, se.v, ss.v, sd.v, .pointer (some ⟨Z, 0, none⟩), v5, v6, .pointer (some ⟨w.p, 0, none⟩), v8, v9, v10, v11, sd.v, .int .i64 sd.n, .int .i64 i, v15, v16] ∧ i ≤ dst.length ∧ Mod (fun j => j = w.eb) h0 h' ∧
    GrowH h' w es (List.replicate es.length 0) (markL w.N (dst.take i))
def FmJ (w : Wk) (Z B : Nat) (v0 v5 v6 : Value) (se ss sd : Sl) (es : List (Int × Int)) (src dst : List Int) (h0 : Heap) (m : Nat) (e : List Value) (h' : Heap) : Prop :=
  ∃ (k : Nat) (fl : List Int) (v8 v11 v12 v13 v14 v15 v16 : Value), e = [v0, se.v, ss.v, sd.v, .pointer (some ⟨Z, 0, none⟩), v5, v6, .pointer (some ⟨w.p, 0, none⟩), v8, .pointer (some ⟨B, 0, none⟩), .int .i64 k, v11, v12, v13, v14, v15, v16] ∧
    Mod (fun j => j = w.p ∨ j = w.fb ∨ j = B) h0 h' ∧ GrowH h' w es fl (markL w.N dst) ∧ okFl es fl ∧ RestZ w.N es fl src dst ∧ 0 ≤ valV w.N es fl src - k ∧ Blk h' B #[.int .i64 (valV w.N es fl src - k), .slice none 0 0, .slice none 0 0, .slice none 0 0] ∧
    (k = 0 → ∀ v, v < w.N → Reach (edL es fl) (inSetN src) v → ¬ inSetN dst v) ∧ m = 2 * ((es.length : Int) - valV w.N es fl src).toNat + (if k = 0 then 0 else 1)
theorem flmax_spec (P : MaxFns Y) {n : Int} {se ss sd : Sl} {es : List (Int × Int)} {src dst : List Int} (re : RowE h se es) (rs : Row64 h ss src) (rd' : Row64 h sd dst) (bs : ss.n ≤ 1000000) (bd : sd.n ≤ 1000000)
    {R : Value → Heap → Prop}
    (hr0 : ∀ h' v, Ext h h' → FErr Y h.size h' (chkW n es src dst) v → (∃ t u, v = .iface t u) → (chkW n es src dst).2 ≠ 0 → R (.tuple #[.agg #[.int .i64 0, .slice none 0 0, .slice none 0 0, .slice none 0 0], v]) h')
    (hr1 : ∀ h' val fl near far sf sn sr, Ext h h' → ProvesP n es src dst val fl near far → Row64 h' sf fl → RowM h' sn near → RowM h' sr far → R (.tuple #[.agg #[.int .i64 val, sf.v, sn.v, sr.v], .nilIface]) h') :
    CallP Y F.flow_Max [.int .i64 n, se.v, ss.v, sd.v] h R := by
  have le := re.len
  have ls := rs.len
  have ld := rd'.len
  have HM := P.Max
  rw [maxS_eq] at HM
  refine .of_has HM rfl ?_
  simp [maxS, FnS.wp]
  refine ef_new_box ?_
  intro Z h1 g1 Z1 e1
  simp
  refine flcheck_spec P.C (re.ext e1) (rs.ext e1) (rd'.ext e1) bs bd ?_
  intro v h2 e2 f2 i2
  have x2 := e1.trans e2
  have Z2 := Z1.ext e2
  by_cases c0 : (chkW n es src dst).2 = 0
  rotate_left
  · obtain ⟨t, u, rfl⟩ := i2 c0
    simp
    refine ef_store_box Z2 rfl rfl (by simp) ?_
    intro h3 Z3 m3
    simp
    refine resP_xn rfl Z3 rfl ?_
    exact hr0 h3 _ (Mod.toExtF x2 m3 g1) ((f2.step m3 (fun j hj => by have := Z1.lt; omega)).mono e1.size) ⟨_, _, rfl⟩ c0
  have hv := Err.nil f2.here c0
  subst hv
  obtain ⟨N, rfl, ck, _⟩ := chk_ok c0
  have bN := ck.n
  have be := ck.e
  simp
  rw [← le]
  refine maxAlt_wp P.G.S.links (re.ext x2) ck.ends bN be (by simp) (by simp) ?_
  intro h3 w wN e3 gp gf ge gok gh
  subst wN
  have x3 := x2.trans e3
  have Z3 := Z2.ext e3
  have z1 := e1.size
  have z2 := e2.size
  have z3 := e3.size
  have lZ := Z1.lt
  simp
  refine wp_loop' (FmI w Z (.int .i64 w.N) .nilIface .nilIface se ss sd es dst h3) (fun e _ => dst.length - argI e 14) ⟨0, _, _, _, _, _, _, rfl, by omega, Mod.refl _, by simpa using gh⟩ ?_
  rintro e h4 ⟨i, v8, v9, v10, v11, v15, v16, rfl, hi, m4, k4⟩
  have x4 : Ext h h4 := Mod.toExtF x3 m4 (by omega)
  have z4 := m4.size
  obtain ⟨x, y, W4⟩ := k4.W
  by_cases c : i < dst.length
  · have c1 : (i : Int) < sd.n := by omega
    have c2 : i < sd.n := by omega
    obtain ⟨v, hv, lv⟩ := inV_nat (ck.ds i c)
    have r4 := (rd'.ext x4).val i c
    rw [hv] at r4
    have w1 : IntKind.i64.wrap ((i : Int) + 1) = (i : Int) + 1 := i64_wrap (by omega)
    have hiF : ∀ g z (x : Nat), x < w.N → IOp.sem Y g (.idxa 1) [.slice (some ⟨z, 0, none⟩) w.N w.N, .int .i64 x] = some (.pointer (some ⟨z, x, none⟩)) := fun g z x lx => by
      have := sem_idxF (Y := Y) (h := g) (b := z) (sz := 1) (show w.N ≤ 9223372036854775807 by omega) lx (Nat.le_refl w.N)
      simpa using this
    simp [c1, c2, sem_idxa rd'.ok, r4, W4.hc, hiF _ _ _ lv]
    refine stAt k4.en (k := v) (by rw [boolsM_len, markL_len]; exact lv) ?_
    intro h5 o5 m5
    rw [mark_set lv, ← hv, show dst.take i ++ [nthI dst i] = dst.take (i + 1) from by rw [nthI_at c, List.take_succ_eq_append_getElem c]] at o5
    simp [w1]
    have hne : ∀ x, x ≠ w.eb → ¬ x = w.eb := fun _ h => h
    refine ⟨⟨i + 1, _, _, _, _, _, _, rfl, by omega, m4.trans m5, ⟨x, y, m5.blk W4 gok.pe⟩, ?_, k4.fl.mod m5 (fun _ => gok.fe), o5⟩, by simp [argI]; omega⟩
    exact k4.lk.mod m5 (fun j h1 h2 e => by subst e; exact gok.lE ⟨h1, h2⟩)
  have c1 : ¬ (i : Int) < sd.n := by omega
  rw [List.take_of_length_le (by omega)] at k4
  simp [c1]
  refine ef_new_box ?_
  intro B h5 g5 B5 e5
  simp
  refine ef_store_box B5 rfl rfl (by simp) ?_
  intro h6 B6 m6
  have e6 : Ext h4 h6 := Mod.toExtF e5 m6 g5
  have x6 := x4.trans e6
  have z6 := e6.size
  have k6 : GrowH h6 w es (List.replicate es.length 0) (markL w.N dst) := ⟨⟨x, y, W4.ext e6⟩, k4.lk.mod e6 (fun _ _ _ h => h), k4.fl.ext' e6, k4.en.ext' e6⟩
  have hen : ∀ v, v < w.N → (nthM (markL w.N dst) v = true ↔ inSetN dst v) := fun v hv => by rw [nthM_mark hv]; simp [inSetN]
  have ok0 : okFl es (List.replicate es.length 0) := ⟨by simp, fun j hj => by rw [nthI_rep]; simp [okE]⟩
  have rest0 : RestZ w.N es (List.replicate es.length 0) src dst := fun v _ _ _ => by rw [← edT_all, netT_zero]
  have hsp : ∀ g, Ext h g → Row64 g ss src → ∀ h', Mod (fun j => j = w.p ∨ j = w.fb) g h' → Row64 h' ss src := fun g xg _ h' m => rs.ext (Mod.ext xg m (fun j hj => by omega))
  simp
  refine grow_spec P.G gok k6 (rs.ext x6) ck.sr (by omega) ck.dj hen ok0 rest0 (by rw [val_zero]; exact Int.le_refl _) (hsp h6 x6) ?_
  intro h7 fl7 k7 m7 gh7 ok7 rest7 val7 zero7
  have lW := W4.lt
  have lF := k4.fl.lt rfl
  simp at lF
  have nBp : B ≠ w.p := by omega
  have nBf : B ≠ w.fb := by omega
  rw [val_zero] at val7
  simp
  refine wp_loopM (FmJ w Z B (.int .i64 w.N) .nilIface .nilIface se ss sd es src dst h6) _ ⟨k7, fl7, _, _, _, _, _, _, _, rfl, m7.mono (fun _ _ h => h.elim .inl (fun h => .inr (.inl h))), gh7, ok7, rest7, by omega, by rw [val7]; simpa using m7.blk B6 (fun hh => hh.elim nBp nBf), fun hk => by obtain ⟨a, b⟩ := zero7 hk; rw [a]; exact b, rfl⟩ ?_
  clear m7 gh7 ok7 rest7 val7 zero7
  rintro m e h8 ⟨k, fl, v8, v11, v12, v13, v14, v15, v16, rfl, m8, gh8, ok8, rest8, pos8, B8, zero8, rfl⟩
  have z8 := m8.size
  have x8 : Ext h h8 := Mod.ext x6 m8 (fun j hj => by omega)
  have le8 := val_le (src := src) ck.ends ok8
  obtain ⟨x8', y8', W8⟩ := gh8.W
  by_cases ck0 : k = 0
  rotate_left
  · have k1 : (0 : Int) < k := by omega
    have k2 : 0 < k := by omega
    have wv : IntKind.i64.wrap (valV w.N es fl src - k + k) = valV w.N es fl src := by rw [i64_wrap (by omega)]; omega
    have wv' : IntKind.i64.wrap (valV w.N es fl src) = valV w.N es fl src := by rw [i64_wrap (by omega)]
    simp [k1, k2, B8.hc, wv, wv']
    refine st_blkF B8 (by simp) ?_
    intro h9 B9 m9
    simp at B9
    have x9 : Ext h h9 := Mod.ext x8 m9 (fun j hj => by omega)
    have gh9 : GrowH h9 w es fl (markL w.N dst) := ⟨⟨_, _, m9.blk W8 (by omega)⟩, gh8.lk.mod m9 (fun j _ h2 e => by have := k4.lk.le; omega), gh8.fl.mod m9 (fun _ => by simp; omega), gh8.en.mod m9 (fun _ => by have := k4.en.lt rfl; simp at this ⊢; omega)⟩
    simp
    refine grow_spec P.G gok gh9 (rs.ext x9) ck.sr (by omega) ck.dj hen ok8 rest8 (by omega) (hsp h9 x9) ?_
    intro h10 fl10 k10 m10 gh10 ok10 rest10 val10 zero10
    have le10 := val_le (src := src) ck.ends ok10
    have cc : FmJ w Z B (.int .i64 w.N) .nilIface .nilIface se ss sd es src dst h6 (2 * ((es.length : Int) - valV w.N es fl10 src).toNat + (if k10 = 0 then 0 else 1)) [.int .i64 w.N, se.v, ss.v, sd.v, .pointer (some ⟨Z, 0, none⟩), .nilIface, .nilIface, .pointer (some ⟨w.p, 0, none⟩), v8, .pointer (some ⟨B, 0, none⟩), .int .i64 k10, v11, v12, v13, v14, v15, .bool true] h10 :=
      ⟨k10, fl10, _, _, _, _, _, _, _, rfl, (m8.then m9 (fun _ _ h => .inr (.inr h))).then m10 (fun _ _ h => h.elim .inl (fun h => .inr (.inl h))), gh10, ok10, rest10, by omega, by rw [val10, show valV w.N es fl src + k10 - k10 = valV w.N es fl src by omega]; exact m10.blk B9 (fun hh => hh.elim nBp nBf), fun hk => by obtain ⟨a, b⟩ := zero10 hk; rw [a]; exact b, rfl⟩
    simp
    refine ⟨⟨_, cc⟩, ?_⟩
    have := muI_le cc
    have hd : 2 * ((es.length : Int) - valV w.N es fl10 src).toNat + (if k10 = 0 then 0 else 1) < 2 * ((es.length : Int) - valV w.N es fl src).toNat + (if k = 0 then 0 else 1) := by
      rw [if_neg ck0]
      split <;> omega
    exact Nat.lt_of_le_of_lt this hd
  subst ck0
  have none8 := zero8 rfl
  have leb := k4.en.lt rfl
  simp at leb
  have llo := k4.lk.le
  simp [W8.hc]
  refine st_blkF B8 (by simp) ?_
  intro h9 B9 m9
  simp at B9
  have x9 : Ext h h9 := Mod.ext x8 m9 (fun j hj => by omega)
  have gh9 : GrowH h9 w es fl (markL w.N dst) := ⟨⟨_, _, m9.blk W8 (by omega)⟩, gh8.lk.mod m9 (fun j _ h2 e => by omega), gh8.fl.mod m9 (fun _ => by simp; omega), gh8.en.mod m9 (fun _ => by simp; omega)⟩
  have W9 := m9.blk W8 (by omega)
  have z9 := m9.size
  simp [W9.hc]
  refine flsides_spec (s := Sl.at w.ab w.N w.N) (sf := Sl.at w.fb es.length es.length) P.G.S gh9.lk.here gh9.fl.row64 (rs.ext x9) (rd'.ext x9) ck.ends ck.sr ck.ds ok8.1 bN be (by omega) (by omega) ?_
  intro h10 c f mm ww e10 gc gf' hm hw om ow near' far'
  have z10 := e10.size
  have B10 := B9.ext e10
  simp
  refine st_blkF B10 (by simp) ?_
  intro h11 B11 m11
  simp at B11
  simp
  refine st_blkF B11 (by simp) ?_
  intro h12 B12 m12
  simp at B12
  have m12' : Mod (fun j => j = B) h10 h12 := m11.trans m12
  simp [rd_blk B12]
  have lB := B5.lt
  have z5 := e5.size
  have z6' := m6.size
  have Z4 := m4.blk Z3 (by omega)
  have Z6 := Z4.ext e6
  have Z8 := m8.blk Z6 (by omega)
  have Z9 := m9.blk Z8 (by omega)
  have Z10 := Z9.ext e10
  have Z12 := m12'.blk Z10 (by omega)
  refine ef_store_box Z12 rfl rfl (by simp) ?_
  intro h13 Z13 m13
  simp
  refine resP_xn rfl Z13 rfl ?_
  have x10 := x9.trans e10
  have x13 : Ext h h13 := Mod.ext (Mod.ext x10 m12' (fun j hj => by omega)) m13 (fun j hj => by omega)
  have o13 : Own h13 1 (Sl.at w.fb es.length es.length) (ints64 fl) := ((gh9.fl.ext' e10).mod m12' (fun _ => by simp; omega)).mod m13 (fun _ => by simp; omega)
  have n13 : Own h13 1 (Sl.at c w.N w.N) (boolsM mm) := (om.mod m12' (fun _ => by simp; omega)).mod m13 (fun _ => by simp; omega)
  have r13 : Own h13 1 (Sl.at f w.N w.N) (boolsM ww) := (ow.mod m12' (fun _ => by simp; omega)).mod m13 (fun _ => by simp; omega)
  have pp : ProvesP w.N es src dst (valV w.N es fl src) fl mm ww := ⟨c0, ok8, by simpa using rest8, by simp, by simpa using hm, by simpa using hw, by simpa using near', by simpa using far', fun v hv hre => none8 v (ck.dstN v hv) hre hv⟩
  have := hr1 h13 _ fl mm ww _ _ _ x13 pp o13.row64 n13.rowM r13.rowM
  simpa using this
end
end Go.Rm
