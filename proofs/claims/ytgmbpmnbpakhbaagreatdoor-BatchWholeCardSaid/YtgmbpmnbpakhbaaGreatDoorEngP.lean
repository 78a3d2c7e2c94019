import Derived.Test.YtgmbpmnbpakhbaaGreatDoorEngA
import Derived.IntWalk

/- The engine, part P: how the conditions unfold by simp. -/
set_option linter.unusedSimpArgs false
set_option linter.unusedVariables false
namespace Go.Rm

/-- a call, behind a name -/
def CallP (Y : Sys) (f : Nat) (xs : List Value) (h : Heap) (R : Value → Heap → Prop) : Prop := Y.C (Y.fid f) xs h R

theorem CallP.of_has {Y : Sys} {f : Nat} {S : FnS} (H : Y.Has f S) {xs : List Value} {h : Heap} {R : Value → Heap → Prop} (hl : xs.length = S.np) (hw : S.wp Y xs h R) : CallP Y f xs h R := H.2 xs h R hl hw
theorem CallP.mono {Y : Sys} {f : Nat} {xs : List Value} {h : Heap} {R R' : Value → Heap → Prop} (hc : CallP Y f xs h R) (hr : ∀ v h', R v h' → R' v h') : CallP Y f xs h R' := Y.mono hc hr

/-- one way or the other, by what a test says -/
def CondP (v : Value) (A B : Prop) : Prop :=
  match v with
  | .bool c => if c = true then A else B
  | _ => False

section
variable {Y : Sys} {kn : List Value → Heap → Prop} {ke : Nat → List Value → Heap → Prop} {kr : List Value → Heap → Prop} {e T : List Value} {h : Heap} {K : Kont}

/- What is to come, behind names: simp does not look into it before it is reached. -/
def SeqK (Y : Sys) (b : Stmt) (kn : List Value → Heap → Prop) (ke : Nat → List Value → Heap → Prop) (kr : List Value → Heap → Prop) : List Value → Heap → Prop := fun e h => b.wp Y kn ke kr e h
def RegK (kn : List Value → Heap → Prop) : Kont := fun e _ h => kn e h
def BlockK (id : Nat) (kn : List Value → Heap → Prop) (ke : Nat → List Value → Heap → Prop) : Nat → List Value → Heap → Prop := fun i e h => if i = id then kn e h else ke i e h
def LoopK (I : List Value → Heap → Prop) (μ : List Value → Heap → Nat) (m : Nat) : List Value → Heap → Prop := fun e h => I e h ∧ μ e h < m
def OpK (Y : Sys) (K : Kont) (k : IL) (d : Dst) (e T : List Value) (h : Heap) : Value → Prop := fun v => IL.wp Y K k (d.e v e) (d.T v T) h
def EfK (Y : Sys) (K : Kont) (k : IL) (d : Dst) (e T : List Value) : Value → Heap → Prop := fun v h => IL.wp Y K k (d.e v e) (d.T v T) h
def StmtS (Y : Sys) (s : Stmt) (kn : List Value → Heap → Prop) (ke : Nat → List Value → Heap → Prop) (kr : List Value → Heap → Prop) (e : List Value) (h : Heap) : Prop := s.wp Y kn ke kr e h
@[simp] theorem SeqK_ap {b : Stmt} : SeqK Y b kn ke kr e h = Stmt.wp Y b kn ke kr e h := (rfl)
@[simp] theorem RegK_ap : RegK kn e T h = kn e h := (rfl)
@[simp] theorem BlockK_ap {id i : Nat} : BlockK id kn ke i e h = if i = id then kn e h else ke i e h := (rfl)
@[simp] theorem LoopK_ap {I : List Value → Heap → Prop} {μ : List Value → Heap → Nat} {m : Nat} : LoopK I μ m e h = (I e h ∧ μ e h < m) := (rfl)
@[simp] theorem OpK_ap {k : IL} {d : Dst} {v : Value} : OpK Y K k d e T h v = IL.wp Y K k (d.e v e) (d.T v T) h := (rfl)
@[simp] theorem EfK_ap {k : IL} {d : Dst} {v : Value} : EfK Y K k d e T v h = IL.wp Y K k (d.e v e) (d.T v T) h := (rfl)

@[simp] theorem need_some_eq {v : Value} {k : Value → Prop} : need (some v) k = k v := (rfl)
@[simp] theorem CondP_bool {c : Bool} {a b : Stmt} : CondP (.bool c) (StmtS Y a kn ke kr e h) (StmtS Y b kn ke kr e h) = if c = true then Stmt.wp Y a kn ke kr e h else Stmt.wp Y b kn ke kr e h := (rfl)

@[simp] theorem wp_skip' : Stmt.wp Y .skip kn ke kr e h = kn e h := (rfl)
@[simp] theorem wp_seq' {a b : Stmt} : Stmt.wp Y (.seq a b) kn ke kr e h = a.wp Y (SeqK Y b kn ke kr) ke kr e h := (rfl)
@[simp] theorem wp_reg' {l : IL} : Stmt.wp Y (.reg l) kn ke kr e h = l.wp Y (RegK kn) e [] h := (rfl)
@[simp] theorem wp_cond' {x : Arg} {a b : Stmt} : Stmt.wp Y (.cond x a b) kn ke kr e h = CondP (x.ev Y e []) (StmtS Y a kn ke kr e h) (StmtS Y b kn ke kr e h) := (rfl)
@[simp] theorem wp_block' {id : Nat} {s : Stmt} : Stmt.wp Y (.block id s) kn ke kr e h = s.wp Y kn (BlockK id kn ke) kr e h := (rfl)
@[simp] theorem wp_exit' {id : Nat} : Stmt.wp Y (.exit id) kn ke kr e h = ke id e h := (rfl)
@[simp] theorem wp_ret' : Stmt.wp Y .ret kn ke kr e h = kr e h := (rfl)
theorem wp_loop' {s : Stmt} (I : List Value → Heap → Prop) (μ : List Value → Heap → Nat) (h0 : I e h)
    (hs : ∀ e h, I e h → s.wp Y (LoopK I μ (μ e h)) ke kr e h) : Stmt.wp Y (.loop s) kn ke kr e h := ⟨I, μ, h0, hs⟩

@[simp] theorem il_nil : IL.wp Y K .nil e T h = K e T h := (rfl)
@[simp] theorem il_op {o : IOp} {xs : List Arg} {d : Dst} {k : IL} : IL.wp Y K (.op (.op o xs d) k) e T h = need (o.sem Y h (xs.map (Arg.ev Y e T))) (OpK Y K k d e T h) := (rfl)
@[simp] theorem il_ef {f : Ef} {xs : List Arg} {d : Dst} {k : IL} : IL.wp Y K (.op (.ef f xs d) k) e T h = f.wp h (EfK Y K k d e T) (xs.map (Arg.ev Y e T)) := (rfl)
@[simp] theorem il_call {f : Nat} {xs : List Arg} {d : Dst} {k : IL} : IL.wp Y K (.op (.call f xs d) k) e T h = CallP Y f (xs.map (Arg.ev Y e T)) h (EfK Y K k d e T) := (rfl)
@[simp] theorem il_stab {o : IOp} {xs : List Arg} {v : Arg} {k : IL} : IL.wp Y K (.op (.stab o xs v) k) e T h = (o.sem Y h (xs.map (Arg.ev Y e T)) = some (v.ev Y e T) ∧ IL.wp Y K k e T h) := (rfl)
@[simp] theorem il_gd {g : Arg} {w : Bool} {b : IL} {ds : List Dst} {k : IL} : IL.wp Y K (.gd g w b ds k) e T h = if gdB (g.ev Y e T) w then IL.wp Y (IL.wp Y K k) b e T h else IL.wp Y K k (undE ds e) (undT ds T) h := (rfl)
@[simp] theorem il_alt {a b : IL} : IL.wp Y K (.alt a b) e T h = (IL.wp Y K a e T h ∧ IL.wp Y K b e T h) := (rfl)

@[simp] theorem gdB_bool {b w : Bool} : gdB (.bool b) w = (b == w) := rfl
@[simp] theorem gdB_undefS {w : Bool} : gdB undef w = false := rfl

@[simp] theorem ev_n {i : Nat} : Arg.ev Y e T (.n i) = e.getD i undef := rfl
@[simp] theorem ev_t {i : Nat} : Arg.ev Y e T (.t i) = T.getD i undef := rfl
@[simp] theorem ev_c {v : Value} : Arg.ev Y e T (.c v) = v := rfl
@[simp] theorem ev_f {j : Nat} : Arg.ev Y e T (.f j) = .func (.func (Y.fid j)) #[] #[] := rfl
@[simp] theorem dE_drop {v : Value} : Dst.e v e .drop = e := rfl
@[simp] theorem dE_push {v : Value} : Dst.e v e .push = e := rfl
@[simp] theorem dE_set {v : Value} {i : Nat} : Dst.e v e (.set i) = e.set i v := rfl
@[simp] theorem dT_drop {v : Value} : Dst.T v T .drop = T := rfl
@[simp] theorem dT_push {v : Value} : Dst.T v T .push = T ++ [v] := rfl
@[simp] theorem dT_set {v : Value} {i : Nat} : Dst.T v T (.set i) = T := rfl
@[simp] theorem undE_nil : undE [] e = e := rfl
@[simp] theorem undE_cons {d : Dst} {r : List Dst} : undE (d :: r) e = undE r (d.e undef e) := rfl
@[simp] theorem undT_nil : undT [] T = T := rfl
@[simp] theorem undT_cons {d : Dst} {r : List Dst} : undT (d :: r) T = undT r (d.T undef T) := rfl

-- operations
@[simp] theorem sem_mv {x : Value} : IOp.sem Y h .mv [x] = some x := rfl
@[simp] theorem sem_pick {c : Bool} {a b : Value} : IOp.sem Y h .pick [.bool c, a, b] = some (if c then a else b) := rfl
@[simp] theorem sem_nilck {a : Addr} : IOp.sem Y h .nilck [.pointer (some a)] = some (.pointer (some a)) := rfl
@[simp] theorem sem_ib {op : BinOp} {k j : IntKind} {a b : Int} : IOp.sem Y h (.ib op) [.int k a, .int j b] = ibin op k a j b := rfl
@[simp] theorem ib_add {k : IntKind} {a b : Int} : ibin .add k a k b = some (.int k (k.wrap (a + b))) := by simp [ibin]
@[simp] theorem ib_sub {k : IntKind} {a b : Int} : ibin .sub k a k b = some (.int k (k.wrap (a - b))) := by simp [ibin]
@[simp] theorem ib_mul {k : IntKind} {a b : Int} : ibin .mul k a k b = some (.int k (k.wrap (a * b))) := by simp [ibin]
theorem ib_quo {k : IntKind} {a b : Int} (hb : b ≠ 0) : ibin .quo k a k b = some (.int k (k.wrap (a.tdiv b))) := by simp [ibin, hb]
theorem ib_rem {k : IntKind} {a b : Int} (hb : b ≠ 0) : ibin .rem k a k b = some (.int k (a.tmod b)) := by simp [ibin, hb]
@[simp] theorem ib_lss {k : IntKind} {a b : Int} : ibin .lss k a k b = some (.bool (decide (a < b))) := by simp [ibin]
@[simp] theorem ib_leq {k : IntKind} {a b : Int} : ibin .leq k a k b = some (.bool (decide (a ≤ b))) := by simp [ibin]
@[simp] theorem ib_gtr {k : IntKind} {a b : Int} : ibin .gtr k a k b = some (.bool (decide (b < a))) := by simp [ibin]
@[simp] theorem ib_geq {k : IntKind} {a b : Int} : ibin .geq k a k b = some (.bool (decide (b ≤ a))) := by simp [ibin]
@[simp] theorem ib_eql {k : IntKind} {a b : Int} : ibin .eql k a k b = some (.bool (decide (a = b))) := by
  simp [ibin]; rw [Bool.eq_iff_iff]; simp
@[simp] theorem ib_neq {k : IntKind} {a b : Int} : ibin .neq k a k b = some (.bool (decide (a ≠ b))) := by
  simp [ibin]; rw [Bool.eq_iff_iff]; simp
@[simp] theorem sem_not {b : Bool} : IOp.sem Y h (.un .not) [.bool b] = some (.bool !b) := rfl
@[simp] theorem sem_neg {k : IntKind} {n : Int} : IOp.sem Y h (.un .neg) [.int k n] = some (.int k (k.wrap (0 - n))) := rfl
@[simp] theorem sem_conv {k j : IntKind} {n : Int} : IOp.sem Y h (.conv k) [.int j n] = some (.int k (k.wrap n)) := rfl
@[simp] theorem sem_fadr {off b o : Nat} : IOp.sem Y h (.fadr off) [.pointer (some ⟨b, o, none⟩)] = some (.pointer (some ⟨b, o + off, none⟩)) := rfl
@[simp] theorem sem_load1 {n b o : Nat} : IOp.sem Y h (.load n false) [.pointer (some ⟨b, o, none⟩)] = hc h b o := rfl
@[simp] theorem sem_loadn {n b o : Nat} : IOp.sem Y h (.load n true) [.pointer (some ⟨b, o, none⟩)] = (rd h b o n).bind fun l => some (.agg l.toArray) := rfl
@[simp] theorem sem_mn {k j : IntKind} {x y : Int} : IOp.sem Y h .mn [.int k x, .int j y] = some (.int k (if y < x then y else x)) := rfl
@[simp] theorem sem_mx {k j : IntKind} {x y : Int} : IOp.sem Y h .mx [.int k x, .int j y] = some (.int k (if x < y then y else x)) := rfl
@[simp] theorem sem_ext {i : Nat} {vs : Array Value} : IOp.sem Y h (.ext i) [.tuple vs] = vs[i]? := rfl
@[simp] theorem sem_eqb {neg a b : Bool} : IOp.sem Y h (.eqb neg) [.bool a, .bool b] = some (.bool (if neg then !(a == b) else (a == b))) := rfl
@[simp] theorem sem_eqp_none {neg : Bool} {b : Option Addr} : IOp.sem Y h (.eqp neg) [.pointer none, .pointer b] = some (.bool (if neg then !b.isNone else b.isNone)) := rfl
@[simp] theorem sem_eqp_some {neg : Bool} {a : Addr} : IOp.sem Y h (.eqp neg) [.pointer (some a), .pointer none] = some (.bool neg) := by cases neg <;> rfl
@[simp] theorem sem_eqi_nn {neg : Bool} : IOp.sem Y h (.eqi neg true) [.nilIface, .nilIface] = some (.bool (!neg)) := by cases neg <;> rfl
@[simp] theorem sem_eqi_in {neg lit : Bool} {t : TypeId} {v : Value} : IOp.sem Y h (.eqi neg lit) [.iface t v, .nilIface] = some (.bool neg) := by cases neg <;> rfl
@[simp] theorem sem_eqi_ni {neg lit : Bool} {t : TypeId} {v : Value} : IOp.sem Y h (.eqi neg lit) [.nilIface, .iface t v] = some (.bool neg) := by cases neg <;> rfl
@[simp] theorem sem_mkI {t : Nat} {v : Value} : IOp.sem Y h (.mkI t) [v] = some (.iface (Y.tid t) v) := rfl
@[simp] theorem sem_fld1 {off n : Nat} {cs : Array Value} : IOp.sem Y h (.fld off n false) [.agg cs] = cs[off]? := rfl
@[simp] theorem sem_fldn {off n : Nat} {cs : Array Value} : IOp.sem Y h (.fld off n true) [.agg cs] = some (.agg (cs.extract off (off + n))) := rfl
@[simp] theorem sem_lenA {n : Nat} {v : Value} : IOp.sem Y h (.lenA n) [v] = some (.int .i64 n) := rfl
@[simp] theorem sem_lenS {s : ByteArray} : IOp.sem Y h .lenS [.string s] = some (.int .i64 s.size) := rfl
@[simp] theorem sem_sb {op : BinOp} {a b : ByteArray} : IOp.sem Y h (.sb op) [.string a, .string b] = sbin op a b := rfl

theorem i64_wrap {n : Int} (h : -9223372036854775808 ≤ n ∧ n ≤ 9223372036854775807) : IntKind.i64.wrap n = n := by rw [IntKind.wrap_i64]; omega

-- results
@[simp] theorem resP_nil {R : Value → Heap → Prop} : resP [] R e h = R (.tuple #[]) h := (rfl)
@[simp] theorem resP_n {R : Value → Heap → Prop} {i : Nat} : resP [.n i] R e h = R (e.getD i undef) h := (rfl)
@[simp] theorem resP_n2 {R : Value → Heap → Prop} {i j : Nat} : resP [.n i, .n j] R e h = R (.tuple #[e.getD i undef, e.getD j undef]) h := (rfl)
@[simp] theorem resP_n3 {R : Value → Heap → Prop} {i j k : Nat} : resP [.n i, .n j, .n k] R e h = R (.tuple #[e.getD i undef, e.getD j undef, e.getD k undef]) h := (rfl)
end
end Go.Rm

/- The engine, part Q: slices, blocks, stores. -/
set_option linter.unusedSimpArgs false
set_option linter.unusedVariables false
namespace Go.Rm

/-- a slice: its block, where it begins, its length, its room; nl: it is nil -/
structure Sl where
  b : Nat
  o : Nat
  n : Nat
  c : Nat
  nl : Bool
  sp : Option Nat := none

def Sl.v (s : Sl) : Value := .slice (if s.nl then none else some ⟨s.b, s.o, s.sp⟩) s.n s.c
/-- a nil slice is empty; no more than there is room for -/
structure Sl.ok (s : Sl) : Prop where
  nil : s.nl = true → s.n = 0 ∧ s.c = 0
  le : s.n ≤ s.c
  spot : s.sp = none ∨ s.c = 0

def Sl.nil : Sl := ⟨0, 0, 0, 0, true, none⟩
theorem Sl.nil_v : Sl.nil.v = .slice none 0 0 := rfl
theorem Sl.nil_ok : Sl.nil.ok := ⟨fun _ => ⟨rfl, rfl⟩, Nat.le_refl _, .inl rfl⟩
def Sl.at (b n c : Nat) : Sl := ⟨b, 0, n, c, false, none⟩
@[simp] theorem Sl.at_sp {b n c : Nat} : (Sl.at b n c).sp = none := rfl
@[simp] theorem Sl.at_v {b n c : Nat} : (Sl.at b n c).v = .slice (some ⟨b, 0, none⟩) n c := rfl
@[simp] theorem Sl.at_n {b n c : Nat} : (Sl.at b n c).n = n := rfl
@[simp] theorem Sl.at_c {b n c : Nat} : (Sl.at b n c).c = c := rfl
@[simp] theorem Sl.at_o {b n c : Nat} : (Sl.at b n c).o = 0 := rfl
@[simp] theorem Sl.at_b {b n c : Nat} : (Sl.at b n c).b = b := rfl
@[simp] theorem Sl.at_nl {b n c : Nat} : (Sl.at b n c).nl = false := rfl

section
variable {Y : Sys} {h : Heap}

@[simp] theorem oneCell_int {k : IntKind} {n : Int} : (Value.int k n).oneCell' = true := rfl
@[simp] theorem oneCell_bool {b : Bool} : (Value.bool b).oneCell' = true := rfl
@[simp] theorem oneCell_string {b : ByteArray} : (Value.string b).oneCell' = true := rfl
@[simp] theorem oneCell_pointer {b : Option Addr} : (Value.pointer b).oneCell' = true := rfl
@[simp] theorem oneCell_slice {b : Option Addr} {n c : Nat} : (Value.slice b n c).oneCell' = true := rfl
@[simp] theorem oneCell_iface {t : TypeId} {v : Value} : (Value.iface t v).oneCell' = true := rfl
@[simp] theorem oneCell_nilIface : (Value.nilIface).oneCell' = true := rfl
@[simp] theorem oneCell_slv {s : Sl} : s.v.oneCell' = true := rfl
@[simp] theorem cells_slv {s : Sl} : s.v.cells = #[s.v] := rfl
@[simp] theorem sem_len {s : Sl} : IOp.sem Y h .len [s.v] = some (.int .i64 s.n) := rfl
@[simp] theorem sem_len' {a : Option Addr} {n c : Nat} : IOp.sem Y h .len [.slice a n c] = some (.int .i64 n) := rfl

theorem sem_idxa {s : Sl} {sz : Nat} {k : IntKind} {i : Int} (hok : s.ok) (h0 : 0 ≤ i) (h1 : i < s.n) :
    IOp.sem Y h (.idxa sz) [s.v, .int k i] = some (.pointer (some ⟨s.b, s.o + i.toNat * sz, none⟩)) := by
  have hn : s.nl = false := by
    cases hnl : s.nl with
    | false => rfl
    | true => have := (hok.nil hnl).1; omega
  have hsp : s.sp = none := by
    rcases hok.spot with h | h
    · exact h
    · have := hok.le; omega
  have hv : s.v = .slice (some ⟨s.b, s.o, none⟩) s.n s.c := by simp [Sl.v, hn, hsp]
  rw [hv]
  show (if 0 ≤ i ∧ i < s.n then some (Value.pointer (some ⟨s.b, s.o + i.toNat * sz, none⟩)) else none) = _
  rw [if_pos ⟨h0, h1⟩]

/-- s[:h] -/
theorem sem_slc_hi {s : Sl} {sz : Nat} {k : IntKind} {j : Int} (hok : s.ok) (h0 : 0 ≤ j) (h1 : j ≤ s.c) :
    IOp.sem Y h (.slc sz false true) [s.v, .int k j] = some (Sl.v { s with n := j.toNat }) := by
  have hc : cutB s.n s.c false true [.int k j] = some (0, j.toNat) := by
    show (if 0 ≤ j ∧ j ≤ s.c then some (0, j.toNat) else none) = _
    rw [if_pos ⟨h0, h1⟩]
  cases hnl : s.nl with
  | true =>
    have hv : s.v = .slice none s.n s.c := by simp [Sl.v, hnl]
    rw [hv]
    show (cutB s.n s.c false true [.int k j]).bind _ = _
    rw [hc]
    simp only [Option.bind_some, Sl.v, hnl]
    first | rfl | (congr 1; simp) | simp
  | false =>
    cases hsp : s.sp with
    | some q =>
      have hc0 : s.c = 0 := hok.spot.resolve_left (by rw [hsp]; simp)
      have hle := hok.le
      have hv : s.v = .slice (some ⟨s.b, s.o, some q⟩) s.n s.c := by simp [Sl.v, hnl, hsp]
      rw [hv]
      show (cutB s.n s.c false true [.int k j]).bind _ = _
      rw [hc]
      simp only [Option.bind_some, Sl.v, hnl]
      simp [hc0]
    | none =>
    have hv : s.v = .slice (some ⟨s.b, s.o, none⟩) s.n s.c := by simp [Sl.v, hnl, hsp]
    rw [hv]
    show (cutB s.n s.c false true [.int k j]).bind _ = _
    rw [hc]
    simp only [Option.bind_some, Sl.v, hnl]
    first | rfl | (congr 1; simp) | simp

/-- s[l:] -/
theorem sem_slc_lo {s : Sl} {sz : Nat} {k : IntKind} {j : Int} (hok : s.ok) (h0 : 0 ≤ j) (h1 : j ≤ s.n) :
    IOp.sem Y h (.slc sz true false) [s.v, .int k j] = some (Sl.v { s with o := if s.c = j.toNat then s.o else s.o + j.toNat * sz, n := s.n - j.toNat, c := s.c - j.toNat }) := by
  have hc : cutB s.n s.c true false [.int k j] = some (j.toNat, s.n) := by
    show (if 0 ≤ j ∧ j ≤ s.n then some (j.toNat, s.n) else none) = _
    rw [if_pos ⟨h0, h1⟩]
  cases hnl : s.nl with
  | true =>
    have hv : s.v = .slice none s.n s.c := by simp [Sl.v, hnl]
    rw [hv]
    show (cutB s.n s.c true false [.int k j]).bind _ = _
    rw [hc]
    simp only [Option.bind_some, Sl.v, hnl]
    first | rfl | (congr 1; simp) | simp
  | false =>
    cases hsp : s.sp with
    | some q =>
      have hc0 : s.c = 0 := hok.spot.resolve_left (by rw [hsp]; simp)
      have hle := hok.le
      have hv : s.v = .slice (some ⟨s.b, s.o, some q⟩) s.n s.c := by simp [Sl.v, hnl, hsp]
      rw [hv]
      show (cutB s.n s.c true false [.int k j]).bind _ = _
      rw [hc]
      simp only [Option.bind_some, Sl.v, hnl]
      have hj : j.toNat = 0 := by omega
      simp [hc0, hj]
    | none =>
    have hv : s.v = .slice (some ⟨s.b, s.o, none⟩) s.n s.c := by simp [Sl.v, hnl, hsp]
    rw [hv]
    show (cutB s.n s.c true false [.int k j]).bind _ = _
    rw [hc]
    simp only [Option.bind_some, Sl.v, hnl]
    first | rfl | (congr 1; simp) | simp

/-- s[l:h] -/
theorem sem_slc_both {s : Sl} {sz : Nat} {k k' : IntKind} {i j : Int} (hok : s.ok) (h0 : 0 ≤ i) (h1 : i ≤ j) (h2 : j ≤ s.c) :
    IOp.sem Y h (.slc sz true true) [s.v, .int k i, .int k' j] = some (Sl.v { s with o := if s.c = i.toNat then s.o else s.o + i.toNat * sz, n := j.toNat - i.toNat, c := s.c - i.toNat }) := by
  have hc : cutB s.n s.c true true [.int k i, .int k' j] = some (i.toNat, j.toNat) := by
    show (if 0 ≤ i ∧ i ≤ j ∧ j ≤ s.c then some (i.toNat, j.toNat) else none) = _
    rw [if_pos ⟨h0, h1, h2⟩]
  cases hnl : s.nl with
  | true =>
    have hv : s.v = .slice none s.n s.c := by simp [Sl.v, hnl]
    rw [hv]
    show (cutB s.n s.c true true [.int k i, .int k' j]).bind _ = _
    rw [hc]
    simp only [Option.bind_some, Sl.v, hnl]
    first | rfl | (congr 1; simp) | simp
  | false =>
    cases hsp : s.sp with
    | some q =>
      have hc0 : s.c = 0 := hok.spot.resolve_left (by rw [hsp]; simp)
      have hle := hok.le
      have hv : s.v = .slice (some ⟨s.b, s.o, some q⟩) s.n s.c := by simp [Sl.v, hnl, hsp]
      rw [hv]
      show (cutB s.n s.c true true [.int k i, .int k' j]).bind _ = _
      rw [hc]
      simp only [Option.bind_some, Sl.v, hnl]
      have hj : i.toNat = 0 := by omega
      simp [hc0, hj]
    | none =>
    have hv : s.v = .slice (some ⟨s.b, s.o, none⟩) s.n s.c := by simp [Sl.v, hnl, hsp]
    rw [hv]
    show (cutB s.n s.c true true [.int k i, .int k' j]).bind _ = _
    rw [hc]
    simp only [Option.bind_some, Sl.v, hnl]
    first | rfl | (congr 1; simp) | simp

-- blocks
/-- block b is a row of cells, none of it frozen -/
def Blk (h : Heap) (b : Nat) (c : Array Value) : Prop := ∃ t, h[b]? = some (.cells c t (0, 0))

theorem Blk.lt {b : Nat} {c : Array Value} (hb : Blk h b c) : b < h.size := by
  obtain ⟨t, ht⟩ := hb
  exact (Array.getElem?_eq_some_iff.1 ht).1
theorem Blk.hc {b o : Nat} {c : Array Value} (hb : Blk h b c) : hc h b o = c[o]? := by
  obtain ⟨t, ht⟩ := hb
  simp [Rm.hc, ht]
theorem Blk.hfz {b o : Nat} {c : Array Value} (hb : Blk h b c) : hfz h b o = false := by
  obtain ⟨t, ht⟩ := hb
  simp [Rm.hfz, ht]
theorem Blk.uniq {b : Nat} {c d : Array Value} (hb : Blk h b c) (hd : Blk h b d) : c = d := by
  obtain ⟨t, ht⟩ := hb
  obtain ⟨u, hu⟩ := hd
  rw [ht] at hu
  cases hu; rfl

theorem hset_get {b o : Nat} {v : Value} {j : Nat} (hj : j ≠ b) : (hset h b o v)[j]? = h[j]? := by
  unfold hset
  rw [Array.getElem?_modify]
  rw [if_neg (fun e => hj (Eq.symm e))]
@[simp] theorem hset_size {b o : Nat} {v : Value} : (hset h b o v).size = h.size := by simp [hset]

theorem Blk.set {b o : Nat} {c : Array Value} {v : Value} (hb : Blk h b c) : Blk (hset h b o v) b (c.setIfInBounds o v) := by
  obtain ⟨t, ht⟩ := hb
  refine ⟨t, ?_⟩
  unfold hset
  rw [Array.getElem?_modify, ht]
  simp
theorem Blk.set_ne {b b' o : Nat} {c : Array Value} {v : Value} (hb : Blk h b c) (hne : b ≠ b') : Blk (hset h b' o v) b c := by
  obtain ⟨t, ht⟩ := hb
  exact ⟨t, by rw [hset_get hne]; exact ht⟩
theorem Blk.push {b : Nat} {c : Array Value} {x : Obj} (hb : Blk h b c) : Blk (h.push x) b c := by
  obtain ⟨t, ht⟩ := hb
  have := (Array.getElem?_eq_some_iff.1 ht).1
  exact ⟨t, by rw [Array.getElem?_push_lt this]; exact (Array.getElem?_eq_getElem this).symm.trans ht⟩
theorem Blk.new {c : Array Value} {t : TypeId} : Blk (h.push (.cells c t)) h.size c := ⟨t, by simp⟩

/-- the store of one cell -/
theorem ef_store1 {K : Value → Heap → Prop} {b o : Nat} {v : Value} (hv : v.oneCell' = true) (hcell : (hc h b o).isSome = true) (hf : hfz h b o = false) (hk : K undef (hset h b o v)) :
    Ef.wp h K (.store 1) [.pointer (some ⟨b, o, none⟩), v] := by
  have hcs : v.cells = #[v] := by cases v <;> first | rfl | (cases hv)
  have hh : hst h b o v.cells.toList = some (hset h b o v) := by simp [hcs, hst, hcell, hf, hv]
  refine ⟨by simp [hcs], ?_⟩
  rw [hh]
  exact hk

theorem ef_store_blk {K : Value → Heap → Prop} {b o : Nat} {c : Array Value} {v : Value} (hv : v.oneCell' = true) (hb : Blk h b c) (ho : o < c.size) (hk : K undef (hset h b o v)) :
    Ef.wp h K (.store 1) [.pointer (some ⟨b, o, none⟩), v] :=
  ef_store1 hv (by rw [hb.hc]; simp [ho]) hb.hfz hk

theorem ef_new {K : Value → Heap → Prop} {v : Value} : Ef.wp h K .new [v] = ∀ t : TypeId, K (.pointer (some ⟨h.size, 0, none⟩)) (h.push (.cells v.cells t)) := rfl
theorem ef_mkslice {K : Value → Heap → Prop} {sz bytes : Nat} {zero : Array Value} {j k : IntKind} {l c : Int} :
    Ef.wp h K (.mkslice sz bytes zero) [.int j l, .int k c] = (0 ≤ l ∧ l ≤ c ∧ c ≤ 9223372036854775807 ∧ (bytes : Int) * c ≤ 281474976710656 ∧
      ∀ t : TypeId, K (.slice (some ⟨h.size, 0, none⟩) l.toNat c.toNat) (h.push (.cells (zeros zero (c.toNat * sz)) t))) := rfl

theorem zeros_one {v : Value} {n : Nat} : zeros #[v] n = Array.replicate n v := by
  apply Array.ext
  · simp [zeros]
  · intro i h1 h2
    simp [zeros, Nat.mod_one]

/-- what is left alone: all blocks but those of S -/
structure Mod (S : Nat → Prop) (h h' : Heap) : Prop where
  size : h.size ≤ h'.size
  get : ∀ b, b < h.size → ¬ S b → h'[b]? = h[b]?

theorem Mod.refl {S : Nat → Prop} (h : Heap) : Mod S h h := ⟨Nat.le_refl _, fun _ _ _ => rfl⟩
theorem Mod.trans {S : Nat → Prop} {a b c : Heap} (h1 : Mod S a b) (h2 : Mod S b c) : Mod S a c :=
  ⟨Nat.le_trans h1.size h2.size, fun i hi hs => (h2.get i (Nat.lt_of_lt_of_le hi h1.size) hs).trans (h1.get i hi hs)⟩
theorem Mod.then {S S' : Nat → Prop} {a b c : Heap} (h1 : Mod S a b) (h2 : Mod S' b c) (hs : ∀ i, i < a.size → S' i → S i) : Mod S a c :=
  ⟨Nat.le_trans h1.size h2.size, fun i hi hn => (h2.get i (Nat.lt_of_lt_of_le hi h1.size) (fun h => hn (hs i hi h))).trans (h1.get i hi hn)⟩
theorem Mod.mono {S S' : Nat → Prop} {a b : Heap} (h : Mod S a b) (hs : ∀ i, i < a.size → S i → S' i) : Mod S' a b := ⟨h.size, fun i hi hn => h.get i hi fun hS => hn (hs i hi hS)⟩
theorem Mod.set {S : Nat → Prop} {b o : Nat} {v : Value} (hb : S b) : Mod S h (hset h b o v) := ⟨by simp, fun i _ hn => hset_get fun e => hn (e ▸ hb)⟩
theorem Mod.push {S : Nat → Prop} {x : Obj} : Mod S h (h.push x) := ⟨by simp, fun i hi _ => by rw [Array.getElem?_push_lt hi]; exact (Array.getElem?_eq_getElem hi).symm⟩
theorem Mod.blk {S : Nat → Prop} {h' : Heap} {b : Nat} {c : Array Value} (hm : Mod S h h') (hb : Blk h b c) (hs : ¬ S b) : Blk h' b c := by
  obtain ⟨t, ht⟩ := hb
  exact ⟨t, by rw [hm.get b (Blk.lt ⟨t, ht⟩) hs]; exact ht⟩
theorem Mod.hc {S : Nat → Prop} {h' : Heap} {b o : Nat} {v : Value} (hm : Mod S h h') (hb : hc h b o = some v) (hs : ¬ S b) : hc h' b o = some v := by
  have hlt : b < h.size := by
    rcases Nat.lt_or_ge b h.size with h1 | h1
    · exact h1
    · simp [Rm.hc, Array.getElem?_eq_none h1] at hb
  unfold Rm.hc at *
  rw [hm.get b hlt hs]; exact hb

/-- nothing old is changed -/
abbrev Ext (h h' : Heap) : Prop := Mod (fun _ => False) h h'

/-- a slice that begins at the head of a block of its own: its cells, and what room there is -/
def Own (h : Heap) (sz : Nat) (s : Sl) (cells : List Value) : Prop :=
  cells.length = s.n * sz ∧ ((s = Sl.nil ∧ cells = []) ∨
    (s.nl = false ∧ s.o = 0 ∧ s.sp = none ∧ s.n ≤ s.c ∧ s.c ≤ 9223372036854775807 ∧ ∃ arr : Array Value, Blk h s.b arr ∧ arr.size = s.c * sz ∧ arr.toList.take (s.n * sz) = cells))

theorem Own.ok {sz : Nat} {s : Sl} {cells : List Value} (ho : Own h sz s cells) : s.ok := by
  rcases ho.2 with ⟨rfl, _⟩ | ⟨h1, h2, hsp, h3, _⟩
  · exact Sl.nil_ok
  · exact ⟨fun h => absurd h (by rw [h1]; simp), h3, .inl hsp⟩

theorem Own.nil {sz : Nat} : Own h sz Sl.nil [] := ⟨by simp [Sl.nil], .inl ⟨rfl, rfl⟩⟩

theorem Own.lt {sz : Nat} {s : Sl} {cells : List Value} (ho : Own h sz s cells) (hn : s.nl = false) : s.b < h.size := by
  rcases ho.2 with ⟨rfl, _⟩ | ⟨_, _, _, _, _, arr, hb, _⟩
  · cases hn
  · exact hb.lt

theorem Own.cell {sz : Nat} {s : Sl} {cells : List Value} (ho : Own h sz s cells) {i : Nat} {v : Value} (hi : cells[i]? = some v) : hc h s.b (s.o + i) = some v := by
  rcases ho.2 with ⟨_, rfl⟩ | ⟨h1, h2, hsp, h3, _, arr, hb, hs, ht⟩
  · cases hi
  · rw [hb.hc, h2, Nat.zero_add]
    rw [← ht, List.getElem?_take] at hi
    split at hi
    · simpa using hi
    · cases hi

theorem Own.mod {S : Nat → Prop} {h' : Heap} {sz : Nat} {s : Sl} {cells : List Value} (ho : Own h sz s cells) (hm : Mod S h h') (hs : s.nl = false → ¬ S s.b) : Own h' sz s cells := by
  refine ⟨ho.1, ?_⟩
  rcases ho.2 with h1 | ⟨h1, h2, hsp, h3, h4, arr, hb, h5, h6⟩
  · exact .inl h1
  · exact .inr ⟨h1, h2, hsp, h3, h4, arr, hm.blk hb (hs h1), h5, h6⟩

/-- a cell of a slice of one's own is stored -/
theorem Own.set {s : Sl} {cells : List Value} (ho : Own h 1 s cells) {i : Nat} {v : Value} (hi : i < cells.length) : Own (hset h s.b (s.o + i) v) 1 s (cells.set i v) := by
  refine ⟨by simp [ho.1], ?_⟩
  rcases ho.2 with ⟨_, rfl⟩ | ⟨h1, h2, hsp, h3, h4, arr, hb, h5, h6⟩
  · simp at hi
  · refine .inr ⟨h1, h2, hsp, h3, h4, arr.setIfInBounds (s.o + i) v, hb.set, by simp [h5], ?_⟩
    rw [h2, Nat.zero_add, Array.toList_setIfInBounds, ← h6, List.take_set]

theorem Own.blk {sz : Nat} {s : Sl} {cells : List Value} (ho : Own h sz s cells) {i : Nat} (hi : i < cells.length) : ∃ arr, Blk h s.b arr ∧ s.o + i < arr.size ∧ s.nl = false := by
  rcases ho.2 with ⟨_, rfl⟩ | ⟨h1, h2, hsp, h3, h4, arr, hb, h5, h6⟩
  · simp at hi
  · refine ⟨arr, hb, ?_, h1⟩
    have : cells.length ≤ arr.size := by rw [← h6, List.length_take]; simp; omega
    omega

theorem Own.take {sz : Nat} {s : Sl} {cells : List Value} (ho : Own h sz s cells) {k : Nat} (hk : k ≤ s.n) : Own h sz { s with n := k } (cells.take (k * sz)) := by
  rcases ho.2 with ⟨rfl, rfl⟩ | ⟨h1, h2, hsp, h3, h4, arr, hb, h5, h6⟩
  · have : k = 0 := Nat.le_zero.1 hk
    subst this
    exact ⟨by simp, .inl ⟨rfl, by simp⟩⟩
  · have hle : k * sz ≤ s.n * sz := Nat.mul_le_mul_right _ hk
    refine ⟨by rw [List.length_take, ho.1, Nat.min_eq_left hle], .inr ⟨h1, h2, hsp, Nat.le_trans hk h3, h4, arr, hb, h5, ?_⟩⟩
    rw [← h6, List.take_take, Nat.min_eq_left hle]

theorem hst_blk {b : Nat} : ∀ {vs : List Value} {o : Nat} {arr : Array Value} {h : Heap}, Blk h b arr → o + vs.length ≤ arr.size → (∀ v ∈ vs, v.oneCell' = true) →
    ∃ h', hst h b o vs = some h' ∧ Blk h' b (arr.toList.take o ++ vs ++ arr.toList.drop (o + vs.length)).toArray ∧ Mod (fun j => j = b) h h' ∧ h'.size = h.size := by
  intro vs
  induction vs with
  | nil =>
    intro o arr h hb _ _
    refine ⟨h, rfl, ?_, Mod.refl h, rfl⟩
    simpa using hb
  | cons v r ih =>
    intro o arr h hb hle h1
    have ho : o < arr.size := by simp at hle; omega
    obtain ⟨h', g1, g2, g3, g4⟩ := ih (o := o + 1) (h := hset h b o v) hb.set (by simp at hle ⊢; omega) (fun u hu => h1 u (List.mem_cons_of_mem _ hu))
    refine ⟨h', ?_, ?_, Mod.trans (S := fun j => j = b) (Mod.set (S := fun j => j = b) rfl) g3, by rw [g4]; simp⟩
    · have hcell : (hc h b o).isSome = true := by rw [hb.hc]; simp [ho]
      simp only [hst, hcell, hb.hfz, h1 v (by simp), Bool.not_false, Bool.and_self, if_true, g1]
    · have he : (arr.toList.take o ++ (v :: r) ++ arr.toList.drop (o + (v :: r).length)) = ((arr.setIfInBounds o v).toList.take (o + 1) ++ r ++ (arr.setIfInBounds o v).toList.drop (o + 1 + r.length)) := by
        rw [Array.toList_setIfInBounds]
        have hl : o < arr.toList.length := by simpa using ho
        have h1 : (arr.toList.set o v).take (o + 1) = arr.toList.take o ++ [v] := by
          rw [List.set_eq_take_append_cons_drop, if_pos hl, List.take_append, List.length_take, Nat.min_eq_left (Nat.le_of_lt hl), List.take_of_length_le (by simp; omega)]
          simp
        have h2 : (arr.toList.set o v).drop (o + 1 + r.length) = arr.toList.drop (o + (v :: r).length) := by
          rw [List.drop_set_of_lt (by omega)]
          simp only [List.length_cons]
          congr 1
          omega
        rw [h1, h2]
        simp
      rw [he]; exact g2

theorem rd_of {b : Nat} : ∀ {l : List Value} {o : Nat}, (∀ i v, l[i]? = some v → hc h b (o + i) = some v) → rd h b o l.length = some l := by
  intro l
  induction l with
  | nil => intro o _; rfl
  | cons v l ih =>
    intro o hl
    have h0 : hc h b o = some v := by have := hl 0 v rfl; simpa using this
    have h1 := ih (o := o + 1) fun i u hi => by have := hl (i + 1) u (by simpa using hi); rwa [show o + 1 + i = o + (i + 1) by omega]
    simp only [List.length_cons, rd, h0, Option.bind_some, h1]

theorem size_zeroCells' (z : Array Value) (n : Nat) : (Builtin.zeroCells z n).size = n * z.size := by simp [Builtin.zeroCells]

/-- append to a slice of one's own -/
theorem ef_append_own {K : Value → Heap → Prop} {sz bytes m : Nat} {zero : Array Value} {s : Sl} {cells nw : List Value} {x : Value} (ho : Own h sz s cells) (hx : lenV x = some m) (hsrc : srcOf h sz m x = some nw)
    (hl : nw.length = m * sz) (h1 : ∀ v ∈ nw, v.oneCell' = true) (hz : zero.size = sz) (hb : (s.n + m) * bytes ≤ 140737488355328) (h63 : s.n + m ≤ 9223372036854775807)
    (hk : ∀ (s' : Sl) (h' : Heap), Own h' sz s' (cells ++ nw) → s'.n = s.n + m → Mod (fun j => s.nl = false ∧ j = s.b) h h' → ((s'.b = s.b ∧ s'.nl = s.nl) ∨ (h.size ≤ s'.b ∧ s'.nl = false)) → K s'.v h') :
    Ef.wp h K (.append sz bytes zero) [s.v, x] := by
  have hlen : (cells ++ nw).length = (s.n + m) * sz := by rw [List.length_append, ho.1, hl, Nat.add_mul]
  have hsv : s.v = .slice (if s.nl then none else some ⟨s.b, s.o, s.sp⟩) s.n s.c := rfl
  rw [hsv]
  simp only [Ef.wp, hx, hsrc]
  -- what a new row is
  have grown : ∀ (old : List Value) (t : TypeId) (nc : Nat), old = cells → s.n + m ≤ nc → nc ≤ 9223372036854775807 →
      K (.slice (some ⟨h.size, 0, none⟩) (s.n + m) nc) (h.push (.cells (old.toArray ++ nw.toArray ++ Builtin.zeroCells zero (nc - (s.n + m))) t)) := by
    intro old t nc he hge hle
    subst he
    have hO : Own (h.push (.cells (old.toArray ++ nw.toArray ++ Builtin.zeroCells zero (nc - (s.n + m))) t)) sz (Sl.at h.size (s.n + m) nc) (old ++ nw) := by
      refine ⟨hlen, .inr ⟨rfl, rfl, rfl, hge, hle, _, Blk.new, ?_, ?_⟩⟩
      · simp only [Array.size_append, List.size_toArray, size_zeroCells', hz, ho.1, hl, ← Nat.add_mul, Sl.at_c]
        congr 1
        omega
      · simp only [Array.toList_append, Sl.at_n]
        rw [← hlen]
        exact List.take_left
    exact hk (Sl.at h.size (s.n + m) nc) _ hO rfl Mod.push (.inr ⟨Nat.le_refl _, rfl⟩)
  rcases ho.2 with ⟨rfl, rfl⟩ | ⟨g1, g2, gsp, g3, g4, arr, gb, g5, g6⟩
  · have hn0 : Sl.nil.n = 0 := rfl
    have hc0 : Sl.nil.c = 0 := rfl
    simp only [Sl.nil, if_true]
    by_cases hm : 0 + m ≤ 0
    · rw [if_pos hm]
      have hm0 : m = 0 := by omega
      subst hm0
      have hnw : nw = [] := List.eq_nil_of_length_eq_zero (by simpa using hl)
      subst hnw
      exact hk Sl.nil h Own.nil rfl (Mod.refl h) (.inl ⟨rfl, rfl⟩)
    · rw [if_neg hm]
      refine ⟨by simpa [hn0] using h63, by simpa [hn0] using hb, ?_⟩
      simp only [srcOf]
      intro t nc hge hle
      exact grown [] t nc rfl (by simpa [hn0] using hge) hle
  · simp only [g1, gsp, Bool.false_eq_true, if_false]
    have hcells : rd h s.b s.o (s.n * sz) = some cells := by
      rw [← ho.1]
      exact rd_of fun i v hi => ho.cell hi
    by_cases hr : s.n + m ≤ s.c
    · rw [if_pos hr]
      have hfit : s.n * sz + nw.length ≤ arr.size := by rw [hl, g5, ← Nat.add_mul]; exact Nat.mul_le_mul_right _ hr
      obtain ⟨h', q1, q2, q3, q4⟩ := hst_blk (o := s.n * sz) (vs := nw) gb hfit h1
      rw [g2, Nat.zero_add, q1]
      have hO : Own h' sz { s with n := s.n + m } (cells ++ nw) := by
        refine ⟨hlen, .inr ⟨g1, g2, gsp, hr, g4, _, q2, ?_, ?_⟩⟩
        · simp only [List.size_toArray, List.length_append, List.length_take, List.length_drop, Array.length_toList]
          omega
        · simp only
          rw [g6, ← hlen]
          exact List.take_left
      have := hk { s with n := s.n + m } h' hO rfl (q3.mono fun i _ hi => ⟨g1, hi⟩) (.inl ⟨rfl, rfl⟩)
      simpa only [Sl.v, g1, g2, gsp, Bool.false_eq_true, if_false] using this
    · rw [if_neg hr]
      refine ⟨h63, hb, ?_⟩
      simp only [srcOf, hcells]
      intro t nc hge hle
      exact grown cells t nc rfl hge hle

theorem lenV_slv {s : Sl} : lenV s.v = some s.n := rfl
theorem srcOf_at {b n c sz m : Nat} : srcOf h sz m (.slice (some ⟨b, 0, none⟩) n c) = rd h b 0 (m * sz) := rfl

theorem fill_one {z v : Value} (hv : v.oneCell' = true) : Instr.fill (fun i => some (i * 1, 1)) (zeros #[z] (1 * 1)) ([0].zip [v]) = some #[v] := by
  have hcs : v.cells = #[v] := by cases v <;> first | rfl | (cases hv)
  simp [zeros_one, Instr.fill, hcs]

/-- append of one element of one cell: the slice that is laid for it, and the append -/
theorem ef_bslice1 {K : Value → Heap → Prop} {z v : Value} (hv : v.oneCell' = true) :
    Ef.wp h K (.bslice 1 1 #[z] [0]) [v] = ∀ t : TypeId, K (.slice (some ⟨h.size, 0, none⟩) 1 1) (h.push (.cells #[v] t)) := by
  simp only [Ef.wp, fill_one hv]

theorem ef_bslice1_int {K : Value → Heap → Prop} {z : Value} {k : IntKind} {n : Int} :
    Ef.wp h K (.bslice 1 1 #[z] [0]) [.int k n] = ∀ t : TypeId, K (.slice (some ⟨h.size, 0, none⟩) 1 1) (h.push (.cells #[.int k n] t)) := ef_bslice1 rfl

theorem ef_append1 {K : Value → Heap → Prop} {bytes : Nat} {z v : Value} {s : Sl} {cells : List Value} {t : TypeId} (hv : v.oneCell' = true) (ho : Own h 1 s cells)
    (hb : (s.n + 1) * bytes ≤ 140737488355328) (h63 : s.n + 1 ≤ 9223372036854775807)
    (hk : ∀ (s' : Sl) (h' : Heap), Own h' 1 s' (cells ++ [v]) → s'.n = s.n + 1 → Mod (fun j => s.nl = false ∧ j = s.b) h h' → ((s'.b = s.b ∧ s'.nl = s.nl) ∨ (h.size ≤ s'.b ∧ s'.nl = false)) → K s'.v h') :
    Ef.wp (h.push (.cells #[v] t)) K (.append 1 bytes #[z]) [s.v, .slice (some ⟨h.size, 0, none⟩) 1 1] := by
  have ho' : Own (h.push (.cells #[v] t)) 1 s cells := ho.mod (S := fun _ => False) Mod.push (fun _ h => h)
  have hblk : Blk (h.push (.cells #[v] t)) h.size #[v] := Blk.new
  refine ef_append_own ho' (m := 1) rfl (nw := [v]) ?_ rfl (by simpa using hv) rfl hb h63 ?_
  · rw [srcOf_at]
    exact rd_of (l := [v]) fun i u hi => by rw [hblk.hc]; simpa using hi
  · intro s' h' h1 h2 h3 h4
    refine hk s' h' h1 h2 ?_ ?_
    · exact Mod.trans (S := fun j => s.nl = false ∧ j = s.b) Mod.push h3
    · rcases h4 with h4 | h4
      · exact .inl h4
      · refine .inr ⟨?_, h4.2⟩
        have := h4.1
        simp at this
        omega

theorem store_shape' {K : Value → Heap → Prop} {sz : Nat} {p q : Value} (hs : Ef.wp h K (.store sz) [p, q]) :
    ∃ b o h', p = .pointer (some ⟨b, o, none⟩) ∧ q.cells.size = sz ∧ hst h b o q.cells.toList = some h' ∧ K undef h' := by
  cases p with
  | pointer a =>
    cases a with
    | none => exact hs.elim
    | some a =>
      obtain ⟨b, o, s⟩ := a
      cases s with
      | some s => exact hs.elim
      | none =>
        obtain ⟨h1, h2⟩ := hs
        cases hh : hst h b o q.cells.toList with
        | none => rw [hh] at h2; exact h2.elim
        | some h' => rw [hh] at h2; exact ⟨b, o, h', rfl, h1, hh, h2⟩
  | _ => exact hs.elim

theorem ef_store1_eq {K : Value → Heap → Prop} {b o : Nat} {v : Value} (hv : v.oneCell' = true) :
    Ef.wp h K (.store 1) [.pointer (some ⟨b, o, none⟩), v] = ((hc h b o).isSome = true ∧ hfz h b o = false ∧ K undef (hset h b o v)) := by
  have hcs : v.cells = #[v] := by cases v <;> first | rfl | (cases hv)
  apply propext
  constructor
  · intro hw
    obtain ⟨b', o', h', e, _, hh, hk⟩ := store_shape' hw
    cases e
    simp only [hcs, hst] at hh
    split at hh
    · rename_i hc
      simp only [Bool.and_eq_true, Bool.not_eq_true'] at hc
      cases hh
      exact ⟨hc.1.1, hc.1.2, hk⟩
    · cases hh
  · rintro ⟨h1, h2, h3⟩
    exact ef_store1 hv h1 h2 h3

section stores
variable {K : Value → Heap → Prop} {b o : Nat}
/-- a store of one cell, as a condition -/
def StoreP (h : Heap) (b o : Nat) (v : Value) (k : Value → Heap → Prop) : Prop := (hc h b o).isSome = true ∧ hfz h b o = false ∧ k undef (hset h b o v)
theorem StoreP.open {v : Value} {k : Value → Heap → Prop} : StoreP h b o v k = ((hc h b o).isSome = true ∧ hfz h b o = false ∧ k undef (hset h b o v)) := rfl
@[simp] theorem ef_store_int {k : IntKind} {n : Int} : Ef.wp h K (.store 1) [.pointer (some ⟨b, o, none⟩), .int k n] = StoreP h b o (.int k n) K := ef_store1_eq rfl
@[simp] theorem ef_store_bool {c : Bool} : Ef.wp h K (.store 1) [.pointer (some ⟨b, o, none⟩), .bool c] = StoreP h b o (.bool c) K := ef_store1_eq rfl
@[simp] theorem ef_store_slv {s : Sl} : Ef.wp h K (.store 1) [.pointer (some ⟨b, o, none⟩), s.v] = StoreP h b o s.v K := ef_store1_eq rfl
@[simp] theorem ef_store_ptr {a : Option Addr} : Ef.wp h K (.store 1) [.pointer (some ⟨b, o, none⟩), .pointer a] = StoreP h b o (.pointer a) K := ef_store1_eq rfl
@[simp] theorem ef_store_str {s : ByteArray} : Ef.wp h K (.store 1) [.pointer (some ⟨b, o, none⟩), .string s] = StoreP h b o (.string s) K := ef_store1_eq rfl
@[simp] theorem ef_store_iface {t : TypeId} {v : Value} : Ef.wp h K (.store 1) [.pointer (some ⟨b, o, none⟩), .iface t v] = StoreP h b o (.iface t v) K := ef_store1_eq rfl
@[simp] theorem ef_store_nil : Ef.wp h K (.store 1) [.pointer (some ⟨b, o, none⟩), .nilIface] = StoreP h b o .nilIface K := ef_store1_eq rfl
end stores

-- a block just made
theorem hc_push {c : Array Value} {t : TypeId} {o : Nat} : hc (h.push (.cells c t)) h.size o = c[o]? := by simp [Rm.hc]
theorem hfz_push {c : Array Value} {t : TypeId} {o : Nat} : hfz (h.push (.cells c t)) h.size o = false := by simp [Rm.hfz]
theorem hset_push {c : Array Value} {t : TypeId} {o : Nat} {v : Value} : hset (h.push (.cells c t)) h.size o v = h.push (.cells (c.setIfInBounds o v) t) := by
  unfold hset
  apply Array.ext
  · simp
  · intro i h1 h2
    rw [Array.getElem_modify]
    by_cases hi : h.size = i
    · subst hi; simp
    · rw [if_neg hi]
      have : i < h.size := by simp at h1; omega
      rw [Array.getElem_push_lt this, Array.getElem_push_lt this]

def writeA (c : Array Value) (o : Nat) : List Value → Array Value
  | [] => c
  | v :: r => writeA (c.setIfInBounds o v) (o + 1) r
theorem writeA_toList : ∀ {vs : List Value} {c : Array Value} {o : Nat}, o + vs.length ≤ c.size → (writeA c o vs).toList = c.toList.take o ++ vs ++ c.toList.drop (o + vs.length) := by
  intro vs
  induction vs with
  | nil => intro c o _; simp [writeA]
  | cons v r ih =>
    intro c o hle
    simp only [List.length_cons] at hle
    rw [writeA, ih (by simp; omega)]
    have hl : o < c.toList.length := by simp; omega
    have h1 : (c.toList.set o v).take (o + 1) = c.toList.take o ++ [v] := by
      rw [List.set_eq_take_append_cons_drop, if_pos hl, List.take_append, List.length_take, Nat.min_eq_left (Nat.le_of_lt hl), List.take_of_length_le (by simp; omega)]
      simp
    have h2 : (c.toList.set o v).drop (o + 1 + r.length) = c.toList.drop (o + (v :: r).length) := by
      rw [List.drop_set_of_lt (by omega)]
      simp only [List.length_cons]
      congr 1
      omega
    rw [Array.toList_setIfInBounds, h1, h2]
    simp
theorem writeA_all {vs : List Value} {c : Array Value} (hl : vs.length = c.size) : writeA c 0 vs = vs.toArray := by
  apply Array.ext'
  rw [writeA_toList (by omega)]
  simp [hl]
theorem hst_push {t : TypeId} : ∀ {vs : List Value} {o : Nat} {c : Array Value}, o + vs.length ≤ c.size → (∀ v ∈ vs, v.oneCell' = true) → hst (h.push (.cells c t)) h.size o vs = some (h.push (.cells (writeA c o vs) t)) := by
  intro vs
  induction vs with
  | nil => intro o c _ _; rfl
  | cons v r ih =>
    intro o c hle h1
    have ho : o < c.size := by simp at hle; omega
    have hcell : (hc (h.push (.cells c t)) h.size o).isSome = true := by rw [hc_push]; simp [ho]
    simp only [hst, hcell, hfz_push, h1 v (by simp), Bool.not_false, Bool.and_self, if_true, hset_push]
    exact ih (by simp at hle ⊢; omega) (fun u hu => h1 u (List.mem_cons_of_mem _ hu))

/-- the store of a whole into a block just made for it -/
theorem ef_store_push {K : Value → Heap → Prop} {n : Nat} {c vs : Array Value} {t : TypeId} (hn : vs.size = n) (hl : vs.size = c.size) (h1 : ∀ v ∈ vs.toList, v.oneCell' = true) (hk : K undef (h.push (.cells vs t))) :
    Ef.wp (h.push (.cells c t)) K (.store n) [.pointer (some ⟨h.size, 0, none⟩), .agg vs] := by
  refine ⟨hn, ?_⟩
  have e : (Value.agg vs).cells = vs := rfl
  rw [e, hst_push (by simp [hl]) h1, writeA_all (by simp [hl])]
  exact hk
theorem cells_agg' {c : Array Value} : (Value.agg c).cells = c := rfl
end

/-- a slice of numbers -/
structure IntsAt (h : Heap) (s : Sl) (k : IntKind) (f : Nat → Int) : Prop where
  ok : s.ok
  val : ∀ i, i < s.n → hc h s.b (s.o + i) = some (.int k (f i))
theorem IntsAt.ext {h : Heap} {s : Sl} {k : IntKind} {f : Nat → Int} (a : IntsAt h s k f) {h' : Heap} (he : Ext h h') : IntsAt h' s k f :=
  ⟨a.ok, fun i hi => he.hc (a.val i hi) (fun h => h)⟩
theorem sem_idxA' {Y : Sys} {h : Heap} {n sz b o : Nat} {k : IntKind} {i : Int} (h0 : 0 ≤ i) (h1 : i < n) :
    IOp.sem Y h (.idxA n sz) [.pointer (some ⟨b, o, none⟩), .int k i] = some (.pointer (some ⟨b, o + i.toNat * sz, none⟩)) := by
  show (if 0 ≤ i ∧ i < n then some (Value.pointer (some ⟨b, o + i.toNat * sz, none⟩)) else none) = _
  rw [if_pos ⟨h0, h1⟩]
/-- a number among the locals -/
def argI (e : List Value) (k : Nat) : Nat :=
  match e.getD k undef with
  | .int _ n => n.toNat
  | _ => 0

def argZ (e : List Value) (k : Nat) : Int := match e.getD k undef with | .int _ n => n | _ => 0
theorem Mod.ext {S : Nat → Prop} {h0 h h' : Heap} (h1 : Ext h0 h) (h2 : Mod S h h') (hs : ∀ b, S b → h0.size ≤ b) : Ext h0 h' :=
  Mod.then h1 h2 fun i hi hS => absurd (hs i hS) (by omega)

end Go.Rm
