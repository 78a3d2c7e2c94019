/- The engine, part P: how the conditions unfold by simp. -/
import Derived.Test.YtghpbaebbljppaaDoorEngA
import Derived.IntWalk
set_option linter.unusedSimpArgs false
set_option linter.unusedVariables false
namespace Go.Rm

/-- a call, behind a name -/
def CallP (Y : Sys) (f : Nat) (xs : List Value) (h : Heap) (R : Value → Heap → Prop) : Prop := Y.C (Y.fid f) xs h R

theorem CallP.of_has {Y : Sys} {f : Nat} {S : FnS} (H : Y.Has f S) {xs : List Value} {h : Heap} {R : Value → Heap → Prop} (hl : xs.length = S.np) (hw : S.wp Y xs h R) : CallP Y f xs h R := H.2 xs h R hl hw
theorem CallP.mono {Y : Sys} {f : Nat} {xs : List Value} {h : Heap} {R R' : Value → Heap → Prop} (hc : CallP Y f xs h R) (hr : ∀ v h', R v h' → R' v h') : CallP Y f xs h R' := Y.mono hc hr

/-- one way or the other, by what a test says -/
def CondP (v : Value) (A B : Prop) : Prop :=
  match v with
  | .bool c => if c = true then A else B
  | _ => False

section
variable {Y : Sys} {kn : List Value → Heap → Prop} {ke : Nat → List Value → Heap → Prop} {kr : List Value → Heap → Prop} {e T : List Value} {h : Heap} {K : Kont}

/- What is to come, behind names: simp does not look into it before it is reached. -/
def SeqK (Y : Sys) (b : Stmt) (kn : List Value → Heap → Prop) (ke : Nat → List Value → Heap → Prop) (kr : List Value → Heap → Prop) : List Value → Heap → Prop := fun e h => b.wp Y kn ke kr e h
def RegK (kn : List Value → Heap → Prop) : Kont := fun e _ h => kn e h
def BlockK (id : Nat) (kn : List Value → Heap → Prop) (ke : Nat → List Value → Heap → Prop) : Nat → List Value → Heap → Prop := fun i e h => if i = id then kn e h else ke i e h
def LoopK (I : List Value → Heap → Prop) (μ : List Value → Heap → Nat) (m : Nat) : List Value → Heap → Prop := fun e h => I e h ∧ μ e h < m
def OpK (Y : Sys) (K : Kont) (k : IL) (d : Dst) (e T : List Value) (h : Heap) : Value → Prop := fun v => IL.wp Y K k (d.e v e) (d.T v T) h
def EfK (Y : Sys) (K : Kont) (k : IL) (d : Dst) (e T : List Value) : Value → Heap → Prop := fun v h => IL.wp Y K k (d.e v e) (d.T v T) h
def StmtS (Y : Sys) (s : Stmt) (kn : List Value → Heap → Prop) (ke : Nat → List Value → Heap → Prop) (kr : List Value → Heap → Prop) (e : List Value) (h : Heap) : Prop := s.wp Y kn ke kr e h
@[simp] theorem SeqK_ap {b : Stmt} : SeqK Y b kn ke kr e h = Stmt.wp Y b kn ke kr e h := (rfl)
@[simp] theorem RegK_ap : RegK kn e T h = kn e h := (rfl)
@[simp] theorem BlockK_ap {id i : Nat} : BlockK id kn ke i e h = if i = id then kn e h else ke i e h := (rfl)
@[simp] theorem LoopK_ap {I : List Value → Heap → Prop} {μ : List Value → Heap → Nat} {m : Nat} : LoopK I μ m e h = (I e h ∧ μ e h < m) := (rfl)
@[simp] theorem OpK_ap {k : IL} {d : Dst} {v : Value} : OpK Y K k d e T h v = IL.wp Y K k (d.e v e) (d.T v T) h := (rfl)
@[simp] theorem EfK_ap {k : IL} {d : Dst} {v : Value} : EfK Y K k d e T v h = IL.wp Y K k (d.e v e) (d.T v T) h := (rfl)

@[simp] theorem need_some_eq {v : Value} {k : Value → Prop} : need (some v) k = k v := (rfl)
@[simp] theorem CondP_bool {c : Bool} {a b : Stmt} : CondP (.bool c) (StmtS Y a kn ke kr e h) (StmtS Y b kn ke kr e h) = if c = true then Stmt.wp Y a kn ke kr e h else Stmt.wp Y b kn ke kr e h := (rfl)

@[simp] theorem wp_skip' : Stmt.wp Y .skip kn ke kr e h = kn e h := (rfl)
@[simp] theorem wp_seq' {a b : Stmt} : Stmt.wp Y (.seq a b) kn ke kr e h = a.wp Y (SeqK Y b kn ke kr) ke kr e h := (rfl)
@[simp] theorem wp_reg' {l : IL} : Stmt.wp Y (.reg l) kn ke kr e h = l.wp Y (RegK kn) e [] h := (rfl)
@[simp] theorem wp_cond' {x : Arg} {a b : Stmt} : Stmt.wp Y (.cond x a b) kn ke kr e h = CondP (x.ev Y e []) (StmtS Y a kn ke kr e h) (StmtS Y b kn ke kr e h) := (rfl)
@[simp] theorem wp_block' {id : Nat} {s : Stmt} : Stmt.wp Y (.block id s) kn ke kr e h = s.wp Y kn (BlockK id kn ke) kr e h := (rfl)
@[simp] theorem wp_exit' {id : Nat} : Stmt.wp Y (.exit id) kn ke kr e h = ke id e h := (rfl)
@[simp] theorem wp_ret' : Stmt.wp Y .ret kn ke kr e h = kr e h := (rfl)
theorem wp_loop' {s : Stmt} (I : List Value → Heap → Prop) (μ : List Value → Heap → Nat) (h0 : I e h)
    (hs : ∀ e h, I e h → s.wp Y (LoopK I μ (μ e h)) ke kr e h) : Stmt.wp Y (.loop s) kn ke kr e h := ⟨I, μ, h0, hs⟩

@[simp] theorem il_nil : IL.wp Y K .nil e T h = K e T h := (rfl)
@[simp] theorem il_op {o : IOp} {xs : List Arg} {d : Dst} {k : IL} : IL.wp Y K (.op (.op o xs d) k) e T h = need (o.sem Y h (xs.map (Arg.ev Y e T))) (OpK Y K k d e T h) := (rfl)
@[simp] theorem il_ef {f : Ef} {xs : List Arg} {d : Dst} {k : IL} : IL.wp Y K (.op (.ef f xs d) k) e T h = f.wp h (EfK Y K k d e T) (xs.map (Arg.ev Y e T)) := (rfl)
@[simp] theorem il_call {f : Nat} {xs : List Arg} {d : Dst} {k : IL} : IL.wp Y K (.op (.call f xs d) k) e T h = CallP Y f (xs.map (Arg.ev Y e T)) h (EfK Y K k d e T) := (rfl)
@[simp] theorem il_stab {o : IOp} {xs : List Arg} {v : Arg} {k : IL} : IL.wp Y K (.op (.stab o xs v) k) e T h = (o.sem Y h (xs.map (Arg.ev Y e T)) = some (v.ev Y e T) ∧ IL.wp Y K k e T h) := (rfl)
@[simp] theorem il_gd {g : Arg} {w : Bool} {b : IL} {ds : List Dst} {k : IL} : IL.wp Y K (.gd g w b ds k) e T h = if gdB (g.ev Y e T) w then IL.wp Y (IL.wp Y K k) b e T h else IL.wp Y K k (undE ds e) (undT ds T) h := (rfl)
@[simp] theorem il_alt {a b : IL} : IL.wp Y K (.alt a b) e T h = (IL.wp Y K a e T h ∧ IL.wp Y K b e T h) := (rfl)

@[simp] theorem gdB_bool {b w : Bool} : gdB (.bool b) w = (b == w) := rfl
@[simp] theorem gdB_undefS {w : Bool} : gdB undef w = false := rfl

@[simp] theorem ev_n {i : Nat} : Arg.ev Y e T (.n i) = e.getD i undef := rfl
@[simp] theorem ev_t {i : Nat} : Arg.ev Y e T (.t i) = T.getD i undef := rfl
@[simp] theorem ev_c {v : Value} : Arg.ev Y e T (.c v) = v := rfl
@[simp] theorem ev_f {j : Nat} : Arg.ev Y e T (.f j) = .func (.func (Y.fid j)) #[] #[] := rfl
@[simp] theorem dE_drop {v : Value} : Dst.e v e .drop = e := rfl
@[simp] theorem dE_push {v : Value} : Dst.e v e .push = e := rfl
@[simp] theorem dE_set {v : Value} {i : Nat} : Dst.e v e (.set i) = e.set i v := rfl
@[simp] theorem dT_drop {v : Value} : Dst.T v T .drop = T := rfl
@[simp] theorem dT_push {v : Value} : Dst.T v T .push = T ++ [v] := rfl
@[simp] theorem dT_set {v : Value} {i : Nat} : Dst.T v T (.set i) = T := rfl
@[simp] theorem undE_nil : undE [] e = e := rfl
@[simp] theorem undE_cons {d : Dst} {r : List Dst} : undE (d :: r) e = undE r (d.e undef e) := rfl
@[simp] theorem undT_nil : undT [] T = T := rfl
@[simp] theorem undT_cons {d : Dst} {r : List Dst} : undT (d :: r) T = undT r (d.T undef T) := rfl

-- operations
@[simp] theorem sem_mv {x : Value} : IOp.sem Y h .mv [x] = some x := rfl
@[simp] theorem sem_pick {c : Bool} {a b : Value} : IOp.sem Y h .pick [.bool c, a, b] = some (if c then a else b) := rfl
@[simp] theorem sem_nilck {a : Addr} : IOp.sem Y h .nilck [.pointer (some a)] = some (.pointer (some a)) := rfl
@[simp] theorem sem_ib {op : BinOp} {k j : IntKind} {a b : Int} : IOp.sem Y h (.ib op) [.int k a, .int j b] = ibin op k a j b := rfl
@[simp] theorem ib_add {k : IntKind} {a b : Int} : ibin .add k a k b = some (.int k (k.wrap (a + b))) := by simp [ibin]
@[simp] theorem ib_sub {k : IntKind} {a b : Int} : ibin .sub k a k b = some (.int k (k.wrap (a - b))) := by simp [ibin]
@[simp] theorem ib_mul {k : IntKind} {a b : Int} : ibin .mul k a k b = some (.int k (k.wrap (a * b))) := by simp [ibin]
theorem ib_quo {k : IntKind} {a b : Int} (hb : b ≠ 0) : ibin .quo k a k b = some (.int k (k.wrap (a.tdiv b))) := by simp [ibin, hb]
theorem ib_rem {k : IntKind} {a b : Int} (hb : b ≠ 0) : ibin .rem k a k b = some (.int k (a.tmod b)) := by simp [ibin, hb]
@[simp] theorem ib_lss {k : IntKind} {a b : Int} : ibin .lss k a k b = some (.bool (decide (a < b))) := by simp [ibin]
@[simp] theorem ib_leq {k : IntKind} {a b : Int} : ibin .leq k a k b = some (.bool (decide (a ≤ b))) := by simp [ibin]
@[simp] theorem ib_gtr {k : IntKind} {a b : Int} : ibin .gtr k a k b = some (.bool (decide (b < a))) := by simp [ibin]
@[simp] theorem ib_geq {k : IntKind} {a b : Int} : ibin .geq k a k b = some (.bool (decide (b ≤ a))) := by simp [ibin]
@[simp] theorem ib_eql {k : IntKind} {a b : Int} : ibin .eql k a k b = some (.bool (decide (a = b))) := by
  simp [ibin]; rw [Bool.eq_iff_iff]; simp
@[simp] theorem ib_neq {k : IntKind} {a b : Int} : ibin .neq k a k b = some (.bool (decide (a ≠ b))) := by
  simp [ibin]; rw [Bool.eq_iff_iff]; simp
@[simp] theorem sem_not {b : Bool} : IOp.sem Y h (.un .not) [.bool b] = some (.bool !b) := rfl
@[simp] theorem sem_neg {k : IntKind} {n : Int} : IOp.sem Y h (.un .neg) [.int k n] = some (.int k (k.wrap (0 - n))) := rfl
@[simp] theorem sem_conv {k j : IntKind} {n : Int} : IOp.sem Y h (.conv k) [.int j n] = some (.int k (k.wrap n)) := rfl
@[simp] theorem sem_fadr {off b o : Nat} : IOp.sem Y h (.fadr off) [.pointer (some ⟨b, o, none⟩)] = some (.pointer (some ⟨b, o + off, none⟩)) := rfl
@[simp] theorem sem_load1 {n b o : Nat} : IOp.sem Y h (.load n false) [.pointer (some ⟨b, o, none⟩)] = hc h b o := rfl
@[simp] theorem sem_loadn {n b o : Nat} : IOp.sem Y h (.load n true) [.pointer (some ⟨b, o, none⟩)] = (rd h b o n).bind fun l => some (.agg l.toArray) := rfl
@[simp] theorem sem_mn {k j : IntKind} {x y : Int} : IOp.sem Y h .mn [.int k x, .int j y] = some (.int k (if y < x then y else x)) := rfl
@[simp] theorem sem_mx {k j : IntKind} {x y : Int} : IOp.sem Y h .mx [.int k x, .int j y] = some (.int k (if x < y then y else x)) := rfl
@[simp] theorem sem_ext {i : Nat} {vs : Array Value} : IOp.sem Y h (.ext i) [.tuple vs] = vs[i]? := rfl
@[simp] theorem sem_eqb {neg a b : Bool} : IOp.sem Y h (.eqb neg) [.bool a, .bool b] = some (.bool (if neg then !(a == b) else (a == b))) := rfl
@[simp] theorem sem_eqp_none {neg : Bool} {b : Option Addr} : IOp.sem Y h (.eqp neg) [.pointer none, .pointer b] = some (.bool (if neg then !b.isNone else b.isNone)) := rfl
@[simp] theorem sem_eqp_some {neg : Bool} {a : Addr} : IOp.sem Y h (.eqp neg) [.pointer (some a), .pointer none] = some (.bool neg) := by cases neg <;> rfl
@[simp] theorem sem_eqi_nn {neg : Bool} : IOp.sem Y h (.eqi neg true) [.nilIface, .nilIface] = some (.bool (!neg)) := by cases neg <;> rfl
@[simp] theorem sem_eqi_in {neg lit : Bool} {t : TypeId} {v : Value} : IOp.sem Y h (.eqi neg lit) [.iface t v, .nilIface] = some (.bool neg) := by cases neg <;> rfl
@[simp] theorem sem_eqi_ni {neg lit : Bool} {t : TypeId} {v : Value} : IOp.sem Y h (.eqi neg lit) [.nilIface, .iface t v] = some (.bool neg) := by cases neg <;> rfl
@[simp] theorem sem_mkI {t : Nat} {v : Value} : IOp.sem Y h (.mkI t) [v] = some (.iface (Y.tid t) v) := rfl
@[simp] theorem sem_fld1 {off n : Nat} {cs : Array Value} : IOp.sem Y h (.fld off n false) [.agg cs] = cs[off]? := rfl
@[simp] theorem sem_fldn {off n : Nat} {cs : Array Value} : IOp.sem Y h (.fld off n true) [.agg cs] = some (.agg (cs.extract off (off + n))) := rfl
@[simp] theorem sem_lenA {n : Nat} {v : Value} : IOp.sem Y h (.lenA n) [v] = some (.int .i64 n) := rfl
@[simp] theorem sem_lenS {s : ByteArray} : IOp.sem Y h .lenS [.string s] = some (.int .i64 s.size) := rfl
@[simp] theorem sem_sb {op : BinOp} {a b : ByteArray} : IOp.sem Y h (.sb op) [.string a, .string b] = sbin op a b := rfl

theorem i64_wrap {n : Int} (h : -9223372036854775808 ≤ n ∧ n ≤ 9223372036854775807) : IntKind.i64.wrap n = n := by rw [IntKind.wrap_i64]; omega

-- results
@[simp] theorem resP_nil {R : Value → Heap → Prop} : resP [] R e h = R (.tuple #[]) h := (rfl)
@[simp] theorem resP_n {R : Value → Heap → Prop} {i : Nat} : resP [.n i] R e h = R (e.getD i undef) h := (rfl)
@[simp] theorem resP_n2 {R : Value → Heap → Prop} {i j : Nat} : resP [.n i, .n j] R e h = R (.tuple #[e.getD i undef, e.getD j undef]) h := (rfl)
@[simp] theorem resP_n3 {R : Value → Heap → Prop} {i j k : Nat} : resP [.n i, .n j, .n k] R e h = R (.tuple #[e.getD i undef, e.getD j undef, e.getD k undef]) h := (rfl)
end
end Go.Rm
