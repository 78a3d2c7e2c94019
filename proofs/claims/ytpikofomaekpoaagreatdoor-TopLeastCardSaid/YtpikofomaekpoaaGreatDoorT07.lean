import Derived.Test.YtpikofomaekpoaaGreatDoorT03
/- Parts. -/
set_option linter.unusedSimpArgs false
set_option linter.unusedVariables false
namespace Go.Rm
def Xo (l:Zd) (i:Nat):Nat:=l.getD i 0
def Zl (l:Zb) (i:Nat):Int:=l.getD i 0
theorem V2 {l:Zd} {i j k:Nat} (r:i<l.length):Xo (l.set i k) j=if j=i then k else Xo l j:=by
 simp only [Xo,Xf5,Xhp]
 split
 ·rename_i h;subst h;simp
 rename_i h;rw [if_neg (fun e=>h e.symm)]
theorem Va {l:Zb} {i j:Nat} {k:Int} (r:i<l.length):Zl (l.set i k) j=if j=i then k else Zl l j:=by
 simp only [Zl,Xf5,Xhp]
 split
 ·rename_i h;subst h;simp
 rename_i h;rw [if_neg (fun e=>h e.symm)]
theorem Zhb {l:Zd} {i n:Nat} (r:i<n):Xo (l.take n) i=Xo l i:=by
 simp [Xo,Xf5,r]
theorem Zay {l m:Zd} {i:Nat} (r:i<l.length):Xo (l++m) i=Xo l i:=by
 simp [Xo,Xf5,Xgh r]
theorem Zek {l:Zd} {k:Nat}:Xo (l++[k]) l.length=k:=by
 simp [Xo,Xf5]
def klt (costs:Zb) (a b:Nat):Prop:=Zl costs a<Zl costs b\/(Zl costs a=Zl costs b/\a<b)
instance (costs:Zb) (a b:Nat):Decidable (klt costs a b):=by unfold klt;infer_instance
theorem Zas {costs:Zb} {a:Nat}:¬ klt costs a a:=by unfold klt;omega
theorem Zil {costs:Zb} {a b c:Nat} (h1:klt costs a b) (r:klt costs b c):klt costs a c:=by unfold klt at *;omega
theorem Zih {costs:Zb} {a b c:Nat} (h1:¬ klt costs b a) (r:¬ klt costs c b):¬ klt costs c a:=by unfold klt at *;omega
theorem Zyn {costs:Zb} {a b c:Nat} (h1:klt costs a b) (r:¬ klt costs c b):¬ klt costs c a:=by unfold klt at *;omega
structure Qp (row:Zd) (n:Nat) (seats:Zd):Prop where
 len:seats.length=n
 rv:∀ i,i<row.length->Xo row i<n
 rs:∀ i,i<row.length->Xo seats (Xo row i)=i+1
 sv:∀ k,k<n->Xo seats k≠0->Xo seats k-1<row.length/\Xo row (Xo seats k-1)=k
def We (row:Zd) (i j:Nat):Zd:=(row.set i (Xo row j)).set j (Xo row i)
def Vx (row seats:Zd) (i j:Nat):Zd:=(seats.set (Xo (We row i j) i) (i+1)).set (Xo (We row i j) j) (j+1)
@[simp] theorem Zt2 {row:Zd} {i j:Nat}:(We row i j).length=row.length:=by simp [We]
@[simp] theorem Z52 {row r:Zd} {i j:Nat}:(Vx row r i j).length=r.length:=by simp [Vx]
theorem Xr {row:Zd} {i j:Nat} (r:i<row.length) (D:j<row.length) (k:Nat) :
  Xo (We row i j) k=if k=j then Xo row i else if k=i then Xo row j else Xo row k:=by
 unfold We;rw [V2 (by simpa using D),V2 r]
theorem Qp.inj {row:Zd} {n:Nat} {r:Zd} (V:Qp row n r) {i j:Nat} (D:i<row.length) (G:j<row.length) (h:Xo row i=Xo row j):i=j:=by
 have h1:=V.rs i D;have H:=V.rs j G;rw [h] at h1;omega
theorem Zc1 {row:Zd} {n:Nat} {r:Zd} {i j:Nat} (V:Qp row n r) (D:i<row.length) (G:j<row.length) (k:Nat) :
  Xo (Vx row r i j) k=if k=Xo row i then j+1 else if k=Xo row j then i+1 else Xo r k:=by
 have h1:Xo (We row i j) i=Xo row j:=by
  rw [Xr D G]
  split
  ·rename_i h;rw [h]
  simp
 have H:Xo (We row i j) j=Xo row i:=by rw [Xr D G];simp
 unfold Vx;rw [h1,H,V2 (by simp;rw [V.len];exact V.rv i D),V2 (by rw [V.len];exact V.rv j G)]
theorem Qp.swap {row:Zd} {n:Nat} {r:Zd} (V:Qp row n r) {i j:Nat} (D:i<row.length) (G:j<row.length) :
  Qp (We row i j) n (Vx row r i j):=by
 refine ⟨by simpa using V.len,?_,?_,?_⟩
 ·intro k H;simp at H;rw [Xr D G];have:=V.rv i D;have:=V.rv j G;have:=V.rv k H
  split <;> (try split) <;> assumption
 ·intro k H;simp at H;rw [Zc1 V D G,Xr D G];have e:=V.rs k H;by_cases I:k=j
  ·subst I;simp
  by_cases J:k=i
  ·subst J;simp only [I,if_false,if_true]
   split
   ·rename_i h;have:=V.inj G D h;omega
   rfl
  simp only [I,J,if_false]
  split
  ·rename_i h;exact absurd (V.inj H D h) J
  split
  ·rename_i h;exact absurd (V.inj H G h) I
  exact e
 intro k H M;rw [Zc1 V D G] at M ⊢;simp only [Zt2]
 split
 ·rename_i h;refine ⟨by simpa using G,?_⟩;rw [Xr D G];simp [h]
 rename_i h
 split
 ·rename_i O;refine ⟨by simpa using D,?_⟩;rw [Xr D G];simp only [Xgy]
  split
  ·rename_i R;rw [O,<-R]
  simp [O]
 rename_i O;rw [if_neg h,if_neg O] at M;obtain ⟨X,U⟩:=V.sv k H M;refine ⟨X,?_⟩;rw [Xr D G]
 split
 ·rename_i R;rw [R] at U;exact absurd U.symm O
 split
 ·rename_i R;rw [R] at U;exact absurd U.symm h
 exact U
theorem Zqg {row:Zd} {n:Nat} {r:Zd} (V:Qp row n r) {i j:Nat} (D:i<row.length) (G:j<row.length) (k:Nat) :
  Xo (Vx row r i j) k=0↔Xo r k=0:=by
 rw [Zc1 V D G]
 split
 ·rename_i h;have:=V.rs i D;rw [<-h] at this;omega
 split
 ·rename_i h;have:=V.rs j G;rw [<-h] at this;omega
 rfl
def Xa (j:Nat):Nat:=(j-1) / 2
structure Zqm (row:Zd) (costs:Zb) (i:Nat):Prop where
 a:∀ j,0<j->j<row.length->j≠i->¬ klt costs (Xo row j) (Xo row (Xa j))
 b:0<i->∀ j,0<j->j<row.length->Xa j=i->¬ klt costs (Xo row j) (Xo row (Xa i))
structure Ztj (row:Zd) (costs:Zb) (i:Nat):Prop where
 a:∀ j,0<j->j<row.length->Xa j≠i->¬ klt costs (Xo row j) (Xo row (Xa j))
 b:0<i->∀ j,0<j->j<row.length->Xa j=i->¬ klt costs (Xo row j) (Xo row (Xa i))
def Ord (row:Zd) (costs:Zb):Prop:=∀ j,0<j->j<row.length->¬ klt costs (Xo row j) (Xo row (Xa j))
theorem Wv {j:Nat} (h:0<j):Xa j<j:=by unfold Xa;omega
theorem Zqm.step {row:Zd} {costs:Zb} {i:Nat} (O:Zqm row costs i) (h0:0<i) (U:i<row.length) (J:klt costs (Xo row i) (Xo row (Xa i))) :
  Zqm (We row i (Xa i)) costs (Xa i):=by
 have hp:=Wv h0;have G:Xa i<row.length:=by omega
 refine ⟨?_,?_⟩
 ·intro j D H I;simp at H;rw [Xr U G,Xr U G,if_neg I];by_cases r:j=i
  ·subst r;simp only [if_true];exact fun h=>Zas (Zil h J)
  rw [if_neg r];by_cases h1:Xa j=Xa i
  ·rw [if_pos h1];have:=O.a j D H r;rw [h1] at this;exact Zyn J this
  rw [if_neg h1];by_cases V:Xa j=i
  ·rw [if_pos V];exact O.b h0 j D H V
  rw [if_neg V];exact O.a j D H r
 intro M j D H I;simp at H;have Z:=Wv M;rw [Xr U G,Xr U G];have X:¬ klt costs (Xo row (Xa i)) (Xo row (Xa (Xa i))):=O.a (Xa i) M G (by omega);rw [if_neg (show Xa (Xa i)≠Xa i by omega),if_neg (show Xa (Xa i)≠i by omega)];have R:j≠Xa i:=by intro e;have:=Wv D;omega
 rw [if_neg R];by_cases r:j=i
 ·rw [if_pos r];exact X
 rw [if_neg r];have:=O.a j D H r;rw [I] at this;exact Zih X this
theorem Zqm.fin {row:Zd} {costs:Zb} {i:Nat} (O:Zqm row costs i) (h:0<i->¬ klt costs (Xo row i) (Xo row (Xa i))):Ord row costs:=by
 intro j r G;by_cases D:j=i
 ·subst D;exact h r
 exact O.a j r G D
theorem Ztj.step {row:Zd} {costs:Zb} {i c:Nat} (O:Ztj row costs i) (J:0<c) (hc:c<row.length) (D:Xa c=i) (V:klt costs (Xo row c) (Xo row i))
  (M:∀ j,0<j->j<row.length->Xa j=i->¬ klt costs (Xo row j) (Xo row c)):Ztj (We row i c) costs c:=by
 have Z:i<c:=by have:=Wv J;omega
 have U:i<row.length:=by omega
 refine ⟨?_,?_⟩
 ·intro j r I G;simp at I;have X:=Wv r;rw [Xr U hc,Xr U hc];by_cases R:j=c
  ·subst R;simp only [if_true];rw [D,if_neg (by omega),if_pos rfl];exact fun h=>Zas (Zil h V)
  rw [if_neg R,if_neg G];by_cases h1:Xa j=i
  ·rw [if_pos h1,if_neg (show j≠i by omega)];exact M j r I h1
  rw [if_neg h1];by_cases H:j=i
  ·rw [if_pos H];subst H;exact O.b r c J hc D
  rw [if_neg H];exact O.a j r I h1
 intro _ j r I G;simp at I;have X:=Wv r;rw [Xr U hc,Xr U hc,D,if_neg (show j≠c by omega),if_neg (show j≠i by omega),if_neg (show i≠c by omega),if_pos rfl];have:=O.a j r I (by omega);rw [G] at this;exact this
theorem Ztj.fin {row:Zd} {costs:Zb} {i:Nat} (O:Ztj row costs i) (h:∀ j,0<j->j<row.length->Xa j=i->¬ klt costs (Xo row j) (Xo row i)):Ord row costs:=by
 intro j D G;by_cases r:Xa j=i
 ·rw [r];exact h j D G r
 exact O.a j D G r
theorem Ord.least {row:Zd} {costs:Zb} (O:Ord row costs):∀ j,j<row.length->¬ klt costs (Xo row j) (Xo row 0):=by
 intro j
 induction j using Nat.strongRecOn with
 | _ j ih =>
  intro r;rcases Xhj j with h | h
  ·subst h;exact Zas
  have hp:=Wv h;exact Zih (ih (Xa j) hp (by omega)) (O j h r)
theorem Zlw {l:Zd} {k i:Nat} (r:i<(l++[k]).length):Xo (l++[k]) i=if i=l.length then k else Xo l i:=by
 split
 ·rename_i h;rw [h,Zek]
 rename_i h;simp at r;exact Zay (by omega)
theorem Zu4 {row:Zd} {n:Nat} {r:Zd} {k:Nat} (V:Qp row n r) (I:k<n) (h0:Xo r k=0):Qp (row++[k]) n (r.set k (row.length+1)):=by
 have G:k<r.length:=by rw [V.len];exact I
 refine ⟨by simpa using V.len,?_,?_,?_⟩
 ·intro i H;rw [Zlw H];simp at H
  split
  ·exact I
  exact V.rv i (by omega)
 ·intro i H;rw [Zlw H,V2 G];simp at H
  split
  ·rename_i h;simp [h]
  rename_i h;have:=V.rs i (by omega)
  split
  ·rename_i J;rw [J] at this;omega
  exact this
 intro j M D;rw [V2 G] at D ⊢
 split
 ·rename_i h;refine ⟨by simp,?_⟩;simp only [Xgy];rw [Zek,h]
 rename_i h;rw [if_neg h] at D;obtain ⟨O,R⟩:=V.sv j M D;exact ⟨by simp;omega,by rw [Zay O];exact R⟩
theorem Qp.ne {row:Zd} {n:Nat} {r:Zd} {k i:Nat} (V:Qp row n r) (h0:Xo r k=0) (D:i<row.length):Xo row i≠k:=by
 intro e;have:=V.rs i D;rw [e] at this;omega
theorem Zzi {row:Zd} {n:Nat} {r:Zd} {costs:Zb} {k:Nat} {c:Int} (V:Qp row n r) (hc:k<costs.length) (h0:Xo r k=0) (O:Ord row costs) :
  Zqm (row++[k]) (costs.set k c) row.length:=by
 have I:∀ i,i<row.length->Zl (costs.set k c) (Xo row i)=Zl costs (Xo row i):=fun i J=>by rw [Va hc,if_neg (V.ne h0 J)]
 refine ⟨?_,?_⟩
 ·intro j D H M;have G:j<row.length:=by simp at H;omega
  have hp:Xa j<row.length:=by have:=Wv D;omega
  rw [Zay G,Zay hp];have:=O j D G;unfold klt at *
  rw [I j G,I _ hp];exact this
 intro _ j D H hp;have:=Wv D;simp at H;omega
theorem Zuh {row:Zd} {n:Nat} {r:Zd} {costs:Zb} {k:Nat} {c:Int} (V:Qp row n r) (X:k<n) (hc:k<costs.length) (h0:Xo r k≠0) (O:Ord row costs) (Z:c<Zl costs k) :
  Zqm row (costs.set k c) (Xo r k-1):=by
 obtain ⟨q1,U⟩:=V.sv k X h0;have J:∀ i,i<row.length->i≠Xo r k-1->Zl (costs.set k c) (Xo row i)=Zl costs (Xo row i):=by
  intro i hi G;rw [Va hc,if_neg];intro e;apply G;have:=V.rs i hi;rw [e] at this;omega
 have R:Zl (costs.set k c) (Xo row (Xo r k-1))=c:=by rw [U,Va hc];simp
 refine ⟨?_,?_⟩
 ·intro j D I G;have hp:Xa j<row.length:=by have:=Wv D;omega
  have:=O j D I;by_cases H:Xa j=Xo r k-1
  ·unfold klt at *
   rw [J j I G,H,R];rw [H,U] at this;omega
  unfold klt at *
  rw [J j I G,J _ hp H];exact this
 intro M j D I hp;have aa:=Wv D;have ab:=Wv M;have h1:=O j D I;have h2:=O (Xo r k-1) M q1;rw [hp] at h1;have h3:=Zih h2 h1;have e1:=J j I (by omega);have e2:=J (Xa (Xo r k-1)) (by omega) (by omega);unfold klt at *
 rw [e1,e2];exact h3
section
variable {Y:Sys} {h h':Zk}
@[simp] theorem Z9i {k:IntKind} {n:Int}:(Value.int k n).cells=#[.int k n]:=rfl
@[simp] theorem Z8t {b:Bool}:(Value.bool b).cells=#[.bool b]:=rfl
@[simp] theorem Z5z {b:ByteArray}:(Value.string b).cells=#[.string b]:=rfl
@[simp] theorem Xa8 {b:Option Addr}:(Value.pointer b).cells=#[.pointer b]:=rfl
@[simp] theorem Z62 {b:Option Addr} {n c:Nat}:(Value.slice b n c).cells=#[.slice b n c]:=rfl
@[simp] theorem Z7d {t:TypeId} {v:Value}:(Value.iface t v).cells=#[.iface t v]:=rfl
@[simp] theorem Z1e:(Value.nilIface).cells=#[.nilIface]:=rfl
@[simp] theorem Zg6 {c:Array Value}:(Value.agg c).cells=c:=rfl
theorem Zdp {v:Value} (hv:v.oneCell'=true):v.cells=#[v]:=by cases v <;> first | rfl | (cases hv)
@[simp] theorem Xad {zero:Array Value} {r:List (Nat × Nat)}:Yo.sem Y h (.build zero r []) []=some (.agg zero):=rfl
theorem Zd6 {r D a b:Value} (G:a.oneCell'=true) (hb:b.oneCell'=true) :
  Yo.sem Y h (.build #[r,D] [(0,1),(1,1)] [0,1]) [a,b]=some (.agg #[a,b]):=by
 simp [Yo.sem,Instr.fill,Zdp G,Zdp hb]
theorem Zdy {r D G a b c:Value} (H:a.oneCell'=true) (hb:b.oneCell'=true) (hc:c.oneCell'=true) :
  Yo.sem Y h (.build #[r,D,G] [(0,1),(1,1),(2,1)] [0,1,2]) [a,b,c]=some (.agg #[a,b,c]):=by
 simp [Yo.sem,Instr.fill,Zdp H,Zdp hb,Zdp hc]
@[simp] theorem Z1h {r D G:Value} {p:ByteArray} {k:IntKind} {a:Int} {t:TypeId} {v:Value}:Yo.sem Y h (.build #[r,D,G] [(0,1),(1,1),(2,1)] [0,1,2]) [.string p,.int k a,.iface t v]=some (.agg #[.string p,.int k a,.iface t v]):=Zdy rfl rfl rfl
@[simp] theorem Z36 {r D:Value} {p:ByteArray} {k:IntKind} {a:Int}:Yo.sem Y h (.build #[r,D] [(0,1),(1,1)] [0,1]) [.string p,.int k a]=some (.agg #[.string p,.int k a]):=Zd6 rfl rfl
@[simp] theorem Z1f {r D:Value} {s:Sl} {k:IntKind} {a:Int}:Yo.sem Y h (.build #[r,D] [(0,1),(1,1)] [0,1]) [s.v,.int k a]=some (.agg #[s.v,.int k a]):=Zd6 rfl rfl
@[simp] theorem Zz9 {r D:Value} {x:Option Addr} {n c:Nat} {k:IntKind} {a:Int}:Yo.sem Y h (.build #[r,D] [(0,1),(1,1)] [0,1]) [.slice x n c,.int k a]=some (.agg #[.slice x n c,.int k a]):=Zd6 rfl rfl
@[simp] theorem Z51 {r D G:Value} {k j:IntKind} {a b:Int} {s:Sl}:Yo.sem Y h (.build #[r,D,G] [(0,1),(1,1),(2,1)] [0,1,2]) [.int k a,.int j b,s.v]=some (.agg #[.int k a,.int j b,s.v]):=Zdy rfl rfl rfl
@[simp] theorem Z8y {neg:Bool} {s:Sl}:Yo.sem Y h (.eqs neg) [s.v,.slice none 0 0]=some (.bool (if neg then !s.nl else s.nl)):=by
 unfold Sl.v
 cases s.nl <;> cases neg <;> rfl
theorem Zn {K:Ze} {v:Value} (r:∀ (b:Nat) (h':Zk),h.size<=b->Xb h' b v.cells->Ext h h'->K (.pointer (some ⟨b,0,none⟩)) h'):Ef.wp h K .new [v] :=
 fun _=>r _ _ (Xfy _) Xb.new Mod.push
theorem Xb.ext {b:Nat} {c:Array Value} (hb:Xb h b c) (r:Ext h h'):Xb h' b c:=r.blk hb (fun h=>h)
theorem Zs {K:Ze} {b n:Nat} {c vs:Array Value} (hb:Xb h b c) (r:vs.size=n) (hc:c.size=n) (h1:∀ v∈vs.toList,v.oneCell'=true)
  (G:∀ h',Xb h' b vs->Mod (fun j=>j=b) h h'->K undef h'):Ef.wp h K (.store n) [.pointer (some ⟨b,0,none⟩),.agg vs]:=by
 obtain ⟨h',H,D,I,J⟩:=Zfm (o:=0) (vs:=vs.toList) hb (by simp;omega) h1;refine ⟨r,?_⟩;simp only [Zg6,H];refine G h' ?_ I;have e:(c.toList.take 0++vs.toList++c.toList.drop (0+vs.toList.length)).toArray=vs:=by
  apply Xf6;simp [r,hc]
 rw [e] at D;exact D
theorem Yj {b n:Nat} {vs:Array Value} (hb:Xb h b vs) (r:vs.size=n):rd h b 0 n=some vs.toList:=by
 have:=Zba (h:=h) (b:=b) (l:=vs.toList) (o:=0) fun i v D=>by rw [hb.hc];simpa using D
 rw [<-r];simpa using this
theorem Xj {R:Ze} {e:Zc} {i n b:Nat} {vs:Array Value} (r:e.getD i undef = .pointer (some ⟨b,0,none⟩)) (hb:Xb h b vs) (D:vs.size=n) (G:R (.agg vs) h) :
  U4 [.box i n true] R e h:=by
 unfold U4;simp only [Zcj,Res.ev,r,Yj hb D,if_true,Xgj];simpa using G
theorem Zbp {R:Ze} {e:Zc} {i n b j:Nat} {vs:Array Value} (r:e.getD i undef = .pointer (some ⟨b,0,none⟩)) (hb:Xb h b vs) (D:vs.size=n) (G:R (.tuple #[.agg vs,e.getD j undef]) h) :
  U4 [.box i n true,.n j] R e h:=by
 unfold U4;simp only [Zcj,Res.ev,r,Yj hb D,if_true,Xgj];simpa using G
structure Yd (h:Zk) (s:Sl) (cs:Zb):Prop where
 ok:s.ok
 len:cs.length=s.n
 val:∀ i,i<cs.length->hc h s.b (s.o+i)=some (.int .i64 (Zl cs i))
theorem Yd.ext {s:Sl} {cs:Zb} (r:Yd h s cs) (D:Ext h h'):Yd h' s cs:=⟨r.ok,r.len,fun i G=>D.hc (r.val i G) (fun h=>h)⟩
theorem Yd.mod {S:Zf} {s:Sl} {cs:Zb} (r:Yd h s cs) (G:Mod S h h') (hs:cs≠[]->¬ S s.b):Yd h' s cs:=⟨r.ok,r.len,fun i D=>G.hc (r.val i D) (hs (by intro e;rw [e] at D;simp at D))⟩
theorem Yd.at {s:Sl} {cs:Zb} {i:Nat} (r:Yd h s cs) (D:i<s.n):hc h s.b (s.o+i)=some (.int .i64 (Zl cs i)):=r.val i (by rw [r.len];exact D)
def Zq (l:Zb):Zc:=l.map fun (k:Int)=>Value.int .i64 k
theorem Zg5 {l:Zb} {i:Nat} (h:i<l.length):(Zq l)[i]? = some (.int .i64 (Zl l i)):=by
 simp [Zq,Zl,h]
@[simp] theorem Vm {l:Zb}:(Zq l).length=l.length:=by simp [Zq]
theorem Vn {l:Zb} {i:Nat} {k:Int}:(Zq l).set i (.int .i64 k)=Zq (l.set i k):=by simp [Zq,Xg2]
theorem Zai {l:Zb}:∀ v∈Zq l,v.oneCell'=true:=by
 intro v hv;simp only [Zq,Xis] at hv;obtain ⟨k,_,rfl⟩:=hv
 rfl
theorem Ym.row64 {s:Sl} {cs:Zb} (o:Ym h 1 s (Zq cs)):Yd h s cs :=
 ⟨o.ok,by have:=o.1;simpa using this,fun i r=>o.cell (Zg5 r)⟩
theorem Z4y {s:Sl} {cs:Zb} (r:Yd h s cs):rd h s.b s.o cs.length=some (Zq cs):=by
 have:=Zba (h:=h) (b:=s.b) (l:=Zq cs) (o:=s.o) fun i v G=>by
  have D:i<cs.length:=by
   have:=(List.getElem?_eq_some_iff.1 G).1;simpa using this
  rw [Zg5 D] at G
  cases G
  exact r.val i D
 simpa using this
theorem Zdh {n:Nat} {t:TypeId} (r:n<=9223372036854775807):Ym (h.push (.cells (Array.replicate n (.int .i64 0)) t)) 1 (Sl.at h.size n n) (Zq (List.replicate n 0)):=by
 refine ⟨by simp,.inr ⟨rfl,rfl,rfl,Xfy _,r,_,Xb.new,by simp,by simp [Zq]⟩⟩
theorem Zip {t:TypeId} {sz:Nat}:Ym (h.push (.cells #[] t)) sz (Sl.at h.size 0 0) []:=by
 refine ⟨by simp,.inr ⟨rfl,rfl,rfl,Xfy _,by simp,_,Xb.new,by simp,by simp⟩⟩
theorem Zgq {K:Ze} {sz:Nat}:Ef.wp h K (.bslice 0 sz #[] []) [] = ∀ t:TypeId,K (.slice (some ⟨h.size,0,none⟩) 0 0) (h.push (.cells #[] t)):=by
 have e:Xy #[] (0 * sz)=#[]:=Array.eq_empty_of_size_eq_zero (by simp [Xy]);simp only [Nat.zero_mul] at e;simp [Ef.wp,e,Instr.fill]
theorem U7 {s:Sl} {cs:Zb} (r:Yd h s cs):Vl h 1 s.n s.v=some (Zq cs):=by
 have H:=Z4y r;rw [r.len] at H;unfold Sl.v
 cases D:s.nl with
 | true =>
  have:cs=[]:=Xgw (by rw [r.len];exact (r.ok.nil D).1);subst this
  rfl
 | false =>
  cases G:s.sp with
  | none=>simp only [Xga,if_false,Vl,Xgd];exact H
  | some q =>
   have h0:s.n=0:=by
    have:=r.ok.spot.resolve_left (by rw [G];simp);have:=r.ok.le;omega
   have:cs=[]:=Xgw (by rw [r.len];exact h0);subst this;simp [Vl,h0,Zq]
theorem Zdv {K:Ze} {s:Sl} {cs:Zb} (r:Yd h s cs) (V:s.n<=17592186044416) {h0:Zk} {s0:Sl} (o:Ym h 1 s0 []) (hb:s0.nl=true\/h0.size<=s0.b) (G:Ext h0 h)
  (I:∀ (D:Sl) (h':Zk),Ym h' 1 D (Zq cs)->(D.nl=true\/h0.size<=D.b)->Ext h0 h'->K D.v h'):Ef.wp h K (.append 1 8 #[.int .i64 0]) [s0.v,s.v]:=by
 have hz:s0.n=0:=by have:=o.1;simpa using this.symm
 refine Vg o (m:=s.n) (nw:=Zq cs) Xf (U7 r) (by simp [r.len]) Zai rfl (by omega) (by omega) ?_;intro D h' J M O hs';refine I D h' (by simpa using J) ?_ ?_
 ·rcases hs' with ⟨H,e2⟩ | ⟨H,e2⟩
  ·rw [H,e2];exact hb
  have:=G.size;exact .inr (by omega)
 refine Mod.ext G O ?_;rintro b ⟨R,U⟩;rcases hb with hb | hb
 ·rw [R] at hb;cases hb
 rw [U];exact hb
end
end Go.Rm
