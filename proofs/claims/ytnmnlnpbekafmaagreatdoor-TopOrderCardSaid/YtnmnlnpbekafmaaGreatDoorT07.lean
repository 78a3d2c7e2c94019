import Derived.Test.YtnmnlnpbekafmaaGreatDoorT00
/- Parts. -/
set_option linter.unusedSimpArgs false
set_option linter.unusedVariables false
namespace Go.Rm
def Xk (l:Zd) (i:Nat):Nat:=l.getD i 0
def Zl (l:Zb) (i:Nat):Int:=l.getD i 0
theorem X8 {l:Zd} {i j k:Nat} (r:i<l.length):Xk (l.set i k) j=if j=i then k else Xk l j:=by
 simp only [Xk,Xet,Xf7]
 split
 ·rename_i h;subst h;simp
 rename_i h;rw [if_neg (fun e=>h e.symm)]
theorem Ud {l:Zb} {i j:Nat} {k:Int} (r:i<l.length):Zl (l.set i k) j=if j=i then k else Zl l j:=by
 simp only [Zl,Xet,Xf7]
 split
 ·rename_i h;subst h;simp
 rename_i h;rw [if_neg (fun e=>h e.symm)]
theorem Zgj {l:Zd} {i n:Nat} (r:i<n):Xk (l.take n) i=Xk l i:=by
 simp [Xk,Xet,r]
theorem Zaq {l m:Zd} {i:Nat} (r:i<l.length):Xk (l++m) i=Xk l i:=by
 simp [Xk,Xet,Xe2 r]
theorem Zeb {l:Zd} {k:Nat}:Xk (l++[k]) l.length=k:=by
 simp [Xk,Xet]
def klt (costs:Zb) (a b:Nat):Prop:=Zl costs a<Zl costs b\/(Zl costs a=Zl costs b/\a<b)
instance (costs:Zb) (a b:Nat):Decidable (klt costs a b):=by unfold klt;infer_instance
theorem Zam {costs:Zb} {a:Nat}:¬ klt costs a a:=by unfold klt;omega
theorem Zhq {costs:Zb} {a b c:Nat} (h1:klt costs a b) (r:klt costs b c):klt costs a c:=by unfold klt at *;omega
theorem Zho {costs:Zb} {a b c:Nat} (h1:¬ klt costs b a) (r:¬ klt costs c b):¬ klt costs c a:=by unfold klt at *;omega
theorem Zw2 {costs:Zb} {a b c:Nat} (h1:klt costs a b) (r:¬ klt costs c b):¬ klt costs c a:=by unfold klt at *;omega
structure Qh (row:Zd) (n:Nat) (seats:Zd):Prop where
 len:seats.length=n
 rv:∀ i,i<row.length->Xk row i<n
 rs:∀ i,i<row.length->Xk seats (Xk row i)=i+1
 sv:∀ k,k<n->Xk seats k≠0->Xk seats k-1<row.length/\Xk row (Xk seats k-1)=k
def Wd (row:Zd) (i j:Nat):Zd:=(row.set i (Xk row j)).set j (Xk row i)
def Vq (row seats:Zd) (i j:Nat):Zd:=(seats.set (Xk (Wd row i j) i) (i+1)).set (Xk (Wd row i j) j) (j+1)
@[simp] theorem Zso {row:Zd} {i j:Nat}:(Wd row i j).length=row.length:=by simp [Wd]
@[simp] theorem Z4o {row r:Zd} {i j:Nat}:(Vq row r i j).length=r.length:=by simp [Vq]
theorem Xp {row:Zd} {i j:Nat} (r:i<row.length) (D:j<row.length) (k:Nat) :
  Xk (Wd row i j) k=if k=j then Xk row i else if k=i then Xk row j else Xk row k:=by
 unfold Wd;rw [X8 (by simpa using D),X8 r]
theorem Qh.inj {row:Zd} {n:Nat} {r:Zd} (V:Qh row n r) {i j:Nat} (D:i<row.length) (G:j<row.length) (h:Xk row i=Xk row j):i=j:=by
 have h1:=V.rs i D;have H:=V.rs j G;rw [h] at h1;omega
theorem Zcq {row:Zd} {n:Nat} {r:Zd} {i j:Nat} (V:Qh row n r) (D:i<row.length) (G:j<row.length) (k:Nat) :
  Xk (Vq row r i j) k=if k=Xk row i then j+1 else if k=Xk row j then i+1 else Xk r k:=by
 have h1:Xk (Wd row i j) i=Xk row j:=by
  rw [Xp D G]
  split
  ·rename_i h;rw [h]
  simp
 have H:Xk (Wd row i j) j=Xk row i:=by rw [Xp D G];simp
 unfold Vq;rw [h1,H,X8 (by simp;rw [V.len];exact V.rv i D),X8 (by rw [V.len];exact V.rv j G)]
theorem Qh.swap {row:Zd} {n:Nat} {r:Zd} (V:Qh row n r) {i j:Nat} (D:i<row.length) (G:j<row.length) :
  Qh (Wd row i j) n (Vq row r i j):=by
 refine ⟨by simpa using V.len,?_,?_,?_⟩
 ·intro k H;simp at H;rw [Xp D G];have:=V.rv i D;have:=V.rv j G;have:=V.rv k H
  split <;> (try split) <;> assumption
 ·intro k H;simp at H;rw [Zcq V D G,Xp D G];have e:=V.rs k H;by_cases I:k=j
  ·subst I;simp
  by_cases J:k=i
  ·subst J;simp only [I,if_false,if_true]
   split
   ·rename_i h;have:=V.inj G D h;omega
   rfl
  simp only [I,J,if_false]
  split
  ·rename_i h;exact absurd (V.inj H D h) J
  split
  ·rename_i h;exact absurd (V.inj H G h) I
  exact e
 intro k H M;rw [Zcq V D G] at M ⊢;simp only [Zso]
 split
 ·rename_i h;refine ⟨by simpa using G,?_⟩;rw [Xp D G];simp [h]
 rename_i h
 split
 ·rename_i O;refine ⟨by simpa using D,?_⟩;rw [Xp D G];simp only [Xhh]
  split
  ·rename_i R;rw [O,<-R]
  simp [O]
 rename_i O;rw [if_neg h,if_neg O] at M;obtain ⟨X,U⟩:=V.sv k H M;refine ⟨X,?_⟩;rw [Xp D G]
 split
 ·rename_i R;rw [R] at U;exact absurd U.symm O
 split
 ·rename_i R;rw [R] at U;exact absurd U.symm h
 exact U
theorem Zo9 {row:Zd} {n:Nat} {r:Zd} (V:Qh row n r) {i j:Nat} (D:i<row.length) (G:j<row.length) (k:Nat) :
  Xk (Vq row r i j) k=0↔Xk r k=0:=by
 rw [Zcq V D G]
 split
 ·rename_i h;have:=V.rs i D;rw [<-h] at this;omega
 split
 ·rename_i h;have:=V.rs j G;rw [<-h] at this;omega
 rfl
def Yz (j:Nat):Nat:=(j-1) / 2
structure Zpe (row:Zd) (costs:Zb) (i:Nat):Prop where
 a:∀ j,0<j->j<row.length->j≠i->¬ klt costs (Xk row j) (Xk row (Yz j))
 b:0<i->∀ j,0<j->j<row.length->Yz j=i->¬ klt costs (Xk row j) (Xk row (Yz i))
structure Zr4 (row:Zd) (costs:Zb) (i:Nat):Prop where
 a:∀ j,0<j->j<row.length->Yz j≠i->¬ klt costs (Xk row j) (Xk row (Yz j))
 b:0<i->∀ j,0<j->j<row.length->Yz j=i->¬ klt costs (Xk row j) (Xk row (Yz i))
def Ord (row:Zd) (costs:Zb):Prop:=∀ j,0<j->j<row.length->¬ klt costs (Xk row j) (Xk row (Yz j))
theorem Ws {j:Nat} (h:0<j):Yz j<j:=by unfold Yz;omega
theorem Zpe.step {row:Zd} {costs:Zb} {i:Nat} (O:Zpe row costs i) (h0:0<i) (U:i<row.length) (J:klt costs (Xk row i) (Xk row (Yz i))) :
  Zpe (Wd row i (Yz i)) costs (Yz i):=by
 have hp:=Ws h0;have G:Yz i<row.length:=by omega
 refine ⟨?_,?_⟩
 ·intro j D H I;simp at H;rw [Xp U G,Xp U G,if_neg I];by_cases r:j=i
  ·subst r;simp only [if_true];exact fun h=>Zam (Zhq h J)
  rw [if_neg r];by_cases h1:Yz j=Yz i
  ·rw [if_pos h1];have:=O.a j D H r;rw [h1] at this;exact Zw2 J this
  rw [if_neg h1];by_cases V:Yz j=i
  ·rw [if_pos V];exact O.b h0 j D H V
  rw [if_neg V];exact O.a j D H r
 intro M j D H I;simp at H;have Z:=Ws M;rw [Xp U G,Xp U G];have X:¬ klt costs (Xk row (Yz i)) (Xk row (Yz (Yz i))):=O.a (Yz i) M G (by omega);rw [if_neg (show Yz (Yz i)≠Yz i by omega),if_neg (show Yz (Yz i)≠i by omega)];have R:j≠Yz i:=by intro e;have:=Ws D;omega
 rw [if_neg R];by_cases r:j=i
 ·rw [if_pos r];exact X
 rw [if_neg r];have:=O.a j D H r;rw [I] at this;exact Zho X this
theorem Zpe.fin {row:Zd} {costs:Zb} {i:Nat} (O:Zpe row costs i) (h:0<i->¬ klt costs (Xk row i) (Xk row (Yz i))):Ord row costs:=by
 intro j r G;by_cases D:j=i
 ·subst D;exact h r
 exact O.a j r G D
theorem Zr4.step {row:Zd} {costs:Zb} {i c:Nat} (O:Zr4 row costs i) (J:0<c) (hc:c<row.length) (D:Yz c=i) (V:klt costs (Xk row c) (Xk row i))
  (M:∀ j,0<j->j<row.length->Yz j=i->¬ klt costs (Xk row j) (Xk row c)):Zr4 (Wd row i c) costs c:=by
 have Z:i<c:=by have:=Ws J;omega
 have U:i<row.length:=by omega
 refine ⟨?_,?_⟩
 ·intro j r I G;simp at I;have X:=Ws r;rw [Xp U hc,Xp U hc];by_cases R:j=c
  ·subst R;simp only [if_true];rw [D,if_neg (by omega),if_pos rfl];exact fun h=>Zam (Zhq h V)
  rw [if_neg R,if_neg G];by_cases h1:Yz j=i
  ·rw [if_pos h1,if_neg (show j≠i by omega)];exact M j r I h1
  rw [if_neg h1];by_cases H:j=i
  ·rw [if_pos H];subst H;exact O.b r c J hc D
  rw [if_neg H];exact O.a j r I h1
 intro _ j r I G;simp at I;have X:=Ws r;rw [Xp U hc,Xp U hc,D,if_neg (show j≠c by omega),if_neg (show j≠i by omega),if_neg (show i≠c by omega),if_pos rfl];have:=O.a j r I (by omega);rw [G] at this;exact this
theorem Zr4.fin {row:Zd} {costs:Zb} {i:Nat} (O:Zr4 row costs i) (h:∀ j,0<j->j<row.length->Yz j=i->¬ klt costs (Xk row j) (Xk row i)):Ord row costs:=by
 intro j D G;by_cases r:Yz j=i
 ·rw [r];exact h j D G r
 exact O.a j D G r
theorem Ord.least {row:Zd} {costs:Zb} (O:Ord row costs):∀ j,j<row.length->¬ klt costs (Xk row j) (Xk row 0):=by
 intro j
 induction j using Nat.strongRecOn with
 | _ j r =>
  intro D;rcases Xgj j with h | h
  ·subst h;exact Zam
  have hp:=Ws h;exact Zho (r (Yz j) hp (by omega)) (O j h D)
theorem Zks {l:Zd} {k i:Nat} (r:i<(l++[k]).length):Xk (l++[k]) i=if i=l.length then k else Xk l i:=by
 split
 ·rename_i h;rw [h,Zeb]
 rename_i h;simp at r;exact Zaq (by omega)
theorem Ztr {row:Zd} {n:Nat} {r:Zd} {k:Nat} (V:Qh row n r) (I:k<n) (h0:Xk r k=0):Qh (row++[k]) n (r.set k (row.length+1)):=by
 have G:k<r.length:=by rw [V.len];exact I
 refine ⟨by simpa using V.len,?_,?_,?_⟩
 ·intro i H;rw [Zks H];simp at H
  split
  ·exact I
  exact V.rv i (by omega)
 ·intro i H;rw [Zks H,X8 G];simp at H
  split
  ·rename_i h;simp [h]
  rename_i h;have:=V.rs i (by omega)
  split
  ·rename_i J;rw [J] at this;omega
  exact this
 intro j M D;rw [X8 G] at D ⊢
 split
 ·rename_i h;refine ⟨by simp,?_⟩;simp only [Xhh];rw [Zeb,h]
 rename_i h;rw [if_neg h] at D;obtain ⟨O,R⟩:=V.sv j M D;exact ⟨by simp;omega,by rw [Zaq O];exact R⟩
theorem Qh.ne {row:Zd} {n:Nat} {r:Zd} {k i:Nat} (V:Qh row n r) (h0:Xk r k=0) (D:i<row.length):Xk row i≠k:=by
 intro e;have:=V.rs i D;rw [e] at this;omega
theorem Zxx {row:Zd} {n:Nat} {r:Zd} {costs:Zb} {k:Nat} {c:Int} (V:Qh row n r) (hc:k<costs.length) (h0:Xk r k=0) (O:Ord row costs) :
  Zpe (row++[k]) (costs.set k c) row.length:=by
 have I:∀ i,i<row.length->Zl (costs.set k c) (Xk row i)=Zl costs (Xk row i):=fun i J=>by rw [Ud hc,if_neg (V.ne h0 J)]
 refine ⟨?_,?_⟩
 ·intro j D H M;have G:j<row.length:=by simp at H;omega
  have hp:Yz j<row.length:=by have:=Ws D;omega
  rw [Zaq G,Zaq hp];have:=O j D G;unfold klt at *
  rw [I j G,I _ hp];exact this
 intro _ j D H hp;have:=Ws D;simp at H;omega
theorem Zs5 {row:Zd} {n:Nat} {r:Zd} {costs:Zb} {k:Nat} {c:Int} (V:Qh row n r) (X:k<n) (hc:k<costs.length) (h0:Xk r k≠0) (O:Ord row costs) (Z:c<Zl costs k) :
  Zpe row (costs.set k c) (Xk r k-1):=by
 obtain ⟨q1,U⟩:=V.sv k X h0;have J:∀ i,i<row.length->i≠Xk r k-1->Zl (costs.set k c) (Xk row i)=Zl costs (Xk row i):=by
  intro i hi G;rw [Ud hc,if_neg];intro e;apply G;have:=V.rs i hi;rw [e] at this;omega
 have R:Zl (costs.set k c) (Xk row (Xk r k-1))=c:=by rw [U,Ud hc];simp
 refine ⟨?_,?_⟩
 ·intro j D I G;have hp:Yz j<row.length:=by have:=Ws D;omega
  have:=O j D I;by_cases H:Yz j=Xk r k-1
  ·unfold klt at *
   rw [J j I G,H,R];rw [H,U] at this;omega
  unfold klt at *
  rw [J j I G,J _ hp H];exact this
 intro M j D I hp;have aa:=Ws D;have ab:=Ws M;have h1:=O j D I;have h2:=O (Xk r k-1) M q1;rw [hp] at h1;have h3:=Zho h2 h1;have e1:=J j I (by omega);have e2:=J (Yz (Xk r k-1)) (by omega) (by omega);unfold klt at *
 rw [e1,e2];exact h3
end Go.Rm
