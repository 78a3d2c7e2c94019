import Derived.Test.YtmpamfkkaakbfaaGreatDoorT00
/- Parts HeapTh -/
set_option linter.unusedSimpArgs false
set_option linter.unusedVariables false
namespace Go.Rm
def Yz (l:List Nat) (i:Nat):Nat:=l.getD i 0
def Zc (l:List Int) (i:Nat):Int:=l.getD i 0
theorem Z7 {l:List Nat} {i j k:Nat} (r:i<l.length):Yz (l.set i k) j=if j=i then k else Yz l j:=by
 simp only [Yz,Xee,Xfs]
 split
 ·rename_i h; subst h; simp [r]
 ·rename_i h; rw [if_neg (fun e=>h e.symm)]
theorem Vr {l:List Int} {i j:Nat} {k:Int} (r:i<l.length):Zc (l.set i k) j=if j=i then k else Zc l j:=by
 simp only [Zc,Xee,Xfs]
 split
 ·rename_i h; subst h; simp [r]
 ·rename_i h; rw [if_neg (fun e=>h e.symm)]
theorem Zga {l:List Nat} {i n:Nat} (r:i<n):Yz (l.take n) i=Yz l i:=by
 simp [Yz,Xee,Xen,r]
theorem Q9 {l m:List Nat} {i:Nat} (r:i<l.length):Yz (l++m) i=Yz l i:=by
 simp [Yz,Xee,Xep r]
theorem Zdu {l:List Nat} {k:Nat}:Yz (l++[k]) l.length=k:=by
 simp [Yz,Xee]
def klt (costs:List Int) (a b:Nat):Prop:=Zc costs a<Zc costs b\/(Zc costs a=Zc costs b/\a<b)
instance (costs:List Int) (a b:Nat):Decidable (klt costs a b):=by unfold klt; infer_instance
theorem Q3 {r:List Int} {a:Nat}:¬ klt r a a:=by unfold klt; omega
theorem Zhg {r:List Int} {a b c:Nat} (h1:klt r a b) (D:klt r b c):klt r a c:=by unfold klt at *; omega
theorem Zhe {r:List Int} {a b c:Nat} (h1:¬ klt r b a) (D:¬ klt r c b):¬ klt r c a:=by unfold klt at *; omega
theorem Zww {r:List Int} {a b c:Nat} (h1:klt r a b) (D:¬ klt r c b):¬ klt r c a:=by unfold klt at *; omega
structure Uy (row:List Nat) (n:Nat) (seats:List Nat):Prop where
 len:seats.length=n
 rv:∀ i,i<row.length->Yz row i<n
 rs:∀ i,i<row.length->Yz seats (Yz row i)=i+1
 sv:∀ k,k<n->Yz seats k≠0->Yz seats k-1<row.length/\Yz row (Yz seats k-1)=k
def Xp (row:List Nat) (i j:Nat):List Nat:=(row.set i (Yz row j)).set j (Yz row i)
def Ve (row seats:List Nat) (i j:Nat):List Nat:=(seats.set (Yz (Xp row i j) i) (i+1)).set (Yz (Xp row i j) j) (j+1)
@[simp] theorem Zsf {row:List Nat} {i j:Nat}:(Xp row i j).length=row.length:=by simp [Xp]
@[simp] theorem Z4a {row r:List Nat} {i j:Nat}:(Ve row r i j).length=r.length:=by simp [Ve]
theorem Xf {row:List Nat} {i j:Nat} (r:i<row.length) (D:j<row.length) (k:Nat) :
  Yz (Xp row i j) k=if k=j then Yz row i else if k=i then Yz row j else Yz row k:=by
 unfold Xp
 rw [Z7 (by simpa using D),Z7 r]
theorem Uy.inj {row:List Nat} {n:Nat} {r:List Nat} (V:Uy row n r) {i j:Nat} (D:i<row.length) (G:j<row.length) (h:Yz row i=Yz row j):i=j:=by
 have h1:=V.rs i D
 have H:=V.rs j G
 rw [h] at h1
 omega
theorem Zb9 {row:List Nat} {n:Nat} {r:List Nat} {i j:Nat} (V:Uy row n r) (D:i<row.length) (G:j<row.length) (k:Nat) :
  Yz (Ve row r i j) k=if k=Yz row i then j+1 else if k=Yz row j then i+1 else Yz r k:=by
 have h1:Yz (Xp row i j) i=Yz row j:=by
  rw [Xf D G]
  split
  ·rename_i h; rw [h]
  ·simp
 have H:Yz (Xp row i j) j=Yz row i:=by rw [Xf D G]; simp
 unfold Ve
 rw [h1,H,Z7 (by simp; rw [V.len]; exact V.rv i D),Z7 (by rw [V.len]; exact V.rv j G)]
theorem Uy.swap {row:List Nat} {n:Nat} {r:List Nat} (V:Uy row n r) {i j:Nat} (D:i<row.length) (G:j<row.length) :
  Uy (Xp row i j) n (Ve row r i j):=by
 refine ⟨by simpa using V.len,?_,?_,?_⟩
 ·intro k H
  simp at H
  rw [Xf D G]
  have:=V.rv i D; have:=V.rv j G; have:=V.rv k H
  split <;> (try split) <;> assumption
 ·intro k H
  simp at H
  rw [Zb9 V D G,Xf D G]
  have e:=V.rs k H
  by_cases I:k=j
  ·subst I; simp
  ·by_cases J:k=i
   ·subst J
    simp only [I,if_false,if_true]
    split
    ·rename_i h; have:=V.inj G D h; omega
    ·rfl
   ·simp only [I,J,if_false]
    split
    ·rename_i h; exact absurd (V.inj H D h) J
    ·split
     ·rename_i h; exact absurd (V.inj H G h) I
     ·exact e
 ·intro k H M
  rw [Zb9 V D G] at M ⊢
  simp only [Zsf]
  split
  ·rename_i h
   refine ⟨by simpa using G,?_⟩
   rw [Xf D G]; simp [h]
  ·rename_i h
   split
   ·rename_i O
    refine ⟨by simpa using D,?_⟩
    rw [Xf D G]
    simp only [Xgi]
    split
    ·rename_i R; rw [O,<-R]
    ·simp [O]
   ·rename_i O
    rw [if_neg h,if_neg O] at M
    obtain ⟨X,U⟩:=V.sv k H M
    refine ⟨X,?_⟩
    rw [Xf D G]
    split
    ·rename_i R; rw [R] at U; exact absurd U.symm O
    ·split
     ·rename_i R; rw [R] at U; exact absurd U.symm h
     ·exact U
theorem Zou {row:List Nat} {n:Nat} {r:List Nat} (V:Uy row n r) {i j:Nat} (D:i<row.length) (G:j<row.length) (k:Nat) :
  Yz (Ve row r i j) k=0↔Yz r k=0:=by
 rw [Zb9 V D G]
 split
 ·rename_i h; have:=V.rs i D; rw [<-h] at this; omega
 ·split
  ·rename_i h; have:=V.rs j G; rw [<-h] at this; omega
  ·rfl
def Yn (j:Nat):Nat:=(j-1) / 2
structure Zoz (row:List Nat) (costs:List Int) (i:Nat):Prop where
 a:∀ j,0<j->j<row.length->j≠i->¬ klt costs (Yz row j) (Yz row (Yn j))
 b:0<i->∀ j,0<j->j<row.length->Yn j=i->¬ klt costs (Yz row j) (Yz row (Yn i))
structure Zrx (row:List Nat) (costs:List Int) (i:Nat):Prop where
 a:∀ j,0<j->j<row.length->Yn j≠i->¬ klt costs (Yz row j) (Yz row (Yn j))
 b:0<i->∀ j,0<j->j<row.length->Yn j=i->¬ klt costs (Yz row j) (Yz row (Yn i))
def Ord (row:List Nat) (costs:List Int):Prop:=∀ j,0<j->j<row.length->¬ klt costs (Yz row j) (Yz row (Yn j))
theorem Wa {j:Nat} (h:0<j):Yn j<j:=by unfold Yn; omega
theorem Zoz.step {row:List Nat} {r:List Int} {i:Nat} (O:Zoz row r i) (h0:0<i) (V:i<row.length) (M:klt r (Yz row i) (Yz row (Yn i))) :
  Zoz (Xp row i (Yn i)) r (Yn i):=by
 have hp:=Wa h0
 have H:Yn i<row.length:=by omega
 refine ⟨?_,?_⟩
 ·intro j G I J
  simp at I
  have aa:=Wa G
  rw [Xf V H,Xf V H,if_neg J]
  by_cases D:j=i
  ·subst D
   simp only [if_true]
   exact fun h=>Q3 (Zhg h M)
  ·rw [if_neg D]
   by_cases h1:Yn j=Yn i
   ·rw [if_pos h1]
    have:=O.a j G I D
    rw [h1] at this
    exact Zww M this
   ·rw [if_neg h1]
    by_cases X:Yn j=i
    ·rw [if_pos X]; exact O.b h0 j G I X
    ·rw [if_neg X]; exact O.a j G I D
 ·intro R j G I J
  simp at I
  have ab:=Wa R
  rw [Xf V H,Xf V H]
  have Z:¬ klt r (Yz row (Yn i)) (Yz row (Yn (Yn i))):=O.a (Yn i) R H (by omega)
  rw [if_neg (show Yn (Yn i)≠Yn i by omega),if_neg (show Yn (Yn i)≠i by omega)]
  have U:j≠Yn i:=by intro e; have:=Wa G; omega
  rw [if_neg U]
  by_cases D:j=i
  ·rw [if_pos D]; exact Z
  ·rw [if_neg D]
   have:=O.a j G I D
   rw [J] at this
   exact Zhe Z this
theorem Zoz.fin {row:List Nat} {r:List Int} {i:Nat} (O:Zoz row r i) (h:0<i->¬ klt r (Yz row i) (Yz row (Yn i))):Ord row r:=by
 intro j D H
 by_cases G:j=i
 ·subst G; exact h D
 ·exact O.a j D H G
theorem Zrx.step {row:List Nat} {r:List Int} {i c:Nat} (O:Zrx row r i) (M:0<c) (hc:c<row.length) (G:Yn c=i) (X:klt r (Yz row c) (Yz row i))
  (R:∀ j,0<j->j<row.length->Yn j=i->¬ klt r (Yz row j) (Yz row c)):Zrx (Xp row i c) r c:=by
 have aa:i<c:=by have:=Wa M; omega
 have V:i<row.length:=by omega
 refine ⟨?_,?_⟩
 ·intro j D J H
  simp at J
  have Z:=Wa D
  rw [Xf V hc,Xf V hc]
  by_cases U:j=c
  ·subst U
   simp only [if_true]
   rw [G,if_neg (by omega),if_pos rfl]
   exact fun h=>Q3 (Zhg h X)
  ·rw [if_neg U,if_neg H]
   by_cases h1:Yn j=i
   ·rw [if_pos h1,if_neg (show j≠i by omega)]
    exact R j D J h1
   ·rw [if_neg h1]
    by_cases I:j=i
    ·rw [if_pos I]
     subst I
     exact O.b D c M hc G
    ·rw [if_neg I]
     exact O.a j D J h1
 ·intro _ j D J H
  simp at J
  have Z:=Wa D
  rw [Xf V hc,Xf V hc,G,if_neg (show j≠c by omega),if_neg (show j≠i by omega),if_neg (show i≠c by omega),if_pos rfl]
  have:=O.a j D J (by omega)
  rw [H] at this
  exact this
theorem Zrx.fin {row:List Nat} {r:List Int} {i:Nat} (O:Zrx row r i) (h:∀ j,0<j->j<row.length->Yn j=i->¬ klt r (Yz row j) (Yz row i)):Ord row r:=by
 intro j G H
 by_cases D:Yn j=i
 ·rw [D]; exact h j G H D
 ·exact O.a j G H D
theorem Ord.least {row:List Nat} {r:List Int} (O:Ord row r):∀ j,j<row.length->¬ klt r (Yz row j) (Yz row 0):=by
 intro j
 induction j using Nat.strongRecOn with
 | _ j D =>
  intro G
  rcases Xgf j with h | h
  ·subst h; exact Q3
  ·have hp:=Wa h
   exact Zhe (D (Yn j) hp (by omega)) (O j h G)
theorem Zkj {l:List Nat} {k i:Nat} (r:i<(l++[k]).length):Yz (l++[k]) i=if i=l.length then k else Yz l i:=by
 split
 ·rename_i h; rw [h,Zdu]
 ·rename_i h; simp at r; exact Q9 (by omega)
theorem Ztg {row:List Nat} {n:Nat} {r:List Nat} {k:Nat} (V:Uy row n r) (I:k<n) (h0:Yz r k=0):Uy (row++[k]) n (r.set k (row.length+1)):=by
 have G:k<r.length:=by rw [V.len]; exact I
 refine ⟨by simpa using V.len,?_,?_,?_⟩
 ·intro i H
  rw [Zkj H]
  simp at H
  split
  ·exact I
  ·exact V.rv i (by omega)
 ·intro i H
  rw [Zkj H,Z7 G]
  simp at H
  split
  ·rename_i h; simp [h]
  ·rename_i h
   have:=V.rs i (by omega)
   split
   ·rename_i J; rw [J] at this; omega
   ·exact this
 ·intro j M D
  rw [Z7 G] at D ⊢
  split
  ·rename_i h
   refine ⟨by simp,?_⟩
   simp only [Xgi]
   rw [Zdu,h]
  ·rename_i h
   rw [if_neg h] at D
   obtain ⟨O,R⟩:=V.sv j M D
   exact ⟨by simp; omega,by rw [Q9 O]; exact R⟩
theorem Uy.ne {row:List Nat} {n:Nat} {r:List Nat} {k i:Nat} (V:Uy row n r) (h0:Yz r k=0) (D:i<row.length):Yz row i≠k:=by
 intro e
 have:=V.rs i D
 rw [e] at this
 omega
theorem Zxp {row:List Nat} {n:Nat} {D:List Nat} {r:List Int} {k:Nat} {c:Int} (V:Uy row n D) (hc:k<r.length) (h0:Yz D k=0) (O:Ord row r) :
  Zoz (row++[k]) (r.set k c) row.length:=by
 have J:∀ i,i<row.length->Zc (r.set k c) (Yz row i)=Zc r (Yz row i):=fun i M=>by rw [Vr hc,if_neg (V.ne h0 M)]
 refine ⟨?_,?_⟩
 ·intro j G I R
  have H:j<row.length:=by simp at I; omega
  have hp:Yn j<row.length:=by have:=Wa G; omega
  rw [Q9 H,Q9 hp]
  have:=O j G H
  unfold klt at *
  rw [J j H,J _ hp]
  exact this
 ·intro _ j G I hp
  have:=Wa G
  simp at I
  omega
theorem Zsv {row:List Nat} {n:Nat} {r:List Nat} {D:List Int} {k:Nat} {c:Int} (V:Uy row n r) (Z:k<n) (hc:k<D.length) (h0:Yz r k≠0) (O:Ord row D) (aa:c<Zc D k) :
  Zoz row (D.set k c) (Yz r k-1):=by
 obtain ⟨q1,X⟩:=V.sv k Z h0
 have M:∀ i,i<row.length->i≠Yz r k-1->Zc (D.set k c) (Yz row i)=Zc D (Yz row i):=by
  intro i hi H
  rw [Vr hc,if_neg]
  intro e
  apply H
  have:=V.rs i hi
  rw [e] at this
  omega
 have U:Zc (D.set k c) (Yz row (Yz r k-1))=c:=by rw [X,Vr hc]; simp
 refine ⟨?_,?_⟩
 ·intro j G J H
  have hp:Yn j<row.length:=by have:=Wa G; omega
  have:=O j G J
  by_cases I:Yn j=Yz r k-1
  ·unfold klt at *
   rw [M j J H,I,U]
   rw [I,X] at this
   omega
  ·unfold klt at *
   rw [M j J H,M _ hp I]
   exact this
 ·intro R j G J hp
  have ab:=Wa G
  have ac:=Wa R
  have h1:=O j G J
  have h2:=O (Yz r k-1) R q1
  rw [hp] at h1
  have h3:=Zhe h2 h1
  have e1:=M j J (by omega)
  have e2:=M (Yn (Yz r k-1)) (by omega) (by omega)
  unfold klt at *
  rw [e1,e2]
  exact h3
end Go.Rm
