import Derived.Test.YtnmnlnpbekafmaaGreatDoorT19
/- Parts. -/
set_option linter.unusedSimpArgs false
set_option linter.unusedVariables false
namespace Go.Rm
def Zz (l:Za) (i:Nat):Zb:=l.getD i []
theorem Zny {l:Za} {i:Nat} (r:i<l.length):Zz l i=l[i]:=by simp [Zz,r]
structure Qw (h:Zk) (s:Sl) (l:Za):Prop where
 ok:s.ok
 len:l.length=s.n
 val:∀ i,i<l.length->∃ u:Sl,hc h s.b (s.o+i)=some u.v/\Yf h u (Zz l i)
theorem Qw.ext {h h':Zk} {s:Sl} {l:Za} (r:Qw h s l) (e:Ext h h'):Qw h' s l :=
 ⟨r.ok,r.len,fun i D=>by
  obtain ⟨u,a,b⟩:=r.val i D;exact ⟨u,e.hc a (fun h=>h),b.ext e⟩⟩
def U5 (s:Sl):Value:=.agg #[s.v]
def Wi (l:Zb):Int:=l.foldl (fun m c=>if m<c+1 then c+1 else m) 0
theorem Zag {l:Zb} {i:Nat} (r:i<l.length):Wi (l.take (i+1))=if Wi (l.take i)<Zl l i+1 then Zl l i+1 else Wi (l.take i):=by
 unfold Wi;rw [Xey r,Xht];simp only [Xgv,List.foldl_nil];rw [show Zl l i=l[i] by simp [Zl,r]]
theorem Zn1 {l:Zb}:∀ {i:Nat},i<=l.length->0<=Wi (l.take i):=by
 intro i
 induction i with
 | zero=>intro _;simp [Wi]
 | succ i r =>
  intro D;have:=r (by omega);rw [Zag (by omega)]
  split <;> omega
theorem Z0x {l:Zb}:∀ {i:Nat},i<=l.length->∀ j,j<i->Zl l j<Wi (l.take i):=by
 intro i
 induction i with
 | zero=>intro _ j r;omega
 | succ i D =>
  intro G j r;rw [Zag (by omega)];rcases Xen j i with g | g
  ·have:=D (by omega) j g
   split <;> omega
  obtain rfl:j=i:=by omega
  split <;> omega
theorem Z38 {l:Zb} {n:Int} (r:0<=n) (h:∀ j,j<l.length->Zl l j<n):∀ {i:Nat},i<=l.length->Wi (l.take i)<=n:=by
 intro i
 induction i with
 | zero=>intro _;simpa [Wi] using r
 | succ i D =>
  intro G;have:=D (by omega);have:=h i (by omega);rw [Zag (by omega)]
  split <;> omega
theorem Zcy {l:Zb} {n:Int} (r:0<=n) (h:∀ j,j<l.length->Zl l j<n):0<=Wi l/\Wi l<=n/\∀ j,j<l.length->Zl l j<Wi l:=by
 have e:l.take l.length=l:=Xf0;refine ⟨?_,?_,?_⟩
 ·have:=Zn1 (l:=l) (Xel l.length);rwa [e] at this
 ·have:=Z38 r h (Xel l.length);rwa [e] at this
 have:=Z0x (l:=l) (Xel l.length);rwa [e] at this
def Zf7 (L:Za) (l:Int):Bool:=decide (1<=l/\l<=L.length)
def lvl (L:Za) (l:Int):Zb:=if Zf7 L l then Zz L (l-1).toNat else []
section
variable {Y:Sys} {h h':Zk}
theorem Qw.at {s:Sl} {L:Za} (r:Qw h s L) {i:Nat} (D:i<s.n):∃ u:Sl,(∀ g,Ext h g->hc g s.b (s.o+i)=some u.v)/\Yf h u (Zz L i):=by
 obtain ⟨u,a,b⟩:=r.val i (by rw [r.len];exact D);exact ⟨u,fun g e=>e.hc a (fun h=>h),b⟩
structure Zv7 (Y:Sys):Prop where
 most:Y.Has 212 Y212
structure Zgq (Y:Sys):Prop where
 numbers:Y.Has 207 Y207
 Count:Y.Has 190 Y190
 row:Y.Has 208 Y208
def MoI (s:Sl) (l:Zb) (h0:Zk) (e:Zc) (h':Zk):Prop :=
 ∃ (i:Nat) (v1 v4:Value),e=[s.v,v1,Zg (Wi (l.take i)),Zg i,v4]/\i<=s.n/\h'=h0
theorem Zqu (P:Zv7 Y) {s:Sl} {l:Zb} (r:Yf h s l) (D:s.n<=1000000) (hs:∀ j,j<l.length->-1<=Zl l j/\Zl l j<4611686018427387904) {R:Ze} (G:R (Zg (Wi l)) h):Zv Y 212 [s.v] h R:=by
 refine .of_has P.most rfl ?_;have J:=r.len;simp [Y212,Xn.wp];refine Zs (MoI s l h) (fun e _=>s.n-Zy e 3) ⟨0,_,_,rfl,by omega,rfl⟩ ?_;rintro e h1 ⟨i,M,O,rfl,U,rfl⟩;by_cases c:i<s.n
 ·have c':(i:Int)<s.n:=by omega
  have H:=Zj (i:=i) (by omega);obtain ⟨V,g2⟩:=hs i (by omega);have I:IntKind.i64.wrap (Zl l i+1)=Zl l i+1:=Zo (by omega);simp [c',Zm r.ok,r.at c,H,I,<-Zag (l:=l) (i:=i) (by omega)];refine ⟨⟨i+1,_,_,rfl,by omega,rfl⟩,by simp [Zy];omega⟩
 have c':¬ (i:Int)<s.n:=by omega
 have:l.take i=l:=Xeu (by omega);simp [c',this];exact G
theorem Zdo (P:Zgq Y) {s:Sl} {L:Za} (r:Qw h s L) (O:s.n<=1000) {l:Int} (X : -9223372036854775808<=l/\l<=9223372036854775807) {R:Ze}
  (H:∀ h' u,Ext h h'->Yf h u (lvl L l)->R u.v h'):Zv Y 207 [U5 s,Zg l] h R:=by
 refine .of_has P.numbers rfl ?_;have Z:=r.len;simp [Y207,Xn.wp,U5];refine Zn ?_;intro B h1 g1 B1 J;by_cases c:Zf7 L l=true
 ·have c':=c;simp [Zf7] at c';obtain ⟨i,I⟩:∃ i:Nat,l-1=i:=⟨(l-1).toNat,by omega⟩
  have U:IntKind.i64.wrap (l-1)=(i:Int):=by rw [Zo (by omega),I]
  obtain ⟨u,hu,V⟩:=r.at (i:=i) (by omega)
  have D:lvl L l=Zz L i:=by simp [lvl,c,I]
  rw [D] at H;have c1:¬ l<1:=by omega
  have M:¬ (s.n:Int)<l:=by omega
  simp [c1,M,B1.hc,U,Zm r.ok,show i<s.n by omega,hu,J];exact H h1 u J V
 have c':Zf7 L l=false:=by simpa using c
 have D:lvl L l=[]:=by simp [lvl,c']
 rw [D] at H;have G:=H h1 Sl.nil J ⟨Sl.nil_ok,rfl,fun i I=>by simp at I⟩;simp [Zf7] at c';by_cases c1:l<1
 ·simp [c1];exact G
 have M:(s.n:Int)<l:=by omega
 simp [c1,M,B1.hc];exact G
theorem Zry (P:Zgq Y) {s:Sl} {L:Za} (r:Qw h s L) (O:s.n<=1000) {l:Int} (X : -9223372036854775808<=l/\l<=9223372036854775807) {R:Ze}
  (H:∀ h' u,Ext h h'->Yf h u (lvl L l)->R u.v h'):Zv Y 208 [U5 s,Zg l] h R:=by
 refine .of_has P.row rfl ?_;have Z:=r.len;simp [Y208,Xn.wp,U5];refine Zn ?_;intro B h1 g1 B1 J;by_cases c:Zf7 L l=true
 ·have c':=c;simp [Zf7] at c';obtain ⟨i,I⟩:∃ i:Nat,l-1=i:=⟨(l-1).toNat,by omega⟩
  have U:IntKind.i64.wrap (l-1)=(i:Int):=by rw [Zo (by omega),I]
  obtain ⟨u,hu,V⟩:=r.at (i:=i) (by omega)
  have D:lvl L l=Zz L i:=by simp [lvl,c,I]
  rw [D] at H;have c1:¬ l<1:=by omega
  have M:¬ (s.n:Int)<l:=by omega
  simp [c1,M,B1.hc,U,Zm r.ok,show i<s.n by omega,hu,J];exact H h1 u J V
 have c':Zf7 L l=false:=by simpa using c
 have D:lvl L l=[]:=by simp [lvl,c']
 rw [D] at H;have G:=H h1 Sl.nil J ⟨Sl.nil_ok,rfl,fun i I=>by simp at I⟩;simp [Zf7] at c';by_cases c1:l<1
 ·simp [c1];exact G
 have M:(s.n:Int)<l:=by omega
 simp [c1,M,B1.hc];exact G
def PcI (u:Sl) (l:Zb) (h0:Zk) (e:Zc) (h':Zk):Prop :=
 ∃ (i:Nat) (v0 v1 v2 v3 v5 v9 v10:Value),e=[v0,v1,v2,v3,Zg (Wi (l.take i)),v5,u.v,Zg u.n,Zg i,v9,v10]/\i<=u.n/\h'=h0
theorem Zrb (P:Zgq Y) {s:Sl} {L:Za} (r:Qw h s L) (D:s.n<=1000) (hb:∀ i,i<L.length->(Zz L i).length<=1000000/\∀ j,j<(Zz L i).length->-1<=Zl (Zz L i) j/\Zl (Zz L i) j<4611686018427387904) {l:Int} (U : -9223372036854775808<=l/\l<=9223372036854775807) {R:Ze}
  (V:∀ h',Ext h h'->R (Zg (Wi (lvl L l))) h'):Zv Y 190 [U5 s,Zg l] h R:=by
 refine .of_has P.Count rfl ?_;simp [Y190,Xn.wp,U5];refine Zn ?_;intro B h1 X B1 M;have J:(lvl L l).length<=1000000/\∀ j,j<(lvl L l).length->-1<=Zl (lvl L l) j/\Zl (lvl L l) j<4611686018427387904:=by
  unfold lvl
  split
  ·rename_i c;simp [Zf7] at c;exact hb _ (by omega)
  simp
 simp [Yj B1];refine Zdo P (r.ext M) D U ?_;intro Z u e2 H;have lu:=H.len;have G:=H.ext e2;obtain ⟨b1,b2⟩:=J;generalize lvl L l=q at *
 simp;refine Zs (PcI u q Z) (fun e _=>u.n-Zy e 8) ⟨0,_,_,_,_,_,_,_,rfl,by omega,rfl⟩ ?_;rintro e h3 ⟨i,v0,v1,v2,v3,v5,v9,aa,rfl,hi,rfl⟩;by_cases c:i<u.n
 ·have c':(i:Int)<u.n:=by omega
  have O:=Zj (i:=i) (by omega);obtain ⟨X,g2⟩:=b2 i (by omega);have w2:IntKind.i64.wrap (Zl q i+1)=Zl q i+1:=Zo (by omega);have I:=Zag (l:=q) (i:=i) (by omega);by_cases d:Wi (q.take i)<=Zl q i
  ·rw [if_pos (by omega)] at I;simp [c',Zm H.ok,G.at c,O,w2,d];rw [<-I];refine ⟨⟨i+1,_,_,_,_,_,_,_,rfl,by omega,rfl⟩,by simp [Zy];omega⟩
  rw [if_neg (by omega)] at I;simp [c',Zm H.ok,G.at c,O,d];rw [<-I];refine ⟨⟨i+1,_,_,_,_,_,_,_,rfl,by omega,rfl⟩,by simp [Zy];omega⟩
 have c':¬ (i:Int)<u.n:=by omega
 have:q.take i=q:=Xeu (by omega);simp [c',this];exact V h3 (M.trans e2)
def Znu (n:Nat) (row:Zb):Bool:=decide (∀ v,v<n->0<=Zl row v/\Zl row v<n)
def Zdw (row:Zb):Bool:=decide (∀ c,c<(Wi row).toNat->∃ v,v<row.length/\Zl row v=(c:Int))
def Zdq (n:Nat) (prev row:Zb):Bool:=decide (∀ a,a<n->∀ b,b<n->Zl prev a<=Zl prev b->Zl row a<=Zl row b)
def lvE (n:Nat) (L:Za) (i:Nat):Int :=
 if (Zz L i).length≠n then 1 else if Znu n (Zz L i)=false then 10 else if Zdw (Zz L i)=false then 10 else
 if 0<i/\Zdq n (Zz L (i-1)) (Zz L i)=false then 10 else 0
theorem Zh1 {n:Nat} {row:Zb}:Znu n row=true↔∀ v,v<n->0<=Zl row v/\Zl row v<n:=by simp [Znu]
theorem Zqj {row:Zb}:Zdw row=true↔∀ c,c<(Wi row).toNat->∃ v,v<row.length/\Zl row v=(c:Int):=by simp [Zdw]
theorem Zep {n:Nat} {r row:Zb}:Zdq n r row=true↔∀ a,a<n->∀ b,b<n->Zl r a<=Zl r b->Zl row a<=Zl row b:=by simp [Zdq]
def Zbh (l:Zb) (c:Nat):Nat:=(l.filter fun x=>x=(c:Int)).length
def Zfn (n:Nat) (l:Zb):Zb:=(List.range n).map fun c=>(Zbh l c:Int)
@[simp] theorem Z98 {n:Nat} {l:Zb}:(Zfn n l).length=n:=by simp [Zfn]
theorem Zox {n c:Nat} {l:Zb} (hc:c<n):Zl (Zfn n l) c=Zbh l c:=by simp [Zl,Zfn,hc]
theorem Zp3 {n:Nat}:Zfn n []=List.replicate n 0:=by
 apply Xew (by simp);intro j h1 r;simp [Zfn,Zbh]
theorem Zxm {l:Zb} {i c:Nat} (r:i<l.length):Zbh (l.take (i+1)) c=Zbh (l.take i) c+if Zl l i=(c:Int) then 1 else 0:=by
 unfold Zbh;rw [Xey r,Xgr,Xex,show Zl l i=l[i] by simp [Zl,r]]
 congr 1
 by_cases h:l[i]=(c:Int) <;> simp [h]
theorem Zvw {l:Zb} {c:Nat}:Zbh l c<=l.length:=Xfx ..
theorem Znf {n i t:Nat} {l:Zb} (r:i<l.length) (ht:Zl l i=(t:Int)) (D:t<n):(Zfn n (l.take i)).set t ((Zbh (l.take i) t:Int)+1)=Zfn n (l.take (i+1)):=by
 apply Xew (by simp);intro j h1 G;rw [Xfm];simp only [Zfn,Xe7,Xgh];rw [Zxm r,ht];by_cases c:t=j
 ·subst c;simp
 have:¬ (t:Int)=(j:Int):=by omega
 simp [c,this]
theorem Zk1 {l:Zb} {c:Nat}:Zbh l c≠0↔∃ v,v<l.length/\Zl l v=(c:Int):=by
 unfold Zbh;rw [Ne,Xh7,Xh8];constructor
 ·intro h;simp only [decide_eq_true_eq] at h;have ⟨x,hx,hc⟩:∃ x∈l,x=(c:Int):=by
   apply Classical.byContradiction;intro r;exact h fun a D e=>r ⟨a,D,e⟩
  obtain ⟨v,hv,rfl⟩:=Xfs hx;exact ⟨v,hv,by simp [Zl,hv];exact hc⟩
 rintro ⟨v,hv,e⟩ h;have:=h l[v] (Xe4 hv);simp [Zl,hv] at e;simp [e] at this
theorem Zeo {row:Zb}:Zdw row=true↔∀ c,c<(Wi row).toNat->Zbh row c≠0:=by
 rw [Zqj];exact ⟨fun h c hc=>Zk1.2 (h c hc),fun h c hc=>Zk1.1 (h c hc)⟩
structure Xa9 (Y:Sys):Prop where
 P:Zv7 Y
 checkLevel:Y.Has 215 Y215
@[simp] theorem Z7a:Ys.sem Y h .len [Zi]=some (Zg 0):=rfl
theorem Zq5 {K:Ze} {b n m:Nat} {cs:Zb} (o:Yl h 1 (Sl.at b n m) (Zt cs)) {k:Nat} {y:Int} (r:k<cs.length)
  (D:∀ h',Yl h' 1 (Sl.at b n m) (Zt (cs.set k y))->Mod (fun j=>j=b) h h'->K undef h'):Xo h b k (Zg y) K:=by
 have:=Xas o r D;simpa using this
def Xdw (n B l:Nat) (v1:Value) (u:Sl) (row:Zb) (h0:Zk) (e:Zc) (h':Zk):Prop :=
 ∃ (i:Nat) (v8 v9 v10 v11 v12 v13 v14 v15 v16 v17 v18 v19 v20 v21 v22 v23 v24:Value),e=[Zg n,v1,Zg ((l:Int)+1),Zi,Zh B,Zg 0,u.v,Zg i,v8,v9,v10,v11,v12,v13,v14,v15,v16,v17,v18,v19,v20,v21,v22,v23,v24]/\i<=n/\(∀ j,j<i->0<=Zl row j/\Zl row j<n)/\h'=h0
def Xcd (n B l:Nat) (v1:Value) (u k:Sl) (row:Zb) (h0:Zk) (e:Zc) (h':Zk):Prop :=
 ∃ (i:Nat) (v7 v10 v11 v12 v13 v14 v15 v16 v17 v18 v19 v20 v21 v22 v23 v24:Value),e=[Zg n,v1,Zg ((l:Int)+1),Zi,Zh B,Zg 0,u.v,v7,k.v,Zg i,v10,v11,v12,v13,v14,v15,v16,v17,v18,v19,v20,v21,v22,v23,v24]/\i<=n/\Yl h' 1 k (Zt (Zfn n (row.take i)))/\Mod (fun j=>j=k.b) h0 h'
def Xdd (n B l:Nat) (v1:Value) (u k:Sl) (row:Zb) (h0:Zk) (e:Zc) (h':Zk):Prop :=
 ∃ (i:Nat) (v7 v9 v11 v12 v13 v14 v15 v16 v17 v18 v19 v20 v21 v22 v23 v24:Value),e=[Zg n,v1,Zg ((l:Int)+1),Zi,Zh B,Zg 0,u.v,v7,k.v,v9,Zg i,v11,v12,v13,v14,v15,v16,v17,v18,v19,v20,v21,v22,v23,v24]/\(i:Int)<=Wi row/\(∀ j,j<i->Zbh row j≠0)/\h'=h0
def Xc0 (n B l:Nat) (v1:Value) (u k:Sl) (prev row:Zb) (h0:Zk) (e:Zc) (h':Zk):Prop :=
 ∃ (i:Nat) (v7 v9 v10 v12 v13 v14 v15 v16 v17 v18 v19 v20 v21 v22 v23 v24:Value),e=[Zg n,v1,Zg ((l:Int)+1),Zi,Zh B,Zg 0,u.v,v7,k.v,v9,v10,Zg i,v12,v13,v14,v15,v16,v17,v18,v19,v20,v21,v22,v23,v24]/\i<=n/\(0<l->∀ a,a<i->∀ b,b<n->Zl prev a<=Zl prev b->Zl row a<=Zl row b)/\h'=h0
def Xcv (n B l a:Nat) (v1:Value) (u k:Sl) (prev row:Zb) (h0:Zk) (e:Zc) (h':Zk):Prop :=
 ∃ (i:Nat) (v7 v9 v10 v13 v14 v15 v16 v17 v18 v19 v20 v21 v22 v23 v24:Value),e=[Zg n,v1,Zg ((l:Int)+1),Zi,Zh B,Zg 0,u.v,v7,k.v,v9,v10,Zg a,Zg i,v13,v14,v15,v16,v17,v18,v19,v20,v21,v22,v23,v24]/\i<=n/\(∀ b,b<i->Zl prev a<=Zl prev b->Zl row a<=Zl row b)/\h'=h0
def Xcs (n B l:Nat) (v1:Value) (h0:Zk) (e:Zc) (h':Zk):Prop :=
 ∃ (i:Nat) (v6 v7 v8 v9 v10 v11 v12 v14 v15 v16 v17 v18 v19 v20 v21 v22 v23 v24:Value),e=[Zg n,v1,Zg ((l:Int)+1),Zi,Zh B,Zg 0,v6,v7,v8,v9,v10,v11,v12,Zg i,v14,v15,v16,v17,v18,v19,v20,v21,v22,v23,v24]/\i<=n/\h'=h0
theorem Zvj (C:Xa9 Y) {s:Sl} {L:Za} (r:Qw h s L) (be:s.n<=1000) {n l:Nat} (hn:n<=1000000) (hl:l<L.length) (aA:0<l->(Zz L (l-1)).length=n) {R:Ze}
  (D:∀ h',Ext h h'->R (Zg (lvE n L l)) h'):Zv Y 215 [Zg n,U5 s,Zg ((l:Int)+1),Zi] h R:=by
 refine .of_has C.checkLevel rfl ?_;have lL:=r.len;simp [Y215,Xn.wp,U5];refine Zn ?_;intro B h1 g1 B1 e1;obtain ⟨u,hu,ru⟩:=r.at (i:=l) (by omega)
 have lu:=ru.len;have wl:IntKind.i64.wrap ((l:Int)+1-1)=(l:Int):=by rw [Zo (by omega)];omega
 have aK:IntKind.i64.wrap (l:Int)=(l:Int):=Zo (by omega);have aL:l<s.n:=by omega
 by_cases c1:(Zz L l).length=n;rotate_left
 ·have he:lvE n L l=1:=by unfold lvE;rw [if_pos c1]
  rw [he] at D;have aB:((u.n:Int)=(n:Int))=False:=by simp;omega
  simp [B1.hc,aK,Zm r.ok,aL,hu,e1,aB];exact D h1 e1
 have aB:((u.n:Int)=(n:Int))=True:=by simp;omega
 have c1n:(u.n=n)=True:=by simp;omega
 obtain ⟨row,az⟩:∃ row,row=Zz L l:=⟨_,rfl⟩
 have hE:lvE n L l=if Znu n row=false then 10 else if Zdw row=false then 10 else if 0<l/\Zdq n (Zz L (l-1)) row=false then 10 else 0:=by
  unfold lvE;rw [if_neg (by simp [c1]),az]
 rw [hE] at D;clear hE;rw [<-az] at ru lu c1;simp [B1.hc,aK,Zm r.ok,aL,hu,e1,aB];refine Zs (Xdw n B l (.agg #[s.v]) u row h1) (fun e _=>n-Zy e 7) ⟨0,_,_,_,_,_,_,_,_,_,_,_,_,_,_,_,_,_,rfl,by omega,fun j hj=>by omega,rfl⟩ ?_;rintro e h2 ⟨i,v8,v9,bh,bi,bj,bk,bm,bn,bo,bp,bq,br,bs,bu,bv,bw,bx,rfl,hi,ai,rfl⟩;have aq:=ru.ext e1;by_cases c2:i<n
 ·have aj:(i:Int)<n:=by omega
  have w1:=Zj (i:=i) (by omega);have aC:i<u.n:=by omega
  have ak:(i:Int)<u.n:=by omega
  by_cases d:0<=Zl row i/\Zl row i<n
  ·have d1:¬ Zl row i<0:=by omega
   have d2:¬ (n:Int)<=Zl row i:=by omega
   simp [aj,Zm ru.ok,ak,aq.at aC,d1,d2,w1];have aM:∀ j,j<i+1->0<=Zl row j/\Zl row j<n:=by
    intro j hj;rcases Xen j i with g | g
    ·exact ai j g
    obtain rfl:j=i:=by omega
    exact d
   refine ⟨⟨i+1,_,_,_,_,_,_,_,_,_,_,_,_,_,_,_,_,_,rfl,by omega,aM,rfl⟩,by simp [Zy];omega⟩
  have he:Znu n row=false:=by
   rw [Xgd];intro hh;exact d (Zh1.1 hh i c2)
  rw [if_pos he] at D;by_cases d1:Zl row i<0
  ·simp [aj,Zm ru.ok,ak,aq.at aC,d1];exact D _ e1
  have d2:(n:Int)<=Zl row i:=by omega
  simp [aj,Zm ru.ok,ak,aq.at aC,d1,d2];exact D _ e1
 have aj:¬ (i:Int)<n:=by omega
 obtain rfl:i=n:=by omega
 have aV:Znu i row=true:=Zh1.2 ai;rw [if_neg (by simp [aV])] at D;simp [aj];refine Zff (n:=i) hn rfl ?_;intro kb h3 g3 o3 e3 l3;rw [<-Zp3] at o3;simp;refine Zs (Xcd i B l (.agg #[s.v]) u (Sl.at kb i i) row h3) (fun e _=>i-Zy e 9) ⟨0,_,_,_,_,_,_,_,_,_,_,_,_,_,_,_,_,rfl,by omega,by simpa using o3,Mod.refl _⟩ ?_;rintro e h4 ⟨v,w7,af,ar,G,H,I,J,M,O,U,V,al,X,Z,aa,ab,rfl,hv,o4,m4⟩;have x4:Ext h2 h4:=Mod.ext e3 m4 (fun j hj=>by rw [hj];exact g3);have ag:=aq.ext x4;have ko:=o4.ok;by_cases c3:v<i
 ·have aD:(v:Int)<i:=by omega
  have w1:=Zj (i:=v) (by omega);have aW:v<u.n:=by omega
  have aN:(v:Int)<u.n:=by omega
  obtain ⟨d1,d2⟩:=ai v c3;obtain ⟨t,ht⟩:∃ t:Nat,Zl row v=t:=⟨(Zl row v).toNat,by omega⟩
  have aO:t<i:=by omega
  have kx:=Zm (Y:=Y) (h:=h4) (s:=Sl.at kb i i) (sz:=1) (k:=.i64) (i:=(t:Int)) ko (by omega) (by simp;omega);simp at kx;have kc:=o4.row64.val t (by simp;omega);simp [Zox aO] at kc;have cl:=Zvw (l:=row.take v) (c:=t);have bz:(row.take v).length<=v:=by simp;omega
  have w2:IntKind.i64.wrap ((Zbh (row.take v) t:Int)+1)=(Zbh (row.take v) t:Int)+1:=Zo (by omega);simp [aD,Zm ru.ok,aN,ag.at aW,ht,kx,kc,w2];refine Zq5 o4 (k:=t) (by simp;omega) ?_;intro h5 o5 m5;rw [Znf (by omega) ht aO] at o5;simp [w1];refine ⟨⟨v+1,_,_,_,_,_,_,_,_,_,_,_,_,_,_,_,_,rfl,by omega,o5,m4.trans m5⟩,by simp [Zy];omega⟩
 have aD:¬ (v:Int)<i:=by omega
 obtain rfl:v=i:=by omega
 rw [Xeu (by omega)] at o4;have aX:=o4.row64;obtain ⟨bA,bB,bC⟩:=Zcy (l:=row) (n:=(v:Int)) (by omega) (fun j hj=>(ai j (by omega)).2);have kx:=fun (j:Nat) (hj:j<v)=>Zm (Y:=Y) (h:=h4) (s:=Sl.at kb v v) (sz:=1) (k:=.i64) (i:=(j:Int)) ko (by omega) (by simp;omega);have kc:=fun (j:Nat) (hj:j<v)=>aX.val j (by simp;omega);simp at kx;have ac:∀ {K:Ze},K (Zg (Wi row)) h4->Zv Y 212 [u.v] h4 K:=fun hK=>Zqu C.P ag (by omega) (fun j hj=>by have:=ai j (by omega);omega) hK;clear o3 m4 e3;simp [aD];refine Zs (Xdd v B l (.agg #[s.v]) u (Sl.at kb v v) row h4) (fun e _=>(Wi row).toNat-Zy e 10) ⟨0,_,_,_,_,_,_,_,_,_,_,_,_,_,_,_,_,rfl,by omega,fun j hj=>by omega,rfl⟩ ?_;rintro e h5 ⟨c,w7,w9,ar,G,H,I,J,M,O,U,V,al,X,Z,aa,ab,rfl,bD,aP,aY⟩;subst aY;by_cases c4:(c:Int)<Wi row
 ·have w1:=Zj (i:=c) (by omega);have au:c<v:=by omega
  have bg:(c:Int)<v:=by omega
  have am:=kc c au;rw [Zox au] at am;simp at am;simp;refine ac ?_;by_cases d:Zbh row c=0
  ·have he:Zdw row=false:=by
    rw [Xgd];intro hh;exact Zeo.1 hh c (by omega) d
   rw [if_pos he] at D;rw [d] at am;simp [c4,kx c au,am];exact D _ (e1.trans x4)
  have d':((Zbh row c:Int)=0)=False:=by simp;omega
  simp [c4,kx c au,am,d,w1];have aQ:∀ j,j<c+1->Zbh row j≠0:=by
   intro j hj;rcases Xen j c with g | g
   ·exact aP j g
   obtain rfl:j=c:=by omega
   exact d
  refine ⟨⟨c+1,_,_,_,_,_,_,_,_,_,_,_,_,_,_,_,_,rfl,by omega,aQ,rfl⟩,by simp [Zy];omega⟩
 have hF:Zdw row=true:=Zeo.2 (fun j hj=>aP j (by omega));rw [if_neg (by simp [hF])] at D;simp;refine ac ?_;simp [c4];clear ac;have aZ:0<l->∃ q:Sl,(∀ g,Ext h g->hc g s.b (s.o+(l-1))=some q.v)/\Yf h q (Zz L (l-1)):=fun h0=>r.at (i:=l-1) (by omega)
 refine Zs (Xc0 v B l (.agg #[s.v]) u (Sl.at kb v v) (Zz L (l-1)) row h5) (fun e _=>v-Zy e 11) ⟨0,_,_,_,_,_,_,_,_,_,_,_,_,_,_,_,_,rfl,by omega,fun _ a ha=>by omega,rfl⟩ ?_;rintro e h6 ⟨a,w7,w9,af,G,H,I,J,M,O,U,V,al,X,Z,aa,ab,rfl,ha,ad,a0⟩;subst a0;have x6:Ext h h6:=e1.trans x4;have done:(0<l->Zdq v (Zz L (l-1)) row=true)->∀ (w7 w9 af ar G H I J M O U V al X Z aa ab:Value),Stmt.wp Y Y215.body.rest.rest.rest.rest.rest.rest.rest.rest (Q6 Y215.res R) (fun _ _ _=>False) (Q6 Y215.res R)
   [Zg v,.agg #[s.v],Zg ((l:Int)+1),Zi,Zh B,Zg 0,u.v,w7,(Sl.at kb v v).v,w9,af,ar,G,H,I,J,M,O,U,V,al,X,Z,aa,ab] h6:=by
  intro hN w7 w9 af ar G H I J M O U V al X Z aa ab;rw [if_neg (by rintro ⟨q1,q2⟩;rw [hN q1] at q2;cases q2)] at D;simp [Y215,Stmt.rest];refine Zs (Xcs v B l (.agg #[s.v]) h6) (fun e _=>v-Zy e 13) ⟨0,_,_,_,_,_,_,_,_,_,_,_,_,_,_,_,_,_,_,rfl,by omega,rfl⟩ ?_;rintro e h7 ⟨i,y6,y7,y8,y9,a1,bE,bF,a2,a3,a4,a5,a6,a7,a8,a9,ba,bb,bc,rfl,hi,aE⟩;subst aE;by_cases c5:(i:Int)<v
  ·simp [c5];exact D h7 x6
  simp [c5];exact D h7 x6
 simp only [Y215,Stmt.rest] at done;by_cases c6:a<v;rotate_left
 ·have av:¬ (a:Int)<v:=by omega
  have tt:=done (fun h0=>Zep.2 (fun x hx=>ad h0 x (by omega))) w7 w9 af (Zg a) G H I J M O U V (.bool false) X Z aa ab;simp at tt;simp [av];exact tt
 have av:(a:Int)<v:=by omega
 by_cases aw:0<l;rotate_left
 ·have l1:¬ (1:Int)<(l:Int)+1:=by omega
  have tt:=done (fun h0=>absurd h0 aw) w7 w9 af (Zg a) G H I J M O U V (.bool false) X Z aa ab;simp at tt;have l0:l=0:=by omega
  simp [av,l0] at tt ⊢;exact tt
 clear done;have l1:(1:Int)<(l:Int)+1:=by omega
 obtain ⟨q,hq,rq⟩:=aZ aw;have bd:=aA aw;have lq:=rq.len;have ax:IntKind.i64.wrap ((l:Int)+1-2)=((l-1:Nat):Int):=by rw [Zo (by omega)];omega
 obtain ⟨m,hm⟩:∃ m,m=l-1:=⟨_,rfl⟩
 rw [<-hm] at ax hq rq bd lq D ad ⊢;have bG:m<s.n:=by omega
 have an:(m:Int)<s.n:=by omega
 have ah:=rq.ext x6;have B6:=B1.ext x4;simp [av,l1];refine Zs (Xcv v B l a (.agg #[s.v]) u (Sl.at kb v v) (Zz L m) row h6) (fun e _=>v-Zy e 12) ⟨0,_,_,_,_,_,_,_,_,_,_,_,_,_,_,_,rfl,by omega,fun b hb=>by omega,rfl⟩ ?_;rintro e h7 ⟨b,y7,y9,a1,bH,a2,a3,a4,a5,a6,a7,a8,a9,ba,bb,bc,rfl,hb,aF,aE⟩;subst aE;have w1:=Zj (i:=a) (by omega);have w2:=Zj (i:=b) (by omega);by_cases c7:b<v;rotate_left
 ·have ao:¬ (b:Int)<v:=by omega
  simp [ao,w1];have ay:0<l->∀ x,x<a+1->∀ y,y<v->Zl (Zz L m) x<=Zl (Zz L m) y->Zl row x<=Zl row y:=by
   intro h0 x hx y hy ae;rcases Xen x a with g | g
   ·exact ad h0 x g y hy ae
   obtain rfl:x=a:=by omega
   exact aF y (by omega) ae
  refine ⟨⟨a+1,_,_,_,_,_,_,_,_,_,_,_,_,_,_,_,_,rfl,by omega,ay,rfl⟩,by simp [Zy];omega⟩
 have ao:(b:Int)<v:=by omega
 have aG:a<q.n:=by omega
 have aH:(a:Int)<q.n:=by omega
 have aI:b<q.n:=by omega
 have aJ:(b:Int)<q.n:=by omega
 have aR:a<u.n:=by omega
 have aS:(a:Int)<u.n:=by omega
 have aT:b<u.n:=by omega
 have aU:(b:Int)<u.n:=by omega
 by_cases d1:Zl (Zz L m) a<=Zl (Zz L m) b;rotate_left
 ·simp [ao,B6.hc,ax,Zm r.ok,an,hq,x6,Zm rq.ok,aH,aJ,ah.at aG,ah.at aI,d1,w2];have ap:∀ y,y<b+1->Zl (Zz L m) a<=Zl (Zz L m) y->Zl row a<=Zl row y:=by
   intro y hy ae;rcases Xen y b with g | g
   ·exact aF y g ae
   obtain rfl:y=b:=by omega
   exact absurd ae d1
  refine ⟨⟨b+1,_,_,_,_,_,_,_,_,_,_,_,_,_,_,_,rfl,by omega,ap,rfl⟩,by simp [Zy];omega⟩
 by_cases d2:Zl row b<Zl row a
 ·have he:Zdq v (Zz L m) row=false:=by
   rw [Xgd];intro hh;have:=Zep.1 hh a c6 b c7 d1;omega
  rw [if_pos ⟨aw,he⟩] at D;simp [ao,B6.hc,ax,Zm r.ok,an,hq,x6,Zm rq.ok,aH,aJ,ah.at aG,ah.at aI,d1,Zm ru.ok,aS,aU,ag.at aR,ag.at aT,d2];exact D _ x6
 simp [ao,B6.hc,ax,Zm r.ok,an,hq,x6,Zm rq.ok,aH,aJ,ah.at aG,ah.at aI,d1,Zm ru.ok,aS,aU,ag.at aR,ag.at aT,d2,w2];have ap:∀ y,y<b+1->Zl (Zz L m) a<=Zl (Zz L m) y->Zl row a<=Zl row y:=by
  intro y hy ae;rcases Xen y b with g | g
  ·exact aF y g ae
  obtain rfl:y=b:=by omega
  omega
 refine ⟨⟨b+1,_,_,_,_,_,_,_,_,_,_,_,_,_,_,_,rfl,by omega,ap,rfl⟩,by simp [Zy];omega⟩
abbrev Zme:ByteArray:=⟨#[112,97,114,116]⟩
def Zka (n:Nat) (L:Za):Nat->Nat->Wr
 | _,0=>Qa
 | i,k+1=>if lvE n L i≠0 then Vj Zme ((i:Int)+1) (lvE n L i) else Zka n L (i+1) k
def Zcd (n:Nat) (L:Za):Wr:=if 4096<n\/6<L.length then Vj Zme 0 4 else if L.length=0 then Vj Zme 0 1 else Zka n L 0 L.length
structure Xf (n:Nat) (L:Za):Prop where
 bn:n<=4096
 bL:L.length<=6
 pos:0<L.length
 lv:∀ i,i<L.length->lvE n L i=0
theorem Zxp {n:Nat} {L:Za}:∀ {k i:Nat},(Zka n L i k).2=0↔∀ j,j<k->lvE n L (i+j)=0:=by
 intro k
 induction k with
 | zero=>intro i;simp [Zka,Qa]
 | succ k r =>
  intro i;simp only [Zka];by_cases h:lvE n L i=0
  ·rw [if_neg (by simp [h]),r];constructor
   ·intro g j D
    cases j with
    | zero=>exact h
    | succ j=>rw [show i+(j+1)=i+1+j by omega];exact g j (by omega)
   intro g j D;rw [show i+1+j=i+(j+1) by omega];exact g (j+1) (by omega)
  rw [if_pos h];simp only [Vj];exact ⟨fun g=>absurd g h,fun g=>g 0 (by omega)⟩
theorem Zt9 {n:Nat} {L:Za}:(Zcd n L).2=0↔Xf n L:=by
 unfold Zcd;by_cases h1:4096<n\/6<L.length
 ·rw [if_pos h1];simp only [Vj];exact ⟨fun g=>(by cases g),fun g=>by have:=g.bn;have:=g.bL;omega⟩
 rw [if_neg h1];by_cases r:L.length=0
 ·rw [if_pos r];simp only [Vj];exact ⟨fun g=>(by cases g),fun g=>by have:=g.pos;omega⟩
 rw [if_neg r,Zxp];constructor
 ·intro g;exact ⟨by omega,by omega,by omega,fun i D=>by have:=g i D;rwa [Xfg] at this⟩
 intro g j G;rw [Xfg];exact g.lv j G
theorem Us {n i:Nat} {L:Za} (h:lvE n L i=0):(Zz L i).length=n/\(∀ v,v<n->0<=Zl (Zz L i) v/\Zl (Zz L i) v<n)/\(∀ c,c<(Wi (Zz L i)).toNat->Zbh (Zz L i) c≠0) /\
  (0<i->∀ a,a<n->∀ b,b<n->Zl (Zz L (i-1)) a<=Zl (Zz L (i-1)) b->Zl (Zz L i) a<=Zl (Zz L i) b):=by
 unfold lvE at h
 split at h
 ·cases h
 rename_i h1
 split at h
 ·cases h
 rename_i r
 split at h
 ·cases h
 rename_i D
 split at h
 ·cases h
 rename_i h4;refine ⟨by simpa using h1,Zh1.1 (by simpa using r),Zeo.1 (by simpa using D),fun h0=>Zep.1 ?_⟩
 cases hq:Zdq n (Zz L (i-1)) (Zz L i) with
 | true=>rfl
 | false=>exact absurd ⟨h0,hq⟩ h4
def Zpt (L:Za):Bool:=decide ((∀ i,i<L.length->(Zz L i).length<=60)/\L.length<=10)
def Zd8 (n:Nat) (L:Za):Bool:=Zpt L && decide (n<=60) && decide ((Zcd n L).2=0)
structure Xbf (Y:Sys):Prop where
 C:Xa9 Y
 CheckPart:Y.Has 199 Y199
 At:Y.Has 50 Y50
def Xdj (n B W:Nat) (v1:Value) (L:Za) (h0:Zk) (e:Zc) (h':Zk):Prop :=
 ∃ (i:Nat) (v6 v7 v8 v9 v10 v11:Value),e=[Zg n,v1,Zi,Zh B,Zh W,Zg ((i:Int)+1),v6,v7,v8,v9,v10,v11]/\i<=L.length/\(∀ j,j<i->lvE n L j=0)/\Zka n L 0 L.length=Zka n L i (L.length-i)/\Ext h0 h'
theorem Zk2 (C:Xbf Y) {s:Sl} {L:Za} (r:Qw h s L) (U:s.n<=1000) {n:Nat} (hn:n<=1000000) {R:Ze}
  (hr:∀ h' v,Ext h h'->FWr h.size h' (Zcd n L) v->R v h'):Zv Y 199 [Zg n,U5 s,Zi] h R:=by
 refine .of_has C.CheckPart rfl ?_;have lL:=r.len;simp [Y199,Xn.wp,U5];refine Zn ?_;intro B h1 g1 B1 e1;simp;refine Zn ?_;intro W Z g2 W2 e2;have V:=e1.trans e2;have z1:=e1.size;have z2:=e2.size;have lW:=W2.lt;have D:∀ {J h4:Zk} {v:Value},Ext Z J->FWr Z.size J (Zcd n L) v->Mod (fun j=>j=W) J h4->R v h4:=by
  intro J h4 v e3 fw H;exact hr h4 v (Mod.ext (V.trans e3) H (fun j hj=>by omega)) ((fw.step H (fun j hj=>by omega)).mono (by omega))
 have n0:¬ (n:Int)<0:=by omega
 by_cases c1:4096<n
 ·have G:(4096:Int)<n:=by omega
  have hp:Zcd n L=Vj Zme 0 4:=by unfold Zcd;rw [if_pos (.inl c1)]
  rw [hp] at D;simp [n0,G];refine U8 C.At ?_;intro J v e3 hv;obtain ⟨s5,rfl⟩:=hv.here.shape;simp;refine Zr (W2.ext e3) rfl rfl (by simp) ?_;intro h4 W4 H;simp;exact Xc rfl W4 rfl (D e3 hv H)
 have G:¬ (4096:Int)<n:=by omega
 by_cases c2:6<s.n
 ·have M:(6:Int)<s.n:=by omega
  have hp:Zcd n L=Vj Zme 0 4:=by unfold Zcd;rw [if_pos (.inr (by omega))]
  rw [hp] at D;simp [n0,G,M,B1.sk,e2];refine U8 C.At ?_;intro J v e3 hv;obtain ⟨s5,rfl⟩:=hv.here.shape;simp;refine Zr (W2.ext e3) rfl rfl (by simp) ?_;intro h4 W4 H;simp;exact Xc rfl W4 rfl (D e3 hv H)
 have M:¬ (6:Int)<s.n:=by omega
 by_cases c3:s.n=0
 ·have hp:Zcd n L=Vj Zme 0 1:=by unfold Zcd;rw [if_neg (by omega),if_pos (by omega)]
  rw [hp] at D;simp [n0,G,B1.sk,e2,c3];refine U8 C.At ?_;intro J v e3 hv;obtain ⟨s5,rfl⟩:=hv.here.shape;simp;refine Zr (W2.ext e3) rfl rfl (by simp) ?_;intro h4 W4 H;simp;exact Xc rfl W4 rfl (D e3 hv H)
 have ab:((s.n:Int)=0)=False:=by simp;omega
 have hp:Zcd n L=Zka n L 0 L.length:=by unfold Zcd;rw [if_neg (by omega),if_neg (by omega)]
 rw [hp] at D;simp [n0,G,M,B1.sk,e2,c3];refine Zs (Xdj n B W (.agg #[s.v]) L Z) (fun e _=>L.length+1-Zy e 5) ⟨0,_,_,_,_,_,_,rfl,by omega,fun j hj=>by omega,rfl,Mod.refl _⟩ ?_;rintro e J ⟨i,v6,v7,v8,v9,ac,ad,rfl,hi,hz,I,e3⟩;have B3:=(B1.ext e2).ext e3;by_cases c4:i<s.n
 ·have O:(i:Int)+1<=s.n:=by omega
  simp [B3.hc,O,Yj B3];refine Zvj C.C (r.ext (V.trans e3)) U hn (by omega) (fun h0=>?_) ?_
  ·exact (Us (hz (i-1) (by omega))).1
  intro h4 e4;have w1:IntKind.i64.wrap ((i:Int)+1+1)=(i:Int)+1+1:=Zo (by omega);have hk:L.length-i=(L.length-(i+1))+1:=by omega
  rw [hk] at I;by_cases d:lvE n L i=0
  ·simp only [Zka] at I;rw [if_neg (by simp [d])] at I;have aa:∀ j,j<i+1->lvE n L j=0:=by
    intro j hj;rcases Xen j i with g | g
    ·exact hz j g
    obtain rfl:j=i:=by omega
    exact d
   simp [d,w1];exact ⟨⟨i+1,_,_,_,_,_,_,by rfl,by omega,aa,I,e3.trans e4⟩,by simp [Zy];omega⟩
  simp only [Zka] at I;rw [if_pos d] at I;rw [I] at D;simp [d];refine U8 C.At ?_;intro h5 v e5 hv;obtain ⟨s5,rfl⟩:=hv.here.shape;simp;have X:=(e3.trans e4).trans e5;refine Zr (W2.ext X) rfl rfl (by simp) ?_;intro h6 W6 m6;have:=e3.size;have:=e4.size;simp;exact Xc rfl W6 rfl (D X (hv.mono (by omega)) m6)
 have O:¬ (i:Int)+1<=s.n:=by omega
 have hk:L.length-i=0:=by omega
 rw [hk] at I;simp only [Zka] at I;rw [I] at D;simp [B3.hc,O];refine Zr (W2.ext e3) rfl rfl (by simp) ?_;intro h4 W4 H;simp;exact Xc rfl W4 rfl (D e3 FWr.ok H)
structure Zn0 (Y:Sys):Prop where
 Pt:Xbf Y
 Few13:Y.Has 198 Y198
 May13:Y.Has 186 Y186
 Few3:Y.Has 98 Y98
 May3:Y.Has 104 Y104
 RN:Z4c Y
 RC:Zz5 Y
def FpI (B:Nat) (v0:Value) (L:Za) (h0:Zk) (e:Zc) (h':Zk):Prop :=
 ∃ (i:Nat) (v2 v4 v5:Value),e=[v0,Zh B,v2,Zg i,v4,v5]/\i<=L.length/\(∀ j,j<i->(Zz L j).length<=60)/\h'=h0
theorem Zup (M:Zn0 Y) {s:Sl} {L:Za} (r:Qw h s L) (U:s.n<=9223372036854775807) {R:Ze} (D:∀ h',Ext h h'->R (.bool (Zpt L)) h'):Zv Y 198 [U5 s] h R:=by
 refine .of_has M.Few13 rfl ?_;have Z:=r.len;have V:=r.ok;simp [Y198,Xn.wp,U5];refine Zn ?_;intro B h1 g1 B1 G;simp;refine Zs (FpI B (.agg #[s.v]) L h1) (fun e _=>L.length-Zy e 3) ⟨0,_,_,_,rfl,by omega,fun j X=>by omega,rfl⟩ ?_;rintro e h2 ⟨i,v2,v4,v5,rfl,hi,hz,H⟩;subst H;by_cases c:i<s.n
 ·have c':(i:Int)<s.n:=by omega
  have w1:=Zj (i:=i) (by omega);obtain ⟨u,hu,ru⟩:=r.at (i:=i) c;have lu:=ru.len;by_cases d:60<u.n
  ·have I:(60:Int)<u.n:=by omega
   have hf:Zpt L=false:=by
    unfold Zpt;have:¬ ∀ j,j<L.length->(Zz L j).length<=60:=fun H=>by have:=H i (by omega);omega
    simp [this]
   rw [hf] at D;simp [B1.hc,c',Zm r.ok,hu,G,I];exact D _ G
  have I:¬ (60:Int)<u.n:=by omega
  have J:∀ j,j<i+1->(Zz L j).length<=60:=by
   intro j X;rcases Xen j i with g | g
   ·exact hz j g
   obtain rfl:j=i:=by omega
   omega
  simp [B1.hc,c',Zm r.ok,hu,G,I,w1];refine ⟨⟨i+1,_,_,_,rfl,by omega,J,rfl⟩,by simp [Zy];omega⟩
 have c':¬ (i:Int)<s.n:=by omega
 have hf:Zpt L=decide (L.length<=10):=by
  unfold Zpt;have:∀ j,j<L.length->(Zz L j).length<=60:=fun j X=>hz j (by omega);simp only [eq_true this,true_and]
 rw [hf] at D;have O:decide ((s.n:Int)<=10)=decide (L.length<=10):=by rw [Z];congr 1;simp;omega
 simp [B1.hc,c',O];exact D _ G
theorem Zvp (M:Zn0 Y) {s:Sl} {L:Za} (r:Qw h s L) (G:s.n<=9223372036854775807) {n:Nat} {R:Ze} (D:∀ h',Ext h h'->R (.bool (Zd8 n L)) h'):Zv Y 186 [Zg n,U5 s] h R:=by
 refine .of_has M.May13 rfl ?_;have O:=r.len;simp [Y186,Xn.wp,U5];refine Zn ?_;intro B h1 U B1 J;simp [Yj B1];refine Zup M (r.ext J) G ?_;intro V e2;have H:=J.trans e2;by_cases c:Zpt L=true;rotate_left
 ·have c':Zpt L=false:=by simpa using c
  have hf:Zd8 n L=false:=by simp [Zd8,c']
  rw [hf] at D;simp [c'];exact D _ H
 by_cases d:n<=60;rotate_left
 ·have I:¬ (n:Int)<=60:=by omega
  have hf:Zd8 n L=false:=by simp [Zd8,d]
  rw [hf] at D;simp [c,I];exact D _ H
 have I:(n:Int)<=60:=by omega
 have hf:Zd8 n L=decide ((Zcd n L).2=0):=by simp [Zd8,c,d]
 rw [hf] at D;have c':=c;simp [Zpt] at c';simp [c,I,Yj (B1.ext e2)];refine Zk2 M.Pt (r.ext H) (by omega) (by omega) ?_;intro X v e3 hv;obtain ⟨Z,rfl⟩:=hv.here.shape;simp;exact D _ (H.trans e3)
theorem Zxq (M:Zn0 Y) {H I J:Sl} {N:Zq} (r:Ul h H I J N) {R:Ze} (D:∀ h',Ext h h'->R (.bool (Zon N)) h'):Zv Y 104 [Yx H I J] h R:=by
 refine .of_has M.May3 rfl ?_;simp [Y104,Xn.wp,Yx];refine Zn ?_;intro B X Z O U;simp [Yj O];refine Z0n M.Few3 (r.ext U) ?_;intro h1 V;have G:=U.trans V;by_cases c:Zfk N=true;rotate_left
 ·have c':Zfk N=false:=by simpa using c
  simp [Zon,c'] at D;simp [c'];exact D _ G
 simp [Zon,c] at D;simp [c,Yj (O.ext V)];refine Zj5 M.RN M.RC (r.ext G) ?_;intro h2 v e2 hv;obtain ⟨s5,rfl⟩:=hv.here.shape;simp;exact D _ (G.trans e2)
def Zpg (lo:Nat) (h:Zk) (s:Sl) (P:List (Zb × Sl)):Prop :=
 ∀ q∈P,Yf h q.2 q.1/\(q.1≠[]->lo<=q.2.b/\(s.nl=false->q.2.b≠s.b)/\q.2.b<h.size)
theorem Yl.rowL {s:Sl} {P:List (Zb × Sl)} {l:Za} (o:Yl h 1 s (P.map fun p=>p.2.v)) (G:P.map Prod.fst=l) (hP:∀ p∈P,Yf h p.2 p.1):Qw h s l:=by
 have D:=o.1;simp at D;subst G;refine ⟨o.ok,by simpa using D,fun i r=>?_⟩;have r:i<P.length:=by simpa using r
 have e:Zz (P.map Prod.fst) i=P[i].1:=by rw [Zny (by simpa using r)];simp
 rw [e];exact ⟨P[i].2,o.cell (by simp [r]),hP _ (Xe4 r)⟩
theorem Xm {K:Ze} {z v:Value} (hv:v.oneCell'=true) (r:∀ (b:Nat) (h':Zk),h.size<=b->Xa h' b #[v]->Ext h h'->K (.slice (some ⟨b,0,none⟩) 1 1) h') :
  Ef.wp h K (.bslice 1 1 #[z] [0]) [v]:=by
 rw [Zke hv];exact fun t=>r _ _ (Xel _) Xa.new Mod.push
theorem Wj {K:Ze} {bytes b:Nat} {z v:Value} {s:Sl} {cells:Zc} (hv:v.oneCell'=true) (o:Yl h 1 s cells) (hb:Xa h b #[v]) (D:(s.n+1) * bytes<=140737488355328) (G:s.n+1<=9223372036854775807)
  (H:∀ (r:Sl) (h':Zk),Yl h' 1 r (cells++[v])->r.n=s.n+1->Mod (fun j=>s.nl=false/\j=s.b) h h'->((r.b=s.b/\r.nl=s.nl)\/(h.size<=r.b/\r.nl=false))->K r.v h') :
  Ef.wp h K (.append 1 bytes #[z]) [s.v,.slice (some ⟨b,0,none⟩) 1 1]:=by
 have hs:Wv h 1 1 (.slice (some ⟨b,0,none⟩) 1 1)=some [v]:=by
  rw [Ze1];exact Yj hb rfl
 exact Vp o (m:=1) (nw:=[v]) rfl hs rfl (by simpa using hv) rfl D G H
structure Z1a (Y:Sys):Prop where
 To:Y.Has 173 Y173
def CtI (B rb M:Nat) (v0:Value) (L:Za) (h0:Zk) (e:Zc) (h':Zk):Prop :=
 ∃ (i:Nat) (s1:Sl) (P:List (Zb × Sl)) (v5:Value),e=[v0,.pointer (some ⟨B,0,none⟩),.pointer (some ⟨rb,0,none⟩),.pointer (some ⟨M,0,none⟩),.int .i64 i,v5]/\i<=L.length/\Xa h' M #[s1.v]/\Yl h' 1 s1 (P.map fun p=>p.2.v)/\P.map Prod.fst=L.take i/\Zpg h0.size h' s1 P/\(s1.nl=true\/h0.size<=s1.b)/\Mod (fun j=>j=M) h0 h'
theorem Zqi (C:Z1a Y) {s:Sl} {L:Za} (r:Qw h s L) (ak:s.n<=1000) (ac:∀ i,i<L.length->(Zz L i).length<=1000000) {R:Ze}
  (hr:∀ h' s',Ext h h'->Qw h' s' L->s'.n<=1000->R (U5 s') h'):Zv Y 173 [U5 s] h R:=by
 refine .of_has C.To rfl ?_;have lL:=r.len;simp [Y173,Xn.wp,U5];refine Zn ?_;intro B h1 g1 B1 e1;simp;refine Zn ?_;intro rb h2 g2 R2 e2;simp;refine Zn ?_;intro M V X M3 e3;have x3:=(e1.trans e2).trans e3;have lM:=M3.lt;have lR:=R2.lt;have lB:=B1.lt;have B3:=(B1.ext e2).ext e3;have R3:=R2.ext e3;simp;refine Zs (CtI B rb M (.agg #[s.v]) L V) (fun e _=>L.length-Zy e 4) ⟨0,Sl.nil,[],_,rfl,by omega,M3,by simpa using Yl.nil,by simp,by intro q hq;simp at hq,.inl rfl,Mod.refl _⟩ ?_;rintro e h4 ⟨i,O,P,v5,rfl,hi,M4,o4,hP,hT,ag,m4⟩;have B4:=m4.blk B3 (by omega);have R4:=m4.blk R3 (by omega);have x4:Ext h h4:=Mod.ext x3 m4 (fun j hj=>by omega);have n4:=o4.1;simp at n4;have al:P.length=i:=by
  have:=congrArg List.length hP;simp at this;omega
 have G:O.nl=false->V.size<=O.b:=fun D=>ag.resolve_left (by rw [D];simp);have l1:O.nl=false->O.b<h4.size:=fun D=>o4.lt D;have z4:=m4.size;by_cases c:i<s.n;rotate_left
 ·have c':¬ (i:Int)<s.n:=by omega
  simp [B4.hc,c',Yj M4];refine Zr R4 rfl rfl (by simp) ?_;intro h5 R5 m5;simp;refine Xc rfl R5 rfl ?_;rw [Xeu (by omega)] at hP;refine hr h5 O (Mod.ext x4 m5 (fun j hj=>by omega)) ?_ (by omega);refine Yl.rowL (o4.mod m5 (fun D=>by have:=G D;omega)) hP ?_;intro q hq;obtain ⟨a,b⟩:=hT q hq;exact a.mod m5 (fun D=>by have:=(b D).1;omega)
 have c':(i:Int)<s.n:=by omega
 have w1:=Zj (i:=i) (by omega);obtain ⟨u,hu,ru⟩:=r.at (i:=i) c;have lu:=ru.len;have am:=ac i (by omega);simp [B4.hc,M4.hc,c',Zm r.ok,hu,x4];refine Yq ?_;intro b5 h5 g5 o5 e5;have x5:=x4.trans e5;have M5:=M4.ext e5;simp [hu,x5,(B4.ext e5).hc,M5.hc];refine Zdk (s0:=Sl.at b5 0 0) (ru.ext x5) (by omega) o5 (.inr g5) e5 ?_;intro I h6 o6 ah H;have M6:=M4.ext H;simp [M6.hc];refine Xm rfl ?_;intro b7 h7 g7 V7 e7;have M7:=M6.ext e7;have o7:=(o4.ext' H).ext' e7;have z7:=e7.size;simp [M7.hc];refine Wj (bytes:=24) rfl o7 V7 (by omega) (by omega) ?_;intro J h8 o8 an m8 ad;have M8:=m8.blk M7 (fun hq=>by have:=G hq.1;omega);have z6:=H.size;have z8:=m8.size;have U:J.nl=false->V.size<=J.b:=by
  intro hq;rcases ad with ⟨Z,q2⟩ | ⟨Z,q2⟩
  ·rw [Z];exact G (by rw [<-q2];exact hq)
  omega
 simp;refine stB M8 (by simp) ?_;intro h9 M9 m9;have z9:=m9.size;simp [w1];have aa:Zz L i≠[]->I.nl=false/\I.b<h6.size:=fun ab=>by
  obtain ⟨_,hb,_,ae⟩:=o6.blk (i:=0) (by have:=List.length_pos_iff.2 ab;simpa [Zt] using this);exact ⟨ae,o6.lt ae⟩
 have ub:Zz L i≠[]->h4.size<=I.b:=fun ab=>ah.resolve_left (by rw [(aa ab).1];simp);have af:∀ k,k<h6.size->(O.nl=false->k≠O.b)->J.nl=false->k≠J.b:=by
  intro k hk h1 hq;rcases ad with ⟨Z,q2⟩ | ⟨Z,q2⟩
  ·rw [Z];exact h1 (by rw [<-q2];exact hq)
  omega
 have o9:Yl h9 1 J ((P++[(Zz L i,I)]).map fun p=>p.2.v):=by
  have:=o8.mod m9 (fun hq=>by have:=U hq;omega);simpa using this
 have ai:Zpg V.size h9 J (P++[(Zz L i,I)]):=by
  intro q hq;rcases List.mem_append.1 hq with g | g
  ·obtain ⟨g1,X⟩:=hT q g;refine ⟨(((g1.ext H).ext e7).mod m8 (fun D hq=>(X D).2.1 hq.1 hq.2)).mod m9 (fun D=>by have:=(X D).1;omega),fun D=>⟨(X D).1,?_,by have:=(X D).2.2;omega⟩⟩;exact af _ (by have:=(X D).2.2;omega) (X D).2.1
  simp only [Xg1] at g;subst g;refine ⟨((o6.row64.ext e7).mod m8 (fun D hq=>by have:=ub D;have:=l1 hq.1;have:=hq.2;omega)).mod m9 (fun D=>by have:=ub D;omega),fun D=>⟨?_,?_,?_⟩⟩
  ·have:=ub D;show V.size<=I.b;omega
  ·exact af I.b (aa D).2 (fun hq=>by have:=ub D;have:=l1 hq;omega)
  have:=(aa D).2;show I.b<h9.size;omega
 have aj:(P++[(Zz L i,I)]).map Prod.fst=L.take (i+1):=by
  rw [Xey (by omega),Xe9,hP,Zny (by omega)];simp
 have hN:J.nl=true\/V.size<=J.b:=by
  cases hq:J.nl with
  | true=>exact .inl rfl
  | false=>exact .inr (U hq)
 have mm:Mod (fun j=>j=M) V h9:=by
  have Z:Mod (fun j=>j=M\/(O.nl=false/\j=O.b)) h4 h9 :=
   (((H.trans e7).mono (fun _ _ h=>h.elim)).trans (m8.mono (fun _ _ h=>.inr h))).trans (m9.mono (fun _ _ h=>.inl h))
  refine Mod.then m4 Z ?_;intro k hk hq;rcases hq with hq | hq
  ·exact hq
  have:=G hq.1;omega
 refine ⟨⟨i+1,J,P++[(Zz L i,I)],_,rfl,by omega,by simpa using M9,o9,aj,ai,hN,mm⟩,by simp [Zy];omega⟩
structure Zws (Y:Sys):Prop where
 Made:Y.Has 172 Y172
 To3:Y.Has 100 Y100
 To2:Y.Has 35 Y35
 GN:Z7m Y
 T:TurnCk Y
theorem Zmn (M:Zws Y) {H I J:Sl} {N:Zq} (r:Ul h H I J N) (hf:Zfk N=true) (O:Ym N) {R:Ze}
  (U:∀ h' p (S:Zf),Ext h h'->Xg h' p N S->(∀ b,S b->h.size<=b)->R (.pointer (some ⟨p,0,none⟩)) h'):Zv Y 172 [Yx H I J] h R:=by
 refine .of_has M.Made rfl ?_;obtain ⟨a,b,c,d⟩:=Zc2.1 hf;simp [Y172,Xn.wp,Yx];refine Zn ?_;intro B h1 g1 B1 D;simp [Yj B1];refine Z25 M.To3 M.To2 (r.ext D) (by omega) (by omega) (by omega) (fun i V=>by have:=d i V;omega) ?_;intro h2 s1 s2 s3 e2 X;have z1:=D.size;have z2:=e2.size;simp;refine Zzg M.GN M.T X (fun v h' _ G _=>absurd (by rw [Z41 O];rfl) G) ?_;intro Z p S e3 _ g3 hS;simp;exact U Z p S ((D.trans e2).trans e3) g3 (fun b hb=>by have:=hS b hb;omega)
end
end Go.Rm
