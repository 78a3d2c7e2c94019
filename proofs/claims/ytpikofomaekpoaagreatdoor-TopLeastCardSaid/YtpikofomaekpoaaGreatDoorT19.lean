import Derived.Test.YtpikofomaekpoaaGreatDoorT18
/- Parts. -/
set_option linter.unusedSimpArgs false
set_option linter.unusedVariables false
namespace Go.Rm
def Ya (l:Za) (i:Nat):Zb:=l.getD i []
theorem Zo7 {l:Za} {i:Nat} (r:i<l.length):Ya l i=l[i]:=by simp [Ya,r]
structure Qn (h:Zk) (s:Sl) (l:Za):Prop where
 ok:s.ok
 len:l.length=s.n
 val:∀ i,i<l.length->∃ u:Sl,hc h s.b (s.o+i)=some u.v/\Yd h u (Ya l i)
theorem Qn.ext {h h':Zk} {s:Sl} {l:Za} (r:Qn h s l) (e:Ext h h'):Qn h' s l :=
 ⟨r.ok,r.len,fun i D=>by
  obtain ⟨u,a,b⟩:=r.val i D;exact ⟨u,e.hc a (fun h=>h),b.ext e⟩⟩
def Q1 (s:Sl):Value:=.agg #[s.v]
def Wn (l:Zb):Int:=l.foldl (fun m c=>if m<c+1 then c+1 else m) 0
theorem Zak {l:Zb} {i:Nat} (r:i<l.length):Wn (l.take (i+1))=if Wn (l.take i)<Zl l i+1 then Zl l i+1 else Wn (l.take i):=by
 unfold Wn;rw [Xgc r,Xi7];simp only [Xh7,List.foldl_nil];rw [show Zl l i=l[i] by simp [Zl,r]]
theorem Zpa {l:Zb}:∀ {i:Nat},i<=l.length->0<=Wn (l.take i):=by
 intro i
 induction i with
 | zero=>intro _;simp [Wn]
 | succ i ih =>
  intro r;have:=ih (by omega);rw [Zak (by omega)]
  split <;> omega
theorem Z2a {l:Zb}:∀ {i:Nat},i<=l.length->∀ j,j<i->Zl l j<Wn (l.take i):=by
 intro i
 induction i with
 | zero=>intro _ j r;omega
 | succ i ih =>
  intro D j r;rw [Zak (by omega)];rcases Xf0 j i with g | g
  ·have:=ih (by omega) j g
   split <;> omega
  obtain rfl:j=i:=by omega
  split <;> omega
theorem Z5m {l:Zb} {n:Int} (r:0<=n) (h:∀ j,j<l.length->Zl l j<n):∀ {i:Nat},i<=l.length->Wn (l.take i)<=n:=by
 intro i
 induction i with
 | zero=>intro _;simpa [Wn] using r
 | succ i ih =>
  intro D;have:=ih (by omega);have:=h i (by omega);rw [Zak (by omega)]
  split <;> omega
theorem Zc9 {l:Zb} {n:Int} (r:0<=n) (h:∀ j,j<l.length->Zl l j<n):0<=Wn l/\Wn l<=n/\∀ j,j<l.length->Zl l j<Wn l:=by
 have e:l.take l.length=l:=Xhf;refine ⟨?_,?_,?_⟩
 ·have:=Zpa (l:=l) (Xfy l.length);rwa [e] at this
 ·have:=Z5m r h (Xfy l.length);rwa [e] at this
 have:=Z2a (l:=l) (Xfy l.length);rwa [e] at this
def Zg1 (L:Za) (l:Int):Bool:=decide (1<=l/\l<=L.length)
def lvl (L:Za) (l:Int):Zb:=if Zg1 L l then Ya L (l-1).toNat else []
section
variable {Y:Sys} {h h':Zk}
theorem Qn.at {s:Sl} {L:Za} (r:Qn h s L) {i:Nat} (D:i<s.n):∃ u:Sl,(∀ g,Ext h g->hc g s.b (s.o+i)=some u.v)/\Yd h u (Ya L i):=by
 obtain ⟨u,a,b⟩:=r.val i (by rw [r.len];exact D);exact ⟨u,fun g e=>e.hc a (fun h=>h),b⟩
structure Zxr (Y:Sys):Prop where
 most:Y.Has 212 Y212
structure Zhh (Y:Sys):Prop where
 numbers:Y.Has 207 Y207
 Count:Y.Has 190 Y190
 row:Y.Has 208 Y208
def MoI (s:Sl) (l:Zb) (h0:Zk) (e:Zc) (h':Zk):Prop :=
 ∃ (i:Nat) (v1 v4:Value),e=[s.v,v1,Zg (Wn (l.take i)),Zg i,v4]/\i<=s.n/\h'=h0
theorem Zr4 (P:Zxr Y) {s:Sl} {l:Zb} (r:Yd h s l) (D:s.n<=1000000) (hs:∀ j,j<l.length->-1<=Zl l j/\Zl l j<4611686018427387904) {R:Ze} (G:R (Zg (Wn l)) h):Zv Y 212 [s.v] h R:=by
 refine .of_has P.most rfl ?_;have J:=r.len;simp [Y212,Xm.wp];refine Zt (MoI s l h) (fun e _=>s.n-Zy e 3) ⟨0,_,_,rfl,by omega,rfl⟩ ?_;rintro e h1 ⟨i,M,O,rfl,U,rfl⟩;by_cases c:i<s.n
 ·have c':(i:Int)<s.n:=by omega
  have H:=Zj (i:=i) (by omega);obtain ⟨V,g2⟩:=hs i (by omega);have I:IntKind.i64.wrap (Zl l i+1)=Zl l i+1:=Zo (by omega);simp [c',Zm r.ok,r.at c,H,I,<-Zak (l:=l) (i:=i) (by omega)];refine ⟨⟨i+1,_,_,rfl,by omega,rfl⟩,by simp [Zy];omega⟩
 have c':¬ (i:Int)<s.n:=by omega
 have:l.take i=l:=Xf7 (by omega);simp [c',this];exact G
theorem Zdz (P:Zhh Y) {s:Sl} {L:Za} (r:Qn h s L) (O:s.n<=1000) {l:Int} (X : -9223372036854775808<=l/\l<=9223372036854775807) {R:Ze}
  (H:∀ h' u,Ext h h'->Yd h u (lvl L l)->R u.v h'):Zv Y 207 [Q1 s,Zg l] h R:=by
 refine .of_has P.numbers rfl ?_;have Z:=r.len;simp [Y207,Xm.wp,Q1];refine Zn ?_;intro B h1 g1 B1 J;by_cases c:Zg1 L l=true
 ·have c':=c;simp [Zg1] at c';obtain ⟨i,I⟩:∃ i:Nat,l-1=i:=⟨(l-1).toNat,by omega⟩
  have U:IntKind.i64.wrap (l-1)=(i:Int):=by rw [Zo (by omega),I]
  obtain ⟨u,hu,V⟩:=r.at (i:=i) (by omega)
  have D:lvl L l=Ya L i:=by simp [lvl,c,I]
  rw [D] at H;have c1:¬ l<1:=by omega
  have M:¬ (s.n:Int)<l:=by omega
  simp [c1,M,B1.hc,U,Zm r.ok,show i<s.n by omega,hu,J];exact H h1 u J V
 have c':Zg1 L l=false:=by simpa using c
 have D:lvl L l=[]:=by simp [lvl,c']
 rw [D] at H;have G:=H h1 Sl.nil J ⟨Sl.nil_ok,rfl,fun i I=>by simp at I⟩;simp [Zg1] at c';by_cases c1:l<1
 ·simp [c1];exact G
 have M:(s.n:Int)<l:=by omega
 simp [c1,M,B1.hc];exact G
theorem Ztb (P:Zhh Y) {s:Sl} {L:Za} (r:Qn h s L) (O:s.n<=1000) {l:Int} (X : -9223372036854775808<=l/\l<=9223372036854775807) {R:Ze}
  (H:∀ h' u,Ext h h'->Yd h u (lvl L l)->R u.v h'):Zv Y 208 [Q1 s,Zg l] h R:=by
 refine .of_has P.row rfl ?_;have Z:=r.len;simp [Y208,Xm.wp,Q1];refine Zn ?_;intro B h1 g1 B1 J;by_cases c:Zg1 L l=true
 ·have c':=c;simp [Zg1] at c';obtain ⟨i,I⟩:∃ i:Nat,l-1=i:=⟨(l-1).toNat,by omega⟩
  have U:IntKind.i64.wrap (l-1)=(i:Int):=by rw [Zo (by omega),I]
  obtain ⟨u,hu,V⟩:=r.at (i:=i) (by omega)
  have D:lvl L l=Ya L i:=by simp [lvl,c,I]
  rw [D] at H;have c1:¬ l<1:=by omega
  have M:¬ (s.n:Int)<l:=by omega
  simp [c1,M,B1.hc,U,Zm r.ok,show i<s.n by omega,hu,J];exact H h1 u J V
 have c':Zg1 L l=false:=by simpa using c
 have D:lvl L l=[]:=by simp [lvl,c']
 rw [D] at H;have G:=H h1 Sl.nil J ⟨Sl.nil_ok,rfl,fun i I=>by simp at I⟩;simp [Zg1] at c';by_cases c1:l<1
 ·simp [c1];exact G
 have M:(s.n:Int)<l:=by omega
 simp [c1,M,B1.hc];exact G
def PcI (u:Sl) (l:Zb) (h0:Zk) (e:Zc) (h':Zk):Prop :=
 ∃ (i:Nat) (v0 v1 v2 v3 v5 v9 v10:Value),e=[v0,v1,v2,v3,Zg (Wn (l.take i)),v5,u.v,Zg u.n,Zg i,v9,v10]/\i<=u.n/\h'=h0
theorem Zsl (P:Zhh Y) {s:Sl} {L:Za} (r:Qn h s L) (D:s.n<=1000) (hb:∀ i,i<L.length->(Ya L i).length<=1000000/\∀ j,j<(Ya L i).length->-1<=Zl (Ya L i) j/\Zl (Ya L i) j<4611686018427387904) {l:Int} (U : -9223372036854775808<=l/\l<=9223372036854775807) {R:Ze}
  (V:∀ h',Ext h h'->R (Zg (Wn (lvl L l))) h'):Zv Y 190 [Q1 s,Zg l] h R:=by
 refine .of_has P.Count rfl ?_;simp [Y190,Xm.wp,Q1];refine Zn ?_;intro B h1 X B1 M;have J:(lvl L l).length<=1000000/\∀ j,j<(lvl L l).length->-1<=Zl (lvl L l) j/\Zl (lvl L l) j<4611686018427387904:=by
  unfold lvl
  split
  ·rename_i c;simp [Zg1] at c;exact hb _ (by omega)
  simp
 simp [Yj B1];refine Zdz P (r.ext M) D U ?_;intro Z u e2 H;have lu:=H.len;have G:=H.ext e2;obtain ⟨b1,b2⟩:=J;generalize lvl L l=q at *
 simp;refine Zt (PcI u q Z) (fun e _=>u.n-Zy e 8) ⟨0,_,_,_,_,_,_,_,rfl,by omega,rfl⟩ ?_;rintro e h3 ⟨i,v0,v1,v2,v3,v5,v9,aa,rfl,hi,rfl⟩;by_cases c:i<u.n
 ·have c':(i:Int)<u.n:=by omega
  have O:=Zj (i:=i) (by omega);obtain ⟨X,g2⟩:=b2 i (by omega);have w2:IntKind.i64.wrap (Zl q i+1)=Zl q i+1:=Zo (by omega);have I:=Zak (l:=q) (i:=i) (by omega);by_cases d:Wn (q.take i)<=Zl q i
  ·rw [if_pos (by omega)] at I;simp [c',Zm H.ok,G.at c,O,w2,d];rw [<-I];refine ⟨⟨i+1,_,_,_,_,_,_,_,rfl,by omega,rfl⟩,by simp [Zy];omega⟩
  rw [if_neg (by omega)] at I;simp [c',Zm H.ok,G.at c,O,d];rw [<-I];refine ⟨⟨i+1,_,_,_,_,_,_,_,rfl,by omega,rfl⟩,by simp [Zy];omega⟩
 have c':¬ (i:Int)<u.n:=by omega
 have:q.take i=q:=Xf7 (by omega);simp [c',this];exact V h3 (M.trans e2)
def Zo2 (n:Nat) (row:Zb):Bool:=decide (∀ v,v<n->0<=Zl row v/\Zl row v<n)
def Zd7 (row:Zb):Bool:=decide (∀ c,c<(Wn row).toNat->∃ v,v<row.length/\Zl row v=(c:Int))
def Zd1 (n:Nat) (prev row:Zb):Bool:=decide (∀ a,a<n->∀ b,b<n->Zl prev a<=Zl prev b->Zl row a<=Zl row b)
def lvE (n:Nat) (L:Za) (i:Nat):Int :=
 if (Ya L i).length≠n then 1 else if Zo2 n (Ya L i)=false then 10 else if Zd7 (Ya L i)=false then 10 else
 if 0<i/\Zd1 n (Ya L (i-1)) (Ya L i)=false then 10 else 0
theorem Ziw {n:Nat} {row:Zb}:Zo2 n row=true↔∀ v,v<n->0<=Zl row v/\Zl row v<n:=by simp [Zo2]
theorem Zrt {row:Zb}:Zd7 row=true↔∀ c,c<(Wn row).toNat->∃ v,v<row.length/\Zl row v=(c:Int):=by simp [Zd7]
theorem Ze0 {n:Nat} {r row:Zb}:Zd1 n r row=true↔∀ a,a<n->∀ b,b<n->Zl r a<=Zl r b->Zl row a<=Zl row b:=by simp [Zd1]
def Zbt (l:Zb) (c:Nat):Nat:=(l.filter fun x=>x=(c:Int)).length
def Zf5 (n:Nat) (l:Zb):Zb:=(List.range n).map fun c=>(Zbt l c:Int)
@[simp] theorem Xbp {n:Nat} {l:Zb}:(Zf5 n l).length=n:=by simp [Zf5]
theorem Zp4 {n c:Nat} {l:Zb} (hc:c<n):Zl (Zf5 n l) c=Zbt l c:=by simp [Zl,Zf5,hc]
theorem Zra {n:Nat}:Zf5 n []=List.replicate n 0:=by
 apply Xgb (by simp);intro j h1 r;simp [Zf5,Zbt]
theorem Zy8 {l:Zb} {i c:Nat} (r:i<l.length):Zbt (l.take (i+1)) c=Zbt (l.take i) c+if Zl l i=(c:Int) then 1 else 0:=by
 unfold Zbt;rw [Xgc r,Xh3,Xf9,show Zl l i=l[i] by simp [Zl,r]]
 congr 1
 by_cases h:l[i]=(c:Int) <;> simp [h]
theorem Zxe {l:Zb} {c:Nat}:Zbt l c<=l.length:=Xgz ..
theorem Zoi {n i t:Nat} {l:Zb} (r:i<l.length) (ht:Zl l i=(t:Int)) (D:t<n):(Zf5 n (l.take i)).set t ((Zbt (l.take i) t:Int)+1)=Zf5 n (l.take (i+1)):=by
 apply Xgb (by simp);intro j h1 G;rw [Xg3];simp only [Zf5,Xgo,Xhu];rw [Zy8 r,ht];by_cases c:t=j
 ·subst c;simp
 have:¬ (t:Int)=(j:Int):=by omega
 simp [c,this]
theorem Zl5 {l:Zb} {c:Nat}:Zbt l c≠0↔∃ v,v<l.length/\Zl l v=(c:Int):=by
 unfold Zbt;rw [Ne,Xi9,Xja];constructor
 ·intro h;simp only [decide_eq_true_eq] at h;have ⟨x,hx,hc⟩:∃ x∈l,x=(c:Int):=by
   apply Classical.byContradiction;intro r;exact h fun a D e=>r ⟨a,D,e⟩
  obtain ⟨v,hv,rfl⟩:=Xgx hx;exact ⟨v,hv,by simp [Zl,hv];exact hc⟩
 rintro ⟨v,hv,e⟩ h;have:=h l[v] (Xgf hv);simp [Zl,hv] at e;simp [e] at this
theorem Zez {row:Zb}:Zd7 row=true↔∀ c,c<(Wn row).toNat->Zbt row c≠0:=by
 rw [Zrt];exact ⟨fun h c hc=>Zl5.2 (h c hc),fun h c hc=>Zl5.1 (h c hc)⟩
structure Xcs (Y:Sys):Prop where
 P:Zxr Y
 checkLevel:Y.Has 215 Y215
@[simp] theorem Z8p:Yo.sem Y h .len [Zi]=some (Zg 0):=rfl
theorem Zsf {K:Ze} {b n m:Nat} {cs:Zb} (o:Ym h 1 (Sl.at b n m) (Zq cs)) {k:Nat} {y:Int} (r:k<cs.length)
  (D:∀ h',Ym h' 1 (Sl.at b n m) (Zq (cs.set k y))->Mod (fun j=>j=b) h h'->K undef h'):Xt h b k (Zg y) K:=by
 have:=Xcb o r D;simpa using this
def Xe7 (n B l:Nat) (v1:Value) (u:Sl) (row:Zb) (h0:Zk) (e:Zc) (h':Zk):Prop :=
 ∃ (i:Nat) (v8 v9 v10 v11 v12 v13 v14 v15 v16 v17 v18 v19 v20 v21 v22 v23 v24:Value),e=[Zg n,v1,Zg ((l:Int)+1),Zi,Zh B,Zg 0,u.v,Zg i,v8,v9,v10,v11,v12,v13,v14,v15,v16,v17,v18,v19,v20,v21,v22,v23,v24]/\i<=n/\(∀ j,j<i->0<=Zl row j/\Zl row j<n)/\h'=h0
def Xds (n B l:Nat) (v1:Value) (u k:Sl) (row:Zb) (h0:Zk) (e:Zc) (h':Zk):Prop :=
 ∃ (i:Nat) (v7 v10 v11 v12 v13 v14 v15 v16 v17 v18 v19 v20 v21 v22 v23 v24:Value),e=[Zg n,v1,Zg ((l:Int)+1),Zi,Zh B,Zg 0,u.v,v7,k.v,Zg i,v10,v11,v12,v13,v14,v15,v16,v17,v18,v19,v20,v21,v22,v23,v24]/\i<=n/\Ym h' 1 k (Zq (Zf5 n (row.take i)))/\Mod (fun j=>j=k.b) h0 h'
def Xep (n B l:Nat) (v1:Value) (u k:Sl) (row:Zb) (h0:Zk) (e:Zc) (h':Zk):Prop :=
 ∃ (i:Nat) (v7 v9 v11 v12 v13 v14 v15 v16 v17 v18 v19 v20 v21 v22 v23 v24:Value),e=[Zg n,v1,Zg ((l:Int)+1),Zi,Zh B,Zg 0,u.v,v7,k.v,v9,Zg i,v11,v12,v13,v14,v15,v16,v17,v18,v19,v20,v21,v22,v23,v24]/\(i:Int)<=Wn row/\(∀ j,j<i->Zbt row j≠0)/\h'=h0
def Xed (n B l:Nat) (v1:Value) (u k:Sl) (prev row:Zb) (h0:Zk) (e:Zc) (h':Zk):Prop :=
 ∃ (i:Nat) (v7 v9 v10 v12 v13 v14 v15 v16 v17 v18 v19 v20 v21 v22 v23 v24:Value),e=[Zg n,v1,Zg ((l:Int)+1),Zi,Zh B,Zg 0,u.v,v7,k.v,v9,v10,Zg i,v12,v13,v14,v15,v16,v17,v18,v19,v20,v21,v22,v23,v24]/\i<=n/\(0<l->∀ a,a<i->∀ b,b<n->Zl prev a<=Zl prev b->Zl row a<=Zl row b)/\h'=h0
def Xea (n B l a:Nat) (v1:Value) (u k:Sl) (prev row:Zb) (h0:Zk) (e:Zc) (h':Zk):Prop :=
 ∃ (i:Nat) (v7 v9 v10 v13 v14 v15 v16 v17 v18 v19 v20 v21 v22 v23 v24:Value),e=[Zg n,v1,Zg ((l:Int)+1),Zi,Zh B,Zg 0,u.v,v7,k.v,v9,v10,Zg a,Zg i,v13,v14,v15,v16,v17,v18,v19,v20,v21,v22,v23,v24]/\i<=n/\(∀ b,b<i->Zl prev a<=Zl prev b->Zl row a<=Zl row b)/\h'=h0
def Xd7 (n B l:Nat) (v1:Value) (h0:Zk) (e:Zc) (h':Zk):Prop :=
 ∃ (i:Nat) (v6 v7 v8 v9 v10 v11 v12 v14 v15 v16 v17 v18 v19 v20 v21 v22 v23 v24:Value),e=[Zg n,v1,Zg ((l:Int)+1),Zi,Zh B,Zg 0,v6,v7,v8,v9,v10,v11,v12,Zg i,v14,v15,v16,v17,v18,v19,v20,v21,v22,v23,v24]/\i<=n/\h'=h0
theorem Zwz (C:Xcs Y) {s:Sl} {L:Za} (r:Qn h s L) (be:s.n<=1000) {n l:Nat} (hn:n<=1000000) (hl:l<L.length) (aA:0<l->(Ya L (l-1)).length=n) {R:Ze}
  (D:∀ h',Ext h h'->R (Zg (lvE n L l)) h'):Zv Y 215 [Zg n,Q1 s,Zg ((l:Int)+1),Zi] h R:=by
 refine .of_has C.checkLevel rfl ?_;have lL:=r.len;simp [Y215,Xm.wp,Q1];refine Zn ?_;intro B h1 g1 B1 e1;obtain ⟨u,hu,ru⟩:=r.at (i:=l) (by omega)
 have lu:=ru.len;have wl:IntKind.i64.wrap ((l:Int)+1-1)=(l:Int):=by rw [Zo (by omega)];omega
 have aK:IntKind.i64.wrap (l:Int)=(l:Int):=Zo (by omega);have aL:l<s.n:=by omega
 by_cases c1:(Ya L l).length=n;rotate_left
 ·have he:lvE n L l=1:=by unfold lvE;rw [if_pos c1]
  rw [he] at D;have aB:((u.n:Int)=(n:Int))=False:=by simp;omega
  simp [B1.hc,aK,Zm r.ok,aL,hu,e1,aB];exact D h1 e1
 have aB:((u.n:Int)=(n:Int))=True:=by simp;omega
 have c1n:(u.n=n)=True:=by simp;omega
 obtain ⟨row,az⟩:∃ row,row=Ya L l:=⟨_,rfl⟩
 have hE:lvE n L l=if Zo2 n row=false then 10 else if Zd7 row=false then 10 else if 0<l/\Zd1 n (Ya L (l-1)) row=false then 10 else 0:=by
  unfold lvE;rw [if_neg (by simp [c1]),az]
 rw [hE] at D;clear hE;rw [<-az] at ru lu c1;simp [B1.hc,aK,Zm r.ok,aL,hu,e1,aB];refine Zt (Xe7 n B l (.agg #[s.v]) u row h1) (fun e _=>n-Zy e 7) ⟨0,_,_,_,_,_,_,_,_,_,_,_,_,_,_,_,_,_,rfl,by omega,fun j hj=>by omega,rfl⟩ ?_;rintro e h2 ⟨i,v8,v9,bh,bi,bj,bk,bm,bn,bo,bp,bq,br,bs,bu,bv,bw,bx,rfl,hi,ai,rfl⟩;have aq:=ru.ext e1;by_cases c2:i<n
 ·have aj:(i:Int)<n:=by omega
  have w1:=Zj (i:=i) (by omega);have aC:i<u.n:=by omega
  have ak:(i:Int)<u.n:=by omega
  by_cases d:0<=Zl row i/\Zl row i<n
  ·have d1:¬ Zl row i<0:=by omega
   have d2:¬ (n:Int)<=Zl row i:=by omega
   simp [aj,Zm ru.ok,ak,aq.at aC,d1,d2,w1];have aM:∀ j,j<i+1->0<=Zl row j/\Zl row j<n:=by
    intro j hj;rcases Xf0 j i with g | g
    ·exact ai j g
    obtain rfl:j=i:=by omega
    exact d
   refine ⟨⟨i+1,_,_,_,_,_,_,_,_,_,_,_,_,_,_,_,_,_,rfl,by omega,aM,rfl⟩,by simp [Zy];omega⟩
  have he:Zo2 n row=false:=by
   rw [Xhk];intro hh;exact d (Ziw.1 hh i c2)
  rw [if_pos he] at D;by_cases d1:Zl row i<0
  ·simp [aj,Zm ru.ok,ak,aq.at aC,d1];exact D _ e1
  have d2:(n:Int)<=Zl row i:=by omega
  simp [aj,Zm ru.ok,ak,aq.at aC,d1,d2];exact D _ e1
 have aj:¬ (i:Int)<n:=by omega
 obtain rfl:i=n:=by omega
 have aV:Zo2 i row=true:=Ziw.2 ai;rw [if_neg (by simp [aV])] at D;simp [aj];refine Zfw (n:=i) hn rfl ?_;intro kb h3 g3 o3 e3 l3;rw [<-Zra] at o3;simp;refine Zt (Xds i B l (.agg #[s.v]) u (Sl.at kb i i) row h3) (fun e _=>i-Zy e 9) ⟨0,_,_,_,_,_,_,_,_,_,_,_,_,_,_,_,_,rfl,by omega,by simpa using o3,Mod.refl _⟩ ?_;rintro e h4 ⟨v,w7,af,ar,G,H,I,J,M,O,U,V,al,X,Z,aa,ab,rfl,hv,o4,m4⟩;have x4:Ext h2 h4:=Mod.ext e3 m4 (fun j hj=>by rw [hj];exact g3);have ag:=aq.ext x4;have ko:=o4.ok;by_cases c3:v<i
 ·have aD:(v:Int)<i:=by omega
  have w1:=Zj (i:=v) (by omega);have aW:v<u.n:=by omega
  have aN:(v:Int)<u.n:=by omega
  obtain ⟨d1,d2⟩:=ai v c3;obtain ⟨t,ht⟩:∃ t:Nat,Zl row v=t:=⟨(Zl row v).toNat,by omega⟩
  have aO:t<i:=by omega
  have kx:=Zm (Y:=Y) (h:=h4) (s:=Sl.at kb i i) (sz:=1) (k:=.i64) (i:=(t:Int)) ko (by omega) (by simp;omega);simp at kx;have kc:=o4.row64.val t (by simp;omega);simp [Zp4 aO] at kc;have cl:=Zxe (l:=row.take v) (c:=t);have bz:(row.take v).length<=v:=by simp;omega
  have w2:IntKind.i64.wrap ((Zbt (row.take v) t:Int)+1)=(Zbt (row.take v) t:Int)+1:=Zo (by omega);simp [aD,Zm ru.ok,aN,ag.at aW,ht,kx,kc,w2];refine Zsf o4 (k:=t) (by simp;omega) ?_;intro h5 o5 m5;rw [Zoi (by omega) ht aO] at o5;simp [w1];refine ⟨⟨v+1,_,_,_,_,_,_,_,_,_,_,_,_,_,_,_,_,rfl,by omega,o5,m4.trans m5⟩,by simp [Zy];omega⟩
 have aD:¬ (v:Int)<i:=by omega
 obtain rfl:v=i:=by omega
 rw [Xf7 (by omega)] at o4;have aX:=o4.row64;obtain ⟨bA,bB,bC⟩:=Zc9 (l:=row) (n:=(v:Int)) (by omega) (fun j hj=>(ai j (by omega)).2);have kx:=fun (j:Nat) (hj:j<v)=>Zm (Y:=Y) (h:=h4) (s:=Sl.at kb v v) (sz:=1) (k:=.i64) (i:=(j:Int)) ko (by omega) (by simp;omega);have kc:=fun (j:Nat) (hj:j<v)=>aX.val j (by simp;omega);simp at kx;have ac:∀ {K:Ze},K (Zg (Wn row)) h4->Zv Y 212 [u.v] h4 K:=fun hK=>Zr4 C.P ag (by omega) (fun j hj=>by have:=ai j (by omega);omega) hK;clear o3 m4 e3;simp [aD];refine Zt (Xep v B l (.agg #[s.v]) u (Sl.at kb v v) row h4) (fun e _=>(Wn row).toNat-Zy e 10) ⟨0,_,_,_,_,_,_,_,_,_,_,_,_,_,_,_,_,rfl,by omega,fun j hj=>by omega,rfl⟩ ?_;rintro e h5 ⟨c,w7,w9,ar,G,H,I,J,M,O,U,V,al,X,Z,aa,ab,rfl,bD,aP,aY⟩;subst aY;by_cases c4:(c:Int)<Wn row
 ·have w1:=Zj (i:=c) (by omega);have au:c<v:=by omega
  have bg:(c:Int)<v:=by omega
  have am:=kc c au;rw [Zp4 au] at am;simp at am;simp;refine ac ?_;by_cases d:Zbt row c=0
  ·have he:Zd7 row=false:=by
    rw [Xhk];intro hh;exact Zez.1 hh c (by omega) d
   rw [if_pos he] at D;rw [d] at am;simp [c4,kx c au,am];exact D _ (e1.trans x4)
  have d':((Zbt row c:Int)=0)=False:=by simp;omega
  simp [c4,kx c au,am,d,w1];have aQ:∀ j,j<c+1->Zbt row j≠0:=by
   intro j hj;rcases Xf0 j c with g | g
   ·exact aP j g
   obtain rfl:j=c:=by omega
   exact d
  refine ⟨⟨c+1,_,_,_,_,_,_,_,_,_,_,_,_,_,_,_,_,rfl,by omega,aQ,rfl⟩,by simp [Zy];omega⟩
 have hF:Zd7 row=true:=Zez.2 (fun j hj=>aP j (by omega));rw [if_neg (by simp [hF])] at D;simp;refine ac ?_;simp [c4];clear ac;have aZ:0<l->∃ q:Sl,(∀ g,Ext h g->hc g s.b (s.o+(l-1))=some q.v)/\Yd h q (Ya L (l-1)):=fun h0=>r.at (i:=l-1) (by omega)
 refine Zt (Xed v B l (.agg #[s.v]) u (Sl.at kb v v) (Ya L (l-1)) row h5) (fun e _=>v-Zy e 11) ⟨0,_,_,_,_,_,_,_,_,_,_,_,_,_,_,_,_,rfl,by omega,fun _ a ha=>by omega,rfl⟩ ?_;rintro e h6 ⟨a,w7,w9,af,G,H,I,J,M,O,U,V,al,X,Z,aa,ab,rfl,ha,ad,a0⟩;subst a0;have x6:Ext h h6:=e1.trans x4;have done:(0<l->Zd1 v (Ya L (l-1)) row=true)->∀ (w7 w9 af ar G H I J M O U V al X Z aa ab:Value),Stmt.wp Y Y215.body.rest.rest.rest.rest.rest.rest.rest.rest (U4 Y215.res R) (fun _ _ _=>False) (U4 Y215.res R)
   [Zg v,.agg #[s.v],Zg ((l:Int)+1),Zi,Zh B,Zg 0,u.v,w7,(Sl.at kb v v).v,w9,af,ar,G,H,I,J,M,O,U,V,al,X,Z,aa,ab] h6:=by
  intro hN w7 w9 af ar G H I J M O U V al X Z aa ab;rw [if_neg (by rintro ⟨q1,q2⟩;rw [hN q1] at q2;cases q2)] at D;simp [Y215,Stmt.rest];refine Zt (Xd7 v B l (.agg #[s.v]) h6) (fun e _=>v-Zy e 13) ⟨0,_,_,_,_,_,_,_,_,_,_,_,_,_,_,_,_,_,_,rfl,by omega,rfl⟩ ?_;rintro e h7 ⟨i,y6,y7,y8,y9,a1,bE,bF,a2,a3,a4,a5,a6,a7,a8,a9,ba,bb,bc,rfl,hi,aE⟩;subst aE;by_cases c5:(i:Int)<v
  ·simp [c5];exact D h7 x6
  simp [c5];exact D h7 x6
 simp only [Y215,Stmt.rest] at done;by_cases c6:a<v;rotate_left
 ·have av:¬ (a:Int)<v:=by omega
  have tt:=done (fun h0=>Ze0.2 (fun x hx=>ad h0 x (by omega))) w7 w9 af (Zg a) G H I J M O U V (.bool false) X Z aa ab;simp at tt;simp [av];exact tt
 have av:(a:Int)<v:=by omega
 by_cases aw:0<l;rotate_left
 ·have l1:¬ (1:Int)<(l:Int)+1:=by omega
  have tt:=done (fun h0=>absurd h0 aw) w7 w9 af (Zg a) G H I J M O U V (.bool false) X Z aa ab;simp at tt;have l0:l=0:=by omega
  simp [av,l0] at tt ⊢;exact tt
 clear done;have l1:(1:Int)<(l:Int)+1:=by omega
 obtain ⟨q,hq,rq⟩:=aZ aw;have bd:=aA aw;have lq:=rq.len;have ax:IntKind.i64.wrap ((l:Int)+1-2)=((l-1:Nat):Int):=by rw [Zo (by omega)];omega
 obtain ⟨m,hm⟩:∃ m,m=l-1:=⟨_,rfl⟩
 rw [<-hm] at ax hq rq bd lq D ad ⊢;have bG:m<s.n:=by omega
 have an:(m:Int)<s.n:=by omega
 have ah:=rq.ext x6;have B6:=B1.ext x4;simp [av,l1];refine Zt (Xea v B l a (.agg #[s.v]) u (Sl.at kb v v) (Ya L m) row h6) (fun e _=>v-Zy e 12) ⟨0,_,_,_,_,_,_,_,_,_,_,_,_,_,_,_,rfl,by omega,fun b hb=>by omega,rfl⟩ ?_;rintro e h7 ⟨b,y7,y9,a1,bH,a2,a3,a4,a5,a6,a7,a8,a9,ba,bb,bc,rfl,hb,aF,aE⟩;subst aE;have w1:=Zj (i:=a) (by omega);have w2:=Zj (i:=b) (by omega);by_cases c7:b<v;rotate_left
 ·have ao:¬ (b:Int)<v:=by omega
  simp [ao,w1];have ay:0<l->∀ x,x<a+1->∀ y,y<v->Zl (Ya L m) x<=Zl (Ya L m) y->Zl row x<=Zl row y:=by
   intro h0 x hx y hy ae;rcases Xf0 x a with g | g
   ·exact ad h0 x g y hy ae
   obtain rfl:x=a:=by omega
   exact aF y (by omega) ae
  refine ⟨⟨a+1,_,_,_,_,_,_,_,_,_,_,_,_,_,_,_,_,rfl,by omega,ay,rfl⟩,by simp [Zy];omega⟩
 have ao:(b:Int)<v:=by omega
 have aG:a<q.n:=by omega
 have aH:(a:Int)<q.n:=by omega
 have aI:b<q.n:=by omega
 have aJ:(b:Int)<q.n:=by omega
 have aR:a<u.n:=by omega
 have aS:(a:Int)<u.n:=by omega
 have aT:b<u.n:=by omega
 have aU:(b:Int)<u.n:=by omega
 by_cases d1:Zl (Ya L m) a<=Zl (Ya L m) b;rotate_left
 ·simp [ao,B6.hc,ax,Zm r.ok,an,hq,x6,Zm rq.ok,aH,aJ,ah.at aG,ah.at aI,d1,w2];have ap:∀ y,y<b+1->Zl (Ya L m) a<=Zl (Ya L m) y->Zl row a<=Zl row y:=by
   intro y hy ae;rcases Xf0 y b with g | g
   ·exact aF y g ae
   obtain rfl:y=b:=by omega
   exact absurd ae d1
  refine ⟨⟨b+1,_,_,_,_,_,_,_,_,_,_,_,_,_,_,_,rfl,by omega,ap,rfl⟩,by simp [Zy];omega⟩
 by_cases d2:Zl row b<Zl row a
 ·have he:Zd1 v (Ya L m) row=false:=by
   rw [Xhk];intro hh;have:=Ze0.1 hh a c6 b c7 d1;omega
  rw [if_pos ⟨aw,he⟩] at D;simp [ao,B6.hc,ax,Zm r.ok,an,hq,x6,Zm rq.ok,aH,aJ,ah.at aG,ah.at aI,d1,Zm ru.ok,aS,aU,ag.at aR,ag.at aT,d2];exact D _ x6
 simp [ao,B6.hc,ax,Zm r.ok,an,hq,x6,Zm rq.ok,aH,aJ,ah.at aG,ah.at aI,d1,Zm ru.ok,aS,aU,ag.at aR,ag.at aT,d2,w2];have ap:∀ y,y<b+1->Zl (Ya L m) a<=Zl (Ya L m) y->Zl row a<=Zl row y:=by
  intro y hy ae;rcases Xf0 y b with g | g
  ·exact aF y g ae
  obtain rfl:y=b:=by omega
  omega
 refine ⟨⟨b+1,_,_,_,_,_,_,_,_,_,_,_,_,_,_,_,rfl,by omega,ap,rfl⟩,by simp [Zy];omega⟩
abbrev Zne:ByteArray:=⟨#[112,97,114,116]⟩
def Zle (n:Nat) (L:Za):Nat->Nat->Wr
 | _,0=>Qg
 | i,k+1=>if lvE n L i≠0 then Vr Zne ((i:Int)+1) (lvE n L i) else Zle n L (i+1) k
def Zcn (n:Nat) (L:Za):Wr:=if 4096<n\/6<L.length then Vr Zne 0 4 else if L.length=0 then Vr Zne 0 1 else Zle n L 0 L.length
structure Yv (n:Nat) (L:Za):Prop where
 bn:n<=4096
 bL:L.length<=6
 pos:0<L.length
 lv:∀ i,i<L.length->lvE n L i=0
theorem Zza {n:Nat} {L:Za}:∀ {k i:Nat},(Zle n L i k).2=0↔∀ j,j<k->lvE n L (i+j)=0:=by
 intro k
 induction k with
 | zero=>intro i;simp [Zle,Qg]
 | succ k ih =>
  intro i;simp only [Zle];by_cases h:lvE n L i=0
  ·rw [if_neg (by simp [h]),ih];constructor
   ·intro g j r
    cases j with
    | zero=>exact h
    | succ j=>rw [show i+(j+1)=i+1+j by omega];exact g j (by omega)
   intro g j r;rw [show i+1+j=i+(j+1) by omega];exact g (j+1) (by omega)
  rw [if_pos h];simp only [Vr];exact ⟨fun g=>absurd g h,fun g=>g 0 (by omega)⟩
theorem Zvo {n:Nat} {L:Za}:(Zcn n L).2=0↔Yv n L:=by
 unfold Zcn;by_cases h1:4096<n\/6<L.length
 ·rw [if_pos h1];simp only [Vr];exact ⟨fun g=>(by cases g),fun g=>by have:=g.bn;have:=g.bL;omega⟩
 rw [if_neg h1];by_cases r:L.length=0
 ·rw [if_pos r];simp only [Vr];exact ⟨fun g=>(by cases g),fun g=>by have:=g.pos;omega⟩
 rw [if_neg r,Zza];constructor
 ·intro g;exact ⟨by omega,by omega,by omega,fun i D=>by have:=g i D;rwa [Xgl] at this⟩
 intro g j G;rw [Xgl];exact g.lv j G
theorem Uy {n i:Nat} {L:Za} (h:lvE n L i=0):(Ya L i).length=n/\(∀ v,v<n->0<=Zl (Ya L i) v/\Zl (Ya L i) v<n)/\(∀ c,c<(Wn (Ya L i)).toNat->Zbt (Ya L i) c≠0) /\
  (0<i->∀ a,a<n->∀ b,b<n->Zl (Ya L (i-1)) a<=Zl (Ya L (i-1)) b->Zl (Ya L i) a<=Zl (Ya L i) b):=by
 unfold lvE at h
 split at h
 ·cases h
 rename_i h1
 split at h
 ·cases h
 rename_i r
 split at h
 ·cases h
 rename_i D
 split at h
 ·cases h
 rename_i h4;refine ⟨by simpa using h1,Ziw.1 (by simpa using r),Zez.1 (by simpa using D),fun h0=>Ze0.1 ?_⟩
 cases hq:Zd1 n (Ya L (i-1)) (Ya L i) with
 | true=>rfl
 | false=>exact absurd ⟨h0,hq⟩ h4
def Zq1 (L:Za):Bool:=decide ((∀ i,i<L.length->(Ya L i).length<=60)/\L.length<=10)
def Zeg (n:Nat) (L:Za):Bool:=Zq1 L && decide (n<=60) && decide ((Zcn n L).2=0)
structure Xcy (Y:Sys):Prop where
 C:Xcs Y
 CheckPart:Y.Has 199 Y199
 At:Y.Has 50 Y50
def Xeu (n B W:Nat) (v1:Value) (L:Za) (h0:Zk) (e:Zc) (h':Zk):Prop :=
 ∃ (i:Nat) (v6 v7 v8 v9 v10 v11:Value),e=[Zg n,v1,Zi,Zh B,Zh W,Zg ((i:Int)+1),v6,v7,v8,v9,v10,v11]/\i<=L.length/\(∀ j,j<i->lvE n L j=0)/\Zle n L 0 L.length=Zle n L i (L.length-i)/\Ext h0 h'
theorem Zl6 (C:Xcy Y) {s:Sl} {L:Za} (r:Qn h s L) (U:s.n<=1000) {n:Nat} (hn:n<=1000000) {R:Ze}
  (hr:∀ h' v,Ext h h'->FWr h.size h' (Zcn n L) v->R v h'):Zv Y 199 [Zg n,Q1 s,Zi] h R:=by
 refine .of_has C.CheckPart rfl ?_;have lL:=r.len;simp [Y199,Xm.wp,Q1];refine Zn ?_;intro B h1 g1 B1 e1;simp;refine Zn ?_;intro W Z g2 W2 e2;have V:=e1.trans e2;have z1:=e1.size;have z2:=e2.size;have lW:=W2.lt;have D:∀ {J h4:Zk} {v:Value},Ext Z J->FWr Z.size J (Zcn n L) v->Mod (fun j=>j=W) J h4->R v h4:=by
  intro J h4 v e3 fw H;exact hr h4 v (Mod.ext (V.trans e3) H (fun j hj=>by omega)) ((fw.step H (fun j hj=>by omega)).mono (by omega))
 have n0:¬ (n:Int)<0:=by omega
 by_cases c1:4096<n
 ·have G:(4096:Int)<n:=by omega
  have hp:Zcn n L=Vr Zne 0 4:=by unfold Zcn;rw [if_pos (.inl c1)]
  rw [hp] at D;simp [n0,G];refine Q6 C.At ?_;intro J v e3 hv;obtain ⟨s5,rfl⟩:=hv.here.shape;simp;refine Zs (W2.ext e3) rfl rfl (by simp) ?_;intro h4 W4 H;simp;exact Xj rfl W4 rfl (D e3 hv H)
 have G:¬ (4096:Int)<n:=by omega
 by_cases c2:6<s.n
 ·have M:(6:Int)<s.n:=by omega
  have hp:Zcn n L=Vr Zne 0 4:=by unfold Zcn;rw [if_pos (.inr (by omega))]
  rw [hp] at D;simp [n0,G,M,B1.sk,e2];refine Q6 C.At ?_;intro J v e3 hv;obtain ⟨s5,rfl⟩:=hv.here.shape;simp;refine Zs (W2.ext e3) rfl rfl (by simp) ?_;intro h4 W4 H;simp;exact Xj rfl W4 rfl (D e3 hv H)
 have M:¬ (6:Int)<s.n:=by omega
 by_cases c3:s.n=0
 ·have hp:Zcn n L=Vr Zne 0 1:=by unfold Zcn;rw [if_neg (by omega),if_pos (by omega)]
  rw [hp] at D;simp [n0,G,B1.sk,e2,c3];refine Q6 C.At ?_;intro J v e3 hv;obtain ⟨s5,rfl⟩:=hv.here.shape;simp;refine Zs (W2.ext e3) rfl rfl (by simp) ?_;intro h4 W4 H;simp;exact Xj rfl W4 rfl (D e3 hv H)
 have ab:((s.n:Int)=0)=False:=by simp;omega
 have hp:Zcn n L=Zle n L 0 L.length:=by unfold Zcn;rw [if_neg (by omega),if_neg (by omega)]
 rw [hp] at D;simp [n0,G,M,B1.sk,e2,c3];refine Zt (Xeu n B W (.agg #[s.v]) L Z) (fun e _=>L.length+1-Zy e 5) ⟨0,_,_,_,_,_,_,rfl,by omega,fun j hj=>by omega,rfl,Mod.refl _⟩ ?_;rintro e J ⟨i,v6,v7,v8,v9,ac,ad,rfl,hi,hz,I,e3⟩;have B3:=(B1.ext e2).ext e3;by_cases c4:i<s.n
 ·have O:(i:Int)+1<=s.n:=by omega
  simp [B3.hc,O,Yj B3];refine Zwz C.C (r.ext (V.trans e3)) U hn (by omega) (fun h0=>?_) ?_
  ·exact (Uy (hz (i-1) (by omega))).1
  intro h4 e4;have w1:IntKind.i64.wrap ((i:Int)+1+1)=(i:Int)+1+1:=Zo (by omega);have hk:L.length-i=(L.length-(i+1))+1:=by omega
  rw [hk] at I;by_cases d:lvE n L i=0
  ·simp only [Zle] at I;rw [if_neg (by simp [d])] at I;have aa:∀ j,j<i+1->lvE n L j=0:=by
    intro j hj;rcases Xf0 j i with g | g
    ·exact hz j g
    obtain rfl:j=i:=by omega
    exact d
   simp [d,w1];exact ⟨⟨i+1,_,_,_,_,_,_,by rfl,by omega,aa,I,e3.trans e4⟩,by simp [Zy];omega⟩
  simp only [Zle] at I;rw [if_pos d] at I;rw [I] at D;simp [d];refine Q6 C.At ?_;intro h5 v e5 hv;obtain ⟨s5,rfl⟩:=hv.here.shape;simp;have X:=(e3.trans e4).trans e5;refine Zs (W2.ext X) rfl rfl (by simp) ?_;intro h6 W6 m6;have:=e3.size;have:=e4.size;simp;exact Xj rfl W6 rfl (D X (hv.mono (by omega)) m6)
 have O:¬ (i:Int)+1<=s.n:=by omega
 have hk:L.length-i=0:=by omega
 rw [hk] at I;simp only [Zle] at I;rw [I] at D;simp [B3.hc,O];refine Zs (W2.ext e3) rfl rfl (by simp) ?_;intro h4 W4 H;simp;exact Xj rfl W4 rfl (D e3 FWr.ok H)
structure Zo9 (Y:Sys):Prop where
 Pt:Xcy Y
 Few13:Y.Has 198 Y198
 May13:Y.Has 186 Y186
 Few3:Y.Has 98 Y98
 May3:Y.Has 104 Y104
 RN:Z5q Y
 RC:RefCk Y
def FpI (B:Nat) (v0:Value) (L:Za) (h0:Zk) (e:Zc) (h':Zk):Prop :=
 ∃ (i:Nat) (v2 v4 v5:Value),e=[v0,Zh B,v2,Zg i,v4,v5]/\i<=L.length/\(∀ j,j<i->(Ya L j).length<=60)/\h'=h0
theorem Zv3 (M:Zo9 Y) {s:Sl} {L:Za} (r:Qn h s L) (U:s.n<=9223372036854775807) {R:Ze} (D:∀ h',Ext h h'->R (.bool (Zq1 L)) h'):Zv Y 198 [Q1 s] h R:=by
 refine .of_has M.Few13 rfl ?_;have Z:=r.len;have V:=r.ok;simp [Y198,Xm.wp,Q1];refine Zn ?_;intro B h1 g1 B1 G;simp;refine Zt (FpI B (.agg #[s.v]) L h1) (fun e _=>L.length-Zy e 3) ⟨0,_,_,_,rfl,by omega,fun j X=>by omega,rfl⟩ ?_;rintro e h2 ⟨i,v2,v4,v5,rfl,hi,hz,H⟩;subst H;by_cases c:i<s.n
 ·have c':(i:Int)<s.n:=by omega
  have w1:=Zj (i:=i) (by omega);obtain ⟨u,hu,ru⟩:=r.at (i:=i) c;have lu:=ru.len;by_cases d:60<u.n
  ·have I:(60:Int)<u.n:=by omega
   have hf:Zq1 L=false:=by
    unfold Zq1;have:¬ ∀ j,j<L.length->(Ya L j).length<=60:=fun H=>by have:=H i (by omega);omega
    simp [this]
   rw [hf] at D;simp [B1.hc,c',Zm r.ok,hu,G,I];exact D _ G
  have I:¬ (60:Int)<u.n:=by omega
  have J:∀ j,j<i+1->(Ya L j).length<=60:=by
   intro j X;rcases Xf0 j i with g | g
   ·exact hz j g
   obtain rfl:j=i:=by omega
   omega
  simp [B1.hc,c',Zm r.ok,hu,G,I,w1];refine ⟨⟨i+1,_,_,_,rfl,by omega,J,rfl⟩,by simp [Zy];omega⟩
 have c':¬ (i:Int)<s.n:=by omega
 have hf:Zq1 L=decide (L.length<=10):=by
  unfold Zq1;have:∀ j,j<L.length->(Ya L j).length<=60:=fun j X=>hz j (by omega);simp only [eq_true this,true_and]
 rw [hf] at D;have O:decide ((s.n:Int)<=10)=decide (L.length<=10):=by rw [Z];congr 1;simp;omega
 simp [B1.hc,c',O];exact D _ G
theorem Zw6 (M:Zo9 Y) {s:Sl} {L:Za} (r:Qn h s L) (G:s.n<=9223372036854775807) {n:Nat} {R:Ze} (D:∀ h',Ext h h'->R (.bool (Zeg n L)) h'):Zv Y 186 [Zg n,Q1 s] h R:=by
 refine .of_has M.May13 rfl ?_;have O:=r.len;simp [Y186,Xm.wp,Q1];refine Zn ?_;intro B h1 U B1 J;simp [Yj B1];refine Zv3 M (r.ext J) G ?_;intro V e2;have H:=J.trans e2;by_cases c:Zq1 L=true;rotate_left
 ·have c':Zq1 L=false:=by simpa using c
  have hf:Zeg n L=false:=by simp [Zeg,c']
  rw [hf] at D;simp [c'];exact D _ H
 by_cases d:n<=60;rotate_left
 ·have I:¬ (n:Int)<=60:=by omega
  have hf:Zeg n L=false:=by simp [Zeg,d]
  rw [hf] at D;simp [c,I];exact D _ H
 have I:(n:Int)<=60:=by omega
 have hf:Zeg n L=decide ((Zcn n L).2=0):=by simp [Zeg,c,d]
 rw [hf] at D;have c':=c;simp [Zq1] at c';simp [c,I,Yj (B1.ext e2)];refine Zl6 M.Pt (r.ext H) (by omega) (by omega) ?_;intro X v e3 hv;obtain ⟨Z,rfl⟩:=hv.here.shape;simp;exact D _ (H.trans e3)
theorem Zzb (M:Zo9 Y) {H I J:Sl} {N:Zr} (r:Ut h H I J N) {R:Ze} (D:∀ h',Ext h h'->R (.bool (Zpu N)) h'):Zv Y 104 [Yy H I J] h R:=by
 refine .of_has M.May3 rfl ?_;simp [Y104,Xm.wp,Yy];refine Zn ?_;intro B X Z O U;simp [Yj O];refine Z11 M.Few3 (r.ext U) ?_;intro h1 V;have G:=U.trans V;by_cases c:Zf1 N=true;rotate_left
 ·have c':Zf1 N=false:=by simpa using c
  simp [Zpu,c'] at D;simp [c'];exact D _ G
 simp [Zpu,c] at D;simp [c,Yj (O.ext V)];refine Zk9 M.RN M.RC (r.ext G) ?_;intro h2 v e2 hv;obtain ⟨s5,rfl⟩:=hv.here.shape;simp;exact D _ (G.trans e2)
def Zqo (lo:Nat) (h:Zk) (s:Sl) (P:List (Zb × Sl)):Prop :=
 ∀ q∈P,Yd h q.2 q.1/\(q.1≠[]->lo<=q.2.b/\(s.nl=false->q.2.b≠s.b)/\q.2.b<h.size)
theorem Ym.rowL {s:Sl} {P:List (Zb × Sl)} {l:Za} (o:Ym h 1 s (P.map fun p=>p.2.v)) (G:P.map Prod.fst=l) (hP:∀ p∈P,Yd h p.2 p.1):Qn h s l:=by
 have D:=o.1;simp at D;subst G;refine ⟨o.ok,by simpa using D,fun i r=>?_⟩;have r:i<P.length:=by simpa using r
 have e:Ya (P.map Prod.fst) i=P[i].1:=by rw [Zo7 (by simpa using r)];simp
 rw [e];exact ⟨P[i].2,o.cell (by simp [r]),hP _ (Xgf r)⟩
theorem Xp {K:Ze} {z v:Value} (hv:v.oneCell'=true) (r:∀ (b:Nat) (h':Zk),h.size<=b->Xb h' b #[v]->Ext h h'->K (.slice (some ⟨b,0,none⟩) 1 1) h') :
  Ef.wp h K (.bslice 1 1 #[z] [0]) [v]:=by
 rw [Zlh hv];exact fun t=>r _ _ (Xfy _) Xb.new Mod.push
theorem Wg {K:Ze} {bytes b:Nat} {z v:Value} {s:Sl} {cells:Zc} (hv:v.oneCell'=true) (o:Ym h 1 s cells) (hb:Xb h b #[v]) (D:(s.n+1) * bytes<=140737488355328) (G:s.n+1<=9223372036854775807)
  (H:∀ (r:Sl) (h':Zk),Ym h' 1 r (cells++[v])->r.n=s.n+1->Mod (fun j=>s.nl=false/\j=s.b) h h'->((r.b=s.b/\r.nl=s.nl)\/(h.size<=r.b/\r.nl=false))->K r.v h') :
  Ef.wp h K (.append 1 bytes #[z]) [s.v,.slice (some ⟨b,0,none⟩) 1 1]:=by
 have hs:Vl h 1 1 (.slice (some ⟨b,0,none⟩) 1 1)=some [v]:=by
  rw [Zfj];exact Yj hb rfl
 exact Vg o (m:=1) (nw:=[v]) rfl hs rfl (by simpa using hv) rfl D G H
structure Z2o (Y:Sys):Prop where
 To:Y.Has 173 Y173
def CtI (B rb M:Nat) (v0:Value) (L:Za) (h0:Zk) (e:Zc) (h':Zk):Prop :=
 ∃ (i:Nat) (s1:Sl) (P:List (Zb × Sl)) (v5:Value),e=[v0,.pointer (some ⟨B,0,none⟩),.pointer (some ⟨rb,0,none⟩),.pointer (some ⟨M,0,none⟩),.int .i64 i,v5]/\i<=L.length/\Xb h' M #[s1.v]/\Ym h' 1 s1 (P.map fun p=>p.2.v)/\P.map Prod.fst=L.take i/\Zqo h0.size h' s1 P/\(s1.nl=true\/h0.size<=s1.b)/\Mod (fun j=>j=M) h0 h'
theorem Zrs (C:Z2o Y) {s:Sl} {L:Za} (r:Qn h s L) (ak:s.n<=1000) (ac:∀ i,i<L.length->(Ya L i).length<=1000000) {R:Ze}
  (hr:∀ h' s',Ext h h'->Qn h' s' L->s'.n<=1000->R (Q1 s') h'):Zv Y 173 [Q1 s] h R:=by
 refine .of_has C.To rfl ?_;have lL:=r.len;simp [Y173,Xm.wp,Q1];refine Zn ?_;intro B h1 g1 B1 e1;simp;refine Zn ?_;intro rb h2 g2 R2 e2;simp;refine Zn ?_;intro M V X M3 e3;have x3:=(e1.trans e2).trans e3;have lM:=M3.lt;have lR:=R2.lt;have lB:=B1.lt;have B3:=(B1.ext e2).ext e3;have R3:=R2.ext e3;simp;refine Zt (CtI B rb M (.agg #[s.v]) L V) (fun e _=>L.length-Zy e 4) ⟨0,Sl.nil,[],_,rfl,by omega,M3,by simpa using Ym.nil,by simp,by intro q hq;simp at hq,.inl rfl,Mod.refl _⟩ ?_;rintro e h4 ⟨i,O,P,v5,rfl,hi,M4,o4,hP,hT,ag,m4⟩;have B4:=m4.blk B3 (by omega);have R4:=m4.blk R3 (by omega);have x4:Ext h h4:=Mod.ext x3 m4 (fun j hj=>by omega);have n4:=o4.1;simp at n4;have al:P.length=i:=by
  have:=congrArg List.length hP;simp at this;omega
 have G:O.nl=false->V.size<=O.b:=fun D=>ag.resolve_left (by rw [D];simp);have l1:O.nl=false->O.b<h4.size:=fun D=>o4.lt D;have z4:=m4.size;by_cases c:i<s.n;rotate_left
 ·have c':¬ (i:Int)<s.n:=by omega
  simp [B4.hc,c',Yj M4];refine Zs R4 rfl rfl (by simp) ?_;intro h5 R5 m5;simp;refine Xj rfl R5 rfl ?_;rw [Xf7 (by omega)] at hP;refine hr h5 O (Mod.ext x4 m5 (fun j hj=>by omega)) ?_ (by omega);refine Ym.rowL (o4.mod m5 (fun D=>by have:=G D;omega)) hP ?_;intro q hq;obtain ⟨a,b⟩:=hT q hq;exact a.mod m5 (fun D=>by have:=(b D).1;omega)
 have c':(i:Int)<s.n:=by omega
 have w1:=Zj (i:=i) (by omega);obtain ⟨u,hu,ru⟩:=r.at (i:=i) c;have lu:=ru.len;have am:=ac i (by omega);simp [B4.hc,M4.hc,c',Zm r.ok,hu,x4];refine Yu ?_;intro b5 h5 g5 o5 e5;have x5:=x4.trans e5;have M5:=M4.ext e5;simp [hu,x5,(B4.ext e5).hc,M5.hc];refine Zdv (s0:=Sl.at b5 0 0) (ru.ext x5) (by omega) o5 (.inr g5) e5 ?_;intro I h6 o6 ah H;have M6:=M4.ext H;simp [M6.hc];refine Xp rfl ?_;intro b7 h7 g7 V7 e7;have M7:=M6.ext e7;have o7:=(o4.ext' H).ext' e7;have z7:=e7.size;simp [M7.hc];refine Wg (bytes:=24) rfl o7 V7 (by omega) (by omega) ?_;intro J h8 o8 an m8 ad;have M8:=m8.blk M7 (fun hq=>by have:=G hq.1;omega);have z6:=H.size;have z8:=m8.size;have U:J.nl=false->V.size<=J.b:=by
  intro hq;rcases ad with ⟨Z,q2⟩ | ⟨Z,q2⟩
  ·rw [Z];exact G (by rw [<-q2];exact hq)
  omega
 simp;refine stB M8 (by simp) ?_;intro h9 M9 m9;have z9:=m9.size;simp [w1];have aa:Ya L i≠[]->I.nl=false/\I.b<h6.size:=fun ab=>by
  obtain ⟨_,hb,_,ae⟩:=o6.blk (i:=0) (by have:=List.length_pos_iff.2 ab;simpa [Zq] using this);exact ⟨ae,o6.lt ae⟩
 have ub:Ya L i≠[]->h4.size<=I.b:=fun ab=>ah.resolve_left (by rw [(aa ab).1];simp);have af:∀ k,k<h6.size->(O.nl=false->k≠O.b)->J.nl=false->k≠J.b:=by
  intro k hk h1 hq;rcases ad with ⟨Z,q2⟩ | ⟨Z,q2⟩
  ·rw [Z];exact h1 (by rw [<-q2];exact hq)
  omega
 have o9:Ym h9 1 J ((P++[(Ya L i,I)]).map fun p=>p.2.v):=by
  have:=o8.mod m9 (fun hq=>by have:=U hq;omega);simpa using this
 have ai:Zqo V.size h9 J (P++[(Ya L i,I)]):=by
  intro q hq;rcases List.mem_append.1 hq with g | g
  ·obtain ⟨g1,X⟩:=hT q g;refine ⟨(((g1.ext H).ext e7).mod m8 (fun D hq=>(X D).2.1 hq.1 hq.2)).mod m9 (fun D=>by have:=(X D).1;omega),fun D=>⟨(X D).1,?_,by have:=(X D).2.2;omega⟩⟩;exact af _ (by have:=(X D).2.2;omega) (X D).2.1
  simp only [Xiv] at g;subst g;refine ⟨((o6.row64.ext e7).mod m8 (fun D hq=>by have:=ub D;have:=l1 hq.1;have:=hq.2;omega)).mod m9 (fun D=>by have:=ub D;omega),fun D=>⟨?_,?_,?_⟩⟩
  ·have:=ub D;show V.size<=I.b;omega
  ·exact af I.b (aa D).2 (fun hq=>by have:=ub D;have:=l1 hq;omega)
  have:=(aa D).2;show I.b<h9.size;omega
 have aj:(P++[(Ya L i,I)]).map Prod.fst=L.take (i+1):=by
  rw [Xgc (by omega),Xgt,hP,Zo7 (by omega)];simp
 have hN:J.nl=true\/V.size<=J.b:=by
  cases hq:J.nl with
  | true=>exact .inl rfl
  | false=>exact .inr (U hq)
 have mm:Mod (fun j=>j=M) V h9:=by
  have Z:Mod (fun j=>j=M\/(O.nl=false/\j=O.b)) h4 h9 :=
   (((H.trans e7).mono (fun _ _ h=>h.elim)).trans (m8.mono (fun _ _ h=>.inr h))).trans (m9.mono (fun _ _ h=>.inl h))
  refine Mod.then m4 Z ?_;intro k hk hq;rcases hq with hq | hq
  ·exact hq
  have:=G hq.1;omega
 refine ⟨⟨i+1,J,P++[(Ya L i,I)],_,rfl,by omega,by simpa using M9,o9,aj,ai,hN,mm⟩,by simp [Zy];omega⟩
structure Zyd (Y:Sys):Prop where
 Made:Y.Has 172 Y172
 To3:Y.Has 100 Y100
 To2:Y.Has 35 Y35
 GN:Z81 Y
 T:TurnCk Y
theorem Znn (M:Zyd Y) {H I J:Sl} {N:Zr} (r:Ut h H I J N) (hf:Zf1 N=true) (O:Yl N) {R:Ze}
  (U:∀ h' p (S:Zf),Ext h h'->Xc h' p N S->(∀ b,S b->h.size<=b)->R (.pointer (some ⟨p,0,none⟩)) h'):Zv Y 172 [Yy H I J] h R:=by
 refine .of_has M.Made rfl ?_;obtain ⟨a,b,c,d⟩:=Zca.1 hf;simp [Y172,Xm.wp,Yy];refine Zn ?_;intro B h1 g1 B1 D;simp [Yj B1];refine Z4j M.To3 M.To2 (r.ext D) (by omega) (by omega) (by omega) (fun i V=>by have:=d i V;omega) ?_;intro h2 s1 s2 s3 e2 X;have z1:=D.size;have z2:=e2.size;simp;refine Z0z M.GN M.T X (fun v h' _ G _=>absurd (by rw [Z6e O];rfl) G) ?_;intro Z p S e3 _ g3 hS;simp;exact U Z p S ((D.trans e2).trans e3) g3 (fun b hb=>by have:=hS b hb;omega)
end
end Go.Rm
