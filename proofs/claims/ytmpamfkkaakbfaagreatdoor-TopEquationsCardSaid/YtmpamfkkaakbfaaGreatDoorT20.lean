import Derived.Test.YtmpamfkkaakbfaaGreatDoorT19
import Derived.Test.YtmpamfkkaakbfaaGreatDoorT02
/- Parts RGate1 RGate2 RGate3 RGate4 -/
set_option linter.unusedSimpArgs false
set_option linter.unusedVariables false
namespace Go.Rm
def Zq (l:List (List Int)) (i:Nat):List Int:=l.getD i []
theorem Znk {l:List (List Int)} {i:Nat} (r:i<l.length):Zq l i=l[i]:=by simp [Zq,r]
structure Ql (h:Za) (s:Sl) (l:List (List Int)):Prop where
 ok:s.ok
 len:l.length=s.n
 val:∀ i,i<l.length->∃ u:Sl,hc h s.b (s.o+i)=some u.v/\Zz h u (Zq l i)
theorem Ql.ext {h h':Za} {s:Sl} {l:List (List Int)} (r:Ql h s l) (e:Ext h h'):Ql h' s l :=
 ⟨r.ok,r.len,fun i D=>by
  obtain ⟨u,a,b⟩:=r.val i D
  exact ⟨u,e.hc a (fun h=>h),b.ext e⟩⟩
def X0 (s:Sl):Value:=.agg #[s.v]
def Xs (l:List Int):Int:=l.foldl (fun m c=>if m<c+1 then c+1 else m) 0
theorem U8 {l:List Int} {i:Nat} (r:i<l.length):Xs (l.take (i+1))=if Xs (l.take i)<Zc l i+1 then Zc l i+1 else Xs (l.take i):=by
 unfold Xs
 rw [Xel r,Xhf]
 simp only [Xgc,List.foldl_nil]
 rw [show Zc l i=l[i] by simp [Zc,r]]
theorem Znn {l:List Int}:∀ {i:Nat},i<=l.length->0<=Xs (l.take i):=by
 intro i
 induction i with
 | zero=>intro _; simp [Xs]
 | succ i r =>
  intro D
  have:=r (by omega)
  rw [U8 (by omega)]
  split <;> omega
theorem Z0l {l:List Int}:∀ {i:Nat},i<=l.length->∀ j,j<i->Zc l j<Xs (l.take i):=by
 intro i
 induction i with
 | zero=>intro _ j r; omega
 | succ i D =>
  intro G j r
  rw [U8 (by omega)]
  rcases Xd8 j i with g | g
  ·have:=D (by omega) j g
   split <;> omega
  ·obtain rfl:j=i:=by omega
   split <;> omega
theorem Z3v {l:List Int} {n:Int} (r:0<=n) (h:∀ j,j<l.length->Zc l j<n):∀ {i:Nat},i<=l.length->Xs (l.take i)<=n:=by
 intro i
 induction i with
 | zero=>intro _; simpa [Xs] using r
 | succ i D =>
  intro G
  have:=D (by omega)
  have:=h i (by omega)
  rw [U8 (by omega)]
  split <;> omega
theorem Zcj {l:List Int} {n:Int} (r:0<=n) (h:∀ j,j<l.length->Zc l j<n):0<=Xs l/\Xs l<=n/\∀ j,j<l.length->Zc l j<Xs l:=by
 have e:l.take l.length=l:=Xfl
 refine ⟨?_,?_,?_⟩
 ·have:=Znn (l:=l) (Xd6 l.length); rwa [e] at this
 ·have:=Z3v r h (Xd6 l.length); rwa [e] at this
 ·have:=Z0l (l:=l) (Xd6 l.length); rwa [e] at this
def Zfz (L:List (List Int)) (l:Int):Bool:=decide (1<=l/\l<=L.length)
def lvl (L:List (List Int)) (l:Int):List Int:=if Zfz L l then Zq L (l-1).toNat else []
section
variable {Y:Sys} {h h':Za}
theorem Ql.at {s:Sl} {L:List (List Int)} (r:Ql h s L) {i:Nat} (D:i<s.n):∃ u:Sl,(∀ g,Ext h g->hc g s.b (s.o+i)=some u.v)/\Zz h u (Zq L i):=by
 obtain ⟨u,a,b⟩:=r.val i (by rw [r.len]; exact D)
 exact ⟨u,fun g e=>e.hc a (fun h=>h),b⟩
structure Zv0 (Y:Sys):Prop where
 most:Y.Has 212 Y212
structure Zgh (Y:Sys):Prop where
 numbers:Y.Has 207 Y207
 Count:Y.Has 190 Y190
 row:Y.Has 208 Y208
def MoI (s:Sl) (l:List Int) (h0:Za) (e:List Value) (h':Za):Prop :=
 ∃ (i:Nat) (v1 v4:Value),e=[s.v,v1,.int .i64 (Xs (l.take i)),.int .i64 i,v4]/\i<=s.n/\h'=h0
theorem Zqk (P:Zv0 Y) {s:Sl} {l:List Int} (r:Zz h s l) (D:s.n<=1000000) (hs:∀ j,j<l.length->-1<=Zc l j/\Zc l j<4611686018427387904) {R:Value->Za->Prop} (G:R (.int .i64 (Xs l)) h):Zm Y 212 [s.v] h R:=by
 refine .of_has P.most rfl ?_
 have J:=r.len
 simp [Y212,Xa.wp]
 refine Zj (MoI s l h) (fun e _=>s.n-Zo e 3) ⟨0,_,_,rfl,by omega,rfl⟩ ?_
 rintro e h1 ⟨i,M,O,rfl,U,rfl⟩
 by_cases c:i<s.n
 ·have c':(i:Int)<s.n:=by omega
  have H:IntKind.i64.wrap ((i:Int)+1)=(i:Int)+1:=Ze (by omega)
  obtain ⟨V,g2⟩:=hs i (by omega)
  have I:IntKind.i64.wrap (Zc l i+1)=Zc l i+1:=Ze (by omega)
  simp [c',Zb r.ok,r.at c,H,I,<-U8 (l:=l) (i:=i) (by omega)]
  refine ⟨⟨i+1,_,_,rfl,by omega,rfl⟩,by simp [Zo]; omega⟩
 ·have c':¬ (i:Int)<s.n:=by omega
  have:l.take i=l:=Xef (by omega)
  simp [c',this]
  exact G
theorem Zc7 (P:Zgh Y) {s:Sl} {L:List (List Int)} (r:Ql h s L) (O:s.n<=1000) {l:Int} (X : -9223372036854775808<=l/\l<=9223372036854775807) {R:Value->Za->Prop}
  (H:∀ h' u,Ext h h'->Zz h u (lvl L l)->R u.v h'):Zm Y 207 [X0 s,.int .i64 l] h R:=by
 refine .of_has P.numbers rfl ?_
 have Z:=r.len
 simp [Y207,Xa.wp,X0]
 refine Zd ?_
 intro B h1 g1 B1 J
 by_cases c:Zfz L l=true
 ·have c':=c
  simp [Zfz] at c'
  obtain ⟨i,I⟩:∃ i:Nat,l-1=i:=⟨(l-1).toNat,by omega⟩
  have U:IntKind.i64.wrap (l-1)=(i:Int):=by rw [Ze (by omega),I]
  obtain ⟨u,hu,V⟩:=r.at (i:=i) (by omega)
  have D:lvl L l=Zq L i:=by simp [lvl,c,I]
  rw [D] at H
  have c1:¬ l<1:=by omega
  have M:¬ (s.n:Int)<l:=by omega
  simp [c1,M,B1.hc,U,Zb r.ok,show i<s.n by omega,hu,J]
  exact H h1 u J V
 ·have c':Zfz L l=false:=by simpa using c
  have D:lvl L l=[]:=by simp [lvl,c']
  rw [D] at H
  have G:=H h1 Sl.nil J ⟨Sl.nil_ok,rfl,fun i I=>by simp at I⟩
  simp [Zfz] at c'
  by_cases c1:l<1
  ·simp [c1]
   exact G
  ·have M:(s.n:Int)<l:=by omega
   simp [c1,M,B1.hc]
   exact G
theorem Zrq (P:Zgh Y) {s:Sl} {L:List (List Int)} (r:Ql h s L) (O:s.n<=1000) {l:Int} (X : -9223372036854775808<=l/\l<=9223372036854775807) {R:Value->Za->Prop}
  (H:∀ h' u,Ext h h'->Zz h u (lvl L l)->R u.v h'):Zm Y 208 [X0 s,.int .i64 l] h R:=by
 refine .of_has P.row rfl ?_
 have Z:=r.len
 simp [Y208,Xa.wp,X0]
 refine Zd ?_
 intro B h1 g1 B1 J
 by_cases c:Zfz L l=true
 ·have c':=c
  simp [Zfz] at c'
  obtain ⟨i,I⟩:∃ i:Nat,l-1=i:=⟨(l-1).toNat,by omega⟩
  have U:IntKind.i64.wrap (l-1)=(i:Int):=by rw [Ze (by omega),I]
  obtain ⟨u,hu,V⟩:=r.at (i:=i) (by omega)
  have D:lvl L l=Zq L i:=by simp [lvl,c,I]
  rw [D] at H
  have c1:¬ l<1:=by omega
  have M:¬ (s.n:Int)<l:=by omega
  simp [c1,M,B1.hc,U,Zb r.ok,show i<s.n by omega,hu,J]
  exact H h1 u J V
 ·have c':Zfz L l=false:=by simpa using c
  have D:lvl L l=[]:=by simp [lvl,c']
  rw [D] at H
  have G:=H h1 Sl.nil J ⟨Sl.nil_ok,rfl,fun i I=>by simp at I⟩
  simp [Zfz] at c'
  by_cases c1:l<1
  ·simp [c1]
   exact G
  ·have M:(s.n:Int)<l:=by omega
   simp [c1,M,B1.hc]
   exact G
def PcI (u:Sl) (l:List Int) (h0:Za) (e:List Value) (h':Za):Prop :=
 ∃ (i:Nat) (v0 v1 v2 v3 v5 v9 v10:Value),e=[v0,v1,v2,v3,.int .i64 (Xs (l.take i)),v5,u.v,.int .i64 u.n,.int .i64 i,v9,v10]/\i<=u.n/\h'=h0
theorem Zq2 (P:Zgh Y) {s:Sl} {L:List (List Int)} (r:Ql h s L) (D:s.n<=1000) (hb:∀ i,i<L.length->(Zq L i).length<=1000000/\∀ j,j<(Zq L i).length->-1<=Zc (Zq L i) j/\Zc (Zq L i) j<4611686018427387904) {l:Int} (V : -9223372036854775808<=l/\l<=9223372036854775807) {R:Value->Za->Prop}
  (X:∀ h',Ext h h'->R (.int .i64 (Xs (lvl L l))) h'):Zm Y 190 [X0 s,.int .i64 l] h R:=by
 refine .of_has P.Count rfl ?_
 simp [Y190,Xa.wp,X0]
 refine Zd ?_
 intro B h1 Z B1 M
 have J:(lvl L l).length<=1000000/\∀ j,j<(lvl L l).length->-1<=Zc (lvl L l) j/\Zc (lvl L l) j<4611686018427387904:=by
  unfold lvl
  split
  ·rename_i c
   simp [Zfz] at c
   exact hb _ (by omega)
  ·simp
 simp [Zy B1]
 refine Zc7 P (r.ext M) D V ?_
 intro h2 u e2 H
 have lu:=H.len
 have G:=H.ext e2
 obtain ⟨b1,b2⟩:=J
 generalize lvl L l=q at *
 simp
 refine Zj (PcI u q h2) (fun e _=>u.n-Zo e 8) ⟨0,_,_,_,_,_,_,_,rfl,by omega,rfl⟩ ?_
 rintro e h3 ⟨i,v0,v1,v2,v3,v5,v9,aa,rfl,hi,rfl⟩
 by_cases c:i<u.n
 ·have c':(i:Int)<u.n:=by omega
  have O:IntKind.i64.wrap ((i:Int)+1)=(i:Int)+1:=Ze (by omega)
  obtain ⟨Z,g2⟩:=b2 i (by omega)
  have U:IntKind.i64.wrap (Zc q i+1)=Zc q i+1:=Ze (by omega)
  have I:=U8 (l:=q) (i:=i) (by omega)
  by_cases d:Xs (q.take i)<=Zc q i
  ·rw [if_pos (by omega)] at I
   simp [c',Zb H.ok,G.at c,O,U,d]
   rw [<-I]
   refine ⟨⟨i+1,_,_,_,_,_,_,_,rfl,by omega,rfl⟩,by simp [Zo]; omega⟩
  ·rw [if_neg (by omega)] at I
   simp [c',Zb H.ok,G.at c,O,U,d]
   rw [<-I]
   refine ⟨⟨i+1,_,_,_,_,_,_,_,rfl,by omega,rfl⟩,by simp [Zo]; omega⟩
 ·have c':¬ (i:Int)<u.n:=by omega
  have:q.take i=q:=Xef (by omega)
  simp [c',this]
  exact X h3 (M.trans e2)
end
def Zng (n:Nat) (row:List Int):Bool:=decide (∀ v,v<n->0<=Zc row v/\Zc row v<n)
def Zdf (row:List Int):Bool:=decide (∀ c,c<(Xs row).toNat->∃ v,v<row.length/\Zc row v=(c:Int))
def Zc9 (n:Nat) (prev row:List Int):Bool:=decide (∀ a,a<n->∀ b,b<n->Zc prev a<=Zc prev b->Zc row a<=Zc row b)
def lvE (n:Nat) (L:List (List Int)) (i:Nat):Int :=
 if (Zq L i).length≠n then 1 else if Zng n (Zq L i)=false then 10 else if Zdf (Zq L i)=false then 10 else
 if 0<i/\Zc9 n (Zq L (i-1)) (Zq L i)=false then 10 else 0
theorem Zhq {n:Nat} {row:List Int}:Zng n row=true↔∀ v,v<n->0<=Zc row v/\Zc row v<n:=by simp [Zng]
theorem Zp8 {row:List Int}:Zdf row=true↔∀ c,c<(Xs row).toNat->∃ v,v<row.length/\Zc row v=(c:Int):=by simp [Zdf]
theorem Zd9 {n:Nat} {r row:List Int}:Zc9 n r row=true↔∀ a,a<n->∀ b,b<n->Zc r a<=Zc r b->Zc row a<=Zc row b:=by simp [Zc9]
def Za0 (l:List Int) (c:Nat):Nat:=(l.filter fun x=>x=(c:Int)).length
def Zfc (n:Nat) (l:List Int):List Int:=(List.range n).map fun c=>(Za0 l c:Int)
@[simp] theorem Z9s {n:Nat} {l:List Int}:(Zfc n l).length=n:=by simp [Zfc]
theorem Zoi {n c:Nat} {l:List Int} (hc:c<n):Zc (Zfc n l) c=Za0 l c:=by simp [Zc,Zfc,hc]
theorem Zpq {n:Nat}:Zfc n []=List.replicate n 0:=by
 apply Xem (by simp)
 intro j h1 r
 simp [Zfc,Za0]
theorem Zxe {l:List Int} {i c:Nat} (r:i<l.length):Za0 (l.take (i+1)) c=Za0 (l.take i) c+if Zc l i=(c:Int) then 1 else 0:=by
 unfold Za0
 rw [Xel r,Xf9,Xei,show Zc l i=l[i] by simp [Zc,r]]
 congr 1
 by_cases h:l[i]=(c:Int) <;> simp [h]
theorem Zvn {l:List Int} {c:Nat}:Za0 l c<=l.length:=Xe8 ..
theorem Zm2 {n i t:Nat} {l:List Int} (r:i<l.length) (ht:Zc l i=(t:Int)) (D:t<n):(Zfc n (l.take i)).set t ((Za0 (l.take i) t:Int)+1)=Zfc n (l.take (i+1)):=by
 apply Xem (by simp)
 intro j h1 G
 rw [Xe9]
 simp only [Zfc,Xev,Xf0]
 rw [Zxe r,ht]
 by_cases c:t=j
 ·subst c; simp
 ·have:¬ (t:Int)=(j:Int):=by omega
  simp [c,this]
theorem Zkr {l:List Int} {c:Nat}:Za0 l c≠0↔∃ v,v<l.length/\Zc l v=(c:Int):=by
 unfold Za0
 rw [Ne,Xhu,Xhv]
 constructor
 ·intro h
  simp only [decide_eq_true_eq] at h
  have ⟨x,hx,hc⟩:∃ x∈l,x=(c:Int):=by
   apply Classical.byContradiction
   intro r
   exact h fun a D e=>r ⟨a,D,e⟩
  obtain ⟨v,hv,rfl⟩:=Xfa hx
  exact ⟨v,hv,by simp [Zc,hv]; exact hc⟩
 ·rintro ⟨v,hv,e⟩ h
  have:=h l[v] (Xeo hv)
  simp [Zc,hv] at e
  simp [e] at this
theorem Zd8 {row:List Int}:Zdf row=true↔∀ c,c<(Xs row).toNat->Za0 row c≠0:=by
 rw [Zp8]
 exact ⟨fun h c hc=>Zkr.2 (h c hc),fun h c hc=>Zkr.1 (h c hc)⟩
section
variable {Y:Sys} {h h':Za}
structure Xav (Y:Sys):Prop where
 P:Zv0 Y
 checkLevel:Y.Has 215 Y215
@[simp] theorem Z6u:Yg.sem Y h .len [.slice none 0 0]=some (.int .i64 0):=rfl
theorem Zqv {K:Value->Za->Prop} {b n m:Nat} {cs:List Int} (o:Yb h 1 (Sl.at b n m) (Zh cs)) {k:Nat} {y:Int} (r:k<cs.length)
  (D:∀ h',Yb h' 1 (Sl.at b n m) (Zh (cs.set k y))->Mod (fun j=>j=b) h h'->K undef h'):Xg h b k (.int .i64 y) K:=by
 have:=Xac o r D
 simpa using this
def Xdf (n B l:Nat) (v1:Value) (u:Sl) (row:List Int) (h0:Za) (e:List Value) (h':Za):Prop :=
 ∃ (i:Nat) (v8 v9 v10 v11 v12 v13 v14 v15 v16 v17 v18 v19 v20 v21 v22 v23 v24:Value),e=[.int .i64 n,v1,.int .i64 ((l:Int)+1),.slice none 0 0,.pointer (some ⟨B,0,none⟩),.int .i64 0,u.v,.int .i64 i,v8,v9,v10,v11,v12,v13,v14,v15,v16,v17,v18,v19,v20,v21,v22,v23,v24]/\i<=n/\(∀ j,j<i->0<=Zc row j/\Zc row j<n)/\h'=h0
def Xbx (n B l:Nat) (v1:Value) (u k:Sl) (row:List Int) (h0:Za) (e:List Value) (h':Za):Prop :=
 ∃ (i:Nat) (v7 v10 v11 v12 v13 v14 v15 v16 v17 v18 v19 v20 v21 v22 v23 v24:Value),e=[.int .i64 n,v1,.int .i64 ((l:Int)+1),.slice none 0 0,.pointer (some ⟨B,0,none⟩),.int .i64 0,u.v,v7,k.v,.int .i64 i,v10,v11,v12,v13,v14,v15,v16,v17,v18,v19,v20,v21,v22,v23,v24]/\i<=n/\Yb h' 1 k (Zh (Zfc n (row.take i)))/\Mod (fun j=>j=k.b) h0 h'
def Xcx (n B l:Nat) (v1:Value) (u k:Sl) (row:List Int) (h0:Za) (e:List Value) (h':Za):Prop :=
 ∃ (i:Nat) (v7 v9 v11 v12 v13 v14 v15 v16 v17 v18 v19 v20 v21 v22 v23 v24:Value),e=[.int .i64 n,v1,.int .i64 ((l:Int)+1),.slice none 0 0,.pointer (some ⟨B,0,none⟩),.int .i64 0,u.v,v7,k.v,v9,.int .i64 i,v11,v12,v13,v14,v15,v16,v17,v18,v19,v20,v21,v22,v23,v24]/\(i:Int)<=Xs row/\(∀ j,j<i->Za0 row j≠0)/\h'=h0
def Xcl (n B l:Nat) (v1:Value) (u k:Sl) (prev row:List Int) (h0:Za) (e:List Value) (h':Za):Prop :=
 ∃ (i:Nat) (v7 v9 v10 v12 v13 v14 v15 v16 v17 v18 v19 v20 v21 v22 v23 v24:Value),e=[.int .i64 n,v1,.int .i64 ((l:Int)+1),.slice none 0 0,.pointer (some ⟨B,0,none⟩),.int .i64 0,u.v,v7,k.v,v9,v10,.int .i64 i,v12,v13,v14,v15,v16,v17,v18,v19,v20,v21,v22,v23,v24]/\i<=n/\(0<l->∀ a,a<i->∀ b,b<n->Zc prev a<=Zc prev b->Zc row a<=Zc row b)/\h'=h0
def Xci (n B l a:Nat) (v1:Value) (u k:Sl) (prev row:List Int) (h0:Za) (e:List Value) (h':Za):Prop :=
 ∃ (i:Nat) (v7 v9 v10 v13 v14 v15 v16 v17 v18 v19 v20 v21 v22 v23 v24:Value),e=[.int .i64 n,v1,.int .i64 ((l:Int)+1),.slice none 0 0,.pointer (some ⟨B,0,none⟩),.int .i64 0,u.v,v7,k.v,v9,v10,.int .i64 a,.int .i64 i,v13,v14,v15,v16,v17,v18,v19,v20,v21,v22,v23,v24]/\i<=n/\(∀ b,b<i->Zc prev a<=Zc prev b->Zc row a<=Zc row b)/\h'=h0
def Xcf (n B l:Nat) (v1:Value) (h0:Za) (e:List Value) (h':Za):Prop :=
 ∃ (i:Nat) (v6 v7 v8 v9 v10 v11 v12 v14 v15 v16 v17 v18 v19 v20 v21 v22 v23 v24:Value),e=[.int .i64 n,v1,.int .i64 ((l:Int)+1),.slice none 0 0,.pointer (some ⟨B,0,none⟩),.int .i64 0,v6,v7,v8,v9,v10,v11,v12,.int .i64 i,v14,v15,v16,v17,v18,v19,v20,v21,v22,v23,v24]/\i<=n/\h'=h0
theorem Zu8 (C:Xav Y) {s:Sl} {L:List (List Int)} (r:Ql h s L) (bh:s.n<=1000) {n l:Nat} (hn:n<=1000000) (hl:l<L.length) (aF:0<l->(Zq L (l-1)).length=n) {R:Value->Za->Prop}
  (D:∀ h',Ext h h'->R (.int .i64 (lvE n L l)) h'):Zm Y 215 [.int .i64 n,X0 s,.int .i64 ((l:Int)+1),.slice none 0 0] h R:=by
 refine .of_has C.checkLevel rfl ?_
 have lL:=r.len
 simp [Y215,Xa.wp,X0]
 refine Zd ?_
 intro B h1 g1 B1 e1
 obtain ⟨u,hu,ru⟩:=r.at (i:=l) (by omega)
 have lu:=ru.len
 have wl:IntKind.i64.wrap ((l:Int)+1-1)=(l:Int):=by rw [Ze (by omega)]; omega
 have aN:IntKind.i64.wrap (l:Int)=(l:Int):=Ze (by omega)
 have aO:l<s.n:=by omega
 by_cases c1:(Zq L l).length=n
 rotate_left
 ·have he:lvE n L l=1:=by unfold lvE; rw [if_pos c1]
  rw [he] at D
  have aG:((u.n:Int)=(n:Int))=False:=by simp; omega
  have c1n:(u.n=n)=False:=by simp; omega
  simp [B1.hc,wl,aN,Zb r.ok,aO,hu,e1,aG,c1n]
  exact D h1 e1
 have aG:((u.n:Int)=(n:Int))=True:=by simp; omega
 have c1n:(u.n=n)=True:=by simp; omega
 obtain ⟨row,aE⟩:∃ row,row=Zq L l:=⟨_,rfl⟩
 have hE:lvE n L l=if Zng n row=false then 10 else if Zdf row=false then 10 else if 0<l/\Zc9 n (Zq L (l-1)) row=false then 10 else 0:=by
  unfold lvE; rw [if_neg (by simp [c1]),aE]
 rw [hE] at D
 clear hE
 rw [<-aE] at ru lu c1
 simp [B1.hc,wl,aN,Zb r.ok,aO,hu,e1,aG,c1n]
 refine Zj (Xdf n B l (.agg #[s.v]) u row h1) (fun e _=>n-Zo e 7) ⟨0,_,_,_,_,_,_,_,_,_,_,_,_,_,_,_,_,_,rfl,by omega,fun j hj=>by omega,rfl⟩ ?_
 rintro e h2 ⟨i,v8,v9,bk,bm,bn,bo,bp,bq,br,bs,bu,bv,bw,bx,bz,bA,bB,rfl,hi,al,rfl⟩
 have av:=ru.ext e1
 by_cases c2:i<n
 ·have am:(i:Int)<n:=by omega
  have w1:IntKind.i64.wrap ((i:Int)+1)=(i:Int)+1:=Ze (by omega)
  have af:i<u.n:=by omega
  have an:(i:Int)<u.n:=by omega
  by_cases d:0<=Zc row i/\Zc row i<n
  ·have d1:¬ Zc row i<0:=by omega
   have d2:¬ (n:Int)<=Zc row i:=by omega
   simp [am,Zb ru.ok,af,an,av.at af,d1,d2,w1]
   have aP:∀ j,j<i+1->0<=Zc row j/\Zc row j<n:=by
    intro j hj
    rcases Xd8 j i with g | g
    ·exact al j g
    ·obtain rfl:j=i:=by omega
     exact d
   refine ⟨⟨i+1,_,_,_,_,_,_,_,_,_,_,_,_,_,_,_,_,_,rfl,by omega,aP,rfl⟩,by simp [Zo]; omega⟩
  ·have he:Zng n row=false:=by
    rw [Xfx]; intro hh; exact d (Zhq.1 hh i c2)
   rw [if_pos he] at D
   by_cases d1:Zc row i<0
   ·simp [am,Zb ru.ok,af,an,av.at af,d1]
    exact D _ e1
   ·have d2:(n:Int)<=Zc row i:=by omega
    simp [am,Zb ru.ok,af,an,av.at af,d1,d2]
    exact D _ e1
 have am:¬ (i:Int)<n:=by omega
 obtain rfl:i=n:=by omega
 have aX:Zng i row=true:=Zhq.2 al
 rw [if_neg (by simp [aX])] at D
 simp [am]
 refine Ze3 (n:=i) hn rfl ?_
 intro kb h3 g3 o3 e3 l3
 rw [<-Zpq] at o3
 simp
 have lB:=B1.lt
 have z3:=e3.size
 refine Zj (Xbx i B l (.agg #[s.v]) u (Sl.at kb i i) row h3) (fun e _=>i-Zo e 9) ⟨0,_,_,_,_,_,_,_,_,_,_,_,_,_,_,_,_,rfl,by omega,by simpa using o3,Mod.refl _⟩ ?_
 rintro e h4 ⟨v,w7,ag,aw,G,H,I,J,M,O,U,V,ao,X,Z,aa,ab,rfl,hv,o4,m4⟩
 have x4:Ext h2 h4:=Mod.ext e3 m4 (fun j hj=>by rw [hj]; exact g3)
 have ah:=av.ext x4
 have ko:=o4.ok
 by_cases c3:v<i
 ·have aH:(v:Int)<i:=by omega
  have w1:IntKind.i64.wrap ((v:Int)+1)=(v:Int)+1:=Ze (by omega)
  have aQ:v<u.n:=by omega
  have aR:(v:Int)<u.n:=by omega
  obtain ⟨d1,d2⟩:=al v c3
  obtain ⟨t,ht⟩:∃ t:Nat,Zc row v=t:=⟨(Zc row v).toNat,by omega⟩
  have aS:t<i:=by omega
  have bi:(t:Int)<i:=by omega
  have kx:=Zb (Y:=Y) (h:=h4) (s:=Sl.at kb i i) (sz:=1) (k:=.i64) (i:=(t:Int)) ko (by omega) (by simp; omega)
  simp at kx
  have kc:=o4.row64.val t (by simp; omega)
  simp [Zoi aS] at kc
  have cl:=Zvn (l:=row.take v) (c:=t)
  have bC:(row.take v).length<=v:=by simp; omega
  have w2:IntKind.i64.wrap ((Za0 (row.take v) t:Int)+1)=(Za0 (row.take v) t:Int)+1:=Ze (by omega)
  simp [aH,Zb ru.ok,aQ,aR,ah.at aQ,ht,kx,kc,w1,w2]
  refine Zqv o4 (k:=t) (by simp; omega) ?_
  intro h5 o5 m5
  rw [Zm2 (by omega) ht aS] at o5
  simp [w1]
  refine ⟨⟨v+1,_,_,_,_,_,_,_,_,_,_,_,_,_,_,_,_,rfl,by omega,o5,m4.trans m5⟩,by simp [Zo]; omega⟩
 have aH:¬ (v:Int)<i:=by omega
 obtain rfl:v=i:=by omega
 rw [Xef (by omega)] at o4
 have aY:=o4.row64
 obtain ⟨bD,bE,bF⟩:=Zcj (l:=row) (n:=(v:Int)) (by omega) (fun j hj=>(al j (by omega)).2)
 have kx:=fun (j:Nat) (hj:j<v)=>Zb (Y:=Y) (h:=h4) (s:=Sl.at kb v v) (sz:=1) (k:=.i64) (i:=(j:Int)) ko (by omega) (by simp; omega)
 have kc:=fun (j:Nat) (hj:j<v)=>aY.val j (by simp; omega)
 simp at kx
 have ac:∀ {K:Value->Za->Prop},K (.int .i64 (Xs row)) h4->Zm Y 212 [u.v] h4 K:=fun hK=>Zqk C.P ah (by omega) (fun j hj=>by have:=al j (by omega); omega) hK
 clear o3 m4 e3
 simp [aH]
 refine Zj (Xcx v B l (.agg #[s.v]) u (Sl.at kb v v) row h4) (fun e _=>(Xs row).toNat-Zo e 10) ⟨0,_,_,_,_,_,_,_,_,_,_,_,_,_,_,_,_,rfl,by omega,fun j hj=>by omega,rfl⟩ ?_
 rintro e h5 ⟨c,w7,w9,aw,G,H,I,J,M,O,U,V,ao,X,Z,aa,ab,rfl,bG,aT,aZ⟩
 subst aZ
 by_cases c4:(c:Int)<Xs row
 ·have w1:IntKind.i64.wrap ((c:Int)+1)=(c:Int)+1:=Ze (by omega)
  have ax:c<v:=by omega
  have bj:(c:Int)<v:=by omega
  have ap:=kc c ax
  rw [Zoi ax] at ap
  simp at ap
  simp
  refine ac ?_
  by_cases d:Za0 row c=0
  ·have he:Zdf row=false:=by
    rw [Xfx]; intro hh; exact Zd8.1 hh c (by omega) d
   rw [if_pos he] at D
   rw [d] at ap
   simp [c4,kx c ax,ap]
   exact D _ (e1.trans x4)
  ·have d':((Za0 row c:Int)=0)=False:=by simp; omega
   simp [c4,kx c ax,ap,d',d,w1]
   have aU:∀ j,j<c+1->Za0 row j≠0:=by
    intro j hj
    rcases Xd8 j c with g | g
    ·exact aT j g
    ·obtain rfl:j=c:=by omega
     exact d
   refine ⟨⟨c+1,_,_,_,_,_,_,_,_,_,_,_,_,_,_,_,_,rfl,by omega,aU,rfl⟩,by simp [Zo]; omega⟩
 have hF:Zdf row=true:=Zd8.2 (fun j hj=>aT j (by omega))
 rw [if_neg (by simp [hF])] at D
 simp
 refine ac ?_
 simp [c4]
 clear ac
 have a0:0<l->∃ q:Sl,(∀ g,Ext h g->hc g s.b (s.o+(l-1))=some q.v)/\Zz h q (Zq L (l-1)):=fun h0=>r.at (i:=l-1) (by omega)
 refine Zj (Xcl v B l (.agg #[s.v]) u (Sl.at kb v v) (Zq L (l-1)) row h5) (fun e _=>v-Zo e 11) ⟨0,_,_,_,_,_,_,_,_,_,_,_,_,_,_,_,_,rfl,by omega,fun _ a ha=>by omega,rfl⟩ ?_
 rintro e h6 ⟨a,w7,w9,ag,G,H,I,J,M,O,U,V,ao,X,Z,aa,ab,rfl,ha,ad,a1⟩
 subst a1
 have x6:Ext h h6:=e1.trans x4
 have done:(0<l->Zc9 v (Zq L (l-1)) row=true)->∀ (w7 w9 ag aw G H I J M O U V ao X Z aa ab:Value),Stmt.wp Y Y215.body.rest.rest.rest.rest.rest.rest.rest.rest (Q5 Y215.res R) (fun _ _ _=>False) (Q5 Y215.res R)
   [.int .i64 v,.agg #[s.v],.int .i64 ((l:Int)+1),.slice none 0 0,.pointer (some ⟨B,0,none⟩),.int .i64 0,u.v,w7,(Sl.at kb v v).v,w9,ag,aw,G,H,I,J,M,O,U,V,ao,X,Z,aa,ab] h6:=by
  intro hN w7 w9 ag aw G H I J M O U V ao X Z aa ab
  rw [if_neg (by rintro ⟨q1,q2⟩; rw [hN q1] at q2; cases q2)] at D
  simp [Y215,Stmt.rest]
  refine Zj (Xcf v B l (.agg #[s.v]) h6) (fun e _=>v-Zo e 13) ⟨0,_,_,_,_,_,_,_,_,_,_,_,_,_,_,_,_,_,_,rfl,by omega,rfl⟩ ?_
  rintro e h7 ⟨i,y6,y7,y8,y9,a2,bH,bJ,a3,a4,a5,a6,a7,a8,a9,ba,bb,bc,bd,rfl,hi,aI⟩
  subst aI
  by_cases c5:(i:Int)<v
  ·simp [c5]
   exact D h7 x6
  ·simp [c5]
   exact D h7 x6
 simp only [Y215,Stmt.rest] at done
 by_cases c6:a<v
 rotate_left
 ·have ay:¬ (a:Int)<v:=by omega
  have tt:=done (fun h0=>Zd9.2 (fun x hx=>ad h0 x (by omega))) w7 w9 ag (.int .i64 a) G H I J M O U V (.bool false) X Z aa ab
  simp at tt
  simp [ay]
  exact tt
 have ay:(a:Int)<v:=by omega
 by_cases az:0<l
 rotate_left
 ·have l1:¬ (1:Int)<(l:Int)+1:=by omega
  have tt:=done (fun h0=>absurd h0 az) w7 w9 ag (.int .i64 a) G H I J M O U V (.bool false) X Z aa ab
  simp at tt
  have l0:l=0:=by omega
  simp [ay,l0] at tt ⊢
  exact tt
 clear done
 have l1:(1:Int)<(l:Int)+1:=by omega
 have be:(0:Int)<l:=by omega
 obtain ⟨q,hq,rq⟩:=a0 az
 have bg:=aF az
 have lq:=rq.len
 have aA:IntKind.i64.wrap ((l:Int)+1-2)=((l-1:Nat):Int):=by rw [Ze (by omega)]; omega
 obtain ⟨m,hm⟩:∃ m,m=l-1:=⟨_,rfl⟩
 rw [<-hm] at aA hq rq bg lq D ad ⊢
 have aJ:m<s.n:=by omega
 have aq:(m:Int)<s.n:=by omega
 have ai:=rq.ext x6
 have B6:=B1.ext x4
 simp [ay,l1,be]
 refine Zj (Xci v B l a (.agg #[s.v]) u (Sl.at kb v v) (Zq L m) row h6) (fun e _=>v-Zo e 12) ⟨0,_,_,_,_,_,_,_,_,_,_,_,_,_,_,_,rfl,by omega,fun b hb=>by omega,rfl⟩ ?_
 rintro e h7 ⟨b,y7,y9,a2,bK,a3,a4,a5,a6,a7,a8,a9,ba,bb,bc,bd,rfl,hb,aK,aI⟩
 subst aI
 have w1:IntKind.i64.wrap ((a:Int)+1)=(a:Int)+1:=Ze (by omega)
 have w2:IntKind.i64.wrap ((b:Int)+1)=(b:Int)+1:=Ze (by omega)
 by_cases c7:b<v
 rotate_left
 ·have ar:¬ (b:Int)<v:=by omega
  simp [ar,w1]
  have aB:0<l->∀ x,x<a+1->∀ y,y<v->Zc (Zq L m) x<=Zc (Zq L m) y->Zc row x<=Zc row y:=by
   intro h0 x hx y hy ae
   rcases Xd8 x a with g | g
   ·exact ad h0 x g y hy ae
   ·obtain rfl:x=a:=by omega
    exact aK y (by omega) ae
  refine ⟨⟨a+1,_,_,_,_,_,_,_,_,_,_,_,_,_,_,_,_,rfl,by omega,aB,rfl⟩,by simp [Zo]; omega⟩
 have ar:(b:Int)<v:=by omega
 have aj:a<q.n:=by omega
 have aL:(a:Int)<q.n:=by omega
 have ak:b<q.n:=by omega
 have aM:(b:Int)<q.n:=by omega
 have aC:a<u.n:=by omega
 have aV:(a:Int)<u.n:=by omega
 have aD:b<u.n:=by omega
 have aW:(b:Int)<u.n:=by omega
 by_cases d1:Zc (Zq L m) a<=Zc (Zq L m) b
 rotate_left
 ·simp [ar,B6.hc,aA,Zb r.ok,aJ,aq,hq,x6,Zb rq.ok,aj,aL,ak,aM,ai.at aj,ai.at ak,d1,w2]
  have au:∀ y,y<b+1->Zc (Zq L m) a<=Zc (Zq L m) y->Zc row a<=Zc row y:=by
   intro y hy ae
   rcases Xd8 y b with g | g
   ·exact aK y g ae
   ·obtain rfl:y=b:=by omega
    exact absurd ae d1
  refine ⟨⟨b+1,_,_,_,_,_,_,_,_,_,_,_,_,_,_,_,rfl,by omega,au,rfl⟩,by simp [Zo]; omega⟩
 by_cases d2:Zc row b<Zc row a
 ·have he:Zc9 v (Zq L m) row=false:=by
   rw [Xfx]; intro hh; have:=Zd9.1 hh a c6 b c7 d1; omega
  rw [if_pos ⟨az,he⟩] at D
  simp [ar,B6.hc,aA,Zb r.ok,aJ,aq,hq,x6,Zb rq.ok,aj,aL,ak,aM,ai.at aj,ai.at ak,d1,Zb ru.ok,aC,aV,aD,aW,ah.at aC,ah.at aD,d2]
  exact D _ x6
 ·simp [ar,B6.hc,aA,Zb r.ok,aJ,aq,hq,x6,Zb rq.ok,aj,aL,ak,aM,ai.at aj,ai.at ak,d1,Zb ru.ok,aC,aV,aD,aW,ah.at aC,ah.at aD,d2,w2]
  have au:∀ y,y<b+1->Zc (Zq L m) a<=Zc (Zq L m) y->Zc row a<=Zc row y:=by
   intro y hy ae
   rcases Xd8 y b with g | g
   ·exact aK y g ae
   ·obtain rfl:y=b:=by omega
    omega
  refine ⟨⟨b+1,_,_,_,_,_,_,_,_,_,_,_,_,_,_,_,rfl,by omega,au,rfl⟩,by simp [Zo]; omega⟩
end
abbrev Zl0:ByteArray:=⟨#[112,97,114,116]⟩
def Zj1 (n:Nat) (L:List (List Int)):Nat->Nat->Wr
 | _,0=>Ur
 | i,k+1=>if lvE n L i≠0 then Wy Zl0 ((i:Int)+1) (lvE n L i) else Zj1 n L (i+1) k
def Zbv (n:Nat) (L:List (List Int)):Wr:=if 4096<n\/6<L.length then Wy Zl0 0 4 else if L.length=0 then Wy Zl0 0 1 else Zj1 n L 0 L.length
structure Yx (n:Nat) (L:List (List Int)):Prop where
 bn:n<=4096
 bL:L.length<=6
 pos:0<L.length
 lv:∀ i,i<L.length->lvE n L i=0
theorem Zxh {n:Nat} {L:List (List Int)}:∀ {k i:Nat},(Zj1 n L i k).2=0↔∀ j,j<k->lvE n L (i+j)=0:=by
 intro k
 induction k with
 | zero=>intro i; simp [Zj1,Ur]
 | succ k r =>
  intro i
  simp only [Zj1]
  by_cases h:lvE n L i=0
  ·rw [if_neg (by simp [h]),r]
   constructor
   ·intro g j D
    cases j with
    | zero=>exact h
    | succ j=>rw [show i+(j+1)=i+1+j by omega]; exact g j (by omega)
   ·intro g j D
    rw [show i+1+j=i+(j+1) by omega]; exact g (j+1) (by omega)
  ·rw [if_pos h]
   simp only [Wy]
   exact ⟨fun g=>absurd g h,fun g=>g 0 (by omega)⟩
theorem Ztz {n:Nat} {L:List (List Int)}:(Zbv n L).2=0↔Yx n L:=by
 unfold Zbv
 by_cases h1:4096<n\/6<L.length
 ·rw [if_pos h1]
  simp only [Wy]
  exact ⟨fun g=>(by cases g),fun g=>by have:=g.bn; have:=g.bL; omega⟩
 rw [if_neg h1]
 by_cases r:L.length=0
 ·rw [if_pos r]
  simp only [Wy]
  exact ⟨fun g=>(by cases g),fun g=>by have:=g.pos; omega⟩
 rw [if_neg r,Zxh]
 constructor
 ·intro g
  exact ⟨by omega,by omega,by omega,fun i D=>by have:=g i D; rwa [Xes] at this⟩
 ·intro g j G
  rw [Xes]; exact g.lv j G
theorem Uh {n i:Nat} {L:List (List Int)} (h:lvE n L i=0):(Zq L i).length=n/\(∀ v,v<n->0<=Zc (Zq L i) v/\Zc (Zq L i) v<n)/\(∀ c,c<(Xs (Zq L i)).toNat->Za0 (Zq L i) c≠0) /\
  (0<i->∀ a,a<n->∀ b,b<n->Zc (Zq L (i-1)) a<=Zc (Zq L (i-1)) b->Zc (Zq L i) a<=Zc (Zq L i) b):=by
 unfold lvE at h
 split at h
 ·cases h
 rename_i h1
 split at h
 ·cases h
 rename_i r
 split at h
 ·cases h
 rename_i D
 split at h
 ·cases h
 rename_i h4
 refine ⟨by simpa using h1,Zhq.1 (by simpa using r),Zd8.1 (by simpa using D),fun h0=>Zd9.1 ?_⟩
 cases hq:Zc9 n (Zq L (i-1)) (Zq L i) with
 | true=>rfl
 | false=>exact absurd ⟨h0,hq⟩ h4
def Zpg (L:List (List Int)):Bool:=decide ((∀ i,i<L.length->(Zq L i).length<=60)/\L.length<=10)
def Zdq (n:Nat) (L:List (List Int)):Bool:=Zpg L && decide (n<=60) && decide ((Zbv n L).2=0)
section
variable {Y:Sys} {h h':Za}
structure Xa1 (Y:Sys):Prop where
 C:Xav Y
 CheckPart:Y.Has 199 Y199
 At:Y.Has 50 Y50
def Xc2 (n B W:Nat) (v1:Value) (L:List (List Int)) (h0:Za) (e:List Value) (h':Za):Prop :=
 ∃ (i:Nat) (v6 v7 v8 v9 v10 v11:Value),e=[.int .i64 n,v1,.slice none 0 0,.pointer (some ⟨B,0,none⟩),.pointer (some ⟨W,0,none⟩),.int .i64 ((i:Int)+1),v6,v7,v8,v9,v10,v11]/\i<=L.length/\(∀ j,j<i->lvE n L j=0)/\Zj1 n L 0 L.length=Zj1 n L i (L.length-i)/\Ext h0 h'
theorem Zks (C:Xa1 Y) {s:Sl} {L:List (List Int)} (r:Ql h s L) (U:s.n<=1000) {n:Nat} (hn:n<=1000000) {R:Value->Za->Prop}
  (hr:∀ h' v,Ext h h'->FWr h.size h' (Zbv n L) v->R v h'):Zm Y 199 [.int .i64 n,X0 s,.slice none 0 0] h R:=by
 refine .of_has C.CheckPart rfl ?_
 have lL:=r.len
 simp [Y199,Xa.wp,X0]
 refine Zd ?_
 intro B h1 g1 B1 e1
 simp
 refine Zd ?_
 intro W Z g2 W2 e2
 have V:=e1.trans e2
 have z1:=e1.size
 have z2:=e2.size
 have lW:=W2.lt
 have D:∀ {M h4:Za} {v:Value},Ext Z M->FWr Z.size M (Zbv n L) v->Mod (fun j=>j=W) M h4->R v h4:=by
  intro M h4 v e3 fw H
  exact hr h4 v (Mod.ext (V.trans e3) H (fun j hj=>by omega)) ((fw.step H (fun j hj=>by omega)).mono (by omega))
 have n0:¬ (n:Int)<0:=by omega
 by_cases c1:4096<n
 ·have G:(4096:Int)<n:=by omega
  have hp:Zbv n L=Wy Zl0 0 4:=by unfold Zbv; rw [if_pos (.inl c1)]
  rw [hp] at D
  simp [n0,G]
  refine W1 C.At ?_
  intro M v e3 hv
  obtain ⟨s5,rfl⟩:=hv.here.shape
  simp
  refine Zi (W2.ext e3) rfl rfl (by simp) ?_
  intro h4 W4 H
  simp
  exact Yt rfl W4 rfl (D e3 hv H)
 have G:¬ (4096:Int)<n:=by omega
 by_cases c2:6<s.n
 ·have J:(6:Int)<s.n:=by omega
  have hp:Zbv n L=Wy Zl0 0 4:=by unfold Zbv; rw [if_pos (.inr (by omega))]
  rw [hp] at D
  simp [n0,G,J,B1.sk,e2]
  refine W1 C.At ?_
  intro M v e3 hv
  obtain ⟨s5,rfl⟩:=hv.here.shape
  simp
  refine Zi (W2.ext e3) rfl rfl (by simp) ?_
  intro h4 W4 H
  simp
  exact Yt rfl W4 rfl (D e3 hv H)
 have J:¬ (6:Int)<s.n:=by omega
 by_cases c3:s.n=0
 ·have hp:Zbv n L=Wy Zl0 0 1:=by unfold Zbv; rw [if_neg (by omega),if_pos (by omega)]
  rw [hp] at D
  simp [n0,G,J,B1.sk,e2,c3]
  refine W1 C.At ?_
  intro M v e3 hv
  obtain ⟨s5,rfl⟩:=hv.here.shape
  simp
  refine Zi (W2.ext e3) rfl rfl (by simp) ?_
  intro h4 W4 H
  simp
  exact Yt rfl W4 rfl (D e3 hv H)
 have aa:((s.n:Int)=0)=False:=by simp; omega
 have hp:Zbv n L=Zj1 n L 0 L.length:=by unfold Zbv; rw [if_neg (by omega),if_neg (by omega)]
 rw [hp] at D
 simp [n0,G,J,B1.sk,e2,c3,aa]
 refine Zj (Xc2 n B W (.agg #[s.v]) L Z) (fun e _=>L.length+1-Zo e 5) ⟨0,_,_,_,_,_,_,rfl,by omega,fun j hj=>by omega,rfl,Mod.refl _⟩ ?_
 rintro e M ⟨i,v6,v7,v8,v9,ac,ad,rfl,hi,hz,I,e3⟩
 have B3:=(B1.ext e2).ext e3
 by_cases c4:i<s.n
 ·have O:(i:Int)+1<=s.n:=by omega
  simp [B3.hc,O,Zy B3]
  refine Zu8 C.C (r.ext (V.trans e3)) U hn (by omega) (fun h0=>?_) ?_
  ·exact (Uh (hz (i-1) (by omega))).1
  intro h4 e4
  have w1:IntKind.i64.wrap ((i:Int)+1+1)=(i:Int)+1+1:=Ze (by omega)
  have hk:L.length-i=(L.length-(i+1))+1:=by omega
  rw [hk] at I
  by_cases d:lvE n L i=0
  ·simp only [Zj1] at I
   rw [if_neg (by simp [d])] at I
   have ab:∀ j,j<i+1->lvE n L j=0:=by
    intro j hj
    rcases Xd8 j i with g | g
    ·exact hz j g
    ·obtain rfl:j=i:=by omega
     exact d
   simp [d,w1]
   exact ⟨⟨i+1,_,_,_,_,_,_,by rfl,by omega,ab,I,e3.trans e4⟩,by simp [Zo]; omega⟩
  ·simp only [Zj1] at I
   rw [if_pos d] at I
   rw [I] at D
   simp [d]
   refine W1 C.At ?_
   intro h5 v e5 hv
   obtain ⟨s5,rfl⟩:=hv.here.shape
   simp
   have X:=(e3.trans e4).trans e5
   refine Zi (W2.ext X) rfl rfl (by simp) ?_
   intro h6 W6 m6
   have:=e3.size
   have:=e4.size
   simp
   exact Yt rfl W6 rfl (D X (hv.mono (by omega)) m6)
 ·have O:¬ (i:Int)+1<=s.n:=by omega
  have hk:L.length-i=0:=by omega
  rw [hk] at I
  simp only [Zj1] at I
  rw [I] at D
  simp [B3.hc,O]
  refine Zi (W2.ext e3) rfl rfl (by simp) ?_
  intro h4 W4 H
  simp
  exact Yt rfl W4 rfl (D e3 FWr.ok H)
structure Znm (Y:Sys):Prop where
 Pt:Xa1 Y
 Few13:Y.Has 198 Y198
 May13:Y.Has 186 Y186
 Few3:Y.Has 98 Y98
 May3:Y.Has 104 Y104
 RN:Z3z Y
 RC:RefCk Y
def FpI (B:Nat) (v0:Value) (L:List (List Int)) (h0:Za) (e:List Value) (h':Za):Prop :=
 ∃ (i:Nat) (v2 v4 v5:Value),e=[v0,.pointer (some ⟨B,0,none⟩),v2,.int .i64 i,v4,v5]/\i<=L.length/\(∀ j,j<i->(Zq L j).length<=60)/\h'=h0
theorem Zud (M:Znm Y) {s:Sl} {L:List (List Int)} (r:Ql h s L) (U:s.n<=9223372036854775807) {R:Value->Za->Prop} (D:∀ h',Ext h h'->R (.bool (Zpg L)) h'):Zm Y 198 [X0 s] h R:=by
 refine .of_has M.Few13 rfl ?_
 have Z:=r.len
 have V:=r.ok
 simp [Y198,Xa.wp,X0]
 refine Zd ?_
 intro B h1 g1 B1 G
 simp
 refine Zj (FpI B (.agg #[s.v]) L h1) (fun e _=>L.length-Zo e 3) ⟨0,_,_,_,rfl,by omega,fun j X=>by omega,rfl⟩ ?_
 rintro e h2 ⟨i,v2,v4,v5,rfl,hi,hz,H⟩
 subst H
 by_cases c:i<s.n
 ·have c':(i:Int)<s.n:=by omega
  have w1:IntKind.i64.wrap ((i:Int)+1)=(i:Int)+1:=Ze (by omega)
  obtain ⟨u,hu,ru⟩:=r.at (i:=i) c
  have lu:=ru.len
  by_cases d:60<u.n
  ·have I:(60:Int)<u.n:=by omega
   have hf:Zpg L=false:=by
    unfold Zpg
    have:¬ ∀ j,j<L.length->(Zq L j).length<=60:=fun H=>by have:=H i (by omega); omega
    simp [this]
   rw [hf] at D
   simp [B1.hc,c',c,Zb r.ok,hu,G,I]
   exact D _ G
  ·have I:¬ (60:Int)<u.n:=by omega
   have J:∀ j,j<i+1->(Zq L j).length<=60:=by
    intro j X
    rcases Xd8 j i with g | g
    ·exact hz j g
    ·obtain rfl:j=i:=by omega
     omega
   simp [B1.hc,c',c,Zb r.ok,hu,G,I,w1]
   refine ⟨⟨i+1,_,_,_,rfl,by omega,J,rfl⟩,by simp [Zo]; omega⟩
 ·have c':¬ (i:Int)<s.n:=by omega
  have hf:Zpg L=decide (L.length<=10):=by
   unfold Zpg
   have:∀ j,j<L.length->(Zq L j).length<=60:=fun j X=>hz j (by omega)
   simp only [eq_true this,true_and]
  rw [hf] at D
  have O:decide ((s.n:Int)<=10)=decide (L.length<=10):=by rw [Z]; congr 1; simp; omega
  simp [B1.hc,c',O]
  exact D _ G
theorem Zvf (M:Znm Y) {s:Sl} {L:List (List Int)} (r:Ql h s L) (G:s.n<=9223372036854775807) {n:Nat} {R:Value->Za->Prop} (D:∀ h',Ext h h'->R (.bool (Zdq n L)) h'):Zm Y 186 [.int .i64 n,X0 s] h R:=by
 refine .of_has M.May13 rfl ?_
 have O:=r.len
 simp [Y186,Xa.wp,X0]
 refine Zd ?_
 intro B h1 U B1 J
 simp [Zy B1]
 refine Zud M (r.ext J) G ?_
 intro V e2
 have H:=J.trans e2
 by_cases c:Zpg L=true
 rotate_left
 ·have c':Zpg L=false:=by simpa using c
  have hf:Zdq n L=false:=by simp [Zdq,c']
  rw [hf] at D
  simp [c']
  exact D _ H
 by_cases d:n<=60
 rotate_left
 ·have I:¬ (n:Int)<=60:=by omega
  have hf:Zdq n L=false:=by simp [Zdq,d]
  rw [hf] at D
  simp [c,I]
  exact D _ H
 have I:(n:Int)<=60:=by omega
 have hf:Zdq n L=decide ((Zbv n L).2=0):=by simp [Zdq,c,d]
 rw [hf] at D
 have c':=c
 simp [Zpg] at c'
 simp [c,I,Zy (B1.ext e2)]
 refine Zks M.Pt (r.ext H) (by omega) (by omega) ?_
 intro X v e3 hv
 obtain ⟨Z,rfl⟩:=hv.here.shape
 simp
 exact D _ (H.trans e3)
theorem Zxi (M:Znm Y) {H I J:Sl} {N:Zg} (r:Uo h H I J N) {R:Value->Za->Prop} (D:∀ h',Ext h h'->R (.bool (Zn8 N)) h'):Zm Y 104 [Yo H I J] h R:=by
 refine .of_has M.May3 rfl ?_
 simp [Y104,Xa.wp,Yo]
 refine Zd ?_
 intro B X Z O U
 simp [Zy O]
 refine Z0c M.Few3 (r.ext U) ?_
 intro h1 V
 have G:=U.trans V
 by_cases c:Ze9 N=true
 rotate_left
 ·have c':Ze9 N=false:=by simpa using c
  simp [Zn8,c'] at D
  simp [c']
  exact D _ G
 simp [Zn8,c] at D
 simp [c,Zy (O.ext V)]
 refine Zjw M.RN M.RC (r.ext G) ?_
 intro h2 v e2 hv
 obtain ⟨s5,rfl⟩:=hv.here.shape
 simp
 exact D _ (G.trans e2)
end
section
variable {Y:Sys} {h h':Za}
def Zo1 (lo:Nat) (h:Za) (s:Sl) (P:List (List Int × Sl)):Prop :=
 ∀ q∈P,Zz h q.2 q.1/\(q.1≠[]->lo<=q.2.b/\(s.nl=false->q.2.b≠s.b)/\q.2.b<h.size)
theorem Yb.rowL {s:Sl} {P:List (List Int × Sl)} {l:List (List Int)} (o:Yb h 1 s (P.map fun p=>p.2.v)) (G:P.map Prod.fst=l) (hP:∀ p∈P,Zz h p.2 p.1):Ql h s l:=by
 have D:=o.1
 simp at D
 subst G
 refine ⟨o.ok,by simpa using D,fun i r=>?_⟩
 have r:i<P.length:=by simpa using r
 have e:Zq (P.map Prod.fst) i=P[i].1:=by rw [Znk (by simpa using r)]; simp
 rw [e]
 exact ⟨P[i].2,o.cell (by simp [r]),hP _ (Xeo r)⟩
theorem Xe {K:Value->Za->Prop} {z v:Value} (hv:v.oneCell'=true) (r:∀ (b:Nat) (h':Za),h.size<=b->Ys h' b #[v]->Ext h h'->K (.slice (some ⟨b,0,none⟩) 1 1) h') :
  Ef.wp h K (.bslice 1 1 #[z] [0]) [v]:=by
 rw [Zj5 hv]
 exact fun t=>r _ _ (Xd6 _) Ys.new Mod.push
theorem Wc {K:Value->Za->Prop} {bytes b:Nat} {z v:Value} {s:Sl} {cells:List Value} (hv:v.oneCell'=true) (o:Yb h 1 s cells) (hb:Ys h b #[v]) (D:(s.n+1) * bytes<=140737488355328) (G:s.n+1<=9223372036854775807)
  (H:∀ (r:Sl) (h':Za),Yb h' 1 r (cells++[v])->r.n=s.n+1->Mod (fun j=>s.nl=false/\j=s.b) h h'->((r.b=s.b/\r.nl=s.nl)\/(h.size<=r.b/\r.nl=false))->K r.v h') :
  Ef.wp h K (.append 1 bytes #[z]) [s.v,.slice (some ⟨b,0,none⟩) 1 1]:=by
 have hs:Wq h 1 1 (.slice (some ⟨b,0,none⟩) 1 1)=some [v]:=by
  rw [Zer]
  exact Zy hb rfl
 exact Vx o (m:=1) (nw:=[v]) rfl hs rfl (by simpa using hv) rfl D G H
structure Z0y (Y:Sys):Prop where
 To:Y.Has 173 Y173
def CtI (B rb M:Nat) (v0:Value) (L:List (List Int)) (h0:Za) (e:List Value) (h':Za):Prop :=
 ∃ (i:Nat) (s1:Sl) (P:List (List Int × Sl)) (v5:Value),e=[v0,.pointer (some ⟨B,0,none⟩),.pointer (some ⟨rb,0,none⟩),.pointer (some ⟨M,0,none⟩),.int .i64 i,v5]/\i<=L.length/\Ys h' M #[s1.v]/\Yb h' 1 s1 (P.map fun p=>p.2.v)/\P.map Prod.fst=L.take i/\Zo1 h0.size h' s1 P/\(s1.nl=true\/h0.size<=s1.b)/\Mod (fun j=>j=M) h0 h'
theorem Zp7 (C:Z0y Y) {s:Sl} {L:List (List Int)} (r:Ql h s L) (ak:s.n<=1000) (ac:∀ i,i<L.length->(Zq L i).length<=1000000) {R:Value->Za->Prop}
  (hr:∀ h' s',Ext h h'->Ql h' s' L->s'.n<=1000->R (X0 s') h'):Zm Y 173 [X0 s] h R:=by
 refine .of_has C.To rfl ?_
 have lL:=r.len
 simp [Y173,Xa.wp,X0]
 refine Zd ?_
 intro B h1 g1 B1 e1
 simp
 refine Zd ?_
 intro rb h2 g2 R2 e2
 simp
 refine Zd ?_
 intro M V X M3 e3
 have x3:=(e1.trans e2).trans e3
 have lM:=M3.lt
 have lR:=R2.lt
 have lB:=B1.lt
 have z1:=e1.size
 have z2:=e2.size
 have z3:=e3.size
 have B3:=(B1.ext e2).ext e3
 have R3:=R2.ext e3
 simp
 refine Zj (CtI B rb M (.agg #[s.v]) L V) (fun e _=>L.length-Zo e 4) ⟨0,Sl.nil,[],_,rfl,by omega,M3,by simpa using Yb.nil,by simp,by intro q hq; simp at hq,.inl rfl,Mod.refl _⟩ ?_
 rintro e h4 ⟨i,O,P,v5,rfl,hi,M4,o4,hP,hT,ag,m4⟩
 have B4:=m4.blk B3 (by omega)
 have R4:=m4.blk R3 (by omega)
 have x4:Ext h h4:=Mod.ext x3 m4 (fun j hj=>by omega)
 have n4:=o4.1
 simp at n4
 have al:P.length=i:=by
  have:=congrArg List.length hP
  simp at this
  omega
 have G:O.nl=false->V.size<=O.b:=fun D=>ag.resolve_left (by rw [D]; simp)
 have l1:O.nl=false->O.b<h4.size:=fun D=>o4.lt D
 have z4:=m4.size
 by_cases c:i<s.n
 rotate_left
 ·have c':¬ (i:Int)<s.n:=by omega
  simp [B4.hc,c',Zy M4]
  refine Zi R4 rfl rfl (by simp) ?_
  intro h5 R5 m5
  simp
  refine Yt rfl R5 rfl ?_
  rw [Xef (by omega)] at hP
  refine hr h5 O (Mod.ext x4 m5 (fun j hj=>by omega)) ?_ (by omega)
  refine Yb.rowL (o4.mod m5 (fun D=>by have:=G D; omega)) hP ?_
  intro q hq
  obtain ⟨a,b⟩:=hT q hq
  exact a.mod m5 (fun D=>by have:=(b D).1; omega)
 have c':(i:Int)<s.n:=by omega
 have w1:IntKind.i64.wrap ((i:Int)+1)=(i:Int)+1:=Ze (by omega)
 obtain ⟨u,hu,ru⟩:=r.at (i:=i) c
 have lu:=ru.len
 have am:=ac i (by omega)
 simp [B4.hc,M4.hc,c',c,Zb r.ok,hu,x4]
 refine Yj ?_
 intro b5 h5 g5 o5 e5
 have x5:=x4.trans e5
 have M5:=M4.ext e5
 simp [hu,x5,(B4.ext e5).hc,M5.hc]
 refine Zc4 (s0:=Sl.at b5 0 0) (ru.ext x5) (by omega) o5 (.inr g5) e5 ?_
 intro I h6 o6 ah H
 have M6:=M4.ext H
 simp [M6.hc]
 refine Xe rfl ?_
 intro b7 h7 g7 V7 e7
 have M7:=M6.ext e7
 have o7:=(o4.ext' H).ext' e7
 have z7:=e7.size
 simp [M7.hc]
 refine Wc (bytes:=24) rfl o7 V7 (by omega) (by omega) ?_
 intro J h8 o8 an m8 ad
 have M8:=m8.blk M7 (fun hq=>by have:=G hq.1; omega)
 have z6:=H.size
 have z8:=m8.size
 have U:J.nl=false->V.size<=J.b:=by
  intro hq
  rcases ad with ⟨Z,q2⟩ | ⟨Z,q2⟩
  ·rw [Z]; exact G (by rw [<-q2]; exact hq)
  ·omega
 simp
 refine stB M8 (by simp) ?_
 intro h9 M9 m9
 have z9:=m9.size
 simp [w1]
 have aa:Zq L i≠[]->I.nl=false/\I.b<h6.size:=fun ab=>by
  obtain ⟨_,hb,_,ae⟩:=o6.blk (i:=0) (by have:=List.length_pos_iff.2 ab; simpa [Zh] using this)
  exact ⟨ae,o6.lt ae⟩
 have ub:Zq L i≠[]->h4.size<=I.b:=fun ab=>ah.resolve_left (by rw [(aa ab).1]; simp)
 have af:∀ k,k<h6.size->(O.nl=false->k≠O.b)->J.nl=false->k≠J.b:=by
  intro k hk h1 hq
  rcases ad with ⟨Z,q2⟩ | ⟨Z,q2⟩
  ·rw [Z]; exact h1 (by rw [<-q2]; exact hq)
  ·omega
 have o9:Yb h9 1 J ((P++[(Zq L i,I)]).map fun p=>p.2.v):=by
  have:=o8.mod m9 (fun hq=>by have:=U hq; omega)
  simpa using this
 have ai:Zo1 V.size h9 J (P++[(Zq L i,I)]):=by
  intro q hq
  rcases List.mem_append.1 hq with g | g
  ·obtain ⟨g1,X⟩:=hT q g
   refine ⟨(((g1.ext H).ext e7).mod m8 (fun D hq=>(X D).2.1 hq.1 hq.2)).mod m9 (fun D=>by have:=(X D).1; omega),fun D=>⟨(X D).1,?_,by have:=(X D).2.2; omega⟩⟩
   exact af _ (by have:=(X D).2.2; omega) (X D).2.1
  ·simp only [Xg3] at g
   subst g
   refine ⟨((o6.row64.ext e7).mod m8 (fun D hq=>by have:=ub D; have:=l1 hq.1; have:=hq.2; omega)).mod m9 (fun D=>by have:=ub D; omega),fun D=>⟨?_,?_,?_⟩⟩
   ·have:=ub D; show V.size<=I.b; omega
   ·exact af I.b (aa D).2 (fun hq=>by have:=ub D; have:=l1 hq; omega)
   ·have:=(aa D).2; show I.b<h9.size; omega
 have aj:(P++[(Zq L i,I)]).map Prod.fst=L.take (i+1):=by
  rw [Xel (by omega),Xe1,hP,Znk (by omega)]; simp
 have hN:J.nl=true\/V.size<=J.b:=by
  cases hq:J.nl with
  | true=>exact .inl rfl
  | false=>exact .inr (U hq)
 have mm:Mod (fun j=>j=M) V h9:=by
  have Z:Mod (fun j=>j=M\/(O.nl=false/\j=O.b)) h4 h9 :=
   (((H.trans e7).mono (fun _ _ h=>h.elim)).trans (m8.mono (fun _ _ h=>.inr h))).trans (m9.mono (fun _ _ h=>.inl h))
  refine Mod.then m4 Z ?_
  intro k hk hq
  rcases hq with hq | hq
  ·exact hq
  ·have:=G hq.1; omega
 refine ⟨⟨i+1,J,P++[(Zq L i,I)],_,rfl,by omega,by simpa using M9,o9,aj,ai,hN,mm⟩,by simp [Zo]; omega⟩
structure Zwm (Y:Sys):Prop where
 Made:Y.Has 172 Y172
 To3:Y.Has 100 Y100
 To2:Y.Has 35 Y35
 GN:Z66 Y
 T:TurnCk Y
theorem Zl9 (M:Zwm Y) {H I J:Sl} {N:Zg} (r:Uo h H I J N) (hf:Ze9 N=true) (O:Yd N) {R:Value->Za->Prop}
  (U:∀ h' p (S:Nat->Prop),Ext h h'->Yv h' p N S->(∀ b,S b->h.size<=b)->R (.pointer (some ⟨p,0,none⟩)) h'):Zm Y 172 [Yo H I J] h R:=by
 refine .of_has M.Made rfl ?_
 obtain ⟨a,b,c,d⟩:=Zco.1 hf
 simp [Y172,Xa.wp,Yo]
 refine Zd ?_
 intro B h1 g1 B1 D
 simp [Zy B1]
 refine Z2s M.To3 M.To2 (r.ext D) (by omega) (by omega) (by omega) (fun i V=>by have:=d i V; omega) ?_
 intro h2 s1 s2 s3 e2 X
 have z1:=D.size
 have z2:=e2.size
 simp
 refine Zy6 M.GN M.T X (fun v h' _ G _=>absurd (by rw [Z4m O]; rfl) G) ?_
 intro Z p S e3 _ g3 hS
 simp
 exact U Z p S ((D.trans e2).trans e3) g3 (fun b hb=>by have:=hS b hb; omega)
end
end Go.Rm
