import Derived.Test.YtmpamfkkaakbfaaGreatDoorT03
import Derived.Test.YtmpamfkkaakbfaaGreatDoorT07
import Derived.Test.YtmpamfkkaakbfaaGreatDoorT02
/- Parts RHeap -/
set_option linter.unusedSimpArgs false
set_option linter.unusedVariables false
namespace Go.Rm
def Zae (l:List Nat):List Value:=l.map fun (k:Nat)=>Value.int .i64 (k:Int)
def Zg8 (l:List Int):List Value:=l.map fun (k:Int)=>Value.int .i64 k
theorem Zmp {l:List Nat} {i:Nat} (h:i<l.length):(Zae l)[i]? = some (.int .i64 (Yz l i:Int)):=by
 simp [Zae,Yz,h]
theorem Zyj {l:List Int} {i:Nat} (h:i<l.length):(Zg8 l)[i]? = some (.int .i64 (Zc l i)):=by
 simp [Zg8,Zc,h]
@[simp] theorem Z9g {l:List Nat}:(Zae l).length=l.length:=by simp [Zae]
@[simp] theorem Z9p {l:List Int}:(Zg8 l).length=l.length:=by simp [Zg8]
def Vc (a:Int):Int:=if a<0 then 0 else if 1152921504606846976<a then 1152921504606846976 else a
theorem Zew {Y:Sys} (H:Y.Has 19 Y19) {a:Int} {h:Za} {R:Value->Za->Prop} (r:R (.int .i64 (Vc a)) h):Zm Y 19 [.int .i64 a] h R:=by
 refine .of_has H rfl ?_
 simp [Y19,Xa.wp]
 unfold Vc at r
 split
 ·rename_i h0; rw [if_pos h0] at r; exact r
 ·rename_i h0; rw [if_neg h0] at r
  split
  ·rename_i h1; rw [if_pos h1] at r; exact r
  ·rename_i h1; rw [if_neg h1] at r; exact r
structure Yy (h:Za) (p:Nat) (row:List Nat) (costs:List Int) (seats:List Nat) (rs cs ss:Sl):Prop where
 blk:Ys h p #[rs.v,cs.v,ss.v]
 row:Yb h 1 rs (Zae row)
 costs:Yb h 1 cs (Zg8 costs)
 seats:Yb h 1 ss (Zae seats)
 cnl:cs.nl=false
 snl:ss.nl=false
 pc:p≠cs.b
 ps:p≠ss.b
 csn:cs.b≠ss.b
 pr:rs.nl=false->p≠rs.b
 rc:rs.nl=false->rs.b≠cs.b
 rss:rs.nl=false->rs.b≠ss.b
section
variable {Y:Sys} {h:Za} {p:Nat} {row:List Nat} {costs:List Int} {seats:List Nat} {rs cs ss:Sl}
theorem Yy.rowN (O:Yy h p row costs seats rs cs ss):rs.n=row.length:=by have:=O.row.1; simp at this; omega
theorem Yy.costsN (O:Yy h p row costs seats rs cs ss):cs.n=costs.length:=by have:=O.costs.1; simp at this; omega
theorem Yy.seatsN (O:Yy h p row costs seats rs cs ss):ss.n=seats.length:=by have:=O.seats.1; simp at this; omega
theorem Yy.rowAt (O:Yy h p row costs seats rs cs ss) {i:Nat} (r:i<row.length):hc h rs.b (rs.o+i)=some (.int .i64 (Yz row i:Int)):=O.row.cell (Zmp r)
theorem Yy.costAt (O:Yy h p row costs seats rs cs ss) {i:Nat} (r:i<costs.length):hc h cs.b (cs.o+i)=some (.int .i64 (Zc costs i)):=O.costs.cell (Zyj r)
theorem Yy.seatAt (O:Yy h p row costs seats rs cs ss) {i:Nat} (r:i<seats.length):hc h ss.b (ss.o+i)=some (.int .i64 (Yz seats i:Int)):=O.seats.cell (Zmp r)
theorem Yy.p0 (O:Yy h p row costs seats rs cs ss):hc h p 0=some rs.v:=by rw [O.blk.hc]; rfl
theorem Yy.p1 (O:Yy h p row costs seats rs cs ss):hc h p 1=some cs.v:=by rw [O.blk.hc]; rfl
theorem Yy.p2 (O:Yy h p row costs seats rs cs ss):hc h p 2=some ss.v:=by rw [O.blk.hc]; rfl
def Zny (n:Nat) (k:Int):Bool:=decide (0<=k) && decide (k<n)
theorem Z2x (H:Y.Has 18 Y18) (O:Yy h p row costs seats rs cs ss) {k:Int} {R:Value->Za->Prop} (r:R (.bool (Zny seats.length k)) h) :
  Zm Y 18 [.pointer (some ⟨p,0,none⟩),.int .i64 k] h R:=by
 refine .of_has H rfl ?_
 by_cases h0:0<=k
 ·simp [Y18,Xa.wp,O.p2,O.seatsN,h0]
  simpa [Zny,h0] using r
 ·simp [Y18,Xa.wp,h0]
  simpa [Zny,h0] using r
def Zpk (row:List Nat) (costs:List Int) (i j:Nat):Bool :=
 if Zc costs (Yz row i)≠Zc costs (Yz row j) then decide (Zc costs (Yz row i)<Zc costs (Yz row j)) else decide (Yz row i<Yz row j)
theorem Zi7 (H:Y.Has 25 Y25) (O:Yy h p row costs seats rs cs ss) (hv:∀ i,i<row.length->Yz row i<costs.length) {i j:Nat} (I:i<row.length) (J:j<row.length)
  {R:Value->Za->Prop} (r:R (.bool (Zpk row costs i j)) h) :
  Zm Y 25 [.pointer (some ⟨p,0,none⟩),.int .i64 i,.int .i64 j] h R:=by
 refine .of_has H rfl ?_
 have D:=hv i I
 have G:=hv j J
 have M:=O.rowN
 have e2:=O.costsN
 simp [Y25,Xa.wp,O.p0,O.p1,Zb O.row.ok,Zb O.costs.ok,O.rowAt,O.costAt,M,e2,I,J,D,G]
 unfold Zpk at r
 split
 ·rename_i hc; rw [if_neg (fun h=>h hc)] at r; exact r
 ·rename_i hc; rw [if_pos hc] at r; exact r
theorem Yy.rnl (O:Yy h p row costs seats rs cs ss) {i:Nat} (r:i<row.length):rs.nl=false:=by
 obtain ⟨_,_,_,h⟩:=O.row.blk (i:=i) (by simpa using r); exact h
theorem Zmw {l:List Nat} {i k:Nat}:(Zae l).set i (.int .i64 (k:Int))=Zae (l.set i k):=by simp [Zae,Xfb]
theorem Zxw {l:List Int} {i:Nat} {k:Int}:(Zg8 l).set i (.int .i64 k)=Zg8 (l.set i k):=by simp [Zg8,Xfb]
theorem Yy.setRow (O:Yy h p row costs seats rs cs ss) {i:Nat} (D:i<row.length) (k:Nat) :
  Yy (Wm h rs.b (rs.o+i) (.int .i64 (k:Int))) p (row.set i k) costs seats rs cs ss:=by
 have r:=O.rnl D
 refine ⟨O.blk.set_ne (O.pr r),?_,?_,?_,O.cnl,O.snl,O.pc,O.ps,O.csn,O.pr,O.rc,O.rss⟩
 ·have:=O.row.set (i:=i) (v:=.int .i64 (k:Int)) (by simpa using D)
  rwa [Zmw] at this
 ·exact O.costs.mod (S:=fun b=>b=rs.b) (Mod.set rfl) (fun _ h=>O.rc r h.symm)
 ·exact O.seats.mod (S:=fun b=>b=rs.b) (Mod.set rfl) (fun _ h=>O.rss r h.symm)
theorem Yy.setSeat (O:Yy h p row costs seats rs cs ss) {i:Nat} (r:i<seats.length) (k:Nat) :
  Yy (Wm h ss.b (ss.o+i) (.int .i64 (k:Int))) p row costs (seats.set i k) rs cs ss:=by
 refine ⟨O.blk.set_ne O.ps,?_,?_,?_,O.cnl,O.snl,O.pc,O.ps,O.csn,O.pr,O.rc,O.rss⟩
 ·exact O.row.mod (S:=fun b=>b=ss.b) (Mod.set rfl) (fun D h=>O.rss D h)
 ·exact O.costs.mod (S:=fun b=>b=ss.b) (Mod.set rfl) (fun _ h=>O.csn h)
 ·have:=O.seats.set (i:=i) (v:=.int .i64 (k:Int)) (by simpa using r)
  rwa [Zmw] at this
theorem Yy.setCost (O:Yy h p row costs seats rs cs ss) {i:Nat} (r:i<costs.length) (k:Int) :
  Yy (Wm h cs.b (cs.o+i) (.int .i64 k)) p row (costs.set i k) seats rs cs ss:=by
 refine ⟨O.blk.set_ne O.pc,?_,?_,?_,O.cnl,O.snl,O.pc,O.ps,O.csn,O.pr,O.rc,O.rss⟩
 ·exact O.row.mod (S:=fun b=>b=cs.b) (Mod.set rfl) (fun D h=>O.rc D h)
 ·have:=O.costs.set (i:=i) (v:=.int .i64 k) (by simpa using r)
  rwa [Zxw] at this
 ·exact O.seats.mod (S:=fun b=>b=cs.b) (Mod.set rfl) (fun _ h=>O.csn h.symm)
theorem Yy.rowF (O:Yy h p row costs seats rs cs ss) {i:Nat} (r:i<row.length):hfz h rs.b (rs.o+i)=false:=by
 obtain ⟨D,hb,_,_⟩:=O.row.blk (i:=i) (by simpa using r); exact hb.hfz
theorem Yy.seatF (O:Yy h p row costs seats rs cs ss) {i:Nat} (r:i<seats.length):hfz h ss.b (ss.o+i)=false:=by
 obtain ⟨D,hb,_,_⟩:=O.seats.blk (i:=i) (by simpa using r); exact hb.hfz
theorem Yy.costF (O:Yy h p row costs seats rs cs ss) {i:Nat} (r:i<costs.length):hfz h cs.b (cs.o+i)=false:=by
 obtain ⟨D,hb,_,_⟩:=O.costs.blk (i:=i) (by simpa using r); exact hb.hfz
theorem Zjf {l:List Nat} {i j k n:Nat} (r:k<n) (h:∀ i,i<l.length->Yz l i<n) (D:j<l.length):Yz (l.set i k) j<n:=by
 have:=h j D
 simp only [Yz,Xee,Xfs] at *
 split
 ·split
  ·exact r
  ·rename_i h1; exact absurd (by omega) h1
 ·exact this
theorem Zhj (H:Y.Has 21 Y21) (O:Yy h p row costs seats rs cs ss) (hv:∀ i,i<row.length->Yz row i<seats.length) {i j:Nat} (r:i<row.length) (D:j<row.length) (V:row.length<=1000000000)
  {R:Value->Za->Prop} (X:∀ h',Yy h' p (Xp row i j) costs (Ve row seats i j) rs cs ss->Mod (fun b=>b=rs.b\/b=ss.b) h h'->R (.tuple #[]) h') :
  Zm Y 21 [.pointer (some ⟨p,0,none⟩),.int .i64 i,.int .i64 j] h R:=by
 refine .of_has H rfl ?_
 have O1:=O.setRow r (Yz row j)
 have O2:Yy _ p (Xp row i j) costs seats rs cs ss:=O1.setRow (i:=j) (by simpa using D) (Yz row i)
 have M:∀ k,k<(row.set i (Yz row j)).length->Yz (row.set i (Yz row j)) k<seats.length:=fun k U=>Zjf (hv j D) hv (by simpa using U)
 have G:∀ k,k<(Xp row i j).length->Yz (Xp row i j) k<seats.length:=fun k U=>Zjf (hv i r) M (by simpa [Xp] using U)
 have I:=G i (by simpa using r)
 have J:=G j (by simpa using D)
 have O3:=O2.setSeat I (i+1)
 have O4:Yy _ p (Xp row i j) costs (Ve row seats i j) rs cs ss:=O3.setSeat (i:=Yz (Xp row i j) j) (by simpa using J) (j+1)
 have Z:i<(Xp row i j).length:=by simpa using r
 have aa:j<(Xp row i j).length:=by simpa using D
 have e1:=O.rowN
 have e2:=O.seatsN
 have w1:IntKind.i64.wrap ((i:Int)+1)=(i:Int)+1:=Ze (by omega)
 have w2:IntKind.i64.wrap ((j:Int)+1)=(j:Int)+1:=Ze (by omega)
 simp only [Int.natCast_add,Int.natCast_one] at O3 O4
 have hm:Mod (fun b=>b=rs.b\/b=ss.b) h _ :=
  (((Mod.set (S:=fun b=>b=rs.b\/b=ss.b) (b:=rs.b) (o:=rs.o+i) (v:=.int .i64 (Yz row j:Int)) (.inl rfl)).trans (Mod.set (b:=rs.b) (o:=rs.o+j) (v:=.int .i64 (Yz row i:Int)) (.inl rfl))).trans
   (Mod.set (b:=ss.b) (o:=ss.o+Yz (Xp row i j) i) (v:=.int .i64 ((i:Int)+1)) (.inr rfl))).trans (Mod.set (b:=ss.b) (o:=ss.o+Yz (Xp row i j) j) (v:=.int .i64 ((j:Int)+1)) (.inr rfl))
 have hR:=X _ O4 hm
 simp [Y21,Xa.wp,O.p0,O.p2,O1.p0,O1.p2,O2.p0,O2.p2,O3.p0,O3.p2,Zb O.row.ok,Zb O.seats.ok,O.rowAt,O1.rowAt,O2.rowAt,O3.rowAt,e1,e2,r,D,I,J,
  Xg.open,O.rowF,O1.rowF,O2.seatF,O3.seatF,O2.seatAt,O3.seatAt,w1,w2,hR]
theorem Zj7 {i j:Nat}:Zpk row costs i j=decide (klt costs (Yz row i) (Yz row j)):=by
 rw [Xf5,decide_eq_true_iff]
 unfold Zpk klt
 split
 ·rw [decide_eq_true_iff]; omega
 ·rw [decide_eq_true_iff]; omega
def UpI (p:Nat) (rs cs ss:Sl) (row:List Nat) (costs:List Int) (seats:List Nat) (h:Za) (e:List Value) (h':Za):Prop :=
 ∃ (i:Nat) (row' seats':List Nat) (v:Value),e=[.pointer (some ⟨p,0,none⟩),.int .i64 i,v]/\Yy h' p row' costs seats' rs cs ss/\Uy row' seats'.length seats' /\
   seats'.length=seats.length/\Zoz row' costs i/\i<row'.length/\row'.length=row.length/\(∀ k,Yz seats' k=0↔Yz seats k=0)/\Mod (fun b=>b=rs.b\/b=ss.b) h h'
theorem Zvr (H:Y.Has 20 Y20) (Ha:Y.Has 25 Y25) (Hs:Y.Has 21 Y21)
  (O:Yy h p row costs seats rs cs ss) (V:Uy row seats.length seats) (ac:costs.length=seats.length) {i:Nat} (U:Zoz row costs i) (I:i<row.length) (ab:row.length<=1000000000)
  {R:Value->Za->Prop} (hr:∀ h' D r,Yy h' p D costs r rs cs ss->Uy D r.length r->r.length=seats.length->Ord D costs->D.length=row.length ->
   (∀ k,Yz r k=0↔Yz seats k=0)->Mod (fun b=>b=rs.b\/b=ss.b) h h'->R (.tuple #[]) h') :
  Zm Y 20 [.pointer (some ⟨p,0,none⟩),.int .i64 i] h R:=by
 refine .of_has H rfl ?_
 simp [Y20,Xa.wp]
 refine Zj (UpI p rs cs ss row costs seats h) (fun e _=>Zo e 1)
  ⟨i,row,seats,undef,rfl,O,V,rfl,U,I,rfl,fun _=>Iff.rfl,Mod.refl h⟩ ?_
 rintro e h' ⟨i,D,r,v,rfl,O,V,J,U,I,M,X,hm⟩
 have G:0<i->Yn i<D.length:=fun h0=>by have:=Wa h0; omega
 have w1:IntKind.i64.wrap ((i:Int)-1)=(i:Int)-1:=Ze (by omega)
 have Z:0<i->((i:Int)-1).tdiv 2=(Yn i:Int):=by
  intro h0
  rw [Int.tdiv_eq_ediv_of_nonneg (by omega)]
  unfold Yn; omega
 have w3:IntKind.i64.wrap (Yn i:Int)=(Yn i:Int):=Ze (by unfold Yn; omega)
 by_cases h0:0<i
 ·have Z:=Z h0
  simp [h0,w1,Z,w3,Zuz]
  refine Zi7 Ha O (fun k hk=>by have:=V.rv k hk; omega) I (G h0) ?_
  rw [Zj7]
  by_cases hk:klt costs (Yz D i) (Yz D (Yn i))
  ·simp [hk,w1,Z,w3,Zuz]
   refine Zhj Hs O V.rv I (G h0) (by omega) ?_
   intro h2 O2 aa
   simp [w1,Z,w3,Zuz]
   refine ⟨⟨Yn i,_,_,.bool true,by simp [w1,Z,w3],O2,?_,?_,U.step h0 I hk,?_,?_,?_,hm.trans aa⟩,?_⟩
   ·have:=V.swap I (G h0); simpa using this
   ·simpa using J
   ·simpa using G h0
   ·simpa using M
   ·intro k; rw [Zou V I (G h0)]; exact X k
   ·simp [Zo]; exact Wa h0
  ·rw [decide_eq_false hk]
   exact hr h' D r O V J (U.fin fun _=>hk) M X hm
 ·simp [h0]
  exact hr h' D r O V J (U.fin fun h=>absurd h h0) M X hm
def Z6n (p:Nat) (rs cs ss:Sl) (row:List Nat) (costs:List Int) (seats:List Nat) (h:Za) (e:List Value) (h':Za):Prop :=
 ∃ (i:Nat) (row' seats':List Nat) (v2 v3 v4 v5 v6:Value),e=[.pointer (some ⟨p,0,none⟩),.int .i64 i,v2,v3,v4,v5,v6]/\Yy h' p row' costs seats' rs cs ss/\Uy row' seats'.length seats' /\
   seats'.length=seats.length/\Zrx row' costs i/\(i<row'.length\/(row'.length=0/\i=0))/\row'.length=row.length/\(∀ k,Yz seats' k=0↔Yz seats k=0)/\Mod (fun b=>b=rs.b\/b=ss.b) h h'
structure U3 (row:List Nat) (costs:List Int) (i j l:Nat):Prop where
 lo:2 * i+1<=j
 hi:j<=2 * i+3
 pl:l=i\/(Yn l=i/\0<l/\l<row.length/\klt costs (Yz row l) (Yz row i))
 m:∀ c,0<c->c<row.length->c<j->Yn c=i->¬ klt costs (Yz row c) (Yz row l)
 mi:¬ klt costs (Yz row i) (Yz row l)
theorem U3.start {i:Nat}:U3 row costs i (2 * i+1) i :=
 ⟨Xd6 _,by omega,.inl rfl,fun c h0 _ r hp=>by unfold Yn at hp; omega,Q3⟩
theorem U3.step {i j l:Nat} (L:U3 row costs i j l) (R:j<=2 * i+2) (O:j<row.length) :
  U3 row costs i (j+1) (if klt costs (Yz row j) (Yz row l) then j else l):=by
 have J:Yn j=i:=by have:=L.lo; unfold Yn; omega
 have h0:0<j:=by have:=L.lo; omega
 by_cases I:klt costs (Yz row j) (Yz row l)
 ·rw [if_pos I]
  have H:klt costs (Yz row j) (Yz row i):=by
   have:=L.mi
   unfold klt at *; omega
  refine ⟨by have:=L.lo; omega,by omega,.inr ⟨J,h0,O,H⟩,?_,fun h=>Q3 (Zhg h H)⟩
  intro c D hc M G
  by_cases r:c=j
  ·subst r; exact Q3
  ·exact Zww I (L.m c D hc (by omega) G)
 ·rw [if_neg I]
  refine ⟨by have:=L.lo; omega,by omega,L.pl,?_,L.mi⟩
  intro c D hc M G
  by_cases r:c=j
  ·subst r; exact I
  ·exact L.m c D hc (by omega) G
def Xaa (p:Nat) (row:List Nat) (costs:List Int) (i:Nat) (v6:Value) (h0:Za) (e:List Value) (h':Za):Prop :=
 ∃ (j l:Nat) (v4 v5:Value),e=[.pointer (some ⟨p,0,none⟩),.int .i64 i,.int .i64 l,.int .i64 j,v4,v5,v6]/\U3 row costs i j l/\h'=h0
theorem Zy2 (H:Y.Has 22 Y22) (Ha:Y.Has 25 Y25) (Hs:Y.Has 21 Y21)
  (O:Yy h p row costs seats rs cs ss) (V:Uy row seats.length seats) (al:costs.length=seats.length) (U:Zrx row costs 0) (aj:row.length<=1000000000)
  {R:Value->Za->Prop} (hr:∀ h' r D,Yy h' p r costs D rs cs ss->Uy r D.length D->D.length=seats.length->Ord r costs->r.length=row.length ->
   (∀ k,Yz D k=0↔Yz seats k=0)->Mod (fun b=>b=rs.b\/b=ss.b) h h'->R (.tuple #[]) h') :
  Zm Y 22 [.pointer (some ⟨p,0,none⟩),.int .i64 0] h R:=by
 refine .of_has H rfl ?_
 simp [Y22,Xa.wp]
 refine Zj (Z6n p rs cs ss row costs seats h) (fun e _=>row.length-Zo e 1)
  ⟨0,row,seats,_,_,_,_,_,rfl,O,V,rfl,U,by omega,rfl,fun _=>Iff.rfl,Mod.refl h⟩ ?_
 rintro e h' ⟨i,r,D,v2,v3,v4,v5,v6,rfl,O,V,aa,U,hi,ab,ac,hm⟩
 have w1:IntKind.i64.wrap (2 * (i:Int))=2 * (i:Int):=Ze (by omega)
 have w2:IntKind.i64.wrap (2 * (i:Int)+1)=2 * (i:Int)+1:=Ze (by omega)
 have w3:IntKind.i64.wrap (2 * (i:Int)+2)=2 * (i:Int)+2:=Ze (by omega)
 simp [w1,w2]
 refine Zj (Xaa p r costs i v6 h') (fun e _=>2 * i+3-Zo e 3) ⟨2 * i+1,i,v4,v5,by simp,U3.start,rfl⟩ ?_
 rintro e ad ⟨j,l,v4,v5,rfl,L,rfl⟩
 have am:=L.lo
 have an:=L.hi
 have w4:IntKind.i64.wrap ((j:Int)+1)=(j:Int)+1:=Ze (by omega)
 have af:(¬ j<=2 * i+2\/¬ j<r.length) ->
   (∀ j',0<j'->j'<r.length->Yn j'=i->¬ klt costs (Yz r j') (Yz r l)):=by
  intro ak c ag hc hp
  refine L.m c ag hc ?_ hp
  have:c<=2 * i+2:=by unfold Yn at hp; omega
  omega
 by_cases c:j<=2 * i+2/\j<r.length
 ·obtain ⟨c1,c2⟩:=c
  have M:(j:Int)<=2 * (i:Int)+2:=by omega
  have I:l<r.length:=by rcases L.pl with h | h <;> omega
  simp [w1,w3,M,O.p0,O.rowN,c2]
  refine Zi7 Ha O (fun k Z=>by have:=V.rv k Z; omega) c2 I ?_
  rw [Zj7]
  have L':=L.step c1 c2
  by_cases Z:klt costs (Yz r j) (Yz r l)
  ·rw [if_pos Z] at L'
   simp [Z,w4]
   exact ⟨⟨j+1,j,.bool true,.bool true,by simp,L',rfl⟩,by simp [Zo]; omega⟩
  ·rw [if_neg Z] at L'
   simp [Z,w4]
   exact ⟨⟨j+1,l,.bool true,.bool false,by simp,L',rfl⟩,by simp [Zo]; omega⟩
 ·have X:=af (by omega)
  have G:(if l=i then R (.tuple #[]) ad else Zm Y 21 [.pointer (some ⟨p,0,none⟩),.int .i64 i,.int .i64 l] ad fun _ h' =>
    ∀ v4 v5 v6:Value,Z6n p rs cs ss row costs seats h [.pointer (some ⟨p,0,none⟩),.int .i64 l,.int .i64 l,.int .i64 j,v4,v5,v6] h'/\row.length-l<row.length-i):=by
   split
   ·rename_i J
    subst J
    exact hr _ r D O V aa (U.fin X) ab ac hm
   ·rename_i J
    obtain ⟨hp,ae,I,ah⟩:=L.pl.resolve_left J
    have ao:i<l:=by have:=Wa ae; omega
    refine Zhj Hs O V.rv (by omega) I (by omega) ?_
    intro h2 O2 ai v4 v5 v6
    refine ⟨⟨l,_,_,_,_,_,_,_,rfl,O2,?_,?_,U.step ae I hp ah X,.inl ?_,?_,?_,hm.trans ai⟩,by omega⟩
    ·have:=V.swap (i:=i) (j:=l) (by omega) I; simpa using this
    ·simpa using aa
    ·simpa using I
    ·simpa using ab
    ·intro k; rw [Zou V (by omega) I]; exact ac k
  have J:(((l:Nat):Int)=(i:Int))↔l=i:=by omega
  rcases (show ¬ j<=2 * i+2\/(j<=2 * i+2/\¬ j<r.length) by omega) with c1 | ⟨c1,c2⟩
  ·have M:¬ (j:Int)<=2 * (i:Int)+2:=by omega
   simp [w1,w3,M,J]
   by_cases hl:l=i
   ·rw [if_pos hl] at G ⊢; exact G
   ·rw [if_neg hl] at G ⊢
    exact Zm.mono G fun _ h' hh=>⟨(hh _ _ _).1,by simpa [Zo] using (hh undef undef undef).2⟩
  ·have M:(j:Int)<=2 * (i:Int)+2:=by omega
   simp [w1,w3,M,O.p0,O.rowN,c2,J]
   by_cases hl:l=i
   ·rw [if_pos hl] at G ⊢; exact G
   ·rw [if_neg hl] at G ⊢
    exact Zm.mono G fun _ h' hh=>⟨(hh _ _ _).1,by simpa [Zo] using (hh undef undef undef).2⟩
end
end Go.Rm
