import Derived.Test.YtpikofomaekpoaaGreatDoorT07
import Derived.Test.YtpikofomaekpoaaGreatDoorT02
/- Parts. -/
set_option linter.unusedSimpArgs false
set_option linter.unusedVariables false
namespace Go.Rm
def Za4 (l:Zd):Zc:=l.map fun (k:Nat)=>Value.int .i64 (k:Int)
def Zib (l:Zb):Zc:=l.map fun (k:Int)=>Value.int .i64 k
theorem Zn4 {l:Zd} {i:Nat} (h:i<l.length):(Za4 l)[i]? = some (.int .i64 (Xo l i:Int)):=by
 simp [Za4,Xo,h]
theorem Z0c {l:Zb} {i:Nat} (h:i<l.length):(Zib l)[i]? = some (.int .i64 (Zl l i)):=by
 simp [Zib,Zl,h]
@[simp] theorem Xbd {l:Zd}:(Za4 l).length=l.length:=by simp [Za4]
@[simp] theorem Xbm {l:Zb}:(Zib l).length=l.length:=by simp [Zib]
def Ww (a:Int):Int:=if a<0 then 0 else if 1152921504606846976<a then 1152921504606846976 else a
theorem Zfo {Y:Sys} (H:Y.Has 19 Y19) {a:Int} {h:Zk} {R:Ze} (r:R (.int .i64 (Ww a)) h):Zv Y 19 [.int .i64 a] h R:=by
 refine .of_has H rfl ?_;simp [Y19,Xm.wp];unfold Ww at r
 split
 ·rename_i h0;rw [if_pos h0] at r;exact r
 rename_i h0;rw [if_neg h0] at r
 split
 ·rename_i h1;rw [if_pos h1] at r;exact r
 rename_i h1;rw [if_neg h1] at r;exact r
structure Xn (h:Zk) (p:Nat) (row:Zd) (costs:Zb) (seats:Zd) (rs cs ss:Sl):Prop where
 blk:Xb h p #[rs.v,cs.v,ss.v]
 row:Ym h 1 rs (Za4 row)
 costs:Ym h 1 cs (Zib costs)
 seats:Ym h 1 ss (Za4 seats)
 cnl:cs.nl=false
 snl:ss.nl=false
 pc:p≠cs.b
 ps:p≠ss.b
 csn:cs.b≠ss.b
 pr:rs.nl=false->p≠rs.b
 rc:rs.nl=false->rs.b≠cs.b
 rss:rs.nl=false->rs.b≠ss.b
section
variable {Y:Sys} {h:Zk} {p:Nat} {row:Zd} {costs:Zb} {seats:Zd} {rs cs ss:Sl}
theorem Xn.rowN (O:Xn h p row costs seats rs cs ss):rs.n=row.length:=by have:=O.row.1;simp at this;omega
theorem Xn.costsN (O:Xn h p row costs seats rs cs ss):cs.n=costs.length:=by have:=O.costs.1;simp at this;omega
theorem Xn.seatsN (O:Xn h p row costs seats rs cs ss):ss.n=seats.length:=by have:=O.seats.1;simp at this;omega
theorem Xn.rowAt (O:Xn h p row costs seats rs cs ss) {i:Nat} (r:i<row.length):hc h rs.b (rs.o+i)=some (.int .i64 (Xo row i:Int)):=O.row.cell (Zn4 r)
theorem Xn.costAt (O:Xn h p row costs seats rs cs ss) {i:Nat} (r:i<costs.length):hc h cs.b (cs.o+i)=some (.int .i64 (Zl costs i)):=O.costs.cell (Z0c r)
theorem Xn.seatAt (O:Xn h p row costs seats rs cs ss) {i:Nat} (r:i<seats.length):hc h ss.b (ss.o+i)=some (.int .i64 (Xo seats i:Int)):=O.seats.cell (Zn4 r)
theorem Xn.p0 (O:Xn h p row costs seats rs cs ss):hc h p 0=some rs.v:=by rw [O.blk.hc];rfl
theorem Xn.p1 (O:Xn h p row costs seats rs cs ss):hc h p 1=some cs.v:=by rw [O.blk.hc];rfl
theorem Xn.p2 (O:Xn h p row costs seats rs cs ss):hc h p 2=some ss.v:=by rw [O.blk.hc];rfl
def Zpl (n:Nat) (k:Int):Bool:=decide (0<=k) && decide (k<n)
theorem Z4o (H:Y.Has 18 Y18) (O:Xn h p row costs seats rs cs ss) {k:Int} {R:Ze} (r:R (.bool (Zpl seats.length k)) h) :
  Zv Y 18 [.pointer (some ⟨p,0,none⟩),.int .i64 k] h R:=by
 refine .of_has H rfl ?_;by_cases h0:0<=k
 ·simp [Y18,Xm.wp,O.p2,O.seatsN,h0];simpa [Zpl,h0] using r
 simp [Y18,Xm.wp,h0];simpa [Zpl,h0] using r
def Zq5 (row:Zd) (costs:Zb) (i j:Nat):Bool :=
 if Zl costs (Xo row i)≠Zl costs (Xo row j) then decide (Zl costs (Xo row i)<Zl costs (Xo row j)) else decide (Xo row i<Xo row j)
theorem Zkf (H:Y.Has 25 Y25) (O:Xn h p row costs seats rs cs ss) (hv:∀ i,i<row.length->Xo row i<costs.length) {i j:Nat} (I:i<row.length) (J:j<row.length)
  {R:Ze} (r:R (.bool (Zq5 row costs i j)) h) :
  Zv Y 25 [.pointer (some ⟨p,0,none⟩),.int .i64 i,.int .i64 j] h R:=by
 refine .of_has H rfl ?_;have D:=hv i I;have G:=hv j J;have M:=O.rowN;have e2:=O.costsN;simp [Y25,Xm.wp,O.p0,O.p1,Zm O.row.ok,Zm O.costs.ok,O.rowAt,O.costAt,M,e2,I,J,D,G];unfold Zq5 at r
 split
 ·rename_i hc;rw [if_neg (fun h=>h hc)] at r;exact r
 rename_i hc;rw [if_pos hc] at r;exact r
theorem Xn.rnl (O:Xn h p row costs seats rs cs ss) {i:Nat} (r:i<row.length):rs.nl=false:=by
 obtain ⟨_,_,_,h⟩:=O.row.blk (i:=i) (by simpa using r);exact h
theorem Zoc {l:Zd} {i k:Nat}:(Za4 l).set i (.int .i64 (k:Int))=Za4 (l.set i k):=by simp [Za4,Xg2]
theorem Zzq {l:Zb} {i:Nat} {k:Int}:(Zib l).set i (.int .i64 k)=Zib (l.set i k):=by simp [Zib,Xg2]
theorem Xn.setRow (O:Xn h p row costs seats rs cs ss) {i:Nat} (D:i<row.length) (k:Nat) :
  Xn (Vd h rs.b (rs.o+i) (.int .i64 (k:Int))) p (row.set i k) costs seats rs cs ss:=by
 have r:=O.rnl D;refine ⟨O.blk.set_ne (O.pr r),?_,?_,?_,O.cnl,O.snl,O.pc,O.ps,O.csn,O.pr,O.rc,O.rss⟩
 ·have:=O.row.set (i:=i) (v:=.int .i64 (k:Int)) (by simpa using D);rwa [Zoc] at this
 ·exact O.costs.mod (S:=fun b=>b=rs.b) (Mod.set rfl) (fun _ h=>O.rc r h.symm)
 exact O.seats.mod (S:=fun b=>b=rs.b) (Mod.set rfl) (fun _ h=>O.rss r h.symm)
theorem Xn.setSeat (O:Xn h p row costs seats rs cs ss) {i:Nat} (r:i<seats.length) (k:Nat) :
  Xn (Vd h ss.b (ss.o+i) (.int .i64 (k:Int))) p row costs (seats.set i k) rs cs ss:=by
 refine ⟨O.blk.set_ne O.ps,?_,?_,?_,O.cnl,O.snl,O.pc,O.ps,O.csn,O.pr,O.rc,O.rss⟩
 ·exact O.row.mod (S:=fun b=>b=ss.b) (Mod.set rfl) (fun D h=>O.rss D h)
 ·exact O.costs.mod (S:=fun b=>b=ss.b) (Mod.set rfl) (fun _ h=>O.csn h)
 have:=O.seats.set (i:=i) (v:=.int .i64 (k:Int)) (by simpa using r);rwa [Zoc] at this
theorem Xn.setCost (O:Xn h p row costs seats rs cs ss) {i:Nat} (r:i<costs.length) (k:Int) :
  Xn (Vd h cs.b (cs.o+i) (.int .i64 k)) p row (costs.set i k) seats rs cs ss:=by
 refine ⟨O.blk.set_ne O.pc,?_,?_,?_,O.cnl,O.snl,O.pc,O.ps,O.csn,O.pr,O.rc,O.rss⟩
 ·exact O.row.mod (S:=fun b=>b=cs.b) (Mod.set rfl) (fun D h=>O.rc D h)
 ·have:=O.costs.set (i:=i) (v:=.int .i64 k) (by simpa using r);rwa [Zzq] at this
 exact O.seats.mod (S:=fun b=>b=cs.b) (Mod.set rfl) (fun _ h=>O.csn h.symm)
theorem Xn.rowF (O:Xn h p row costs seats rs cs ss) {i:Nat} (r:i<row.length):hfz h rs.b (rs.o+i)=false:=by
 obtain ⟨D,hb,_,_⟩:=O.row.blk (i:=i) (by simpa using r);exact hb.hfz
theorem Xn.seatF (O:Xn h p row costs seats rs cs ss) {i:Nat} (r:i<seats.length):hfz h ss.b (ss.o+i)=false:=by
 obtain ⟨D,hb,_,_⟩:=O.seats.blk (i:=i) (by simpa using r);exact hb.hfz
theorem Xn.costF (O:Xn h p row costs seats rs cs ss) {i:Nat} (r:i<costs.length):hfz h cs.b (cs.o+i)=false:=by
 obtain ⟨D,hb,_,_⟩:=O.costs.blk (i:=i) (by simpa using r);exact hb.hfz
theorem Zkp {l:Zd} {i j k n:Nat} (r:k<n) (h:∀ i,i<l.length->Xo l i<n) (D:j<l.length):Xo (l.set i k) j<n:=by
 have:=h j D;simp only [Xo,Xf5,Xhp] at *
 split
 ·split
  ·exact r
  rename_i h1;exact absurd (by omega) h1
 exact this
theorem Zio (H:Y.Has 21 Y21) (O:Xn h p row costs seats rs cs ss) (hv:∀ i,i<row.length->Xo row i<seats.length) {i j:Nat} (I:i<row.length) (J:j<row.length) (V:row.length<=1000000000)
  {R:Ze} (X:∀ h',Xn h' p (We row i j) costs (Vx row seats i j) rs cs ss->Mod (fun b=>b=rs.b\/b=ss.b) h h'->R (.tuple #[]) h') :
  Zv Y 21 [.pointer (some ⟨p,0,none⟩),.int .i64 i,.int .i64 j] h R:=by
 refine .of_has H rfl ?_;have O1:=O.setRow I (Xo row j);have O2:Xn _ p (We row i j) costs seats rs cs ss:=O1.setRow (i:=j) (by simpa using J) (Xo row i);have M:∀ k,k<(row.set i (Xo row j)).length->Xo (row.set i (Xo row j)) k<seats.length:=fun k U=>Zkp (hv j J) hv (by simpa using U);have r:∀ k,k<(We row i j).length->Xo (We row i j) k<seats.length:=fun k U=>Zkp (hv i I) M (by simpa [We] using U);have D:=r i (by simpa using I);have G:=r j (by simpa using J);have O3:=O2.setSeat D (i+1);have O4:Xn _ p (We row i j) costs (Vx row seats i j) rs cs ss:=O3.setSeat (i:=Xo (We row i j) j) (by simpa using G) (j+1)
 have Z:=O.rowN;have e2:=O.seatsN;have w1:=Zj (i:=i) (by omega);have w2:=Zj (i:=j) (by omega);simp only [Int.natCast_add,Int.natCast_one] at O3 O4;have hm:Mod (fun b=>b=rs.b\/b=ss.b) h _ :=
  (((Mod.set (S:=fun b=>b=rs.b\/b=ss.b) (b:=rs.b) (o:=rs.o+i) (v:=.int .i64 (Xo row j:Int)) (.inl rfl)).trans (Mod.set (b:=rs.b) (o:=rs.o+j) (v:=.int .i64 (Xo row i:Int)) (.inl rfl))).trans
   (Mod.set (b:=ss.b) (o:=ss.o+Xo (We row i j) i) (v:=.int .i64 ((i:Int)+1)) (.inr rfl))).trans (Mod.set (b:=ss.b) (o:=ss.o+Xo (We row i j) j) (v:=.int .i64 ((j:Int)+1)) (.inr rfl))
 have hR:=X _ O4 hm;simp [Y21,Xm.wp,O.p0,O2.p0,O2.p2,O3.p0,O3.p2,Zm O.row.ok,Zm O.seats.ok,O.rowAt,O1.rowAt,O2.rowAt,O3.rowAt,Z,e2,I,J,D,G,
  Xt.open,O.rowF,O1.rowF,O2.seatF,O3.seatF,O2.seatAt,O3.seatAt,w1,w2,hR]
theorem Zlk {i j:Nat}:Zq5 row costs i j=decide (klt costs (Xo row i) (Xo row j)):=by
 rw [Xhz,decide_eq_true_iff];unfold Zq5 klt
 split
 ·rw [decide_eq_true_iff];omega
 rw [decide_eq_true_iff];omega
def UpI (p:Nat) (rs cs ss:Sl) (row:Zd) (costs:Zb) (seats:Zd) (h:Zk) (e:Zc) (h':Zk):Prop :=
 ∃ (i:Nat) (row' seats':Zd) (v:Value),e=[.pointer (some ⟨p,0,none⟩),.int .i64 i,v]/\Xn h' p row' costs seats' rs cs ss/\Qp row' seats'.length seats' /\
   seats'.length=seats.length/\Zqm row' costs i/\i<row'.length/\row'.length=row.length/\(∀ k,Xo seats' k=0↔Xo seats k=0)/\Mod (fun b=>b=rs.b\/b=ss.b) h h'
theorem Zxj (H:Y.Has 20 Y20) (Ha:Y.Has 25 Y25) (Hs:Y.Has 21 Y21)
  (O:Xn h p row costs seats rs cs ss) (V:Qp row seats.length seats) (ac:costs.length=seats.length) {i:Nat} (U:Zqm row costs i) (I:i<row.length) (ab:row.length<=1000000000)
  {R:Ze} (hr:∀ h' D r,Xn h' p D costs r rs cs ss->Qp D r.length r->r.length=seats.length->Ord D costs->D.length=row.length ->
   (∀ k,Xo r k=0↔Xo seats k=0)->Mod (fun b=>b=rs.b\/b=ss.b) h h'->R (.tuple #[]) h') :
  Zv Y 20 [.pointer (some ⟨p,0,none⟩),.int .i64 i] h R:=by
 refine .of_has H rfl ?_;simp [Y20,Xm.wp];refine Zt (UpI p rs cs ss row costs seats h) (fun e _=>Zy e 1)
  ⟨i,row,seats,undef,rfl,O,V,rfl,U,I,rfl,fun _=>Iff.rfl,Mod.refl h⟩ ?_
 rintro e h' ⟨i,D,r,v,rfl,O,V,J,U,I,M,X,hm⟩;have G:0<i->Xa i<D.length:=fun h0=>by have:=Wv h0;omega
 have w1:IntKind.i64.wrap ((i:Int)-1)=(i:Int)-1:=Zo (by omega);have w2:0<i->((i:Int)-1).tdiv 2=(Xa i:Int):=by
  intro h0;rw [Int.tdiv_eq_ediv_of_nonneg (by omega)];unfold Xa;omega
 have w3:IntKind.i64.wrap (Xa i:Int)=(Xa i:Int):=Zo (by unfold Xa;omega);by_cases h0:0<i
 ·have w2:=w2 h0;simp [h0,w1,w2,w3,Zwq];refine Zkf Ha O (fun k Z=>by have:=V.rv k Z;omega) I (G h0) ?_;rw [Zlk];by_cases Z:klt costs (Xo D i) (Xo D (Xa i))
  ·simp [Z,w1,w2,w3,Zwq];refine Zio Hs O V.rv I (G h0) (by omega) ?_;intro h2 O2 aa;simp [w1,w2,w3,Zwq];refine ⟨⟨Xa i,_,_,.bool true,by simp,O2,?_,?_,U.step h0 I Z,?_,?_,?_,hm.trans aa⟩,?_⟩
   ·have:=V.swap I (G h0);simpa using this
   ·simpa using J
   ·simpa using G h0
   ·simpa using M
   ·intro k;rw [Zqg V I (G h0)];exact X k
   simp [Zy];exact Wv h0
  rw [decide_eq_false Z];exact hr h' D r O V J (U.fin fun _=>Z) M X hm
 simp [h0];exact hr h' D r O V J (U.fin fun h=>absurd h h0) M X hm
def Z8i (p:Nat) (rs cs ss:Sl) (row:Zd) (costs:Zb) (seats:Zd) (h:Zk) (e:Zc) (h':Zk):Prop :=
 ∃ (i:Nat) (row' seats':Zd) (v2 v3 v4 v5 v6:Value),e=[.pointer (some ⟨p,0,none⟩),.int .i64 i,v2,v3,v4,v5,v6]/\Xn h' p row' costs seats' rs cs ss/\Qp row' seats'.length seats' /\
   seats'.length=seats.length/\Ztj row' costs i/\(i<row'.length\/(row'.length=0/\i=0))/\row'.length=row.length/\(∀ k,Xo seats' k=0↔Xo seats k=0)/\Mod (fun b=>b=rs.b\/b=ss.b) h h'
structure Least (row:Zd) (costs:Zb) (i j l:Nat):Prop where
 lo:2 * i+1<=j
 hi:j<=2 * i+3
 pl:l=i\/(Xa l=i/\0<l/\l<row.length/\klt costs (Xo row l) (Xo row i))
 m:∀ c,0<c->c<row.length->c<j->Xa c=i->¬ klt costs (Xo row c) (Xo row l)
 mi:¬ klt costs (Xo row i) (Xo row l)
theorem Least.start {i:Nat}:Least row costs i (2 * i+1) i :=
 ⟨Xfy _,by omega,.inl rfl,fun c h0 _ r hp=>by unfold Xa at hp;omega,Zas⟩
theorem Least.step {i j l:Nat} (L:Least row costs i j l) (R:j<=2 * i+2) (O:j<row.length) :
  Least row costs i (j+1) (if klt costs (Xo row j) (Xo row l) then j else l):=by
 have J:Xa j=i:=by have:=L.lo;unfold Xa;omega
 have h0:0<j:=by have:=L.lo;omega
 by_cases I:klt costs (Xo row j) (Xo row l)
 ·rw [if_pos I];have H:klt costs (Xo row j) (Xo row i):=by
   have:=L.mi;unfold klt at *;omega
  refine ⟨by have:=L.lo;omega,by omega,.inr ⟨J,h0,O,H⟩,?_,fun h=>Zas (Zil h H)⟩;intro c D hc M G;by_cases r:c=j
  ·subst r;exact Zas
  exact Zyn I (L.m c D hc (by omega) G)
 rw [if_neg I];refine ⟨by have:=L.lo;omega,by omega,L.pl,?_,L.mi⟩;intro c D hc M G;by_cases r:c=j
 ·subst r;exact I
 exact L.m c D hc (by omega) G
def Xb9 (p:Nat) (row:Zd) (costs:Zb) (i:Nat) (v6:Value) (h0:Zk) (e:Zc) (h':Zk):Prop :=
 ∃ (j l:Nat) (v4 v5:Value),e=[.pointer (some ⟨p,0,none⟩),.int .i64 i,.int .i64 l,.int .i64 j,v4,v5,v6]/\Least row costs i j l/\h'=h0
theorem Z0v (H:Y.Has 22 Y22) (Ha:Y.Has 25 Y25) (Hs:Y.Has 21 Y21)
  (O:Xn h p row costs seats rs cs ss) (V:Qp row seats.length seats) (al:costs.length=seats.length) (U:Ztj row costs 0) (aj:row.length<=1000000000)
  {R:Ze} (hr:∀ h' r D,Xn h' p r costs D rs cs ss->Qp r D.length D->D.length=seats.length->Ord r costs->r.length=row.length ->
   (∀ k,Xo D k=0↔Xo seats k=0)->Mod (fun b=>b=rs.b\/b=ss.b) h h'->R (.tuple #[]) h') :
  Zv Y 22 [.pointer (some ⟨p,0,none⟩),.int .i64 0] h R:=by
 refine .of_has H rfl ?_;simp [Y22,Xm.wp];refine Zt (Z8i p rs cs ss row costs seats h) (fun e _=>row.length-Zy e 1)
  ⟨0,row,seats,_,_,_,_,_,rfl,O,V,rfl,U,by omega,rfl,fun _=>Iff.rfl,Mod.refl h⟩ ?_
 rintro e h' ⟨i,r,D,v2,v3,v4,v5,v6,rfl,O,V,aa,U,hi,ab,ac,hm⟩;have w1:IntKind.i64.wrap (2 * (i:Int))=2 * (i:Int):=Zo (by omega);have w2:IntKind.i64.wrap (2 * (i:Int)+1)=2 * (i:Int)+1:=Zo (by omega);have w3:IntKind.i64.wrap (2 * (i:Int)+2)=2 * (i:Int)+2:=Zo (by omega);simp [w1,w2];refine Zt (Xb9 p r costs i v6 h') (fun e _=>2 * i+3-Zy e 3) ⟨2 * i+1,i,v4,v5,by simp,Least.start,rfl⟩ ?_;rintro e ad ⟨j,l,v4,v5,rfl,L,rfl⟩;have am:=L.lo;have an:=L.hi;have w4:=Zj (i:=j) (by omega);have af:(¬ j<=2 * i+2\/¬ j<r.length) ->
   (∀ j',0<j'->j'<r.length->Xa j'=i->¬ klt costs (Xo r j') (Xo r l)):=by
  intro ak c ag hc hp;refine L.m c ag hc ?_ hp;have:c<=2 * i+2:=by unfold Xa at hp;omega
  omega
 by_cases c:j<=2 * i+2/\j<r.length
 ·obtain ⟨c1,c2⟩:=c;have M:(j:Int)<=2 * (i:Int)+2:=by omega
  have I:l<r.length:=by rcases L.pl with h | h <;> omega
  simp [w1,w3,M,O.p0,O.rowN,c2];refine Zkf Ha O (fun k Z=>by have:=V.rv k Z;omega) c2 I ?_;rw [Zlk];have L':=L.step c1 c2;by_cases Z:klt costs (Xo r j) (Xo r l)
  ·rw [if_pos Z] at L';simp [Z,w4];exact ⟨⟨j+1,j,.bool true,.bool true,by simp,L',rfl⟩,by simp [Zy];omega⟩
  rw [if_neg Z] at L';simp [Z,w4];exact ⟨⟨j+1,l,.bool true,.bool false,by simp,L',rfl⟩,by simp [Zy];omega⟩
 have X:=af (by omega);have G:(if l=i then R (.tuple #[]) ad else Zv Y 21 [.pointer (some ⟨p,0,none⟩),.int .i64 i,.int .i64 l] ad fun _ h' =>
   ∀ v4 v5 v6:Value,Z8i p rs cs ss row costs seats h [.pointer (some ⟨p,0,none⟩),.int .i64 l,.int .i64 l,.int .i64 j,v4,v5,v6] h'/\row.length-l<row.length-i):=by
  split
  ·rename_i J;subst J;exact hr _ r D O V aa (U.fin X) ab ac hm
  rename_i J;obtain ⟨hp,ae,I,ah⟩:=L.pl.resolve_left J;have ao:i<l:=by have:=Wv ae;omega
  refine Zio Hs O V.rv (by omega) I (by omega) ?_;intro h2 O2 ai v4 v5 v6;refine ⟨⟨l,_,_,_,_,_,_,_,rfl,O2,?_,?_,U.step ae I hp ah X,.inl ?_,?_,?_,hm.trans ai⟩,by omega⟩
  ·have:=V.swap (i:=i) (j:=l) (by omega) I;simpa using this
  ·simpa using aa
  ·simpa using I
  ·simpa using ab
  intro k;rw [Zqg V (by omega) I];exact ac k
 have J:(((l:Nat):Int)=(i:Int))↔l=i:=by omega
 rcases (show ¬ j<=2 * i+2\/(j<=2 * i+2/\¬ j<r.length) by omega) with c1 | ⟨c1,c2⟩
 ·have M:¬ (j:Int)<=2 * (i:Int)+2:=by omega
  simp [w1,w3,M,J];by_cases hl:l=i
  ·rw [if_pos hl] at G ⊢;exact G
  rw [if_neg hl] at G ⊢;exact Zv.mono G fun _ h' hh=>⟨(hh _ _ _).1,by simpa [Zy] using (hh undef undef undef).2⟩
 have M:(j:Int)<=2 * (i:Int)+2:=by omega
 simp [w1,w3,M,O.p0,O.rowN,c2,J];by_cases hl:l=i
 ·rw [if_pos hl] at G ⊢;exact G
 rw [if_neg hl] at G ⊢;exact Zv.mono G fun _ h' hh=>⟨(hh _ _ _).1,by simpa [Zy] using (hh undef undef undef).2⟩
end
end Go.Rm
