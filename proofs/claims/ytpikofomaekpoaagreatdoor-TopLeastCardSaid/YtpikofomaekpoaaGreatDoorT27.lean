import Derived.Test.YtpikofomaekpoaaGreatDoorT12
/- Parts. -/
set_option linter.unusedSimpArgs false
set_option linter.unusedVariables false
namespace Go.Rm
abbrev Vk:=Nat->Option Int
def Zhu (n:Nat) (A:Vk):Nat:=(List.range n).countP fun k=>(A k).isSome
def Qx (costs:Zb) (seats:Zd):Vk:=fun k=>if Xo seats k=0 then none else some (Zl costs k)
def fpO (p:Nat) (rs cs ss:Sl):Zf:=fun b=>b=p\/b=cs.b\/b=ss.b\/(rs.nl=false/\b=rs.b)
def X1 (h:Zk) (p n:Nat) (A:Vk) (S:Zf):Prop :=
 ∃ row costs seats rs cs ss,Xn h p row costs seats rs cs ss/\Qp row n seats/\costs.length=n/\Ord row costs/\row.length=Zhu n (Qx costs seats)/\n<=16384 /\
  (∀ k,k<n->A k=Qx costs seats k)/\(∀ b,S b↔fpO p rs cs ss b)
theorem Zpf {n:Nat} {A:Vk}:Zhu n A<=n:=by
 unfold Zhu;exact Xgk List.countP_le_length (by simp)
theorem Zkd {n:Nat} {A B:Vk} (h:∀ k,k<n->(A k).isSome=(B k).isSome):Zhu n A=Zhu n B:=by
 unfold Zhu;apply List.countP_congr;intro k r;rw [h k (List.mem_range.1 r)]
theorem Z0o {n:Nat} {A:Vk} (h:Zhu n A=0):∀ k,k<n->A k=none:=by
 intro k r;have:=List.countP_eq_zero.1 h k (List.mem_range.2 r);simpa using this
theorem Zmh {n:Nat} {A B:Vk} {k:Nat} (V:k<n) (G:∀ j,j<n->j≠k->(B j).isSome=(A j).isSome) (X:A k=none) (Z:(B k).isSome=true):Zhu n B=Zhu n A+1:=by
 have J:∀ (l:Zd),(∀ j∈l,j<n)->l.Nodup->(k∈l->l.countP (fun j=>(B j).isSome)=l.countP (fun j=>(A j).isSome)+1)/\(k ∉ l->l.countP (fun j=>(B j).isSome)=l.countP (fun j=>(A j).isSome)):=by
  intro l
  induction l with
  | nil=>intro _ _;exact ⟨fun h=>(by cases h),fun _=>rfl⟩
  | cons x l ih =>
   intro M D;obtain ⟨hx,D⟩:=List.nodup_cons.1 D;obtain ⟨O,H⟩:=ih (fun j R=>M j (Xgg _ R)) D;refine ⟨fun I=>?_,fun I=>?_⟩
   ·simp only [Xi3];by_cases r:x=k
    ·subst r;rw [H hx,Z,X];simp
    have U:k∈l:=by
     rcases List.mem_cons.1 I with h | h
     ·exact absurd h.symm r
     exact h
    rw [O U,G x (M x (by simp)) r];omega
   have r:x≠k:=fun e=>I (by rw [e];simp);simp only [Xi3];rw [H (fun h=>I (Xgg _ h)),G x (M x (by simp)) r]
 exact (J (List.range n) (fun j R=>List.mem_range.1 R) List.nodup_range).1 (List.mem_range.2 V)
section
variable {Y:Sys} {h:Zk} {p n:Nat} {A:Vk} {S:Zf}
theorem Xn.fp_lt {row:Zd} {costs:Zb} {r:Zd} {D cs G:Sl} (O:Xn h p row costs r D cs G) {b:Nat} (hb:fpO p D cs G b):b<h.size:=by
 rcases hb with rfl | rfl | rfl | ⟨H,rfl⟩
 ·exact O.blk.lt
 ·exact O.costs.lt O.cnl
 ·exact O.seats.lt O.snl
 exact O.row.lt H
theorem X1.lt (O:X1 h p n A S) {b:Nat} (hb:S b):b<h.size:=by
 obtain ⟨_,_,_,_,_,_,O,_,_,_,_,_,_,r⟩:=O;exact O.fp_lt ((r b).1 hb)
theorem Xn.mod {row:Zd} {costs:Zb} {r:Zd} {G cs H:Sl} (O:Xn h p row costs r G cs H) {S':Zf} {h':Zk} (D:Mod S' h h') (hd:∀ b,fpO p G cs H b->¬ S' b) :
  Xn h' p row costs r G cs H :=
 ⟨D.blk O.blk (hd p (.inl rfl)),O.row.mod D (fun I=>hd _ (.inr (.inr (.inr ⟨I,rfl⟩)))),O.costs.mod D (fun _=>hd _ (.inr (.inl rfl))),O.seats.mod D (fun _=>hd _ (.inr (.inr (.inl rfl)))),
  O.cnl,O.snl,O.pc,O.ps,O.csn,O.pr,O.rc,O.rss⟩
theorem X1.mod (O:X1 h p n A S) {S':Zf} {h':Zk} (H:Mod S' h h') (hd:∀ b,S b->¬ S' b):X1 h' p n A S:=by
 obtain ⟨row,costs,r,I,cs,J,O,V,hc,M,D,R,U,G⟩:=O;exact ⟨row,costs,r,I,cs,J,O.mod H (fun b hb=>hd b ((G b).2 hb)),V,hc,M,D,R,U,G⟩
theorem Zwi {l:Zd} {k:Nat}:Za4 (l++[k])=Za4 l++[.int .i64 (k:Int)]:=by simp [Za4]
theorem Xn.pushRow {row:Zd} {costs:Zb} {D:Zd} {I cs M r:Sl} (O:Xn h p row costs D I cs M) {G:Zk} {k:Nat}
  (X:Ym G 1 r (Za4 row++[.int .i64 (k:Int)])) (R:Mod (fun j=>I.nl=false/\j=I.b) h G) (U:(r.b=I.b/\r.nl=I.nl)\/(h.size<=r.b/\r.nl=false)) :
  Xn (Vd G p 0 r.v) p (row++[k]) costs D r cs M:=by
 have H:r.nl=false:=by
  obtain ⟨_,_,_,h⟩:=X.blk (i:=0) (by simp);exact h
 have aa:=O.blk.lt;have ab:=O.costs.lt O.cnl;have ac:=O.seats.lt O.snl;have Z:p≠r.b:=by
  rcases U with ⟨h1,G⟩ | ⟨h1,_⟩
  ·rw [h1];exact O.pr (by rw [<-G];exact H)
  omega
 have rc:r.b≠cs.b:=by
  rcases U with ⟨h1,G⟩ | ⟨h1,_⟩
  ·rw [h1];exact O.rc (by rw [<-G];exact H)
  omega
 have V:r.b≠M.b:=by
  rcases U with ⟨h1,G⟩ | ⟨h1,_⟩
  ·rw [h1];exact O.rss (by rw [<-G];exact H)
  omega
 have hb:=R.blk O.blk (fun ⟨J,e⟩=>O.pr J e);refine ⟨?_,?_,?_,?_,O.cnl,O.snl,O.pc,O.ps,O.csn,fun _=>Z,fun _=>rc,fun _=>V⟩
 ·have:=hb.set (o:=0) (v:=r.v);simpa using this
 ·rw [Zwi];exact X.mod (S:=fun b=>b=p) (Mod.set rfl) (fun _ e=>Z e.symm)
 ·exact (O.costs.mod R (fun _ ⟨J,e⟩=>O.rc J e.symm)).mod (S:=fun b=>b=p) (Mod.set rfl) (fun _ e=>O.pc e.symm)
 exact (O.seats.mod R (fun _ ⟨J,e⟩=>O.rss J e.symm)).mod (S:=fun b=>b=p) (Mod.set rfl) (fun _ e=>O.ps e.symm)
def Zem (n:Nat) (A:Vk) (k:Int) (c:Int):Bool:=Zpl n k && (match A k.toNat with | none=>true | some d=>decide (c<d))
def Zbq (n:Nat) (A:Vk) (k:Int) (c:Int):Vk:=if Zem n A k c then (fun j=>if j=k.toNat then some c else A j) else A
theorem Zop {costs:Zb} {D r:Zd} {k:Nat} {c:Int} (G:k<costs.length) (J:Xo r k≠0) (H:∀ j,j≠k->(Xo r j=0↔Xo D j=0)) (j:Nat) :
  Qx (costs.set k c) r j=if j=k then some c else Qx costs D j:=by
 unfold Qx;by_cases I:j=k
 ·subst I;rw [if_neg J,if_pos rfl,Va G];simp
 rw [if_neg I,Va G,if_neg I];by_cases h0:Xo D j=0
 ·rw [if_pos h0,if_pos ((H j I).2 h0)]
 rw [if_neg h0,if_neg (fun h=>h0 ((H j I).1 h))]
theorem Zdc (H:Y.Has 8 Y8) (Hk:Y.Has 18 Y18) (Hh:Y.Has 19 Y19) (Hu:Y.Has 20 Y20)
  (Ha:Y.Has 25 Y25) (Hs:Y.Has 21 Y21) (O:X1 h p n A S) {k c:Int} {R:Ze}
  (hr:∀ h' S',X1 h' p n (Zbq n A k (Ww c)) S'->(∀ b,S' b->S b\/h.size<=b)->Mod S h h'->R (.bool (Zem n A k (Ww c))) h') :
  Zv Y 8 [.pointer (some ⟨p,0,none⟩),.int .i64 k,.int .i64 c] h R:=by
 have OR:=O;obtain ⟨row,costs,r,rs,cs,ss,O,V,hc,hO,Z,hn,hA,X⟩:=O;refine .of_has H rfl ?_;simp [Y8,Xm.wp];refine Z4o Hk O ?_;rw [V.len];by_cases hk:Zpl n k=true
 ·have aa:=hk;simp only [Zpl,Xf4,decide_eq_true_eq] at aa;obtain ⟨h0,h1⟩:=aa;obtain ⟨k,rfl⟩:=Int.eq_ofNat_of_zero_le h0;have U:k<n:=by omega
  have J:k<r.length:=by rw [V.len];exact U
  have I:k<costs.length:=by omega
  have e1:=O.seatsN;have e2:=O.costsN;have az:row.length<=n:=by rw [Z];exact Zpf
  have M:=hA k U;simp [hk];refine Zfo Hh ?_;generalize aA:Ww c=c' at *
  by_cases hz:Xo r k=0
  ·have M:A k=none:=by rw [M];simp [Qx,hz]
   simp [O.p2,Zm O.seats.ok,e1,J,O.seatAt,hz,O.p0,Qy];intro t;have e3:=O.rowN;refine Zcf rfl O.row (by omega) (by omega) ?_;intro s' h2 ao hs'n ah ap;have O3:=O.pushRow ao ah ap;have V4:=Zu4 V U hz;have O4:=O3.setSeat J (row.length+1);have O5:=O4.setCost I c';have e4:=O3.rowN;simp at e4;have aq:=ah.blk O.blk (fun ⟨hn,e⟩=>O.pr hn e);have q0:Rm.hc h2 p 0=some rs.v:=by rw [aq.hc];rfl
   have qf:hfz h2 p 0=false:=aq.hfz;simp only [Int.natCast_add,Int.natCast_one] at O4 O5;have ai:Xo (r.set k (row.length+1)) k=row.length+1:=by rw [V2 J];simp
   have w1:IntKind.i64.wrap (row.length:Int)=row.length:=Zo (by omega);have e5:ss.n=(r.set k (row.length+1)).length:=by simpa using e1
   simp [Xt.open,q0,qf,O3.p2,O3.p0,e4,Zm O3.seats.ok,e1,J,O3.seatF,O3.seatAt,O4.p1,Zm O4.costs.ok,e2,I,O4.costF,O4.costAt,O5.p2,O5.seatAt,ai,w1];have V5:Qp (row++[k]) (r.set k (row.length+1)).length (r.set k (row.length+1)):=by rw [List.length_set,V.len];exact V4
   have aj:=V.len;refine Zxj Hu Ha Hs O5 V5 (by simp [aj,hc]) (Zzi V I hz hO) (by simp) (by simp;omega) ?_;intro h' ab D O' V' ak Or' ae ac al;have am:Xo D k≠0:=fun h=>by have:=(ac k).1 h;omega
   have ar:∀ j,j≠k->(Xo D j=0↔Xo r j=0):=fun j hj=>by rw [ac j,V2 J,if_neg hj]
   have G:=Zop (c:=c') I am ar;have hb:Zem n A k c'=true:=by simp [Zem,hk,M]
   have aw:s'.nl=false:=O'.rnl (i:=0) (by rw [ae];simp);have ag:∀ b,b=s'.b->S b\/h.size<=b:=by
    rintro b rfl;rcases ap with ⟨g1,g2⟩ | ⟨g1,_⟩
    ·left;rw [X];exact .inr (.inr (.inr ⟨by rw [<-g2];exact aw,g1⟩))
    exact .inr g1
   have ad:=hr h' (fpO p s' cs ss) ⟨ab,costs.set k c',D,s',cs,ss,O',?_,by simpa using hc,Or',?_,hn,?_,fun b=>Iff.rfl⟩ ?_ ?_
   ·rwa [hb] at ad
   ·have:D.length=n:=by rw [ak];simpa using V.len
    rw [<-this];exact V'
   ·rw [ae,Xf9,Z]
    symm
    refine Zmh U (fun j hj ax=>?_) (by simp [Qx,hz]) (by rw [G];simp);rw [G,if_neg ax]
   ·intro j hj;rw [G];simp only [Zbq,hb,if_true,Xf1]
    split
    ·rfl
    exact hA j hj
   ·rintro b (rfl | rfl | rfl | ⟨_,rfl⟩)
    ·left;rw [X];exact .inl rfl
    ·left;rw [X];exact .inr (.inl rfl)
    ·left;rw [X];exact .inr (.inr (.inl rfl))
    exact ag _ rfl
   have hp:S p:=by rw [X];exact .inl rfl
   have an:S cs.b:=by rw [X];exact .inr (.inl rfl)
   have af:S ss.b:=by rw [X];exact .inr (.inr (.inl rfl))
   refine Mod.then (S':=fun b=>b=s'.b\/b=ss.b) (((((ah.mono ?_).trans (Mod.set hp)).trans (Mod.set af)).trans (Mod.set an))) al ?_
   ·rintro i _ ⟨g1,rfl⟩;rw [X];exact .inr (.inr (.inr ⟨g1,rfl⟩))
   rintro i hi (rfl | rfl)
   ·rcases ag _ rfl with g | g
    ·exact g
    omega
   exact af
  have M:A k=some (Zl costs k):=by rw [M];simp [Qx,hz]
  by_cases au:Zl costs k<=c'
  ·simp [O.p1,O.p2,Zm O.seats.ok,Zm O.costs.ok,e1,e2,J,I,O.seatAt,O.costAt,hz,au];have hb:Zem n A k c'=false:=by simp [Zem,hk,M];omega
   have:=hr h S (by simpa [Zbq,hb] using OR) (fun b hb=>.inl hb) (Mod.refl h);rwa [hb] at this
  have O5:=O.setCost I c';have av:1<=Xo r k:=by omega
  obtain ⟨q1,q2⟩:=V.sv k U hz;have w1:IntKind.i64.wrap ((Xo r k:Int)-1)=((Xo r k-1:Nat):Int):=by rw [Zo (by omega)];omega
  simp [O.p1,O.p2,Zm O.seats.ok,Zm O.costs.ok,e1,e2,J,I,O.seatAt,O.costAt,hz,au,Xt.open,O.costF,O5.p2,O5.seatAt,w1];have V5:Qp row r.length r:=by rw [V.len];exact V
  have aj:=V.len;refine Zxj Hu Ha Hs O5 V5 (by simp [aj,hc]) (Zuh V U I hz hO (by omega)) q1 (by omega) ?_;intro h' ab D O' V' ak Or' ae ac al;have am:Xo D k≠0:=fun h=>hz ((ac k).1 h);have G:=Zop (c:=c') I am (fun j _=>ac j);have hb:Zem n A k c'=true:=by simp [Zem,hk,M];omega
  have ad:=hr h' S ⟨ab,costs.set k c',D,rs,cs,ss,O',?_,by simpa using hc,Or',?_,hn,?_,X⟩ (fun b hb=>.inl hb) ?_
  ·rwa [hb] at ad
  ·have:D.length=n:=by rw [ak];exact V.len
   rw [<-this];exact V'
  ·rw [ae,Z];apply Zkd;intro j hj;rw [G]
   split
   ·rename_i ay;rw [ay];simp [Qx,hz]
   rfl
  ·intro j hj;rw [G];simp only [Zbq,hb,if_true,Xf1]
   split
   ·rfl
   exact hA j hj
  have an:S cs.b:=by rw [X];exact .inr (.inl rfl)
  have af:S ss.b:=by rw [X];exact .inr (.inr (.inl rfl))
  refine Mod.then (Mod.set an) al ?_;rintro i _ (rfl | rfl)
  ·rw [X];exact .inr (.inr (.inr ⟨O.rnl q1,rfl⟩))
  exact af
 have aa:Zpl n k=false:=by simpa using hk
 simp [aa];have hb:Zem n A k (Ww c)=false:=by simp [Zem,aa]
 have:=hr h S (by simpa [Zbq,hb] using OR) (fun b hb=>.inl hb) (Mod.refl h);rwa [hb] at this
def Zti (n:Nat) (A:Vk) (k:Nat) (c:Int):Prop:=k<n/\A k=some c/\∀ j d,j<n->A j=some d->c<d\/(c=d/\k<=j)
def Zfi (A:Vk) (k:Nat):Vk:=fun j=>if j=k then none else A j
theorem Zuo {row:Zd} {n:Nat} {r:Zd} (V:Qp row n r) {m:Nat} (U:row.length=m+1):Qp (row.take m) n (r.set (Xo row m) 0):=by
 have R:=V.rv m (by omega);have H:Xo row m<r.length:=by rw [V.len];exact R
 have I:(row.take m).length=m:=by simp;omega
 have J:∀ i,i<m->Xo row i≠Xo row m:=fun i D h=>by have:=V.inj (i:=i) (j:=m) (by omega) (by omega) h;omega
 refine ⟨by simp [V.len],?_,?_,?_⟩
 ·intro i D;rw [I] at D;rw [Zhb D];exact V.rv i (by omega)
 ·intro i D;rw [I] at D;rw [Zhb D,V2 H,if_neg (J i D)];exact V.rs i (by omega)
 intro k M h0;rw [V2 H] at h0 ⊢;by_cases G:k=Xo row m
 ·rw [if_pos G] at h0;exact absurd rfl h0
 rw [if_neg G] at h0 ⊢;obtain ⟨X,O⟩:=V.sv k M h0;have:Xo r k-1≠m:=fun e=>G (by rw [<-O,e]);rw [I];exact ⟨by omega,by rw [Zhb (by omega)];exact O⟩
theorem Z2d {row:Zd} {costs:Zb} (O:Ord row costs) {m:Nat} (I:row.length=m+1):Ztj ((We row 0 m).take m) costs 0:=by
 have G:((We row 0 m).take m).length=m:=by simp;omega
 have r:∀ i,0<i->i<m->Xo ((We row 0 m).take m) i=Xo row i:=by
  intro i h0 H;rw [Zhb H,Xr (by omega) (by omega)];rw [if_neg (by omega),if_neg (by omega)]
 refine ⟨?_,fun h=>absurd h (by omega)⟩;intro j h0 D hp;rw [G] at D;have:=Wv h0;rw [r j h0 D,r _ (by omega) (by omega)];exact O j h0 (by omega)
theorem Xn.cut {row:Zd} {costs:Zb} {r:Zd} {D cs H:Sl} (O:Xn h p row costs r D cs H) {m:Nat} (I:m<=row.length) :
  Xn (Vd h p 0 (Sl.v { D with n:=m })) p (row.take m) costs r { D with n:=m } cs H:=by
 have G:m<=D.n:=by rw [O.rowN];exact I
 refine ⟨?_,?_,?_,?_,O.cnl,O.snl,O.pc,O.ps,O.csn,O.pr,O.rc,O.rss⟩
 ·have:=O.blk.set (o:=0) (v:=(Sl.v { D with n:=m }));simpa using this
 ·have:=O.row.take G;have e:(Za4 row).take (m * 1)=Za4 (row.take m):=by simp [Za4,Xi6]
  rw [e] at this;exact this.mod (S:=fun b=>b=p) (Mod.set rfl) (fun J e=>O.pr J e.symm)
 ·exact O.costs.mod (S:=fun b=>b=p) (Mod.set rfl) (fun _ e=>O.pc e.symm)
 exact O.seats.mod (S:=fun b=>b=p) (Mod.set rfl) (fun _ e=>O.ps e.symm)
theorem Zky (H:Y.Has 10 Y10) (Hd:Y.Has 22 Y22) (Ha:Y.Has 25 Y25) (Hs:Y.Has 21 Y21)
  (O:X1 h p n A S) {R:Ze}
  (ai:(∀ k,k<n->A k=none)->R (.tuple #[.int .i64 0,.int .i64 0,.bool false]) h)
  (hr:∀ h' k c,Zti n A k c->X1 h' p n (Zfi A k) S->Mod S h h'->R (.tuple #[.int .i64 k,.int .i64 c,.bool true]) h') :
  Zv Y 10 [.pointer (some ⟨p,0,none⟩)] h R:=by
 obtain ⟨row,costs,r,X,cs,ss,O,V,hc,hO,Z,hn,hA,hS⟩:=O;refine .of_has H rfl ?_;have e0:=O.rowN;have ay:row.length<=n:=by rw [Z];exact Zpf
 have aj:Zhu n (Qx costs r)=Zhu n A:=Zkd (fun k hk=>by rw [hA k hk])
 cases hl:row.length with
 | zero =>
  have hz:X.n=0:=by omega
  simp [Y10,Xm.wp,O.p0,hz];exact ai (Z0o (by rw [<-aj,<-Z];exact hl))
 | succ m =>
  have ak:¬ ((m:Int)+1=0):=by omega
  have w1:IntKind.i64.wrap (m:Int)=(m:Int):=Zo (by omega);have al:X.n=m+1:=by omega
  have G:0<row.length:=by omega
  have q0:Rm.hc h X.b X.o=some (.int .i64 (Xo row 0:Int)):=by have:=O.rowAt (i:=0) G;simpa using this
  have I:=V.len;simp [Y10,Xm.wp,O.p0,al,ak,w1,Zm O.row.ok,q0];refine Zio Hs O (i:=0) (j:=m) (fun i hi=>by rw [I];exact V.rv i hi) G (by omega) (by omega) ?_;intro h1 O1 am;have V1:=V.swap (i:=0) (j:=m) G (by omega);have an:(We row 0 m).length=m+1:=by simpa using hl
  have ab:Xo (We row 0 m) m=Xo row 0:=by
   rw [Xr G (by omega)];simp
   try (intro h;rw [h])
  have O2:=O1.cut (m:=m) (by omega);have hk:=V.rv 0 G;generalize ac:Xo row 0=k at *
  have ad:k<(Vx row r 0 m).length:=by simpa [I] using hk
  have O3:=O2.setSeat ad 0;simp only [Int.natCast_zero] at O3;have ao:k<r.length:=by omega
  have V3:=Zuo V1 an;rw [ab] at V3;have ap:m<=X.c:=by have:=O.row.ok.le;omega
  have ae:=O1.blk;have hfz:hfz h1 p 0=false:=ae.hfz;have e2:ss.n=r.length:=by have:=O2.seatsN;simpa using this
  have aq:k<costs.length:=by omega
  simp [O1.p0,Zch O1.row.ok,ap,Xt.open,hfz,O2.p2,Zm O2.seats.ok,e2,ao,O2.seatF,O2.seatAt];have V3':Qp ((We row 0 m).take m) ((Vx row r 0 m).set k 0).length ((Vx row r 0 m).set k 0):=by
   have:((Vx row r 0 m).set k 0).length=n:=by simpa using I
   rw [this];exact V3
  refine Z0v Hd Ha Hs O3 V3' (by simp [I,hc]) (Z2d hO hl) (by simp;omega) ?_;intro h' aa D O' V' ar Or' au av aw;have e3:=O'.costsN;simp [O'.p1,Zm O'.costs.ok,e3,aq,O'.costAt];have af:∀ j,Xo (Vx row r 0 m) j=0↔Xo r j=0:=fun j=>Zqg V G (by omega) j;have J:∀ j,Xo D j=0↔(j=k\/Xo r j=0):=by
   intro j;rw [av j,V2 ad]
   split
   ·rename_i h;simp [h]
   rename_i h;rw [af j];simp [h]
  have ag:Xo r k≠0:=by have:=V.rs 0 G;rw [ac] at this;omega
  have M:∀ j,Qx costs D j=Zfi (Qx costs r) k j:=by
   intro j;unfold Zfi;by_cases U:j=k
   ·subst U;simp [Qx,(J j).2 (.inl rfl)]
   rw [if_neg U];unfold Qx;by_cases hz:Xo r j=0
   ·rw [if_pos hz,if_pos ((J j).2 (.inr hz))]
   rw [if_neg hz,if_neg (fun h=>by rcases (J j).1 h with h | h <;> contradiction)]
  have ah:Qx costs r k=some (Zl costs k):=by simp [Qx,ag]
  refine hr h' k (Zl costs k) ⟨hk,by rw [hA k hk,ah],?_⟩ ⟨aa,costs,D,{ X with n:=m },cs,ss,O',?_,hc,Or',?_,hn,?_,hS⟩ ?_
  ·intro j d U hd;rw [hA j U] at hd;unfold Qx at hd;by_cases hz:Xo r j=0
   ·rw [if_pos hz] at hd;cases hd
   rw [if_neg hz] at hd;cases hd;obtain ⟨g1,g2⟩:=V.sv j U hz;have:=hO.least _ g1;rw [g2,ac] at this;unfold klt at this;omega
  ·have:D.length=n:=by rw [ar];simpa using I
   rw [<-this];exact V'
  ·have h2:=Zmh (A:=Qx costs D) (B:=Qx costs r) hk (fun j _ U=>by rw [M j];simp [Zfi,U]) (by rw [M k];simp [Zfi]) (by rw [ah];rfl);have h3:aa.length=m:=by rw [au];simp;omega
   omega
  ·intro j U;rw [M j];unfold Zfi
   split
   ·rfl
   exact hA j U
  have hp:S p:=by rw [hS];exact .inl rfl
  have ax:S ss.b:=by rw [hS];exact .inr (.inr (.inl rfl))
  have az:S X.b:=by rw [hS];exact .inr (.inr (.inr ⟨O.rnl G,rfl⟩))
  have g:∀ i,(i=X.b\/i=ss.b)->S i:=by rintro i (rfl | rfl) <;> assumption
  exact (((am.mono fun i _ hi=>g i hi).trans (Mod.set hp)).trans (Mod.set ax)).then aw (fun i _ hi=>g i hi)
def Xfg (p n:Nat) (row:Zd) (costs:Zb) (seats:Zd) (rs cs ss:Sl) (h0:Zk) (e:Zc) (h':Zk):Prop :=
 ∃ (i:Nat) (seats':Zd) (v1 v5:Value),e=[.pointer (some ⟨p,0,none⟩),v1,rs.v,.int .i64 row.length,.int .i64 i,v5]/\i<=row.length/\Xn h' p row costs seats' rs cs ss/\seats'.length=n /\
  (∀ j,j<n->Xo seats' j=0\/(Xo seats' j=Xo seats j/\i<Xo seats j))/\Mod (fun b=>b=ss.b) h0 h'
theorem Zl2 (H:Y.Has 12 Y12) (O:X1 h p n A S) {R:Ze}
  (hr:∀ h',X1 h' p n (fun _=>none) S->Mod S h h'->R (.tuple #[]) h') :
  Zv Y 12 [.pointer (some ⟨p,0,none⟩)] h R:=by
 obtain ⟨row,costs,D,rs,cs,ss,O,V,hc,hO,aa,hn,hA,hS⟩:=O;refine .of_has H rfl ?_;have e0:=O.rowN;have af:row.length<=n:=by rw [aa];exact Zpf
 simp [Y12,Xm.wp,O.p0,e0];refine Zt (Xfg p n row costs D rs cs ss h) (fun e _=>row.length-Zy e 4) ⟨0,D,_,_,rfl,by omega,O,V.len,?_,Mod.refl h⟩ ?_
 ·intro j _;omega
 rintro e h' ⟨i,r,v1,v5,rfl,X,O1,ab,hz,hm⟩;by_cases G:i<row.length
 ·have Z:=V.rv i G;have I:Xo row i<r.length:=by omega
  have e2:=O1.seatsN;have O2:Xn _ p row costs (r.set (Xo row i) 0) rs cs ss:=O1.setSeat I 0;simp only [Int.natCast_zero] at O2;have w4:=Zj (i:=i) (by omega);simp [G,Zm O.row.ok,Zm O1.seats.ok,e0,O1.rowAt,O1.p2,e2,I,O1.seatF,O1.seatAt,Xt.open,w4];refine ⟨⟨i+1,_,.int .i64 (Xo row i:Int),.bool true,by simp,by omega,O2,by simp [ab],?_,hm.trans (Mod.set rfl)⟩,by simp [Zy];omega⟩;intro j J;rw [V2 I];by_cases M:j=Xo row i
  ·rw [if_pos M];exact .inl rfl
  rw [if_neg M];rcases hz j J with g | ⟨g1,g2⟩
  ·exact .inl g
  refine .inr ⟨g1,?_⟩;have:=V.sv j J (by omega);have:Xo D j≠i+1:=fun e=>M (by rw [<-this.2,e];rfl);omega
 have ae:¬ ((i:Int)<row.length):=by omega
 have O2:=O1.cut (m:=0) (by omega);have hfz:hfz h' p 0=false:=O1.blk.hfz;simp [G,O1.p0,Zch O1.row.ok,Xt.open,hfz];have U:∀ j,j<n->Xo r j=0:=by
  intro j J;rcases hz j J with g | ⟨g1,g2⟩
  ·exact g
  have:=V.sv j J (by omega);omega
 have ac:Zhu n (Qx costs r)=0:=by
  unfold Zhu;rw [List.countP_eq_zero];intro k Z;simp [Qx,U k (List.mem_range.1 Z)]
 refine hr _ ⟨[],costs,r,{ rs with n:=0 },cs,ss,by simpa using O2,⟨ab,?_,?_,?_⟩,hc,?_,?_,hn,?_,hS⟩ ?_
 ·intro i X;cases X
 ·intro i X;cases X
 ·intro k Z h0;exact absurd (U k Z) h0
 ·intro j _ J;cases J
 ·rw [ac];rfl
 ·intro k Z;simp [Qx,U k Z]
 have hp:S p:=by rw [hS];exact .inl rfl
 have ad:S ss.b:=by rw [hS];exact .inr (.inr (.inl rfl))
 exact (hm.mono (fun i _ X=>by rw [X];exact ad)).trans (Mod.set hp)
theorem Zrz {a:Option Addr} {n c:Nat}:(Value.slice a n c).cells=#[.slice a n c]:=rfl
theorem Zz4 {c:Array Value}:(Value.agg c).cells=c:=rfl
theorem Xb.of_new {b:Nat} {h:Zk} {c:Array Value} {t:TypeId} (hb:b=h.size):Xb (h.push (.cells c t)) b c:=hb ▸ Xb.new
def Zje (k:Int):Nat:=if k<0 then 0 else if 16384<k then 16384 else k.toNat
theorem Zmq (H:Y.Has 6 Y6) {k:Int} {R:Ze}
  (U:∀ h' p S,X1 h' p (Zje k) (fun _=>none) S->(∀ b,S b->h.size<=b)->Ext h h'->R (.pointer (some ⟨p,0,none⟩)) h') :
  Zv Y 6 [.int .i64 k] h R:=by
 refine .of_has H rfl ?_;have V:(if 16384<if k<0 then 0 else k then 16384 else if k<0 then 0 else k)=((Zje k:Nat):Int):=by
  unfold Zje
  split <;> split <;> (try split) <;> omega
 have I:Zje k<=16384:=by unfold Zje;split <;> (try split) <;> omega
 generalize X:Zje k=N at *
 have G:∀ (h':Zk) (r D p:Nat),Xb h' r (Array.replicate N (.int .i64 0))->Xb h' D (Array.replicate N (.int .i64 0))->Xb h' p #[Sl.nil.v,(Sl.at r N N).v,(Sl.at D N N).v] ->
   h.size<=r->h.size<=D->h.size<=p->r≠D->p≠r->p≠D->Ext h h'->R (.pointer (some ⟨p,0,none⟩)) h':=by
  intro h' r D p B1 B2 B3 Z g2 g3 g4 g5 g6 he;have J:∀ j,Xo (List.replicate N 0) j=0:=by intro j;simp [Xo,List.getElem?_replicate];split <;> rfl
  refine U h' p (fpO p Sl.nil (Sl.at r N N) (Sl.at D N N)) ⟨[],List.replicate N 0,List.replicate N 0,Sl.nil,Sl.at r N N,Sl.at D N N,⟨B3,?_,?_,?_,rfl,rfl,g5,g6,g4,?_,?_,?_⟩,⟨by simp,?_,?_,?_⟩,by simp,?_,?_,I,?_,fun b=>Iff.rfl⟩ ?_ he
  ·exact Ym.nil
  ·refine ⟨by simp,.inr ⟨rfl,rfl,rfl,Xfy _,by simp;omega,_,B1,by simp,by simp [Zib]⟩⟩
  ·refine ⟨by simp,.inr ⟨rfl,rfl,rfl,Xfy _,by simp;omega,_,B2,by simp,by simp [Za4]⟩⟩
  ·intro h;cases h
  ·intro h;cases h
  ·intro h;cases h
  ·intro i M;cases M
  ·intro i M;cases M
  ·intro k O h0;exact absurd (J k) h0
  ·intro j _ hj;cases hj
  ·symm;unfold Zhu;simp only [Xhy];rw [List.countP_eq_zero];intro k O;simp [Qx,J]
  ·intro k O;simp [Qx,J]
  rintro b (rfl | rfl | rfl | ⟨h,_⟩)
  ·exact g3
  ·exact Z
  ·exact g2
  cases h
 have b1:(N:Int)<=9223372036854775807:=by omega
 have b2:8 * (N:Int)<=281474976710656:=by omega
 simp [Y6,Xm.wp,V,Vq,Xah,Ui,Yo.sem,Instr.fill,Zrz,Zz4,b1,b2];refine ⟨fun t1 t2 t3=>?_,fun t1 t2 t3=>?_⟩
 ·exact G _ h.size (h.size+1) (h.size+1+1) ((Xb.new.push).push) ((Xb.of_new (by simp)).push) (Xb.of_new (by simp)) (by omega) (by omega) (by omega) (by omega) (by omega) (by omega) ((Mod.push.trans Mod.push).trans Mod.push)
 exact G _ (h.size+1) h.size (h.size+1+1) ((Xb.of_new (by simp)).push) ((Xb.new.push).push) (Xb.of_new (by simp)) (by omega) (by omega) (by omega) (by omega) (by omega) (by omega) ((Mod.push.trans Mod.push).trans Mod.push)
end
end Go.Rm
