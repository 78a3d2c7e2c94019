import Derived.Test.YtmpamfkkaakbfaaGreatDoorT13
/- Parts RHeap2 RHeap3 -/
set_option linter.unusedSimpArgs false
set_option linter.unusedVariables false
namespace Go.Rm
abbrev Uk:=Nat->Option Int
def Zgu (n:Nat) (A:Uk):Nat:=(List.range n).countP fun k=>(A k).isSome
def Qi (costs:List Int) (seats:List Nat):Uk:=fun k=>if Yz seats k=0 then none else some (Zc costs k)
def fpO (p:Nat) (rs cs ss:Sl):Nat->Prop:=fun b=>b=p\/b=cs.b\/b=ss.b\/(rs.nl=false/\b=rs.b)
def U4 (h:Za) (p n:Nat) (A:Uk) (S:Nat->Prop):Prop :=
 ∃ row costs seats rs cs ss,Yy h p row costs seats rs cs ss/\Uy row n seats/\costs.length=n/\Ord row costs/\row.length=Zgu n (Qi costs seats)/\n<=16384 /\
  (∀ k,k<n->A k=Qi costs seats k)/\(∀ b,S b↔fpO p rs cs ss b)
theorem Zns {n:Nat} {A:Uk}:Zgu n A<=n:=by
 unfold Zgu
 exact Xew List.countP_le_length (by simp)
theorem Zi5 {n:Nat} {A B:Uk} (h:∀ k,k<n->(A k).isSome=(B k).isSome):Zgu n A=Zgu n B:=by
 unfold Zgu
 apply List.countP_congr
 intro k r
 rw [h k (List.mem_range.1 r)]
theorem Zyv {n:Nat} {A:Uk} (h:Zgu n A=0):∀ k,k<n->A k=none:=by
 intro k r
 have:=List.countP_eq_zero.1 h k (List.mem_range.2 r)
 simpa using this
theorem Zk3 {n:Nat} {A B:Uk} {k:Nat} (V:k<n) (G:∀ j,j<n->j≠k->(B j).isSome=(A j).isSome) (X:A k=none) (Z:(B k).isSome=true):Zgu n B=Zgu n A+1:=by
 have J:∀ (l:List Nat),(∀ j∈l,j<n)->l.Nodup->(k∈l->l.countP (fun j=>(B j).isSome)=l.countP (fun j=>(A j).isSome)+1)/\(k ∉ l->l.countP (fun j=>(B j).isSome)=l.countP (fun j=>(A j).isSome)):=by
  intro l
  induction l with
  | nil=>intro _ _; exact ⟨fun h=>(by cases h),fun _=>rfl⟩
  | cons x l ih =>
   intro M D
   obtain ⟨hx,D⟩:=List.nodup_cons.1 D
   obtain ⟨O,H⟩:=ih (fun j R=>M j (Xeq _ R)) D
   refine ⟨fun I=>?_,fun I=>?_⟩
   ·simp only [Xha]
    by_cases r:x=k
    ·subst r
     rw [H hx,Z,X]
     simp
    ·have U:k∈l:=by
      rcases List.mem_cons.1 I with h | h
      ·exact absurd h.symm r
      ·exact h
     rw [O U,G x (M x (by simp)) r]
     omega
   ·have r:x≠k:=fun e=>I (by rw [e]; simp)
    simp only [Xha]
    rw [H (fun h=>I (Xeq _ h)),G x (M x (by simp)) r]
 exact (J (List.range n) (fun j R=>List.mem_range.1 R) List.nodup_range).1 (List.mem_range.2 V)
section
variable {Y:Sys} {h:Za} {p n:Nat} {A:Uk} {S:Nat->Prop}
theorem Yy.fp_lt {row:List Nat} {r:List Int} {D:List Nat} {G cs H:Sl} (O:Yy h p row r D G cs H) {b:Nat} (hb:fpO p G cs H b):b<h.size:=by
 rcases hb with rfl | rfl | rfl | ⟨I,rfl⟩
 ·exact O.blk.lt
 ·exact O.costs.lt O.cnl
 ·exact O.seats.lt O.snl
 ·exact O.row.lt I
theorem U4.lt (O:U4 h p n A S) {b:Nat} (hb:S b):b<h.size:=by
 obtain ⟨_,_,_,_,_,_,O,_,_,_,_,_,_,r⟩:=O
 exact O.fp_lt ((r b).1 hb)
theorem Yy.mod {row:List Nat} {r:List Int} {D:List Nat} {H cs I:Sl} (O:Yy h p row r D H cs I) {S':Nat->Prop} {h':Za} (G:Mod S' h h') (hd:∀ b,fpO p H cs I b->¬ S' b) :
  Yy h' p row r D H cs I :=
 ⟨G.blk O.blk (hd p (.inl rfl)),O.row.mod G (fun J=>hd _ (.inr (.inr (.inr ⟨J,rfl⟩)))),O.costs.mod G (fun _=>hd _ (.inr (.inl rfl))),O.seats.mod G (fun _=>hd _ (.inr (.inr (.inl rfl)))),
  O.cnl,O.snl,O.pc,O.ps,O.csn,O.pr,O.rc,O.rss⟩
theorem U4.mod (O:U4 h p n A S) {S':Nat->Prop} {h':Za} (I:Mod S' h h') (hd:∀ b,S b->¬ S' b):U4 h' p n A S:=by
 obtain ⟨row,r,D,J,cs,M,O,V,hc,R,G,U,X,H⟩:=O
 exact ⟨row,r,D,J,cs,M,O.mod I (fun b hb=>hd b ((H b).2 hb)),V,hc,R,G,U,X,H⟩
theorem Zus {l:List Nat} {k:Nat}:Zae (l++[k])=Zae l++[.int .i64 (k:Int)]:=by simp [Zae]
theorem Yy.pushRow {row:List Nat} {D:List Int} {G:List Nat} {J cs R r:Sl} (O:Yy h p row D G J cs R) {H:Za} {k:Nat}
  (Z:Yb H 1 r (Zae row++[.int .i64 (k:Int)])) (U:Mod (fun j=>J.nl=false/\j=J.b) h H) (V:(r.b=J.b/\r.nl=J.nl)\/(h.size<=r.b/\r.nl=false)) :
  Yy (Wm H p 0 r.v) p (row++[k]) D G r cs R:=by
 have I:r.nl=false:=by
  obtain ⟨_,_,_,h⟩:=Z.blk (i:=0) (by simp)
  exact h
 have aa:=O.blk.lt
 have ab:=O.costs.lt O.cnl
 have ac:=O.seats.lt O.snl
 have pr:p≠r.b:=by
  rcases V with ⟨h1,H⟩ | ⟨h1,_⟩
  ·rw [h1]; exact O.pr (by rw [<-H]; exact I)
  ·omega
 have rc:r.b≠cs.b:=by
  rcases V with ⟨h1,H⟩ | ⟨h1,_⟩
  ·rw [h1]; exact O.rc (by rw [<-H]; exact I)
  ·omega
 have X:r.b≠R.b:=by
  rcases V with ⟨h1,H⟩ | ⟨h1,_⟩
  ·rw [h1]; exact O.rss (by rw [<-H]; exact I)
  ·omega
 have hb:=U.blk O.blk (fun ⟨M,e⟩=>O.pr M e)
 refine ⟨?_,?_,?_,?_,O.cnl,O.snl,O.pc,O.ps,O.csn,fun _=>pr,fun _=>rc,fun _=>X⟩
 ·have:=hb.set (o:=0) (v:=r.v); simpa using this
 ·rw [Zus]; exact Z.mod (S:=fun b=>b=p) (Mod.set rfl) (fun _ e=>pr e.symm)
 ·exact (O.costs.mod U (fun _ ⟨M,e⟩=>O.rc M e.symm)).mod (S:=fun b=>b=p) (Mod.set rfl) (fun _ e=>O.pc e.symm)
 ·exact (O.seats.mod U (fun _ ⟨M,e⟩=>O.rss M e.symm)).mod (S:=fun b=>b=p) (Mod.set rfl) (fun _ e=>O.ps e.symm)
def Zdz (n:Nat) (A:Uk) (k:Int) (c:Int):Bool:=Zny n k && (match A k.toNat with | none=>true | some d=>decide (c<d))
def Zbi (n:Nat) (A:Uk) (k:Int) (c:Int):Uk:=if Zdz n A k c then (fun j=>if j=k.toNat then some c else A j) else A
theorem Zm7 {D:List Int} {G r:List Nat} {k:Nat} {c:Int} (H:k<D.length) (M:Yz r k≠0) (I:∀ j,j≠k->(Yz r j=0↔Yz G j=0)) (j:Nat) :
  Qi (D.set k c) r j=if j=k then some c else Qi D G j:=by
 unfold Qi
 by_cases J:j=k
 ·subst J
  rw [if_neg M,if_pos rfl,Vr H]; simp
 ·rw [if_neg J,Vr H,if_neg J]
  by_cases h0:Yz G j=0
  ·rw [if_pos h0,if_pos ((I j J).2 h0)]
  ·rw [if_neg h0,if_neg (fun h=>h0 ((I j J).1 h))]
theorem Zgc (H:Y.Has 8 Y8) (Hk:Y.Has 18 Y18) (Hh:Y.Has 19 Y19) (Hu:Y.Has 20 Y20)
  (Ha:Y.Has 25 Y25) (Hs:Y.Has 21 Y21) (O:U4 h p n A S) {k c:Int} {R:Value->Za->Prop}
  (hr:∀ h' S',U4 h' p n (Zbi n A k (Vc c)) S'->(∀ b,S' b->S b\/h.size<=b)->Mod S h h'->R (.bool (Zdz n A k (Vc c))) h') :
  Zm Y 8 [.pointer (some ⟨p,0,none⟩),.int .i64 k,.int .i64 c] h R:=by
 have OR:=O
 obtain ⟨row,G,r,rs,cs,ss,O,V,hc,hO,aa,hn,hA,Z⟩:=O
 refine .of_has H rfl ?_
 simp [Y8,Xa.wp]
 refine Z2x Hk O ?_
 rw [V.len]
 by_cases hk:Zny n k=true
 ·have ab:=hk
  simp only [Zny,Xec,decide_eq_true_eq] at ab
  obtain ⟨h0,h1⟩:=ab
  obtain ⟨k,rfl⟩:=Int.eq_ofNat_of_zero_le h0
  have X:k<n:=by omega
  have M:k<r.length:=by rw [V.len]; exact X
  have I:k<G.length:=by omega
  have e1:=O.seatsN
  have e2:=O.costsN
  have aA:row.length<=n:=by rw [aa]; exact Zns
  have U:=hA k X
  simp [hk]
  refine Zew Hh ?_
  generalize aB:Vc c=c' at *
  by_cases hz:Yz r k=0
  ·have U:A k=none:=by rw [U]; simp [Qi,hz]
   simp [O.p2,Zb O.seats.ok,e1,M,O.seatAt,hz,O.p0,Qm]
   intro t
   have e3:=O.rowN
   refine Zbn rfl O.row (by omega) (by omega) ?_
   intro s' h2 ap hs'n ai aq
   have O3:=O.pushRow ap ai aq
   have V4:=Ztg V X hz
   have O4:=O3.setSeat M (row.length+1)
   have O5:=O4.setCost I c'
   have e4:=O3.rowN
   simp at e4
   have ar:=ai.blk O.blk (fun ⟨hn,e⟩=>O.pr hn e)
   have q0:Rm.hc h2 p 0=some rs.v:=by rw [ar.hc]; rfl
   have qf:hfz h2 p 0=false:=ar.hfz
   simp only [Int.natCast_add,Int.natCast_one] at O4 O5
   have aj:Yz (r.set k (row.length+1)) k=row.length+1:=by rw [Z7 M]; simp
   have w1:IntKind.i64.wrap (row.length:Int)=row.length:=Ze (by omega)
   have k4:k<(r.set k (row.length+1)).length:=by simpa using M
   have k5:k<(G.set k c').length:=by simpa using I
   have e5:ss.n=(r.set k (row.length+1)).length:=by simpa using e1
   simp [Xg.open,q0,qf,O3.p2,O3.p0,e4,Zb O3.seats.ok,e1,M,O3.seatF,O3.seatAt,O4.p1,Zb O4.costs.ok,e2,I,O4.costF,O4.costAt,O5.p2,O5.seatAt,aj,w1]
   have V5:Uy (row++[k]) (r.set k (row.length+1)).length (r.set k (row.length+1)):=by rw [List.length_set,V.len]; exact V4
   have ak:=V.len
   refine Zvr Hu Ha Hs O5 V5 (by simp [ak,hc]) (Zxp V I hz hO) (by simp) (by simp; omega) ?_
   intro h' ac D O' V' al Or' af ad am
   have an:Yz D k≠0:=fun h=>by have:=(ad k).1 h; omega
   have au:∀ j,j≠k->(Yz D j=0↔Yz r j=0):=fun j hj=>by rw [ad j,Z7 M,if_neg hj]
   have J:=Zm7 (c:=c') I an au
   have hb:Zdz n A k c'=true:=by simp [Zdz,hk,U]
   have ax:s'.nl=false:=O'.rnl (i:=0) (by rw [af]; simp)
   have ah:∀ b,b=s'.b->S b\/h.size<=b:=by
    rintro b rfl
    rcases aq with ⟨g1,g2⟩ | ⟨g1,_⟩
    ·left; rw [Z]; exact .inr (.inr (.inr ⟨by rw [<-g2]; exact ax,g1⟩))
    ·exact .inr g1
   have ae:=hr h' (fpO p s' cs ss) ⟨ac,G.set k c',D,s',cs,ss,O',?_,by simpa using hc,Or',?_,hn,?_,fun b=>Iff.rfl⟩ ?_ ?_
   ·rwa [hb] at ae
   ·have:D.length=n:=by rw [al]; simpa using V.len
    rw [<-this]; exact V'
   ·rw [af,Xei,aa]
    symm
    refine Zk3 X (fun j hj ay=>?_) (by simp [Qi,hz]) (by rw [J]; simp)
    rw [J,if_neg ay]
   ·intro j hj
    rw [J]
    simp only [Zbi,hb,if_true,Xd9]
    split
    ·rfl
    ·exact hA j hj
   ·rintro b (rfl | rfl | rfl | ⟨_,rfl⟩)
    ·left; rw [Z]; exact .inl rfl
    ·left; rw [Z]; exact .inr (.inl rfl)
    ·left; rw [Z]; exact .inr (.inr (.inl rfl))
    ·exact ah _ rfl
   ·have hp:S p:=by rw [Z]; exact .inl rfl
    have ao:S cs.b:=by rw [Z]; exact .inr (.inl rfl)
    have ag:S ss.b:=by rw [Z]; exact .inr (.inr (.inl rfl))
    refine Mod.then (S':=fun b=>b=s'.b\/b=ss.b) (((((ai.mono ?_).trans (Mod.set hp)).trans (Mod.set ag)).trans (Mod.set ao))) am ?_
    ·rintro i _ ⟨g1,rfl⟩; rw [Z]; exact .inr (.inr (.inr ⟨g1,rfl⟩))
    ·rintro i hi (rfl | rfl)
     ·rcases ah _ rfl with g | g
      ·exact g
      ·omega
     ·exact ag
  ·have U:A k=some (Zc G k):=by rw [U]; simp [Qi,hz]
   by_cases av:Zc G k<=c'
   ·simp [O.p1,O.p2,Zb O.seats.ok,Zb O.costs.ok,e1,e2,M,I,O.seatAt,O.costAt,hz,av]
    have hb:Zdz n A k c'=false:=by simp [Zdz,hk,U]; omega
    have:=hr h S (by simpa [Zbi,hb] using OR) (fun b hb=>.inl hb) (Mod.refl h)
    rwa [hb] at this
   ·have O5:=O.setCost I c'
    have aw:1<=Yz r k:=by omega
    obtain ⟨q1,q2⟩:=V.sv k X hz
    have w1:IntKind.i64.wrap ((Yz r k:Int)-1)=((Yz r k-1:Nat):Int):=by rw [Ze (by omega)]; omega
    simp [O.p1,O.p2,Zb O.seats.ok,Zb O.costs.ok,e1,e2,M,I,O.seatAt,O.costAt,hz,av,Xg.open,O.costF,O5.p2,O5.seatAt,w1]
    have V5:Uy row r.length r:=by rw [V.len]; exact V
    have ak:=V.len
    refine Zvr Hu Ha Hs O5 V5 (by simp [ak,hc]) (Zsv V X I hz hO (by omega)) q1 (by omega) ?_
    intro h' ac D O' V' al Or' af ad am
    have an:Yz D k≠0:=fun h=>hz ((ad k).1 h)
    have J:=Zm7 (c:=c') I an (fun j _=>ad j)
    have hb:Zdz n A k c'=true:=by simp [Zdz,hk,U]; omega
    have ae:=hr h' S ⟨ac,G.set k c',D,rs,cs,ss,O',?_,by simpa using hc,Or',?_,hn,?_,Z⟩ (fun b hb=>.inl hb) ?_
    ·rwa [hb] at ae
    ·have:D.length=n:=by rw [al]; exact V.len
     rw [<-this]; exact V'
    ·rw [af,aa]
     apply Zi5
     intro j hj
     rw [J]
     split
     ·rename_i az; rw [az]; simp [Qi,hz]
     ·rfl
    ·intro j hj
     rw [J]
     simp only [Zbi,hb,if_true,Xd9]
     split
     ·rfl
     ·exact hA j hj
    ·have ao:S cs.b:=by rw [Z]; exact .inr (.inl rfl)
     have ag:S ss.b:=by rw [Z]; exact .inr (.inr (.inl rfl))
     refine Mod.then (Mod.set ao) am ?_
     rintro i _ (rfl | rfl)
     ·rw [Z]; exact .inr (.inr (.inr ⟨O.rnl q1,rfl⟩))
     ·exact ag
 ·have ab:Zny n k=false:=by simpa using hk
  simp [ab]
  have hb:Zdz n A k (Vc c)=false:=by simp [Zdz,ab]
  have:=hr h S (by simpa [Zbi,hb] using OR) (fun b hb=>.inl hb) (Mod.refl h)
  rwa [hb] at this
end
def Zrw (n:Nat) (A:Uk) (k:Nat) (c:Int):Prop:=k<n/\A k=some c/\∀ j d,j<n->A j=some d->c<d\/(c=d/\k<=j)
def Zeq (A:Uk) (k:Nat):Uk:=fun j=>if j=k then none else A j
theorem Zs2 {row:List Nat} {n:Nat} {r:List Nat} (V:Uy row n r) {m:Nat} (U:row.length=m+1):Uy (row.take m) n (r.set (Yz row m) 0):=by
 have R:=V.rv m (by omega)
 have H:Yz row m<r.length:=by rw [V.len]; exact R
 have I:(row.take m).length=m:=by simp; omega
 have J:∀ i,i<m->Yz row i≠Yz row m:=fun i D h=>by have:=V.inj (i:=i) (j:=m) (by omega) (by omega) h; omega
 refine ⟨by simp [V.len],?_,?_,?_⟩
 ·intro i D; rw [I] at D; rw [Zga D]; exact V.rv i (by omega)
 ·intro i D; rw [I] at D; rw [Zga D,Z7 H,if_neg (J i D)]; exact V.rs i (by omega)
 ·intro k M h0
  rw [Z7 H] at h0 ⊢
  by_cases G:k=Yz row m
  ·rw [if_pos G] at h0; exact absurd rfl h0
  ·rw [if_neg G] at h0 ⊢
   obtain ⟨X,O⟩:=V.sv k M h0
   have:Yz r k-1≠m:=fun e=>G (by rw [<-O,e])
   rw [I]
   exact ⟨by omega,by rw [Zga (by omega)]; exact O⟩
theorem Z0o {row:List Nat} {r:List Int} (O:Ord row r) {m:Nat} (J:row.length=m+1):Zrx ((Xp row 0 m).take m) r 0:=by
 have H:((Xp row 0 m).take m).length=m:=by simp; omega
 have D:∀ i,0<i->i<m->Yz ((Xp row 0 m).take m) i=Yz row i:=by
  intro i h0 I
  rw [Zga I,Xf (by omega) (by omega)]
  rw [if_neg (by omega),if_neg (by omega)]
 refine ⟨?_,fun h=>absurd h (by omega)⟩
 intro j h0 G hp
 rw [H] at G
 have:=Wa h0
 rw [D j h0 G,D _ (by omega) (by omega)]
 exact O j h0 (by omega)
section
variable {Y:Sys} {h:Za} {p n:Nat} {A:Uk} {S:Nat->Prop}
theorem Yy.cut {row:List Nat} {r:List Int} {D:List Nat} {G cs I:Sl} (O:Yy h p row r D G cs I) {m:Nat} (J:m<=row.length) :
  Yy (Wm h p 0 (Sl.v { G with n:=m })) p (row.take m) r D { G with n:=m } cs I:=by
 have H:m<=G.n:=by rw [O.rowN]; exact J
 refine ⟨?_,?_,?_,?_,O.cnl,O.snl,O.pc,O.ps,O.csn,O.pr,O.rc,O.rss⟩
 ·have:=O.blk.set (o:=0) (v:=(Sl.v { G with n:=m })); simpa using this
 ·have:=O.row.take H
  have e:(Zae row).take (m * 1)=Zae (row.take m):=by simp [Zae,Xhe]
  rw [e] at this
  exact this.mod (S:=fun b=>b=p) (Mod.set rfl) (fun M e=>O.pr M e.symm)
 ·exact O.costs.mod (S:=fun b=>b=p) (Mod.set rfl) (fun _ e=>O.pc e.symm)
 ·exact O.seats.mod (S:=fun b=>b=p) (Mod.set rfl) (fun _ e=>O.ps e.symm)
theorem Zqe (H:Y.Has 10 Y10) (Hd:Y.Has 22 Y22) (Ha:Y.Has 25 Y25) (Hs:Y.Has 21 Y21)
  (O:U4 h p n A S) {R:Value->Za->Prop}
  (aj:(∀ k,k<n->A k=none)->R (.tuple #[.int .i64 0,.int .i64 0,.bool false]) h)
  (hr:∀ h' k c,Zrw n A k c->U4 h' p n (Zeq A k) S->Mod S h h'->R (.tuple #[.int .i64 k,.int .i64 c,.bool true]) h') :
  Zm Y 10 [.pointer (some ⟨p,0,none⟩)] h R:=by
 have OR:=O
 obtain ⟨row,D,r,Z,cs,ss,O,V,hc,hO,aa,hn,hA,hS⟩:=O
 refine .of_has H rfl ?_
 have e0:=O.rowN
 have az:row.length<=n:=by rw [aa]; exact Zns
 have ak:Zgu n (Qi D r)=Zgu n A:=Zi5 (fun k hk=>by rw [hA k hk])
 cases hl:row.length with
 | zero =>
  have hz:Z.n=0:=by omega
  simp [Y10,Xa.wp,O.p0,hz]
  exact aj (Zyv (by rw [<-ak,<-aa]; exact hl))
 | succ m =>
  have al:¬ ((m:Int)+1=0):=by omega
  have w1:IntKind.i64.wrap (m:Int)=(m:Int):=Ze (by omega)
  have am:Z.n=m+1:=by omega
  have I:0<row.length:=by omega
  have q0:Rm.hc h Z.b Z.o=some (.int .i64 (Yz row 0:Int)):=by have:=O.rowAt (i:=0) I; simpa using this
  have J:=V.len
  simp [Y10,Xa.wp,O.p0,am,al,w1,Zb O.row.ok,q0,I]
  refine Zhj Hs O (i:=0) (j:=m) (fun i hi=>by rw [J]; exact V.rv i hi) I (by omega) (by omega) ?_
  intro h1 O1 an
  have V1:=V.swap (i:=0) (j:=m) I (by omega)
  have ao:(Xp row 0 m).length=m+1:=by simpa using hl
  have ac:Yz (Xp row 0 m) m=Yz row 0:=by
   rw [Xf I (by omega)]; simp
   try (intro h; rw [h])
  have O2:=O1.cut (m:=m) (by omega)
  have hk:=V.rv 0 I
  generalize ae:Yz row 0=k at *
  have ad:k<(Ve row r 0 m).length:=by simpa [J] using hk
  have O3:=O2.setSeat ad 0
  simp only [Int.natCast_zero] at O3
  have ap:k<r.length:=by omega
  have V3:=Zs2 V1 ao
  rw [ac] at V3
  have aq:m<=Z.c:=by have:=O.row.ok.le; omega
  have af:=O1.blk
  have hfz:hfz h1 p 0=false:=af.hfz
  have e2:ss.n=r.length:=by have:=O2.seatsN; simpa using this
  have ar:k<D.length:=by omega
  simp [O1.p0,Zbq O1.row.ok,aq,Xg.open,hfz,O2.p2,Zb O2.seats.ok,e2,ad,ap,O2.seatF,O2.seatAt]
  have V3':Uy ((Xp row 0 m).take m) ((Ve row r 0 m).set k 0).length ((Ve row r 0 m).set k 0):=by
   have:((Ve row r 0 m).set k 0).length=n:=by simpa using J
   rw [this]; exact V3
  refine Zy2 Hd Ha Hs O3 V3' (by simp [J,hc]) (Z0o hO hl) (by simp; omega) ?_
  intro h' ab G O' V' au Or' av aw ax
  have e3:=O'.costsN
  simp [O'.p1,Zb O'.costs.ok,e3,ar,O'.costAt]
  have ag:∀ j,Yz (Ve row r 0 m) j=0↔Yz r j=0:=fun j=>Zou V I (by omega) j
  have M:∀ j,Yz G j=0↔(j=k\/Yz r j=0):=by
   intro j
   rw [aw j,Z7 ad]
   split
   ·rename_i h; simp [h]
   ·rename_i h; rw [ag j]; simp [h]
  have ah:Yz r k≠0:=by have:=V.rs 0 I; rw [ae] at this; omega
  have U:∀ j,Qi D G j=Zeq (Qi D r) k j:=by
   intro j
   unfold Zeq
   by_cases X:j=k
   ·subst X; simp [Qi,(M j).2 (.inl rfl)]
   ·rw [if_neg X]
    unfold Qi
    by_cases hz:Yz r j=0
    ·rw [if_pos hz,if_pos ((M j).2 (.inr hz))]
    ·rw [if_neg hz,if_neg (fun h=>by rcases (M j).1 h with h | h <;> contradiction)]
  have ai:Qi D r k=some (Zc D k):=by simp [Qi,ah]
  refine hr h' k (Zc D k) ⟨hk,by rw [hA k hk,ai],?_⟩ ⟨ab,D,G,{ Z with n:=m },cs,ss,O',?_,hc,Or',?_,hn,?_,hS⟩ ?_
  ·intro j d X hd
   rw [hA j X] at hd
   unfold Qi at hd
   by_cases hz:Yz r j=0
   ·rw [if_pos hz] at hd; cases hd
   ·rw [if_neg hz] at hd; cases hd
    obtain ⟨g1,g2⟩:=V.sv j X hz
    have:=hO.least _ g1
    rw [g2,ae] at this
    unfold klt at this
    omega
  ·have:G.length=n:=by rw [au]; simpa using J
   rw [<-this]; exact V'
  ·have h2:=Zk3 (A:=Qi D G) (B:=Qi D r) hk (fun j _ X=>by rw [U j]; simp [Zeq,X]) (by rw [U k]; simp [Zeq]) (by rw [ai]; rfl)
   have h3:ab.length=m:=by rw [av]; simp; omega
   omega
  ·intro j X
   rw [U j]
   unfold Zeq
   split
   ·rfl
   ·exact hA j X
  ·have hp:S p:=by rw [hS]; exact .inl rfl
   have ay:S ss.b:=by rw [hS]; exact .inr (.inr (.inl rfl))
   have aA:S Z.b:=by rw [hS]; exact .inr (.inr (.inr ⟨O.rnl I,rfl⟩))
   have g:∀ i,(i=Z.b\/i=ss.b)->S i:=by rintro i (rfl | rfl) <;> assumption
   exact (((an.mono fun i _ hi=>g i hi).trans (Mod.set hp)).trans (Mod.set ay)).then ax (fun i _ hi=>g i hi)
def Xdo (p n:Nat) (row:List Nat) (costs:List Int) (seats:List Nat) (rs cs ss:Sl) (h0:Za) (e:List Value) (h':Za):Prop :=
 ∃ (i:Nat) (seats':List Nat) (v1 v5:Value),e=[.pointer (some ⟨p,0,none⟩),v1,rs.v,.int .i64 row.length,.int .i64 i,v5]/\i<=row.length/\Yy h' p row costs seats' rs cs ss/\seats'.length=n /\
  (∀ j,j<n->Yz seats' j=0\/(Yz seats' j=Yz seats j/\i<Yz seats j))/\Mod (fun b=>b=ss.b) h0 h'
theorem Zuk (H:Y.Has 12 Y12) (O:U4 h p n A S) {R:Value->Za->Prop}
  (hr:∀ h',U4 h' p n (fun _=>none) S->Mod S h h'->R (.tuple #[]) h') :
  Zm Y 12 [.pointer (some ⟨p,0,none⟩)] h R:=by
 obtain ⟨row,D,G,rs,cs,ss,O,V,hc,hO,aa,hn,hA,hS⟩:=O
 refine .of_has H rfl ?_
 have e0:=O.rowN
 have af:row.length<=n:=by rw [aa]; exact Zns
 simp [Y12,Xa.wp,O.p0,e0]
 refine Zj (Xdo p n row D G rs cs ss h) (fun e _=>row.length-Zo e 4) ⟨0,G,_,_,rfl,by omega,O,V.len,?_,Mod.refl h⟩ ?_
 ·intro j _; omega
 rintro e h' ⟨i,r,v1,v5,rfl,Z,O1,ab,hz,hm⟩
 by_cases I:i<row.length
 ·have hk:=V.rv i I
  have J:Yz row i<r.length:=by omega
  have e2:=O1.seatsN
  have O2:Yy _ p row D (r.set (Yz row i) 0) rs cs ss:=O1.setSeat J 0
  simp only [Int.natCast_zero] at O2
  have w4:IntKind.i64.wrap ((i:Int)+1)=(i:Int)+1:=Ze (by omega)
  simp [I,Zb O.row.ok,Zb O1.seats.ok,e0,O1.rowAt,O1.p2,e2,J,O1.seatF,O1.seatAt,Xg.open,w4]
  refine ⟨⟨i+1,_,.int .i64 (Yz row i:Int),.bool true,by simp,by omega,O2,by simp [ab],?_,hm.trans (Mod.set rfl)⟩,by simp [Zo]; omega⟩
  intro j M
  rw [Z7 J]
  by_cases U:j=Yz row i
  ·rw [if_pos U]; exact .inl rfl
  ·rw [if_neg U]
   rcases hz j M with g | ⟨g1,g2⟩
   ·exact .inl g
   ·refine .inr ⟨g1,?_⟩
    have:=V.sv j M (by omega)
    have:Yz G j≠i+1:=fun e=>U (by rw [<-this.2,e]; rfl)
    omega
 ·have ae:¬ ((i:Int)<row.length):=by omega
  have O2:=O1.cut (m:=0) (by omega)
  have hfz:hfz h' p 0=false:=O1.blk.hfz
  simp [I,O1.p0,Zbq O1.row.ok,Xg.open,hfz]
  have X:∀ j,j<n->Yz r j=0:=by
   intro j M
   rcases hz j M with g | ⟨g1,g2⟩
   ·exact g
   ·have:=V.sv j M (by omega)
    omega
  have ac:Zgu n (Qi D r)=0:=by
   unfold Zgu
   rw [List.countP_eq_zero]
   intro k hk
   simp [Qi,X k (List.mem_range.1 hk)]
  refine hr _ ⟨[],D,r,{ rs with n:=0 },cs,ss,by simpa using O2,⟨ab,?_,?_,?_⟩,hc,?_,?_,hn,?_,hS⟩ ?_
  ·intro i Z; cases Z
  ·intro i Z; cases Z
  ·intro k hk h0; exact absurd (X k hk) h0
  ·intro j _ M; cases M
  ·rw [ac]; rfl
  ·intro k hk; simp [Qi,X k hk]
  ·have hp:S p:=by rw [hS]; exact .inl rfl
   have ad:S ss.b:=by rw [hS]; exact .inr (.inr (.inl rfl))
   exact (hm.mono (fun i _ Z=>by rw [Z]; exact ad)).trans (Mod.set hp)
theorem Zqf {a:Option Addr} {n c:Nat}:(Value.slice a n c).cells=#[.slice a n c]:=rfl
theorem Zyb {c:Array Value}:(Value.agg c).cells=c:=rfl
theorem Ys.of_new {b:Nat} {h:Za} {c:Array Value} {t:TypeId} (hb:b=h.size):Ys (h.push (.cells c t)) b c:=hb ▸ Ys.new
def Zh5 (k:Int):Nat:=if k<0 then 0 else if 16384<k then 16384 else k.toNat
theorem Zsp (H:Y.Has 6 Y6) {k:Int} {R:Value->Za->Prop}
  (U:∀ h' p S,U4 h' p (Zh5 k) (fun _=>none) S->(∀ b,S b->h.size<=b)->Ext h h'->R (.pointer (some ⟨p,0,none⟩)) h') :
  Zm Y 6 [.int .i64 k] h R:=by
 refine .of_has H rfl ?_
 have V:(if 16384<if k<0 then 0 else k then 16384 else if k<0 then 0 else k)=((Zh5 k:Nat):Int):=by
  unfold Zh5
  split <;> split <;> (try split) <;> omega
 have I:Zh5 k<=16384:=by unfold Zh5; split <;> (try split) <;> omega
 generalize X:Zh5 k=N at *
 have G:∀ (h':Za) (r D p:Nat),Ys h' r (Array.replicate N (.int .i64 0))->Ys h' D (Array.replicate N (.int .i64 0))->Ys h' p #[Sl.nil.v,(Sl.at r N N).v,(Sl.at D N N).v] ->
   h.size<=r->h.size<=D->h.size<=p->r≠D->p≠r->p≠D->Ext h h'->R (.pointer (some ⟨p,0,none⟩)) h':=by
  intro h' r D p B1 B2 B3 Z g2 g3 g4 g5 g6 he
  have J:∀ j,Yz (List.replicate N 0) j=0:=by intro j; simp [Yz,List.getElem?_replicate]; split <;> rfl
  refine U h' p (fpO p Sl.nil (Sl.at r N N) (Sl.at D N N)) ⟨[],List.replicate N 0,List.replicate N 0,Sl.nil,Sl.at r N N,Sl.at D N N,⟨B3,?_,?_,?_,rfl,rfl,g5,g6,g4,?_,?_,?_⟩,⟨by simp,?_,?_,?_⟩,by simp,?_,?_,I,?_,fun b=>Iff.rfl⟩ ?_ he
  ·exact Yb.nil
  ·refine ⟨by simp,.inr ⟨rfl,rfl,rfl,Xd6 _,by simp; omega,_,B1,by simp,by simp [Zg8]⟩⟩
  ·refine ⟨by simp,.inr ⟨rfl,rfl,rfl,Xd6 _,by simp; omega,_,B2,by simp,by simp [Zae]⟩⟩
  ·intro h; cases h
  ·intro h; cases h
  ·intro h; cases h
  ·intro i M; cases M
  ·intro i M; cases M
  ·intro k O h0; exact absurd (J k) h0
  ·intro j _ hj; cases hj
  ·symm; unfold Zgu; simp only [Xf4]; rw [List.countP_eq_zero]; intro k O; simp [Qi,J]
  ·intro k O; simp [Qi,J]
  ·rintro b (rfl | rfl | rfl | ⟨h,_⟩)
   ·exact g3
   ·exact Z
   ·exact g2
   ·cases h
 have b1:(N:Int)<=9223372036854775807:=by omega
 have b2:8 * (N:Int)<=281474976710656:=by omega
 simp [Y6,Xa.wp,V,Wx,Z8l,Vp,Yg.sem,Instr.fill,Zqf,Zyb,b1,b2]
 refine ⟨fun t1 t2 t3=>?_,fun t1 t2 t3=>?_⟩
 ·exact G _ h.size (h.size+1) (h.size+1+1) ((Ys.new.push).push) ((Ys.of_new (by simp)).push) (Ys.of_new (by simp)) (by omega) (by omega) (by omega) (by omega) (by omega) (by omega) ((Mod.push.trans Mod.push).trans Mod.push)
 ·exact G _ (h.size+1) h.size (h.size+1+1) ((Ys.of_new (by simp)).push) ((Ys.new.push).push) (Ys.of_new (by simp)) (by omega) (by omega) (by omega) (by omega) (by omega) (by omega) ((Mod.push.trans Mod.push).trans Mod.push)
end
end Go.Rm
