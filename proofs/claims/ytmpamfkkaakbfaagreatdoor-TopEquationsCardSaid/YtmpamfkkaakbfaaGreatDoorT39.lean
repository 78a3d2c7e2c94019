import Derived.Test.YtmpamfkkaakbfaaGreatDoorT38
import Derived.Test.YtmpamfkkaakbfaaGreatDoorT31
import Derived.Test.YtmpamfkkaakbfaaGreatDoorT29
/- Parts RAsk3 RAsk4 RAsk5 RAsk6 RAsk7 RAsk8 -/
set_option linter.unusedSimpArgs false
set_option linter.unusedVariables false
namespace Go.Rm
structure Qj where
 qp:Nat
 p:Nat
 op:Nat
 M:Nat
 bb:Nat
 s:Nat
 t:Nat
 sc:Sl
 sL:Sl
structure QS (h:Za) (J:Qj) (N:Zg) (S:Nat->Prop) (L:List (List Int)) (costs:List Int):Prop where
 blk:Ys h J.qp #[.pointer (some ⟨J.p,0,none⟩),.pointer (some ⟨J.op,0,none⟩),J.sc.v,.int .i64 J.s,.int .i64 J.t,J.sL.v,.map (some J.M),.slice (some ⟨J.bb,0,none⟩) N.as.length N.as.length]
 g:Yv h J.p N S
 v:Up h J.op N L
 rc:Zz h J.sc costs
 rl:Ql h J.sL L
def QF (h:Za) (W:Nat->Prop) (J:Qj) (N:Zg) (S:Nat->Prop) (L:List (List Int)) (costs:List Int):Prop:=∀ k,Mod W h k->QS k J N S L costs
theorem QF.now {h:Za} {W:Nat->Prop} {J:Qj} {N:Zg} {S:Nat->Prop} {L:List (List Int)} {costs:List Int} (q:QF h W J N S L costs):QS h J N S L costs:=q h (Mod.refl _)
theorem QF.then {h h':Za} {W W' S':Nat->Prop} {J:Qj} {N:Zg} {S:Nat->Prop} {L:List (List Int)} {costs:List Int} (q:QF h W J N S L costs) (m:Mod S' h h') (hs:∀ b,S' b->W b\/h.size<=b) (r:∀ b,W' b->W b\/h.size<=b):QF h' W' J N S L costs :=
 fun k mk=>q k ((m.mono fun i D h=>by rcases hs i h with q | q; exact q; omega).then mk fun i D h=>by rcases r i h with q | q; exact q; omega)
structure Z83 (Y:Sys):Prop where
 G:WkG Y
 A:Zfk Y
 S:Zrk Y
 level:Y.Has 364 Y364
 levelOf:Y.Has 401 Y401
 next:Y.Has 363 Y363
theorem Zn0 {N:Zg} (r:Yd N) {a:Nat} (D:a<N.as.length):toV N (a:Int)=(Xd N a:Int)/\Xd N a<N.vs.length:=by
 have hv:Zt N.as.length (a:Int)=true:=by simp [Zt]; omega
 have h:=(r.arcs a D).2
 simp [Zt] at h
 unfold toV Xd
 rw [if_pos hv]
 simp only [Xd9]
 omega
theorem Zzj {N:Zg} (r:Yd N) {a:Nat} (D:a<N.as.length):Zcq N (a:Int)=(Z0 N a:Int)/\Z0 N a<N.vs.length:=by
 have hv:Zt N.as.length (a:Int)=true:=by simp [Zt]; omega
 have h:=(r.arcs a D).1
 simp [Zt] at h
 unfold Zcq Z0
 rw [if_pos hv]
 simp only [Xd9]
 omega
section
variable {Y:Sys} {h h':Za} {J:Qj} {N:Zg} {S:Nat->Prop} {L:List (List Int)} {costs:List Int}
theorem Zia (X:Z83 Y) (q:QS h J N S L costs) (r:Yd N) (D:Yx N.vs.length L) {a:Nat} (H:a<N.as.length) (hs:J.s<N.as.length) (ht:J.t<N.as.length) {R:Value->Za->Prop}
  (I:R (.int .i64 (Vw (Uq L) (Xd N a) (Xd N J.s) (Z0 N J.t) L.length:Nat)) h):Zm Y 364 [.pointer (some ⟨J.qp,0,none⟩),.int .i64 a] h R:=by
 have bL:=D.bL
 have bn:=D.bn
 refine .of_has X.level rfl ?_
 simp [Y364,Xa.wp,q.blk.hc]
 refine Zak X.G.To X.G.arc q.g ?_
 simp [q.blk.hc]
 refine Zak X.G.To X.G.arc q.g ?_
 simp [q.blk.hc]
 refine Zbm X.G.From X.G.arc q.g ?_
 obtain ⟨M,O⟩:=Zn0 r H
 obtain ⟨e2,U⟩:=Zn0 r hs
 obtain ⟨e3,V⟩:=Zzj r ht
 rw [M,e2,e3]
 simp [q.blk.hc]
 refine Zo5 X.levelOf q.rl (by omega) (n:=N.vs.length) (fun i Z=>(Xi D Z).1) O U V (by omega) ?_
 simp
 exact I
def NxI (v0 v1 v3 v4 v5:Value) (u:Sl) (pb a:Nat) (N:Zg) (l:List Int) (h0:Za) (e:List Value) (h':Za):Prop :=
 ∃ (i:Nat) (P:List Int) (v8 v9 v10 v11 v12 v13 v14 v15 v19 v20 v21:Value),e=[v0,v1,.int .i64 a,v3,v4,v5,u.v,.slice (some ⟨pb,0,none⟩) l.length l.length,v8,v9,v10,v11,v12,v13,v14,v15,u.v,.int .i64 u.n,.int .i64 i,v19,v20,v21]/\i<=l.length/\Yb h' 1 (Sl.at pb l.length l.length) (Zh P)/\P.length=l.length/\(∀ j,j<i->Zc P j=Ye N a (Zc l j))/\Ext h0 h'
structure Xa9 (N:Zg) (L:List (List Int)) (costs:List Int) (s t a:Nat) (bs ps:List Int):Prop where
 len:bs.length=ps.length
 nat:∀ j,j<bs.length->∃ b:Nat,Zc bs j=b/\b<N.as.length
 pos:∀ j,j<bs.length->0<=Zc ps j/\Zc ps j<=Xr
 hop:∀ (b:Nat) w,Zdk N L.length (Uq L) (fun k=>Zbj N L costs (k-1)) s t a b w↔∃ j,j<bs.length/\Zc bs j=(b:Int)/\Zc ps j≠Xr/\Zl N b≠Xr/\w=Zc ps j+Zl N b
 bl:bs.length<=16384
set_option maxHeartbeats 1000000 in
theorem Zt6 (X:Z83 Y) {W:Nat->Prop} (q:QF h W J N S L costs) (gt:GtH h J.M W N L) (Z:Yd N) (pk:Yx N.vs.length L) (lc:costs.length=levelS N L L.length) (c0:∀ i,0<=Zc costs i/\Zc costs i<=Xr) (wc:costs≠[]->¬ W J.sc.b) {a:Nat} (ha:a<N.as.length) {R:Value->Za->Prop}
  (hr:∀ h' u w bs ps,Mod (fun j=>j=J.M) h h'->GtH h' J.M (fun j=>W j/\j<h.size) N L->Zz h' u bs->Zz h' w ps->(bs≠[]->¬ W u.b\/h.size<=u.b)->(ps≠[]->¬ W w.b\/h.size<=w.b)->Xa9 N L costs J.s J.t a bs ps->R (.tuple #[u.v,w.v]) h') :
  Zm Y 363 [.pointer (some ⟨J.qp,0,none⟩),.int .i64 (Vw (Uq L) (Xd N a) (Xd N J.s) (Z0 N J.t) L.length:Nat),.int .i64 a] h R:=by
 have hI:Xr=1152921504606846976:=rfl
 have bL:=pk.bL
 have bn:=pk.bn
 have ba:=Z.ba
 have qs:=q.now
 obtain ⟨e1,l1⟩:=Zn0 Z ha
 refine .of_has X.next rfl ?_
 generalize ac:Vw (Uq L) (Xd N a) (Xd N J.s) (Z0 N J.t) L.length=lv
 have aY:lv<=L.length:=by rw [<-ac]; exact Zix
 simp [Y363,Xa.wp,qs.blk.hc]
 refine Zak X.G.To X.G.arc qs.g ?_
 rw [e1]
 by_cases z:lv=0
 ·subst z
  simp [qs.blk.hc]
  refine Zi4 X.G.Outs X.G.vert X.G.CI qs.g (by omega) ?_
  intro h1 u x1 ou fu
  have aH:(if Zt N.vs.length (Xd N a:Int) then Uw N.as (Xd N a:Int) else [])=Xn N a:=by rw [<-e1]; rfl
  rw [aH] at ou
  have lu:=ou.row64.len
  have lo:=Zdl (N:=N) (a:=a)
  simp
  refine Zbd (n:=(Xn N a).length) (by omega) (by omega) ?_
  intro pb O aZ o2 x2 a0
  simp
  refine Zj (NxI (.pointer (some ⟨J.qp,0,none⟩)) (.int .i64 0) (.slice none 0 0) (.slice none 0 0) (.int .i64 (Xd N a)) u pb a N (Xn N a) h1) (fun e _=>(Xn N a).length-Zo e 18) ⟨0,_,_,_,_,_,_,_,_,_,_,_,_,by rw [<-lu]; rfl,by omega,o2,by simp,fun j r=>by omega,x2⟩ ?_
  rintro e U ⟨i,P,v8,v9,a1,a2,a3,a4,a5,a6,a7,a8,a9,rfl,hi,oP,lP,hP,x3⟩
  have am:=x1.trans x3
  have q3:=(q U (am.mono fun _ _ h=>h.elim))
  by_cases c:i<(Xn N a).length
  ·have c':(i:Int)<u.n:=by omega
   have c2:i<u.n:=by omega
   have w1:IntKind.i64.wrap ((i:Int)+1)=(i:Int)+1:=Ze (by omega)
   obtain ⟨b,eb,lb⟩:=Zf8 c
   have vb:=((ou.ext' x3).row64).val i c
   rw [eb] at vb
   have aI:∀ g,Yg.sem Y g (.idxa 1) [.slice (some ⟨pb,0,none⟩) (Xn N a).length (Xn N a).length,.int .i64 i]=some (.pointer (some ⟨pb,i,none⟩)):=fun g=>by
    have:=Vt (Y:=Y) (h:=g) (b:=pb) (sz:=1) (show (Xn N a).length<=9223372036854775807 by omega) c (Xd6 _)
    simpa using this
   simp [c',c2,Zb ou.ok,vb,q3.blk.hc]
   refine Zj2 X.G.Turn X.G.arc X.G.T q3.g Z ?_
   intro h4 e4
   simp [aI]
   refine Zlf (oP.ext' e4) (k:=i) (by simp; omega) ?_
   intro h5 o5 m5
   rw [X4] at o5
   have z1:=ou.lt
   simp [w1]
   refine ⟨⟨i+1,_,_,_,_,_,_,_,_,_,_,_,_,rfl,by omega,o5,by simp [lP],fun j r=>?_,Mod.ext (x3.trans e4) m5 (fun j r=>by omega)⟩,by simp [Zo]; omega⟩
   rw [Vr (by omega)]
   by_cases qj:j=i
   ·subst qj; simp [eb]
   ·simp [qj]; exact hP j (by omega)
  have c':¬ (i:Int)<u.n:=by omega
  have:i=(Xn N a).length:=by omega
  subst this
  simp [c']
  have aJ:∀ j,j<(Xn N a).length->0<=Zc P j/\Zc P j<=Xr:=fun j r=>by
   rw [hP j r]
   have:=Ws Z (a:=(a:Int)) (b:=Zc (Xn N a) j)
   omega
  refine hr U u (Sl.at pb _ _) (Xn N a) P (am.mono fun _ _ h=>h.elim) ((gt.mod am fun _ h=>h.elim).grow (fun b hb=>.inl hb.1) ⟨gt.wM,by obtain ⟨l,hM,_⟩:=gt.ex; exact hM.lt⟩) (ou.ext' x3).row64 oP.row64 (fun V=>.inr (fu (by
   cases H:u.nl with
   | false=>rfl
   | true=>have:=(ou.ok.nil H).1; exact absurd (List.length_eq_zero_iff.1 (by omega)) V))) (fun _=>.inr (by simp only [Sl.at_b]; have:=x1.size; omega)) ⟨lP.symm,fun j r=>Zf8 r,aJ,fun b w=>?_,by omega⟩
  unfold Zdk
  rw [ac]
  simp only [if_true]
  constructor
  ·rintro ⟨h1,O,U⟩
   obtain ⟨j,r,ej⟩:=Zk.1 (Zj8 h1)
   have:=hP j r
   rw [ej] at this
   exact ⟨j,r,ej,by rw [this]; exact h1,O,by rw [this]; exact U⟩
  ·rintro ⟨j,r,ej,h1,O,U⟩
   have:=hP j r
   rw [ej] at this
   rw [this] at h1 U
   exact ⟨h1,O,U⟩
 obtain ⟨k,rfl⟩:∃ k,lv=k+1:=⟨lv-1,by omega⟩
 have hk:k<L.length:=by omega
 obtain ⟨c,ec,ag⟩:=Zko pk Z hk ha
 obtain ⟨ru,aK,an⟩:=qs.rl.val k hk
 have bb:=qs.rl.len
 have bc:=an.len
 have z2:¬ ((k:Int)+1=0):=by omega
 have wk:IntKind.i64.wrap ((k:Int)+1-1)=(k:Int):=by rw [Ze (by omega)]; omega
 have aL:IntKind.i64.wrap (k:Int)=(k:Int):=Ze (by omega)
 have bd:=(Xi pk hk).1
 have vc:=an.val (Xd N a) (by omega)
 rw [ec] at vc
 simp [z2,qs.blk.hc,wk,aL,Zb qs.rl.ok,show k<J.sL.n by omega,aK,Zb an.ok,show Xd N a<ru.n by omega,vc]
 have aA:∀ g,Yg.sem Y g (.buildA 1 #[.int .i64 0,.int .i64 0] [0,1]) [.int .i64 ((k:Int)+1),.int .i64 c]=some (Ze7 (k+1,c)):=fun g=>by
  simp [Yg.sem,Instr.fill,Value.cells,Ze7]
 obtain ⟨l,hM,hl⟩:=gt.ex
 have aM:=Zze (Y:=Y) hM (x:=(k+1,c)) (z:=.agg #[.slice none 0 0,.slice none 0 0])
 simp [aA,aM]
 refine Zd ?_
 intro D h1 gD D1 x1
 replace D1:Ys h1 D #[.slice none 0 0,.slice none 0 0]:=D1
 simp
 cases hv:Zdo l (k+1,c) with
 | some vv =>
  obtain ⟨a',b,e,aB,aC,na,aD⟩:=(hl _ (Zx2 hv)).ex
  simp only [Xgi] at aB aC na aD
  subst e
  simp
  refine Zi (vs:=#[a'.v,b.v]) D1 rfl rfl (by simp) ?_
  intro O D2 m2
  have x2:Ext h O:=Mod.toExtF x1 m2 gD
  have al:Mod (fun j=>j=J.M) h O:=x2.mono fun _ _ h=>h.elim
  have aN:=(gt.mod x2 (fun _ h=>h.elim)).grow (W':=fun j=>W j/\j<h.size) (fun b hb=>.inl hb.1) ⟨gt.wM,hM.lt⟩
  have ra:=aB.ext x2
  have rb:=aC.ext x2
  have nb:Zn N L k true c≠[]->¬ W b.b\/h.size<=b.b:=fun V=>.inl (aD V)
  have aO:=ra.len
  have aP:=Wb (N:=N) (L:=L) (k:=k) (c:=c) (x:=false)
  have aQ:=rb.len
  have ah:=(q O (al.mono fun _ _ h=>by rw [h]; exact gt.wM))
  simp [D2.hc]
  refine Zax X.S ra (by omega) Xc ?_
  simp [ah.blk.hc]
  refine Zb2 X.A ah.v Z pk hk ag ?_
  intro hy ey
  have qy:=(q hy ((al.mono fun _ _ h=>by rw [h]; exact gt.wM).then ey fun _ _ h=>h.elim))
  have xy:Mod (fun j=>j=J.M) h hy:=al.then ey fun _ _ h=>h.elim
  have ae:=aN.mod ey (fun _ h=>h.elim)
  have ao:=rb.ext ey
  have zy:=al.size
  by_cases aa:(a:Int)∈Zn N L k false c
  rotate_left
  ·have hp:=Zbh aa
   rw [hp]
   simp
   refine hr hy Sl.nil Sl.nil [] [] xy ae ⟨Sl.nil_ok,rfl,fun i hi=>by simp at hi⟩ ⟨Sl.nil_ok,rfl,fun i hi=>by simp at hi⟩ (fun h=>absurd rfl h) (fun h=>absurd rfl h) ⟨rfl,fun j r=>by simp at r,fun j r=>by simp at r,fun b w=>?_,by simp⟩
   unfold Zdk
   rw [ac]
   simp only [Xgn,if_false]
   constructor
   ·rintro ⟨h1,_⟩
    exact absurd ((X5 pk Z hk).2 ⟨ha,h1,ec⟩) aa
   ·rintro ⟨j,r,_⟩
    simp at r
  obtain ⟨i,li,ei⟩:=Zk.1 aa
  have hp:=Xb (l:=Zn N L k false c) Xc.once li
  rw [ei] at hp
  rw [hp]
  have ai:¬ (i:Int)<0:=by omega
  by_cases aE:(Zn N L k true c).length=0
  ·have he:enV N L k c i 0 = -1:=by
    unfold enV
    rw [if_neg (by omega)]
   simp [ai,he,(D2.ext ey).hc,qy.blk.hc]
   refine hr hy Sl.nil Sl.nil [] [] xy ae ⟨Sl.nil_ok,rfl,fun i hi=>by simp at hi⟩ ⟨Sl.nil_ok,rfl,fun i hi=>by simp at hi⟩ (fun h=>absurd rfl h) (fun h=>absurd rfl h) ⟨rfl,fun j r=>by simp at r,fun j r=>by simp at r,fun b w=>?_,by simp⟩
   unfold Zdk
   rw [ac]
   simp only [Xgn,if_false]
   constructor
   ·rintro ⟨h1,O,U,h4,h5,_⟩
    obtain ⟨b',ap,aq⟩:=Qa h5
    have af:(b:Int)∈Zn N L k true c:=(Ud pk Z hk).2 ⟨by omega,fun e=>U (by rw [<-O]; exact e.symm),by rw [<-ec]; exact O⟩
    exact absurd (Xho af) (by omega)
   ·rintro ⟨j,r,_⟩
    simp at r
  obtain ⟨p0,p1⟩:=Zpl hk ag li (by omega)
  obtain ⟨f,hf⟩:∃ f:Nat,enV N L k c i 0=f:=⟨(enV N L k c i 0).toNat,by omega⟩
  have aR:=qy.rc.len
  have lgo:=Wb (N:=N) (L:=L) (k:=k) (c:=c) (x:=true)
  rw [hf] at p1 ⊢
  rw [<-lc] at p1
  have bS:=Q2 Z pk (k:=L.length) (Xd6 _)
  have wf:IntKind.i64.wrap ((f:Int)+(b.n:Int))=((f+b.n:Nat):Int):=by rw [Ze (by omega)]; omega
  have d1:¬ (f:Int)<0:=by omega
  have d2:¬ J.sc.n<f+b.n:=by omega
  have d3:¬ ((J.sc.n:Int)<((f+b.n:Nat):Int)):=by omega
  have aF:=qy.rc.ok.le
  have I:=Zdj (Y:=Y) (h:=hy) (s:=J.sc) (sz:=1) (k:=.i64) (k':=.i64) (i:=(f:Int)) (j:=((f+b.n:Nat):Int)) qy.rc.ok (by omega) (by omega) (by omega)
  rw [if_neg (by omega)] at I
  simp only [Xd9,Xej,Xhw] at I
  generalize hw:({ J.sc with o:=J.sc.o+f,n:=b.n,c:=J.sc.c-f }:Sl)=w at I
  have ar:J.sc.nl=false:=by
   cases H:J.sc.nl with
   | false=>rfl
   | true=>have:=(qy.rc.ok.nil H).1; omega
  have au:w.ok:=by rw [<-hw]; exact ⟨fun h=>(by rw [show _=J.sc.nl from rfl,ar] at h; cases h),by show b.n<=J.sc.c-f; omega,.inl (by rcases qy.rc.ok.spot with q | q; exact q; omega)⟩
  have wb:w.b=J.sc.b:=by rw [<-hw]
  have av:Zz hy w ((costs.drop f).take b.n):=by
   refine ⟨au,by rw [<-hw]; simp; omega,fun j r=>?_⟩
   simp at r
   have:=qy.rc.val (f+j) (by omega)
   rw [wb,show w.o=J.sc.o+f by rw [<-hw],Xe4,this]
   simp [Zc,Xen,Xfg,show j<b.n by omega]
  have ab:∀ j,j<(Zn N L k true c).length->Zc ((costs.drop f).take b.n) j=Zc costs (f+j):=fun j r=>by simp [Zc,Xen,Xfg,show j<b.n by omega]
  have ad:∀ j,j<(Zn N L k true c).length->∀ b:Nat,Zc (Zn N L k true c) j=b->Zbj N L costs k a b=Zc costs (f+j):=fun j r b hb=>by
   unfold Zbj
   rw [ec]
   simp only [Xd9]
   have pu:=Xb (l:=Zn N L k true c) Xc.once r
   rw [hb] at pu
   rw [hp,pu]
   have:=Z32 (N:=N) (L:=L) (k:=k) (q:=c) (i:=(i:Int)) (j:=j) (by omega) (by omega) r
   congr 1
   omega
  simp [ai,d1,d2,d3,(D2.ext ey).hc,qy.blk.hc,wf,I,-Int.natCast_add]
  refine hr hy b w (Zn N L k true c) ((costs.drop f).take b.n) xy ae ao av nb (fun _=>.inl (by rw [wb]; exact wc (fun e=>by rw [e] at p1; simp at p1; omega))) ⟨by simp; omega,fun j r=>Vg pk Z hk (Zk.2 ⟨j,r,rfl⟩),fun j r=>by rw [ab j r]; exact c0 _,fun b w'=>?_,by omega⟩
  unfold Zdk
  rw [ac]
  simp only [Xgn,if_false,Xgi]
  constructor
  ·rintro ⟨h1,O,U,h4,h5,h6⟩
   obtain ⟨b',ap,aq⟩:=Qa h5
   have af:(b:Int)∈Zn N L k true c:=(Ud pk Z hk).2 ⟨by omega,fun e=>U (by rw [<-O]; exact e.symm),by rw [<-ec]; exact O⟩
   obtain ⟨j,r,ej⟩:=Zk.1 af
   rw [ad j r b ej] at h4 h6
   exact ⟨j,r,ej,by rw [ab j r]; exact h4,h5,by rw [ab j r]; exact h6⟩
  ·rintro ⟨j,r,ej,h1,O,U⟩
   rw [ab j r] at h1 U
   rw [<-ad j r b ej] at h1 U
   obtain ⟨lb,hx,aj⟩:=(Ud pk Z hk).1 (Zk.2 ⟨j,r,ej⟩)
   have aw:=(X5 pk Z hk).1 aa
   refine ⟨aw.2.1,?_,fun e=>hx ?_,h1,O,U⟩
   ·show Zc (Zq L k) (Z0 N b)=Zc (Zq L k) (Xd N a)
    rw [aj,ec]
   ·rw [aj]
    exact (ec.symm.trans e.symm)
 | none =>
  simp
  refine Zi (vs:=#[.slice none 0 0,.slice none 0 0]) D1 rfl rfl (by simp) ?_
  intro O D2 m2
  have x2:Ext h O:=Mod.toExtF x1 m2 gD
  have q2:=q O (x2.mono fun _ _ h=>h.elim)
  simp [q2.blk.hc]
  refine Zca X.A q2.v Z pk hk ag ?_
  intro U a' b x3 oa ob fa fb
  simp
  refine Zi (vs:=#[a'.v,b.v]) (D2.ext x3) rfl rfl (by simp) ?_
  intro h4 D4 m4
  have z2:=x2.size
  have z3:=x3.size
  have x4:Ext h h4:=Mod.ext (x2.trans x3) m4 (fun j r=>by omega)
  have q4:=q h4 (x4.mono fun _ _ h=>h.elim)
  have lM:=hM.lt
  have aS:=hM.mod x4 (fun h=>h)
  have lD:=D2.lt
  have aT:=oa.mod m4 (fun V=>by have:=oa.lt V; rcases fa with e | e; rw [V] at e; cases e; omega)
  have aU:=ob.mod m4 (fun V=>by have:=ob.lt V; rcases fb with e | e; rw [V] at e; cases e; omega)
  simp [q4.blk.hc,aA,Zy D4]
  refine Z2h aS hv ?_
  intro h5 aV m5
  have z4:=x4.size
  have aG:Zn N L k false c≠[]->h.size<=a'.b/\a'.nl=false:=fun V=>by
   have H:a'.nl=false:=by
    cases H:a'.nl with
    | false=>rfl
    | true=>have:=(oa.ok.nil H).1; have:=oa.row64.len; exact absurd (List.length_eq_zero_iff.1 (by omega)) V
   rcases fa with e | e
   ·rw [H] at e; cases e
   ·exact ⟨by omega,H⟩
  have ax:Zn N L k true c≠[]->h.size<=b.b/\b.nl=false:=fun V=>by
   have H:b.nl=false:=by
    cases H:b.nl with
    | false=>rfl
    | true=>have:=(ob.ok.nil H).1; have:=ob.row64.len; exact absurd (List.length_eq_zero_iff.1 (by omega)) V
   rcases fb with e | e
   ·rw [H] at e; cases e
   ·exact ⟨by omega,H⟩
  have ay:Zz h5 a' (Zn N L k false c):=aT.row64.mod m5 (fun V=>by have:=(aG V).1; omega)
  have az:Zz h5 b (Zn N L k true c):=aU.row64.mod m5 (fun V=>by have:=(ax V).1; omega)
  have D5:=m5.blk D4 (by omega)
  have ak:Mod (fun j=>j=J.M) h h5:=(x4.mono fun _ _ h=>h.elim).trans m5
  have be:∀ b,W b->b<h.size\/h.size<=b:=fun b _=>by omega
  have aW:GtH h5 J.M (fun j=>W j/\j<h.size) N L:=by
   refine ⟨⟨_,aV,fun p hp=>?_⟩,gt.wM,lM⟩
   rcases List.mem_append.1 hp with w | w
   ·exact ((hl p w).mod (W:=W) ak (fun j r=>by rw [r]; exact .inl gt.wM)).grow (fun j r=>.inl r.1)
   ·simp at w
    subst w
    exact ⟨a',b,rfl,ay,az,fun V hw=>by have:=(aG V).1; omega,fun V hw=>by have:=(ax V).1; omega⟩
  have aX:Zn N L k true c≠[]->¬ W b.b\/h.size<=b.b:=fun V=>.inr (ax V).1
  have aO:=ay.len
  have aP:=Wb (N:=N) (L:=L) (k:=k) (c:=c) (x:=false)
  have aQ:=az.len
  have ah:=(q h5 (ak.mono fun _ _ h=>by rw [h]; exact gt.wM))
  simp [D5.hc]
  refine Zax X.S ay (by omega) Xc ?_
  simp [ah.blk.hc]
  refine Zb2 X.A ah.v Z pk hk ag ?_
  intro hy ey
  have qy:=(q hy ((ak.mono fun _ _ h=>by rw [h]; exact gt.wM).then ey fun _ _ h=>h.elim))
  have xy:Mod (fun j=>j=J.M) h hy:=ak.then ey fun _ _ h=>h.elim
  have ae:=aW.mod ey (fun _ h=>h.elim)
  have ao:=az.ext ey
  have zy:=ak.size
  by_cases aa:(a:Int)∈Zn N L k false c
  rotate_left
  ·have hp:=Zbh aa
   rw [hp]
   simp
   refine hr hy Sl.nil Sl.nil [] [] xy ae ⟨Sl.nil_ok,rfl,fun i hi=>by simp at hi⟩ ⟨Sl.nil_ok,rfl,fun i hi=>by simp at hi⟩ (fun h=>absurd rfl h) (fun h=>absurd rfl h) ⟨rfl,fun j r=>by simp at r,fun j r=>by simp at r,fun b w=>?_,by simp⟩
   unfold Zdk
   rw [ac]
   simp only [Xgn,if_false]
   constructor
   ·rintro ⟨h1,_⟩
    exact absurd ((X5 pk Z hk).2 ⟨ha,h1,ec⟩) aa
   ·rintro ⟨j,r,_⟩
    simp at r
  obtain ⟨i,li,ei⟩:=Zk.1 aa
  have hp:=Xb (l:=Zn N L k false c) Xc.once li
  rw [ei] at hp
  rw [hp]
  have ai:¬ (i:Int)<0:=by omega
  by_cases aE:(Zn N L k true c).length=0
  ·have he:enV N L k c i 0 = -1:=by
    unfold enV
    rw [if_neg (by omega)]
   simp [ai,he,(D5.ext ey).hc,qy.blk.hc]
   refine hr hy Sl.nil Sl.nil [] [] xy ae ⟨Sl.nil_ok,rfl,fun i hi=>by simp at hi⟩ ⟨Sl.nil_ok,rfl,fun i hi=>by simp at hi⟩ (fun h=>absurd rfl h) (fun h=>absurd rfl h) ⟨rfl,fun j r=>by simp at r,fun j r=>by simp at r,fun b w=>?_,by simp⟩
   unfold Zdk
   rw [ac]
   simp only [Xgn,if_false]
   constructor
   ·rintro ⟨h1,O,U,h4,h5,_⟩
    obtain ⟨b',ap,aq⟩:=Qa h5
    have af:(b:Int)∈Zn N L k true c:=(Ud pk Z hk).2 ⟨by omega,fun e=>U (by rw [<-O]; exact e.symm),by rw [<-ec]; exact O⟩
    exact absurd (Xho af) (by omega)
   ·rintro ⟨j,r,_⟩
    simp at r
  obtain ⟨p0,p1⟩:=Zpl hk ag li (by omega)
  obtain ⟨f,hf⟩:∃ f:Nat,enV N L k c i 0=f:=⟨(enV N L k c i 0).toNat,by omega⟩
  have aR:=qy.rc.len
  have lgo:=Wb (N:=N) (L:=L) (k:=k) (c:=c) (x:=true)
  rw [hf] at p1 ⊢
  rw [<-lc] at p1
  have bS:=Q2 Z pk (k:=L.length) (Xd6 _)
  have wf:IntKind.i64.wrap ((f:Int)+(b.n:Int))=((f+b.n:Nat):Int):=by rw [Ze (by omega)]; omega
  have d1:¬ (f:Int)<0:=by omega
  have d2:¬ J.sc.n<f+b.n:=by omega
  have d3:¬ ((J.sc.n:Int)<((f+b.n:Nat):Int)):=by omega
  have aF:=qy.rc.ok.le
  have I:=Zdj (Y:=Y) (h:=hy) (s:=J.sc) (sz:=1) (k:=.i64) (k':=.i64) (i:=(f:Int)) (j:=((f+b.n:Nat):Int)) qy.rc.ok (by omega) (by omega) (by omega)
  rw [if_neg (by omega)] at I
  simp only [Xd9,Xej,Xhw] at I
  generalize hw:({ J.sc with o:=J.sc.o+f,n:=b.n,c:=J.sc.c-f }:Sl)=w at I
  have ar:J.sc.nl=false:=by
   cases H:J.sc.nl with
   | false=>rfl
   | true=>have:=(qy.rc.ok.nil H).1; omega
  have au:w.ok:=by rw [<-hw]; exact ⟨fun h=>(by rw [show _=J.sc.nl from rfl,ar] at h; cases h),by show b.n<=J.sc.c-f; omega,.inl (by rcases qy.rc.ok.spot with q | q; exact q; omega)⟩
  have wb:w.b=J.sc.b:=by rw [<-hw]
  have av:Zz hy w ((costs.drop f).take b.n):=by
   refine ⟨au,by rw [<-hw]; simp; omega,fun j r=>?_⟩
   simp at r
   have:=qy.rc.val (f+j) (by omega)
   rw [wb,show w.o=J.sc.o+f by rw [<-hw],Xe4,this]
   simp [Zc,Xen,Xfg,show j<b.n by omega]
  have ab:∀ j,j<(Zn N L k true c).length->Zc ((costs.drop f).take b.n) j=Zc costs (f+j):=fun j r=>by simp [Zc,Xen,Xfg,show j<b.n by omega]
  have ad:∀ j,j<(Zn N L k true c).length->∀ b:Nat,Zc (Zn N L k true c) j=b->Zbj N L costs k a b=Zc costs (f+j):=fun j r b hb=>by
   unfold Zbj
   rw [ec]
   simp only [Xd9]
   have pu:=Xb (l:=Zn N L k true c) Xc.once r
   rw [hb] at pu
   rw [hp,pu]
   have:=Z32 (N:=N) (L:=L) (k:=k) (q:=c) (i:=(i:Int)) (j:=j) (by omega) (by omega) r
   congr 1
   omega
  simp [ai,d1,d2,d3,(D5.ext ey).hc,qy.blk.hc,wf,I,-Int.natCast_add]
  refine hr hy b w (Zn N L k true c) ((costs.drop f).take b.n) xy ae ao av aX (fun _=>.inl (by rw [wb]; exact wc (fun e=>by rw [e] at p1; simp at p1; omega))) ⟨by simp; omega,fun j r=>Vg pk Z hk (Zk.2 ⟨j,r,rfl⟩),fun j r=>by rw [ab j r]; exact c0 _,fun b w'=>?_,by omega⟩
  unfold Zdk
  rw [ac]
  simp only [Xgn,if_false,Xgi]
  constructor
  ·rintro ⟨h1,O,U,h4,h5,h6⟩
   obtain ⟨b',ap,aq⟩:=Qa h5
   have af:(b:Int)∈Zn N L k true c:=(Ud pk Z hk).2 ⟨by omega,fun e=>U (by rw [<-O]; exact e.symm),by rw [<-ec]; exact O⟩
   obtain ⟨j,r,ej⟩:=Zk.1 af
   rw [ad j r b ej] at h4 h6
   exact ⟨j,r,ej,by rw [ab j r]; exact h4,h5,by rw [ab j r]; exact h6⟩
  ·rintro ⟨j,r,ej,h1,O,U⟩
   rw [ab j r] at h1 U
   rw [<-ad j r b ej] at h1 U
   obtain ⟨lb,hx,aj⟩:=(Ud pk Z hk).1 (Zk.2 ⟨j,r,ej⟩)
   have aw:=(X5 pk Z hk).1 aa
   refine ⟨aw.2.1,?_,fun e=>hx ?_,h1,O,U⟩
   ·show Zc (Zq L k) (Z0 N b)=Zc (Zq L k) (Xd N a)
    rw [aj,ec]
   ·rw [aj]
    exact (ec.symm.trans e.symm)
end
section
variable {Y:Sys} {h h':Za}
theorem Zow {K:Value->Za->Prop} {b o n:Nat} {c vs c':Array Value} (hb:Ys h b c) (r:vs.size=n) (J:o+n<=c.size) (h1:∀ v∈vs.toList,v.oneCell'=true)
  (hc':(c.toList.take o++vs.toList++c.toList.drop (o+n)).toArray=c')
  (D:∀ h',Ys h' b c'->Mod (fun j=>j=b) h h'->K undef h'):Ef.wp h K (.store n) [.pointer (some ⟨b,o,none⟩),.agg vs]:=by
 obtain ⟨h',G,H,I,M⟩:=Zeu (o:=o) (vs:=vs.toList) hb (by simp; omega) h1
 refine ⟨r,?_⟩
 simp only [Zf4,G]
 refine D h' ?_ I
 rw [<-hc']
 have:vs.toList.length=n:=by simpa using r
 rw [<-this]
 exact H
theorem Zfe {K:Value->Za->Prop} {s:Sl} {l:List (Value × Value × Value)} {i:Nat} {x y z:Value} (o:Yb h 3 s (Zs l)) (I:i<l.length) (hx:x.oneCell'=true) (hy:y.oneCell'=true) (hz:z.oneCell'=true)
  (J:∀ h',Yb h' 3 s (Zs (l.set i (x,y,z)))->Mod (fun j=>j=s.b) h h'->K undef h'):Ef.wp h K (.store 3) [.pointer (some ⟨s.b,s.o+i * 3,none⟩),.agg #[x,y,z]]:=by
 have M:=o.n3
 rcases o.2 with ⟨rfl,_⟩ | ⟨h1,H,G,O,h4,r,hb,R,ht⟩
 ·have:l.length=0:=M; omega
 refine Zow (vs:=#[x,y,z]) (c':=(r.toList.take (s.o+i * 3)++[x,y,z]++r.toList.drop (s.o+i * 3+3)).toArray) hb rfl (by omega) (by intro v hv; simp at hv; rcases hv with rfl | rfl | rfl <;> assumption) (by simp) ?_
 intro h' b' m
 refine J h' ⟨by rw [Zx,List.length_set]; omega,.inr ⟨h1,H,G,O,h4,_,b',by simp; omega,?_⟩⟩ m
 rw [Zfi I,H,Xes,<-ht]
 have D:r.toList.length=s.c * 3:=by simpa using R
 simp only [Xe6]
 rw [List.take_append,Xgy,Xex,D]
 have U:min (s.n * 3) (i * 3)=i * 3:=by omega
 have e2:min (i * 3) (s.c * 3)=i * 3:=by omega
 have e3:min (i * 3) (s.n * 3)=i * 3:=by omega
 rw [U,e2,Xgy,e3]
 congr 1
 rw [show s.n * 3-i * 3=3+(s.n * 3-(i * 3+3)) by omega]
 simp only [Xga,List.nil_append]
 rw [show 3+(s.n * 3-(i * 3+3))=(s.n * 3-(i * 3+3))+1+1+1 by omega]
 simp only [Xht]
 congr 3
 rw [List.drop_take]
def R3I (s:Sl) (l:List Yp) (h0:Za) (e:List Value) (h':Za):Prop :=
 ∃ (i:Nat) (v3:Value),e=[s.v,.int .i64 i,.int .i64 ((l.length:Int)-1-i),v3]/\i<=l.length/\Mod (fun j=>l≠[]/\j=s.b) h0 h'/\∃ c:List Yp,c.length=l.length/\Yb h' 3 s (Zs (c.map Xm))/\∀ k,k<l.length->Zf c k=if k<i\/l.length-1-k<i then Zf l (l.length-1-k) else Zf l k
theorem Zxz (H:Y.Has 400 Y400) {s:Sl} {l:List Yp} (o:Yb h 3 s (Zs (l.map Xm))) (aa:l.length<=1000000)
  {R:Value->Za->Prop} (hr:∀ h',Mod (fun j=>l≠[]/\j=s.b) h h'->Yb h' 3 s (Zs (l.reverse.map Xm))->R (.tuple #[]) h'):Zm Y 400 [s.v] h R:=by
 have sl:l.length=s.n:=by have:=o.n3; simpa using this
 have ok:=o.ok
 have w0:IntKind.i64.wrap ((s.n:Int)-1)=(l.length:Int)-1:=by rw [Ze (by omega)]; omega
 refine .of_has H rfl ?_
 simp [Y400,Xa.wp,w0]
 refine Zj (R3I s l h) (fun e _=>l.length-Zo e 1) ⟨0,_,by simp; rfl,by omega,Mod.refl _,l,rfl,o,fun k I=>by rw [if_neg (by omega)]⟩ ?_
 rintro e h2 ⟨i,v3,rfl,hi,m2,c,hc,o2,r⟩
 by_cases q:(i:Int)<(l.length:Int)-1-i
 ·obtain ⟨j,M⟩:∃ j:Nat,(l.length:Int)-1-i=j:=⟨l.length-1-i,by omega⟩
  have D:l≠[]:=fun e=>by rw [e] at M; simp at M; omega
  have O:i<j:=by omega
  have G:j<l.length:=by omega
  have q':(i:Int)<(j:Int):=by omega
  have U:∀ g (z:Nat),z<l.length->Yg.sem Y g (.idxa 3) [s.v,.int .i64 z]=some (.pointer (some ⟨s.b,s.o+z * 3,none⟩)):=fun g z lz=>by
   rw [Zb ok (by omega) (by omega)]; simp
  have k1:=o2.row3.rd (i:=i) (by omega)
  have k2:=o2.row3.rd (i:=j) (by omega)
  have w1:IntKind.i64.wrap ((i:Int)+1)=(i:Int)+1:=Ze (by omega)
  have w2:IntKind.i64.wrap ((j:Int)-1)=(j:Int)-1:=Ze (by omega)
  rw [M]
  simp [q',O,U _ _ G,U _ i (by omega),k1,k2]
  refine Zfe o2 (i:=i) (by simp; omega) rfl rfl rfl ?_
  intro h3 o3 m3
  have e3:(c.map Xm).set i (Xm (Zf c j))=(c.set i (Zf c j)).map Xm:=by simp only [Xfb]
  rw [show ((.int .i64 (Zf c j).a,.int .i64 (Zf c j).b,.int .i64 (Zf c j).c):Value × Value × Value)=Xm (Zf c j) from rfl,e3] at o3
  simp [U _ _ G]
  refine Zfe o3 (i:=j) (by simp; omega) rfl rfl rfl ?_
  intro h4 o4 m4
  have e4:((c.set i (Zf c j)).map Xm).set j (Xm (Zf c i))=((c.set i (Zf c j)).set j (Zf c i)).map Xm:=by simp only [Xfb]
  rw [show ((.int .i64 (Zf c i).a,.int .i64 (Zf c i).b,.int .i64 (Zf c i).c):Value × Value × Value)=Xm (Zf c i) from rfl,e4] at o4
  simp [w1,w2]
  refine ⟨⟨i+1,.bool true,?_,by omega,(m2.trans (m3.mono fun _ _ e=>⟨D,e⟩)).trans (m4.mono fun _ _ e=>⟨D,e⟩),_,by simp [hc],o4,fun k I=>?_⟩,?_⟩
  ·have:(j:Int)-1=(l.length:Int)-1-((i+1:Nat):Int):=by omega
   rw [this]; rfl
  ·rw [Zet (by simp; omega),Zet (by omega)]
   have V:j=l.length-1-i:=by omega
   have J:=r i (by omega)
   have X:=r j (by omega)
   rw [if_neg (by omega)] at J
   rw [if_neg (by omega)] at X
   by_cases Z:k=j
   ·subst Z
    rw [if_pos rfl,if_pos (.inr (by omega)),J]
    congr 1; omega
   ·by_cases e2:k=i
    ·subst e2
     rw [if_neg Z,if_pos rfl,if_pos (.inl (by omega)),X,V]
    ·rw [if_neg Z,if_neg e2,r k I]
     by_cases e3:k<i\/l.length-1-k<i
     ·rw [if_pos e3,if_pos (by omega)]
     ·rw [if_neg e3,if_neg (by omega)]
  ·simp [Zo]; omega
 ·simp [q]
  have:c=l.reverse:=by
   apply Xem (by simp [hc])
   intro k J X
   have I:k<l.length:=by omega
   have:=r k I
   rw [Wj J] at this
   rw [this,List.getElem_reverse,<-Wj (by omega)]
   split
   ·rfl
   ·congr 1; omega
  subst this
  exact hr h2 m2 o2
inductive Zo7 (B:List Int) (s:Nat):Nat->List (Nat × Nat)->Prop
 | nil:Zo7 B s s []
 | snoc {a b:Nat} {l:List (Nat × Nat)}:Zo7 B s a l->Zc B b=(a:Int)->b≠s->Zo7 B s b (l++[(a,b)])
def lvQ (N:Zg) (L:List (List Int)) (s t a:Nat):Nat:=Vw (Uq L) (Xd N a) (Xd N s) (Z0 N t) L.length
def Ztb (N:Zg) (L:List (List Int)) (s t:Nat) (p:Nat × Nat):Yp:=⟨(lvQ N L s t p.1:Nat),p.1,p.2⟩
def Z05 (ord:List Nat) (s n:Nat) (B:List Int):Prop:=∀ i (hi:i<ord.length),ord[i]<n/\(ord[i]=s\/∃ j,∃ hj:j<i,Zc B ord[i]=((ord[j]'(by omega):Nat):Int))
structure Z9x (Y:Sys):Prop where
 Q:Z83 Y
 hops:Y.Has 362 Y362
 Rev:Y.Has 400 Y400
def HpI (qp s t:Nat) (N:Zg) (L:List (List Int)) (B:List Int) (ord:List Nat) (h0:Za) (m:Nat) (e:List Value) (h':Za):Prop :=
 ∃ (b:Nat) (u:Sl) (r:List (Nat × Nat)) (v4 v5:Value),e=[.pointer (some ⟨qp,0,none⟩),.slice none 0 0,u.v,.int .i64 b,v4,v5]/\b<N.as.length/\m<=ord.length/\(b=s\/∃ i,∃ hi:i<ord.length,i<m/\Zc B b=(ord[i]:Nat))/\r.length+m<=ord.length /\
  Yb h' 3 u (Zs ((r.map (Ztb N L s t)).map Xm))/\(u.nl=false->h0.size<=u.b)/\Ext h0 h'/\∀ l,Zo7 B s b l->Zo7 B s t (l++r.reverse)
theorem Zs6 (X:Z9x Y) {W:Nat->Prop} {J:Qj} {N:Zg} {S:Nat->Prop} {L:List (List Int)} {I:List Int} (q:QF h W J N S L I) (ok:Yd N) (pk:Yx N.vs.length L) (hs:J.s<N.as.length) (ht:J.t<N.as.length) {B:List Int} {G:List Nat} (oB:Yb h 1 (Sl.at J.bb N.as.length N.as.length) (Zh B))
  (bk:Z05 G J.s N.as.length B) (bt:J.t=J.s\/∃ i,∃ V:i<G.length,Zc B J.t=(G[i]:Nat)) (lo:G.length<=N.as.length) {R:Value->Za->Prop}
  (hr:∀ h' u r,Ext h h'->Zo7 B J.s J.t r->Yb h' 3 u (Zs ((r.map (Ztb N L J.s J.t)).map Xm))->(u.nl=false->h.size<=u.b)->r.length<=G.length->R u.v h') :
  Zm Y 362 [.pointer (some ⟨J.qp,0,none⟩)] h R:=by
 have ba:=ok.ba
 have bL:=pk.bL
 have qs:=q.now
 refine .of_has X.hops rfl ?_
 simp [Y362,Xa.wp,qs.blk.hc]
 refine Zjr (HpI J.qp J.s J.t N L B G h) G.length ⟨J.t,Sl.nil,[],_,_,rfl,ht,Xd6 _,?_,by simp,Yb.nil,fun h=>(by cases h),Mod.refl _,fun l hl=>by simpa using hl⟩ ?_
 ·rcases bt with e | ⟨i,V,e⟩
  ·exact .inl e
  ·exact .inr ⟨i,V,V,e⟩
 rintro m e h1 ⟨b,u,r,v4,v5,rfl,lb,hm,hb,lr,Z,fu,U,hl⟩
 have q1:=q h1 (U.mono fun _ _ h=>h.elim)
 have lu:=Z.n3
 simp at lu
 simp [q1.blk.hc]
 by_cases c:b=J.s
 ·subst c
  simp
  have hz:=hl [] .nil
  simp at hz
  refine Zxz X.Rev Z (by simp; omega) ?_
  intro h2 m2 o2
  simp
  have e3:(List.map (Ztb N L J.s J.t) r).reverse=List.map (Ztb N L J.s J.t) r.reverse:=by rw [List.map_reverse]
  rw [e3] at o2
  cases M:u.nl with
  | true =>
   have:r=[]:=List.length_eq_zero_iff.1 (by have:=(Z.ok.nil M).1; omega)
   subst this
   have oz:=Z
   rcases oz.2 with ⟨e,_⟩ | ⟨e,_⟩
   ·subst e
    refine hr h2 Sl.nil [] ?_ hz Yb.nil (fun h=>(by cases h)) (by simp)
    exact Mod.ext U (m2.mono fun j H e=>(e.1 rfl:False)) (fun j H=>H.elim)
   ·rw [M] at e; cases e
  | false =>
   exact hr h2 u r.reverse (Mod.ext U m2 (fun j H=>by have:=fu M; have:=H.2; omega)) hz o2 fu (by simp; omega)
 have ab:¬ (b:Int)=(J.s:Int):=by omega
 obtain ⟨i,V,ac,ea⟩:=hb.resolve_left c
 have aa:∀ g,Yg.sem Y g (.idxa 1) [.slice (some ⟨J.bb,0,none⟩) N.as.length N.as.length,.int .i64 b]=some (.pointer (some ⟨J.bb,b,none⟩)):=fun g=>by
  have:=Vt (Y:=Y) (h:=g) (b:=J.bb) (sz:=1) (show N.as.length<=9223372036854775807 by omega) lb (Xd6 _)
  simpa using this
 have lB:=oB.row64.len
 simp only [Sl.at_n] at lB
 have vb:=((oB.ext' U).row64).val b (by omega)
 rw [ea] at vb
 simp at vb
 obtain ⟨la,ad⟩:=bk i V
 simp [ab,aa,vb]
 refine Zia X.Q q1 ok pk la hs ht ?_
 have ae:∀ g (x y z:Int),Yg.sem Y g (.build #[.int .i64 0,.int .i64 0,.int .i64 0] [(0,1),(1,1),(2,1)] [0,1,2]) [.int .i64 x,.int .i64 y,.int .i64 z]=some (.agg #[.int .i64 x,.int .i64 y,.int .i64 z]):=fun g x y z=>rfl
 simp [ae]
 refine Qu ?_
 intro D h2 gD D2 e2
 simp
 refine Vz rfl (Z.ext' e2) D2 rfl rfl rfl (by omega) (by omega) ?_
 intro u' h3 o3 m3 af
 have x3:Ext h h3:=Mod.ext (U.trans e2) m3 (fun j H=>by have:=fu H.1; omega)
 have q3:=q h3 (x3.mono fun _ _ h=>h.elim)
 have O:=((oB.ext' x3).row64).val b (by omega)
 rw [ea] at O
 simp at O
 simp [q3.blk.hc,aa,O]
 refine Zt1 (m':=i) ⟨G[i],u',r++[(G[i],b)],_,_,rfl,la,by omega,?_,by simp; omega,?_,fun hn=>?_,x3,fun l ag=>?_⟩ ac
 ·rcases ad with e | ⟨j,H,e⟩
  ·exact .inl e
  ·exact .inr ⟨j,by omega,H,e⟩
 ·have e4:Zs (((r++[(G[i],b)]).map (Ztb N L J.s J.t)).map Xm)=Zs (((r.map (Ztb N L J.s J.t)).map Xm)++[(.int .i64 (Vw (Uq L) (Xd N G[i]) (Xd N J.s) (Z0 N J.t) L.length:Nat),.int .i64 G[i],.int .i64 b)]):=by
   rw [Xe1,Xe1]; rfl
  rw [e4]
  simpa using o3
 ·rcases af with ⟨x,y⟩ | ⟨x,y⟩
  ·rw [x]; exact fu (by rw [<-y]; exact hn)
  ·have:=U.size; have:=e2.size; omega
 ·have:=hl _ (.snoc ag ea c)
  rw [Xe6] at this
  rw [List.reverse_append]
  exact this
end
structure SeP (n s:Nat) (E:Nat->Nat->Int->Prop) (ord:List Nat) (cost:Nat->Int) (A:Uk) (B:List Int) (dn:List Bool) (pE:Nat->Nat->Int->Prop):Prop where
 d:Zaz n (AtI s) E ord cost A (fun _=>False) pE
 bo:∀ i (hi:i<ord.length),ord[i]=s\/∃ j,∃ hj:j<i,Zc B ord[i]=((ord[j]'(by omega):Nat):Int)/\∃ w,E (ord[j]'(by omega)) ord[i] w/\cost ord[i]=cost (ord[j]'(by omega))+w
 ba:∀ b x,b<n->A b=some x->x<Xr/\((b=s/\x=0)\/∃ i,∃ hi:i<ord.length,Zc B b=(ord[i]:Nat)/\∃ w,E ord[i] b w/\x=cost ord[i]+w)
 s0:s∈ord->cost s=0
 o0:ord=[]\/s∈ord
 lB:B.length=n
 ld:dn.length=n
 sett:∀ b,b<n->(Zdx dn b=true↔b∈ord)
section
variable {n s:Nat} {E:Nat->Nat->Int->Prop} {ord:List Nat} {cost:Nat->Int} {A:Uk} {B:List Int} {dn:List Bool} {pE pE':Nat->Nat->Int->Prop}
theorem SeP.start (hs:s<n) (r:B.length=n):SeP n s E [] cost (Zbi n (fun _=>none) s 0) B (List.replicate n false) (fun _ _ _=>False):=by
 have D:Zaz n (AtI s) E [] cost (fun _=>none) (fun _=>True) (fun _ _ _=>False):=Zaz.start (fun _ _ _=>trivial)
 obtain ⟨G,H⟩:=D.put (b:=s) (x:=0) hs (by simp) (.inr (.init ⟨rfl,rfl⟩)) (by omega) (fun a h=>by simp at h)
 refine ⟨G.less (fun b c h _=>by obtain ⟨rfl,rfl⟩:=h; exact .inr (.inr H)) (fun a h=>by simp at h),fun i I=>by simp at I,fun b x hb h=>?_,fun h=>by simp at h,.inl rfl,r,by simp,fun b hb=>by simp [Zdx,hb]⟩
 unfold Zbi at h
 split at h
 ·by_cases q:b=s
  ·simp [q] at h
   exact ⟨by rw [<-h]; decide,.inl ⟨q,h.symm⟩⟩
  ·simp [q] at h
 ·cases h
theorem SeP.less (p:SeP n s E ord cost A B dn pE) (r:∀ a,a∈ord->∀ b w,E a b w->pE a b w->pE' a b w\/1152921504606846976<=cost a+w\/RxW ord cost A b (cost a+w)):SeP n s E ord cost A B dn pE' :=
 ⟨p.d.less (fun _ _ _ h=>h.elim) r,p.bo,p.ba,p.s0,p.o0,p.lB,p.ld,p.sett⟩
theorem SeP.pop (p:SeP n s E ord cost A B dn (fun _ _ _=>False)) {k:Nat} {c:Int} (m:Zrw n A k c) :
  k ∉ ord/\SeP n s E (ord++[k]) (X1 cost k c) (Zeq A k) B (dn.set k true) (fun a _ _=>a=k)/\(∀ a,a∈ord++[k]->X1 cost k c a<=c)/\0<=c/\c<Xr:=by
 obtain ⟨h1,X,Z,h4,_⟩:=p.d.pop m
 obtain ⟨V,hA,_⟩:=m
 obtain ⟨cI,hb⟩:=p.ba k c V hA
 have M:∀ a,a∈ord->a≠k:=fun a O e=>h1 (e ▸ O)
 have hc:∀ a,a∈ord->X1 cost k c a=cost a:=fun a O=>by unfold X1; rw [if_neg (M a O)]
 have H:X1 cost k c k=c:=by simp [X1]
 have r:∀ i (I:i<ord.length) (R:i<(ord++[k]).length),(ord++[k])[i]=ord[i]:=fun i I R=>List.getElem_append_left I
 refine ⟨h1,⟨X,fun i I=>?_,fun b x G h=>?_,fun hs=>?_,.inr ?_,p.lB,by simp [p.ld],fun b G=>?_⟩,Z,h4.1,cI⟩
 ·have U:=I
  simp at U
  rcases Xd8 i ord.length with q | q
  ·rw [r i q I]
   rcases p.bo i q with e | ⟨j,D,J,w,e2,e3⟩
   ·exact .inl e
   ·refine .inr ⟨j,D,?_,w,?_,?_⟩
    ·rw [r j (by omega) (by omega)]; exact J
    ·rw [r j (by omega) (by omega)]; exact e2
    ·rw [r j (by omega) (by omega),hc _ (Xeo _),hc _ (Xeo _)]; exact e3
  ·have:i=ord.length:=by omega
   subst this
   have e0:(ord++[k])[ord.length]=k:=by simp
   rw [e0]
   rcases hb with ⟨e,_⟩ | ⟨j,D,J,w,e2,e3⟩
   ·exact .inl e
   ·refine .inr ⟨j,D,?_,w,?_,?_⟩
    ·rw [r j D (by simp; omega)]; exact J
    ·rw [r j D (by simp; omega)]; exact e2
    ·rw [r j D (by simp; omega),H,hc _ (Xeo _)]; exact e3
 ·unfold Zeq at h
  by_cases q:b=k
  ·rw [if_pos q] at h; cases h
  ·rw [if_neg q] at h
   obtain ⟨a1,a2⟩:=p.ba b x G h
   refine ⟨a1,a2.imp id ?_⟩
   rintro ⟨j,D,J,w,e2,e3⟩
   exact ⟨j,by simp; omega,by rw [r j D (by simp; omega)]; exact J,w,by rw [r j D (by simp; omega)]; exact e2,by rw [r j D (by simp; omega),hc _ (Xeo _)]; exact e3⟩
 ·rcases List.mem_append.1 hs with q | q
  ·rw [hc s q]; exact p.s0 q
  ·have:s=k:=by simpa using q
   subst this
   rw [H]
   rcases hb with ⟨_,e⟩ | ⟨j,D,_⟩
   ·exact e
   ·rcases p.o0 with e | e
    ·subst e; simp at D
    ·exact absurd e h1
 ·rcases p.o0 with e | e
  ·rcases hb with ⟨e2,_⟩ | ⟨j,D,_⟩
   ·simp [e2]
   ·subst e; simp at D
  ·simp [e]
 ·rw [Zsg (by rw [p.ld]; exact V)]
  by_cases q:b=k
  ·simp [q]
  ·rw [if_neg q]; simp [q]; exact p.sett b G
theorem SeP.put (p:SeP n s E ord cost A B dn pE) {k b:Nat} {w:Int} (r:k∈ord) (hb:b<n) (J:b ∉ ord) (M:E k b w) (h0:0<=w) (hx:cost k+w<Xr) (G:∀ a,a∈ord->cost a<=cost k) :
  SeP n s E ord cost (Zbi n A b (cost k+w)) (if Zdz n A b (cost k+w)=true then B.set b k else B) dn pE/\RxW ord cost (Zbi n A b (cost k+w)) b (cost k+w):=by
 have V:Xr=1152921504606846976:=rfl
 have X:=p.d.bS k r
 have Z:s∈ord:=p.o0.resolve_left (fun e=>by rw [e] at r; simp at r)
 obtain ⟨R,U⟩:=p.d.put (b:=b) (x:=cost k+w) hb J (by
  rcases p.d.wS k r with q | q
  ·exfalso; omega
  ·exact .inr (.step q M)) (by omega) (fun a H=>by have:=G a H; omega)
 obtain ⟨i,D,I⟩:=Xfa r
 have O:∀ a,a≠b->Zc (if Zdz n A b (cost k+w)=true then B.set b k else B) a=Zc B a:=fun a H=>by
  split
  ·rw [Vr (by rw [p.lB]; exact hb),if_neg H]
  ·rfl
 refine ⟨⟨R,fun i D=>?_,fun y x hy h=>?_,p.s0,p.o0,?_,p.ld,p.sett⟩,U⟩
 ·rw [O _ (fun e=>J (e ▸ Xeo D))]
  exact p.bo i D
 ·by_cases q:y=b
  ·subst q
   unfold Zbi at h
   by_cases c:Zdz n A y (cost k+w)=true
   ·rw [if_pos c] at h ⊢
    simp at h
    subst h
    exact ⟨hx,.inr ⟨i,D,by rw [Vr (by rw [p.lB]; exact hb),if_pos rfl,I],w,by rw [I]; exact M,by rw [I]⟩⟩
   ·rw [if_neg c] at h
    rw [if_neg c]
    exact p.ba y x hy h
  ·have h':A y=some x:=by
    unfold Zbi at h
    split at h
    ·simpa [q] using h
    ·exact h
   rw [O y q]
   exact p.ba y x hy h'
 ·split
  ·simp [p.lB]
  ·exact p.lB
inductive Z3k (E:Nat->Nat->Int->Prop) (s:Nat):Nat->Int->List (Nat × Nat)->Prop
 | nil:Z3k E s s 0 []
 | snoc {a b:Nat} {y w:Int} {l:List (Nat × Nat)}:Z3k E s a y l->E a b w->Z3k E s b (y+w) (l++[(a,b)])
theorem SeP.back (p:SeP n s E ord cost A B dn pE):Z05 ord s n B:=fun i r=>⟨p.d.lt _ (Xeo r),(p.bo i r).imp id fun ⟨j,D,e,_⟩=>⟨j,D,e⟩⟩
theorem Zo7.w (p:SeP n s E ord cost A B dn pE):∀ {b:Nat} {l:List (Nat × Nat)},Zo7 B s b l->b∈ord->Z3k E s b (cost b) l:=by
 intro b l h
 induction h with
 | nil=>intro hb; rw [p.s0 hb]; exact .nil
 | snoc h e r H =>
  rename_i a b l
  intro hb
  obtain ⟨i,I,D⟩:=Xfa hb
  rcases p.bo i I with q | ⟨j,M,J,w,e2,e3⟩
  ·exact absurd (by rw [<-D,q]) r
  ·rw [D] at J e2 e3
   have G:ord[j]=a:=by omega
   rw [G] at e2 e3
   rw [e3]
   exact .snoc (H (by rw [<-G]; exact Xeo _)) e2
end
theorem Z3m {a b c:Int} (r:0<=a) (hb:0<=b) (hc:0<=c):Zve [a,b,c]=Vc (a+b+c):=by
 simp only [Zve,Xgc,List.foldl_nil,Zao,Vc]
 repeat' split
 all_goals omega
structure Z3c (Y:Sys):Prop where
 Q:Z9x Y
 H:Z69 Y
 C:Zit Y
 run:Y.Has 344 Y344
def WrQ (M db bb:Nat) (Sh:Nat->Prop) (b:Nat):Prop:=b=M\/b=db\/b=bb\/Sh b
abbrev HQ (N:Zg) (L:List (List Int)) (costs:List Int) (s t:Nat):=Zdk N L.length (Uq L) (fun k=>Zbj N L costs (k-1)) s t
theorem Z34 {N:Zg} {L:List (List Int)} {costs:List Int} {s t:Nat} (r:Yd N) (hs:s<N.as.length) (G:∀ i,0<=Zc costs i/\Zc costs i<=Xr):Zjp N.as.length (AtI s) (HQ N L costs s t):=by
 refine ⟨fun b c h=>by obtain ⟨rfl,rfl⟩:=h; exact ⟨hs,by omega⟩,fun a b w h=>?_⟩
 unfold HQ Zdk at h
 simp only [] at h
 split at h
 ·have:=Zv2 r h
  obtain ⟨k,e,H⟩:=Qa h.2.1
  exact ⟨by omega,this⟩
 ·obtain ⟨_,_,_,_,D,I⟩:=h
  obtain ⟨k,e,H⟩:=Qa D
  have:=(Vf r (a:=(b:Int))).resolve_left D
  have:=(G (enV N L (Vw (Uq L) (Xd N a) (Xd N s) (Z0 N t) L.length-1) (Zc (Zq L (Vw (Uq L) (Xd N a) (Xd N s) (Z0 N t) L.length-1)) (Xd N a)).toNat (Yc 0 (Zn N L (Vw (Uq L) (Xd N a) (Xd N s) (Z0 N t) L.length-1) false (Zc (Zq L (Vw (Uq L) (Xd N a) (Xd N s) (Z0 N t) L.length-1)) (Xd N a)).toNat) a) (Yc 0 (Zn N L (Vw (Uq L) (Xd N a) (Xd N s) (Z0 N t) L.length-1) true (Zc (Zq L (Vw (Uq L) (Xd N a) (Xd N s) (Z0 N t) L.length-1)) (Xd N a)).toNat) b)).toNat).1
  unfold Zbj at I
  exact ⟨by omega,by omega⟩
structure Zdw (h:Za) (J:Qj) (N:Zg) (S:Nat->Prop) (L:List (List Int)) (costs:List Int) (hp db:Nat) (A:Uk) (B:List Int) (dn:List Bool) (Sh:Nat->Prop):Prop where
 qf:QF h (WrQ J.M db J.bb Sh) J N S L costs
 gt:GtH h J.M (WrQ J.M db J.bb Sh) N L
 od:Yb h 1 (Sl.at db N.as.length N.as.length) (Va dn)
 ob:Yb h 1 (Sl.at J.bb N.as.length N.as.length) (Zh B)
 hr:U4 h hp N.as.length A Sh
 dj:∀ b,Sh b->b≠J.M/\b≠db/\b≠J.bb
 dd:J.M≠db/\J.M≠J.bb/\db≠J.bb
 lM:J.M<h.size
 wc:costs≠[]->¬ WrQ J.M db J.bb Sh J.sc.b
section
variable {Y:Sys} {h h':Za} {J:Qj} {N:Zg} {S:Nat->Prop} {L:List (List Int)} {costs:List Int} {hp db:Nat} {A A':Uk} {B:List Int} {dn:List Bool} {Sh Sh':Nat->Prop}
theorem Zdw.ext (k:Zdw h J N S L costs hp db A B dn Sh) (e:Ext h h'):Zdw h' J N S L costs hp db A B dn Sh :=
 ⟨k.qf.then e (fun _ h=>h.elim) (fun _ h=>.inl h),k.gt.mod e (fun _ h=>h.elim),k.od.ext' e,k.ob.ext' e,k.hr.mod e (fun _ _ h=>h),k.dj,k.dd,by have:=e.size; have:=k.lM; omega,k.wc⟩
theorem Zdw.heap (k:Zdw h J N S L costs hp db A B dn Sh) (m:Mod Sh h h') (H:U4 h' hp N.as.length A' Sh') (f:∀ b,Sh' b->Sh b\/h.size<=b):Zdw h' J N S L costs hp db A' B dn Sh':=by
 have O:=k.lM
 have G:=k.od.lt rfl
 have I:=k.ob.lt rfl
 simp at G I
 have r:∀ b,WrQ J.M db J.bb Sh' b->WrQ J.M db J.bb Sh b\/h.size<=b:=fun b hb=>by
  rcases hb with e | e | e | e
  ·exact .inl (.inl e)
  ·exact .inl (.inr (.inl e))
  ·exact .inl (.inr (.inr (.inl e)))
  ·rcases f b e with q | q
   ·exact .inl (.inr (.inr (.inr q)))
   ·exact .inr q
 have z:=m.size
 refine ⟨k.qf.then m (fun b hb=>.inl (.inr (.inr (.inr hb)))) r,k.gt.both m (fun b hb=>⟨.inl (.inr (.inr (.inr hb))),(k.dj b hb).1⟩) r (.inl rfl),k.od.mod m (fun _ hb=>(k.dj _ hb).2.1 rfl),k.ob.mod m (fun _ hb=>(k.dj _ hb).2.2 rfl),H,fun b hb=>?_,k.dd,by omega,fun D hb=>?_⟩
 ·rcases f b hb with q | q
  ·exact k.dj b q
  ·omega
 ·rcases r _ hb with q | q
  ·exact k.wc D q
  ·have:=Qg k.qf.now.rc D; omega
theorem Zdw.mark {d:List Bool} (k:Zdw h J N S L costs hp db A B dn Sh) (m:Mod (fun j=>j=db) h h') (o:Yb h' 1 (Sl.at db N.as.length N.as.length) (Va d)):Zdw h' J N S L costs hp db A B d Sh:=by
 have r:=k.dd
 have z:=m.size
 exact ⟨k.qf.then m (fun b hb=>.inl (.inr (.inl hb))) (fun _ h=>.inl h),k.gt.mod m (fun b hb=>⟨.inl (.inr (.inl hb)),fun e=>r.1 (by rw [<-e]; exact hb)⟩),o,k.ob.mod m (fun _ hb=>r.2.2 (Eq.symm hb)),k.hr.mod m (fun b hb e=>(k.dj b hb).2.1 e),k.dj,r,by have:=k.lM; omega,k.wc⟩
theorem Zdw.setB {B':List Int} (k:Zdw h J N S L costs hp db A B dn Sh) (m:Mod (fun j=>j=J.bb) h h') (o:Yb h' 1 (Sl.at J.bb N.as.length N.as.length) (Zh B')):Zdw h' J N S L costs hp db A B' dn Sh:=by
 have r:=k.dd
 have z:=m.size
 exact ⟨k.qf.then m (fun b hb=>.inl (.inr (.inr (.inl hb)))) (fun _ h=>.inl h),k.gt.mod m (fun b hb=>⟨.inl (.inr (.inr (.inl hb))),fun e=>r.2.1 (by rw [<-e]; exact hb)⟩),k.od.mod m (fun _ hb=>r.2.2 hb),o,k.hr.mod m (fun b hb e=>(k.dj b hb).2.2 e),k.dj,r,by have:=k.lM; omega,k.wc⟩
theorem Zdw.gates (k:Zdw h J N S L costs hp db A B dn Sh) (m:Mod (fun j=>j=J.M) h h') (g:GtH h' J.M (fun j=>WrQ J.M db J.bb Sh j/\j<h.size) N L):Zdw h' J N S L costs hp db A B dn Sh:=by
 have r:=k.dd
 have z:=m.size
 have D:=k.od.lt rfl
 have G:=k.ob.lt rfl
 simp at D G
 have H:∀ b,WrQ J.M db J.bb Sh b->b<h.size:=fun b hb=>by
  rcases hb with e | e | e | e
  ·rw [e]; exact k.lM
  ·rw [e]; exact D
  ·rw [e]; exact G
  ·exact k.hr.lt e
 exact ⟨k.qf.then m (fun b hb=>.inl (.inl hb)) (fun _ h=>.inl h),g.grow (fun b hb=>.inl ⟨hb,H b hb⟩) (.inl rfl),k.od.mod m (fun _ hb=>r.1 (Eq.symm hb)),k.ob.mod m (fun _ hb=>r.2.1 (Eq.symm hb)),k.hr.mod m (fun b hb e=>(k.dj b hb).1 e),k.dj,r,by have:=k.lM; omega,k.wc⟩
end
theorem Zxg {n:Nat} {L:List (List Int)} (r:Yx n L):Zsy L.length (Uq L):=by
 have key:∀ j k,0<j->j<=k->k<=L.length->Zic (Uq L j) (Uq L k):=by
  intro j k I D
  induction k with
  | zero=>intro _; omega
  | succ k G =>
   intro J
   by_cases q:j=k+1
   ·subst q; exact fun u v e=>e
   ·have h1:=G (by omega) (by omega)
    obtain ⟨k',rfl⟩:∃ k',k=k'+1:=⟨k-1,by omega⟩
    have H:=Zm4 r (k:=k') (by omega)
    exact fun u v e=>H u v (h1 u v e)
 exact key
structure Xch (h:Za) (z:Nat) (N:Zg) (L:List (List Int)) (costs:List Int) (s t:Nat) (d:Int) (u:Sl):Prop where
 least:Zcg (Zh0 N s) (EdW N) t d
 hops:d<Xr->∃ r,Z3k (HQ N L costs s t) s t d r/\Yb h 3 u (Zs ((r.map (Ztb N L s t)).map Xm))/\r.length<=N.as.length/\(u.nl=false->z<=u.b)
def RuO (J:Qj) (hp db:Nat) (N:Zg) (S:Nat->Prop) (L:List (List Int)) (costs:List Int) (h0:Za) (m:Nat) (e:List Value) (h':Za):Prop :=
 ∃ (ord:List Nat) (cost:Nat->Int) (A:Uk) (B:List Int) (dn:List Bool) (Sh:Nat->Prop) (v5 v6 v7 v8 v9 v10 v11 v12 v13 v14 v15 v16 v17 v18 v19 v20:Value),
  e=[.pointer (some ⟨J.qp,0,none⟩),.int .i64 0,.slice none 0 0,.slice (some ⟨db,0,none⟩) N.as.length N.as.length,.pointer (some ⟨hp,0,none⟩),v5,v6,v7,v8,v9,v10,v11,v12,v13,v14,v15,v16,v17,v18,v19,v20] /\
  Zdw h' J N S L costs hp db A B dn Sh/\SeP N.as.length J.s (HQ N L costs J.s J.t) ord cost A B dn (fun _ _ _=>False)/\J.t ∉ ord/\Mod (fun b=>b=J.M\/b=J.bb) h0 h'/\(∀ b,Sh b->h0.size<=b)/\h0.size<=db/\m=N.as.length-ord.length
def RuJ (J:Qj) (hp db k M:Nat) (c:Int) (u w:Sl) (bs ps:List Int) (N:Zg) (S:Nat->Prop) (L:List (List Int)) (costs:List Int) (h0:Za) (e:List Value) (h':Za):Prop :=
 ∃ (i:Nat) (ord:List Nat) (cost:Nat->Int) (A:Uk) (B:List Int) (dn:List Bool) (Sh:Nat->Prop) (v7 v10 v11 v12 v13 v14 v15 v19 v20:Value),
  e=[.pointer (some ⟨J.qp,0,none⟩),.int .i64 0,.slice none 0 0,.slice (some ⟨db,0,none⟩) N.as.length N.as.length,.pointer (some ⟨hp,0,none⟩),.int .i64 k,.int .i64 c,v7,u.v,w.v,v10,v11,v12,v13,v14,v15,u.v,.int .i64 u.n,.int .i64 i,v19,v20]/\i<=bs.length /\
  Zdw h' J N S L costs hp db A B dn Sh/\SeP N.as.length J.s (HQ N L costs J.s J.t) ord cost A B dn (fun a b w'=>a=k/\∃ j,i<=j/\j<bs.length/\Zc bs j=(b:Int)/\Zc ps j≠Xr/\Zl N b≠Xr/\w'=Zc ps j+Zl N b)/\J.t ∉ ord/\k∈ord/\cost k=c/\(∀ a,a∈ord->cost a<=c)/\0<=c/\c<Xr /\
  Zz h' u bs/\Zz h' w ps/\(bs≠[]->¬ WrQ J.M db J.bb Sh u.b)/\(ps≠[]->¬ WrQ J.M db J.bb Sh w.b)/\Mod (fun b=>b=J.M\/b=J.bb) h0 h'/\(∀ b,Sh b->h0.size<=b)/\h0.size<=db/\N.as.length-ord.length<M
section
variable {Y:Sys} {h h':Za}
set_option maxHeartbeats 1000000 in
theorem Z17 (X:Z3c Y) {J:Qj} {N:Zg} {S:Nat->Prop} {L:List (List Int)} {D B0:List Int} (q:QF h (fun b=>b=J.M\/b=J.bb) J N S L D) (gt:GtH h J.M (fun b=>b=J.M\/b=J.bb) N L) (oB:Yb h 1 (Sl.at J.bb N.as.length N.as.length) (Zh B0)) (nM:J.M≠J.bb) (lM:J.M<h.size)
  (wc:D≠[]->J.sc.b≠J.M/\J.sc.b≠J.bb) (ok:Yd N) (pk:Yx N.vs.length L) (hE:Zeb N L D) (hs:J.s<N.as.length) (ht:J.t<N.as.length) {R:Value->Za->Prop}
  (hr:∀ h' d u,Mod (fun b=>b=J.M\/b=J.bb) h h'->Xch h' h.size N L D J.s J.t d u->R (.tuple #[.int .i64 d,u.v]) h') :
  Zm Y 344 [.pointer (some ⟨J.qp,0,none⟩)] h R:=by
 have hI:Xr=1152921504606846976:=rfl
 have ba:=ok.ba
 have qs:=q.now
 have c0:∀ i,0<=Zc D i/\Zc D i<=Xr:=fun i=>by
  rcases Xd8 i D.length with w | w
  ·exact hE.c0 i w
  ·have:Zc D i=0:=by simp [Zc,Xeu w]
   omega
 have C:=Z34 (t:=J.t) ok hs c0 (L:=L)
 have ay:∀ d,Zcg (AtI J.s) (HQ N L D J.s J.t) J.t d->Zl N J.s≠Xr->Zcg (Zh0 N J.s) (EdW N) J.t d:=fun d hd hw=>by
  have e:Zh0 N (J.s:Int)=AtI J.s:=by
   funext b c
   apply propext
   constructor
   ·rintro ⟨h1,h2,_⟩; exact ⟨by omega,h2⟩
   ·rintro ⟨rfl,rfl⟩; exact ⟨rfl,rfl,hw⟩
  rw [e]
  refine (Zug ok (Zxg pk) (fun k h1 h2=>?_) (fun b c h=>h)).1 hd
  obtain ⟨k',rfl⟩:∃ k',k=k'+1:=⟨k-1,by omega⟩
  exact (hE.level (k:=k') (by omega)).ent pk ok (by omega)
 have az:=oB.lt rfl
 simp at az
 refine .of_has X.run rfl ?_
 simp [Y344,Xa.wp,qs.blk.hc]
 refine U0 X.Q.Q.G.Weight X.Q.Q.G.arc qs.g ?_
 have aN:=Vf ok (a:=(J.s:Int))
 by_cases ws:Zl N J.s=1152921504606846976
 ·simp [ws]
  refine hr h Xr Sl.nil (Mod.refl _) ⟨?_,fun h=>by omega⟩
  refine ⟨Xfz _,fun c w=>?_,.inl rfl⟩
  exfalso
  have:∀ b c,Xk (Zh0 N J.s) (EdW N) b c->False:=fun b c w=>by
   induction w with
   | init h=>exact h.2.2 ws
   | step _ _ ih=>exact ih
  exact this _ _ w
 have aO:¬ 1152921504606846976<=Zl N J.s:=by have:=aN.resolve_left ws; omega
 simp [aO,qs.blk.hc]
 refine Zkg (n:=N.as.length) (by omega) rfl ?_
 intro db h1 aA o1 e1 U
 have q1:=q h1 (e1.mono fun _ _ h=>h.elim)
 simp [q1.blk.hc]
 refine Zsp X.H.New ?_
 intro h2 hp S2 H2 f2 e2
 rw [Zqu ba] at H2
 have x2:=e1.trans e2
 have q2:=q h2 (x2.mono fun _ _ h=>h.elim)
 have z1:=e1.size
 have z2:=e2.size
 have W2:∀ b,WrQ J.M db J.bb S2 b->(b=J.M\/b=J.bb)\/h.size<=b:=fun b hb=>by
  rcases hb with e | e | e | e
  ·exact .inl (.inl e)
  ·exact .inr (by omega)
  ·exact .inl (.inr e)
  ·exact .inr (by have:=f2 b e; omega)
 have k2:Zdw h2 J N S L D hp db (fun _=>none) B0 (List.replicate N.as.length false) S2:=by
  refine ⟨q.then x2 (fun _ h=>h.elim) W2,gt.both x2 (fun _ h=>h.elim) W2 (.inl rfl),by simpa [Va] using o1.ext' e2,oB.ext' x2,H2,fun b hb=>?_,⟨by omega,nM,by omega⟩,by omega,fun hn hb=>?_⟩
  ·have:=f2 b hb
   omega
  ·rcases W2 _ hb with w | w
   ·have:=wc hn; omega
   ·have:=Qg qs.rc hn; omega
 simp [q2.blk.hc]
 refine Zgc X.H.Put X.H.key X.C.Held X.H.up X.H.ahead X.H.swap H2 ?_
 intro h3 S3 H3 f3 m3
 rw [Zox (by omega) (by omega)] at H3
 have k3:=k2.heap m3 H3 f3
 have aB:Mod (fun b=>b=J.M\/b=J.bb) h h3:=(x2.mono fun _ _ h=>h.elim).then m3 (fun i hi h=>by have:=f2 i h; omega)
 simp
 refine Zjr (RuO J hp db N S L D h) _ ⟨[],fun _=>0,_,B0,_,S3,_,_,_,_,_,_,_,_,_,_,_,_,_,_,_,_,rfl,k3,SeP.start hs (by have:=oB.row64.len; simpa using this),by simp,aB,fun b hb=>by rcases f3 b hb with w | w; (have:=f2 b w; omega); omega,aA,rfl⟩ ?_
 clear k3 aB m3 H3 f3 k2 W2 z1 z2 q2 x2 e2 f2 H2 q1 U e1 o1 aA az
 rintro m e h4 ⟨O,I,A,B,dn,Sh,v5,v6,v7,v8,v9,aP,aQ,aR,aS,aT,aU,bh,bi,bj,aV,aW,rfl,k4,p4,nt,m4,Z,U,rfl⟩
 simp
 refine Zqe X.H.Pop X.H.down X.H.ahead X.H.swap k4.hr ?_ ?_
 ·intro h0
  simp
  have:=p4.d.least C h0 ht
  rw [if_neg nt] at this
  exact hr h4 Xr Sl.nil m4 ⟨ay _ this ws,fun h=>by omega⟩
 intro h5 k c ab H5 m5
 have k5:=k4.heap m5 H5 (fun b hb=>.inl hb)
 have z5:=m5.size
 have al:Mod (fun b=>b=J.M\/b=J.bb) h h5:=m4.then m5 (fun i hi h=>by have:=Z i h; omega)
 have ap:=p4.d.popped C ab
 obtain ⟨hk,p5,V,ac,cI⟩:=p4.pop ab
 have lk:=ab.1
 have aC:=k5.qf.now
 have aa:X1 I k c k=c:=by simp [X1]
 simp [aC.blk.hc]
 by_cases et:k=J.t
 ·subst et
  simp
  have bt:=(p4.ba _ c lk ab.2.1).2
  have len:=Ze5 p4.d.nd p4.d.lt
  refine Zs6 X.Q k5.qf ok pk hs ht k5.ob p4.back ?_ len ?_
  ·rcases bt with ⟨e,_⟩ | ⟨i,hi,e,_⟩
   ·exact .inl e
   ·exact .inr ⟨i,hi,e⟩
  ·intro h6 u r e6 hl ou fu lr
   simp
   refine hr h6 c u (al.then e6 fun _ _ h=>h.elim) ⟨ay _ ap ws,fun _=>⟨r,?_,ou,by omega,fun hn=>by have:=fu hn; have:=al.size; omega⟩⟩
   have:=Zo7.w p5 hl (by simp)
   rw [aa] at this
   exact this
 have aX:¬ (k:Int)=(J.t:Int):=by omega
 have aD:∀ g (x:Nat),x<N.as.length->Yg.sem Y g (.idxa 1) [.slice (some ⟨db,0,none⟩) N.as.length N.as.length,.int .i64 x]=some (.pointer (some ⟨db,x,none⟩)):=fun g x lx=>by
  have:=Vt (Y:=Y) (h:=g) (b:=db) (sz:=1) (show N.as.length<=9223372036854775807 by omega) lx (Xd6 _)
  simpa using this
 simp [aX,aD _ _ lk]
 refine Zlf k5.od (k:=k) (by rw [Zfv,p4.ld]; exact lk) ?_
 intro h6 o6 m6
 rw [Zkb] at o6
 have k6:=k5.mark m6 o6
 have z6:=m6.size
 have aE:Mod (fun b=>b=J.M\/b=J.bb) h h6:=al.then m6 (fun i hi h=>by omega)
 simp
 refine Zia X.Q.Q k6.qf.now ok pk lk hs ht ?_
 simp
 refine Zt6 X.Q.Q k6.qf k6.gt ok pk hE.len c0 k6.wc lk ?_
 intro h7 u w bs ps m7 aF ru aw fu fw nx
 have z7:=m7.size
 have k7:=k6.gates m7 aF
 have aG:Mod (fun b=>b=J.M\/b=J.bb) h h7:=aE.trans (m7.mono fun i hi h=>.inl h)
 have wl:∀ b,WrQ J.M db J.bb Sh b->b<h6.size:=fun b hb=>by
  have a1:=k6.lM
  have a2:=k6.od.lt rfl
  have a3:=k6.ob.lt rfl
  simp at a2 a3
  rcases hb with e | e | e | e
  ·omega
  ·omega
  ·omega
  ·exact k6.hr.lt e
 have lu:=ru.len
 have lw:=aw.len
 have lb:=nx.len
 have bk:=nx.bl
 have hM:N.as.length-(O++[k]).length<N.as.length-O.length:=by
  have:=Ze5 p5.d.nd p5.d.lt
  simp at this ⊢
  omega
 simp
 refine Zj (RuJ J hp db k (N.as.length-O.length) c u w bs ps N S L D h) (fun e _=>bs.length-Zo e 18) ⟨0,O++[k],_,_,B,_,Sh,_,_,_,_,_,_,_,_,_,rfl,by omega,k7,p5.less (fun a ha b w' he hp=>by
  subst hp
  obtain ⟨j,h1,h2,h3,h4,h5⟩:=(nx.hop b w').1 he
  exact .inl ⟨rfl,j,by omega,h1,h2,h3,h4,h5⟩),by simp; exact ⟨nt,fun e=>et e.symm⟩,by simp,aa,fun a ha=>V a ha,ac,cI,ru,aw,fun hn hb=>by
   rcases fu hn with e | e
   ·exact e hb
   ·have:=wl _ hb; omega,fun hn hb=>by
   rcases fw hn with e | e
   ·exact e hb
   ·have:=wl _ hb; omega,aG,Z,U,hM⟩ ?_
 clear hM wl fu fw aF k7 aG z7 m7 ru aw aE z6 k6 m6 o6 k5 m5 al z5 H5 ap p5 V aa p4 k4 m4 nt hk ab Z U ac cI aC
 generalize N.as.length-O.length=Mm
 rintro e h8 ⟨i,O,I,A,B,dn,Sh,v7,aP,aQ,aR,aS,aT,aU,aV,aW,rfl,hi,k8,p8,nt,hk,aa,V,ac,cI,ru,af,nu,nw,m8,Z,U,ah⟩
 by_cases ci:i<bs.length
 rotate_left
 ·have aY:¬ (i:Int)<u.n:=by omega
  simp [aY]
  refine Zt1 (m':=N.as.length-O.length) ⟨O,I,A,B,dn,Sh,_,_,_,_,_,_,_,_,_,_,_,_,_,_,_,_,rfl,k8,p8.less (fun a ha b w' he hp=>by obtain ⟨_,j,h1,h2,_⟩:=hp; omega),nt,m8,Z,U,rfl⟩ ah
 have aZ:(i:Int)<u.n:=by omega
 have a0:i<u.n:=by omega
 have a4:(i:Int)<w.n:=by omega
 have a5:i<w.n:=by omega
 have wi:IntKind.i64.wrap ((i:Int)+1)=(i:Int)+1:=Ze (by omega)
 obtain ⟨b,eb,ag⟩:=nx.nat i ci
 have vb:=ru.val i ci
 rw [eb] at vb
 have vp:=af.val i (by omega)
 obtain ⟨a6,bm⟩:=nx.pos i ci
 have aH:=k8.qf.now
 simp [aZ,a0,a4,a5,Zb ru.ok,Zb af.ok,vb,vp,aH.blk.hc]
 refine U0 X.Q.Q.G.Weight X.Q.Q.G.arc aH.g ?_
 simp [vp]
 refine Zch rfl rfl rfl ?_ (by omega)
 intro b9 h9 g9 _ e9 o9
 have r9:Zz h9 (Sl.at b9 3 3) [c,Zc ps i,Zl N b]:=Yb.row64 (cs:=[c,Zc ps i,Zl N b]) o9
 simp
 refine Zz0 X.C r9 (by simp) ?_
 have bn:=Vf ok (a:=(b:Int))
 rw [Z3m ac a6 (by omega)]
 have k9:=k8.ext e9
 have z9:=e9.size
 have ax:Mod (fun b=>b=J.M\/b=J.bb) h h9:=m8.then e9 fun _ _ h=>h.elim
 have a7:hc h9 db b=some (.bool (Zdx dn b)):=by
  have:=k9.od.cell (i:=b) (v:=.bool (Zdx dn b)) (by simp [Va,Zdx,p8.ld,ag])
  simpa using this
 obtain ⟨q1,q2,q3,q4⟩:=Zha (x:=c+Zc ps i+Zl N b) (by omega)
 have ad:bs≠[]:=fun e=>by rw [e] at ci; simp at ci
 have ae:ps≠[]:=fun e=>ad (List.length_eq_zero_iff.1 (by rw [lb,e]; rfl))
 have seen:∀ {A':Uk} {B':List Int},SeP N.as.length J.s (HQ N L D J.s J.t) O I A' B' dn (fun a b w'=>a=k/\∃ j,i<=j/\j<bs.length/\Zc bs j=(b:Int)/\Zc ps j≠Xr/\Zl N b≠Xr/\w'=Zc ps j+Zl N b) ->
   (Zc ps i≠Xr->Zl N b≠Xr->1152921504606846976<=I k+(Zc ps i+Zl N b)\/RxW O I A' b (I k+(Zc ps i+Zl N b))) ->
   SeP N.as.length J.s (HQ N L D J.s J.t) O I A' B' dn (fun a b w'=>a=k/\∃ j,i+1<=j/\j<bs.length/\Zc bs j=(b:Int)/\Zc ps j≠Xr/\Zl N b≠Xr/\w'=Zc ps j+Zl N b):=fun {A' B'} pp hx=>pp.less (fun a ha y w' he hp=>by
  obtain ⟨rfl,j,h1,h2,h3,h4,h5,h6⟩:=hp
  by_cases e:j=i
  ·subst e
   have:y=b:=by omega
   subst this
   subst h6
   exact .inr (hx h4 h5)
  ·exact .inl ⟨rfl,j,by omega,h2,h3,h4,h5,h6⟩)
 by_cases aI:Vc (c+Zc ps i+Zl N b)<1152921504606846976
 rotate_left
 ·simp [aI,wi]
  refine ⟨⟨i+1,O,I,A,B,dn,Sh,_,_,_,_,_,_,_,_,_,rfl,by omega,k9,seen p8 (fun _ _=>.inl (by omega)),nt,hk,aa,V,ac,cI,ru.ext e9,af.ext e9,nu,nw,ax,Z,U,ah⟩,by simp [Zo]; omega⟩
 simp [aI,aD _ _ ag,a7]
 cases hd:Zdx dn b with
 | true =>
  have hb:=(p8.sett b ag).1 hd
  simp [wi]
  refine ⟨⟨i+1,O,I,A,B,dn,Sh,_,_,_,_,_,_,_,_,_,rfl,by omega,k9,seen p8 (fun h1 h2=>.inr (.inl ⟨hb,by have:=V b hb; omega⟩)),nt,hk,aa,V,ac,cI,ru.ext e9,af.ext e9,nu,nw,ax,Z,U,ah⟩,by simp [Zo]; omega⟩
 | false =>
  have hb:b ∉ O:=fun h=>by rw [(p8.sett b ag).2 h] at hd; cases hd
  have a8:Zc ps i≠Xr:=by omega
  have a9:Zl N b≠Xr:=by omega
  have hx:Vc (c+Zc ps i+Zl N b)=I k+(Zc ps i+Zl N b):=by omega
  have he:=(nx.hop b (Zc ps i+Zl N b)).2 ⟨i,ci,eb,a8,a9,rfl⟩
  obtain ⟨pp,aJ⟩:=p8.put hk ag hb he (by omega) (by omega) (fun a ha=>by rw [aa]; exact V a ha)
  have bg:=V
  simp
  refine Zgc X.H.Put X.H.key X.C.Held X.H.up X.H.ahead X.H.swap k9.hr ?_
  intro bc S10 H10 am ai
  rw [show Vc (Vc (c+Zc ps i+Zl N b))=I k+(Zc ps i+Zl N b) by rw [Zox q2 (by omega),hx]] at H10 ⊢
  have an:=k9.heap ai H10 am
  have bo:=ai.size
  have aq:Mod (fun b=>b=J.M\/b=J.bb) h bc:=ax.then ai (fun i hi h=>by have:=Z i h; omega)
  have ar:∀ b,S10 b->h.size<=b:=fun b hb=>by
   have:=m8.size
   rcases am b hb with e | e
   ·exact Z b e
   ·omega
  have au:=(ru.ext e9).mod ai (fun _ e=>nu ad (.inr (.inr (.inr e))))
  have av:=(af.ext e9).mod ai (fun _ e=>nw ae (.inr (.inr (.inr e))))
  have aj:bs≠[]->¬ WrQ J.M db J.bb S10 u.b:=fun _ hb=>by
   rcases hb with e | e | e | e
   ·exact nu ad (.inl e)
   ·exact nu ad (.inr (.inl e))
   ·exact nu ad (.inr (.inr (.inl e)))
   ·rcases am _ e with e | e
    ·exact nu ad (.inr (.inr (.inr e)))
    ·have:=Qg ru ad; omega
  have ak:ps≠[]->¬ WrQ J.M db J.bb S10 w.b:=fun _ hb=>by
   rcases hb with e | e | e | e
   ·exact nw ae (.inl e)
   ·exact nw ae (.inr (.inl e))
   ·exact nw ae (.inr (.inr (.inl e)))
   ·rcases am _ e with e | e
    ·exact nw ae (.inr (.inr (.inr e)))
    ·have:=Qg af ae; omega
  cases aK:Zdz N.as.length A b (I k+(Zc ps i+Zl N b)) with
  | false =>
   rw [aK] at pp
   simp [wi]
   refine ⟨⟨i+1,O,I,_,B,dn,S10,_,_,_,_,_,_,_,_,_,rfl,by omega,an,seen (by simpa using pp) (fun _ _=>.inr aJ),nt,hk,aa,V,ac,cI,au,av,aj,ak,aq,ar,U,ah⟩,by simp [Zo]; omega⟩
  | true =>
   rw [aK] at pp
   have aL:=an.qf.now
   have bd:∀ g,Yg.sem Y g (.idxa 1) [.slice (some ⟨J.bb,0,none⟩) N.as.length N.as.length,.int .i64 b]=some (.pointer (some ⟨J.bb,b,none⟩)):=fun g=>by
    have:=Vt (Y:=Y) (h:=g) (b:=J.bb) (sz:=1) (show N.as.length<=9223372036854775807 by omega) ag (Xd6 _)
    simpa using this
   simp [aL.blk.hc,bd]
   refine Zlf an.ob (k:=b) (by have:=p8.lB; simp; omega) ?_
   intro bp aM ao
   rw [X4] at aM
   have be:=an.setB ao aM
   simp [wi]
   refine ⟨⟨i+1,O,I,_,_,dn,S10,_,_,_,_,_,_,_,_,_,rfl,by omega,be,seen (by simpa using pp) (fun _ _=>.inr aJ),nt,hk,aa,V,ac,cI,au.mod ao (fun _ e=>aj ad (.inr (.inr (.inl e)))),av.mod ao (fun _ e=>ak ae (.inr (.inr (.inl e)))),aj,ak,aq.trans (ao.mono fun i hi e=>.inr e),ar,U,ah⟩,by simp [Zo]; omega⟩
end
structure Znt (Y:Sys):Prop where
 R:Z3c Y
 K:Z7b Y
 New:Y.Has 343 Y343
 Dist:Y.Has 331 Y331
section
variable {Y:Sys} {h h':Za}
theorem Zlq (X:Znt Y) {p op:Nat} {N:Zg} {S:Nat->Prop} {L:List (List Int)} {D:Sl} {r:List Int} (g:Yv h p N S) (v:Up h op N L) (rc:Zz h D r) (ok:Yd N) (V:Yx N.vs.length L) {s t:Nat} {R:Value->Za->Prop}
  (hr:∀ h' (J:Qj),J.s=s->J.t=t->J.sc=D->h.size<=J.M->h.size<=J.bb->J.M≠J.bb->J.M<h'.size->Ext h h'->QF h' (fun b=>b=J.M\/b=J.bb) J N S L r->GtH h' J.M (fun b=>b=J.M\/b=J.bb) N L->Yb h' 1 (Sl.at J.bb N.as.length N.as.length) (Zh (List.replicate N.as.length 0))->R (.pointer (some ⟨J.qp,0,none⟩)) h') :
  Zm Y 343 [.pointer (some ⟨p,0,none⟩),.pointer (some ⟨op,0,none⟩),D.v,.int .i64 s,.int .i64 t] h R:=by
 have bL:=V.bL
 have bn:=V.bn
 have ba:=ok.ba
 refine .of_has X.New rfl ?_
 simp [Y343,Xa.wp]
 refine Zfg X.R.Q.Q.A.O v (by omega) (fun i hi=>by have:=(Xi V hi).1; omega) ?_
 intro h1 H e1 fL
 have hf:∀ g,Yg.sem Y g (.fld 0 1 false) [X0 H]=some H.v:=fun g=>rfl
 simp [hf]
 refine Zy8 ?_
 intro M h2 gM mM e2
 have lM:=mM.lt
 have x2:=e1.trans e2
 simp
 refine Zbp X.R.Q.Q.G.Arcs (g.ext x2) ?_
 simp
 refine Zbd (n:=N.as.length) (by omega) rfl ?_
 intro I h3 ab o3 e3 ac
 have x3:=x2.trans e3
 have hb:Yg.sem Y h3 (.build #[.pointer none,.pointer none,.slice none 0 0,.int .i64 0,.int .i64 0,.slice none 0 0,.map none,.slice none 0 0] [(0,1),(1,1),(2,1),(3,1),(4,1),(5,1),(6,1),(7,1)] [0,1,2,3,4,5,6,7]) [.pointer (some ⟨p,0,none⟩),.pointer (some ⟨op,0,none⟩),D.v,.int .i64 s,.int .i64 t,H.v,.map (some M),.slice (some ⟨I,0,none⟩) N.as.length N.as.length]=some (.agg #[.pointer (some ⟨p,0,none⟩),.pointer (some ⟨op,0,none⟩),D.v,.int .i64 s,.int .i64 t,H.v,.map (some M),.slice (some ⟨I,0,none⟩) N.as.length N.as.length]):=by
  simp [Yg.sem,Instr.fill,Value.cells,Sl.v]
 simp [hb]
 refine Zd ?_
 intro Z h4 gq Q4 U
 replace Q4:Ys h4 Z #[.pointer (some ⟨p,0,none⟩),.pointer (some ⟨op,0,none⟩),D.v,.int .i64 s,.int .i64 t,H.v,.map (some M),.slice (some ⟨I,0,none⟩) N.as.length N.as.length]:=Q4
 have x4:=x3.trans U
 have z1:=e1.size
 have z2:=e2.size
 have z3:=e3.size
 have z4:=U.size
 have aa:Ext h1 h4:=(e2.trans e3).trans U
 simp
 have nM:M≠I:=by omega
 refine hr h4 ⟨Z,p,op,M,I,s,t,D,H⟩ rfl rfl rfl (by simp only []; omega) (by simp only []; omega) nM (by simp only []; omega) x4 (fun k mk=>?_) ⟨⟨[],(mM.mod e3 (fun h=>h)).mod U (fun h=>h),fun p hp=>by simp at hp⟩,.inl rfl⟩ (o3.ext' U)
 simp only [] at mk
 have xk:Ext h k:=Mod.ext x4 mk (fun j hj=>by rcases hj with e | e <;> omega)
 have yk:Ext h1 k:=Mod.ext aa mk (fun j hj=>by rcases hj with e | e <;> omega)
 have Qk:Ys k Z _:=mk.blk Q4 (fun e=>by rcases e with e | e <;> omega)
 exact ⟨Qk,g.ext xk,v.ext xk,rc.ext xk,fL k (yk.mono fun _ _ h=>h.elim)⟩
theorem Zza (X:Znt Y) {p op:Nat} {N:Zg} {S:Nat->Prop} {L:List (List Int)} {G:Sl} {r:List Int} (g:Yv h p N S) (v:Up h op N L) (D:Zz h G r) (H:Yd N) (I:Yx N.vs.length L) (J:Zeb N L r) {s t:Nat} (hs:s<N.as.length) (ht:t<N.as.length) {R:Value->Za->Prop}
  (hr:∀ h' d,Ext h h'->Zcg (Zh0 N s) (EdW N) t d->R (.tuple #[.int .i64 d,.nilIface]) h') :
  Zm Y 331 [.pointer (some ⟨p,0,none⟩),.pointer (some ⟨op,0,none⟩),G.v,.int .i64 s,.int .i64 t] h R:=by
 have lc:=D.len
 have le:=J.len
 refine .of_has X.Dist rfl ?_
 simp [Y331,Xa.wp]
 refine Zlo X.K g v (by omega) hs ht ?_
 simp
 refine Zlq X g v D H I ?_
 rintro h1 ⟨qp,p',aa,M,bb,s',t',ab,sL⟩ O e2 e3 l1 l2 U V Z qf gt oB
 simp only [] at O e2 e3
 subst O e2 e3
 simp only [] at l1 l2 U V
 simp
 have z1:=Z.size
 refine Z17 X.R qf gt oB U V (fun hn=>by have:=Qg D hn; simp only []; omega) H I J hs ht ?_
 intro h2 d u m2 r2
 simp
 exact hr h2 d (Mod.ext Z m2 (fun j hj=>by simp only [] at hj; rcases hj with e | e <;> omega)) r2.least
end
end Go.Rm
