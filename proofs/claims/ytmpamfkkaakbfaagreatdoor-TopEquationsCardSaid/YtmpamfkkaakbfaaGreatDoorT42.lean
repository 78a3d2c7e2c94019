import Derived.Test.YtmpamfkkaakbfaaGreatDoorT41
import Derived.Test.YtmpamfkkaakbfaaGreatDoorT39
import Derived.Test.YtmpamfkkaakbfaaGreatDoorT26
import Derived.Test.YtmpamfkkaakbfaaGreatDoorT02
/- Parts RTop3 RTop4 RTop6 RTop7 -/
set_option linter.unusedSimpArgs false
set_option linter.unusedVariables false
namespace Go.Rm
def Zaf (ls:List (List Ym)) (i:Nat):List Ym:=ls.getD i []
structure Zp0 (h:Za) (s:Sl) (ls:List (List Ym)):Prop where
 ok:s.ok
 len:ls.length=s.n
 val:∀ i,i<ls.length->∃ u:Sl,hc h s.b (s.o+i)=some u.v/\Zbt h u (Zaf ls i)
theorem Zp0.ext {h h':Za} {s:Sl} {ls:List (List Ym)} (r:Zp0 h s ls) (e:Ext h h'):Zp0 h' s ls :=
 ⟨r.ok,r.len,fun i D=>by
  obtain ⟨u,a,b⟩:=r.val i D
  exact ⟨u,e.hc a (fun h=>h),b.extM e⟩⟩
def Zec (M:Zg) (l:List Ym):Zg:=if (Xw M l).2=0 then Yu M l else M
def Um (N:Zg) (ls:List (List Ym)):Zg:=ls.foldl Zec N
theorem Zmk {N:Zg} {ls:List (List Ym)} {i:Nat} (r:i<ls.length):Um N (ls.take (i+1))=Zec (Um N (ls.take i)) (Zaf ls i):=by
 unfold Um
 rw [Xel r,Xhf]
 simp [Zaf,r]
theorem Zqq {M:Zg} (r:Yd M) {l:List Ym}:Yd (Zec M l)/\Xq M (Zec M l):=by
 unfold Zec
 split
 ·rename_i h
  exact ⟨Za8 r,Q6 r (fun _ hc=>Zcl h hc)⟩
 ·exact ⟨r,Xq.refl⟩
theorem Zpd {N:Zg} (G:Yd N):∀ {ls:List (List Ym)},Yd (Um N ls)/\Xq N (Um N ls):=by
 intro ls
 have:∀ (ls:List (List Ym)) (M:Zg),Yd M->Xq N M->Yd (ls.foldl Zec M)/\Xq N (ls.foldl Zec M):=by
  intro ls
  induction ls with
  | nil=>intro M h1 D; exact ⟨h1,D⟩
  | cons l r H=>intro M h1 D; exact H _ (Zqq h1).1 (D.trans (Zqq h1).2)
 exact this ls N G Xq.refl
def Zqz (ls:List (List Ym)):Bool:=decide ((∀ l,l∈ls->l.length<=300)/\ls.length<=6)
structure Zhu (Y:Sys):Prop where
 M16:Znm Y
 few:Y.Has 328 Y328
 may:Y.Has 327 Y327
 behind:Y.Has 329 Y329
 ready:Y.Has 330 Y330
 Ready:Y.Has 340 Y340
 R20:Z1m Y
 RA:Z6m Y
 O17:Z0e Y
 Md:Zwc Y
 To19:Y.Has 304 Y304
section
variable {Y:Sys} {h h':Za}
def FwI (s:Sl) (ls:List (List Ym)) (h0:Za) (e:List Value) (h':Za):Prop :=
 ∃ (i:Nat) (v3 v4:Value),e=[s.v,.bool false,.int .i64 i,v3,v4]/\i<=ls.length/\(∀ j,j<i->(Zaf ls j).length<=300)/\h'=h0
theorem Zp3 (X:Zhu Y) {s:Sl} {ls:List (List Ym)} (r:Zp0 h s ls) (J:ls.length<=9223372036854775807) {R:Value->Za->Prop} (H:R (.bool (Zqz ls)) h):Zm Y 328 [s.v] h R:=by
 have ll:=r.len
 refine .of_has X.few rfl ?_
 simp [Y328,Xa.wp]
 refine Zj (FwI s ls h) (fun e _=>ls.length-Zo e 2) ⟨0,_,_,rfl,by omega,fun j M=>by omega,rfl⟩ ?_
 rintro e h1 ⟨i,v3,v4,rfl,hi,D,rfl⟩
 by_cases c:i<ls.length
 rotate_left
 ·have c':¬ (i:Int)<s.n:=by omega
  simp [c']
  have:decide ((s.n:Int)<=6)=Zqz ls:=by
   unfold Zqz
   rw [decide_eq_decide]
   constructor
   ·intro h
    refine ⟨fun l O=>?_,by omega⟩
    obtain ⟨k,U,e⟩:=Xfa O
    have:=D k (by omega)
    simpa [Zaf,U,e] using this
   ·intro h; omega
  have G:decide (s.n<=6)=Zqz ls:=by rw [<-this]; rw [decide_eq_decide]; omega
  simp [this,G]
  exact H
 have c':(i:Int)<s.n:=by omega
 have V:i<s.n:=by omega
 have Z:IntKind.i64.wrap ((i:Int)+1)=(i:Int)+1:=Ze (by omega)
 obtain ⟨u,hu,ru⟩:=r.val i c
 have lu:=ru.len
 simp [c',V,Zb r.ok,hu]
 by_cases d:300<u.n
 ·have I:(300:Int)<u.n:=by omega
  have:Zqz ls=false:=by
   unfold Zqz
   rw [decide_eq_false_iff_not]
   rintro ⟨h,_⟩
   have hm:Zaf ls i∈ls:=by simp [Zaf,c]
   have:=h _ hm
   omega
  rw [this] at H
  simp [d,I]
  exact H
 ·have I:¬ (300:Int)<u.n:=by omega
  simp [d,I,Z]
  refine ⟨⟨i+1,_,_,rfl,by omega,fun j M=>?_,rfl⟩,by simp [Zo]; omega⟩
  by_cases q:j=i
  ·subst q; omega
  ·exact D j (by omega)
theorem Zp9 (X:Zhu Y) {D G H s:Sl} {N:Zg} {L:List (List Int)} (r:Uo h D G H N) (q:Ql h s L) (I:s.n<=9223372036854775807) {R:Value->Za->Prop} (M:∀ h',Ext h h'->R (.bool (Zn8 N && Zdq N.vs.length L)) h'):Zm Y 327 [Yo D G H,X0 s] h R:=by
 refine .of_has X.may rfl ?_
 have V:=r.rv.len
 simp [Y327,Xa.wp,Yo,X0]
 refine Zd ?_
 intro A h1 g1 A1 Z
 replace A1:Ys h1 A #[D.v,G.v,H.v]:=A1
 simp
 refine Zd ?_
 intro B h2 g2 B2 e2
 replace B2:Ys h2 B #[s.v]:=B2
 have O:=Z.trans e2
 simp [Zy (A1.ext e2)]
 rw [show (Value.agg #[D.v,G.v,H.v])=Yo D G H from rfl]
 refine Zxi X.M16 (r.ext O) ?_
 intro h3 e3
 have J:=O.trans e3
 cases U:Zn8 N with
 | false =>
  simp
  have:=M h3 J
  simpa [U] using this
 | true =>
  simp [((A1.ext e2).ext e3).hc,Zy (B2.ext e3)]
  rw [show (Value.agg #[s.v])=X0 s from rfl,<-V]
  refine Zvf X.M16 (q.ext J) I ?_
  intro h4 e4
  simp
  have:=M h4 (J.trans e4)
  simpa [U] using this
def BhI (A B:Nat) (s:Sl) (v0:Value) (N:Zg) (ls:List (List Ym)) (h0:Za) (e:List Value) (h':Za):Prop :=
 ∃ (i:Nat) (s1 s2 s3:Sl) (v5 v6:Value),e=[v0,s.v,.pointer (some ⟨A,0,none⟩),.pointer (some ⟨B,0,none⟩),.int .i64 i,v5,v6]/\i<=ls.length/\Ys h' A #[s1.v,s2.v,s3.v]/\Ys h' B #[.slice none 0 0,.slice none 0 0,.slice none 0 0]/\(∀ k,Mod (fun j=>j=A\/j=B) h' k->Uo k s1 s2 s3 (Um N (ls.take i)))/\Ext h0 h'
theorem Zq6 (X:Zhu Y) {J M O s:Sl} {N:Zg} {ls:List (List Ym)} (r:Uo h J M O N) (q:Zp0 h s ls) (ok:Yd N) (ad:ls.length<=1000) {R:Value->Za->Prop}
  (hr:∀ h' G s2 H,Ext h h'->Uo h' G s2 H (Um N ls)->R (Yo G s2 H) h'):Zm Y 329 [Yo J M O,s.v] h R:=by
 have ll:=q.len
 refine .of_has X.behind rfl ?_
 simp [Y329,Xa.wp,Yo]
 refine Zd ?_
 intro A h1 gA A1 e1
 replace A1:Ys h1 A #[J.v,M.v,O.v]:=A1
 have lA:=A1.lt
 simp
 refine Zd ?_
 intro B h2 gB B2 e2
 replace B2:Ys h2 B #[.slice none 0 0,.slice none 0 0,.slice none 0 0]:=B2
 have lB:=B2.lt
 have x2:=e1.trans e2
 have z1:=e1.size
 have z2:=e2.size
 simp
 refine Zj (BhI A B s (.agg #[J.v,M.v,O.v]) N ls h) (fun e _=>ls.length-Zo e 4) ⟨0,J,M,O,_,_,rfl,by omega,A1.ext e2,B2,fun k mk=>r.ext (Mod.ext x2 mk (fun j hj=>by rcases hj with e | e <;> omega)),x2⟩ ?_
 rintro e h3 ⟨i,G,s2,H,v5,v6,rfl,hi,A3,B3,I,x3⟩
 have af:=A3.lt
 have ag:=B3.lt
 by_cases c:i<ls.length
 rotate_left
 ·have c':¬ (i:Int)<s.n:=by omega
  have:i=ls.length:=by omega
  subst this
  simp [c',Zy A3]
  refine Zi (vs:=#[G.v,s2.v,H.v]) B3 rfl rfl (by simp) ?_
  intro h4 B4 m4
  simp
  refine Yt rfl B4 rfl ?_
  have:=I h4 (m4.mono fun j _ h=>.inr h)
  rw [Xfl] at this
  exact hr h4 G s2 H (Mod.ext x3 m4 (fun j hj=>by omega)) this
 have c':(i:Int)<s.n:=by omega
 have c2:i<s.n:=by omega
 have w1:IntKind.i64.wrap ((i:Int)+1)=(i:Int)+1:=Ze (by omega)
 have r3:=I h3 (Mod.refl _)
 obtain ⟨ab,ae⟩:=Zpd ok (ls:=ls.take i)
 obtain ⟨u,hu,ru⟩:=(q.ext x3).val i c
 have U:=Zmk (N:=N) c
 simp [c',c2,Zy A3,Zb q.ok,hu]
 rw [show (Value.agg #[G.v,s2.v,H.v])=Yo G s2 H from rfl]
 refine Zil X.R20 r3 ru ?_
 intro h4 wv D ac
 obtain ⟨s4,rfl⟩:=ac.here.shape
 have V:∀ g,Yg.sem Y g (.fld 1 1 false) [.agg #[s4.v,.int .i64 (Xw (Um N (ls.take i)) (Zaf ls i)).2]]=some (.int .i64 (Xw (Um N (ls.take i)) (Zaf ls i)).2):=fun g=>rfl
 have Z:∀ k,Mod (fun j=>j=A\/j=B) h4 k->Uo k G s2 H (Um N (ls.take i)):=fun k mk=>I k ((D.mono fun _ _ h=>h.elim).trans mk)
 by_cases hz:(Xw (Um N (ls.take i)) (Zaf ls i)).2=0
 rotate_left
 ·simp [V,hz,w1]
  refine ⟨⟨i+1,G,s2,H,_,_,rfl,by omega,A3.ext D,B3.ext D,?_,x3.trans D⟩,by simp [Zo]; omega⟩
  rw [U]
  unfold Zec
  rw [if_neg hz]
  exact Z
 simp [V,hz,Zy (A3.ext D),Zb q.ok,c2,D.hc hu (fun h=>h)]
 rw [show (Value.agg #[G.v,s2.v,H.v])=Yo G s2 H from rfl]
 refine Zqn X.RA (r3.ext D) ab (ru.extM D) hz ?_
 intro h5 t1 t2 t3 e5 aa
 simp [Yo]
 have z4:=D.size
 refine Zi (vs:=#[t1.v,t2.v,t3.v]) ((A3.ext D).ext e5) rfl rfl (by simp) ?_
 intro h6 A6 m6
 simp [w1]
 refine ⟨⟨i+1,t1,t2,t3,_,_,rfl,by omega,A6,m6.blk ((B3.ext D).ext e5) (by omega),?_,Mod.ext ((x3.trans D).trans e5) m6 (fun j hj=>by omega)⟩,by simp [Zo]; omega⟩
 rw [U]
 unfold Zec
 rw [if_pos hz]
 exact fun k mk=>aa k ((m6.mono fun j _ h=>by omega).trans (mk.mono fun j _ h=>by rcases h with e | e <;> omega))
end
structure Znh (h0 h:Za) (p op:Nat) (sc:Sl) (N:Zg) (L:List (List Int)) (S:Nat->Prop) (costs:List Int):Prop where
 ex:Ext h0 h
 g:Yv h p N S
 v:OvR h S op N L
 rc:Zz h sc costs
 hE:Zeb N L costs
 fc:costs≠[]->¬ S sc.b
 lo:∀ b,S b->h0.size<=b
theorem Mod.weak {S:Nat->Prop} {h h':Za} (e:Ext h h'):Mod S h h':=e.mono fun _ _ h=>h.elim
def Z1x (Y:Sys):Prop:=∀ (h:Za) (R:Value->Za->Prop),(∀ h',Ext h h'->R (.bool true) h')->Zm Y 326 [] h R
theorem Zxa {N:Zg} {L:List (List Int)} (h:(Zn8 N && Zdq N.vs.length L)=true):Ze9 N=true/\Yd N/\Yx N.vs.length L:=by
 simp [Zn8,Zdq] at h
 exact ⟨h.1.1,Zhv.1 h.1.2,Ztz.1 h.2.2⟩
section
variable {Y:Sys} {h h':Za}
theorem Zpm (X:Zhu Y) {D G H s:Sl} {N:Zg} {L:List (List Int)} (r:Uo h D G H N) (q:Ql h s L) (hf:Ze9 N=true) (J:Yd N) (Z:Yx N.vs.length L) {R:Value->Za->Prop}
  (hr:∀ h' p op sc S I,Znh h h' p op sc N L S I->R (.tuple #[.pointer (some ⟨p,0,none⟩),.pointer (some ⟨op,0,none⟩),sc.v,.bool true]) h'):Zm Y 340 [Yo D G H,X0 s] h R:=by
 refine .of_has X.Ready rfl ?_
 simp [Y340,Xa.wp,Yo,X0]
 refine Zd ?_
 intro A h1 gA A1 e1
 replace A1:Ys h1 A #[D.v,G.v,H.v]:=A1
 simp
 refine Zd ?_
 intro B h2 gB B2 e2
 replace B2:Ys h2 B #[s.v]:=B2
 have x2:=e1.trans e2
 have A2:=A1.ext e2
 have z1:=e1.size
 have z2:=e2.size
 simp [Zy A2,Zy B2]
 rw [show (Value.agg #[D.v,G.v,H.v])=Yo D G H from rfl]
 refine Zl9 X.O17.MF (r.ext x2) hf J ?_
 intro h3 p S e3 g hS
 have M:=x2.trans e3
 simp [Zy (A2.ext e3),Zy (B2.ext e3)]
 rw [show (Value.agg #[D.v,G.v,H.v])=Yo D G H from rfl,show (Value.agg #[s.v])=X0 s from rfl]
 refine ⟨rfl,?_⟩
 refine Zrg X.O17 (r.ext M) (q.ext M) hf J Z ?_
 intro h4 op e4 aa fo
 have x4:=M.trans e4
 have gl:=g.lt
 have v4:OvR h4 S op N L:=fun k mk=>fo k (mk.mono fun j _ hj=>gl j hj)
 have O:=g.ext e4
 simp
 refine Z0r X.Md.A O (v4 h4 (Mod.refl _)) J Z ?_
 intro h5 cb C U ab o5 hE
 have V:=O.lt
 simp
 refine hr h5 p op (Sl.at cb _ _) S C ⟨x4.trans U,O.ext U,v4.then (S':=S) (Mod.weak U) (fun b hb=>.inl hb),o5.row64,hE,fun _ hb=>by have:=V _ hb; simp only [Sl.at_b] at this; omega,fun b hb=>?_⟩
 have:=hS b hb
 omega
def RyI (A B p op:Nat) (s:Sl) (v0 v1:Value) (N:Zg) (L:List (List Int)) (ls:List (List Ym)) (h0:Za) (e:List Value) (h':Za):Prop :=
 ∃ (i:Nat) (sc:Sl) (costs:List Int) (S:Nat->Prop) (v14 v15 v16 v17 v18:Value),e=[v0,v1,s.v,.pointer (some ⟨A,0,none⟩),.pointer (some ⟨B,0,none⟩),.pointer none,.pointer none,.slice none 0 0,.bool false,.pointer (some ⟨p,0,none⟩),.pointer (some ⟨op,0,none⟩),sc.v,.bool true,.int .i64 i,v14,v15,v16,v17,v18]/\i<=ls.length/\Znh h0 h' p op sc (Um N (ls.take i)) L S costs
theorem Zuc (X:Zhu Y) {I J M s q:Sl} {N:Zg} {L:List (List Int)} {ls:List (List Ym)} (r:Uo h I J M N) (rq:Ql h q L) (ra:Zp0 h s ls) (hf:Ze9 N=true) (ok:Yd N) (pk:Yx N.vs.length L) (ae:ls.length<=1000) (O:∀ i,i<ls.length->(Zaf ls i).length<=1000) {R:Value->Za->Prop}
  (hr:∀ h' p op G S D,Znh h h' p op G (Um N ls) L S D->R (.tuple #[.pointer (some ⟨p,0,none⟩),.pointer (some ⟨op,0,none⟩),G.v,.bool true]) h'):Zm Y 330 [Yo I J M,X0 q,s.v] h R:=by
 have ll:=ra.len
 refine .of_has X.ready rfl ?_
 simp [Y330,Xa.wp,Yo,X0]
 refine Zd ?_
 intro A h1 gA A1 e1
 replace A1:Ys h1 A #[I.v,J.v,M.v]:=A1
 simp
 refine Zd ?_
 intro B h2 gB B2 e2
 replace B2:Ys h2 B #[q.v]:=B2
 have x2:=e1.trans e2
 have A2:=A1.ext e2
 have z2:=x2.size
 simp [Zy A2,Zy B2]
 rw [show (Value.agg #[I.v,J.v,M.v])=Yo I J M from rfl,show (Value.agg #[q.v])=X0 q from rfl]
 refine Zpm X (r.ext x2) (rq.ext x2) hf ok pk ?_
 intro h3 p op G S D R3
 have R3':Znh h h3 p op G (Um N (ls.take 0)) L S D:=⟨x2.trans R3.ex,R3.g,R3.v,R3.rc,R3.hE,R3.fc,fun b hb=>by have:=R3.lo b hb; omega⟩
 simp
 refine Zj (RyI A B p op s (Yo I J M) (X0 q) N L ls h) (fun e _=>ls.length-Zo e 13) ⟨0,G,D,S,_,_,_,_,_,rfl,by omega,R3'⟩ ?_
 clear R3 R3'
 rintro e h4 ⟨i,G,D,S,af,ag,ah,ai,aj,rfl,hi,R4⟩
 by_cases c:i<ls.length
 rotate_left
 ·have c':¬ (i:Int)<s.n:=by omega
  have:i=ls.length:=by omega
  subst this
  rw [Xfl] at R4
  simp [c']
  exact hr h4 p op G S D R4
 have c':(i:Int)<s.n:=by omega
 have c2:i<s.n:=by omega
 have w1:IntKind.i64.wrap ((i:Int)+1)=(i:Int)+1:=Ze (by omega)
 obtain ⟨U,V⟩:=Zpd ok (ls:=ls.take i)
 obtain ⟨u,hu,ru⟩:=(ra.ext R4.ex).val i c
 have Z:=Zmk (N:=N) c
 have gl:=R4.g.lt
 have ab:=O i c
 simp [c',c2,Zb ra.ok,hu]
 refine Zzh X.To19 ru ab ?_
 intro h5 w H ow fw
 have v5:OvR h5 S op (Um N (ls.take i)) L:=R4.v.then (S':=S) (Mod.weak H) (fun b hb=>.inl hb)
 simp
 refine Zxt X.Md (R4.g.ext H) v5 U (by rw [V.vs]; exact pk) (R4.rc.ext H) R4.hE R4.fc ow.row5 (fun hn hb=>by have:=fw hn; have:=gl _ hb; omega) ?_ ?_
 ·intro h6 t v hb e6
  simp [w1]
  refine ⟨⟨i+1,G,D,S,_,_,_,_,_,rfl,by omega,?_⟩,by simp [Zo]; omega⟩
  rw [Z]
  unfold Zec
  rw [if_neg hb]
  exact ⟨(R4.ex.trans H).trans e6,(R4.g.ext H).ext e6,v5.then (S':=S) (Mod.weak e6) (fun b hb=>.inl hb),(R4.rc.ext H).ext e6,R4.hE,R4.fc,R4.lo⟩
 ·intro h6 cb C f S' hz m6 g6 aa ak ac o6 ad
  simp [w1]
  refine ⟨⟨i+1,Sl.at cb _ _,C,S',_,_,_,_,_,rfl,by omega,?_⟩,by simp [Zo]; omega⟩
  have z5:=R4.ex.size
  have z6:=H.size
  have dA:Xq (Um N (ls.take i)) (Yu (Um N (ls.take i)) (Zaf ls i)):=Q6 U (fun _ hc=>Zcl hz hc)
  rw [Z]
  unfold Zec
  rw [if_pos hz]
  refine ⟨Mod.ext (R4.ex.trans H) m6 (fun j hj=>R4.lo j hj),g6,fun k mk=>(v5.then m6 aa k mk).dim dA,o6.row64,ad,fun _=>ac,fun b hb=>?_⟩
  rcases aa b hb with w | w
  ·exact R4.lo b w
  ·omega
end
def Zin (x:Int):List Int->Int
 | []=>x
 | y::r=>Zin (if y<x then y else x) r
theorem Zv8 {l:List Int}:∀ {x:Int},Zin x l<=x/\∀ y,y∈l->Zin x l<=y:=by
 induction l with
 | nil=>intro x; exact ⟨Xfz _,fun y h=>by simp at h⟩
 | cons z r D =>
  intro x
  simp only [Zin]
  obtain ⟨a,b⟩:=D (x:=if z<x then z else x)
  have h1:(if z<x then z else x)<=x/\(if z<x then z else x)<=z:=by split <;> omega
  refine ⟨Int.le_trans a h1.1,fun y hy=>?_⟩
  rcases List.mem_cons.1 hy with e | e
  ·subst e; exact Int.le_trans a h1.2
  ·exact b y e
theorem Z42 {l:List Int}:∀ {x:Int},Zin x l=x\/Zin x l∈l:=by
 induction l with
 | nil=>intro x; exact .inl rfl
 | cons z r D =>
  intro x
  simp only [Zin]
  rcases D (x:=if z<x then z else x) with e | e
  ·rw [e]
   split
   ·exact .inr (by simp)
   ·exact .inl rfl
  ·exact .inr (by simp [e])
theorem Zzo {l:List Int} {y:Int}:∀ {x:Int},Zin x (l++[y])=if y<Zin x l then y else Zin x l:=by
 induction l with
 | nil=>intro x; rfl
 | cons z r D=>intro x; exact D
def Zvt (N:Zg) (ds:List Int) (s b:Nat):Int :=
 if b=s/\Zl N s≠Xr then 0 else Zin Xr ((List.range ds.length).map fun k=>Zao (Zao (Zc ds k) (Ye N k b)) (Zl N b))
theorem Zqb {a b:Int} (r:0<=a) (hb:0<=b):Zao a b=Vc (a+b):=by
 unfold Zao Vc
 repeat' split
 all_goals omega
theorem Z5t {N:Zg} (H:Yd N) {ds:List Int} {s:Nat} (J:ds.length=N.as.length) (hd:∀ b,b<N.as.length->Zcg (Zh0 N s) (EdW N) b (Zc ds b)) {b:Nat} (hb:b<N.as.length):Zc ds b=Zvt N ds s b:=by
 have hI:Xr=1152921504606846976:=rfl
 have C:=Zty H (s:=(s:Int))
 have G:∀ k,k<N.as.length->0<=Zc ds k/\Zc ds k<=Xr:=fun k r=>by
  have h:=hd k r
  refine ⟨?_,h.le⟩
  rcases h.is with e | e
  ·omega
  ·exact (e.pos C).2
 have h:=hd b hb
 have I:=fun k:Nat=>Ws H (a:=(k:Int)) (b:=(b:Int))
 have M:=Vf H (a:=(b:Int))
 have D:∀ k,k<N.as.length->Zao (Zao (Zc ds k) (Ye N k b)) (Zl N b)=Vc (Zc ds k+Ye N k b+Zl N b):=fun k r=>by
  have:=G k r
  have:=I k
  rw [Zqb (a:=Zc ds k) (b:=Ye N k b) (by omega) (by omega),Zqb (a:=Vc (Zc ds k+Ye N k b)) (by have:=(Zha (x:=Zc ds k+Ye N k b) (by omega)); omega) (by omega)]
  unfold Vc
  repeat' split
  all_goals omega
 unfold Zvt
 by_cases q:b=s/\Zl N s≠Xr
 ·rw [if_pos q]
  have:=h.all 0 (.init ⟨by omega,rfl,q.2⟩)
  have:=G b hb
  omega
 rw [if_neg q]
 apply Int.le_antisymm
 ·rcases Z42 (x:=Xr) (l:=(List.range ds.length).map fun k=>Zao (Zao (Zc ds k) (Ye N k b)) (Zl N b)) with e | e
  ·rw [e]; exact h.le
  ·obtain ⟨k,r,O⟩:=List.mem_map.1 e
   rw [<-O]
   have r:k<N.as.length:=by rw [<-J]; simpa using r
   rw [D k r]
   have R:=I k
   have U:=G k r
   have V:=Zha (x:=Zc ds k+Ye N k b+Zl N b) (by omega)
   by_cases z:Zc ds k=Xr\/Ye N k b=Xr\/Zl N b=Xr
   ·have:=h.le
    have:Xr<=Zc ds k+Ye N k b+Zl N b:=by omega
    have:=Zvz this (Xfz _) (by omega)
    omega
   ·have w:=(hd k r).is.resolve_left (by omega)
    have:=h.all _ (.step w ⟨by omega,by omega,rfl⟩)
    rcases V.2.2.2 with e | e
    ·have:=h.le; omega
    ·omega
 ·rcases h.is with e | w
  ·rw [e]; exact Zv8.1
  ·clear h
   revert w
   generalize Zc ds b=db
   intro w
   cases w with
   | init h'=>exact absurd ⟨by have:=h'.1; omega,h'.2.2⟩ q
   | step w' e =>
    rename_i k y x
    have r:k<N.as.length:=(w'.pos C).1
    have h1:=(hd k r).all _ w'
    have X:=(Zv8 (x:=Xr) (l:=(List.range ds.length).map fun k=>Zao (Zao (Zc ds k) (Ye N k b)) (Zl N b))).2 _ (List.mem_map.2 ⟨k,by simp [J,r],rfl⟩)
    rw [D k r] at X
    obtain ⟨Z,e2,e3⟩:=e
    have R:=(I k).resolve_left Z
    have w1:=M.resolve_left e2
    have U:=G k r
    have:=(Zha (x:=Zc ds k+Ye N k b+Zl N b) (by omega)).1
    omega
structure Xap (Y:Sys):Prop where
 T:Zhu Y
 K:Z1x Y
 D:Znt Y
 RN:Zi2 Y
 RT:Zgq Y
 RC:Zvk Y
 Eq:Y.Has 560 Y560
section
variable {Y:Sys} {h h':Za}
def Xb1 (A B p op cb:Nat) (v0 v1 v2 v3:Value) (sc s1 s2 s3:Sl) (s:Nat) (M:Zg) (h0:Za) (e:List Value) (h':Za):Prop :=
 ∃ (i:Nat) (d:Sl) (ds:List Int) (v15 v16 v17 v18 v19 v20 v21 v22 v23 v24 v25 v26 v27 v28:Value),e=[v0,v1,v2,v3,.pointer (some ⟨A,0,none⟩),.pointer (some ⟨B,0,none⟩),.bool false,.pointer (some ⟨p,0,none⟩),.pointer (some ⟨op,0,none⟩),sc.v,.bool true,.pointer (some ⟨cb,0,none⟩),.int .i64 s,d.v,.int .i64 i,v15,v16,v17,v18,v19,v20,v21,v22,v23,v24,v25,v26,v27,v28]/\i<=M.as.length /\
  Yb h' 1 d (Zh ds)/\(d.nl=false->h0.size<=d.b)/\ds.length=i/\(∀ b,b<i->Zcg (Zh0 M s) (EdW M) b (Zc ds b))/\Ext h0 h'
def Xcb (A B cb:Nat) (v0 v1 v2 v3 v7 v8 v9 v10:Value) (d:Sl) (s:Nat) (ds:List Int) (h0:Za) (e:List Value) (h':Za):Prop :=
 ∃ (i:Nat) (v14 v15 v16 v18 v19 v20 v21 v22 v23 v24 v25 v26 v27 v28:Value),e=[v0,v1,v2,v3,.pointer (some ⟨A,0,none⟩),.pointer (some ⟨B,0,none⟩),.bool false,v7,v8,v9,v10,.pointer (some ⟨cb,0,none⟩),.int .i64 s,d.v,v14,v15,v16,.int .i64 i,v18,v19,v20,v21,v22,v23,v24,v25,v26,v27,v28]/\i<=ds.length/\Ext h0 h'
def Xby (A B cb:Nat) (v0 v1 v2 v3 v7 v8 v9 v10:Value) (d:Sl) (s b:Nat) (M:Zg) (ds:List Int) (h0:Za) (e:List Value) (h':Za):Prop :=
 ∃ (k:Nat) (v14 v15 v16 v20 v21 v22 v23 v24 v25 v26 v27 v28:Value),e=[v0,v1,v2,v3,.pointer (some ⟨A,0,none⟩),.pointer (some ⟨B,0,none⟩),.bool false,v7,v8,v9,v10,.pointer (some ⟨cb,0,none⟩),.int .i64 s,d.v,v14,v15,v16,.int .i64 b,.int .i64 (Zin Xr ((List.range k).map fun k=>Zao (Zao (Zc ds k) (Ye M k b)) (Zl M b))),.int .i64 k,v20,v21,v22,v23,v24,v25,v26,v27,v28]/\k<=ds.length/\Ext h0 h'
set_option maxHeartbeats 1000000 in
theorem Z9b (X:Xap Y) {M H O q s:Sl} {N:Zg} {L:List (List Int)} {ls:List (List Ym)} (r:Uo h M H O N) (rq:Ql h q L) (ae:q.n<=9223372036854775807) (ra:Zp0 h s ls) (af:ls.length<=9223372036854775807) {a:Int} (ha:0<=a/\a<=65535) {R:Value->Za->Prop}
  (hr:∀ h',Ext h h'->R (.bool true) h'):Zm Y 560 [Yo M H O,X0 q,s.v,.int .u16 a] h R:=by
 have hI:Xr=1152921504606846976:=rfl
 have la:=r.ra.len
 refine .of_has X.Eq rfl ?_
 simp [Y560,Xa.wp,Yo,X0]
 refine Zd ?_
 intro A h1 gA A1 e1
 replace A1:Ys h1 A #[M.v,H.v,O.v]:=A1
 simp
 refine Zd ?_
 intro B h2 gB B2 e2
 replace B2:Ys h2 B #[q.v]:=B2
 have x2:=e1.trans e2
 have A2:=A1.ext e2
 simp
 refine X.K h2 _ ?_
 intro h3 e3
 have x3:=x2.trans e3
 have A3:=A2.ext e3
 have B3:=B2.ext e3
 simp [Zy A3,Zy B3]
 rw [show (Value.agg #[M.v,H.v,O.v])=Yo M H O from rfl,show (Value.agg #[q.v])=X0 q from rfl]
 refine Zp9 X.T (r.ext x3) (rq.ext x3) ae ?_
 intro h4 e4
 have Z:=x3.trans e4
 by_cases hm:(Zn8 N && Zdq N.vs.length L)=true
 rotate_left
 ·have aw:(Zn8 N && Zdq N.vs.length L)=false:=by simpa using hm
  rw [aw]
  simp
  exact hr h4 Z
 obtain ⟨hf,ok,pk⟩:=Zxa hm
 rw [hm]
 simp
 refine Zp3 X.T (ra.ext Z) af ?_
 cases ax:Zqz ls with
 | false =>
  simp
  exact hr h4 Z
 | true =>
  have ay:(∀ l,l∈ls->l.length<=300)/\ls.length<=6:=by simpa [Zqz] using ax
  have A4:=A3.ext e4
  have B4:=B3.ext e4
  simp [A4.hc]
  by_cases hz:H.n=0
  ·simp [hz]
   exact hr h4 Z
  have ag:¬ ((H.n:Int)=0):=by omega
  simp [hz,ag,Zy A4,Zy B4]
  rw [show (Value.agg #[M.v,H.v,O.v])=Yo M H O from rfl,show (Value.agg #[q.v])=X0 q from rfl]
  have ah:∀ i,i<ls.length->(Zaf ls i).length<=1000:=fun i hi=>by
   have hm:Zaf ls i∈ls:=by simp [Zaf,hi]
   have:=ay.1 _ hm
   omega
  refine Zuc X.T (r.ext Z) (rq.ext Z) (ra.ext Z) hf ok pk (by omega) ah ?_
  intro h5 p op sc S az R5
  have x5:=Z.trans R5.ex
  have A5:=A4.ext R5.ex
  obtain ⟨ac,ai⟩:=Zpd ok (ls:=ls)
  simp [Zy A5]
  rw [show (Value.agg #[M.v,H.v,O.v])=Yo M H O from rfl]
  refine Zq6 X.T (r.ext x5) (ra.ext x5) ok (by omega) ?_
  intro h6 s1 s2 s3 e6 r6
  have x6:=x5.trans e6
  simp [Yo]
  refine Zd ?_
  intro cb h7 aA C7 e7
  replace C7:Ys h7 cb #[.slice none 0 0,.slice none 0 0,.slice none 0 0]:=C7
  simp
  refine Zi (vs:=#[s1.v,s2.v,s3.v]) C7 rfl rfl (by simp) ?_
  intro h8 C8 m8
  have e8:Ext h6 h8:=Mod.toExtF e7 m8 aA
  have x8:=x6.trans e8
  have A8:=((A5.ext e6).ext e8)
  have r8:=r6.ext e8
  have wa:IntKind.i64.wrap a=a:=Ze (by omega)
  have aB:((H.n:Int))≠0:=ag
  have aj:a.tmod (H.n:Int)=((a.toNat % H.n:Nat):Int):=by
   rw [Int.tmod_eq_emod_of_nonneg ha.1,Int.natCast_emod]
   congr 1
   omega
  simp [A8.hc,wa,Z8x aB,aj,-Int.natCast_emod]
  generalize hs:a.toNat % H.n=t
  have lt:t<N.as.length:=by rw [<-hs,la]; exact Nat.mod_lt _ (by omega)
  have lM:=ai.al
  have aO:=ok.ba
  have g8:=(R5.g.ext e6).ext e8
  have v8:Up h8 op (Um N ls) L:=R5.v h8 (Mod.weak (e6.trans e8))
  have aC:=(R5.rc.ext e6).ext e8
  have aD:Yx (Um N ls).vs.length L:=by rw [ai.vs]; exact pk
  refine Zj (Xb1 A B p op cb (Yo M H O) (X0 q) s.v (.int .u16 a) sc s1 s2 s3 t (Um N ls) h8) (fun e _=>(Um N ls).as.length-Zo e 14) ⟨0,Sl.nil,[],_,_,_,_,_,_,_,_,_,_,_,_,_,_,rfl,by omega,Yb.nil,fun h=>(by cases h),rfl,fun b hb=>by omega,Mod.refl _⟩ ?_
  rintro e h9 ⟨i,d,ds,aP,aQ,aR,aS,aT,aU,aV,aW,aX,aY,aZ,a0,a1,a2,rfl,hi,od,fd,ak,hd,x9⟩
  have A9:=A8.ext x9
  have ld:=od.row64.len
  by_cases c:i<(Um N ls).as.length
  ·have c':(i:Int)<H.n:=by omega
   have c2:i<H.n:=by omega
   have w1:IntKind.i64.wrap ((i:Int)+1)=(i:Int)+1:=Ze (by omega)
   simp [A9.hc,c',c2]
   refine Zza X.D (g8.ext x9) (v8.ext x9) (aC.ext x9) ac aD R5.hE (by omega) c ?_
   intro am x aE hx
   simp
   refine Xe rfl ?_
   intro b aF a3 B11 aG
   simp
   have U:=aE.trans aG
   refine Wc rfl (od.ext' U) B11 (by omega) (by omega) ?_
   intro d' aH aI a4 aJ an
   have z9:=x9.size
   have a5:=U.size
   simp [w1]
   refine ⟨⟨i+1,d',ds++[x],_,_,_,_,_,_,_,_,_,_,_,_,_,_,rfl,by omega,by simpa [Zh] using aI,fun hn=>?_,by simp [ak],fun b hb=>?_,Mod.ext (x9.trans U) aJ (fun j hj=>by have:=fd hj.1; omega)⟩,by simp [Zo]; omega⟩
   ·rcases an with ⟨u,w⟩ | ⟨u,w⟩
    ·rw [u]; exact fd (by rw [<-w]; exact hn)
    ·omega
   ·rcases Xd8 b i with w | w
    ·rw [Vq (by omega)]; exact hd b w
    ·have:b=ds.length:=by omega
     subst this
     rw [Zcw,ak]; exact hx
  have c':¬ (i:Int)<H.n:=by omega
  have c2:¬ i<H.n:=by omega
  have a6:i=(Um N ls).as.length:=by omega
  simp [A9.hc,c',c2]
  have ao:∀ b,b<(Um N ls).as.length->Zc ds b=Zvt (Um N ls) ds t b:=fun b hb=>Z5t ac (by omega) (fun b hb=>hd b (by omega)) hb
  refine Zj (Xcb A B cb (Yo M H O) (X0 q) s.v (.int .u16 a) (.pointer (some ⟨p,0,none⟩)) (.pointer (some ⟨op,0,none⟩)) sc.v (.bool true) d t ds h9) (fun e _=>ds.length-Zo e 17) ⟨0,_,_,_,_,_,_,_,_,_,_,_,_,_,_,rfl,by omega,Mod.refl _⟩ ?_
  rintro e am ⟨b,a7,a8,a9,bb,bc,bd,be,bg,bh,bi,bj,bk,bm,bn,rfl,hb,ap⟩
  have aq:=x9.trans ap
  by_cases aK:b<ds.length
  rotate_left
  ·have q':¬ (b:Int)<d.n:=by omega
   simp [q']
   exact hr am (x8.trans aq)
  have q':(b:Int)<d.n:=by omega
  have q2:b<d.n:=by omega
  have wb:IntKind.i64.wrap ((b:Int)+1)=(b:Int)+1:=Ze (by omega)
  simp [q']
  refine Zj (Xby A B cb (Yo M H O) (X0 q) s.v (.int .u16 a) (.pointer (some ⟨p,0,none⟩)) (.pointer (some ⟨op,0,none⟩)) sc.v (.bool true) d t b (Um N ls) ds h9) (fun e _=>ds.length-Zo e 19) ⟨0,_,_,_,_,_,_,_,_,_,_,_,_,rfl,by omega,ap⟩ ?_
  rintro e aF ⟨k,bo,bp,bq,br,bs,bu,bv,bw,bx,bz,bA,bB,rfl,hk,J⟩
  have aa:=x9.trans J
  have C11:=C8.ext aa
  have I:=r8.ext aa
  have ab:=(od.ext' J).row64
  have l2:=I.ra.len
  have hw:∀ y:Nat,y<(Um N ls).as.length->Zl (Um N ls) y=(Zf (Um N ls).as y).c:=fun y hy=>by
   unfold Zl
   rw [if_pos (by simp [Zt]; omega)]
   simp
  by_cases ck:k<ds.length
  ·have k1:(k:Int)<d.n:=by omega
   have k2:k<d.n:=by omega
   have wk:IntKind.i64.wrap ((k:Int)+1)=(k:Int)+1:=Ze (by omega)
   have vk:=ab.val k ck
   have b1:(b:Int)<s2.n:=by omega
   have b2:b<s2.n:=by omega
   have vw:=I.ra.v2 b (by omega)
   rw [<-hw b (by omega)] at vw
   simp [k1,k2,Zb od.ok,vk,Zy C11,C11.hc,Zb I.ra.ok,b1,b2,vw]
   rw [show (Value.agg #[s1.v,s2.v,s3.v])=Yo s1 s2 s3 from rfl]
   refine Zva X.RN X.RT I ac ?_
   intro aH V
   have C12:=C11.ext V
   have aL:=V.hc vk (fun h=>h)
   have ar:=V.hc vw (fun h=>h)
   simp [C12.hc,aL,ar]
   refine Zl1 X.RC ?_
   simp [C12.hc,ar]
   refine Zl1 X.RC ?_
   have aM:(List.range (k+1)).map (fun k=>Zao (Zao (Zc ds k) (Ye (Um N ls) k b)) (Zl (Um N ls) b))=(List.range k).map (fun k=>Zao (Zao (Zc ds k) (Ye (Um N ls) k b)) (Zl (Um N ls) b))++[Zao (Zao (Zc ds k) (Ye (Um N ls) k b)) (Zl (Um N ls) b)]:=by simp [Xf1]
   have au:=Zzo (l:=(List.range k).map (fun k=>Zao (Zao (Zc ds k) (Ye (Um N ls) k b)) (Zl (Um N ls) b))) (y:=Zao (Zao (Zc ds k) (Ye (Um N ls) k b)) (Zl (Um N ls) b)) (x:=Xr)
   rw [<-aM] at au
   simp [wk]
   rw [<-au]
   exact ⟨⟨k+1,_,_,_,_,_,_,_,_,_,_,_,_,rfl,by omega,J.trans V⟩,by simp [Zo]; omega⟩
  have k1:¬ (k:Int)<d.n:=by omega
  have aN:k=ds.length:=by omega
  subst aN
  have vb:=ab.val b aK
  have G:=ao b (by omega)
  have t1:(t:Int)<s2.n:=by omega
  have t2:t<s2.n:=by omega
  have vt:=I.ra.v2 t (by omega)
  rw [<-hw t (by omega)] at vt
  unfold Zvt at G
  by_cases ad:b=t
  ·subst ad
   by_cases cw:Zl (Um N ls) b=1152921504606846976
   ·rw [if_neg (fun h=>h.2 cw)] at G
    simp [k1,C11.hc,Zb I.ra.ok,t1,t2,vt,cw,Zb od.ok,q',q2,vb,G,wb]
    exact ⟨⟨b+1,_,_,_,_,_,_,_,_,_,_,_,_,_,_,rfl,by omega,J⟩,by simp [Zo]; omega⟩
   ·rw [if_pos ⟨rfl,cw⟩] at G
    simp [k1,C11.hc,Zb I.ra.ok,t1,t2,vt,cw,Zb od.ok,q',q2,vb,G,wb]
    exact ⟨⟨b+1,_,_,_,_,_,_,_,_,_,_,_,_,_,_,rfl,by omega,J⟩,by simp [Zo]; omega⟩
  ·have av:¬ (b:Int)=(t:Int):=by omega
   rw [if_neg (fun h=>ad h.1)] at G
   simp [k1,ad,av,Zb od.ok,q',q2,vb,G,wb]
   exact ⟨⟨b+1,_,_,_,_,_,_,_,_,_,_,_,_,_,_,rfl,by omega,J⟩,by simp [Zo]; omega⟩
end
end Go.Rm
