import Derived.Test.YtnmnlnpbekafmaaGreatDoorT41
import Derived.Test.YtnmnlnpbekafmaaGreatDoorT40
/- Parts. -/
set_option linter.unusedSimpArgs false
set_option linter.unusedVariables false
namespace Go.Rm
def Zd6 (ls:List (List Yt)) (i:Nat):List Yt:=ls.getD i []
structure Zfx (h:Zk) (s:Sl) (ls:List (List Yt)):Prop where
 ok:s.ok
 len:ls.length=s.n
 val:∀ i,i<ls.length->∃ u:Sl,hc h s.b (s.o+i)=some u.v/\U9 h u (Zd6 ls i)
theorem Zfx.ext {h h':Zk} {s:Sl} {ls:List (List Yt)} (r:Zfx h s ls) (e:Ext h h'):Zfx h' s ls :=
 ⟨r.ok,r.len,fun i D=>by
  obtain ⟨u,a,b⟩:=r.val i D;exact ⟨u,e.hc a (fun h=>h),b.extM e⟩⟩
def Zch (M:Zq) (l:List Yt):Zq:=if (Xj M l).2=0 then Yo M l else M
def Zbf (N:Zq) (ls:List (List Yt)):Zq:=ls.foldl Zch N
theorem Zmy {N:Zq} {ls:List (List Yt)} {i:Nat} (r:i<ls.length):Zbf N (ls.take (i+1))=Zch (Zbf N (ls.take i)) (Zd6 ls i):=by
 unfold Zbf;rw [Xey r,Xht];simp [Zd6,r]
theorem Zq0 {M:Zq} (r:Ym M) {l:List Yt}:Ym (Zch M l)/\Xz M (Zch M l):=by
 unfold Zch
 split
 ·rename_i h;exact ⟨Zbq r,Z6 r (fun _ hc=>Zbm h hc)⟩
 exact ⟨r,Xz.refl⟩
theorem Zpq {N:Zq} (G:Ym N):∀ {ls:List (List Yt)},Ym (Zbf N ls)/\Xz N (Zbf N ls):=by
 intro ls;have:∀ (ls:List (List Yt)) (M:Zq),Ym M->Xz N M->Ym (ls.foldl Zch M)/\Xz N (ls.foldl Zch M):=by
  intro ls
  induction ls with
  | nil=>intro M h1 D;exact ⟨h1,D⟩
  | cons l r H=>intro M h1 D;exact H _ (Zq0 h1).1 (D.trans (Zq0 h1).2)
 exact this ls N G Xz.refl
structure Zli (Y:Sys):Prop where
 M16:Zn0 Y
 may:Y.Has 327 Y327
 behind:Y.Has 329 Y329
 ready:Y.Has 330 Y330
 Ready:Y.Has 340 Y340
 R20:Z1y Y
 RA:Z62 Y
 O17:Z0p Y
 Md:Zwi Y
 To19:Y.Has 304 Y304
section
variable {Y:Sys} {h h':Zk}
theorem Zqk (X:Zli Y) {D G H s:Sl} {N:Zq} {L:Za} (r:Ul h D G H N) (q:Qw h s L) (I:s.n<=9223372036854775807) {R:Ze} (M:∀ h',Ext h h'->R (.bool (Zon N && Zd8 N.vs.length L)) h'):Zv Y 327 [Yx D G H,U5 s] h R:=by
 refine .of_has X.may rfl ?_;have V:=r.rv.len;simp [Y327,Xn.wp,Yx,U5];refine Zn ?_;intro A h1 g1 A1 Z;replace A1:Xa h1 A #[D.v,G.v,H.v]:=A1;simp;refine Zn ?_;intro B h2 g2 B2 e2;replace B2:Xa h2 B #[s.v]:=B2;have O:=Z.trans e2;simp [Yj (A1.ext e2)];rw [show (Value.agg #[D.v,G.v,H.v])=Yx D G H from rfl];refine Zxq X.M16 (r.ext O) ?_;intro h3 e3;have J:=O.trans e3
 cases U:Zon N with
 | false =>
  simp;have:=M h3 J;simpa [U] using this
 | true =>
  simp [((A1.ext e2).ext e3).hc,Yj (B2.ext e3)];rw [show (Value.agg #[s.v])=U5 s from rfl,<-V];refine Zvp X.M16 (q.ext J) I ?_;intro h4 e4;simp;have:=M h4 (J.trans e4);simpa [U] using this
def BhI (A B:Nat) (s:Sl) (v0:Value) (N:Zq) (ls:List (List Yt)) (h0:Zk) (e:Zc) (h':Zk):Prop :=
 ∃ (i:Nat) (s1 s2 s3:Sl) (v5 v6:Value),e=[v0,s.v,Zh A,Zh B,Zg i,v5,v6]/\i<=ls.length/\Xa h' A #[s1.v,s2.v,s3.v]/\Xa h' B #[Zi,Zi,Zi]/\(∀ k,Mod (fun j=>j=A\/j=B) h' k->Ul k s1 s2 s3 (Zbf N (ls.take i)))/\Ext h0 h'
theorem Zrf (X:Zli Y) {J M O s:Sl} {N:Zq} {ls:List (List Yt)} (r:Ul h J M O N) (q:Zfx h s ls) (ok:Ym N) (ad:ls.length<=1000) {R:Ze}
  (hr:∀ h' G s2 H,Ext h h'->Ul h' G s2 H (Zbf N ls)->R (Yx G s2 H) h'):Zv Y 329 [Yx J M O,s.v] h R:=by
 have ll:=q.len;refine .of_has X.behind rfl ?_;simp [Y329,Xn.wp,Yx];refine Zn ?_;intro A h1 gA A1 e1;replace A1:Xa h1 A #[J.v,M.v,O.v]:=A1;have lA:=A1.lt;simp;refine Zn ?_;intro B h2 gB B2 e2;replace B2:Xa h2 B #[Zi,Zi,Zi]:=B2;have x2:=e1.trans e2;simp;refine Zs (BhI A B s (.agg #[J.v,M.v,O.v]) N ls h) (fun e _=>ls.length-Zy e 4) ⟨0,J,M,O,_,_,rfl,by omega,A1.ext e2,B2,fun k mk=>r.ext (Mod.ext x2 mk (fun j hj=>by rcases hj with e | e <;> omega)),x2⟩ ?_;rintro e h3 ⟨i,G,s2,H,v5,v6,rfl,hi,A3,B3,I,x3⟩;have af:=B3.lt;by_cases c:i<ls.length;rotate_left
 ·have c':¬ (i:Int)<s.n:=by omega
  have:i=ls.length:=by omega
  subst this;simp [c',Yj A3];refine Zr (vs:=#[G.v,s2.v,H.v]) B3 rfl rfl (by simp) ?_;intro h4 B4 m4;simp;refine Xc rfl B4 rfl ?_;have:=I h4 (m4.mono fun j _ h=>.inr h);rw [Xf0] at this;exact hr h4 G s2 H (Mod.ext x3 m4 (fun j hj=>by omega)) this
 have c':(i:Int)<s.n:=by omega
 have c2:i<s.n:=by omega
 have w1:=Zj (i:=i) (by omega);have r3:=I h3 (Mod.refl _);obtain ⟨aa,ae⟩:=Zpq ok (ls:=ls.take i);obtain ⟨u,hu,ru⟩:=(q.ext x3).val i c;have U:=Zmy (N:=N) c;simp [c',Yj A3,Zm q.ok,hu];rw [show (Value.agg #[G.v,s2.v,H.v])=Yx G s2 H from rfl];refine Zd4 X.R20 r3 ru ?_;intro h4 wv D ab;obtain ⟨s4,rfl⟩:=ab.here.shape;have ac:∀ g,Ys.sem Y g (.fld 1 1 false) [.agg #[s4.v,Zg (Xj (Zbf N (ls.take i)) (Zd6 ls i)).2]]=some (Zg (Xj (Zbf N (ls.take i)) (Zd6 ls i)).2):=fun g=>rfl;have V:∀ k,Mod (fun j=>j=A\/j=B) h4 k->Ul k G s2 H (Zbf N (ls.take i)):=fun k mk=>I k ((D.mono fun _ _ h=>h.elim).trans mk);by_cases hz:(Xj (Zbf N (ls.take i)) (Zd6 ls i)).2=0;rotate_left
 ·simp [ac,hz,w1];refine ⟨⟨i+1,G,s2,H,_,_,rfl,by omega,A3.ext D,B3.ext D,?_,x3.trans D⟩,by simp [Zy];omega⟩;rw [U];unfold Zch;rw [if_neg hz];exact V
 simp [hz,Yj (A3.ext D),Zm q.ok,c2,D.hc hu (fun h=>h)];rw [show (Value.agg #[G.v,s2.v,H.v])=Yx G s2 H from rfl];refine Zqx X.RA (r3.ext D) aa (ru.extM D) hz ?_;intro h5 t1 t2 t3 e5 Z;simp [Yx];have z4:=D.size;refine Zr (vs:=#[t1.v,t2.v,t3.v]) ((A3.ext D).ext e5) rfl rfl (by simp) ?_;intro h6 A6 m6;simp [w1];refine ⟨⟨i+1,t1,t2,t3,_,_,rfl,by omega,A6,m6.blk ((B3.ext D).ext e5) (by omega),?_,Mod.ext ((x3.trans D).trans e5) m6 (fun j hj=>by omega)⟩,by simp [Zy];omega⟩;rw [U];unfold Zch;rw [if_pos hz];exact fun k mk=>Z k ((m6.mono fun j _ h=>by omega).trans (mk.mono fun j _ h=>by rcases h with e | e <;> omega))
structure Znv (h0 h:Zk) (p op:Nat) (sc:Sl) (N:Zq) (L:Za) (S:Zf) (costs:Zb):Prop where
 ex:Ext h0 h
 g:Xg h p N S
 v:OvR h S op N L
 rc:Yf h sc costs
 hE:Za7 N L costs
 fc:costs≠[]->¬ S sc.b
 lo:∀ b,S b->h0.size<=b
theorem Mod.weak {S:Zf} {h h':Zk} (e:Ext h h'):Mod S h h':=e.mono fun _ _ h=>h.elim
def Z19 (Y:Sys):Prop:=∀ (h:Zk) (R:Ze),(∀ h',Ext h h'->R (.bool true) h')->Zv Y 326 [] h R
theorem Zxj {N:Zq} {L:Za} (h:(Zon N && Zd8 N.vs.length L)=true):Zfk N=true/\Ym N/\Xf N.vs.length L:=by
 simp [Zon,Zd8] at h;exact ⟨h.1.1,Zh8.1 h.1.2,Zt9.1 h.2.2⟩
theorem Zpy (X:Zli Y) {D G H s:Sl} {N:Zq} {L:Za} (r:Ul h D G H N) (q:Qw h s L) (hf:Zfk N=true) (I:Ym N) (V:Xf N.vs.length L) {R:Ze}
  (hr:∀ h' p op Z S costs,Znv h h' p op Z N L S costs->R (.tuple #[Zh p,Zh op,Z.v,.bool true]) h'):Zv Y 340 [Yx D G H,U5 s] h R:=by
 refine .of_has X.Ready rfl ?_;simp [Y340,Xn.wp,Yx,U5];refine Zn ?_;intro A h1 gA A1 e1;replace A1:Xa h1 A #[D.v,G.v,H.v]:=A1;simp;refine Zn ?_;intro B h2 gB B2 e2;replace B2:Xa h2 B #[s.v]:=B2;have x2:=e1.trans e2;have A2:=A1.ext e2;have z1:=e1.size;have z2:=e2.size;simp [Yj A2,Yj B2];rw [show (Value.agg #[D.v,G.v,H.v])=Yx D G H from rfl];refine Zmn X.O17.MF (r.ext x2) hf I ?_;intro h3 p S e3 g hS;have J:=x2.trans e3;simp [Yj (A2.ext e3),Yj (B2.ext e3)];rw [show (Value.agg #[D.v,G.v,H.v])=Yx D G H from rfl,show (Value.agg #[s.v])=U5 s from rfl];refine ⟨rfl,?_⟩;refine Zrp X.O17 (r.ext J) (q.ext J) hf I V ?_;intro h4 op e4 aa fo;have x4:=J.trans e4;have gl:=g.lt;have v4:OvR h4 S op N L:=fun k mk=>fo k (mk.mono fun j _ hj=>gl j hj);have M:=g.ext e4;simp;refine Z03 X.Md.A M (v4 h4 (Mod.refl _)) I V ?_;intro h5 cb C O ab o5 hE;have U:=M.lt;simp;refine hr h5 p op (Sl.at cb _ _) S C ⟨x4.trans O,M.ext O,v4.then (S':=S) (Mod.weak O) (fun b hb=>.inl hb),o5.row64,hE,fun _ hb=>by have:=U _ hb;simp only [Sl.at_b] at this;omega,fun b hb=>?_⟩;have:=hS b hb;omega
def RyI (A B p op:Nat) (s:Sl) (v0 v1:Value) (N:Zq) (L:Za) (ls:List (List Yt)) (h0:Zk) (e:Zc) (h':Zk):Prop :=
 ∃ (i:Nat) (sc:Sl) (costs:Zb) (S:Zf) (v14 v15 v16 v17 v18:Value),e=[v0,v1,s.v,Zh A,Zh B,.pointer none,.pointer none,Zi,.bool false,Zh p,Zh op,sc.v,.bool true,Zg i,v14,v15,v16,v17,v18]/\i<=ls.length/\Znv h0 h' p op sc (Zbf N (ls.take i)) L S costs
theorem Zuo (X:Zli Y) {H I J s q:Sl} {N:Zq} {L:Za} {ls:List (List Yt)} (r:Ul h H I J N) (rq:Qw h q L) (ra:Zfx h s ls) (hf:Zfk N=true) (ok:Ym N) (pk:Xf N.vs.length L) (ad:ls.length<=1000) (M:∀ i,i<ls.length->(Zd6 ls i).length<=1000) {R:Ze}
  (hr:∀ h' p op D S costs,Znv h h' p op D (Zbf N ls) L S costs->R (.tuple #[Zh p,Zh op,D.v,.bool true]) h'):Zv Y 330 [Yx H I J,U5 q,s.v] h R:=by
 have ll:=ra.len;refine .of_has X.ready rfl ?_;simp [Y330,Xn.wp,Yx,U5];refine Zn ?_;intro A h1 gA A1 e1;replace A1:Xa h1 A #[H.v,I.v,J.v]:=A1;simp;refine Zn ?_;intro B h2 gB B2 e2;replace B2:Xa h2 B #[q.v]:=B2;have x2:=e1.trans e2;have A2:=A1.ext e2;have z2:=x2.size;simp [Yj A2,Yj B2];rw [show (Value.agg #[H.v,I.v,J.v])=Yx H I J from rfl,show (Value.agg #[q.v])=U5 q from rfl];refine Zpy X (r.ext x2) (rq.ext x2) hf ok pk ?_;intro h3 p op D S costs R3;have R3':Znv h h3 p op D (Zbf N (ls.take 0)) L S costs:=⟨x2.trans R3.ex,R3.g,R3.v,R3.rc,R3.hE,R3.fc,fun b hb=>by have:=R3.lo b hb;omega⟩
 simp;refine Zs (RyI A B p op s (Yx H I J) (U5 q) N L ls h) (fun e _=>ls.length-Zy e 13) ⟨0,D,costs,S,_,_,_,_,_,rfl,by omega,R3'⟩ ?_;clear R3 R3';rintro e h4 ⟨i,D,costs,S,ae,af,ag,ah,ai,rfl,hi,R4⟩;by_cases c:i<ls.length;rotate_left
 ·have c':¬ (i:Int)<s.n:=by omega
  have:i=ls.length:=by omega
  subst this;rw [Xf0] at R4;simp [c'];exact hr h4 p op D S costs R4
 have c':(i:Int)<s.n:=by omega
 have w1:=Zj (i:=i) (by omega);obtain ⟨O,U⟩:=Zpq ok (ls:=ls.take i);obtain ⟨u,hu,ru⟩:=(ra.ext R4.ex).val i c;have V:=Zmy (N:=N) c;have gl:=R4.g.lt;have aa:=M i c;simp [c',Zm ra.ok,hu];refine Zzr X.To19 ru aa ?_;intro h5 w G ow fw;have v5:OvR h5 S op (Zbf N (ls.take i)) L:=R4.v.then (S':=S) (Mod.weak G) (fun b hb=>.inl hb);simp;refine Zx1 X.Md (R4.g.ext G) v5 O (by rw [U.vs];exact pk) (R4.rc.ext G) R4.hE R4.fc ow.row5 (fun hn hb=>by have:=fw hn;have:=gl _ hb;omega) ?_ ?_
 ·intro h6 t v hb e6;simp [w1];refine ⟨⟨i+1,D,costs,S,_,_,_,_,_,rfl,by omega,?_⟩,by simp [Zy];omega⟩;rw [V];unfold Zch;rw [if_neg hb];exact ⟨(R4.ex.trans G).trans e6,(R4.g.ext G).ext e6,v5.then (S':=S) (Mod.weak e6) (fun b hb=>.inl hb),(R4.rc.ext G).ext e6,R4.hE,R4.fc,R4.lo⟩
 intro h6 cb C f S' hz m6 g6 Z aj ab o6 ac;simp [w1];refine ⟨⟨i+1,Sl.at cb _ _,C,S',_,_,_,_,_,rfl,by omega,?_⟩,by simp [Zy];omega⟩;have z5:=R4.ex.size;have z6:=G.size;have dA:Xz (Zbf N (ls.take i)) (Yo (Zbf N (ls.take i)) (Zd6 ls i)):=Z6 O (fun _ hc=>Zbm hz hc);rw [V];unfold Zch;rw [if_pos hz];refine ⟨Mod.ext (R4.ex.trans G) m6 (fun j hj=>R4.lo j hj),g6,fun k mk=>(v5.then m6 Z k mk).dim dA,o6.row64,ac,fun _=>ab,fun b hb=>?_⟩;rcases Z b hb with w | w
 ·exact R4.lo b w
 omega
theorem Z48 {o A B A' B':Nat} (D:B<o) (r:B'<o) (e:A * o+B=A' * o+B'):A=A'/\B=B':=by
 rcases Xgi A A' with q | q | q
 ·have:=Xfi o (show A+1<=A' from q);rw [Xe3,Xgs] at this;omega
 ·subst q;omega
 have:=Xfi o (show A'+1<=A from q);rw [Xe3,Xgs] at this;omega
theorem Z6z {N:Zq} (J:Ym N) {c d:Yt} (hc:Ww N c=0) (hd:Ww N d=0) (hk:Xu c d=false):Qs (Qs N c) d=Qs (Qs N d) c:=by
 have O:Ww (Qs N c) d=0:=by rw [(Zdt J hc).one];exact hd
 have R:Ww (Qs N d) c=0:=by rw [(Zdt J hd).one];exact hc
 have aa:=Zh2 J (c:=c);have ab:=Zh2 J (c:=d);simp [Xu] at hk;by_cases r:c.kd=1 <;> by_cases G:d.kd=1
 ·obtain ⟨a,ea,la,_,_,M⟩:=W8 hc r;obtain ⟨b,eb,lb,_,_,e2⟩:=W8 hd G;obtain ⟨b',ao,_,_,_,e3⟩:=W8 O G;obtain ⟨a',ac,_,_,_,H⟩:=W8 R r;have:b'=b:=by omega
  subst this;have:a'=a:=by omega
  subst this;have ap:c.i=0/\c.o=0:=by
   unfold Ww at hc;rw [if_pos r] at hc;by_cases q:c.i≠0\/c.o≠0
   ·rw [if_pos q] at hc;omega
   omega
  have aq:d.i=0/\d.o=0:=by
   unfold Ww at hd;rw [if_pos G] at hd;by_cases q:d.i≠0\/d.o≠0
   ·rw [if_pos q] at hd;omega
   omega
  have V:a'≠b':=fun e=>by
   subst e;exact hk (by omega) (by omega) (by omega) (by omega)
  have f1:Qs N c=setN N c.a c.w:=by unfold Qs;rw [if_pos r]
  have f2:Qs N d=setN N d.a d.w:=by unfold Qs;rw [if_pos G]
  have f3:Qs (Qs N c) d=setN (Qs N c) d.a d.w:=by rw [Qs,if_pos G]
  have X:Qs (Qs N d) c=setN (Qs N d) c.a c.w:=by rw [Qs,if_pos r]
  rw [f3,X,e3,H,f1,f2,M,e2];simp only [];rw [Zca la,Zca lb,if_neg (fun e=>V e.symm),if_neg V,List.set_comm _ _ V]
 ·obtain ⟨a,ea,la,_,_,M⟩:=W8 hc r;obtain ⟨_,t,A,B,o,ad,ei,eo,lt,ho,hA,hB,hp,_,_,e2⟩:=Um J hd G;obtain ⟨_,Z,A',B',o',ae,af,ag,ah,I,ai,aj,ak,_,_,e3⟩:=Um aa O G;obtain ⟨a',ac,_,_,_,H⟩:=W8 R r;have f1:Qs N c=setN N c.a c.w:=by unfold Qs;rw [if_pos r]
  have f2:Qs N d=Qu N d.a d.i d.o d.w:=by unfold Qs;rw [if_neg G]
  have f3:Qs (Qs N c) d=Qu (Qs N c) d.a d.i d.o d.w:=by rw [Qs,if_neg G]
  have X:Qs (Qs N d) c=setN (Qs N d) c.a c.w:=by rw [Qs,if_pos r]
  have q1:Z=t:=by omega
  have q2:A'=A:=by omega
  have q3:B'=B:=by omega
  have q4:a'=a:=by omega
  subst q1 q2 q3 q4;rw [f1,M] at e3 I;rw [f2,e2] at H;simp only [] at I e3 H;have q5:o'=o:=by omega
  subst q5;rw [f3,X,f1,f2,M,e2,e3,H]
 ·obtain ⟨a,ea,la,_,_,M⟩:=W8 hd G;obtain ⟨_,t,A,B,o,ad,ei,eo,lt,ho,hA,hB,hp,_,_,e2⟩:=Um J hc r;obtain ⟨_,Z,A',B',o',ae,af,ag,ah,I,ai,aj,ak,_,_,e3⟩:=Um ab R r;obtain ⟨a',ac,_,_,_,H⟩:=W8 O G;have f1:Qs N d=setN N d.a d.w:=by unfold Qs;rw [if_pos G]
  have f2:Qs N c=Qu N c.a c.i c.o c.w:=by unfold Qs;rw [if_neg r]
  have f3:Qs (Qs N d) c=Qu (Qs N d) c.a c.i c.o c.w:=by rw [Qs,if_neg r]
  have X:Qs (Qs N c) d=setN (Qs N c) d.a d.w:=by rw [Qs,if_pos G]
  have q1:Z=t:=by omega
  have q2:A'=A:=by omega
  have q3:B'=B:=by omega
  have q4:a'=a:=by omega
  subst q1 q2 q3 q4;rw [f1,M] at e3 I;rw [f2,e2] at H;simp only [] at I e3 H;have q5:o'=o:=by omega
  subst q5;rw [f3,X,f1,f2,M,e2,e3,H]
 obtain ⟨_,t,A,B,o,ad,ei,eo,lt,ho,hA,hB,hp,_,_,M⟩:=Um J hc r;obtain ⟨_,u,C,D,o2,ar,fi,fo,lu,au,hC,hD,hq,_,_,e2⟩:=Um J hd G;obtain ⟨_,u',C',D',o3,av,aw,ax,ay,az,aA,aB,aC,_,_,e3⟩:=Um aa O G;obtain ⟨_,Z,A',B',o4,ae,af,ag,ah,aD,ai,aj,ak,_,_,H⟩:=Um ab R r;have f1:Qs N c=Qu N c.a c.i c.o c.w:=by unfold Qs;rw [if_neg r]
 have f2:Qs N d=Qu N d.a d.i d.o d.w:=by unfold Qs;rw [if_neg G]
 have f3:Qs (Qs N c) d=Qu (Qs N c) d.a d.i d.o d.w:=by rw [Qs,if_neg G]
 have X:Qs (Qs N d) c=Qu (Qs N d) c.a c.i c.o c.w:=by rw [Qs,if_neg r]
 have q1:Z=t:=by omega
 have q2:A'=A:=by omega
 have q3:B'=B:=by omega
 have q4:u'=u:=by omega
 have q5:C'=C:=by omega
 have q6:D'=D:=by omega
 subst q1 q2 q3 q4 q5 q6;have kk:c.kd=d.kd:=by omega
 have al:o3=o2:=by
  have:=((Zdt J hc).tb u').2;omega
 have am:o4=o:=by
  have:=((Zdt J hd).tb Z).2;omega
 subst al am;rw [f1,M] at e3;rw [f2,e2] at H;simp only [] at e3 H;rw [Zdc lt] at e3;rw [Zdc lu] at H;rw [f3,X,f1,f2,M,e2,e3,H];by_cases U:Z=u'
 ·subst U;have:o4=o3:=by omega
  subst this;have an:A' * o4+B'≠C' * o4+D':=fun e=>by
   obtain ⟨x,y⟩:=Z48 hB hD e;exact hk kk (by omega) (by omega) (by omega)
  simp only [if_true];rw [List.set_set,List.set_set];rw [List.set_comm _ _ an]
 rw [if_neg (fun e=>U e.symm),if_neg U,List.set_comm _ _ U]
theorem Z3n {l:List Yt}:∀ {N:Zq},Ym N->∀ {c:Yt},Ww N c=0->(∀ d,d∈l->Ww N d=0/\Xu d c=false)->Yo (Qs N c) l=Qs (Yo N l) c:=by
 induction l with
 | nil=>intro N _ c _ _;rfl
 | cons d r J =>
  intro N D c hc H;obtain ⟨hd,I⟩:=H d (by simp);have G:Xu c d=false:=by
   simp [Xu] at I ⊢;intro a b e f;exact I a.symm b.symm e.symm f.symm
  show Yo (Qs (Qs N c) d) r=Qs (Yo (Qs N d) r) c;rw [Z6z D hc hd G];exact J (Zh2 D) (by rw [(Zdt D hd).one];exact hc) (fun x hx=>by
   rw [(Zdt D hd).one];exact H x (by simp [hx]))
theorem Zu5 {two:List Yt}:∀ {N:Zq},Ym N->∀ {one:List Yt},(∀ c,c∈one->Ww N c=0)->(∀ c,c∈two->Ww N c=0)->(∀ c d,c∈one->d∈two->Xu c d=false)->Yo (Yo N one) two=Yo (Yo N two) one:=by
 induction two with
 | nil=>intro N _ one _ _ _;rfl
 | cons d r I =>
  intro N D one h1 G H;have hd:=G d (by simp);show Yo (Qs (Yo N one) d) r=Yo (Yo (Qs N d) r) one;rw [<-Z3n D hd (fun x hx=>⟨h1 x hx,H x d hx (by simp)⟩)];exact I (Zh2 D) (fun c hc=>by rw [(Zdt D hd).one];exact h1 c hc) (fun c hc=>by rw [(Zdt D hd).one];exact G c (by simp [hc])) (fun a b J hb=>H a b J (by simp [hb]))
theorem Zan {N:Zq} {l:List Yt}:(Xj N l).2=0↔l.length<=256/\(∀ c,c∈l->Ww N c=0)/\∀ i j,i<j->j<l.length->Xu (Yn l i) (Yn l j)=false:=by
 constructor
 ·intro h;obtain ⟨h1,r⟩:=Zda h;refine ⟨h1,fun c hc=>Zbm h hc,fun i j D G=>?_⟩;have:=r j G;unfold X2 at this
  split at this
  ·omega
  split at this
  ·cases this
  ·rename_i q
   cases e:Xu (Yn l i) (Yn l j) with
   | false=>rfl
   | true=>exact absurd (Zbr.2 ⟨i,D,e⟩) q
 rintro ⟨h1,r,H⟩;have key:∀ m k,k+m<=l.length->(Vn N l k m).2=0:=by
  intro m
  induction m with
  | zero=>intro k _;rfl
  | succ m I =>
   intro k O;have hb:X2 N l k=0:=by
    unfold X2;have J:Yn l k∈l:=Zky (by omega);rw [if_neg (by rw [r _ J];simp),if_neg (fun t=>?_)];obtain ⟨i,M,e⟩:=Zbr.1 t;rw [H i k M (by omega)] at e
    cases e
   simp only [Vn];rw [if_neg (by rw [hb];simp)];exact I (k+1) (by omega)
 unfold Xj;rw [if_neg (by omega)];exact key _ 0 (by omega)
theorem Zhm {l r:List Yt} {i:Nat} (h:i<l.length):Yn (l++r) i=Yn l i:=by simp [Yn,Xe2 h]
theorem Zgh {l r:List Yt} {i:Nat}:Yn (l++r) (l.length+i)=Yn r i:=by simp [Yn,Xfa]
structure Xbo (N:Zq) (one two:List Yt):Prop where
 a:(Xj N one).2=0
 b:(Xj (Yo N one) two).2=0
 c:(Xj N two).2=0
 d:(Xj (Yo N two) one).2=0
 ab:Yo (Yo N one) two=Yo N (one++two)
 ba:Yo (Yo N two) one=Yo N (one++two)
theorem Z8w {N:Zq} (D:Ym N) {one two:List Yt} (h:(Xj N (one++two)).2=0):Xbo N one two:=by
 obtain ⟨h1,M,G⟩:=Zan.1 h;simp at h1;have o1:∀ c,c∈one->Ww N c=0:=fun c hc=>M c (by simp [hc]);have o2:∀ c,c∈two->Ww N c=0:=fun c hc=>M c (by simp [hc]);have a:(Xj N one).2=0:=Zan.2 ⟨by omega,o1,fun i j r H=>by
  have:=G i j r (by simp;omega);rwa [Zhm (by omega),Zhm H] at this⟩
 have c:(Xj N two).2=0:=Zan.2 ⟨by omega,o2,fun i j r H=>by
  have:=G (one.length+i) (one.length+j) (by omega) (by simp;omega);rwa [Zgh,Zgh] at this⟩
 have O:=Z6 D o1;have R:=Z6 D o2;refine ⟨a,?_,c,?_,by simp [Yo],?_⟩
 ·obtain ⟨c1,I,J⟩:=Zan.1 c;exact Zan.2 ⟨c1,fun x hx=>by rw [O.one];exact I x hx,J⟩
 ·obtain ⟨c1,I,J⟩:=Zan.1 a;exact Zan.2 ⟨c1,fun x hx=>by rw [R.one];exact I x hx,J⟩
 rw [<-Zu5 D o1 o2 (fun x y hx hy=>by
  obtain ⟨i,U,V⟩:=Zlh hx;obtain ⟨j,H,X⟩:=Zlh hy;have:=G i (one.length+j) (by omega) (by simp;omega);rwa [Zhm U,Zgh,V,X] at this)]
 simp [Yo]
theorem region {N:Zq} {L:Za}:∀ {K:Nat},∀ {j:Nat},j<levelS N L K->∃ k c r,k<K/\c<Yh L k/\r<entN N L k c/\j=levelS N L k+cellS N L k c+r:=by
 intro K
 induction K with
 | zero=>intro j h;simp [levelS] at h
 | succ K H =>
  intro j h;rcases Xen j (levelS N L K) with q | q
  ·obtain ⟨k,c,r,h1,D⟩:=H q;exact ⟨k,c,r,by omega,D⟩
  have:∀ c,j<levelS N L K+cellS N L K c->∃ c' r,c'<c/\r<entN N L K c'/\j=levelS N L K+cellS N L K c'+r:=by
   intro c
   induction c with
   | zero=>intro h;simp [cellS] at h;omega
   | succ c G =>
    intro h;rcases Xen j (levelS N L K+cellS N L K c) with w | w
    ·obtain ⟨c',r,a,b⟩:=G w;exact ⟨c',r,by omega,b⟩
    simp only [cellS] at h;exact ⟨c,j-(levelS N L K+cellS N L K c),by omega,by omega,by omega⟩
  obtain ⟨c',r,h1,D,I⟩:=this (Yh L K) h;exact ⟨K,c',r,by omega,h1,D,I⟩
theorem Za7.uniq {N:Zq} {L:Za} {C D:Zb} (O:Ym N) (R:Xf N.vs.length L) (J:Za7 N L C) (U:Za7 N L D):C=D:=by
 apply Xew (by rw [J.len,U.len]);intro j h1 Z;obtain ⟨k,c,r,H,hc,I,e⟩:=region (N:=N) (L:=L) (K:=L.length) (by rw [<-J.len];exact h1);unfold entN at I;have ho:0<(Zw N L k true c).length:=by
  rcases Xgj (Zw N L k true c).length with q | q
  ·rw [q] at I;simp at I
  exact q
 have M:r / (Zw N L k true c).length<(Zw N L k false c).length:=Nat.div_lt_of_lt_mul (by rw [Nat.mul_comm];exact I);have G:=Xge r ho;obtain ⟨a,V,_⟩:=Vf R O H (Zu.2 ⟨_,M,rfl⟩);obtain ⟨b,X,_⟩:=Vf R O H (Zu.2 ⟨_,G,rfl⟩);have u:=(J.inn k c H hc _ _ a b M G V X).uniq (U.inn k c H hc _ _ a b M G V X);rw [Nat.div_add_mod',<-e] at u;simpa [Zl,h1,Z] using u
structure Xae (Y:Sys):Prop where
 T:Zli Y
 K:Z19 Y
 D:Zn7 Y
 Net:Y.Has 236 Y236
 Cl:Z0s Y
 Of3:Y.Has 237 Y237
 Of2:Y.Has 44 Y44
 Same:Y.Has 103 Y103
 RS:Zod Y
 Ord:Y.Has 561 Y561
def Zgx (one two:List Yt) (i:Nat):List (List Yt):=if i=0 then [one,two] else if i=1 then [two,one] else [one++two]
theorem Zzc {N:Zq} (r:Ym N) {one two:List Yt} (h:(Xj N (one++two)).2=0) (i:Nat):Zbf N (Zgx one two i)=Zbf N [one++two]:=by
 obtain ⟨a,b,c,d,e,f⟩:=Z8w r h;have g:Zbf N [one++two]=Yo N (one++two):=by simp [Zbf,Zch,h]
 rw [g];unfold Zgx
 split
 ·simp [Zbf,Zch,a,b,e]
 split
 ·simp [Zbf,Zch,c,d,f]
 exact g
theorem Zym {one two : List Yt} (h1 : one.length ≤ 300) (G : two.length ≤ 300) (i : Nat) : (Zgx one two i).length ≤ 2 ∧ ∀ k, k < (Zgx one two i).length → (Zd6 (Zgx one two i) k).length ≤ 1000 := by
  have key : ∀ l, l ∈ Zgx one two i → l.length ≤ 1000 := fun l r => by
    unfold Zgx at r
    split at r
    · simp at r; rcases r with e | e <;> subst e <;> omega
    split at r
    · simp at r; rcases r with e | e <;> subst e <;> omega
    simp at r; subst r; simp; omega
  refine ⟨by unfold Zgx; split; · simp
             split <;> simp, fun k D => key _ (by simp [Zd6, D])⟩
theorem Zfx.two {b:Nat} {r u2:Sl} {D G:List Yt} (B:Xa h b #[r.v,u2.v]) (H:U9 h r D) (I:U9 h u2 G):Zfx h (Sl.at b 2 2) [D,G]:=by
 refine ⟨⟨fun h=>by simp at h,by simp,.inl (by simp)⟩,rfl,fun i J=>?_⟩
 match i,J with
 | 0,_=>exact ⟨r,by simp [B.hc],H⟩
 | 1,_=>exact ⟨u2,by simp [B.hc],I⟩
theorem Zfx.one {b:Nat} {u:Sl} {l:List Yt} (B:Xa h b #[u.v]) (r:U9 h u l):Zfx h (Sl.at b 1 1) [l]:=by
 refine ⟨⟨fun h=>by simp at h,by simp,.inl (by simp)⟩,rfl,fun i D=>?_⟩
 match i,D with
 | 0,_=>exact ⟨u,by simp [B.hc],r⟩
def ToI (A B cb bd:Nat) (v0 v1 v2 v3 v4 v5 v9:Value) (s t:Nat) (M:Zq) (L:Za) (h0:Zk) (e:Zc) (h':Zk):Prop :=
 ∃ (i:Nat) (c:Sl) (v16 v17 v18 v19 v20 v21 v22 v23 v24 v25 v26 v27 v28:Value),e=[v0,v1,v2,v3,v4,v5,Zh A,Zh B,.bool false,v9,Zh cb,Zg s,Zg t,.slice (some ⟨bd,0,none⟩) 3 3,c.v,Zg i,v16,v17,v18,v19,v20,v21,v22,v23,v24,v25,v26,v27,v28]/\i<=3 /\
  (i=0\/∃ C d,Za7 M L C/\Zba (Zmc M s) (EdW M) t d/\Yf h' c (C++[d]))/\Ext h0 h'
set_option maxHeartbeats 1000000 in
theorem Z4k (X:Xae Y) {V G Z q u1 u2:Sl} {N:Zq} {L:Za} {one two:List Yt} (r:Ul h V G Z N) (rq:Qw h q L) (aB:q.n<=9223372036854775807) (r1:U9 h u1 one) (r2:U9 h u2 two)
  {a b:Int} (ha:0<=a/\a<=65535) (hb:0<=b/\b<=65535) {R:Ze} (hr:∀ h',Ext h h'->R (.bool true) h'):Zv Y 561 [Yx V G Z,U5 q,u1.v,u2.v,.int .u16 a,.int .u16 b] h R:=by
 have la:=r.ra.len;have l1:=r1.len;have l2:=r2.len;refine .of_has X.Ord rfl ?_;simp [Y561,Xn.wp,Yx,U5];refine Zn ?_;intro A h1 gA A1 e1;replace A1:Xa h1 A #[V.v,G.v,Z.v]:=A1;simp;refine Zn ?_;intro B h2 gB B2 e2;replace B2:Xa h2 B #[q.v]:=B2;have x2:=e1.trans e2;have A2:=A1.ext e2;simp;refine X.K h2 _ ?_;intro h3 e3;have x3:=x2.trans e3;have A3:=A2.ext e3;have B3:=B2.ext e3;simp [Yj A3,Yj B3];rw [show (Value.agg #[V.v,G.v,Z.v])=Yx V G Z from rfl,show (Value.agg #[q.v])=U5 q from rfl];refine Zqk X.T (r.ext x3) (rq.ext x3) aB ?_;intro h4 e4;have x4:=x3.trans e4;by_cases hm:(Zon N && Zd8 N.vs.length L)=true;rotate_left
 ·have aV:(Zon N && Zd8 N.vs.length L)=false:=by simpa using hm
  rw [aV];simp;exact hr h4 x4
 obtain ⟨hf,ok,pk⟩:=Zxj hm;have A4:=A3.ext e4;have B4:=B3.ext e4;rw [hm];by_cases hz:G.n=0
 ·simp [hz,A4.hc];exact hr h4 x4
 have aW:¬ ((G.n:Int)=0):=by omega
 by_cases c1:300<u1.n
 ·have ac:(300:Int)<u1.n:=by omega
  simp [hz,A4.hc,ac];exact hr h4 x4
 have ac:¬ (300:Int)<u1.n:=by omega
 by_cases c2:300<u2.n
 ·have aq:(300:Int)<u2.n:=by omega
  simp [hz,A4.hc,ac,aq];exact hr h4 x4
 have aq:¬ (300:Int)<u2.n:=by omega
 simp [hz,A4.hc,ac,aq];refine Yq ?_;intro z h5 gz oz e5;simp;have x5:=x4.trans e5;refine Yr oz Yy (Zkg (r1.extM x5)) (by rw [Zai,l1]) Zln rfl (by omega) (by omega) ?_;intro w1 h6 o6 n6 e6 bx aC;have x6:=x5.trans e6;simp;refine Vp o6 Yy (Zkg (r2.extM x6)) (by rw [Zai,l2]) Zln rfl (by omega) (by omega) ?_;intro w h7 o7 n7 m7 bz;rw [<-Zlc] at o7;have z4:=x4.size;have z5:=e5.size;have x7:Ext h h7:=Mod.ext x6 m7 (fun j hj=>by have:=hj.2;rcases aC with q | q <;> omega);have aD:Ext h4 h7:=Mod.ext (e5.trans e6) m7 (fun j hj=>by have:=hj.2;rcases aC with q | q <;> omega);have A7:=A4.ext aD;have aE:U9 h7 w (one++two):=o7.row5;simp [Yj A7];rw [show (Value.agg #[V.v,G.v,Z.v])=Yx V G Z from rfl];refine Zd4 X.T.R20 (r.ext x7) aE ?_;intro h8 wv e8 aX;obtain ⟨s8,rfl⟩:=aX.here.shape;have x8:=x7.trans e8;have A8:=A7.ext e8;have aY:∀ g,Ys.sem Y g (.fld 1 1 false) [.agg #[s8.v,Zg (Xj N (one++two)).2]]=some (Zg (Xj N (one++two)).2):=fun g=>rfl;by_cases ar:(Xj N (one++two)).2=0;rotate_left
 ·simp [aY,ar];exact hr h8 x8
 simp [ar,Yj A8];refine Xm rfl ?_;intro b9 h9 g9 B9 e9;have x9:=x8.trans e9;have aF:=(aE.extM e8).extM e9;have A9:=A8.ext e9;simp;rw [show (Value.agg #[V.v,G.v,Z.v])=Yx V G Z from rfl];refine Zrf X.T (s:=Sl.at b9 1 1) (r.ext x9) (Zfx.one B9 aF) ok (by simp) ?_;intro aZ s1 s2 s3 ad aG;have a0:=x9.trans ad;have A10:=A9.ext ad;obtain ⟨H,ae⟩:=Zpq ok (ls:=[one++two]);have am:=Zzc ok ar;obtain ⟨M,hM⟩:∃ M,Zbf N [one++two]=M:=⟨_,rfl⟩
 rw [hM] at aG H ae am;simp [Yx];refine Zn ?_;intro cb a1 a2 C11 a3;replace C11:Xa a1 cb #[Zi,Zi,Zi]:=C11;simp;refine Zr (vs:=#[s1.v,s2.v,s3.v]) C11 rfl rfl (by simp) ?_;intro aH C12 a4;have aa:Ext aZ aH:=Mod.toExtF a3 a4 a2;have a5:=a0.trans aa;have A12:=A10.ext aa;have rM:=aG.ext aa;have wa:IntKind.i64.wrap a=a:=Zo (by omega);have wb:IntKind.i64.wrap b=b:=Zo (by omega);have a6:((G.n:Int))≠0:=aW;have an:∀ c:Int,0<=c->c.tmod (G.n:Int)=((c.toNat % G.n:Nat):Int):=fun c hc=>by
  rw [Int.tmod_eq_emod_of_nonneg hc,Int.natCast_emod]
  congr 1
  omega
 simp [A12.hc,wa,wb,Z9d a6,an a ha.1,an b hb.1,-Int.natCast_emod];generalize hs:a.toNat % G.n=s;generalize ht:b.toNat % G.n=t;have ls:s<M.as.length:=by rw [<-hs,ae.al,la];exact Xge _ (by omega)
 have lt:t<M.as.length:=by rw [<-ht,ae.al,la];exact Xge _ (by omega)
 refine Ui rfl rfl rfl ?_ (by omega);intro ba a7 bA Ba a8 _;replace Ba:Xa a7 ba #[u1.v,u2.v]:=Ba;simp;refine Ui rfl rfl rfl ?_ (by omega);intro bb a9 bB Bb aI _;replace Bb:Xa a9 bb #[u2.v,u1.v]:=Bb;simp;refine Ui rfl rfl rfl ?_ (by omega);intro bc be bC Bc au _;replace Bc:Xa be bc #[w.v]:=Bc;simp;refine Ui rfl rfl rfl ?_ (by omega);intro bd I bD Bd af _;replace Bd:Xa I bd #[(Sl.at ba 2 2).v,(Sl.at bb 2 2).v,(Sl.at bc 1 1).v]:=Bd;have U:Ext aH I:=((a8.trans aI).trans au).trans af;have ab:=a5.trans U;have C16:=C12.ext U;have A16:=A12.ext U;have B16:Xa I B #[q.v]:=Xa.ext (Xa.ext (Xa.ext (Xa.ext (Xa.ext B4 aD) e8) e9) ad) (aa.trans U);have aJ:=rM.ext U;have aK:∀ i,i<3->∃ u:Sl,hc I bd i=some u.v/\Zfx I u (Zgx one two i):=fun i hi=>by
  match i,hi with
  | 0,_=>exact ⟨_,by simp [Bd.hc],Zfx.two (((Ba.ext aI).ext au).ext af) (r1.extM ab) (r2.extM ab)⟩
  | 1,_=>exact ⟨_,by simp [Bd.hc],Zfx.two ((Bb.ext au).ext af) (r2.extM ab) (r1.extM ab)⟩
  | 2,_=>exact ⟨_,by simp [Bd.hc],Zfx.one (Bc.ext af) ((aF.extM ad).extM (aa.trans U))⟩
 have av:Xf M.vs.length L:=by rw [ae.vs];exact pk
 have J:=H.small;have bL:=pk.bL;have lS:=Zal H av (k:=L.length) (Xel _);have bM:=H.ba;have bV:=H.bv;have bT:=H.bt;simp;refine Zs (ToI A B cb bd (Yx V G Z) (U5 q) u1.v u2.v (.int .u16 a) (.int .u16 b) w.v s t M L I) (fun e _=>3-Zy e 15) ⟨0,Sl.nil,_,_,_,_,_,_,_,_,_,_,_,_,_,rfl,by omega,.inl rfl,Mod.refl _⟩ ?_;rintro e aL ⟨i,c,bE,bF,bG,bH,bJ,bK,bN,bO,bP,bQ,bR,bS,bU,rfl,hi,hC,O⟩;have aw:=ab.trans O;by_cases ci:i<3;rotate_left
 ·have ax:¬ (i:Int)<3:=by omega
  simp [ax];exact hr aL aw
 have ax:(i:Int)<3:=by omega
 have wi:=Zj (i:=i) (by omega);obtain ⟨u,hu,ra⟩:=aK i ci;obtain ⟨bW,bg⟩:=Zym (one:=one) (two:=two) (by omega) (by omega) i;have i1:∀ g,Ys.sem Y g (.idxa 1) [.slice (some ⟨bd,0,none⟩) 3 3,Zg i]=some (.pointer (some ⟨bd,i,none⟩)):=fun g=>by
  have:=Vu (Y:=Y) (h:=g) (b:=bd) (sz:=1) (show (3:Nat)<=9223372036854775807 by omega) ci (Xel _);simpa using this
 have A17:=A16.ext O;have B17:=B16.ext O;have C17:=C16.ext O;simp [ax,Yj A17,Yj B17,i1,O.hc hu (fun h=>h)];rw [show (Value.agg #[V.v,G.v,Z.v])=Yx V G Z from rfl,show (Value.agg #[q.v])=U5 q from rfl];refine Zuo X.T (r.ext aw) (rq.ext aw) (ra.ext O) hf ok pk (by omega) bg ?_;intro bX p op sc S costs R18;rw [am i] at R18;have C18:=C17.ext R18.ex;simp [Yj C18];refine Zhl X.Net X.Cl R18.g J ?_;intro bh s4 s5 s6 ag bi;have C19:=C18.ext ag;simp [Yj C19];refine Z1b X.Of3 X.Of2 (bi bh (Mod.refl _)) (by omega) (by omega) (by omega) J.bc ?_;intro bY s7 s8 s9 ah bj;have C20:=C19.ext ah;simp [Yj C20];rw [show (Value.agg #[s1.v,s2.v,s3.v])=Yx s1 s2 s3 from rfl];have aM:=((O.trans R18.ex).trans ag).trans ah;refine Zl4 X.Same X.RS bj (aJ.ext aM) J ?_;intro aN ay;have y1821:=(ag.trans ah).trans ay;have aO:Uz aN op M L:=R18.v aN (Mod.weak y1821);simp;refine Zzk X.D (R18.g.ext y1821) aO (R18.rc.ext y1821) H av R18.hE ls lt ?_;intro bZ d ai hd;have aP:=(aM.trans ay).trans ai;have ao:=(R18.rc.ext y1821).ext ai;have bk:=ao.len;have b0:=R18.hE.len;simp;refine Yq ?_;intro z2 b1 b2 bm aj;simp;refine Yr bm Yy (Zau (ao.ext aj)) (by rw [Vr,bk,Xe1]) Zbt rfl (by omega) (by omega) ?_;intro w2 b3 bn b4 az bu ap;simp;refine Xm rfl ?_;intro b5 b6 b7 B25 aA;simp;refine Wj rfl (bn.ext' aA) B25 (by omega) (by omega) ?_;intro w3 aQ aR b8 aS bw;have ca:=aP.size;have cc:=aj.size;have cd:=az.size;have aT:Ext I aQ:=Mod.ext ((aP.trans aj).trans (az.trans aA)) aS (fun j hj=>by have:=hj.2;rcases ap with q | q <;> omega);have y1726:Ext aL aQ:=Mod.ext ((((((R18.ex.trans ag).trans ah).trans ay).trans ai).trans aj).trans (az.trans aA)) aS (fun j hj=>by have:=hj.2;have:=R18.ex.size;have:=y1821.size;have:=ai.size;rcases ap with q | q <;> omega);have bo:Zt costs++[Zg d]=Zt (costs++[d]):=by simp [Zt]
 rw [bo] at aR;have ak:=aR.row64;have bp:=ak.len;simp at bp;by_cases i0:i=0
 ·subst i0;simp;exact ⟨⟨1,w3,_,_,_,_,_,_,_,_,_,_,_,_,_,rfl,by omega,.inr ⟨_,_,R18.hE,hd,ak⟩,aT⟩,by simp [Zy];exact Xgm (by decide:3-1<3) (Xel _)⟩
 obtain ⟨C0,d0,bq,br,bs⟩:=hC.resolve_left i0;have cf:(0:Int)<(i:Int):=by omega
 have aU:0<i:=by omega
 have eC:costs=C0:=R18.hE.uniq H av bq;have eD:d=d0:=hd.uniq br;simp [aU];refine Zia X.RS.SameC ak (bs.ext y1726) (by omega) ?_;simp [eC,eD,wi];exact ⟨⟨i+1,w3,_,_,_,_,_,_,_,_,_,_,_,_,_,rfl,by omega,.inr ⟨_,_,R18.hE,hd,ak⟩,aT⟩,by simp [Zy];omega⟩
end
end Go.Rm
