import Derived.Test.YtpikofomaekpoaaGreatDoorT41
import Derived.Test.YtpikofomaekpoaaGreatDoorT39
/- Parts. -/
set_option linter.all false
namespace Go.Rm
def Za5 (ls:List (List Yz)) (i:Nat):List Yz:=ls.getD i []
structure Zrl (h:Zk) (s:Sl) (ls:List (List Yz)):Prop where
 ok:s.ok
 len:ls.length=s.n
 val:∀ i,i<ls.length->∃ u:Sl,hc h s.b (s.o+i)=some u.v/\Zcm h u (Za5 ls i)
def Zrl.ext {h h':Zk} {s:Sl} {ls:List (List Yz)} (r:Zrl h s ls) (e:Ext h h'):Zrl h' s ls :=
 ⟨r.ok,r.len,fun i D=>by
  obtain ⟨u,a,b⟩:=r.val i D;exact ⟨u,e.hc a (fun h=>h),b.extM e⟩⟩
def Ze2 (M:Zr) (l:List Yz):Zr:=if (Wj M l).2=0 then Xk M l else M
def Zbn (N:Zr) (ls:List (List Yz)):Zr:=ls.foldl Ze2 N
def Zny {N:Zr} {ls:List (List Yz)} {i:Nat} (r:i<ls.length):Zbn N (ls.take (i+1))=Ze2 (Zbn N (ls.take i)) (Za5 ls i):=by
 unfold Zbn;rw [Xgc r,Xi7];simp [Za5,r]
def Zsa {M:Zr} (r:Yl M) {l:List Yz}:Yl (Ze2 M l)/\Wb M (Ze2 M l):=by
 unfold Ze2
 split
 ·rename_i h;exact ⟨Zb3 r,Zau r (fun _ hc=>Zdb h hc)⟩
 exact ⟨r,Wb.refl⟩
def Zqy {N:Zr} (G:Yl N):∀ {ls:List (List Yz)},Yl (Zbn N ls)/\Wb N (Zbn N ls):=by
 intro ls;have:∀ (ls:List (List Yz)) (M:Zr),Yl M->Wb N M->Yl (ls.foldl Ze2 M)/\Wb N (ls.foldl Ze2 M):=by
  intro ls
  induction ls with
  | nil=>intro M h1 D;exact ⟨h1,D⟩
  | cons l r ih=>intro M h1 D;exact ih _ (Zsa h1).1 (D.trans (Zsa h1).2)
 exact this ls N G Wb.refl
def Zvl (ls:List (List Yz)):Bool:=decide ((∀ l,l∈ls->l.length<=300)/\ls.length<=6)
structure Zmk (Y:Sys):Prop where
 M16:Zo9 Y
 may:Y.Has 327 Y327
 behind:Y.Has 329 Y329
 ready:Y.Has 330 Y330
 Ready:Y.Has 340 Y340
 R20:Z3c Y
 RA:Z8h Y
 O17:Z13 Y
 Md:Zx2 Y
 To19:Y.Has 304 Y304
section
variable {Y:Sys} {h h':Zk}
def FwI (s:Sl) (ls:List (List Yz)) (h0:Zk) (e:Zc) (h':Zk):Prop :=
 ∃ (i:Nat) (v3 v4:Value),e=[s.v,.bool false,Zg i,v3,v4]/\i<=ls.length/\(∀ j,j<i->(Za5 ls j).length<=300)/\h'=h0
def Zro (H:Y.Has 328 Y328) {s:Sl} {ls:List (List Yz)} (r:Zrl h s ls) (J:ls.length<=9223372036854775807) {R:Ze} (G:R (.bool (Zvl ls)) h):Zv Y 328 [s.v] h R:=by
 have ll:=r.len;refine .of_has H rfl ?_;simp [Y328,Xm.wp];refine Zt (FwI s ls h) (fun e _=>ls.length-Zy e 2) ⟨0,_,_,rfl,by omega,fun j M=>by omega,rfl⟩ ?_;rintro e h1 ⟨i,v3,v4,rfl,hi,D,rfl⟩;by_cases c:i<ls.length;rotate_left
 ·have c':¬ (i:Int)<s.n:=by omega
  simp [c'];have:decide ((s.n:Int)<=6)=Zvl ls:=by
   unfold Zvl;rw [decide_eq_decide];constructor
   ·intro h;refine ⟨fun l O=>?_,by omega⟩;obtain ⟨k,U,e⟩:=Xgx O;have:=D k (by omega);simpa [Za5,U,e] using this
   intro h;omega
  simp [this];exact G
 have c':(i:Int)<s.n:=by omega
 have c2:i<s.n:=by omega
 have V:=Zj (i:=i) (by omega);obtain ⟨u,hu,X⟩:=r.val i c;have lu:=X.len;simp [c',Zm r.ok,hu];by_cases d:300<u.n
 ·have I:(300:Int)<u.n:=by omega
  have:Zvl ls=false:=by
   unfold Zvl;rw [decide_eq_false_iff_not];rintro ⟨h,_⟩;have Z:Za5 ls i∈ls:=by simp [Za5,c]
   have:=h _ Z;omega
  rw [this] at G;simp [I];exact G
 have I:¬ (300:Int)<u.n:=by omega
 simp [I,V];refine ⟨⟨i+1,_,_,rfl,by omega,fun j M=>?_,rfl⟩,by simp [Zy];omega⟩;by_cases q:j=i
 ·subst q;omega
 exact D j (by omega)
def Zrv (X:Zmk Y) {D G H s:Sl} {N:Zr} {L:Za} (r:Ut h D G H N) (q:Qn h s L) (I:s.n<=9223372036854775807) {R:Ze} (M:∀ h',Ext h h'->R (.bool (Zpu N && Zeg N.vs.length L)) h'):Zv Y 327 [Yy D G H,Q1 s] h R:=by
 refine .of_has X.may rfl ?_;have lv:=r.rv.len;simp [Y327,Xm.wp,Yy,Q1];refine Zn ?_;intro A h1 g1 A1 V;replace A1:Xb h1 A #[D.v,G.v,H.v]:=A1;simp;refine Zn ?_;intro B Z g2 B2 e2;replace B2:Xb Z B #[s.v]:=B2;have O:=V.trans e2;simp [Yj (A1.ext e2)];rw [show (Value.agg #[D.v,G.v,H.v])=Yy D G H from rfl];refine Zzb X.M16 (r.ext O) ?_;intro h3 e3;have J:=O.trans e3
 cases U:Zpu N with
 | false =>
  simp;have:=M h3 J;simpa [U] using this
 | true =>
  simp [((A1.ext e2).ext e3).hc,Yj (B2.ext e3)];rw [show (Value.agg #[s.v])=Q1 s from rfl,<-lv];refine Zw6 X.M16 (q.ext J) I ?_;intro h4 e4;simp;have:=M h4 (J.trans e4);simpa [U] using this
def BhI (A B:Nat) (s:Sl) (v0:Value) (N:Zr) (ls:List (List Yz)) (h0:Zk) (e:Zc) (h':Zk):Prop :=
 ∃ (i:Nat) (s1 s2 s3:Sl) (v5 v6:Value),e=[v0,s.v,Zh A,Zh B,Zg i,v5,v6]/\i<=ls.length/\Xb h' A #[s1.v,s2.v,s3.v]/\Xb h' B #[Zi,Zi,Zi]/\(∀ k,Mod (fun j=>j=A\/j=B) h' k->Ut k s1 s2 s3 (Zbn N (ls.take i)))/\Ext h0 h'
def Zsp (X:Zmk Y) {J M O s:Sl} {N:Zr} {ls:List (List Yz)} (r:Ut h J M O N) (q:Zrl h s ls) (ok:Yl N) (ad:ls.length<=1000) {R:Ze}
  (hr:∀ h' G s2 H,Ext h h'->Ut h' G s2 H (Zbn N ls)->R (Yy G s2 H) h'):Zv Y 329 [Yy J M O,s.v] h R:=by
 have ll:=q.len;refine .of_has X.behind rfl ?_;simp [Y329,Xm.wp,Yy];refine Zn ?_;intro A h1 gA A1 e1;replace A1:Xb h1 A #[J.v,M.v,O.v]:=A1;have lA:=A1.lt;simp;refine Zn ?_;intro B h2 gB B2 e2;replace B2:Xb h2 B #[Zi,Zi,Zi]:=B2;have x2:=e1.trans e2;simp;refine Zt (BhI A B s (.agg #[J.v,M.v,O.v]) N ls h) (fun e _=>ls.length-Zy e 4) ⟨0,J,M,O,_,_,rfl,by omega,A1.ext e2,B2,fun k mk=>r.ext (Mod.ext x2 mk (fun j hj=>by rcases hj with e | e <;> omega)),x2⟩ ?_;rintro e h3 ⟨i,G,s2,H,v5,v6,rfl,hi,A3,B3,I,x3⟩;have af:=B3.lt;by_cases c:i<ls.length;rotate_left
 ·have c':¬ (i:Int)<s.n:=by omega
  have:i=ls.length:=by omega
  subst this;simp [c',Yj A3];refine Zs (vs:=#[G.v,s2.v,H.v]) B3 rfl rfl (by simp) ?_;intro h4 B4 m4;simp;refine Xj rfl B4 rfl ?_;have:=I h4 (m4.mono fun j _ h=>.inr h);rw [Xhf] at this;exact hr h4 G s2 H (Mod.ext x3 m4 (fun j hj=>by omega)) this
 have c':(i:Int)<s.n:=by omega
 have c2:i<s.n:=by omega
 have w1:=Zj (i:=i) (by omega);have r3:=I h3 (Mod.refl _);obtain ⟨aa,ae⟩:=Zqy ok (ls:=ls.take i);obtain ⟨u,hu,ru⟩:=(q.ext x3).val i c;have U:=Zny (N:=N) c;simp [c',Yj A3,Zm q.ok,hu];rw [show (Value.agg #[G.v,s2.v,H.v])=Yy G s2 H from rfl];refine Zjv X.R20 r3 ru ?_;intro h4 wv D ab;obtain ⟨s4,rfl⟩:=ab.here.shape;have ac:∀ g,Yo.sem Y g (.fld 1 1 false) [.agg #[s4.v,Zg (Wj (Zbn N (ls.take i)) (Za5 ls i)).2]]=some (Zg (Wj (Zbn N (ls.take i)) (Za5 ls i)).2):=fun g=>rfl;have V:∀ k,Mod (fun j=>j=A\/j=B) h4 k->Ut k G s2 H (Zbn N (ls.take i)):=fun k mk=>I k ((D.mono fun _ _ h=>h.elim).trans mk);by_cases hz:(Wj (Zbn N (ls.take i)) (Za5 ls i)).2=0;rotate_left
 ·simp [ac,hz,w1];refine ⟨⟨i+1,G,s2,H,_,_,rfl,by omega,A3.ext D,B3.ext D,?_,x3.trans D⟩,by simp [Zy];omega⟩;rw [U];unfold Ze2;rw [if_neg hz];exact V
 simp [hz,Yj (A3.ext D),Zm q.ok,c2,D.hc hu (fun h=>h)];rw [show (Value.agg #[G.v,s2.v,H.v])=Yy G s2 H from rfl];refine Zr7 X.RA (r3.ext D) aa (ru.extM D) hz ?_;intro h5 t1 t2 t3 e5 Z;simp [Yy];have z4:=D.size;refine Zs (vs:=#[t1.v,t2.v,t3.v]) ((A3.ext D).ext e5) rfl rfl (by simp) ?_;intro h6 A6 m6;simp [w1];refine ⟨⟨i+1,t1,t2,t3,_,_,rfl,by omega,A6,m6.blk ((B3.ext D).ext e5) (by omega),?_,Mod.ext ((x3.trans D).trans e5) m6 (fun j hj=>by omega)⟩,by simp [Zy];omega⟩;rw [U];unfold Ze2;rw [if_pos hz];exact fun k mk=>Z k ((m6.mono fun j _ h=>by omega).trans (mk.mono fun j _ h=>by rcases h with e | e <;> omega))
structure Zo4 (h0 h:Zk) (p op:Nat) (sc:Sl) (N:Zr) (L:Za) (S:Zf) (costs:Zb):Prop where
 ex:Ext h0 h
 g:Xc h p N S
 v:OvR h S op N L
 rc:Yd h sc costs
 hE:Zbf N L costs
 fc:costs≠[]->¬ S sc.b
 lo:∀ b,S b->h0.size<=b
def Mod.weak {S:Zf} {h h':Zk} (e:Ext h h'):Mod S h h':=e.mono fun _ _ h=>h.elim
def Z3o (Y:Sys):Prop:=∀ (h:Zk) (R:Ze),(∀ h',Ext h h'->R (.bool true) h')->Zv Y 326 [] h R
def Zy3 {N:Zr} {L:Za} (h:(Zpu N && Zeg N.vs.length L)=true):Zf1 N=true/\Yl N/\Yv N.vs.length L:=by
 simp [Zpu,Zeg] at h;exact ⟨h.1.1,Zi4.1 h.1.2,Zvo.1 h.2.2⟩
def Zq6 (X:Zmk Y) {D G H s:Sl} {N:Zr} {L:Za} (r:Ut h D G H N) (q:Qn h s L) (hf:Zf1 N=true) (I:Yl N) (V:Yv N.vs.length L) {R:Ze}
  (hr:∀ h' p op Z S costs,Zo4 h h' p op Z N L S costs->R (.tuple #[Zh p,Zh op,Z.v,.bool true]) h'):Zv Y 340 [Yy D G H,Q1 s] h R:=by
 refine .of_has X.Ready rfl ?_;simp [Y340,Xm.wp,Yy,Q1];refine Zn ?_;intro A h1 gA A1 e1;replace A1:Xb h1 A #[D.v,G.v,H.v]:=A1;simp;refine Zn ?_;intro B h2 gB B2 e2;replace B2:Xb h2 B #[s.v]:=B2;have x2:=e1.trans e2;have A2:=A1.ext e2;have z1:=e1.size;have z2:=e2.size;simp [Yj A2,Yj B2];rw [show (Value.agg #[D.v,G.v,H.v])=Yy D G H from rfl];refine Znn X.O17.MF (r.ext x2) hf I ?_;intro h3 p S e3 g hS;have J:=x2.trans e3;simp [Yj (A2.ext e3),Yj (B2.ext e3)];rw [show (Value.agg #[D.v,G.v,H.v])=Yy D G H from rfl,show (Value.agg #[s.v])=Q1 s from rfl];refine ⟨rfl,?_⟩;refine Zs0 X.O17 (r.ext J) (q.ext J) hf I V ?_;intro h4 op e4 aa fo;have x4:=J.trans e4;have gl:=g.lt;have v4:OvR h4 S op N L:=fun k mk=>fo k (mk.mono fun j _ hj=>gl j hj);have M:=g.ext e4;simp;refine Z2g X.Md.A M (v4 h4 (Mod.refl _)) I V ?_;intro h5 cb C O ab o5 hE;have U:=M.lt;simp;refine hr h5 p op (Sl.at cb _ _) S C ⟨x4.trans O,M.ext O,v4.then (S':=S) (Mod.weak O) (fun b hb=>.inl hb),o5.row64,hE,fun _ hb=>by have:=U _ hb;simp only [Sl.at_b] at this;omega,fun b hb=>?_⟩;have:=hS b hb;omega
def RyI (A B p op:Nat) (s:Sl) (v0 v1:Value) (N:Zr) (L:Za) (ls:List (List Yz)) (h0:Zk) (e:Zc) (h':Zk):Prop :=
 ∃ (i:Nat) (sc:Sl) (costs:Zb) (S:Zf) (v14 v15 v16 v17 v18:Value),e=[v0,v1,s.v,Zh A,Zh B,.pointer none,.pointer none,Zi,.bool false,Zh p,Zh op,sc.v,.bool true,Zg i,v14,v15,v16,v17,v18]/\i<=ls.length/\Zo4 h0 h' p op sc (Zbn N (ls.take i)) L S costs
def Zv2 (X:Zmk Y) {H I J s q:Sl} {N:Zr} {L:Za} {ls:List (List Yz)} (r:Ut h H I J N) (rq:Qn h q L) (ra:Zrl h s ls) (hf:Zf1 N=true) (ok:Yl N) (pk:Yv N.vs.length L) (ad:ls.length<=1000) (M:∀ i,i<ls.length->(Za5 ls i).length<=1000) {R:Ze}
  (hr:∀ h' p op D S costs,Zo4 h h' p op D (Zbn N ls) L S costs->R (.tuple #[Zh p,Zh op,D.v,.bool true]) h'):Zv Y 330 [Yy H I J,Q1 q,s.v] h R:=by
 have ll:=ra.len;refine .of_has X.ready rfl ?_;simp [Y330,Xm.wp,Yy,Q1];refine Zn ?_;intro A h1 gA A1 e1;replace A1:Xb h1 A #[H.v,I.v,J.v]:=A1;simp;refine Zn ?_;intro B h2 gB B2 e2;replace B2:Xb h2 B #[q.v]:=B2;have x2:=e1.trans e2;have A2:=A1.ext e2;have z2:=x2.size;simp [Yj A2,Yj B2];rw [show (Value.agg #[H.v,I.v,J.v])=Yy H I J from rfl,show (Value.agg #[q.v])=Q1 q from rfl];refine Zq6 X (r.ext x2) (rq.ext x2) hf ok pk ?_;intro h3 p op D S costs R3;have R3':Zo4 h h3 p op D (Zbn N (ls.take 0)) L S costs:=⟨x2.trans R3.ex,R3.g,R3.v,R3.rc,R3.hE,R3.fc,fun b hb=>by have:=R3.lo b hb;omega⟩
 simp;refine Zt (RyI A B p op s (Yy H I J) (Q1 q) N L ls h) (fun e _=>ls.length-Zy e 13) ⟨0,D,costs,S,_,_,_,_,_,rfl,by omega,R3'⟩ ?_;clear R3 R3';rintro e h4 ⟨i,D,costs,S,ae,af,ag,ah,ai,rfl,hi,R4⟩;by_cases c:i<ls.length;rotate_left
 ·have c':¬ (i:Int)<s.n:=by omega
  have:i=ls.length:=by omega
  subst this;rw [Xhf] at R4;simp [c'];exact hr h4 p op D S costs R4
 have c':(i:Int)<s.n:=by omega
 have w1:=Zj (i:=i) (by omega);obtain ⟨O,U⟩:=Zqy ok (ls:=ls.take i);obtain ⟨u,hu,ru⟩:=(ra.ext R4.ex).val i c;have V:=Zny (N:=N) c;have gl:=R4.g.lt;have aa:=M i c;simp [c',Zm ra.ok,hu];refine Z08 X.To19 ru aa ?_;intro h5 w G ow fw;have v5:OvR h5 S op (Zbn N (ls.take i)) L:=R4.v.then (S':=S) (Mod.weak G) (fun b hb=>.inl hb);simp;refine Zzm X.Md (R4.g.ext G) v5 O (by rw [U.vs];exact pk) (R4.rc.ext G) R4.hE R4.fc ow.row5 (fun hn hb=>by have:=fw hn;have:=gl _ hb;omega) ?_ ?_
 ·intro h6 t v hb e6;simp [w1];refine ⟨⟨i+1,D,costs,S,_,_,_,_,_,rfl,by omega,?_⟩,by simp [Zy];omega⟩;rw [V];unfold Ze2;rw [if_neg hb];exact ⟨(R4.ex.trans G).trans e6,(R4.g.ext G).ext e6,v5.then (S':=S) (Mod.weak e6) (fun b hb=>.inl hb),(R4.rc.ext G).ext e6,R4.hE,R4.fc,R4.lo⟩
 intro h6 cb C f S' hz m6 g6 Z aj ab o6 ac;simp [w1];refine ⟨⟨i+1,Sl.at cb _ _,C,S',_,_,_,_,_,rfl,by omega,?_⟩,by simp [Zy];omega⟩;have z5:=R4.ex.size;have z6:=G.size;have dA:Wb (Zbn N (ls.take i)) (Xk (Zbn N (ls.take i)) (Za5 ls i)):=Zau O (fun _ hc=>Zdb hz hc);rw [V];unfold Ze2;rw [if_pos hz];refine ⟨Mod.ext (R4.ex.trans G) m6 (fun j hj=>R4.lo j hj),g6,fun k mk=>(v5.then m6 Z k mk).dim dA,o6.row64,ac,fun _=>ab,fun b hb=>?_⟩;rcases Z b hb with w | w
 ·exact R4.lo b w
 omega
structure Xbt (Y:Sys):Prop where
 T:Zmk Y
 few:Y.Has 328 Y328
 K:Z3o Y
 P:Zvz Y
 RN:Zfy Y
 RW:Zqi Y
 RT:Zd4 Y
 RC:Zo3 Y
 Least:Y.Has 325 Y325
def Zic {N:Zr} {b:Nat} (hb:b<N.as.length):Zw1 N b=Zu N b:=by
 unfold Zu;rw [if_pos (by simp [Yf];omega)]
 rfl
def Z3g {N:Zr} (R:Yl N) {row:Zb} (U:Ze5 N row=true) (hl:row.length<=200) :
  ∃ s t:Nat,Zl row 0=s/\Zl row (row.length-1)=t/\s<N.as.length/\t<N.as.length/\Zu N s≠Xq/\Xg (Zf7 N s) (EdW N) t (Zgf N row)/\Zgf N row<Xq/\0<row.length:=by
 have hI:Xq=1152921504606846976:=rfl;obtain ⟨I,r⟩:=Zb1.1 U;have J:0<row.length:=List.length_pos_iff.2 I;have D:∀ i,i<row.length->∃ b:Nat,Zl row i=b/\b<N.as.length/\Zu N b≠Xq:=fun i H=>by
  have h:=r i H;simp only [X7,Xf4,decide_eq_true_eq] at h;obtain ⟨⟨h1,V⟩,_⟩:=h;simp only [Yf,decide_eq_true_eq] at h1;obtain ⟨b,hb⟩:∃ b:Nat,Zl row i=b:=⟨(Zl row i).toNat,by omega⟩
  have G:b<N.as.length:=by omega
  rw [hb,Zic G] at V;exact ⟨b,hb,G,V⟩
 obtain ⟨s,X,ls,Z⟩:=D 0 J;have key:∀ i,i<row.length->∃ b:Nat,Zl row i=b/\b<N.as.length/\Xg (Zf7 N s) (EdW N) b (Vy N row (i+1))/\0<=Vy N row (i+1)/\Vy N row (i+1)<=(i:Int) * 4294967296:=by
  intro i
  induction i with
  | zero=>intro _;exact ⟨s,X,ls,by simp only [Vy,if_true];exact .init ⟨rfl,rfl,Z⟩,by simp [Vy],by simp [Vy]⟩
  | succ i ih =>
   intro H;obtain ⟨a,ea,la,wa,M,c1⟩:=ih (by omega);obtain ⟨b,O,G,wb⟩:=D (i+1) H;have h:=r (i+1) H;simp only [X7,Xf4,Xi0,decide_eq_true_eq,Xgy] at h;have ht:=h.2.resolve_left (by omega);rw [ea,O] at ht;have t1:=(Wq R (a:=(a:Int)) (b:=(b:Int))).resolve_left ht;have w1:=(Ve R (a:=(b:Int))).resolve_left wb;have e:Vy N row (i+1+1)=Vy N row (i+1)+(Yr N a b+Zu N b):=by
    rw [Vy,if_neg (by omega),Xgy,ea,O,Zic G,Zde M t1.1,Zbv (by omega) (by omega),Zde (by omega) w1.1,Zbv (by omega) (by omega)];omega
   rw [e];exact ⟨b,O,G,.step wa ⟨ht,wb,rfl⟩,by omega,by omega⟩
 obtain ⟨t,et,lt,wt,M,c1⟩:=key (row.length-1) (by omega);rw [Xjp J] at wt M c1;have:Zgf N row=Vy N row row.length:=by unfold Zgf;rw [if_pos U]
 rw [this];exact ⟨s,t,X,et,ls,lt,Z,wt,by omega,J⟩
def Z75 {N:Zr} (I:Yl N) {s b:Nat} {q:Zd} {y:Int} (g:GoW N s q b y) (hs:s<N.as.length) (M:Zu N s≠Xq):y<Xq ->
  (∀ i,i<q.length+1->X7 N (Xu (s::q)) i=true)/\Vy N (Xu (s::q)) (q.length+1)=y/\0<=y/\Zl (Xu (s::q)) q.length=(b:Int):=by
 have hI:Xq=1152921504606846976:=rfl;have vt:∀ {c:Nat},c<N.as.length->Yf N.as.length (c:Int)=true:=fun h=>by simp [Yf];omega
 induction g with
 | nil =>
  intro _;refine ⟨fun i D=>?_,by simp [Vy],Xht _,by simp [Xu,Zl]⟩;have:i=0:=by simpa using D
  subst this;simp [X7,Xu,Zl,vt hs,Zic hs];exact M
 | @snoc l b c y w g e ih =>
  intro hy;obtain ⟨J,e2,e3⟩:=e;obtain ⟨j,ej,lj⟩:=Uw e2;have H:c<N.as.length:=by omega
  have O:=(Wq I (a:=(b:Int)) (b:=(c:Int))).resolve_left J;have R:=(Ve I (a:=(c:Int))).resolve_left e2;obtain ⟨h1,U,V,h4⟩:=ih (by omega);have G:Xu (s::(l++[c]))=Xu (s::l)++[(c:Int)]:=by simp [Xu]
  have X:(Xu (s::l)).length=l.length+1:=by simp [Xu]
  have r:∀ i,i<l.length+1->Zl (Xu (s::(l++[c]))) i=Zl (Xu (s::l)) i:=fun i D=>by rw [G,Uj (by omega)]
  have new:Zl (Xu (s::(l++[c]))) (l.length+1)=c:=by rw [G,<-X,Zdo]
  have Z:Vy N (Xu (s::(l++[c]))) (l.length+1)=y:=by
   have:=Zrb (N:=N) (l:=Xu (s::(l++[c]))) (k:=l.length+1) (i:=l.length+1) (Xfy _);rw [G,List.take_append_of_le_length (by omega),Xf7 (by omega)] at this;rw [G,<-this];exact U
  refine ⟨fun i D=>?_,?_,by omega,by simpa using new⟩
  ·simp at D;rcases Xf0 i (l.length+1) with z | z
   ·have:=h1 i z;unfold X7 at this ⊢;rw [r i z,r (i-1) (by omega)];exact this
   have:i=l.length+1:=by omega
   subst this;unfold X7;rw [new,Xgy,r l.length (by omega),h4,vt H,Zic H];simp;exact ⟨e2,J⟩
  simp only [Xf9,List.length_singleton];rw [Vy,if_neg (by omega),Xgy,Z,new,r l.length (by omega),h4,Zic H,Zde V O.1,Zbv (by omega) (by omega),Zde (by omega) R.1,Zbv (by omega) (by omega)];omega
set_option maxHeartbeats 1000000 in
def Z5y (X:Xbt Y) {V Z st q s u:Sl} {N:Zr} {L:Za} {ls:List (List Yz)} {row:Zb} (r:Ut h V Z st N) (rq:Qn h q L) (ah:q.n<=9223372036854775807) (ra:Zrl h s ls) (ai:ls.length<=9223372036854775807) (ru:Yd h u row) {R:Ze}
  (hr:∀ h',Ext h h'->R (.bool true) h'):Zv Y 325 [Yy V Z st,Q1 q,s.v,u.v] h R:=by
 have la:=r.ra.len;have lu:=ru.len;refine .of_has X.Least rfl ?_;simp [Y325,Xm.wp,Yy,Q1];refine Zn ?_;intro A h1 gA A1 e1;replace A1:Xb h1 A #[V.v,Z.v,st.v]:=A1;simp;refine Zn ?_;intro B h2 gB B2 e2;replace B2:Xb h2 B #[q.v]:=B2;have x2:=e1.trans e2;have A2:=A1.ext e2;simp;refine X.K h2 _ ?_;intro h3 e3;have x3:=x2.trans e3;have A3:=A2.ext e3;have B3:=B2.ext e3;simp [Yj A3,Yj B3];rw [show (Value.agg #[V.v,Z.v,st.v])=Yy V Z st from rfl,show (Value.agg #[q.v])=Q1 q from rfl];refine Zrv X.T (r.ext x3) (rq.ext x3) ah ?_;intro h4 e4;have x4:=x3.trans e4;by_cases hm:(Zpu N && Zeg N.vs.length L)=true;rotate_left
 ·have au:(Zpu N && Zeg N.vs.length L)=false:=by simpa using hm
  rw [au];simp;exact hr h4 x4
 obtain ⟨hf,ok,pk⟩:=Zy3 hm;rw [hm];simp;refine Zro X.few (ra.ext x4) ai ?_
 cases av:Zvl ls with
 | false =>
  simp;exact hr h4 x4
 | true =>
 have aw:(∀ l,l∈ls->l.length<=300)/\ls.length<=6:=by simpa [Zvl] using av
 have A4:=A3.ext e4;have B4:=B3.ext e4;by_cases hz:u.n=0
 ·simp [hz];exact hr h4 x4
 by_cases aR:200<u.n
 ·have ac:(200:Int)<u.n:=by omega
  simp [hz,ac];exact hr h4 x4
 have ac:¬ (200:Int)<u.n:=by omega
 simp [hz,ac,Yj A4];rw [show (Value.agg #[V.v,Z.v,st.v])=Yy V Z st from rfl];refine Zsp X.T (r.ext x4) (ra.ext x4) ok (by omega) ?_;intro h6 s1 s2 s3 e6 r6;obtain ⟨H,aj⟩:=Zqy ok (ls:=ls);have x6:=x4.trans e6;simp [Yy];refine Zn ?_;intro cb h7 ax C7 e7;replace C7:Xb h7 cb #[Zi,Zi,Zi]:=C7;simp;refine Zs (vs:=#[s1.v,s2.v,s3.v]) C7 rfl rfl (by simp) ?_;intro h8 C8 m8;have e8:Ext h6 h8:=Mod.toExtF e7 m8 ax;have x8:=x6.trans e8;have A8:=((A4.ext e6).ext e8)
 have B8:=((B4.ext e6).ext e8)
 have r8:=r6.ext e8;simp [Yj C8];rw [show (Value.agg #[s1.v,s2.v,s3.v])=Yy s1 s2 s3 from rfl];refine Zgy X.RN X.RW X.RT r8 (ru.ext x8) (by omega) H ?_;intro h9 e9;have x9:=x8.trans e9
 cases hw:Ze5 (Zbn N ls) row with
 | false =>
  simp;exact hr h9 x9
 | true =>
 have A9:=A8.ext e9;have B9:=B8.ext e9;have lM:=aj.al;obtain ⟨s0,t0,es,et,ad,ak,ws,wk,cI,l0⟩:=Z3g H hw (by omega);have am:∀ i,i<ls.length->(Za5 ls i).length<=1000:=fun i hi=>by
  have hm:Za5 ls i∈ls:=by simp [Za5,hi]
  have:=aw.1 _ hm;omega
 simp [Yj A9,Yj B9];rw [show (Value.agg #[V.v,Z.v,st.v])=Yy V Z st from rfl,show (Value.agg #[q.v])=Q1 q from rfl];refine Zv2 X.T (r.ext x9) (rq.ext x9) (ra.ext x9) hf ok pk (by omega) am ?_;intro aa p op sc S costs R10;have an:=x9.trans R10.ex;have I:=ru.ext an;have v0:=I.val 0 l0;have v1:=I.val (row.length-1) (by omega);rw [es] at v0;rw [et] at v1;have ao:Yv (Zbn N ls).vs.length L:=by rw [aj.vs];exact pk
 have wl:IntKind.i64.wrap ((u.n:Int)-1)=((row.length-1:Nat):Int):=by rw [Zo (by omega)];omega
 have i0:Yo.sem Y aa (.idxa 1) [u.v,Zg 0]=some (.pointer (some ⟨u.b,u.o,none⟩)):=by
  rw [Zm I.ok (by omega) (by omega)];simp
 have i1:Yo.sem Y aa (.idxa 1) [u.v,Zg ((row.length-1:Nat):Int)]=some (.pointer (some ⟨u.b,u.o+(row.length-1),none⟩)):=by
  rw [Zm I.ok (by omega) (by omega)];simp
 simp only [Nat.add_zero] at v0;simp [wl,i0,i1,v0,v1];have vv:Vw aa op (Zbn N ls) L:=R10.v aa (Mod.refl _);have D:=X.P.N.P.P.D;refine Z02 D R10.g vv R10.rc H ao R10.hE ad ak ?_;intro ap d J hd;have ay:Vw ap op (Zbn N ls) L:=R10.v ap (Mod.weak J);simp;have aQ:=(Zca.1 hf).2.1;refine Zzn X.P (R10.g.ext J) ay (R10.rc.ext J) H ao R10.hE (by omega) ad ak cI wk ?_;intro az d' a lp g ae aA dI ab gw lg;have aB:=hd.uniq aA;subst aB;have aC:=(an.trans J).trans ae;have C12:=(((C8.ext e9).ext R10.ex).ext J).ext ae;have af:=(((r8.ext e9).ext R10.ex).ext J).ext ae;have aS:=ab.len;have aD:(Xu (s0::g)).length=g.length+1:=by simp [Xu]
 obtain ⟨k1,k2,k3,k4⟩:=Z75 H gw ad ws dI;have aq:Ze5 (Zbn N ls) (Xu (s0::g))=true:=Zb1.2 ⟨by simp [Xu],fun i hi=>k1 i (by omega)⟩;have aE:Zgf (Zbn N ls) (Xu (s0::g))=d:=by unfold Zgf;rw [if_pos aq,aD];exact k2
 have aT:=hd.all _ wk;simp;refine Zn ?_;intro wb aF aG W13 aH;replace W13:Xb aF wb #[Zi,Zg 0,Zg 0]:=W13;simp;refine Zs (vs:=#[a.v,Zg d,Zg lp]) W13 rfl rfl (by simp) ?_;intro aI W14 aJ;have M:Ext az aI:=Mod.toExtF aH aJ aG;have ar:=aC.trans M;have C14:=C12.ext M;have aK:¬ a.n=0:=by omega
 simp [W14.hc,aK,Yj C14];rw [show (Value.agg #[s1.v,s2.v,s3.v])=Yy s1 s2 s3 from rfl];refine Zko X.RN X.RW X.RT X.RC (af.ext M) (ru.ext ar) (by omega) H ?_;intro ag O;have aL:=ar.trans O;have W15:=W14.ext O;have C15:=C14.ext O;have G:=((ab.ext M).ext O)
 have dl:¬ Zgf (Zbn N ls) row<d:=by omega
 have v2:=G.val 0 (by omega);have v3:=G.val g.length (by omega);rw [k4] at v3;have aM:hc ag a.b a.o=some (Zg (s0:Int)):=by simpa [Xu,Zl] using v2
 have aN:IntKind.i64.wrap ((a.n:Int)-1)=(g.length:Int):=by rw [Zo (by omega)];omega
 have j0:Yo.sem Y ag (.idxa 1) [a.v,Zg 0]=some (.pointer (some ⟨a.b,a.o,none⟩)):=by
  rw [Zm G.ok (by omega) (by omega)];simp
 have j1:Yo.sem Y ag (.idxa 1) [a.v,Zg (g.length:Int)]=some (.pointer (some ⟨a.b,a.o+g.length,none⟩)):=by
  rw [Zm G.ok (by omega) (by omega)];simp
 simp [dl,W15.hc,j0,j1,aM,v3,aN,Yj C15];rw [show (Value.agg #[s1.v,s2.v,s3.v])=Yy s1 s2 s3 from rfl];refine Zgy X.RN X.RW X.RT ((af.ext M).ext O) G (by omega) H ?_;intro aU U;have W16:=W15.ext U;have C16:=C15.ext U;rw [aq];simp [W16.hc,Yj C16];rw [show (Value.agg #[s1.v,s2.v,s3.v])=Yy s1 s2 s3 from rfl];refine Zko X.RN X.RW X.RT X.RC (((af.ext M).ext O).ext U) (G.ext U) (by omega) H ?_;intro aO aP;rw [aE];simp;exact hr aO ((aL.trans U).trans aP)
end
end Go.Rm
