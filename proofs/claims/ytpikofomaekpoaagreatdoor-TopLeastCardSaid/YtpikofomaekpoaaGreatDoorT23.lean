import Derived.Test.YtpikofomaekpoaaGreatDoorT22
/- Parts. -/
set_option linter.unusedSimpArgs false
set_option linter.unusedVariables false
namespace Go.Rm
abbrev Zfn:ByteArray:=⟨#[99,104,97,110,103,101]⟩
abbrev Zuz:ByteArray:=⟨#[98,97,116,99,104]⟩
def Vu (N:Zr) (c:Yz):Bool:=decide (0<=c.a/\c.a<N.ts.length/\0<=c.i/\c.i<(Zz N.ts c.a.toNat).i/\0<=c.o/\c.o<(Zz N.ts c.a.toNat).o)
def Ul (N:Zr) (c:Yz):Int :=
 if c.kd=1 then (if c.i≠0\/c.o≠0 then 1 else if Yf N.as.length c.a=false then 5 else if Yt c.w=true then 0 else 8)
 else if c.kd=2 then (if Vu N c=false then 5 else if Yt c.w=true then 0 else 8)
 else 1
def Vh (c d:Yz):Bool:=decide (c.kd=d.kd/\c.a=d.a/\c.i=d.i/\c.o=d.o)
def Zev (l:List Yz) (i:Nat):Bool:=(List.range i).any fun k=>Vh (Yp l k) (Yp l i)
def Q7 (N:Zr) (l:List Yz) (i:Nat):Int:=if Ul N (Yp l i)≠0 then Ul N (Yp l i) else if Zev l i=true then 6 else 0
def Ug (N:Zr) (l:List Yz):Nat->Nat->Wr
 | _,0=>Qg
 | k,m+1=>if Q7 N l k≠0 then Vr Zfn k (Q7 N l k) else Ug N l (k+1) m
def Wj (N:Zr) (l:List Yz):Wr:=if 256<l.length then Vr Zuz 0 4 else Ug N l 0 l.length
theorem Zfx {l:List Yz} {i:Nat}:Zev l i=true↔∃ k,k<i/\Vh (Yp l k) (Yp l i)=true:=by
 simp [Zev,Xiy]
structure Z3c (Y:Sys):Prop where
 one:Y.Has 313 Y313
 Check:Y.Has 302 Y302
 There:Y.Has 130 Y130
 Weight:Y.Has 49 Y49
 At:Y.Has 50 Y50
section
variable {Y:Sys} {h h':Zk}
theorem Z3n (D:Z3c Y) {sv sa X:Sl} {N:Zr} (r:Ut h sv sa X N) {c:Yz} {R:Ze} (G:∀ h',Ext h h'->R (Zg (Ul N c)) h'):Zv Y 313 [Yy sv sa X,Zqn c] h R:=by
 have la:=r.ra.len;have lt:=r.rt.len;refine .of_has D.one rfl ?_;simp [Y313,Xm.wp,Yy];refine Zn ?_;intro A hA gA O eA;simp;refine Zn ?_;intro B Z gB J eB;have x:=eA.trans eB;have O:=O.ext eB;obtain ⟨kd,a,i,o,w⟩:=c;simp [Zqn] at J;have J:Xb Z B #[Zg kd,Zg a,Zg i,Zg o,Zg w]:=J;simp [J.hc];by_cases c1:kd=1
 ·by_cases H:i=0
  ·by_cases c3:o=0
   ·simp [c1,H,c3,Yj O,J.hc];rw [show (Value.agg #[sv.v,sa.v,X.v])=Yy sv sa X from rfl];refine Zd8 D.There la ?_;intro h3 e3;by_cases c4:Yf N.as.length a=true
    ·simp [c4,(J.ext e3).hc];refine Zbw D.Weight ?_;have G:=G h3 (x.trans e3);simp only [Ul,c1,H,c3,c4] at G;by_cases c5:Yt w=true
     ·simp [c5] at G ⊢;exact G
     simp [c5] at G ⊢;exact G
    have G:=G h3 (x.trans e3);simp [c4];simp [Ul,c1,H,c3,c4] at G;exact G
   have G:=G Z x;simp [Ul,c1,H,c3] at G;simp [c1,H,c3];exact G
  have G:=G Z x;simp [Ul,c1,H] at G;simp [c1,H];exact G
 by_cases H:kd=2;rotate_left
 ·have G:=G Z x;simp [Ul,c1,H] at G;simp [c1,H];exact G
 have I:Vu N ⟨kd,a,i,o,w⟩=false->R (Zg 5) Z:=fun hb=>by
  have G:=G Z x;simp [Ul,H] at G;simp [H] at hb;simp [hb] at G;exact G
 by_cases d1:a<0
 ·have U:¬ 0<=a:=by omega
  simp [H,d1,U];exact I (by simp [Vu];omega)
 have U:0<=a:=by omega
 by_cases d2:(X.n:Int)<=a
 ·simp [U,H,d1,d2,O.hc];exact I (by simp [Vu];omega)
 have ad:a<(X.n:Int):=by omega
 by_cases d3:i<0
 ·have ae:¬ 0<=i:=by omega
  simp [U,H,d1,d2,O.hc,J.hc,d3];exact I (by simp [Vu];omega)
 obtain ⟨t,rfl⟩:∃ t:Nat,a=t:=⟨a.toNat,by omega⟩
 have ac:t<N.ts.length:=by omega
 have V:(t:Int)<X.n:=by omega
 obtain ⟨u,v0,v1,v2,_⟩:=(r.ext x).rt.val t ac;obtain ⟨ti,M⟩:∃ z,(Zz N.ts t).i=z:=⟨_,rfl⟩
 obtain ⟨to,aa⟩:∃ z,(Zz N.ts t).o=z:=⟨_,rfl⟩
 rw [M] at v0;rw [aa] at v1;by_cases d4:ti<=i
 ·simp [H,d1,d2,O.hc,J.hc,d3,Zm r.rt.ok,V,v0,d4];exact I (by simp [Vu,M];omega)
 by_cases d5:o<0
 ·have af:¬ 0<=o:=by omega
  simp [H,d1,d2,O.hc,J.hc,d3,Zm r.rt.ok,V,v0,d4,d5];exact I (by simp [Vu,M];omega)
 by_cases d6:to<=o
 ·simp [H,d1,d2,O.hc,J.hc,d3,Zm r.rt.ok,V,v0,v1,d4,d5,d6];exact I (by simp [Vu,M,aa];omega)
 have ab:Vu N ⟨2,t,i,o,w⟩=true:=by simp [Vu,M,aa];omega
 have G:=G Z x;simp only [Ul,H,ab] at G;simp [H,d1,d2,O.hc,J.hc,d3,Zm r.rt.ok,V,v0,v1,d4,d5,d6];refine Zbw D.Weight ?_;by_cases c5:Yt w=true
 ·simp [c5] at G ⊢;exact G
 simp [c5] at G ⊢;exact G
theorem Zcm.ext' {s:Sl} {l:List Yz} (r:Zcm h s l) (e:Ext h h'):Zcm h' s l:=⟨r.ok,r.len,fun i D=>e.rd (r.val i D) (fun h=>h)⟩
theorem Zcm.cell {s:Sl} {l:List Yz} (r:Zcm h s l) {i:Nat} (D:i<l.length) :
  hc h s.b (s.o+i * 5)=some (Zg (Yp l i).kd)/\hc h s.b (s.o+i * 5+1)=some (Zg (Yp l i).a)/\hc h s.b (s.o+i * 5+2)=some (Zg (Yp l i).i)/\hc h s.b (s.o+i * 5+3)=some (Zg (Yp l i).o)/\hc h s.b (s.o+i * 5+4)=some (Zg (Yp l i).w):=by
 have:=(Zut (r.val i D)).2;exact ⟨this 0 _ rfl,this 1 _ rfl,this 2 _ rfl,this 3 _ rfl,this 4 _ rfl⟩
def Xeb (A W:Nat) (v0:Value) (s:Sl) (N:Zr) (l:List Yz) (h0:Zk) (e:Zc) (h':Zk):Prop :=
 ∃ (i:Nat) (v5 v6 v7 v8 v9 v10 v11:Value),e=[v0,s.v,Zh A,Zh W,Zg i,v5,v6,v7,v8,v9,v10,v11]/\i<=l.length/\Ug N l 0 l.length=Ug N l i (l.length-i)/\Ext h0 h'
def Xem (A W i:Nat) (v0:Value) (s:Sl) (l:List Yz) (h0:Zk) (e:Zc) (h':Zk):Prop :=
 ∃ (j:Nat) (v5 v7 v8 v9 v10 v11:Value),e=[v0,s.v,Zh A,Zh W,Zg i,v5,Zg j,v7,v8,v9,v10,v11]/\j<=i/\(∀ k,k<j->Vh (Yp l k) (Yp l i)=false)/\h'=h0
set_option maxHeartbeats 1000000 in
theorem Zjv (D:Z3c Y) {sv sa st s:Sl} {N:Zr} {l:List Yz} (r:Ut h sv sa st N) (q:Zcm h s l) {R:Ze}
  (hr:∀ h' v,Ext h h'->FWr h.size h' (Wj N l) v->R v h'):Zv Y 302 [Yy sv sa st,s.v] h R:=by
 have ll:=q.len;refine .of_has D.Check rfl ?_;simp [Y302,Xm.wp,Yy];refine Zn ?_;intro A h1 g1 A1 e1;simp;refine Zn ?_;intro W h2 g2 W2 e2;have aa:=e1.trans e2;have z1:=e1.size;have z2:=e2.size;have lW:=W2.lt;have G:∀ {U h4:Zk} {v:Value},Ext h2 U->FWr h2.size U (Wj N l) v->Mod (fun j=>j=W) U h4->R v h4:=by
  intro U h4 v e3 fw m4;exact hr h4 v (Mod.ext (aa.trans e3) m4 (fun j hj=>by omega)) ((fw.step m4 (fun j hj=>by omega)).mono (by omega))
 by_cases c1:256<s.n
 ·have V:(256:Int)<s.n:=by omega
  have hp:Wj N l=Vr Zuz 0 4:=by unfold Wj;rw [if_pos (by omega)]
  rw [hp] at G;simp [V];refine Q6 D.At ?_;intro U v e3 hv;obtain ⟨s5,rfl⟩:=hv.here.shape;simp;refine Zs (W2.ext e3) rfl rfl (by simp) ?_;intro h4 W4 m4;simp;exact Xj rfl W4 rfl (G e3 hv m4)
 have V:¬ (256:Int)<s.n:=by omega
 have hp:Wj N l=Ug N l 0 l.length:=by unfold Wj;rw [if_neg (by omega)]
 rw [hp] at G;simp [V];refine Zt (Xeb A W (.agg #[sv.v,sa.v,st.v]) s N l h2) (fun e _=>l.length-Zy e 4) ⟨0,_,_,_,_,_,_,_,rfl,by omega,rfl,Mod.refl _⟩ ?_;rintro e U ⟨i,v5,v6,v7,v8,v9,ab,ac,rfl,hi,hF,e3⟩;have W3:=W2.ext e3;by_cases c:i<l.length;rotate_left
 ·have c':¬ (i:Int)<s.n:=by omega
  obtain rfl:i=l.length:=by omega
  rw [Nat.sub_self,Ug] at hF;rw [hF] at G;have hb:Yo.sem Y U (.build #[Zi,Zg 0] [(0,1),(1,1)] []) []=some (.agg #[Zi,Zg 0]):=by simp [Yo.sem,Instr.fill]
  simp [c',hb];refine Zs W3 rfl rfl (by simp) ?_;intro h4 W4 m4;simp;exact Xj rfl W4 rfl (G e3 FWr.ok m4)
 have c':(i:Int)<s.n:=by omega
 have ad:i<s.n:=by omega
 have w1:=Zj (i:=i) (by omega);have x3:=aa.trans e3;have q3:=q.ext' x3;have M:Q7 N l i≠0->Ug N l 0 l.length=Vr Zfn i (Q7 N l i):=fun hb=>by
  rw [hF,show l.length-i=(l.length-i-1)+1 by omega,Ug,if_pos hb]
 have X:Q7 N l i=0->Ug N l 0 l.length=Ug N l (i+1) (l.length-(i+1)):=fun hb=>by
  rw [hF,show l.length-i=(l.length-(i+1))+1 by omega,Ug,if_neg (by omega)]
 simp [c',Yj ((A1.ext e2).ext e3),Zm q3.ok,q3.val i c];rw [show (Value.agg #[sv.v,sa.v,st.v])=Yy sv sa st from rfl,show (Value.agg #[Zg (Yp l i).kd,Zg (Yp l i).a,Zg (Yp l i).i,Zg (Yp l i).o,Zg (Yp l i).w])=Zqn (Yp l i) from rfl];refine Z3n D (r.ext x3) ?_;intro h4 e4;have I:=e3.trans e4;by_cases c2:Ul N (Yp l i)=0;rotate_left
 ·have hb:Q7 N l i=Ul N (Yp l i):=by unfold Q7;rw [if_pos c2]
  have hf:=M (by rw [hb];exact c2);rw [hb] at hf;rw [hf] at G;simp [c2];refine Q6 D.At ?_;intro h5 v e5 hv;obtain ⟨s5,rfl⟩:=hv.here.shape;simp;have z3:=I.size;refine Zs ((W3.ext e4).ext e5) rfl rfl (by simp) ?_;intro h6 W6 m6;simp;exact Xj rfl W6 rfl (G (I.trans e5) (hv.mono (by omega)) m6)
 simp [c2];refine Zt (Xem A W i (Yy sv sa st) s l h4) (fun e _=>i-Zy e 6) ⟨0,_,_,_,_,_,_,rfl,by omega,fun k hk=>by omega,rfl⟩ ?_;rintro e h5 ⟨j,v5,v7,v8,v9,ab,ac,rfl,hj,O,rfl⟩;have Z:=q3.ext' e4;by_cases k:j<i;rotate_left
 ·have k':¬ (j:Int)<i:=by omega
  obtain rfl:j=i:=by omega
  have ht:Zev l j=false:=by
   cases ht:Zev l j with
   | false=>rfl
   | true =>
    obtain ⟨k,hk,e⟩:=Zfx.1 ht;rw [O k hk] at e
    cases e
  have hb:Q7 N l j=0:=by unfold Q7;simp [c2,ht]
  simp [w1];exact ⟨⟨j+1,_,_,_,_,_,_,_,rfl,by omega,X hb,I⟩,by simp [Zy];omega⟩
 have k':(j:Int)<i:=by omega
 have kj:j<l.length:=by omega
 have J:(j:Int)<s.n:=by omega
 have wj:=Zj (i:=j) (by omega);obtain ⟨a0,a1,a2,a3,_⟩:=Z.cell c;obtain ⟨b0,b1,b2,b3,_⟩:=Z.cell kj
 cases ks:Vh (Yp l j) (Yp l i) with
 | true =>
  have ht:Zev l i=true:=Zfx.2 ⟨j,k,ks⟩;have hb:Q7 N l i=6:=by unfold Q7;simp [c2,ht]
  have hf:=M (by rw [hb];decide);rw [hb] at hf;rw [hf] at G;simp only [Vh,decide_eq_true_eq] at ks;obtain ⟨s1,s2,s3,s4⟩:=ks;rw [s1] at b0;rw [s2] at b1;rw [s3] at b2;rw [s4] at b3;simp [k',c',J,Zm Z.ok,a0,a1,a2,a3,b0,b1,b2,b3];refine Q6 D.At ?_;intro h6 v e6 hv;obtain ⟨s5,rfl⟩:=hv.here.shape;simp;have z3:=I.size;refine Zs ((W3.ext e4).ext e6) rfl rfl (by simp) ?_;intro h7 W7 m7;simp;exact Xj rfl W7 rfl (G (I.trans e6) (hv.mono (by omega)) m7)
 | false =>
  have H:∀ k,k<j+1->Vh (Yp l k) (Yp l i)=false:=fun z hz=>by
   rcases Nat.lt_succ_iff_lt_or_eq.1 hz with g | rfl
   ·exact O z g
   exact ks
  simp only [Vh,decide_eq_false_iff_not] at ks;by_cases s1:(Yp l j).kd=(Yp l i).kd
  ·by_cases s2:(Yp l j).a=(Yp l i).a
   ·by_cases s3:(Yp l j).i=(Yp l i).i
    ·have s4:¬ (Yp l j).o=(Yp l i).o:=fun s4=>ks ⟨s1,s2,s3,s4⟩;simp [k',c',J,Zm Z.ok,a0,a1,a2,a3,b0,b1,b2,b3,eq_true s1,eq_true s2,eq_true s3,s4,wj];exact ⟨⟨j+1,_,_,_,_,_,_,rfl,by omega,H,rfl⟩,by simp [Zy];omega⟩
    simp [k',c',J,Zm Z.ok,a0,a1,a2,b0,b1,b2,eq_true s1,eq_true s2,s3,wj];exact ⟨⟨j+1,_,_,_,_,_,_,rfl,by omega,H,rfl⟩,by simp [Zy];omega⟩
   simp [k',c',J,Zm Z.ok,a0,a1,b0,b1,eq_true s1,s2,wj];exact ⟨⟨j+1,_,_,_,_,_,_,rfl,by omega,H,rfl⟩,by simp [Zy];omega⟩
  simp [k',c',J,Zm Z.ok,a0,b0,s1,wj];exact ⟨⟨j+1,_,_,_,_,_,_,rfl,by omega,H,rfl⟩,by simp [Zy];omega⟩
def Zgl (c:Yz):Value:=.agg #[.int .i64 c.kd,.int .i64 c.a,.int .i64 c.i,.int .i64 c.o,.int .i64 0]
def Zh8 (h:Zk) (M:Nat) (l:List Yz):Prop:=∃ es clock,h[M]? = some (.map es clock)/\es.toList.map (fun e=>e.key)=l.map Zgl
theorem Zzj {c d:Yz}:Zcd (some 5) (Zgl c) (Zgl d)=some (Vh d c):=by
 obtain ⟨r,D,G,H,I⟩:=c;obtain ⟨J,M,O,R,U⟩:=d;simp [Zgl,Zcd,Qv,Vh];rw [Xhz];simp;omega
theorem Znl {c:Yz}:Za1 (some 5) (Zgl c)=true:=by simp [Zgl,Za1,Zpc]
theorem Zkz {c:Yz}:∀ {r:List MapEntry} {L:List Yz} {n:Nat},r.map (fun e=>e.key)=L.map Zgl ->
  (∃ j v,Ue (some 5) (Zgl c) r n=some (some (j,v))/\∃ d,d∈L/\Vh d c=true)\/(Ue (some 5) (Zgl c) r n=some none/\∀ d,d∈L->Vh d c=false):=by
 intro r
 induction r with
 | nil =>
  intro L n h;have:L=[]:=by simpa using h.symm
  subst this;exact .inr ⟨rfl,fun d hd=>by cases hd⟩
 | cons e r ih =>
  intro L n h
  cases L with
  | nil=>simp at h
  | cons d L =>
   simp only [Xha,Xik] at h;obtain ⟨h1,J⟩:=h;unfold Ue;rw [h1,Zzj]
   cases I:Vh d c with
   | true=>exact .inl ⟨n,e.val,rfl,d,by simp,I⟩
   | false =>
    rcases ih (n:=n+1) J with ⟨j,v,f,G,hd,H⟩ | ⟨f,D⟩
    ·exact .inl ⟨j,v,f,G,by simp [hd],H⟩
    refine .inr ⟨f,fun G hd=>?_⟩;rcases List.mem_cons.1 hd with rfl | hd
    ·exact I
    exact D G hd
theorem Zgd {l:List Yz} {i:Nat} {d:Yz} (D:i<=l.length):d∈l.take i↔∃ k,k<i/\d=Yp l k:=by
 constructor
 ·intro h;obtain ⟨k,r,e⟩:=List.mem_iff_getElem.1 h;simp at r;refine ⟨k,by omega,?_⟩;rw [<-e,List.getElem_take];simp [Yp,show k<l.length by omega]
 rintro ⟨k,r,rfl⟩;have:k<l.length:=by omega
 rw [show Yp l k=l[k] by simp [Yp,this]];exact List.mem_take_iff_getElem.2 ⟨k,by omega,rfl⟩
theorem Zwt {L:List Yz} {M:Nat} {h:Zk} (m:Zh8 h M L):M<h.size:=by
 obtain ⟨D,r,hb,_⟩:=m;exact (Array.getElem?_eq_some_iff.1 hb).1
theorem Zh8.mod {S:Zf} {h h':Zk} {L:List Yz} {M:Nat} (a:Zh8 h M L) (m:Mod S h h') (hs:¬ S M):Zh8 h' M L:=by
 have:=Zwt a;obtain ⟨D,r,hb,G⟩:=a;exact ⟨D,r,by rw [m.get M this hs];exact hb,G⟩
theorem Z2l {L:List Yz} {M:Nat} (a:Zh8 h M L) (c:Yz):∃ v,Yo.sem Y h (.lookup (some 5) true (.int .i64 0)) [.map (some M),Zgl c]=some (.tuple #[v,.bool (L.any fun d=>Vh d c)]):=by
 obtain ⟨G,D,hb,H⟩:=a;have I:Wm h (some M)=some G.toList:=by simp [Wm,hb]
 show ∃ v,Zed h (some 5) true (.int .i64 0) (some M) (Zgl c)=_;unfold Zed;rw [if_pos Znl,I];rcases Zkz (c:=c) (n:=0) H with ⟨j,v,f,d,hd,hs⟩ | ⟨f,r⟩
 ·have:(L.any fun d=>Vh d c)=true:=List.any_eq_true.2 ⟨d,hd,hs⟩;simp [f,this]
 have:(L.any fun d=>Vh d c)=false:=by
  rw [Xjb];intro d hd;simp [r d hd]
 simp [f,this]
theorem Zs1 {K:Ze} {L:List Yz} {M:Nat} {c:Yz} {x:Value} (a:Zh8 h M L) (G:(L.any fun d=>Vh d c)=false) (J:∀ h',Zh8 h' M (L++[c])->Mod (fun j=>j=M) h h'->K undef h') :
  Ef.wp h K (.mupd (some 5)) [.map (some M),Zgl c,x]:=by
 have O:=Zwt a;obtain ⟨H,r,hb,D⟩:=a;have hf:Ue (some 5) (Zgl c) H.toList 0=some none:=by
  rcases Zkz (c:=c) (n:=0) D with ⟨j,v,f,d,hd,hs⟩ | ⟨f,I⟩
  ·rw [Xjb] at G;exact absurd hs (G d hd)
  exact f
 simp only [Ef.wp,hb,Znl,hf,true_and];refine J _ ⟨H.push ⟨Zgl c,x,r⟩,r+1,by simp [O],?_⟩ ⟨by simp,fun b R hs=>?_⟩
 ·simp [D]
 simp [Ne.symm hs]
theorem Z3i {K:Ze} {k:IntKind} {n:Int} (r:∀ M h',h.size<=M->Zh8 h' M []->Ext h h'->K (.map (some M)) h'):Ef.wp h K .mkmap [.int k n]:=by
 show K _ _;exact r _ _ (Xfy _) ⟨#[],0,by simp,rfl⟩ Mod.push
structure Zj2 (Y:Sys):Prop where
 Check:Y.Has 303 Y303
 lookAt:Y.Has 314 Y314
 isTurn:Y.Has 322 Y322
 Weight:Y.Has 55 Y55
 Arcs:Y.Has 209 Y209
 Net:Y.Has 236 Y236
 Cl:Z6h Y
theorem Zrx (D:Zj2 Y) {O:Sl} {N:Zr} (r:Zli h O N.ts) {c:Yz} {R:Ze} (G:∀ h',Ext h h'->R (.bool (Vu N c)) h'):Zv Y 322 [O.v,Zqn c] h R:=by
 have lt:=r.len;refine .of_has D.isTurn rfl ?_;obtain ⟨kd,a,i,o,w⟩:=c;simp [Y322,Xm.wp,Zqn];refine Zn ?_;intro B hB gB J eB;have J:Xb hB B #[.int .i64 kd,.int .i64 a,.int .i64 i,.int .i64 o,.int .i64 w]:=J;by_cases d1:a<0
 ·have H:¬ 0<=a:=by omega
  have G:=G hB eB;simp [Vu,H] at G;simp [d1,J.hc];exact G
 have H:0<=a:=by omega
 by_cases d2:(O.n:Int)<=a
 ·have G:=G hB eB;have U:¬ a<N.ts.length:=by omega
  simp [Vu,H,U] at G;simp [d1,d2,J.hc];exact G
 have U:a<(O.n:Int):=by omega
 obtain ⟨t,rfl⟩:∃ t:Nat,a=t:=⟨a.toNat,by omega⟩
 have aa:t<N.ts.length:=by omega
 have ab:(t:Int)<O.n:=by omega
 obtain ⟨u,V,_,_⟩:=(r.ext eB).rd aa;obtain ⟨ti,X⟩:∃ z,(Zz N.ts t).i=z:=⟨_,rfl⟩
 obtain ⟨to,Z⟩:∃ z,(Zz N.ts t).o=z:=⟨_,rfl⟩
 rw [X,Z] at V;simp [d1,H,d2,J.hc,Zm r.ok,ab,V];refine Xh (vs:=#[.int .i64 ti,.int .i64 to,u.v]) rfl rfl (by simp) ?_;intro C ae gC ac ad stC;simp;refine stC _ ?_;intro hC bC eC;clear stC ac ad;have B2:=J.ext eC;have G:=G hC (eB.trans eC);have e:Vu N ⟨kd,t,i,o,w⟩=decide (0<=i/\i<ti/\0<=o/\o<to):=by
  simp only [Vu];apply decide_eq_decide.2;simp only [Xf1,X,Z];omega
 rw [e] at G;by_cases k1:0<=i
 ·by_cases I:i<ti
  ·by_cases M:0<=o
   ·by_cases k4:o<to
    ·simp [k1,I,M,k4] at G;simp [B2.hc,bC.hc,k1,I,M,k4];exact G
    simp [k1,I,M,k4] at G;simp [B2.hc,bC.hc,k1,I,M,k4];exact G
   simp [k1,I,M] at G;simp [B2.hc,bC.hc,k1,I,M];exact G
  simp [k1,I] at G;simp [B2.hc,bC.hc,k1,I];exact G
 simp [k1] at G;simp [B2.hc,k1];exact G
theorem Zt9 (D:Zj2 Y) {p:Nat} {N:Zr} {S:Zf} (g:Xc h p N S) {st:Sl} (r:Zli h st N.ts) {c:Yz} {R:Ze} (G:∀ h',Ext h h'->R (.int .i64 (Ul N c)) h') :
  Zv Y 314 [.pointer (some ⟨p,0,none⟩),st.v,Zqn c] h R:=by
 refine .of_has D.lookAt rfl ?_;obtain ⟨X,a,i,o,w⟩:=c;simp [Y314,Xm.wp,Zqn];refine Zn ?_;intro B O gB J M;have J:Xb O B #[.int .i64 X,.int .i64 a,.int .i64 i,.int .i64 o,.int .i64 w]:=J;have g1:=g.ext M;simp [J.hc];by_cases c1:X=1
 ·by_cases H:i=0
  ·by_cases I:o=0
   ·by_cases c4:a<0
    ·have G:=G O M;have Z:Yf N.as.length a=false:=by simp [Yf];omega
     simp [Ul,c1,H,I,Z] at G;simp [c1,H,I,J.hc,c4];exact G
    simp [c1,H,I,J.hc,c4];refine Zat D.Arcs g1 ?_;by_cases c5:(N.as.length:Int)<=a
    ·have G:=G O M;have U:Yf N.as.length a=false:=by simp [Yf];omega
     simp [Ul,c1,H,I,U] at G;simp [c1,H,I,J.hc,c5];exact G
    have U:Yf N.as.length a=true:=by simp [Yf];omega
    have G:=G O M;simp only [Ul,c1,H,I,U] at G;simp [c1,H,I,J.hc,c5];refine Q0 D.Weight ?_;by_cases V:Yt w=true
    ·simp [V] at G ⊢;exact G
    simp [V] at G ⊢;exact G
   have G:=G O M;simp [Ul,c1,H,I] at G;simp [c1,H,I,J.hc];exact G
  have G:=G O M;simp [Ul,c1,H] at G;simp [c1,H,J.hc];exact G
 by_cases H:X=2;rotate_left
 ·have G:=G O M;simp [Ul,c1,H] at G;simp [c1,H];exact G
 simp [H,J.hc,Yj J];rw [show (Value.agg #[.int .i64 2,.int .i64 a,.int .i64 i,.int .i64 o,.int .i64 w])=Zqn ⟨2,a,i,o,w⟩ from rfl];refine Zrx D (r.ext M) ?_;intro h3 e3;have B3:=J.ext e3;have G:=G h3 (M.trans e3);by_cases I:Vu N ⟨2,a,i,o,w⟩=true;rotate_left
 ·simp [Ul,H,I] at G;simp [I];exact G
 simp [I,B3.hc];refine Q0 D.Weight ?_;simp only [Ul,H,I] at G;by_cases V:Yt w=true
 ·simp [V] at G ⊢;exact G
 simp [V] at G ⊢;exact G
def Xen (p M lo:Nat) (s st:Sl) (N:Zr) (l:List Yz) (h0:Zk) (e:Zc) (h':Zk):Prop :=
 ∃ (i:Nat) (v2 v5 v6 v7 v8 v9 v10 v11 v12 v16 v17 v18 v19:Value),e=[.pointer (some ⟨p,0,none⟩),s.v,v2,st.v,.map (some M),v5,v6,v7,v8,v9,v10,v11,v12,s.v,.int .i64 s.n,.int .i64 i,v16,v17,v18,v19]/\i<=l.length/\Ug N l 0 l.length=Ug N l i (l.length-i)/\Zh8 h' M (l.take i)/\Mod (fun j=>j=M) h0 h'
set_option maxHeartbeats 1000000 in
theorem Zji (D:Zj2 Y) {p:Nat} {N:Zr} {S:Zf} (g:Xc h p N S) (ok:Yl N) {s:Sl} {l:List Yz} (q:Zcm h s l) {R:Ze}
  (G:∀ h' v,Ext h h'->W9 Y h.size h' (Wj N l) v->R v h'):Zv Y 303 [.pointer (some ⟨p,0,none⟩),s.v] h R:=by
 have ll:=q.len;refine .of_has D.Check rfl ?_;simp [Y303,Xm.wp];by_cases c1:256<s.n
 ·have I:(256:Int)<s.n:=by omega
  have hp:Wj N l=Vr Zuz 0 4:=by unfold Wj;rw [if_pos (by omega)]
  rw [hp] at G;simp [I];refine Zn ?_;intro b h2 g2 B2 e2;simp;exact G h2 _ e2 (fun h' m=>Zfc (m.blk B2 (by omega)) (by decide))
 have I:¬ (256:Int)<s.n:=by omega
 by_cases c2:s.n=0
 ·have hp:Wj N l=Qg:=by
   unfold Wj;rw [if_neg (by omega),show l.length=0 by omega]
   rfl
  rw [hp] at G;simp [c2];exact G h _ (Mod.refl _) W9.ok
 have hp:Wj N l=Ug N l 0 l.length:=by unfold Wj;rw [if_neg (by omega)]
 rw [hp] at G;simp [I,c2];refine Znc D.Net D.Cl g ok.small ?_;intro h1 s1 s2 s3 e1 r1;have r1:=(r1 h1 (Mod.refl _)).rt;have hf:∀ g,Yo.sem Y g (.fld 2 1 false) [Yy s1 s2 s3]=some s3.v:=fun g=>by simp [Yy]
 simp [hf];refine Z3i ?_;intro M h2 gM m2 e2;have z1:=e1.size;have z2:=e2.size;have lM:=Zwt m2;have x2:=e1.trans e2;simp;refine Zt (Xen p M h2.size s s3 N l h2) (fun e _=>l.length-Zy e 15) ⟨0,_,_,_,_,_,_,_,_,_,_,_,_,_,rfl,by omega,rfl,m2,Mod.refl _⟩ ?_;clear m2;rintro e h3 ⟨i,v2,v5,v6,v7,v8,v9,ai,aj,ak,al,am,an,ao,rfl,hi,hF,m3,e3⟩;have x3:Ext h h3:=Mod.ext x2 e3 (fun j hj=>by omega);have z3:=e3.size;by_cases c:i<l.length;rotate_left
 ·have c':¬ (i:Int)<s.n:=by omega
  obtain rfl:i=l.length:=by omega
  rw [Nat.sub_self,Ug] at hF;rw [hF] at G;simp [c'];exact G h3 _ x3 W9.ok
 have c':(i:Int)<s.n:=by omega
 have w1:=Zj (i:=i) (by omega);have q3:=q.ext' x3;have X:Q7 N l i≠0->Ug N l 0 l.length=Vr Zfn i (Q7 N l i):=fun hb=>by
  rw [hF,show l.length-i=(l.length-i-1)+1 by omega,Ug,if_pos hb]
 have J:Q7 N l i=0->Ug N l 0 l.length=Ug N l (i+1) (l.length-(i+1)):=fun hb=>by
  rw [hF,show l.length-i=(l.length-(i+1))+1 by omega,Ug,if_neg (by omega)]
 have O:((l.take i).any fun d=>Vh d (Yp l i))=Zev l i:=by
  rw [Xhz,Zfx,Xiy];constructor
  ·rintro ⟨d,hd,e⟩;obtain ⟨k,hk,rfl⟩:=(Zgd (by omega)).1 hd;exact ⟨k,hk,e⟩
  rintro ⟨k,hk,e⟩;exact ⟨_,(Zgd (by omega)).2 ⟨k,hk,rfl⟩,e⟩
 simp [c',Zm q3.ok,q3.val i c];refine Xh (vs:=#[.int .i64 (Yp l i).kd,.int .i64 (Yp l i).a,.int .i64 (Yp l i).i,.int .i64 (Yp l i).o,.int .i64 (Yp l i).w]) rfl rfl (by simp) ?_;intro C ap gC ab ac stC;simp;refine stC _ ?_;intro h4 C4 Z;clear stC ab ac;have z4:=Z.size;have x4:=x3.trans Z;simp [Yj C4];rw [show (Value.agg #[.int .i64 (Yp l i).kd,.int .i64 (Yp l i).a,.int .i64 (Yp l i).i,.int .i64 (Yp l i).o,.int .i64 (Yp l i).w])=Zqn (Yp l i) from rfl];have ad:=r1.ext (Mod.ext e2 (e3.trans (Z.mono fun _ _ h=>h.elim)) (fun j hj=>by omega));refine Zt9 D (g.ext x4) ad ?_;intro h5 e5;have z5:=e5.size;have x5:=x4.trans e5;have C5:=C4.ext e5;simp [Yj C5];refine Xh (vs:=#[.int .i64 (Yp l i).kd,.int .i64 (Yp l i).a,.int .i64 (Yp l i).i,.int .i64 (Yp l i).o,.int .i64 (Yp l i).w]) rfl rfl (by simp) ?_;intro K aq gK ae af stK;simp;refine stK _ ?_;intro h6 K6 e6;clear stK ae af;have z6:=e6.size;have x6:=x5.trans e6;simp;refine stB K6 (o:=4) (by simp) ?_;intro h7 K7 e7;simp at K7;have z7:=e7.size;have x7:Ext h h7:=Mod.ext x6 e7 (fun j hj=>by omega);have K7:Xb h7 K #[.int .i64 (Yp l i).kd,.int .i64 (Yp l i).a,.int .i64 (Yp l i).i,.int .i64 (Yp l i).o,.int .i64 0]:=K7;have ag:Mod (fun j=>j=M) h3 h7:=((((Z.trans e5).trans e6).then e7 (fun j hj hb=>by omega)).mono fun _ _ h=>h.elim)
 have m7:=m3.mod (((Z.trans e5).trans e6).then e7 (fun j hj hb=>by omega)) (fun h=>h);have ah:=e3.trans ag;have aa:∀ (x:Int),Q7 N l i=x->x≠0->∀ (r:Zk) (b:Nat),Ext h7 r->h7.size<=b->Xb r b #[.string Zfn,.int .i64 i,.iface (Y.tid 49) (.int .i64 x)]->R (.iface (Y.tid 50) (.pointer (some ⟨b,0,none⟩))) r:=fun x hx h0 r b U gb B8=>by
  have hf:=X (by rw [hx];exact h0);rw [hx] at hf;rw [hf] at G;have:=x7.size;exact G r _ (x7.trans U) (fun h' m=>Zfc (m.blk B8 (by omega)) h0)
 have H:∀ (g:Zk) (x:Int),Yo.sem Y g (.build #[.string ⟨#[]⟩,.int .i64 0,.nilIface] [(0,1),(1,1),(2,1)] [0,1,2]) [.string Zfn,.int .i64 i,.iface (Y.tid 49) (.int .i64 x)]=some (.agg #[.string Zfn,.int .i64 i,.iface (Y.tid 49) (.int .i64 x)]):=fun g x=>by simp [Yo.sem,Instr.fill]
 by_cases V:Ul N (Yp l i)=0;rotate_left
 ·have hb:Q7 N l i=Ul N (Yp l i):=by unfold Q7;rw [if_pos V]
  simp [V,H];refine Zn ?_;intro b r g8 B8 U;simp;exact aa _ hb V r b U g8 B8
 obtain ⟨v,hv⟩:=Z2l (Y:=Y) m7 (Yp l i);rw [O] at hv;simp only [Zgl] at hv
 cases ht:Zev l i with
 | true =>
  have hb:Q7 N l i=6:=by unfold Q7;simp [V,ht]
  rw [ht] at hv;simp [V,Yj K7,hv,H];refine Zn ?_;intro b r g8 B8 U;simp;exact aa _ hb (by decide) r b U g8 B8
 | false =>
  have hb:Q7 N l i=0:=by unfold Q7;simp [V,ht]
  rw [ht] at hv O;simp [V,Yj K7,hv];refine Zs1 m7 O ?_;intro r m8 U;simp [w1];refine ⟨⟨i+1,_,_,_,_,_,_,_,_,_,_,_,_,_,rfl,by omega,J hb,?_,ah.trans U⟩,by simp [Zy];omega⟩;have:l.take (i+1)=l.take i++[Yp l i]:=by rw [Xgc c];simp [Yp,c]
  rw [this];exact m8
end
end Go.Rm
