import Derived.Test.YtmpamfkkaakbfaaGreatDoorT23
import Derived.Test.YtmpamfkkaakbfaaGreatDoorT02
/- Parts RBatch1 RBatch2 -/
set_option linter.unusedSimpArgs false
set_option linter.unusedVariables false
namespace Go.Rm
abbrev Zev:ByteArray:=⟨#[99,104,97,110,103,101]⟩
abbrev Zjk:ByteArray:=⟨#[98,97,116,99,104]⟩
def Vb (N:Zg) (c:Ym):Bool:=decide (0<=c.a/\c.a<N.ts.length/\0<=c.i/\c.i<(Zp N.ts c.a.toNat).i/\0<=c.o/\c.o<(Zp N.ts c.a.toNat).o)
def Vs (N:Zg) (c:Ym):Int :=
 if c.kd=1 then (if c.i≠0\/c.o≠0 then 1 else if Zt N.as.length c.a=false then 5 else if Yi c.w=true then 0 else 8)
 else if c.kd=2 then (if Vb N c=false then 5 else if Yi c.w=true then 0 else 8)
 else 1
def Wo (c d:Ym):Bool:=decide (c.kd=d.kd/\c.a=d.a/\c.i=d.i/\c.o=d.o)
def Zd5 (l:List Ym) (i:Nat):Bool:=(List.range i).any fun k=>Wo (Yf l k) (Yf l i)
def W5 (N:Zg) (l:List Ym) (i:Nat):Int:=if Vs N (Yf l i)≠0 then Vs N (Yf l i) else if Zd5 l i=true then 6 else 0
def Vo (N:Zg) (l:List Ym):Nat->Nat->Wr
 | _,0=>Ur
 | k,m+1=>if W5 N l k≠0 then Wy Zev k (W5 N l k) else Vo N l (k+1) m
def Xw (N:Zg) (l:List Ym):Wr:=if 256<l.length then Wy Zjk 0 4 else Vo N l 0 l.length
theorem Ze4 {l:List Ym} {i:Nat}:Zd5 l i=true↔∃ k,k<i/\Wo (Yf l k) (Yf l i)=true:=by
 simp [Zd5,Xg6]
structure Z1m (Y:Sys):Prop where
 one:Y.Has 313 Y313
 Check:Y.Has 302 Y302
 There:Y.Has 130 Y130
 Weight:Y.Has 49 Y49
 At:Y.Has 50 Y50
section
variable {Y:Sys} {h h':Za}
theorem Z1w (D:Z1m Y) {sv sa U:Sl} {N:Zg} (r:Uo h sv sa U N) {c:Ym} {R:Value->Za->Prop} (G:∀ h',Ext h h'->R (.int .i64 (Vs N c)) h'):Zm Y 313 [Yo sv sa U,Zo0 c] h R:=by
 have la:=r.ra.len
 have lt:=r.rt.len
 refine .of_has D.one rfl ?_
 simp [Y313,Xa.wp,Yo]
 refine Zd ?_
 intro A hA gA V eA
 simp
 refine Zd ?_
 intro B hB gB I eB
 have x:=eA.trans eB
 have V:=V.ext eB
 obtain ⟨kd,a,i,o,w⟩:=c
 simp [Zo0] at I
 have I:Ys hB B #[.int .i64 kd,.int .i64 a,.int .i64 i,.int .i64 o,.int .i64 w]:=I
 simp [I.hc]
 by_cases c1:kd=1
 ·by_cases H:i=0
  ·by_cases c3:o=0
   ·simp [c1,H,c3,Zy V,I.hc]
    rw [show (Value.agg #[sv.v,sa.v,U.v])=Yo sv sa U from rfl]
    refine Zfw D.There la ?_
    intro h3 e3
    by_cases c4:Zt N.as.length a=true
    ·simp [c4,(I.ext e3).hc]
     refine Za2 D.Weight ?_
     have G:=G h3 (x.trans e3)
     simp only [Vs,c1,H,c3,c4] at G
     by_cases c5:Yi w=true
     ·simp [c5] at G ⊢
      exact G
     ·simp [c5] at G ⊢
      exact G
    ·have G:=G h3 (x.trans e3)
     simp [c4]
     simp [Vs,c1,H,c3,c4] at G
     exact G
   ·have G:=G hB x
    simp [Vs,c1,H,c3] at G
    simp [c1,H,c3]
    exact G
  ·have G:=G hB x
   simp [Vs,c1,H] at G
   simp [c1,H]
   exact G
 by_cases H:kd=2
 rotate_left
 ·have G:=G hB x
  simp [Vs,c1,H] at G
  simp [c1,H]
  exact G
 have J:Vb N ⟨kd,a,i,o,w⟩=false->R (.int .i64 5) hB:=fun hb=>by
  have G:=G hB x
  simp [Vs,c1,H,hb] at G
  simp [H] at hb
  simp [hb] at G
  exact G
 by_cases d1:a<0
 ·have X:¬ 0<=a:=by omega
  simp [c1,H,d1,X,I.hc]
  exact J (by simp [Vb]; omega)
 have X:0<=a:=by omega
 by_cases d2:(U.n:Int)<=a
 ·simp [X,c1,H,d1,d2,V.hc,I.hc]
  exact J (by simp [Vb]; omega)
 have ag:a<(U.n:Int):=by omega
 by_cases d3:i<0
 ·have M:¬ 0<=i:=by omega
  simp [X,ag,M,c1,H,d1,d2,V.hc,I.hc,d3]
  exact J (by simp [Vb]; omega)
 obtain ⟨t,rfl⟩:∃ t:Nat,a=t:=⟨a.toNat,by omega⟩
 have ah:t<N.ts.length:=by omega
 have Z:(t:Int)<U.n:=by omega
 have aa:t<U.n:=by omega
 have ab:¬ U.n<=t:=by omega
 obtain ⟨u,v0,v1,v2,_⟩:=(r.ext x).rt.val t ah
 obtain ⟨ti,O⟩:∃ z,(Zp N.ts t).i=z:=⟨_,rfl⟩
 obtain ⟨to,ad⟩:∃ z,(Zp N.ts t).o=z:=⟨_,rfl⟩
 rw [O] at v0
 rw [ad] at v1
 have M:0<=i:=by omega
 by_cases d4:ti<=i
 ·simp [M,c1,H,d1,d2,V.hc,I.hc,d3,Zb r.rt.ok,Z,aa,ab,v0,d4]
  exact J (by simp [Vb,O]; omega)
 have ae:i<ti:=by omega
 by_cases d5:o<0
 ·have ac:¬ 0<=o:=by omega
  simp [M,ae,ac,c1,H,d1,d2,V.hc,I.hc,d3,Zb r.rt.ok,Z,aa,ab,v0,d4,d5]
  exact J (by simp [Vb,O]; omega)
 have ac:0<=o:=by omega
 by_cases d6:to<=o
 ·simp [M,ae,ac,c1,H,d1,d2,V.hc,I.hc,d3,Zb r.rt.ok,Z,aa,ab,v0,v1,d4,d5,d6]
  exact J (by simp [Vb,O,ad]; omega)
 have af:Vb N ⟨2,t,i,o,w⟩=true:=by simp [Vb,O,ad]; omega
 have G:=G hB x
 simp only [Vs,H,af] at G
 have ai:o<to:=by omega
 simp [M,ae,ac,ai,c1,H,d1,d2,V.hc,I.hc,d3,Zb r.rt.ok,Z,aa,ab,v0,v1,d4,d5,d6]
 refine Za2 D.Weight ?_
 by_cases c5:Yi w=true
 ·simp [c5] at G ⊢
  exact G
 ·simp [c5] at G ⊢
  exact G
theorem Zbt.ext' {s:Sl} {l:List Ym} (r:Zbt h s l) (e:Ext h h'):Zbt h' s l:=⟨r.ok,r.len,fun i D=>e.rd (r.val i D) (fun h=>h)⟩
theorem Zbt.cell {s:Sl} {l:List Ym} (r:Zbt h s l) {i:Nat} (D:i<l.length) :
  hc h s.b (s.o+i * 5)=some (.int .i64 (Yf l i).kd)/\hc h s.b (s.o+i * 5+1)=some (.int .i64 (Yf l i).a)/\hc h s.b (s.o+i * 5+2)=some (.int .i64 (Yf l i).i)/\hc h s.b (s.o+i * 5+3)=some (.int .i64 (Yf l i).o)/\hc h s.b (s.o+i * 5+4)=some (.int .i64 (Yf l i).w):=by
 have:=(Zs5 (r.val i D)).2
 exact ⟨this 0 _ rfl,this 1 _ rfl,this 2 _ rfl,this 3 _ rfl,this 4 _ rfl⟩
def Xcj (A W:Nat) (v0:Value) (s:Sl) (N:Zg) (l:List Ym) (h0:Za) (e:List Value) (h':Za):Prop :=
 ∃ (i:Nat) (v5 v6 v7 v8 v9 v10 v11:Value),e=[v0,s.v,.pointer (some ⟨A,0,none⟩),.pointer (some ⟨W,0,none⟩),.int .i64 i,v5,v6,v7,v8,v9,v10,v11]/\i<=l.length/\Vo N l 0 l.length=Vo N l i (l.length-i)/\Ext h0 h'
def Xcu (A W i:Nat) (v0:Value) (s:Sl) (l:List Ym) (h0:Za) (e:List Value) (h':Za):Prop :=
 ∃ (j:Nat) (v5 v7 v8 v9 v10 v11:Value),e=[v0,s.v,.pointer (some ⟨A,0,none⟩),.pointer (some ⟨W,0,none⟩),.int .i64 i,v5,.int .i64 j,v7,v8,v9,v10,v11]/\j<=i/\(∀ k,k<j->Wo (Yf l k) (Yf l i)=false)/\h'=h0
set_option maxHeartbeats 1000000 in
theorem Zil (D:Z1m Y) {sv sa st s:Sl} {N:Zg} {l:List Ym} (r:Uo h sv sa st N) (q:Zbt h s l) {R:Value->Za->Prop}
  (hr:∀ h' v,Ext h h'->FWr h.size h' (Xw N l) v->R v h'):Zm Y 302 [Yo sv sa st,s.v] h R:=by
 have ll:=q.len
 refine .of_has D.Check rfl ?_
 simp [Y302,Xa.wp,Yo]
 refine Zd ?_
 intro A h1 g1 A1 e1
 simp
 refine Zd ?_
 intro W h2 g2 W2 e2
 have aa:=e1.trans e2
 have z1:=e1.size
 have z2:=e2.size
 have lW:=W2.lt
 have G:∀ {U h4:Za} {v:Value},Ext h2 U->FWr h2.size U (Xw N l) v->Mod (fun j=>j=W) U h4->R v h4:=by
  intro U h4 v e3 fw m4
  exact hr h4 v (Mod.ext (aa.trans e3) m4 (fun j hj=>by omega)) ((fw.step m4 (fun j hj=>by omega)).mono (by omega))
 by_cases c1:256<s.n
 ·have V:(256:Int)<s.n:=by omega
  have hp:Xw N l=Wy Zjk 0 4:=by unfold Xw; rw [if_pos (by omega)]
  rw [hp] at G
  simp [c1,V]
  refine W1 D.At ?_
  intro U v e3 hv
  obtain ⟨s5,rfl⟩:=hv.here.shape
  simp
  refine Zi (W2.ext e3) rfl rfl (by simp) ?_
  intro h4 W4 m4
  simp
  exact Yt rfl W4 rfl (G e3 hv m4)
 have V:¬ (256:Int)<s.n:=by omega
 have hp:Xw N l=Vo N l 0 l.length:=by unfold Xw; rw [if_neg (by omega)]
 rw [hp] at G
 simp [c1,V]
 refine Zj (Xcj A W (.agg #[sv.v,sa.v,st.v]) s N l h2) (fun e _=>l.length-Zo e 4) ⟨0,_,_,_,_,_,_,_,rfl,by omega,rfl,Mod.refl _⟩ ?_
 rintro e U ⟨i,v5,v6,v7,v8,v9,ab,ac,rfl,hi,hF,e3⟩
 have W3:=W2.ext e3
 by_cases c:i<l.length
 rotate_left
 ·have c':¬ (i:Int)<s.n:=by omega
  obtain rfl:i=l.length:=by omega
  rw [Nat.sub_self,Vo] at hF
  rw [hF] at G
  have hb:Yg.sem Y U (.build #[.slice none 0 0,.int .i64 0] [(0,1),(1,1)] []) []=some (.agg #[.slice none 0 0,.int .i64 0]):=by simp [Yg.sem,Instr.fill]
  simp [c',hb]
  refine Zi W3 rfl rfl (by simp) ?_
  intro h4 W4 m4
  simp
  exact Yt rfl W4 rfl (G e3 FWr.ok m4)
 have c':(i:Int)<s.n:=by omega
 have ad:i<s.n:=by omega
 have w1:IntKind.i64.wrap ((i:Int)+1)=(i:Int)+1:=Ze (by omega)
 have x3:=aa.trans e3
 have q3:=q.ext' x3
 have M:W5 N l i≠0->Vo N l 0 l.length=Wy Zev i (W5 N l i):=fun hb=>by
  rw [hF,show l.length-i=(l.length-i-1)+1 by omega,Vo,if_pos hb]
 have X:W5 N l i=0->Vo N l 0 l.length=Vo N l (i+1) (l.length-(i+1)):=fun hb=>by
  rw [hF,show l.length-i=(l.length-(i+1))+1 by omega,Vo,if_neg (by omega)]
 simp [c',ad,Zy ((A1.ext e2).ext e3),Zb q3.ok,q3.val i c]
 rw [show (Value.agg #[sv.v,sa.v,st.v])=Yo sv sa st from rfl,show (Value.agg #[.int .i64 (Yf l i).kd,.int .i64 (Yf l i).a,.int .i64 (Yf l i).i,.int .i64 (Yf l i).o,.int .i64 (Yf l i).w])=Zo0 (Yf l i) from rfl]
 refine Z1w D (r.ext x3) ?_
 intro h4 e4
 have I:=e3.trans e4
 by_cases c2:Vs N (Yf l i)=0
 rotate_left
 ·have hb:W5 N l i=Vs N (Yf l i):=by unfold W5; rw [if_pos c2]
  have hf:=M (by rw [hb]; exact c2)
  rw [hb] at hf
  rw [hf] at G
  simp [c2]
  refine W1 D.At ?_
  intro h5 v e5 hv
  obtain ⟨s5,rfl⟩:=hv.here.shape
  simp
  have z3:=I.size
  refine Zi ((W3.ext e4).ext e5) rfl rfl (by simp) ?_
  intro h6 W6 m6
  simp
  exact Yt rfl W6 rfl (G (I.trans e5) (hv.mono (by omega)) m6)
 simp [c2]
 refine Zj (Xcu A W i (Yo sv sa st) s l h4) (fun e _=>i-Zo e 6) ⟨0,_,_,_,_,_,_,rfl,by omega,fun k hk=>by omega,rfl⟩ ?_
 rintro e h5 ⟨j,v5,v7,v8,v9,ab,ac,rfl,hj,O,rfl⟩
 have Z:=q3.ext' e4
 by_cases k:j<i
 rotate_left
 ·have k':¬ (j:Int)<i:=by omega
  obtain rfl:j=i:=by omega
  have ht:Zd5 l j=false:=by
   cases ht:Zd5 l j with
   | false=>rfl
   | true =>
    obtain ⟨k,hk,e⟩:=Ze4.1 ht
    rw [O k hk] at e
    cases e
  have hb:W5 N l j=0:=by unfold W5; simp [c2,ht]
  simp [w1]
  exact ⟨⟨j+1,_,_,_,_,_,_,_,rfl,by omega,X hb,I⟩,by simp [Zo]; omega⟩
 have k':(j:Int)<i:=by omega
 have kj:j<l.length:=by omega
 have J:(j:Int)<s.n:=by omega
 have wj:IntKind.i64.wrap ((j:Int)+1)=(j:Int)+1:=Ze (by omega)
 obtain ⟨a0,a1,a2,a3,_⟩:=Z.cell c
 obtain ⟨b0,b1,b2,b3,_⟩:=Z.cell kj
 cases ks:Wo (Yf l j) (Yf l i) with
 | true =>
  have ht:Zd5 l i=true:=Ze4.2 ⟨j,k,ks⟩
  have hb:W5 N l i=6:=by unfold W5; simp [c2,ht]
  have hf:=M (by rw [hb]; decide)
  rw [hb] at hf
  rw [hf] at G
  simp only [Wo,decide_eq_true_eq] at ks
  obtain ⟨s1,s2,s3,s4⟩:=ks
  rw [s1] at b0
  rw [s2] at b1
  rw [s3] at b2
  rw [s4] at b3
  simp [k,k',c',J,Zb Z.ok,a0,a1,a2,a3,b0,b1,b2,b3]
  refine W1 D.At ?_
  intro h6 v e6 hv
  obtain ⟨s5,rfl⟩:=hv.here.shape
  simp
  have z3:=I.size
  refine Zi ((W3.ext e4).ext e6) rfl rfl (by simp) ?_
  intro h7 W7 m7
  simp
  exact Yt rfl W7 rfl (G (I.trans e6) (hv.mono (by omega)) m7)
 | false =>
  have H:∀ k,k<j+1->Wo (Yf l k) (Yf l i)=false:=fun z hz=>by
   rcases Nat.lt_succ_iff_lt_or_eq.1 hz with g | rfl
   ·exact O z g
   ·exact ks
  simp only [Wo,decide_eq_false_iff_not] at ks
  by_cases s1:(Yf l j).kd=(Yf l i).kd
  ·by_cases s2:(Yf l j).a=(Yf l i).a
   ·by_cases s3:(Yf l j).i=(Yf l i).i
    ·have s4:¬ (Yf l j).o=(Yf l i).o:=fun s4=>ks ⟨s1,s2,s3,s4⟩
     simp [k,k',c',J,Zb Z.ok,a0,a1,a2,a3,b0,b1,b2,b3,eq_true s1,eq_true s2,eq_true s3,s4,wj]
     exact ⟨⟨j+1,_,_,_,_,_,_,rfl,by omega,H,rfl⟩,by simp [Zo]; omega⟩
    ·simp [k,k',c',J,Zb Z.ok,a0,a1,a2,a3,b0,b1,b2,b3,eq_true s1,eq_true s2,s3,wj]
     exact ⟨⟨j+1,_,_,_,_,_,_,rfl,by omega,H,rfl⟩,by simp [Zo]; omega⟩
   ·simp [k,k',c',J,Zb Z.ok,a0,a1,a2,a3,b0,b1,b2,b3,eq_true s1,s2,wj]
    exact ⟨⟨j+1,_,_,_,_,_,_,rfl,by omega,H,rfl⟩,by simp [Zo]; omega⟩
  ·simp [k,k',c',J,Zb Z.ok,a0,a1,a2,a3,b0,b1,b2,b3,s1,wj]
   exact ⟨⟨j+1,_,_,_,_,_,_,rfl,by omega,H,rfl⟩,by simp [Zo]; omega⟩
end
def Zfn (c:Ym):Value:=.agg #[.int .i64 c.kd,.int .i64 c.a,.int .i64 c.i,.int .i64 c.o,.int .i64 0]
def Zg7 (h:Za) (M:Nat) (l:List Ym):Prop:=∃ es clock,h[M]? = some (.map es clock)/\es.toList.map (fun e=>e.key)=l.map Zfn
theorem Zxq {c d:Ym}:Zbk (some 5) (Zfn c) (Zfn d)=some (Wo d c):=by
 obtain ⟨r,D,G,H,I⟩:=c
 obtain ⟨J,M,O,R,U⟩:=d
 simp [Zfn,Zbk,Qf,Wo]
 rw [Xf5]
 simp
 omega
theorem Zl7 {c:Ym}:Zab (some 5) (Zfn c)=true:=by simp [Zfn,Zab,Znp]
theorem Zjn {c:Ym}:∀ {r:List MapEntry} {L:List Ym} {n:Nat},r.map (fun e=>e.key)=L.map Zfn ->
  (∃ j v,Vm (some 5) (Zfn c) r n=some (some (j,v))/\∃ d,d∈L/\Wo d c=true)\/(Vm (some 5) (Zfn c) r n=some none/\∀ d,d∈L->Wo d c=false):=by
 intro r
 induction r with
 | nil =>
  intro L n h
  have:L=[]:=by simpa using h.symm
  subst this
  exact .inr ⟨rfl,fun d hd=>by cases hd⟩
 | cons e r J =>
  intro L n h
  cases L with
  | nil=>simp at h
  | cons d L =>
   simp only [Xfi,Xgs] at h
   obtain ⟨h1,M⟩:=h
   unfold Vm
   rw [h1,Zxq]
   cases I:Wo d c with
   | true=>exact .inl ⟨n,e.val,rfl,d,by simp,I⟩
   | false =>
    rcases J (n:=n+1) M with ⟨j,v,f,G,hd,H⟩ | ⟨f,D⟩
    ·exact .inl ⟨j,v,f,G,by simp [hd],H⟩
    ·refine .inr ⟨f,fun G hd=>?_⟩
     rcases List.mem_cons.1 hd with rfl | hd
     ·exact I
     ·exact D G hd
theorem Zfj {l:List Ym} {i:Nat} {d:Ym} (D:i<=l.length):d∈l.take i↔∃ k,k<i/\d=Yf l k:=by
 constructor
 ·intro h
  obtain ⟨k,r,e⟩:=List.mem_iff_getElem.1 h
  simp at r
  refine ⟨k,by omega,?_⟩
  rw [<-e,List.getElem_take]
  simp [Yf,show k<l.length by omega]
 ·rintro ⟨k,r,rfl⟩
  have:k<l.length:=by omega
  rw [show Yf l k=l[k] by simp [Yf,this]]
  exact List.mem_take_iff_getElem.2 ⟨k,by omega,rfl⟩
theorem Zu2 {L:List Ym} {M:Nat} {h:Za} (m:Zg7 h M L):M<h.size:=by
 obtain ⟨D,r,hb,_⟩:=m
 exact (Array.getElem?_eq_some_iff.1 hb).1
theorem Zg7.mod {S:Nat->Prop} {h h':Za} {L:List Ym} {M:Nat} (a:Zg7 h M L) (m:Mod S h h') (hs:¬ S M):Zg7 h' M L:=by
 have:=Zu2 a
 obtain ⟨D,r,hb,G⟩:=a
 exact ⟨D,r,by rw [m.get M this hs]; exact hb,G⟩
section
variable {Y:Sys} {h h':Za}
theorem Z0v {L:List Ym} {M:Nat} (a:Zg7 h M L) (c:Ym):∃ v,Yg.sem Y h (.lookup (some 5) true (.int .i64 0)) [.map (some M),Zfn c]=some (.tuple #[v,.bool (L.any fun d=>Wo d c)]):=by
 obtain ⟨G,D,hb,H⟩:=a
 have I:Xz h (some M)=some G.toList:=by simp [Xz,hb]
 show ∃ v,Zdm h (some 5) true (.int .i64 0) (some M) (Zfn c)=_
 unfold Zdm
 rw [if_pos Zl7,I]
 rcases Zjn (c:=c) (n:=0) H with ⟨j,v,f,d,hd,hs⟩ | ⟨f,r⟩
 ·have:(L.any fun d=>Wo d c)=true:=List.any_eq_true.2 ⟨d,hd,hs⟩
  simp [f,this]
 ·have:(L.any fun d=>Wo d c)=false:=by
   rw [Xhh]
   intro d hd
   simp [r d hd]
  simp [f,this]
theorem Zrh {K:Value->Za->Prop} {L:List Ym} {M:Nat} {c:Ym} {x:Value} (a:Zg7 h M L) (G:(L.any fun d=>Wo d c)=false) (J:∀ h',Zg7 h' M (L++[c])->Mod (fun j=>j=M) h h'->K undef h') :
  Ef.wp h K (.mupd (some 5)) [.map (some M),Zfn c,x]:=by
 have O:=Zu2 a
 obtain ⟨H,r,hb,D⟩:=a
 have hf:Vm (some 5) (Zfn c) H.toList 0=some none:=by
  rcases Zjn (c:=c) (n:=0) D with ⟨j,v,f,d,hd,hs⟩ | ⟨f,I⟩
  ·rw [Xhh] at G
   exact absurd hs (G d hd)
  ·exact f
 simp only [Ef.wp,hb,Zl7,hf,true_and]
 refine J _ ⟨H.push ⟨Zfn c,x,r⟩,r+1,by simp [O],?_⟩ ⟨by simp,fun b R hs=>?_⟩
 ·simp [D]
 ·simp [Ne.symm hs]
theorem Z1r {K:Value->Za->Prop} {k:IntKind} {n:Int} (r:∀ M h',h.size<=M->Zg7 h' M []->Ext h h'->K (.map (some M)) h'):Ef.wp h K .mkmap [.int k n]:=by
 show K _ _
 exact r _ _ (Xd6 _) ⟨#[],0,by simp,rfl⟩ Mod.push
structure Zis (Y:Sys):Prop where
 Check:Y.Has 303 Y303
 lookAt:Y.Has 314 Y314
 isTurn:Y.Has 322 Y322
 Weight:Y.Has 55 Y55
 Arcs:Y.Has 209 Y209
 Net:Y.Has 236 Y236
 Cl:Z4p Y
theorem Zqc (D:Zis Y) {J:Sl} {N:Zg} (r:Zj6 h J N.ts) {c:Ym} {R:Value->Za->Prop} (G:∀ h',Ext h h'->R (.bool (Vb N c)) h'):Zm Y 322 [J.v,Zo0 c] h R:=by
 have lt:=r.len
 refine .of_has D.isTurn rfl ?_
 obtain ⟨kd,a,i,o,w⟩:=c
 simp [Y322,Xa.wp,Zo0]
 refine Zd ?_
 intro B hB gB M eB
 have M:Ys hB B #[.int .i64 kd,.int .i64 a,.int .i64 i,.int .i64 o,.int .i64 w]:=M
 by_cases d1:a<0
 ·have H:¬ 0<=a:=by omega
  have G:=G hB eB
  simp [Vb,H] at G
  simp [d1,H,M.hc]
  exact G
 have H:0<=a:=by omega
 by_cases d2:(J.n:Int)<=a
 ·have G:=G hB eB
  have U:¬ a<N.ts.length:=by omega
  simp [Vb,H,U] at G
  simp [d1,H,d2,M.hc]
  exact G
 have U:a<(J.n:Int):=by omega
 obtain ⟨t,rfl⟩:∃ t:Nat,a=t:=⟨a.toNat,by omega⟩
 have aa:t<N.ts.length:=by omega
 have ab:(t:Int)<J.n:=by omega
 have ac:t<J.n:=by omega
 have ad:¬ J.n<=t:=by omega
 obtain ⟨u,V,_,_⟩:=(r.ext eB).rd aa
 obtain ⟨ti,X⟩:∃ z,(Zp N.ts t).i=z:=⟨_,rfl⟩
 obtain ⟨to,Z⟩:∃ z,(Zp N.ts t).o=z:=⟨_,rfl⟩
 rw [X,Z] at V
 simp [d1,H,d2,M.hc,Zb r.ok,ab,ac,ad,V]
 refine Yr (vs:=#[.int .i64 ti,.int .i64 to,u.v]) rfl rfl (by simp) ?_
 intro C ag gC ae af stC
 simp
 refine stC _ ?_
 intro hC bC eC
 clear stC ae af
 have B2:=M.ext eC
 have G:=G hC (eB.trans eC)
 have e:Vb N ⟨kd,t,i,o,w⟩=decide (0<=i/\i<ti/\0<=o/\o<to):=by
  simp only [Vb]
  apply decide_eq_decide.2
  simp only [Xd9,X,Z]
  omega
 rw [e] at G
 by_cases k1:0<=i
 ·by_cases I:i<ti
  ·by_cases O:0<=o
   ·by_cases k4:o<to
    ·simp [k1,I,O,k4] at G
     simp [B2.hc,bC.hc,k1,I,O,k4]
     exact G
    ·simp [k1,I,O,k4] at G
     simp [B2.hc,bC.hc,k1,I,O,k4]
     exact G
   ·simp [k1,I,O] at G
    simp [B2.hc,bC.hc,k1,I,O]
    exact G
  ·simp [k1,I] at G
   simp [B2.hc,bC.hc,k1,I]
   exact G
 ·simp [k1] at G
  simp [B2.hc,bC.hc,k1]
  exact G
theorem Zsm (D:Zis Y) {p:Nat} {N:Zg} {S:Nat->Prop} (g:Yv h p N S) {st:Sl} (r:Zj6 h st N.ts) {c:Ym} {R:Value->Za->Prop} (G:∀ h',Ext h h'->R (.int .i64 (Vs N c)) h') :
  Zm Y 314 [.pointer (some ⟨p,0,none⟩),st.v,Zo0 c] h R:=by
 refine .of_has D.lookAt rfl ?_
 obtain ⟨Z,a,i,o,w⟩:=c
 simp [Y314,Xa.wp,Zo0]
 refine Zd ?_
 intro B O gB J M
 have J:Ys O B #[.int .i64 Z,.int .i64 a,.int .i64 i,.int .i64 o,.int .i64 w]:=J
 have g1:=g.ext M
 simp [J.hc]
 by_cases c1:Z=1
 ·by_cases H:i=0
  ·by_cases I:o=0
   ·by_cases X:a<0
    ·have G:=G O M
     have aa:Zt N.as.length a=false:=by simp [Zt]; omega
     simp [Vs,c1,H,I,aa] at G
     simp [c1,H,I,J.hc,X]
     exact G
    simp [c1,H,I,J.hc,X]
    refine Zbp D.Arcs g1 ?_
    by_cases c5:(N.as.length:Int)<=a
    ·have G:=G O M
     have U:Zt N.as.length a=false:=by simp [Zt]; omega
     simp [Vs,c1,H,I,U] at G
     simp [c1,H,I,J.hc,X,c5]
     exact G
    have U:Zt N.as.length a=true:=by simp [Zt]; omega
    have G:=G O M
    simp only [Vs,c1,H,I,U] at G
    simp [c1,H,I,J.hc,X,c5]
    refine X9 D.Weight ?_
    by_cases V:Yi w=true
    ·simp [V] at G ⊢
     exact G
    ·simp [V] at G ⊢
     exact G
   ·have G:=G O M
    simp [Vs,c1,H,I] at G
    simp [c1,H,I,J.hc]
    exact G
  ·have G:=G O M
   simp [Vs,c1,H] at G
   simp [c1,H,J.hc]
   exact G
 by_cases H:Z=2
 rotate_left
 ·have G:=G O M
  simp [Vs,c1,H] at G
  simp [c1,H]
  exact G
 simp [c1,H,J.hc,Zy J]
 rw [show (Value.agg #[.int .i64 2,.int .i64 a,.int .i64 i,.int .i64 o,.int .i64 w])=Zo0 ⟨2,a,i,o,w⟩ from rfl]
 refine Zqc D (r.ext M) ?_
 intro h3 e3
 have B3:=J.ext e3
 have G:=G h3 (M.trans e3)
 by_cases I:Vb N ⟨2,a,i,o,w⟩=true
 rotate_left
 ·simp [Vs,c1,H,I] at G
  simp [I]
  exact G
 simp [I,B3.hc]
 refine X9 D.Weight ?_
 simp only [Vs,c1,H,I] at G
 by_cases V:Yi w=true
 ·simp [V] at G ⊢
  exact G
 ·simp [V] at G ⊢
  exact G
def Xcv (p M lo:Nat) (s st:Sl) (N:Zg) (l:List Ym) (h0:Za) (e:List Value) (h':Za):Prop :=
 ∃ (i:Nat) (v2 v5 v6 v7 v8 v9 v10 v11 v12 v16 v17 v18 v19:Value),e=[.pointer (some ⟨p,0,none⟩),s.v,v2,st.v,.map (some M),v5,v6,v7,v8,v9,v10,v11,v12,s.v,.int .i64 s.n,.int .i64 i,v16,v17,v18,v19]/\i<=l.length/\Vo N l 0 l.length=Vo N l i (l.length-i)/\Zg7 h' M (l.take i)/\Mod (fun j=>j=M) h0 h'
set_option maxHeartbeats 1000000 in
theorem Zh9 (D:Zis Y) {p:Nat} {N:Zg} {S:Nat->Prop} (g:Yv h p N S) (ok:Yd N) {s:Sl} {l:List Ym} (q:Zbt h s l) {R:Value->Za->Prop}
  (G:∀ h' v,Ext h h'->Z6 Y h.size h' (Xw N l) v->R v h'):Zm Y 303 [.pointer (some ⟨p,0,none⟩),s.v] h R:=by
 have ll:=q.len
 refine .of_has D.Check rfl ?_
 simp [Y303,Xa.wp]
 by_cases c1:256<s.n
 ·have H:(256:Int)<s.n:=by omega
  have hp:Xw N l=Wy Zjk 0 4:=by unfold Xw; rw [if_pos (by omega)]
  rw [hp] at G
  have hb:Yg.sem Y h (.build #[.string ⟨#[]⟩,.int .i64 0,.nilIface] [(0,1),(1,1),(2,1)] [0,1,2]) [.string Zjk,.int .i64 0,.iface (Y.tid 49) (.int .i64 4)]=some (.agg #[.string Zjk,.int .i64 0,.iface (Y.tid 49) (.int .i64 4)]):=by simp [Yg.sem,Instr.fill]
  simp [c1,H,hb]
  refine Zd ?_
  intro b h2 g2 B2 e2
  simp
  exact G h2 _ e2 (fun h' m=>Zek (m.blk B2 (by omega)) (by decide))
 have H:¬ (256:Int)<s.n:=by omega
 by_cases c2:s.n=0
 ·have hp:Xw N l=Ur:=by
   unfold Xw
   rw [if_neg (by omega),show l.length=0 by omega]
   rfl
  rw [hp] at G
  simp [c1,H,c2]
  exact G h _ (Mod.refl _) Z6.ok
 have hp:Xw N l=Vo N l 0 l.length:=by unfold Xw; rw [if_neg (by omega)]
 rw [hp] at G
 simp [c1,H,c2]
 refine Zly D.Net D.Cl g ok.small ?_
 intro h1 s1 s2 s3 e1 r1
 have r1:=(r1 h1 (Mod.refl _)).rt
 have hf:∀ g,Yg.sem Y g (.fld 2 1 false) [Yo s1 s2 s3]=some s3.v:=fun g=>by simp [Yo]
 simp [hf]
 refine Z1r ?_
 intro M h2 gM m2 e2
 have z1:=e1.size
 have z2:=e2.size
 have lM:=Zu2 m2
 have x2:=e1.trans e2
 simp
 refine Zj (Xcv p M h2.size s s3 N l h2) (fun e _=>l.length-Zo e 15) ⟨0,_,_,_,_,_,_,_,_,_,_,_,_,_,rfl,by omega,rfl,m2,Mod.refl _⟩ ?_
 clear m2
 rintro e h3 ⟨i,v2,v5,v6,v7,v8,v9,aj,ak,al,am,an,ao,ap,rfl,hi,hF,m3,e3⟩
 have x3:Ext h h3:=Mod.ext x2 e3 (fun j hj=>by omega)
 have z3:=e3.size
 by_cases c:i<l.length
 rotate_left
 ·have c':¬ (i:Int)<s.n:=by omega
  obtain rfl:i=l.length:=by omega
  rw [Nat.sub_self,Vo] at hF
  rw [hF] at G
  simp [c']
  exact G h3 _ x3 Z6.ok
 have c':(i:Int)<s.n:=by omega
 have ab:i<s.n:=by omega
 have w1:IntKind.i64.wrap ((i:Int)+1)=(i:Int)+1:=Ze (by omega)
 have q3:=q.ext' x3
 have X:W5 N l i≠0->Vo N l 0 l.length=Wy Zev i (W5 N l i):=fun hb=>by
  rw [hF,show l.length-i=(l.length-i-1)+1 by omega,Vo,if_pos hb]
 have J:W5 N l i=0->Vo N l 0 l.length=Vo N l (i+1) (l.length-(i+1)):=fun hb=>by
  rw [hF,show l.length-i=(l.length-(i+1))+1 by omega,Vo,if_neg (by omega)]
 have O:((l.take i).any fun d=>Wo d (Yf l i))=Zd5 l i:=by
  rw [Xf5,Ze4,Xg6]
  constructor
  ·rintro ⟨d,hd,e⟩
   obtain ⟨k,hk,rfl⟩:=(Zfj (by omega)).1 hd
   exact ⟨k,hk,e⟩
  ·rintro ⟨k,hk,e⟩
   exact ⟨_,(Zfj (by omega)).2 ⟨k,hk,rfl⟩,e⟩
 simp [c',ab,Zb q3.ok,q3.val i c]
 refine Yr (vs:=#[.int .i64 (Yf l i).kd,.int .i64 (Yf l i).a,.int .i64 (Yf l i).i,.int .i64 (Yf l i).o,.int .i64 (Yf l i).w]) rfl rfl (by simp) ?_
 intro C aq gC ac ad stC
 simp
 refine stC _ ?_
 intro h4 C4 Z
 clear stC ac ad
 have z4:=Z.size
 have x4:=x3.trans Z
 simp [Zy C4]
 rw [show (Value.agg #[.int .i64 (Yf l i).kd,.int .i64 (Yf l i).a,.int .i64 (Yf l i).i,.int .i64 (Yf l i).o,.int .i64 (Yf l i).w])=Zo0 (Yf l i) from rfl]
 have ae:=r1.ext (Mod.ext e2 (e3.trans (Z.mono fun _ _ h=>h.elim)) (fun j hj=>by omega))
 refine Zsm D (g.ext x4) ae ?_
 intro h5 e5
 have z5:=e5.size
 have x5:=x4.trans e5
 have C5:=C4.ext e5
 simp [Zy C5]
 refine Yr (vs:=#[.int .i64 (Yf l i).kd,.int .i64 (Yf l i).a,.int .i64 (Yf l i).i,.int .i64 (Yf l i).o,.int .i64 (Yf l i).w]) rfl rfl (by simp) ?_
 intro K ar gK af ag stK
 simp
 refine stK _ ?_
 intro h6 K6 e6
 clear stK af ag
 have z6:=e6.size
 have x6:=x5.trans e6
 simp
 refine stB K6 (o:=4) (by simp) ?_
 intro h7 K7 e7
 simp at K7
 have z7:=e7.size
 have x7:Ext h h7:=Mod.ext x6 e7 (fun j hj=>by omega)
 have K7:Ys h7 K #[.int .i64 (Yf l i).kd,.int .i64 (Yf l i).a,.int .i64 (Yf l i).i,.int .i64 (Yf l i).o,.int .i64 0]:=K7
 have ah:Mod (fun j=>j=M) h3 h7:=((((Z.trans e5).trans e6).then e7 (fun j hj hb=>by omega)).mono fun _ _ h=>h.elim)
 have m7:=m3.mod (((Z.trans e5).trans e6).then e7 (fun j hj hb=>by omega)) (fun h=>h)
 have ai:=e3.trans ah
 have aa:∀ (x:Int),W5 N l i=x->x≠0->∀ (r:Za) (b:Nat),Ext h7 r->h7.size<=b->Ys r b #[.string Zev,.int .i64 i,.iface (Y.tid 49) (.int .i64 x)]->R (.iface (Y.tid 50) (.pointer (some ⟨b,0,none⟩))) r:=fun x hx h0 r b U gb B8=>by
  have hf:=X (by rw [hx]; exact h0)
  rw [hx] at hf
  rw [hf] at G
  have:=x7.size
  exact G r _ (x7.trans U) (fun h' m=>Zek (m.blk B8 (by omega)) h0)
 have I:∀ (g:Za) (x:Int),Yg.sem Y g (.build #[.string ⟨#[]⟩,.int .i64 0,.nilIface] [(0,1),(1,1),(2,1)] [0,1,2]) [.string Zev,.int .i64 i,.iface (Y.tid 49) (.int .i64 x)]=some (.agg #[.string Zev,.int .i64 i,.iface (Y.tid 49) (.int .i64 x)]):=fun g x=>by simp [Yg.sem,Instr.fill]
 by_cases V:Vs N (Yf l i)=0
 rotate_left
 ·have hb:W5 N l i=Vs N (Yf l i):=by unfold W5; rw [if_pos V]
  simp [V,I]
  refine Zd ?_
  intro b r g8 B8 U
  simp
  exact aa _ hb V r b U g8 B8
 obtain ⟨v,hv⟩:=Z0v (Y:=Y) m7 (Yf l i)
 rw [O] at hv
 simp only [Zfn] at hv
 cases ht:Zd5 l i with
 | true =>
  have hb:W5 N l i=6:=by unfold W5; simp [V,ht]
  rw [ht] at hv
  simp [V,Zy K7,hv,I]
  refine Zd ?_
  intro b r g8 B8 U
  simp
  exact aa _ hb (by decide) r b U g8 B8
 | false =>
  have hb:W5 N l i=0:=by unfold W5; simp [V,ht]
  rw [ht] at hv O
  simp [V,Zy K7,hv]
  refine Zrh m7 O ?_
  intro r m8 U
  simp [w1]
  refine ⟨⟨i+1,_,_,_,_,_,_,_,_,_,_,_,_,_,rfl,by omega,J hb,?_,ai.trans U⟩,by simp [Zo]; omega⟩
  have:l.take (i+1)=l.take i++[Yf l i]:=by rw [Xel c]; simp [Yf,c]
  rw [this]
  exact m8
end
end Go.Rm
