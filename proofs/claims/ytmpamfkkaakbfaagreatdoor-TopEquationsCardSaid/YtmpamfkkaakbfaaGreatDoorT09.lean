import Derived.Test.YtmpamfkkaakbfaaGreatDoorT08
import Derived.Test.YtmpamfkkaakbfaaGreatDoorT05
import Derived.Test.YtmpamfkkaakbfaaGreatDoorT02
/- Parts RTurn RTurn2 RTurn3 -/
set_option linter.unusedSimpArgs false
set_option linter.unusedVariables false
namespace Go.Rm
def Yi (a:Int):Bool:=decide (0<=a/\a<=2147483648) || decide (a=1152921504606846976)
abbrev Z6w:ByteArray:=⟨#[116,117,114,110]⟩
abbrev Wr:=List (ByteArray × Int) × Int
def Ur:Wr:=([],0)
def Xu (at' e:Int):Wr:=([(Z6w,at')],e)
def Wh:Nat->List Int->Option Nat
 | _,[]=>none
 | i,c::r=>if Yi c then Wh (i+1) r else some i
def Xy (ins outs:Int):Wr:=if ins<0\/16<ins then Xu 0 1 else if outs<0\/16<outs then Xu 1 1 else Ur
def Uc (ins outs:Int) (cs:List Int):Wr :=
 if (Xy ins outs).2≠0 then Xy ins outs
 else if (cs.length:Int)≠ins * outs then Xu 2 9
 else match Wh 0 cs with
  | some i=>Xu (3+i) 8
  | none=>Ur
theorem Zgg {l:List Int} {i:Nat} (r:i<l.length):Wh i (l.drop i)=if Yi (Zc l i) then Wh (i+1) (l.drop (i+1)) else some i:=by
 rw [Xfk r]
 simp only [Wh,Zc,Xee,Xfe r,Xge]
section
variable {Y:Sys} {h:Za}
def Err (Y:Sys) (h:Za) (w:Wr) (v:Value):Prop:=Xc1 Y h w.1 w.2 v
theorem Err.ok:Err Y h Ur .nilIface:=.inl ⟨rfl,rfl⟩
theorem Err.nil {v:Value} {w:Wr} (e:Err Y h w v) (h0:w.2=0):v = .nilIface:=by
 rcases e with ⟨_,e⟩ | ⟨e,_⟩
 ·exact e
 ·exact absurd h0 e
theorem Err.iface {v:Value} {w:Wr} (e:Err Y h w v) (h0:w.2≠0):∃ t u,v = .iface t u:=by
 rcases e with ⟨e,_⟩ | ⟨_,e⟩
 ·exact absurd e h0
 ·obtain ⟨l,c⟩:=w
  cases l with
  | nil=>exact ⟨_,_,e⟩
  | cons p ps=>obtain ⟨b,u,e,_⟩:=e; exact ⟨_,_,e⟩
def Zam (lo:Nat) (P:Za->Prop) (h:Za):Prop:=∀ h',Mod (fun j=>j<lo) h h'->P h'
theorem Zam.here {lo:Nat} {P:Za->Prop} {h:Za} (f:Zam lo P h):P h:=f h (Mod.refl h)
theorem Zam.mono {lo r:Nat} {P:Za->Prop} {h:Za} (f:Zam lo P h) (D:r<=lo):Zam r P h:=fun h' m=>f h' (m.mono fun _ _ h=>Xgh h D)
theorem Zam.step {lo:Nat} {S:Nat->Prop} {P:Za->Prop} {h h':Za} (f:Zam lo P h) (m:Mod S h h') (hs:∀ j,S j->j<lo):Zam lo P h':=fun r m'=>f r ((m.mono fun j _ h=>hs j h).trans m')
theorem Zam.ext {lo:Nat} {P:Za->Prop} {h h':Za} (f:Zam lo P h) (m:Ext h h'):Zam lo P h':=f.step m (fun _ h=>h.elim)
abbrev Z6 (Y:Sys) (lo:Nat) (h:Za) (w:Wr) (v:Value):Prop:=Zam lo (fun h=>Err Y h w v) h
theorem Z6.ok {lo:Nat}:Z6 Y lo h Ur .nilIface:=fun _ _=>Err.ok
theorem X9 (H:Y.Has 55 Y55) {a:Int} {R:Value->Za->Prop} (r:R (.bool (Yi a)) h):Zm Y 55 [.int .i64 a] h R:=by
 refine .of_has H rfl ?_
 simp [Y55,Xa.wp]
 by_cases h0:a=1152921504606846976
 ·have:Yi a=true:=by simp [Yi,h0]
  rw [this] at r; simp [h0,r]
 ·by_cases h1:0<=a
  ·have:Yi a=decide (a<=2147483648):=by simp [Yi,h0,h1]
   rw [this] at r; simp [h0,h1,r]
  ·have:Yi a=false:=by simp [Yi,h0]; omega
   rw [this] at r; simp [h0,h1,r]
theorem Zek {b:Nat} {p:ByteArray} {a c:Int} (hb:Ys h b #[.string p,.int .i64 a,.iface (Y.tid 49) (.int .i64 c)]) (hc:c≠0) :
  Err Y h ([(p,a)],c) (.iface (Y.tid 50) (.pointer (some ⟨b,0,none⟩))) :=
 .inr ⟨hc,b,_,rfl,by rw [hb.hc]; rfl,by rw [hb.hc]; rfl,by rw [hb.hc]; rfl,rfl⟩
theorem Vu (H:Y.Has 54 Y54) {a c:Int} (hc:c≠0) {R:Value->Za->Prop} (r:∀ v h',Ext h h'->Z6 Y h.size h' (Xu a c) v->(∃ t u,v = .iface t u)->R v h') :
  Zm Y 54 [.int .i64 a,.int .i64 c] h R:=by
 refine .of_has H rfl ?_
 simp [Y54,Xa.wp]
 refine Zd ?_
 intro b h1 G B D
 simp
 exact r _ _ D (fun h' m=>Zek (m.blk B (by omega)) hc) ⟨_,_,rfl⟩
theorem Zjl (H:Y.Has 53 Y53) (Hf:Y.Has 54 Y54) {ins outs:Int} {R:Value->Za->Prop} (I:∀ v h',Ext h h'->Z6 Y h.size h' (Xy ins outs) v->R v h') :
  Zm Y 53 [.int .i64 ins,.int .i64 outs] h R:=by
 refine .of_has H rfl ?_
 by_cases c1:ins<0\/16<ins
 ·have J:Xy ins outs=Xu 0 1:=by simp [Xy,c1]
  rw [J] at I
  have r:Zm Y 54 [.int .i64 0,.int .i64 1] h fun v h'=>R v h':=Vu Hf (by omega) fun v h' e U _=>I v h' e U
  by_cases D:ins<0
  ·simp [Y53,Xa.wp,D]; exact Zm.mono r fun v h' hv=>by simpa using hv
  ·have G:16<ins:=by omega
   simp [Y53,Xa.wp,D,G]; exact Zm.mono r fun v h' hv=>by simpa using hv
 ·have D:¬ ins<0:=by omega
  have G:¬ 16<ins:=by omega
  by_cases V:outs<0\/16<outs
  ·have J:Xy ins outs=Xu 1 1:=by simp [Xy,D,G,V]
   rw [J] at I
   have r:Zm Y 54 [.int .i64 1,.int .i64 1] h fun v h'=>R v h':=Vu Hf (by omega) fun v h' e U _=>I v h' e U
   by_cases M:outs<0
   ·simp [Y53,Xa.wp,D,G,M]; exact Zm.mono r fun v h' hv=>by simpa using hv
   ·have O:16<outs:=by omega
    simp [Y53,Xa.wp,D,G,M,O]; exact Zm.mono r fun v h' hv=>by simpa using hv
  ·have M:¬ outs<0:=by omega
   have O:¬ 16<outs:=by omega
   have J:Xy ins outs=Ur:=by simp [Xy,D,G,M,O]
   rw [J] at I
   simp [Y53,Xa.wp,D,G,M,O]
   exact I _ _ (Mod.refl h) Z6.ok
def Zel (ins outs:Int) (s:Sl):Value:=.agg #[.int .i64 ins,.int .i64 outs,s.v]
structure TurnCk (Y:Sys):Prop where
 Check:Y.Has 34 Y34
 sides:Y.Has 53 Y53
 fault:Y.Has 54 Y54
 Weight:Y.Has 55 Y55
structure Zbw (Y:Sys):Prop extends TurnCk Y where
 At:Y.Has 40 Y40
instance:Coe (Zbw Y) (TurnCk Y):=⟨Zbw.toTurnCk⟩
theorem Zkd {ins outs:Int} (h0:(Xy ins outs).2=0):Xy ins outs=Ur/\0<=ins/\ins<=16/\0<=outs/\outs<=16:=by
 unfold Xy at h0 ⊢
 split at h0
 ·simp [Xu] at h0
 ·split at h0
  ·simp [Xu] at h0
  ·rename_i h1 r
   rw [if_neg h1,if_neg r]
   refine ⟨rfl,?_,?_,?_,?_⟩ <;> omega
theorem Zg1 {a b:Int} (r:0<=a/\a<=16) (hb:0<=b/\b<=16):IntKind.i64.wrap (a * b)=a * b/\0<=a * b/\a * b<=256:=by
 have h1:0<=a * b:=Xg2 r.1 hb.1
 have D:a * b<=16 * 16:=Int.mul_le_mul r.2 hb.2 hb.1 (by omega)
 exact ⟨Ze (by omega),h1,by omega⟩
def Xdq (s:Sl) (cs:List Int) (tv:Value) (b:Nat) (h0:Za) (e:List Value) (h':Za):Prop :=
 ∃ (i:Nat) (v3 v4 v5 v6 v7 v11 v12:Value),e=[tv,.pointer (some ⟨b,0,none⟩),.nilIface,v3,v4,v5,v6,v7,s.v,.int .i64 s.n,.int .i64 i,v11,v12]/\i<=s.n/\Wh 0 cs=Wh i (cs.drop i)/\Ext h0 h'
theorem Zjm (T:TurnCk Y) {ins outs:Int} {s:Sl} {cs:List Int} (r:Zz h s cs) {R:Value->Za->Prop} (I:∀ v h',Ext h h'->Z6 Y h.size h' (Uc ins outs cs) v->R v h') :
  Zm Y 34 [Zel ins outs s] h R:=by
 refine .of_has T.Check rfl ?_
 simp [Y34,Xa.wp,Zel]
 refine Zd ?_
 intro b h1 g1 B1 V
 simp [B1.hc]
 refine Zjl T.sides T.fault ?_
 intro v h2 e2 U
 have G:=V.trans e2
 have B2:=B1.ext e2
 by_cases h0:(Xy ins outs).2=0
 ·obtain ⟨hs,a1,a2,a3,a4⟩:=Zkd h0
  have:=U.here.nil h0
  subst this
  obtain ⟨m1,m2,m3⟩:=Zg1 ⟨a1,a2⟩ ⟨a3,a4⟩
  have hl:=r.len
  by_cases c1:(s.n:Int)=ins * outs
  ·have M:Uc ins outs cs=match Wh 0 cs with | some i=>Xu (3+i) 8 | none=>Ur:=by
    simp only [Uc,h0,hl,c1]; simp
   rw [M] at I
   simp [B2.hc,m1,c1]
   refine Zj (Xdq s cs (.agg #[.int .i64 ins,.int .i64 outs,s.v]) b h) (fun e _=>s.n-Zo e 10) ⟨0,_,_,_,_,_,_,_,by rw [c1]; rfl,by omega,by simp,G⟩ ?_
   clear V e2 G U B1 B2
   rintro e h3 ⟨i,v3,v4,v5,v6,v7,aa,ab,rfl,hi,D,e3⟩
   have r3:=r.ext e3
   by_cases X:i<s.n
   ·have H:(i:Int)<s.n:=by omega
    have w1:IntKind.i64.wrap ((i:Int)+1)=(i:Int)+1:=Ze (by omega)
    have w3:IntKind.i64.wrap (3+(i:Int))=3+(i:Int):=Ze (by omega)
    rw [Zgg (by omega)] at D
    simp [H,Zb r3.ok,r3.at X]
    refine X9 T.Weight ?_
    cases O:Yi (Zc cs i) with
    | true =>
     rw [O] at D
     simp [w1]
     exact ⟨⟨i+1,_,_,_,_,_,_,_,rfl,by omega,by simpa using D,e3⟩,by simp [Zo]; omega⟩
    | false =>
     rw [O] at D
     simp at D
     rw [D] at I
     simp [w3]
     refine Vu T.fault (by omega) ?_
     intro v h4 Z J _
     simp
     exact I _ _ (e3.trans Z) (J.mono e3.size)
   ·have H:¬ (i:Int)<s.n:=by omega
    rw [Xe0 (by omega)] at D
    simp only [Wh] at D
    rw [D] at I
    simp [H]
    exact I _ _ e3 Z6.ok
  ·have M:Uc ins outs cs=Xu 2 9:=by
    simp only [Uc,h0,hl]; simp [c1]
   rw [M] at I
   simp [B2.hc,m1,c1]
   refine Vu T.fault (by omega) ?_
   intro v h4 Z J _
   simp
   exact I _ _ (G.trans Z) (J.mono G.size)
 ·obtain ⟨t,u,hv⟩:=U.here.iface h0
  have M:Uc ins outs cs=Xy ins outs:=by simp [Uc,h0]
  rw [M] at I
  subst hv
  simp
  exact I _ _ G (U.mono V.size)
def atV (ins outs:Int) (cs:List Int) (i k:Int):Int :=
 if i<0\/ins<=i\/k<0\/outs<=k\/(Xy ins outs).2≠0 then 1152921504606846976
 else if i * outs+k<cs.length then Zc cs (i * outs+k).toNat else 1152921504606846976
theorem Zfu {ins outs i k:Int} (h1:0<=i) (G:i<ins) (H:0<=k) (h4:k<outs) (I:ins<=16) (r:outs<=16) :
  IntKind.i64.wrap (i * outs)=i * outs/\IntKind.i64.wrap (i * outs+k)=i * outs+k/\0<=i * outs+k/\i * outs+k<ins * outs:=by
 have J:0<=i * outs:=Xg2 h1 (by omega)
 have M:i * outs<=16 * 16:=Int.mul_le_mul (by omega) r (by omega) (by omega)
 have D:(i+1) * outs<=ins * outs:=Int.mul_le_mul_of_nonneg_right (by omega) (by omega)
 rw [Int.add_mul,Int.one_mul] at D
 exact ⟨Ze (by omega),Ze (by omega),by omega,by omega⟩
theorem Zwe (T:Zbw Y) {ins outs i k:Int} {s:Sl} {cs:List Int} (r:Zz h s cs) {R:Value->Za->Prop} (D:∀ h',Ext h h'->R (.int .i64 (atV ins outs cs i k)) h') :
  Zm Y 40 [Zel ins outs s,.int .i64 i,.int .i64 k] h R:=by
 refine .of_has T.At rfl ?_
 simp [Y40,Xa.wp,Zel]
 refine Zd ?_
 intro b h1 g1 B1 M
 by_cases c1:i<0
 ·have hv:atV ins outs cs i k=1152921504606846976:=by simp [atV,c1]
  rw [hv] at D
  simp [c1]; exact D _ M
 by_cases H:ins<=i
 ·have hv:atV ins outs cs i k=1152921504606846976:=by simp [atV,H]
  rw [hv] at D
  simp [c1,B1.hc,H]; exact D _ M
 by_cases J:k<0
 ·have hv:atV ins outs cs i k=1152921504606846976:=by simp [atV,J]
  rw [hv] at D
  simp [c1,B1.hc,H,J]; exact D _ M
 by_cases O:outs<=k
 ·have hv:atV ins outs cs i k=1152921504606846976:=by simp [atV,O]
  rw [hv] at D
  simp [c1,B1.hc,H,J,O]; exact D _ M
 simp [c1,B1.hc,H,J,O]
 refine Zjl T.sides T.fault ?_
 intro v h2 e2 X
 have G:=M.trans e2
 have B2:=B1.ext e2
 have Z:=r.ext G
 by_cases h0:(Xy ins outs).2=0
 ·obtain ⟨hs,a1,a2,a3,a4⟩:=Zkd h0
  have:=X.here.nil h0
  subst this
  obtain ⟨w1,w2,p0,p1⟩:=Zfu (ins:=ins) (outs:=outs) (i:=i) (k:=k) (by omega) (by omega) (by omega) (by omega) a2 a4
  have hl:=r.len
  by_cases U:i * outs+k<s.n
  ·have hv:atV ins outs cs i k=Zc cs (i * outs+k).toNat:=by
    simp only [atV,c1,H,J,O,h0,hl]; simp [U]
   rw [hv] at D
   have I:=Z.at (i:=(i * outs+k).toNat) (by omega)
   simp [B2.hc,w1,w2,U,Zb Z.ok,p0,I]
   exact D _ G
  ·have hv:atV ins outs cs i k=1152921504606846976:=by
    simp only [atV,c1,H,J,O,h0,hl]; simp [U]
   rw [hv] at D
   simp [B2.hc,w1,w2,U]
   exact D _ G
 ·obtain ⟨t,u,hv⟩:=X.here.iface h0
  have V:atV ins outs cs i k=1152921504606846976:=by simp [atV,h0]
  rw [V] at D
  subst hv
  simp
  exact D _ G
end
section
variable {Y:Sys} {h:Za}
theorem Zg5 (HC:Y.Has 58 Y58) {s:Sl} {cs:List Int} (r:Zz h s cs) (H:s.n<=17592186044416) {R:Value->Za->Prop}
  (I:∀ h' G,Ext h h'->Yb h' 1 G (Zh cs)->(G.nl=true\/h.size<=G.b)->R G.v h'):Zm Y 58 [s.v] h R:=by
 refine .of_has HC rfl ?_
 cases D:s.nl with
 | true =>
  have:cs=[]:=Xe3 (by rw [r.len]; exact (r.ok.nil D).1)
  subst this
  simp [Y58,Xa.wp,D]
  exact I h Sl.nil (Mod.refl h) Yb.nil (.inl rfl)
 | false =>
  simp [Y58,Xa.wp,D,Zfr]
  intro t
  have J:Ext h (h.push (.cells #[] t)):=Mod.push
  refine Zc4 (r.ext J) H Zhk (.inr (Xd6 _)) J ?_
  intro G h' o hb M
  simp
  exact I h' G M o hb
def Qh (ins outs:Int) (cs:List Int) (i k c:Int):Wr :=
 if i<0\/ins<=i then Xu 0 5 else if k<0\/outs<=k then Xu 1 5 else if Yi c=false then Xu 2 8 else Uc ins outs cs
theorem Zfy {ins outs:Int} {cs:List Int} (h0:(Uc ins outs cs).2=0):0<=ins/\ins<=16/\0<=outs/\outs<=16/\(cs.length:Int)=ins * outs/\Wh 0 cs=none/\Uc ins outs cs=Ur:=by
 unfold Uc at h0 ⊢
 split at h0
 ·rename_i h1; exact absurd h0 h1
 ·rename_i h1
  have h1:(Xy ins outs).2=0:=by simpa using h1
  obtain ⟨_,G,H,I,J⟩:=Zkd h1
  split at h0
  ·simp [Xu] at h0
  ·rename_i r
   have r:(cs.length:Int)=ins * outs:=by simpa using r
   refine ⟨G,H,I,J,r,?_⟩
   split at h0
   ·simp [Xu] at h0
   ·rename_i D
    exact ⟨D,by simp [h1,r,D]⟩
def Xay (Y:Sys) (lo:Nat) (h':Za) (ins outs:Int) (cs:List Int) (i k c:Int) (v:Value):Prop :=
 ∃ ins' outs' s' cs' u,v = .tuple #[Zel ins' outs' s',u]/\Z6 Y lo h' (Qh ins outs cs i k c) u/\Zam lo (fun h=>Zz h s' cs') h' /\
  (((Qh ins outs cs i k c).2=0/\ins'=ins/\outs'=outs/\cs'=cs.set (i * outs+k).toNat c)\/((Qh ins outs cs i k c).2≠0/\ins'=0/\outs'=0/\s'=Sl.nil/\cs'=[]))
theorem Zz.nil:Zz h Sl.nil []:=⟨Sl.nil_ok,rfl,fun i r=>by simp at r⟩
theorem Zxk {lo:Nat} {s:Sl} {cs:List Int} {h':Za} (o:Yb h' 1 s (Zh cs)) (hs:s.nl=true\/lo<=s.b):Zam lo (fun h=>Yb h 1 s (Zh cs)) h':=fun r m=>o.mod m (fun D=>by
 rcases hs with hs | hs
 ·rw [D] at hs; cases hs
 ·omega)
theorem Zzd {lo:Nat} {s:Sl} {cs:List Int} {h':Za} (o:Yb h' 1 s (Zh cs)) (hs:s.nl=true\/lo<=s.b):Zam lo (fun h=>Zz h s cs) h':=fun r m=>(Zxk o hs r m).row64
theorem Zxf (HW:Y.Has 38 Y38) (HC:Y.Has 58 Y58) (T:Zbw Y) {ins outs i k c:Int} {s:Sl} {cs:List Int} (r:Zz h s cs) {R:Value->Za->Prop}
  (hr:∀ h' v,Ext h h'->Xay Y h.size h' ins outs cs i k c v->R v h'):Zm Y 38 [Zel ins outs s,.int .i64 i,.int .i64 k,.int .i64 c] h R:=by
 refine .of_has HW rfl ?_
 simp [Y38,Xa.wp,Zel]
 refine Zd ?_
 intro b h1 g1 B1 e1
 simp
 refine Zd ?_
 intro rb h2 g2 B2 e2
 have B1':=B1.ext e2
 have O:=e1.trans e2
 have ag:rb≠b:=by have:=B1.lt; omega
 have z1:=e1.size
 have z2:=e2.size
 have J:∀ {I:Za} {v:Value} {lo:Nat} {K:Value->Za->Prop},(Qh ins outs cs i k c).2≠0->Ext h2 I->h.size<=lo->rb<lo->Z6 Y lo I (Qh ins outs cs i k c) v ->
   (∀ h4,Ys h4 rb #[.int .i64 0,.int .i64 0,.slice none 0 0]->R (.tuple #[.agg #[.int .i64 0,.int .i64 0,.slice none 0 0],v]) h4->K undef h4) ->
   Ef.wp I K (.store 3) [.pointer (some ⟨rb,0,none⟩),.agg #[.int .i64 0,.int .i64 0,.slice none 0 0]]:=by
  intro I v lo K H e3 V aj D hk
  refine Zi (B2.ext e3) rfl rfl (by simp) ?_
  intro h4 B4 m4
  refine hk h4 B4 (hr h4 _ (Mod.ext (O.trans e3) m4 (fun j hj=>by omega)) ⟨0,0,Sl.nil,[],v,rfl,(D.step m4 (fun j hj=>by omega)).mono V,fun _ _=>Zz.nil,.inr ⟨H,rfl,rfl,rfl,rfl⟩⟩)
 have B2lt:=B2.lt
 by_cases c1:i<0
 ·have H:Qh ins outs cs i k c=Xu 0 5:=by simp [Qh,c1]
  simp [c1]
  refine Vu T.fault (by omega) ?_
  intro v I e3 D _
  simp
  refine J (by rw [H]; simp [Xu]) e3 (by omega) B2lt (by rw [H]; exact D) ?_
  intro h4 B4 M
  simp
  exact Zdb rfl B4 rfl M
 by_cases U:ins<=i
 ·have H:Qh ins outs cs i k c=Xu 0 5:=by simp [Qh,U]
  simp [c1,B1'.hc,U]
  refine Vu T.fault (by omega) ?_
  intro v I e3 D _
  simp
  refine J (by rw [H]; simp [Xu]) e3 (by omega) B2lt (by rw [H]; exact D) ?_
  intro h4 B4 M
  simp
  exact Zdb rfl B4 rfl M
 by_cases c3:k<0
 ·have H:Qh ins outs cs i k c=Xu 1 5:=by simp [Qh,c1,U,c3]
  simp [c1,B1'.hc,U,c3]
  refine Vu T.fault (by omega) ?_
  intro v I e3 D _
  simp
  refine J (by rw [H]; simp [Xu]) e3 (by omega) B2lt (by rw [H]; exact D) ?_
  intro h4 B4 M
  simp
  exact Zdb rfl B4 rfl M
 by_cases c4:outs<=k
 ·have H:Qh ins outs cs i k c=Xu 1 5:=by simp [Qh,c1,U,c4]
  simp [c1,B1'.hc,U,c3,c4]
  refine Vu T.fault (by omega) ?_
  intro v I e3 D _
  simp
  refine J (by rw [H]; simp [Xu]) e3 (by omega) B2lt (by rw [H]; exact D) ?_
  intro h4 B4 M
  simp
  exact Zdb rfl B4 rfl M
 simp [c1,B1'.hc,U,c3,c4]
 refine X9 T.Weight ?_
 cases aa:Yi c with
 | false =>
  have H:Qh ins outs cs i k c=Xu 2 8:=by simp [Qh,c1,U,c3,c4,aa]
  simp
  refine Vu T.fault (by omega) ?_
  intro v I e3 D _
  simp
  refine J (by rw [H]; simp [Xu]) e3 (by omega) B2lt (by rw [H]; exact D) ?_
  intro h4 B4 M
  simp
  exact Zdb rfl B4 rfl M
 | true =>
  have H:Qh ins outs cs i k c=Uc ins outs cs:=by simp [Qh,c1,U,c3,c4,aa]
  simp [Zy B1']
  refine Zjm T (r.ext O) ?_
  intro v I e3 D
  have B13:=B1'.ext e3
  have B23:=B2.ext e3
  by_cases h0:(Uc ins outs cs).2=0
  ·obtain ⟨a1,a2,a3,a4,a5,a6,a7⟩:=Zfy h0
   have:=D.here.nil h0
   subst this
   have r3:=r.ext (O.trans e3)
   have hl:=r.len
   obtain ⟨w1,w2,p0,p1⟩:=Zfu (ins:=ins) (outs:=outs) (i:=i) (k:=k) (by omega) (by omega) (by omega) (by omega) a2 a4
   have m3:=(Zg1 ⟨a1,a2⟩ ⟨a3,a4⟩).2
   simp [B13.hc]
   refine Zg5 HC r3 (by omega) ?_
   intro h4 G e4 o4 hs'
   have B14:=B13.ext e4
   have B24:=B23.ext e4
   have z3:=e3.size
   have z4:=e4.size
   have ab:∀ {lo:Nat},lo<=I.size->(G.nl=true\/lo<=G.b):=fun V=>hs'.imp id (fun h=>Xew V h)
   have ak:b<I.size:=by have:=B13.lt; omega
   have ai:rb<I.size:=by have:=B23.lt; omega
   have X:G.nl=false:=by
    obtain ⟨ah,_,_,X⟩:=o4.blk (i:=(i * outs+k).toNat) (by rw [Wu]; omega)
    exact X
   have al:I.size<=G.b:=hs'.resolve_left (by rw [X]; simp)
   have ac:b≠G.b:=by omega
   have ad:rb≠G.b:=by omega
   simp [Xg.open,B14.hc,B14.hfz]
   have B15:=B14.set (o:=2) (v:=G.v)
   have B25:=B24.set_ne (b':=b) (o:=2) (v:=G.v) ag
   have o5:=o4.mod (S:=fun j=>j=b) (Mod.set (b:=b) (o:=2) (v:=G.v) rfl) (fun _ h=>ac h.symm)
   have x5:Mod (fun j=>j=b) h4 (Wm h4 b 2 G.v):=Mod.set rfl
   simp at B15
   generalize Wm h4 b 2 G.v=h5 at *
   have ae:(i * outs+k).toNat<(Zh cs).length:=by rw [Wu]; omega
   have af:i * outs+k<G.n:=by have:=o5.row64.len; omega
   obtain ⟨ah,A5,A5s,_⟩:=o5.blk ae
   have Z:=o5.cell (Zf3 (l:=cs) (i:=(i * outs+k).toNat) (by omega))
   have o6:=o5.set (v:=.int .i64 c) ae
   rw [X4] at o6
   have B16:=B15.set_ne (b':=G.b) (o:=G.o+(i * outs+k).toNat) (v:=.int .i64 c) ac
   have B26:=B25.set_ne (b':=G.b) (o:=G.o+(i * outs+k).toNat) (v:=.int .i64 c) ad
   have x6:Mod (fun j=>j=G.b) h5 (Wm h5 G.b (G.o+(i * outs+k).toNat) (.int .i64 c)):=Mod.set rfl
   simp [B15.hc,w1,w2,Zb o5.ok,p0,af,Xg.open,Z,A5.hfz]
   generalize Wm h5 G.b (G.o+(i * outs+k).toNat) (.int .i64 c)=h6 at *
   simp [Zy B16]
   refine Zi B26 rfl rfl (by simp) ?_
   intro h7 B7 m7
   have o7:=o6.mod m7 (fun _ h=>ad h.symm)
   simp
   refine Zdb rfl B7 rfl ?_
   refine hr h7 _ ?_ ⟨ins,outs,G,_,.nilIface,rfl,?_,Zzd o7 (ab (by omega)),.inl ⟨by rw [H]; exact h0,rfl,rfl,rfl⟩⟩
   ·exact (((((O.trans e3).trans e4).ext x5 (fun j hj=>by omega)).ext x6 (fun j hj=>by omega)).ext m7 (fun j hj=>by omega))
   ·rw [H,a7]; exact Z6.ok
  ·obtain ⟨t,u,hv⟩:=D.here.iface h0
   subst hv
   simp
   refine J (by rw [H]; exact h0) e3 (by omega) B2lt (by rw [H]; exact D) ?_
   intro h4 B4 M
   simp
   exact Zdb rfl B4 rfl M
end
end Go.Rm

