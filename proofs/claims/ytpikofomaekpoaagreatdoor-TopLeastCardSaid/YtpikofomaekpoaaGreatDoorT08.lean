import Derived.Test.YtpikofomaekpoaaGreatDoorT07
import Derived.Test.YtpikofomaekpoaaGreatDoorT05
/- Parts. -/
set_option linter.unusedSimpArgs false
set_option linter.unusedVariables false
namespace Go.Rm
def Yt (a:Int):Bool:=decide (0<=a/\a<=2147483648) || decide (a=1152921504606846976)
abbrev Z8r:ByteArray:=⟨#[116,117,114,110]⟩
abbrev Wr:=List (ByteArray × Int) × Int
def Qg:Wr:=([],0)
def Wd (at' e:Int):Wr:=([(Z8r,at')],e)
def Wu:Nat->Zb->Option Nat
 | _,[]=>none
 | i,c::r=>if Yt c then Wu (i+1) r else some i
def Wl (ins outs:Int):Wr:=if ins<0\/16<ins then Wd 0 1 else if outs<0\/16<outs then Wd 1 1 else Qg
def Us (ins outs:Int) (cs:Zb):Wr :=
 if (Wl ins outs).2≠0 then Wl ins outs
 else if (cs.length:Int)≠ins * outs then Wd 2 9
 else match Wu 0 cs with
  | some i=>Wd (3+i) 8
  | none=>Qg
theorem Zhg {l:Zb} {i:Nat} (r:i<l.length):Wu i (l.drop i)=if Yt (Zl l i) then Wu (i+1) (l.drop (i+1)) else some i:=by
 rw [Xhc r];simp only [Wu,Zl,Xf5,Xg6 r,Xh9]
section
variable {Y:Sys} {h:Zk}
def Err (Y:Sys) (h:Zk) (w:Wr) (v:Value):Prop:=Xet Y h w.1 w.2 v
theorem Err.ok:Err Y h Qg .nilIface:=.inl ⟨rfl,rfl⟩
theorem Err.nil {v:Value} {w:Wr} (e:Err Y h w v) (h0:w.2=0):v = .nilIface:=by
 rcases e with ⟨_,e⟩ | ⟨e,_⟩
 ·exact e
 exact absurd h0 e
theorem Err.iface {v:Value} {w:Wr} (e:Err Y h w v) (h0:w.2≠0):∃ t u,v = .iface t u:=by
 rcases e with ⟨e,_⟩ | ⟨_,e⟩
 ·exact absurd e h0
 obtain ⟨l,c⟩:=w
 cases l with
 | nil=>exact ⟨_,_,e⟩
 | cons p ps=>obtain ⟨b,u,e,_⟩:=e;exact ⟨_,_,e⟩
def Zbb (lo:Nat) (P:Zk->Prop) (h:Zk):Prop:=∀ h',Mod (fun j=>j<lo) h h'->P h'
theorem Zbb.here {lo:Nat} {P:Zk->Prop} {h:Zk} (f:Zbb lo P h):P h:=f h (Mod.refl h)
theorem Zbb.mono {lo r:Nat} {P:Zk->Prop} {h:Zk} (f:Zbb lo P h) (D:r<=lo):Zbb r P h:=fun h' m=>f h' (m.mono fun _ _ h=>Xib h D)
theorem Zbb.step {lo:Nat} {S:Zf} {P:Zk->Prop} {h h':Zk} (f:Zbb lo P h) (m:Mod S h h') (hs:∀ j,S j->j<lo):Zbb lo P h':=fun r m'=>f r ((m.mono fun j _ h=>hs j h).trans m')
theorem Zbb.ext {lo:Nat} {P:Zk->Prop} {h h':Zk} (f:Zbb lo P h) (m:Ext h h'):Zbb lo P h':=f.step m (fun _ h=>h.elim)
abbrev W9 (Y:Sys) (lo:Nat) (h:Zk) (w:Wr) (v:Value):Prop:=Zbb lo (fun h=>Err Y h w v) h
theorem W9.ok {lo:Nat}:W9 Y lo h Qg .nilIface:=fun _ _=>Err.ok
theorem Q0 (H:Y.Has 55 Y55) {a:Int} {R:Ze} (r:R (.bool (Yt a)) h):Zv Y 55 [.int .i64 a] h R:=by
 refine .of_has H rfl ?_;simp [Y55,Xm.wp];by_cases h0:a=1152921504606846976
 ·have:Yt a=true:=by simp [Yt,h0]
  rw [this] at r;simp [h0,r]
 by_cases h1:0<=a
 ·have:Yt a=decide (a<=2147483648):=by simp [Yt,h0,h1]
  rw [this] at r;simp [h0,h1,r]
 have:Yt a=false:=by simp [Yt,h0];omega
 rw [this] at r;simp [h0,h1,r]
theorem Zfc {b:Nat} {p:ByteArray} {a c:Int} (hb:Xb h b #[.string p,.int .i64 a,.iface (Y.tid 49) (.int .i64 c)]) (hc:c≠0) :
  Err Y h ([(p,a)],c) (.iface (Y.tid 50) (.pointer (some ⟨b,0,none⟩))) :=
 .inr ⟨hc,b,_,rfl,by rw [hb.hc];rfl,by rw [hb.hc];rfl,by rw [hb.hc];rfl,rfl⟩
theorem Um (H:Y.Has 54 Y54) {a c:Int} (hc:c≠0) {R:Ze} (r:∀ v h',Ext h h'->W9 Y h.size h' (Wd a c) v->(∃ t u,v = .iface t u)->R v h') :
  Zv Y 54 [.int .i64 a,.int .i64 c] h R:=by
 refine .of_has H rfl ?_;simp [Y54,Xm.wp];refine Zn ?_;intro b h1 G B D;simp;exact r _ _ D (fun h' m=>Zfc (m.blk B (by omega)) hc) ⟨_,_,rfl⟩
theorem Zkw (H:Y.Has 53 Y53) (Hf:Y.Has 54 Y54) {ins outs:Int} {R:Ze} (I:∀ v h',Ext h h'->W9 Y h.size h' (Wl ins outs) v->R v h') :
  Zv Y 53 [.int .i64 ins,.int .i64 outs] h R:=by
 refine .of_has H rfl ?_;by_cases c1:ins<0\/16<ins
 ·have J:Wl ins outs=Wd 0 1:=by simp [Wl,c1]
  rw [J] at I;have r:Zv Y 54 [.int .i64 0,.int .i64 1] h fun v h'=>R v h':=Um Hf (by omega) fun v h' e U _=>I v h' e U;by_cases D:ins<0
  ·simp [Y53,Xm.wp,D];exact Zv.mono r fun v h' hv=>by simpa using hv
  have G:16<ins:=by omega
  simp [Y53,Xm.wp,D,G];exact Zv.mono r fun v h' hv=>by simpa using hv
 have D:¬ ins<0:=by omega
 have G:¬ 16<ins:=by omega
 by_cases V:outs<0\/16<outs
 ·have J:Wl ins outs=Wd 1 1:=by simp [Wl,D,G,V]
  rw [J] at I;have r:Zv Y 54 [.int .i64 1,.int .i64 1] h fun v h'=>R v h':=Um Hf (by omega) fun v h' e U _=>I v h' e U;by_cases M:outs<0
  ·simp [Y53,Xm.wp,D,G,M];exact Zv.mono r fun v h' hv=>by simpa using hv
  have O:16<outs:=by omega
  simp [Y53,Xm.wp,D,G,M,O];exact Zv.mono r fun v h' hv=>by simpa using hv
 have M:¬ outs<0:=by omega
 have O:¬ 16<outs:=by omega
 have J:Wl ins outs=Qg:=by simp [Wl,D,G,M,O]
 rw [J] at I;simp [Y53,Xm.wp,D,G,M,O];exact I _ _ (Mod.refl h) W9.ok
def Zfd (ins outs:Int) (s:Sl):Value:=.agg #[.int .i64 ins,.int .i64 outs,s.v]
structure TurnCk (Y:Sys):Prop where
 Check:Y.Has 34 Y34
 sides:Y.Has 53 Y53
 fault:Y.Has 54 Y54
 Weight:Y.Has 55 Y55
structure Zco (Y:Sys):Prop extends TurnCk Y where
 At:Y.Has 40 Y40
instance:Coe (Zco Y) (TurnCk Y):=⟨Zco.toTurnCk⟩
theorem Zlp {ins outs:Int} (h0:(Wl ins outs).2=0):Wl ins outs=Qg/\0<=ins/\ins<=16/\0<=outs/\outs<=16:=by
 unfold Wl at h0 ⊢
 split at h0
 ·simp [Wd] at h0
 split at h0
 ·simp [Wd] at h0
 rename_i h1 r;rw [if_neg h1,if_neg r];refine ⟨rfl,?_,?_,?_,?_⟩ <;> omega
theorem Zh1 {a b:Int} (r:0<=a/\a<=16) (hb:0<=b/\b<=16):IntKind.i64.wrap (a * b)=a * b/\0<=a * b/\a * b<=256:=by
 have h1:0<=a * b:=Xiu r.1 hb.1;have D:a * b<=16 * 16:=Int.mul_le_mul r.2 hb.2 hb.1 (by omega);exact ⟨Zo (by omega),h1,by omega⟩
def Xfi (s:Sl) (cs:Zb) (tv:Value) (b:Nat) (h0:Zk) (e:Zc) (h':Zk):Prop :=
 ∃ (i:Nat) (v3 v4 v5 v6 v7 v11 v12:Value),e=[tv,.pointer (some ⟨b,0,none⟩),.nilIface,v3,v4,v5,v6,v7,s.v,.int .i64 s.n,.int .i64 i,v11,v12]/\i<=s.n/\Wu 0 cs=Wu i (cs.drop i)/\Ext h0 h'
theorem Zkx (T:TurnCk Y) {ins outs:Int} {s:Sl} {cs:Zb} (r:Yd h s cs) {R:Ze} (I:∀ v h',Ext h h'->W9 Y h.size h' (Us ins outs cs) v->R v h') :
  Zv Y 34 [Zfd ins outs s] h R:=by
 refine .of_has T.Check rfl ?_;simp [Y34,Xm.wp,Zfd];refine Zn ?_;intro b h1 g1 B1 V;simp [B1.hc];refine Zkw T.sides T.fault ?_;intro v h2 e2 U;have G:=V.trans e2;have B2:=B1.ext e2;by_cases h0:(Wl ins outs).2=0
 ·obtain ⟨hs,a1,a2,a3,a4⟩:=Zlp h0;have:=U.here.nil h0;subst this;obtain ⟨m1,m2,m3⟩:=Zh1 ⟨a1,a2⟩ ⟨a3,a4⟩;have hl:=r.len;by_cases c1:(s.n:Int)=ins * outs
  ·have M:Us ins outs cs=match Wu 0 cs with | some i=>Wd (3+i) 8 | none=>Qg:=by
    simp only [Us,h0,hl,c1];simp
   rw [M] at I;simp [B2.hc,m1,c1];refine Zt (Xfi s cs (.agg #[.int .i64 ins,.int .i64 outs,s.v]) b h) (fun e _=>s.n-Zy e 10) ⟨0,_,_,_,_,_,_,_,by rw [c1];rfl,by omega,by simp,G⟩ ?_;clear V e2 G U B1 B2;rintro e h3 ⟨i,v3,v4,v5,v6,v7,aa,ab,rfl,hi,D,e3⟩;have r3:=r.ext e3;by_cases X:i<s.n
   ·have H:(i:Int)<s.n:=by omega
    have w1:=Zj (i:=i) (by omega);have w3:IntKind.i64.wrap (3+(i:Int))=3+(i:Int):=Zo (by omega);rw [Zhg (by omega)] at D;simp [H,Zm r3.ok,r3.at X];refine Q0 T.Weight ?_
    cases O:Yt (Zl cs i) with
    | true =>
     rw [O] at D;simp [w1];exact ⟨⟨i+1,_,_,_,_,_,_,_,rfl,by omega,by simpa using D,e3⟩,by simp [Zy];omega⟩
    | false =>
     rw [O] at D;simp at D;rw [D] at I;simp [w3];refine Um T.fault (by omega) ?_;intro v h4 Z J _;simp;exact I _ _ (e3.trans Z) (J.mono e3.size)
   have H:¬ (i:Int)<s.n:=by omega
   rw [Xgs (by omega)] at D;simp only [Wu] at D;rw [D] at I;simp [H];exact I _ _ e3 W9.ok
  have M:Us ins outs cs=Wd 2 9:=by
   simp only [Us,h0,hl];simp [c1]
  rw [M] at I;simp [B2.hc,m1,c1];refine Um T.fault (by omega) ?_;intro v h4 Z J _;simp;exact I _ _ (G.trans Z) (J.mono G.size)
 obtain ⟨t,u,hv⟩:=U.here.iface h0;have M:Us ins outs cs=Wl ins outs:=by simp [Us,h0]
 rw [M] at I;subst hv;simp;exact I _ _ G (U.mono V.size)
def atV (ins outs:Int) (cs:Zb) (i k:Int):Int :=
 if i<0\/ins<=i\/k<0\/outs<=k\/(Wl ins outs).2≠0 then 1152921504606846976
 else if i * outs+k<cs.length then Zl cs (i * outs+k).toNat else 1152921504606846976
theorem Zgw {ins outs i k:Int} (h1:0<=i) (G:i<ins) (H:0<=k) (h4:k<outs) (I:ins<=16) (r:outs<=16) :
  IntKind.i64.wrap (i * outs)=i * outs/\IntKind.i64.wrap (i * outs+k)=i * outs+k/\0<=i * outs+k/\i * outs+k<ins * outs:=by
 have J:0<=i * outs:=Xiu h1 (by omega);have M:i * outs<=16 * 16:=Int.mul_le_mul (by omega) r (by omega) (by omega);have D:(i+1) * outs<=ins * outs:=Int.mul_le_mul_of_nonneg_right (by omega) (by omega);rw [Int.add_mul,Int.one_mul] at D;exact ⟨Zo (by omega),Zo (by omega),by omega,by omega⟩
theorem Zx4 (T:Zco Y) {ins outs i k:Int} {s:Sl} {cs:Zb} (r:Yd h s cs) {R:Ze} (D:∀ h',Ext h h'->R (.int .i64 (atV ins outs cs i k)) h') :
  Zv Y 40 [Zfd ins outs s,.int .i64 i,.int .i64 k] h R:=by
 refine .of_has T.At rfl ?_;simp [Y40,Xm.wp,Zfd];refine Zn ?_;intro b h1 g1 B1 M;by_cases c1:i<0
 ·have hv:atV ins outs cs i k=1152921504606846976:=by simp [atV,c1]
  rw [hv] at D;simp [c1];exact D _ M
 by_cases H:ins<=i
 ·have hv:atV ins outs cs i k=1152921504606846976:=by simp [atV,H]
  rw [hv] at D;simp [c1,B1.hc,H];exact D _ M
 by_cases J:k<0
 ·have hv:atV ins outs cs i k=1152921504606846976:=by simp [atV,J]
  rw [hv] at D;simp [c1,B1.hc,H,J];exact D _ M
 by_cases O:outs<=k
 ·have hv:atV ins outs cs i k=1152921504606846976:=by simp [atV,O]
  rw [hv] at D;simp [c1,B1.hc,H,J,O];exact D _ M
 simp [c1,B1.hc,H,J,O];refine Zkw T.sides T.fault ?_;intro v h2 e2 X;have G:=M.trans e2;have B2:=B1.ext e2;have Z:=r.ext G;by_cases h0:(Wl ins outs).2=0
 ·obtain ⟨hs,a1,a2,a3,a4⟩:=Zlp h0;have:=X.here.nil h0;subst this;obtain ⟨w1,w2,p0,p1⟩:=Zgw (ins:=ins) (outs:=outs) (i:=i) (k:=k) (by omega) (by omega) (by omega) (by omega) a2 a4;have hl:=r.len;by_cases U:i * outs+k<s.n
  ·have hv:atV ins outs cs i k=Zl cs (i * outs+k).toNat:=by
    simp only [atV,c1,H,J,O,h0,hl];simp [U]
   rw [hv] at D;have I:=Z.at (i:=(i * outs+k).toNat) (by omega)
   simp [B2.hc,w1,w2,U,Zm Z.ok,p0,I];exact D _ G
  have hv:atV ins outs cs i k=1152921504606846976:=by
   simp only [atV,c1,H,J,O,h0,hl];simp [U]
  rw [hv] at D;simp [B2.hc,w1,w2,U];exact D _ G
 obtain ⟨t,u,hv⟩:=X.here.iface h0;have V:atV ins outs cs i k=1152921504606846976:=by simp [atV,h0]
 rw [V] at D;subst hv;simp;exact D _ G
theorem Zh6 (HC:Y.Has 58 Y58) {s:Sl} {cs:Zb} (r:Yd h s cs) (H:s.n<=17592186044416) {R:Ze}
  (I:∀ h' G,Ext h h'->Ym h' 1 G (Zq cs)->(G.nl=true\/h.size<=G.b)->R G.v h'):Zv Y 58 [s.v] h R:=by
 refine .of_has HC rfl ?_
 cases D:s.nl with
 | true =>
  have:cs=[]:=Xgw (by rw [r.len];exact (r.ok.nil D).1);subst this;simp [Y58,Xm.wp,D];exact I h Sl.nil (Mod.refl h) Ym.nil (.inl rfl)
 | false =>
  simp [Y58,Xm.wp,D,Zgq];intro t;have J:Ext h (h.push (.cells #[] t)):=Mod.push;refine Zdv (r.ext J) H Zip (.inr (Xfy _)) J ?_;intro G h' o hb M;simp;exact I h' G M o hb
def Qw (ins outs:Int) (cs:Zb) (i k c:Int):Wr :=
 if i<0\/ins<=i then Wd 0 5 else if k<0\/outs<=k then Wd 1 5 else if Yt c=false then Wd 2 8 else Us ins outs cs
theorem Zg0 {ins outs:Int} {cs:Zb} (h0:(Us ins outs cs).2=0):0<=ins/\ins<=16/\0<=outs/\outs<=16/\(cs.length:Int)=ins * outs/\Wu 0 cs=none/\Us ins outs cs=Qg:=by
 unfold Us at h0 ⊢
 split at h0
 ·rename_i h1;exact absurd h0 h1
 rename_i h1;have h1:(Wl ins outs).2=0:=by simpa using h1
 obtain ⟨_,D,G,H,I⟩:=Zlp h1
 split at h0
 ·simp [Wd] at h0
 rename_i r;have r:(cs.length:Int)=ins * outs:=by simpa using r
 refine ⟨D,G,H,I,r,?_⟩
 split at h0
 ·simp [Wd] at h0
 rename_i J;exact ⟨J,by simp [h1,r]⟩
def Xcv (Y:Sys) (lo:Nat) (h':Zk) (ins outs:Int) (cs:Zb) (i k c:Int) (v:Value):Prop :=
 ∃ ins' outs' s' cs' u,v = .tuple #[Zfd ins' outs' s',u]/\W9 Y lo h' (Qw ins outs cs i k c) u/\Zbb lo (fun h=>Yd h s' cs') h' /\
  (((Qw ins outs cs i k c).2=0/\ins'=ins/\outs'=outs/\cs'=cs.set (i * outs+k).toNat c)\/((Qw ins outs cs i k c).2≠0/\ins'=0/\outs'=0/\s'=Sl.nil/\cs'=[]))
theorem Yd.nil:Yd h Sl.nil []:=⟨Sl.nil_ok,rfl,fun i r=>by simp at r⟩
theorem Zzd {lo:Nat} {s:Sl} {cs:Zb} {h':Zk} (o:Ym h' 1 s (Zq cs)) (hs:s.nl=true\/lo<=s.b):Zbb lo (fun h=>Ym h 1 s (Zq cs)) h':=fun r m=>o.mod m (fun D=>by
 rcases hs with hs | hs
 ·rw [D] at hs;cases hs
 omega)
theorem Z05 {lo:Nat} {s:Sl} {cs:Zb} {h':Zk} (o:Ym h' 1 s (Zq cs)) (hs:s.nl=true\/lo<=s.b):Zbb lo (fun h=>Yd h s cs) h':=fun r m=>(Zzd o hs r m).row64
theorem Zy9 (HW:Y.Has 38 Y38) (HC:Y.Has 58 Y58) (T:Zco Y) {ins outs i k c:Int} {s:Sl} {cs:Zb} (r:Yd h s cs) {R:Ze}
  (hr:∀ h' v,Ext h h'->Xcv Y h.size h' ins outs cs i k c v->R v h'):Zv Y 38 [Zfd ins outs s,.int .i64 i,.int .i64 k,.int .i64 c] h R:=by
 refine .of_has HW rfl ?_;simp [Y38,Xm.wp,Zfd];refine Zn ?_;intro b h1 g1 B1 e1;simp;refine Zn ?_;intro rb h2 g2 B2 e2;have B1':=B1.ext e2;have O:=e1.trans e2;have ag:rb≠b:=by have:=B1.lt;omega
 have z1:=e1.size;have z2:=e2.size;have J:∀ {I:Zk} {v:Value} {lo:Nat} {K:Ze},(Qw ins outs cs i k c).2≠0->Ext h2 I->h.size<=lo->rb<lo->W9 Y lo I (Qw ins outs cs i k c) v ->
   (∀ h4,Xb h4 rb #[.int .i64 0,.int .i64 0,.slice none 0 0]->R (.tuple #[.agg #[.int .i64 0,.int .i64 0,.slice none 0 0],v]) h4->K undef h4) ->
   Ef.wp I K (.store 3) [.pointer (some ⟨rb,0,none⟩),.agg #[.int .i64 0,.int .i64 0,.slice none 0 0]]:=by
  intro I v lo K H e3 V aj D hk;refine Zs (B2.ext e3) rfl rfl (by simp) ?_;intro h4 B4 m4;refine hk h4 B4 (hr h4 _ (Mod.ext (O.trans e3) m4 (fun j hj=>by omega)) ⟨0,0,Sl.nil,[],v,rfl,(D.step m4 (fun j hj=>by omega)).mono V,fun _ _=>Yd.nil,.inr ⟨H,rfl,rfl,rfl,rfl⟩⟩)
 have B2lt:=B2.lt;by_cases c1:i<0
 ·have H:Qw ins outs cs i k c=Wd 0 5:=by simp [Qw,c1]
  simp [c1];refine Um T.fault (by omega) ?_;intro v I e3 D _;simp;refine J (by rw [H];simp [Wd]) e3 (by omega) B2lt (by rw [H];exact D) ?_;intro h4 B4 M;simp;exact Zbp rfl B4 rfl M
 by_cases U:ins<=i
 ·have H:Qw ins outs cs i k c=Wd 0 5:=by simp [Qw,U]
  simp [c1,B1'.hc,U];refine Um T.fault (by omega) ?_;intro v I e3 D _;simp;refine J (by rw [H];simp [Wd]) e3 (by omega) B2lt (by rw [H];exact D) ?_;intro h4 B4 M;simp;exact Zbp rfl B4 rfl M
 by_cases c3:k<0
 ·have H:Qw ins outs cs i k c=Wd 1 5:=by simp [Qw,c1,U,c3]
  simp [c1,B1'.hc,U,c3];refine Um T.fault (by omega) ?_;intro v I e3 D _;simp;refine J (by rw [H];simp [Wd]) e3 (by omega) B2lt (by rw [H];exact D) ?_;intro h4 B4 M;simp;exact Zbp rfl B4 rfl M
 by_cases c4:outs<=k
 ·have H:Qw ins outs cs i k c=Wd 1 5:=by simp [Qw,c1,U,c4]
  simp [c1,B1'.hc,U,c3,c4];refine Um T.fault (by omega) ?_;intro v I e3 D _;simp;refine J (by rw [H];simp [Wd]) e3 (by omega) B2lt (by rw [H];exact D) ?_;intro h4 B4 M;simp;exact Zbp rfl B4 rfl M
 simp [c1,B1'.hc,U,c3,c4];refine Q0 T.Weight ?_
 cases aa:Yt c with
 | false =>
  have H:Qw ins outs cs i k c=Wd 2 8:=by simp [Qw,c1,U,c3,c4,aa]
  simp;refine Um T.fault (by omega) ?_;intro v I e3 D _;simp;refine J (by rw [H];simp [Wd]) e3 (by omega) B2lt (by rw [H];exact D) ?_;intro h4 B4 M;simp;exact Zbp rfl B4 rfl M
 | true =>
  have H:Qw ins outs cs i k c=Us ins outs cs:=by simp [Qw,c1,U,c3,c4,aa]
  simp [Yj B1'];refine Zkx T (r.ext O) ?_;intro v I e3 D;have B13:=B1'.ext e3;have B23:=B2.ext e3;by_cases h0:(Us ins outs cs).2=0
  ·obtain ⟨a1,a2,a3,a4,a5,a6,a7⟩:=Zg0 h0;have:=D.here.nil h0;subst this;have r3:=r.ext (O.trans e3);have hl:=r.len;obtain ⟨w1,w2,p0,p1⟩:=Zgw (ins:=ins) (outs:=outs) (i:=i) (k:=k) (by omega) (by omega) (by omega) (by omega) a2 a4;have m3:=(Zh1 ⟨a1,a2⟩ ⟨a3,a4⟩).2;simp [B13.hc];refine Zh6 HC r3 (by omega) ?_;intro h4 G e4 o4 hs';have B14:=B13.ext e4;have B24:=B23.ext e4;have ab:∀ {lo:Nat},lo<=I.size->(G.nl=true\/lo<=G.b):=fun V=>hs'.imp id (fun h=>Xgk V h);have ak:b<I.size:=by have:=B13.lt;omega
   have ai:rb<I.size:=by have:=B23.lt;omega
   have X:G.nl=false:=by
    obtain ⟨ah,_,_,X⟩:=o4.blk (i:=(i * outs+k).toNat) (by rw [Vm];omega);exact X
   have al:I.size<=G.b:=hs'.resolve_left (by rw [X];simp);have ac:b≠G.b:=by omega
   have ad:rb≠G.b:=by omega
   simp [Xt.open,B14.hc,B14.hfz];have B15:=B14.set (o:=2) (v:=G.v);have B25:=B24.set_ne (b':=b) (o:=2) (v:=G.v) ag;have o5:=o4.mod (S:=fun j=>j=b) (Mod.set (b:=b) (o:=2) (v:=G.v) rfl) (fun _ h=>ac h.symm);have x5:Mod (fun j=>j=b) h4 (Vd h4 b 2 G.v):=Mod.set rfl;simp at B15;generalize Vd h4 b 2 G.v=h5 at *
   have ae:(i * outs+k).toNat<(Zq cs).length:=by rw [Vm];omega
   have af:i * outs+k<G.n:=by have:=o5.row64.len;omega
   obtain ⟨ah,A5,A5s,_⟩:=o5.blk ae;have Z:=o5.cell (Zg5 (l:=cs) (i:=(i * outs+k).toNat) (by omega));have o6:=o5.set (v:=.int .i64 c) ae;rw [Vn] at o6;have B16:=B15.set_ne (b':=G.b) (o:=G.o+(i * outs+k).toNat) (v:=.int .i64 c) ac;have B26:=B25.set_ne (b':=G.b) (o:=G.o+(i * outs+k).toNat) (v:=.int .i64 c) ad;have x6:Mod (fun j=>j=G.b) h5 (Vd h5 G.b (G.o+(i * outs+k).toNat) (.int .i64 c)):=Mod.set rfl;simp [B15.hc,w1,w2,Zm o5.ok,p0,af,Xt.open,Z,A5.hfz];generalize Vd h5 G.b (G.o+(i * outs+k).toNat) (.int .i64 c)=h6 at *
   simp [Yj B16];refine Zs B26 rfl rfl (by simp) ?_;intro h7 B7 m7;have o7:=o6.mod m7 (fun _ h=>ad h.symm);simp;refine Zbp rfl B7 rfl ?_;refine hr h7 _ ?_ ⟨ins,outs,G,_,.nilIface,rfl,?_,Z05 o7 (ab (by omega)),.inl ⟨by rw [H];exact h0,rfl,rfl,rfl⟩⟩
   ·exact (((((O.trans e3).trans e4).ext x5 (fun j hj=>by omega)).ext x6 (fun j hj=>by omega)).ext m7 (fun j hj=>by omega))
   rw [H,a7];exact W9.ok
  obtain ⟨t,u,hv⟩:=D.here.iface h0;subst hv;simp;refine J (by rw [H];exact h0) e3 (by omega) B2lt (by rw [H];exact D) ?_;intro h4 B4 M;simp;exact Zbp rfl B4 rfl M
end
end Go.Rm

