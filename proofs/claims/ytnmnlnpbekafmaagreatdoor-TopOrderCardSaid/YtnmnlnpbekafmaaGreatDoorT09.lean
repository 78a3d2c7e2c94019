import Derived.Test.YtnmnlnpbekafmaaGreatDoorT08
import Derived.Test.YtnmnlnpbekafmaaGreatDoorT05
/- Parts. -/
set_option linter.unusedSimpArgs false
set_option linter.unusedVariables false
namespace Go.Rm
def Yu (a:Int):Bool:=decide (0<=a/\a<=2147483648) || decide (a=1152921504606846976)
abbrev Z7c:ByteArray:=⟨#[116,117,114,110]⟩
abbrev Wr:=List (ByteArray × Int) × Int
def Qa:Wr:=([],0)
def Wc (at' e:Int):Wr:=([(Z7c,at')],e)
def Wq:Nat->Zb->Option Nat
 | _,[]=>none
 | i,c::r=>if Yu c then Wq (i+1) r else some i
def Wo (ins outs:Int):Wr:=if ins<0\/16<ins then Wc 0 1 else if outs<0\/16<outs then Wc 1 1 else Qa
def Uo (ins outs:Int) (cs:Zb):Wr :=
 if (Wo ins outs).2≠0 then Wo ins outs
 else if (cs.length:Int)≠ins * outs then Wc 2 9
 else match Wq 0 cs with
  | some i=>Wc (3+i) 8
  | none=>Qa
theorem Zgp {l:Zb} {i:Nat} (r:i<l.length):Wq i (l.drop i)=if Yu (Zl l i) then Wq (i+1) (l.drop (i+1)) else some i:=by
 rw [Xfy r];simp only [Wq,Zl,Xet,Xfq r,Xgx]
section
variable {Y:Sys} {h:Zk}
def Err (Y:Sys) (h:Zk) (w:Wr) (v:Value):Prop:=Xdi Y h w.1 w.2 v
theorem Err.ok:Err Y h Qa .nilIface:=.inl ⟨rfl,rfl⟩
theorem Err.nil {v:Value} {w:Wr} (e:Err Y h w v) (h0:w.2=0):v = .nilIface:=by
 rcases e with ⟨_,e⟩ | ⟨e,_⟩
 ·exact e
 exact absurd h0 e
theorem Err.iface {v:Value} {w:Wr} (e:Err Y h w v) (h0:w.2≠0):∃ t u,v = .iface t u:=by
 rcases e with ⟨e,_⟩ | ⟨_,e⟩
 ·exact absurd e h0
 obtain ⟨l,c⟩:=w
 cases l with
 | nil=>exact ⟨_,_,e⟩
 | cons p ps=>obtain ⟨b,u,e,_⟩:=e;exact ⟨_,_,e⟩
def Za3 (lo:Nat) (P:Zk->Prop) (h:Zk):Prop:=∀ h',Mod (fun j=>j<lo) h h'->P h'
theorem Za3.here {lo:Nat} {P:Zk->Prop} {h:Zk} (f:Za3 lo P h):P h:=f h (Mod.refl h)
theorem Za3.mono {lo r:Nat} {P:Zk->Prop} {h:Zk} (f:Za3 lo P h) (D:r<=lo):Za3 r P h:=fun h' m=>f h' (m.mono fun _ _ h=>Xgm h D)
theorem Za3.step {lo:Nat} {S:Zf} {P:Zk->Prop} {h h':Zk} (f:Za3 lo P h) (m:Mod S h h') (hs:∀ j,S j->j<lo):Za3 lo P h':=fun r m'=>f r ((m.mono fun j _ h=>hs j h).trans m')
theorem Za3.ext {lo:Nat} {P:Zk->Prop} {h h':Zk} (f:Za3 lo P h) (m:Ext h h'):Za3 lo P h':=f.step m (fun _ h=>h.elim)
abbrev X6 (Y:Sys) (lo:Nat) (h:Zk) (w:Wr) (v:Value):Prop:=Za3 lo (fun h=>Err Y h w v) h
theorem X6.ok {lo:Nat}:X6 Y lo h Qa .nilIface:=fun _ _=>Err.ok
theorem U4 (H:Y.Has 55 Y55) {a:Int} {R:Ze} (r:R (.bool (Yu a)) h):Zv Y 55 [.int .i64 a] h R:=by
 refine .of_has H rfl ?_;simp [Y55,Xn.wp];by_cases h0:a=1152921504606846976
 ·have:Yu a=true:=by simp [Yu,h0]
  rw [this] at r;simp [h0,r]
 by_cases h1:0<=a
 ·have:Yu a=decide (a<=2147483648):=by simp [Yu,h0,h1]
  rw [this] at r;simp [h0,h1,r]
 have:Yu a=false:=by simp [Yu,h0];omega
 rw [this] at r;simp [h0,h1,r]
theorem Zew {b:Nat} {p:ByteArray} {a c:Int} (hb:Xa h b #[.string p,.int .i64 a,.iface (Y.tid 49) (.int .i64 c)]) (hc:c≠0) :
  Err Y h ([(p,a)],c) (.iface (Y.tid 50) (.pointer (some ⟨b,0,none⟩))) :=
 .inr ⟨hc,b,_,rfl,by rw [hb.hc];rfl,by rw [hb.hc];rfl,by rw [hb.hc];rfl,rfl⟩
theorem Ue (H:Y.Has 54 Y54) {a c:Int} (hc:c≠0) {R:Ze} (r:∀ v h',Ext h h'->X6 Y h.size h' (Wc a c) v->(∃ t u,v = .iface t u)->R v h') :
  Zv Y 54 [.int .i64 a,.int .i64 c] h R:=by
 refine .of_has H rfl ?_;simp [Y54,Xn.wp];refine Zn ?_;intro b h1 G B D;simp;exact r _ _ D (fun h' m=>Zew (m.blk B (by omega)) hc) ⟨_,_,rfl⟩
theorem Zjt (H:Y.Has 53 Y53) (Hf:Y.Has 54 Y54) {ins outs:Int} {R:Ze} (I:∀ v h',Ext h h'->X6 Y h.size h' (Wo ins outs) v->R v h') :
  Zv Y 53 [.int .i64 ins,.int .i64 outs] h R:=by
 refine .of_has H rfl ?_;by_cases c1:ins<0\/16<ins
 ·have J:Wo ins outs=Wc 0 1:=by simp [Wo,c1]
  rw [J] at I;have r:Zv Y 54 [.int .i64 0,.int .i64 1] h fun v h'=>R v h':=Ue Hf (by omega) fun v h' e U _=>I v h' e U;by_cases D:ins<0
  ·simp [Y53,Xn.wp,D];exact Zv.mono r fun v h' hv=>by simpa using hv
  have G:16<ins:=by omega
  simp [Y53,Xn.wp,D,G];exact Zv.mono r fun v h' hv=>by simpa using hv
 have D:¬ ins<0:=by omega
 have G:¬ 16<ins:=by omega
 by_cases V:outs<0\/16<outs
 ·have J:Wo ins outs=Wc 1 1:=by simp [Wo,D,G,V]
  rw [J] at I;have r:Zv Y 54 [.int .i64 1,.int .i64 1] h fun v h'=>R v h':=Ue Hf (by omega) fun v h' e U _=>I v h' e U;by_cases M:outs<0
  ·simp [Y53,Xn.wp,D,G,M];exact Zv.mono r fun v h' hv=>by simpa using hv
  have O:16<outs:=by omega
  simp [Y53,Xn.wp,D,G,M,O];exact Zv.mono r fun v h' hv=>by simpa using hv
 have M:¬ outs<0:=by omega
 have O:¬ 16<outs:=by omega
 have J:Wo ins outs=Qa:=by simp [Wo,D,G,M,O]
 rw [J] at I;simp [Y53,Xn.wp,D,G,M,O];exact I _ _ (Mod.refl h) X6.ok
def Zcc (ins outs:Int) (s:Sl):Value:=.agg #[.int .i64 ins,.int .i64 outs,s.v]
structure TurnCk (Y:Sys):Prop where
 Check:Y.Has 34 Y34
 sides:Y.Has 53 Y53
 fault:Y.Has 54 Y54
 Weight:Y.Has 55 Y55
structure Zce (Y:Sys):Prop extends TurnCk Y where
 At:Y.Has 40 Y40
instance:Coe (Zce Y) (TurnCk Y):=⟨Zce.toTurnCk⟩
theorem Zkm {ins outs:Int} (h0:(Wo ins outs).2=0):Wo ins outs=Qa/\0<=ins/\ins<=16/\0<=outs/\outs<=16:=by
 unfold Wo at h0 ⊢
 split at h0
 ·simp [Wc] at h0
 split at h0
 ·simp [Wc] at h0
 rename_i h1 r;rw [if_neg h1,if_neg r];refine ⟨rfl,?_,?_,?_,?_⟩ <;> omega
theorem Zha {a b:Int} (r:0<=a/\a<=16) (hb:0<=b/\b<=16):IntKind.i64.wrap (a * b)=a * b/\0<=a * b/\a * b<=256:=by
 have h1:0<=a * b:=Xhi r.1 hb.1;have D:a * b<=16 * 16:=Int.mul_le_mul r.2 hb.2 hb.1 (by omega);exact ⟨Zo (by omega),h1,by omega⟩
def Xd5 (s:Sl) (cs:Zb) (tv:Value) (b:Nat) (h0:Zk) (e:Zc) (h':Zk):Prop :=
 ∃ (i:Nat) (v3 v4 v5 v6 v7 v11 v12:Value),e=[tv,.pointer (some ⟨b,0,none⟩),.nilIface,v3,v4,v5,v6,v7,s.v,.int .i64 s.n,.int .i64 i,v11,v12]/\i<=s.n/\Wq 0 cs=Wq i (cs.drop i)/\Ext h0 h'
theorem Zju (T:TurnCk Y) {ins outs:Int} {s:Sl} {cs:Zb} (r:Yf h s cs) {R:Ze} (I:∀ v h',Ext h h'->X6 Y h.size h' (Uo ins outs cs) v->R v h') :
  Zv Y 34 [Zcc ins outs s] h R:=by
 refine .of_has T.Check rfl ?_;simp [Y34,Xn.wp,Zcc];refine Zn ?_;intro b h1 g1 B1 V;simp [B1.hc];refine Zjt T.sides T.fault ?_;intro v h2 e2 U;have G:=V.trans e2;have B2:=B1.ext e2;by_cases h0:(Wo ins outs).2=0
 ·obtain ⟨hs,a1,a2,a3,a4⟩:=Zkm h0;have:=U.here.nil h0;subst this;obtain ⟨m1,m2,m3⟩:=Zha ⟨a1,a2⟩ ⟨a3,a4⟩;have hl:=r.len;by_cases c1:(s.n:Int)=ins * outs
  ·have M:Uo ins outs cs=match Wq 0 cs with | some i=>Wc (3+i) 8 | none=>Qa:=by
    simp only [Uo,h0,hl,c1];simp
   rw [M] at I;simp [B2.hc,m1,c1];refine Zs (Xd5 s cs (.agg #[.int .i64 ins,.int .i64 outs,s.v]) b h) (fun e _=>s.n-Zy e 10) ⟨0,_,_,_,_,_,_,_,by rw [c1];rfl,by omega,by simp,G⟩ ?_;clear V e2 G U B1 B2;rintro e h3 ⟨i,v3,v4,v5,v6,v7,aa,ab,rfl,hi,D,e3⟩;have r3:=r.ext e3;by_cases X:i<s.n
   ·have H:(i:Int)<s.n:=by omega
    have w1:=Zj (i:=i) (by omega);have w3:IntKind.i64.wrap (3+(i:Int))=3+(i:Int):=Zo (by omega);rw [Zgp (by omega)] at D;simp [H,Zm r3.ok,r3.at X];refine U4 T.Weight ?_
    cases O:Yu (Zl cs i) with
    | true =>
     rw [O] at D;simp [w1];exact ⟨⟨i+1,_,_,_,_,_,_,_,rfl,by omega,by simpa using D,e3⟩,by simp [Zy];omega⟩
    | false =>
     rw [O] at D;simp at D;rw [D] at I;simp [w3];refine Ue T.fault (by omega) ?_;intro v h4 Z J _;simp;exact I _ _ (e3.trans Z) (J.mono e3.size)
   have H:¬ (i:Int)<s.n:=by omega
   rw [Xfh (by omega)] at D;simp only [Wq] at D;rw [D] at I;simp [H];exact I _ _ e3 X6.ok
  have M:Uo ins outs cs=Wc 2 9:=by
   simp only [Uo,h0,hl];simp [c1]
  rw [M] at I;simp [B2.hc,m1,c1];refine Ue T.fault (by omega) ?_;intro v h4 Z J _;simp;exact I _ _ (G.trans Z) (J.mono G.size)
 obtain ⟨t,u,hv⟩:=U.here.iface h0;have M:Uo ins outs cs=Wo ins outs:=by simp [Uo,h0]
 rw [M] at I;subst hv;simp;exact I _ _ G (U.mono V.size)
def atV (ins outs:Int) (cs:Zb) (i k:Int):Int :=
 if i<0\/ins<=i\/k<0\/outs<=k\/(Wo ins outs).2≠0 then 1152921504606846976
 else if i * outs+k<cs.length then Zl cs (i * outs+k).toNat else 1152921504606846976
theorem Zki {ins outs i k:Int} (h1:0<=i) (G:i<ins) (H:0<=k) (h4:k<outs) (I:ins<=16) (r:outs<=16) :
  IntKind.i64.wrap (i * outs)=i * outs/\IntKind.i64.wrap (i * outs+k)=i * outs+k/\0<=i * outs+k/\i * outs+k<ins * outs:=by
 have J:0<=i * outs:=Xhi h1 (by omega);have M:i * outs<=16 * 16:=Int.mul_le_mul (by omega) r (by omega) (by omega);have D:(i+1) * outs<=ins * outs:=Int.mul_le_mul_of_nonneg_right (by omega) (by omega);rw [Int.add_mul,Int.one_mul] at D;exact ⟨Zo (by omega),Zo (by omega),by omega,by omega⟩
theorem Zwk (T:Zce Y) {ins outs i k:Int} {s:Sl} {cs:Zb} (r:Yf h s cs) {R:Ze} (D:∀ h',Ext h h'->R (.int .i64 (atV ins outs cs i k)) h') :
  Zv Y 40 [Zcc ins outs s,.int .i64 i,.int .i64 k] h R:=by
 refine .of_has T.At rfl ?_;simp [Y40,Xn.wp,Zcc];refine Zn ?_;intro b h1 g1 B1 M;by_cases c1:i<0
 ·have hv:atV ins outs cs i k=1152921504606846976:=by simp [atV,c1]
  rw [hv] at D;simp [c1];exact D _ M
 by_cases H:ins<=i
 ·have hv:atV ins outs cs i k=1152921504606846976:=by simp [atV,H]
  rw [hv] at D;simp [c1,B1.hc,H];exact D _ M
 by_cases J:k<0
 ·have hv:atV ins outs cs i k=1152921504606846976:=by simp [atV,J]
  rw [hv] at D;simp [c1,B1.hc,H,J];exact D _ M
 by_cases O:outs<=k
 ·have hv:atV ins outs cs i k=1152921504606846976:=by simp [atV,O]
  rw [hv] at D;simp [c1,B1.hc,H,J,O];exact D _ M
 simp [c1,B1.hc,H,J,O];refine Zjt T.sides T.fault ?_;intro v h2 e2 X;have G:=M.trans e2;have B2:=B1.ext e2;have Z:=r.ext G;by_cases h0:(Wo ins outs).2=0
 ·obtain ⟨hs,a1,a2,a3,a4⟩:=Zkm h0;have:=X.here.nil h0;subst this;obtain ⟨w1,w2,p0,p1⟩:=Zki (ins:=ins) (outs:=outs) (i:=i) (k:=k) (by omega) (by omega) (by omega) (by omega) a2 a4;have hl:=r.len;by_cases U:i * outs+k<s.n
  ·have hv:atV ins outs cs i k=Zl cs (i * outs+k).toNat:=by
    simp only [atV,c1,H,J,O,h0,hl];simp [U]
   rw [hv] at D;have I:=Z.at (i:=(i * outs+k).toNat) (by omega)
   simp [B2.hc,w1,w2,U,Zm Z.ok,p0,I];exact D _ G
  have hv:atV ins outs cs i k=1152921504606846976:=by
   simp only [atV,c1,H,J,O,h0,hl];simp [U]
  rw [hv] at D;simp [B2.hc,w1,w2,U];exact D _ G
 obtain ⟨t,u,hv⟩:=X.here.iface h0;have V:atV ins outs cs i k=1152921504606846976:=by simp [atV,h0]
 rw [V] at D;subst hv;simp;exact D _ G
theorem Z4d {a b:Zb} (r:a.length=b.length) (h:∀ j,j<a.length->Zl a j=Zl b j):a=b:=by
 apply Xew r;intro i h1 D;have:=h i h1;simpa [Zl,h1,D] using this
theorem Zhe (HC:Y.Has 58 Y58) {s:Sl} {cs:Zb} (r:Yf h s cs) (H:s.n<=17592186044416) {R:Ze}
  (I:∀ h' G,Ext h h'->Yl h' 1 G (Zt cs)->(G.nl=true\/h.size<=G.b)->R G.v h'):Zv Y 58 [s.v] h R:=by
 refine .of_has HC rfl ?_
 cases D:s.nl with
 | true =>
  have:cs=[]:=Xfb (by rw [r.len];exact (r.ok.nil D).1);subst this;simp [Y58,Xn.wp,D];exact I h Sl.nil (Mod.refl h) Yl.nil (.inl rfl)
 | false =>
  simp [Y58,Xn.wp,D,Zf2];intro t;have J:Ext h (h.push (.cells #[] t)):=Mod.push;refine Zdk (r.ext J) H Zhu (.inr (Xel _)) J ?_;intro G h' o hb M;simp;exact I h' G M o hb
def Qr (ins outs:Int) (cs:Zb) (i k c:Int):Wr :=
 if i<0\/ins<=i then Wc 0 5 else if k<0\/outs<=k then Wc 1 5 else if Yu c=false then Wc 2 8 else Uo ins outs cs
theorem Zhx {ins outs:Int} {cs:Zb} (h0:(Uo ins outs cs).2=0):0<=ins/\ins<=16/\0<=outs/\outs<=16/\(cs.length:Int)=ins * outs/\Wq 0 cs=none/\Uo ins outs cs=Qa:=by
 unfold Uo at h0 ⊢
 split at h0
 ·rename_i h1;exact absurd h0 h1
 rename_i h1;have h1:(Wo ins outs).2=0:=by simpa using h1
 obtain ⟨_,D,G,H,I⟩:=Zkm h1
 split at h0
 ·simp [Wc] at h0
 rename_i r;have r:(cs.length:Int)=ins * outs:=by simpa using r
 refine ⟨D,G,H,I,r,?_⟩
 split at h0
 ·simp [Wc] at h0
 rename_i J;exact ⟨J,by simp [h1,r]⟩
def Xbc (Y:Sys) (lo:Nat) (h':Zk) (ins outs:Int) (cs:Zb) (i k c:Int) (v:Value):Prop :=
 ∃ ins' outs' s' cs' u,v = .tuple #[Zcc ins' outs' s',u]/\X6 Y lo h' (Qr ins outs cs i k c) u/\Za3 lo (fun h=>Yf h s' cs') h' /\
  (((Qr ins outs cs i k c).2=0/\ins'=ins/\outs'=outs/\cs'=cs.set (i * outs+k).toNat c)\/((Qr ins outs cs i k c).2≠0/\ins'=0/\outs'=0/\s'=Sl.nil/\cs'=[]))
theorem Yf.nil:Yf h Sl.nil []:=⟨Sl.nil_ok,rfl,fun i r=>by simp at r⟩
theorem Zxs {lo:Nat} {s:Sl} {cs:Zb} {h':Zk} (o:Yl h' 1 s (Zt cs)) (hs:s.nl=true\/lo<=s.b):Za3 lo (fun h=>Yl h 1 s (Zt cs)) h':=fun r m=>o.mod m (fun D=>by
 rcases hs with hs | hs
 ·rw [D] at hs;cases hs
 omega)
theorem Zzn {lo:Nat} {s:Sl} {cs:Zb} {h':Zk} (o:Yl h' 1 s (Zt cs)) (hs:s.nl=true\/lo<=s.b):Za3 lo (fun h=>Yf h s cs) h':=fun r m=>(Zxs o hs r m).row64
theorem Zxn (HW:Y.Has 38 Y38) (HC:Y.Has 58 Y58) (T:Zce Y) {ins outs i k c:Int} {s:Sl} {cs:Zb} (r:Yf h s cs) {R:Ze}
  (hr:∀ h' v,Ext h h'->Xbc Y h.size h' ins outs cs i k c v->R v h'):Zv Y 38 [Zcc ins outs s,.int .i64 i,.int .i64 k,.int .i64 c] h R:=by
 refine .of_has HW rfl ?_;simp [Y38,Xn.wp,Zcc];refine Zn ?_;intro b h1 g1 B1 e1;simp;refine Zn ?_;intro rb h2 g2 B2 e2;have B1':=B1.ext e2;have O:=e1.trans e2;have ag:rb≠b:=by have:=B1.lt;omega
 have z1:=e1.size;have z2:=e2.size;have J:∀ {I:Zk} {v:Value} {lo:Nat} {K:Ze},(Qr ins outs cs i k c).2≠0->Ext h2 I->h.size<=lo->rb<lo->X6 Y lo I (Qr ins outs cs i k c) v ->
   (∀ h4,Xa h4 rb #[.int .i64 0,.int .i64 0,.slice none 0 0]->R (.tuple #[.agg #[.int .i64 0,.int .i64 0,.slice none 0 0],v]) h4->K undef h4) ->
   Ef.wp I K (.store 3) [.pointer (some ⟨rb,0,none⟩),.agg #[.int .i64 0,.int .i64 0,.slice none 0 0]]:=by
  intro I v lo K H e3 V aj D hk;refine Zr (B2.ext e3) rfl rfl (by simp) ?_;intro h4 B4 m4;refine hk h4 B4 (hr h4 _ (Mod.ext (O.trans e3) m4 (fun j hj=>by omega)) ⟨0,0,Sl.nil,[],v,rfl,(D.step m4 (fun j hj=>by omega)).mono V,fun _ _=>Yf.nil,.inr ⟨H,rfl,rfl,rfl,rfl⟩⟩)
 have B2lt:=B2.lt;by_cases c1:i<0
 ·have H:Qr ins outs cs i k c=Wc 0 5:=by simp [Qr,c1]
  simp [c1];refine Ue T.fault (by omega) ?_;intro v I e3 D _;simp;refine J (by rw [H];simp [Wc]) e3 (by omega) B2lt (by rw [H];exact D) ?_;intro h4 B4 M;simp;exact Zds rfl B4 rfl M
 by_cases U:ins<=i
 ·have H:Qr ins outs cs i k c=Wc 0 5:=by simp [Qr,U]
  simp [c1,B1'.hc,U];refine Ue T.fault (by omega) ?_;intro v I e3 D _;simp;refine J (by rw [H];simp [Wc]) e3 (by omega) B2lt (by rw [H];exact D) ?_;intro h4 B4 M;simp;exact Zds rfl B4 rfl M
 by_cases c3:k<0
 ·have H:Qr ins outs cs i k c=Wc 1 5:=by simp [Qr,c1,U,c3]
  simp [c1,B1'.hc,U,c3];refine Ue T.fault (by omega) ?_;intro v I e3 D _;simp;refine J (by rw [H];simp [Wc]) e3 (by omega) B2lt (by rw [H];exact D) ?_;intro h4 B4 M;simp;exact Zds rfl B4 rfl M
 by_cases c4:outs<=k
 ·have H:Qr ins outs cs i k c=Wc 1 5:=by simp [Qr,c1,U,c4]
  simp [c1,B1'.hc,U,c3,c4];refine Ue T.fault (by omega) ?_;intro v I e3 D _;simp;refine J (by rw [H];simp [Wc]) e3 (by omega) B2lt (by rw [H];exact D) ?_;intro h4 B4 M;simp;exact Zds rfl B4 rfl M
 simp [c1,B1'.hc,U,c3,c4];refine U4 T.Weight ?_
 cases aa:Yu c with
 | false =>
  have H:Qr ins outs cs i k c=Wc 2 8:=by simp [Qr,c1,U,c3,c4,aa]
  simp;refine Ue T.fault (by omega) ?_;intro v I e3 D _;simp;refine J (by rw [H];simp [Wc]) e3 (by omega) B2lt (by rw [H];exact D) ?_;intro h4 B4 M;simp;exact Zds rfl B4 rfl M
 | true =>
  have H:Qr ins outs cs i k c=Uo ins outs cs:=by simp [Qr,c1,U,c3,c4,aa]
  simp [Yj B1'];refine Zju T (r.ext O) ?_;intro v I e3 D;have B13:=B1'.ext e3;have B23:=B2.ext e3;by_cases h0:(Uo ins outs cs).2=0
  ·obtain ⟨a1,a2,a3,a4,a5,a6,a7⟩:=Zhx h0;have:=D.here.nil h0;subst this;have r3:=r.ext (O.trans e3);have hl:=r.len;obtain ⟨w1,w2,p0,p1⟩:=Zki (ins:=ins) (outs:=outs) (i:=i) (k:=k) (by omega) (by omega) (by omega) (by omega) a2 a4;have m3:=(Zha ⟨a1,a2⟩ ⟨a3,a4⟩).2;simp [B13.hc];refine Zhe HC r3 (by omega) ?_;intro h4 G e4 o4 hs';have B14:=B13.ext e4;have B24:=B23.ext e4;have ab:∀ {lo:Nat},lo<=I.size->(G.nl=true\/lo<=G.b):=fun V=>hs'.imp id (fun h=>Xfc V h);have ak:b<I.size:=by have:=B13.lt;omega
   have ai:rb<I.size:=by have:=B23.lt;omega
   have X:G.nl=false:=by
    obtain ⟨ah,_,_,X⟩:=o4.blk (i:=(i * outs+k).toNat) (by rw [Vr];omega);exact X
   have al:I.size<=G.b:=hs'.resolve_left (by rw [X];simp);have ac:b≠G.b:=by omega
   have ad:rb≠G.b:=by omega
   simp [Xo.open,B14.hc,B14.hfz];have B15:=B14.set (o:=2) (v:=G.v);have B25:=B24.set_ne (b':=b) (o:=2) (v:=G.v) ag;have o5:=o4.mod (S:=fun j=>j=b) (Mod.set (b:=b) (o:=2) (v:=G.v) rfl) (fun _ h=>ac h.symm);have x5:Mod (fun j=>j=b) h4 (Wy h4 b 2 G.v):=Mod.set rfl;simp at B15;generalize Wy h4 b 2 G.v=h5 at *
   have ae:(i * outs+k).toNat<(Zt cs).length:=by rw [Vr];omega
   have af:i * outs+k<G.n:=by have:=o5.row64.len;omega
   obtain ⟨ah,A5,A5s,_⟩:=o5.blk ae;have Z:=o5.cell (Zgb (l:=cs) (i:=(i * outs+k).toNat) (by omega));have o6:=o5.set (v:=.int .i64 c) ae;rw [V8] at o6;have B16:=B15.set_ne (b':=G.b) (o:=G.o+(i * outs+k).toNat) (v:=.int .i64 c) ac;have B26:=B25.set_ne (b':=G.b) (o:=G.o+(i * outs+k).toNat) (v:=.int .i64 c) ad;have x6:Mod (fun j=>j=G.b) h5 (Wy h5 G.b (G.o+(i * outs+k).toNat) (.int .i64 c)):=Mod.set rfl;simp [B15.hc,w1,w2,Zm o5.ok,p0,af,Xo.open,Z,A5.hfz];generalize Wy h5 G.b (G.o+(i * outs+k).toNat) (.int .i64 c)=h6 at *
   simp [Yj B16];refine Zr B26 rfl rfl (by simp) ?_;intro h7 B7 m7;have o7:=o6.mod m7 (fun _ h=>ad h.symm);simp;refine Zds rfl B7 rfl ?_;refine hr h7 _ ?_ ⟨ins,outs,G,_,.nilIface,rfl,?_,Zzn o7 (ab (by omega)),.inl ⟨by rw [H];exact h0,rfl,rfl,rfl⟩⟩
   ·exact (((((O.trans e3).trans e4).ext x5 (fun j hj=>by omega)).ext x6 (fun j hj=>by omega)).ext m7 (fun j hj=>by omega))
   rw [H,a7];exact X6.ok
  obtain ⟨t,u,hv⟩:=D.here.iface h0;subst hv;simp;refine J (by rw [H];exact h0) e3 (by omega) B2lt (by rw [H];exact D) ?_;intro h4 B4 M;simp;exact Zds rfl B4 rfl M
end
end Go.Rm

