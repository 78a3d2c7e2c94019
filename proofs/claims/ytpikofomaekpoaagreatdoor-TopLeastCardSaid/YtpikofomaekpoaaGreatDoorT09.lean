import Derived.Test.YtpikofomaekpoaaGreatDoorT08
/- Parts. -/
set_option linter.unusedSimpArgs false
set_option linter.unusedVariables false
namespace Go.Rm
section
variable {Y:Sys} {h:Zk}
theorem Zfk {K:Ze} {D G p a:Value} :
  Ef.wp h K (.bslice 1 2 #[D,G] [0]) [.agg #[p,a]] = ∀ t:TypeId,K (.slice (some ⟨h.size,0,none⟩) 1 1) (h.push (.cells #[p,a] t)):=by
 have e:Instr.fill (fun i=>some (i * 2,2)) (Xy #[D,G] (1 * 2)) ([0].zip [.agg #[p,a]])=some #[p,a]:=by
  simp [Instr.fill,Xy];apply Xhm
  ·simp
  intro i h1 r
  match i,r with
  | 0,_=>simp
  | 1,_=>simp
  | i+2,r=>exact absurd r (by simp)
 simp only [Ef.wp,e]
abbrev FWr (lo:Nat) (h:Zk) (w:Wr) (v:Value):Prop:=Zbb lo (fun h=>Zgp h w.1 w.2 v) h
theorem FWr.ok {lo:Nat}:FWr lo h Qg (.agg #[.slice none 0 0,.int .i64 0]):=fun h' _=>⟨Sl.nil,rfl,Sl.nil_ok,rfl,fun i x hx=>by simp [Qg] at hx⟩
theorem Zgp.shape {w:Wr} {v:Value} (r:Zgp h w.1 w.2 v):∃ s:Sl,v = .agg #[s.v,.int .i64 w.2]:=by
 obtain ⟨s,e,_⟩:=r;exact ⟨s,e⟩
theorem Q6 (HA:Y.Has 50 Y50) {p:ByteArray} {a c:Int} {R:Ze} (G:∀ h' v,Ext h h'->FWr h.size h' ([(p,a)],c) v->R v h') :
  Zv Y 50 [.string p,.int .i64 a,.int .i64 c] h R:=by
 refine .of_has HA rfl ?_;simp [Y50,Xm.wp];refine Zn ?_;intro b h1 J B1 r;simp [Zfk];intro t;have P2:Xb (h1.push (.cells #[.string p,.int .i64 a] t)) h1.size #[.string p,.int .i64 a]:=Xb.new;have e2:Ext h1 (h1.push (.cells #[.string p,.int .i64 a] t)):=Mod.push;have B2:=B1.ext e2;have M:=r.size;have B1lt:=B1.lt;generalize h1.push (.cells #[.string p,.int .i64 a] t)=O at *
 refine Zs B2 rfl rfl (by simp) ?_;intro H B3 D;simp;refine Xj rfl B3 rfl ?_;refine G H _ ((r.trans e2).ext D (fun j U=>by omega)) ?_;have P3:=D.blk P2 (by omega);intro h4 I;have P4:=I.blk P3 (by omega);refine ⟨Sl.at h1.size 1 1,rfl,⟨fun h=>(by cases h),by simp,.inl rfl⟩,rfl,?_⟩;intro i x hx
 match i with
 | 0 =>
  simp at hx;subst hx;exact ⟨by rw [show (Sl.at h1.size 1 1).b=h1.size from rfl,P4.hc];rfl,by rw [show (Sl.at h1.size 1 1).b=h1.size from rfl,P4.hc];rfl⟩
 | i+1=>simp at hx
theorem Zbw (H:Y.Has 49 Y49) {a:Int} {R:Ze} (r:R (.bool (Yt a)) h):Zv Y 49 [.int .i64 a] h R:=by
 refine .of_has H rfl ?_;simp [Y49,Xm.wp];by_cases h1:0<=a
 ·by_cases D:a<=2147483648
  ·have:Yt a=true:=by simp [Yt,h1,D]
   rw [this] at r;simp [h1,D,r]
  have:Yt a=decide (a=1152921504606846976):=by simp [Yt,h1,D]
  rw [this] at r;simp [h1,D,r]
 have:Yt a=decide (a=1152921504606846976):=by simp [Yt,h1]
 rw [this] at r;simp [h1,r]
structure RefCk (Y:Sys):Prop where
 At:Y.Has 50 Y50
 Weight:Y.Has 49 Y49
 Check:Y.Has 32 Y32
structure Zd4 (Y:Sys):Prop extends RefCk Y where
 TurnAt:Y.Has 41 Y41
instance:Coe (Zd4 Y) (RefCk Y):=⟨Zd4.toRefCk⟩
def Xcz (s:Sl) (cs:Zb) (tv:Value) (b rb:Nat) (ins outs:Int) (h0:Zk) (e:Zc) (h':Zk):Prop :=
 ∃ (i:Nat) (v4 v5 v6 v7 v8:Value),e=[tv,.pointer (some ⟨b,0,none⟩),.pointer (some ⟨rb,0,none⟩),.int .i64 i,v4,v5,v6,v7,v8]/\i<=s.n/\Wu 0 cs=Wu i (cs.drop i)/\h'=h0
theorem Zr9 (T:RefCk Y) {ins outs:Int} {s:Sl} {cs:Zb} (r:Yd h s cs) {R:Ze} (hr:∀ h' v,Ext h h'->FWr h.size h' (Us ins outs cs) v->R v h') :
  Zv Y 32 [Zfd ins outs s] h R:=by
 refine .of_has T.Check rfl ?_;simp [Y32,Xm.wp,Zfd];refine Zn ?_;intro b h1 g1 B1 e1;simp;refine Zn ?_;intro Z h2 g2 B2 e2;have B1':=B1.ext e2;have X:=e1.trans e2;have z1:=e1.size;have z2:=e2.size;have B2lt:=B2.lt;have r2:=r.ext X;have hl:=r.len;have J:∀ {a e:Int} {K:Ze},Us ins outs cs=Wd a e->(∀ h' v (hx:FWr h.size h' (Us ins outs cs) v),Ext h h'->Xb h' Z #[.slice none 0 0,.int .i64 0]->Z<h2.size ->
   FWr h2.size h' (Us ins outs cs) v->K v h')->Zv Y 50 [.string Z8r,.int .i64 a,.int .i64 e] h2 K:=by
  intro a e K I hk;refine Q6 T.At ?_;intro h' v e3 D;have D:FWr h2.size h' (Us ins outs cs) v:=by rw [I];exact D
  exact hk h' v (D.mono (by omega)) (X.trans e3) (B2.ext e3) B2lt D
 have H:∀ {h':Zk} {v:Value} {K:Ze},Ext h h'->Xb h' Z #[.slice none 0 0,.int .i64 0]->FWr h2.size h' (Us ins outs cs) v->(∀ h4 U,v = .agg U->Xb h4 Z U->U.size=2->R v h4->K undef h4) ->
   Ef.wp h' K (.store 2) [.pointer (some ⟨Z,0,none⟩),v]:=by
  intro h' v K e3 B3 D hk;obtain ⟨U,rfl⟩:=D.here.shape;refine Zs B3 rfl rfl (by simp) ?_;intro h4 B4 m4;exact hk h4 _ rfl B4 rfl (hr h4 _ (Mod.ext e3 m4 (fun j hj=>by omega)) ((D.step m4 (fun j hj=>by omega)).mono (by omega)))
 by_cases c1:ins<0
 ·have I:Us ins outs cs=Wd 0 1:=by simp [Us,Wl,c1,Wd]
  simp [B1'.hc,c1];refine J I ?_;intro h' v _ e3 B3 _ D;simp;refine H e3 B3 D ?_;rintro h4 U rfl B4 hs M;simp;exact Xj rfl B4 hs M
 by_cases V:16<ins
 ·have I:Us ins outs cs=Wd 0 1:=by simp [Us,Wl,V,Wd]
  simp [B1'.hc,c1,V];refine J I ?_;intro h' v _ e3 B3 _ D;simp;refine H e3 B3 D ?_;rintro h4 U rfl B4 hs M;simp;exact Xj rfl B4 hs M
 by_cases c3:outs<0
 ·have I:Us ins outs cs=Wd 1 1:=by simp [Us,Wl,c1,V,c3,Wd]
  simp [B1'.hc,c1,V,c3];refine J I ?_;intro h' v _ e3 B3 _ D;simp;refine H e3 B3 D ?_;rintro h4 U rfl B4 hs M;simp;exact Xj rfl B4 hs M
 by_cases c4:16<outs
 ·have I:Us ins outs cs=Wd 1 1:=by simp [Us,Wl,c1,V,c4,Wd]
  simp [B1'.hc,c1,V,c3,c4];refine J I ?_;intro h' v _ e3 B3 _ D;simp;refine H e3 B3 D ?_;rintro h4 U rfl B4 hs M;simp;exact Xj rfl B4 hs M
 have aa:Wl ins outs=Qg:=by simp [Wl,c1,V,c3,c4]
 obtain ⟨m1,m2,m3⟩:=Zh1 (a:=ins) (b:=outs) (by omega) (by omega);by_cases c5:(s.n:Int)=ins * outs
 ·have I:Us ins outs cs=match Wu 0 cs with | some i=>Wd (3+i) 8 | none=>Qg:=by
   simp only [Us,aa,hl,c5,Qg];simp
   rfl
  simp [B1'.hc,c1,V,c3,c4,m1,c5];refine Zt (Xcz s cs (.agg #[.int .i64 ins,.int .i64 outs,s.v]) b Z ins outs h2) (fun e _=>s.n-Zy e 3) ⟨0,_,_,_,_,_,rfl,by omega,by simp,rfl⟩ ?_;rintro e h3 ⟨i,v4,v5,v6,v7,v8,rfl,hi,G,rfl⟩;by_cases ac:i<s.n
  ·have O:(i:Int)<s.n:=by omega
   have w1:=Zj (i:=i) (by omega);have w3:IntKind.i64.wrap (3+(i:Int))=3+(i:Int):=Zo (by omega);rw [Zhg (by omega)] at G;simp [B1'.hc,O,Zm r2.ok,r2.at ac];refine Zbw T.Weight ?_
   cases ab:Yt (Zl cs i) with
   | true =>
    rw [ab] at G;simp [w1];exact ⟨⟨i+1,_,_,_,_,_,rfl,by omega,by simpa using G,rfl⟩,by simp [Zy];omega⟩
   | false =>
    rw [ab] at G;simp at G;rw [G] at I;simp [w3];refine J I ?_;intro h' v _ e3 B3 _ D;simp;refine H e3 B3 D ?_;rintro h4 U rfl B4 hs M;simp;exact Xj rfl B4 hs M
  have O:¬ (i:Int)<s.n:=by omega
  rw [Xgs (by omega)] at G;simp only [Wu] at G;rw [G] at I;simp [B1'.hc,O];refine Zs B2 rfl rfl (by simp) ?_;intro h4 B4 m4;simp;refine Xj rfl B4 rfl (hr h4 _ (Mod.ext X m4 (fun j hj=>by omega)) ?_);rw [I];exact FWr.ok
 have I:Us ins outs cs=Wd 2 9:=by
  simp only [Us,aa,hl,Qg];simp [c5]
 simp [B1'.hc,c1,V,c3,c4,m1,c5];refine J I ?_;intro h' v _ e3 B3 _ D;simp;refine H e3 B3 D ?_;rintro h4 U rfl B4 hs M;simp;exact Xj rfl B4 hs M
theorem Zqu (T:Zd4 Y) {ins outs i k:Int} {s:Sl} {cs:Zb} (r:Yd h s cs) (O:(Us ins outs cs).2=0) {R:Ze} (D:∀ h',Ext h h'->R (.int .i64 (atV ins outs cs i k)) h') :
  Zv Y 41 [Zfd ins outs s,.int .i64 i,.int .i64 k] h R:=by
 obtain ⟨a1,Z,a3,a4,a5,a6,a7⟩:=Zg0 O;have U:(Wl ins outs).2=0:=by
  unfold Wl;rw [if_neg (by omega),if_neg (by omega)];rfl
 refine .of_has T.TurnAt rfl ?_;simp [Y41,Xm.wp,Zfd];refine Zn ?_;intro b h1 g1 B1 H;have V:=r.ext H;have hl:=r.len;by_cases c1:i<0
 ·have hv:atV ins outs cs i k=1152921504606846976:=by simp [atV,c1]
  rw [hv] at D;simp [c1];exact D _ H
 by_cases I:ins<=i
 ·have hv:atV ins outs cs i k=1152921504606846976:=by simp [atV,I]
  rw [hv] at D;simp [c1,B1.hc,I];exact D _ H
 by_cases J:k<0
 ·have hv:atV ins outs cs i k=1152921504606846976:=by simp [atV,J]
  rw [hv] at D;simp [c1,B1.hc,I,J];exact D _ H
 by_cases M:outs<=k
 ·have hv:atV ins outs cs i k=1152921504606846976:=by simp [atV,M]
  rw [hv] at D;simp [c1,B1.hc,I,J,M];exact D _ H
 obtain ⟨w1,w2,p0,p1⟩:=Zgw (ins:=ins) (outs:=outs) (i:=i) (k:=k) (by omega) (by omega) (by omega) (by omega) Z a4;have X:i * outs+k<s.n:=by omega
 have hv:atV ins outs cs i k=Zl cs (i * outs+k).toNat:=by
  simp only [atV,c1,I,J,M,U,hl];simp [X]
 rw [hv] at D;have G:=V.at (i:=(i * outs+k).toNat) (by omega)
 simp [c1,B1.hc,I,J,M,w1,w2,X,Zm V.ok,p0,G];exact D _ H
end
end Go.Rm


namespace Go.Rm
section
variable {Y:Sys} {h:Zk}
theorem Xh {K:Ze} {v:Value} {n:Nat} {vs:Array Value} (H:v.cells.size=n) (hs:vs.size=n) (h1:∀ v∈vs.toList,v.oneCell'=true)
  (I:∀ (b:Nat) (r:Zk),h.size<=b->Xb r b v.cells->Ext h r->(∀ K2:Ze,(∀ D,Xb D b vs->Ext h D->K2 undef D)->Ef.wp r K2 (.store n) [.pointer (some ⟨b,0,none⟩),.agg vs]) ->
   K (.pointer (some ⟨b,0,none⟩)) r):Ef.wp h K .new [v]:=by
 refine Zn ?_;intro b r g2 B2 e2;refine I b r g2 B2 e2 ?_;intro K2 G;refine Zs B2 hs H h1 ?_;intro D B3 J;exact G D B3 (Mod.ext e2 J (fun j M=>by omega))
end
end Go.Rm
