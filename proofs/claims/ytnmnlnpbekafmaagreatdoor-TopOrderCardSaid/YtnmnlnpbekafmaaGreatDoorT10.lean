import Derived.Test.YtnmnlnpbekafmaaGreatDoorT09
/- Parts. -/
set_option linter.unusedSimpArgs false
set_option linter.unusedVariables false
namespace Go.Rm
section
variable {Y:Sys} {h:Zk}
theorem Ze2 {K:Ze} {D G p a:Value} :
  Ef.wp h K (.bslice 1 2 #[D,G] [0]) [.agg #[p,a]] = ∀ t:TypeId,K (.slice (some ⟨h.size,0,none⟩) 1 1) (h.push (.cells #[p,a] t)):=by
 have e:Instr.fill (fun i=>some (i * 2,2)) (Xt #[D,G] (1 * 2)) ([0].zip [.agg #[p,a]])=some #[p,a]:=by
  simp [Instr.fill,Xt];apply Xf4
  ·simp
  intro i h1 r
  match i,r with
  | 0,_=>simp
  | 1,_=>simp
  | i+2,r=>exact absurd r (by simp)
 simp only [Ef.wp,e]
abbrev FWr (lo:Nat) (h:Zk) (w:Wr) (v:Value):Prop:=Za3 lo (fun h=>Zf1 h w.1 w.2 v) h
theorem FWr.ok {lo:Nat}:FWr lo h Qa (.agg #[.slice none 0 0,.int .i64 0]):=fun h' _=>⟨Sl.nil,rfl,Sl.nil_ok,rfl,fun i x hx=>by simp [Qa] at hx⟩
theorem Zf1.shape {w:Wr} {v:Value} (r:Zf1 h w.1 w.2 v):∃ s:Sl,v = .agg #[s.v,.int .i64 w.2]:=by
 obtain ⟨s,e,_⟩:=r;exact ⟨s,e⟩
theorem U8 (HA:Y.Has 50 Y50) {p:ByteArray} {a c:Int} {R:Ze} (G:∀ h' v,Ext h h'->FWr h.size h' ([(p,a)],c) v->R v h') :
  Zv Y 50 [.string p,.int .i64 a,.int .i64 c] h R:=by
 refine .of_has HA rfl ?_;simp [Y50,Xn.wp];refine Zn ?_;intro b h1 J B1 r;simp [Ze2];intro t;have P2:Xa (h1.push (.cells #[.string p,.int .i64 a] t)) h1.size #[.string p,.int .i64 a]:=Xa.new;have e2:Ext h1 (h1.push (.cells #[.string p,.int .i64 a] t)):=Mod.push;have B2:=B1.ext e2;have M:=r.size;have B1lt:=B1.lt;generalize h1.push (.cells #[.string p,.int .i64 a] t)=O at *
 refine Zr B2 rfl rfl (by simp) ?_;intro H B3 D;simp;refine Xc rfl B3 rfl ?_;refine G H _ ((r.trans e2).ext D (fun j U=>by omega)) ?_;have P3:=D.blk P2 (by omega);intro h4 I;have P4:=I.blk P3 (by omega);refine ⟨Sl.at h1.size 1 1,rfl,⟨fun h=>(by cases h),by simp,.inl rfl⟩,rfl,?_⟩;intro i x hx
 match i with
 | 0 =>
  simp at hx;subst hx;exact ⟨by rw [show (Sl.at h1.size 1 1).b=h1.size from rfl,P4.hc];rfl,by rw [show (Sl.at h1.size 1 1).b=h1.size from rfl,P4.hc];rfl⟩
 | i+1=>simp at hx
theorem Zbi (H:Y.Has 49 Y49) {a:Int} {R:Ze} (r:R (.bool (Yu a)) h):Zv Y 49 [.int .i64 a] h R:=by
 refine .of_has H rfl ?_;simp [Y49,Xn.wp];by_cases h1:0<=a
 ·by_cases D:a<=2147483648
  ·have:Yu a=true:=by simp [Yu,h1,D]
   rw [this] at r;simp [h1,D,r]
  have:Yu a=decide (a=1152921504606846976):=by simp [Yu,h1,D]
  rw [this] at r;simp [h1,D,r]
 have:Yu a=decide (a=1152921504606846976):=by simp [Yu,h1]
 rw [this] at r;simp [h1,r]
structure Zz5 (Y:Sys):Prop where
 At:Y.Has 50 Y50
 Weight:Y.Has 49 Y49
 Check:Y.Has 32 Y32
structure Zod (Y:Sys):Prop where
 SameT:Y.Has 37 Y37
 SameC:Y.Has 57 Y57
def Xbh (s:Sl) (cs:Zb) (tv:Value) (b rb:Nat) (ins outs:Int) (h0:Zk) (e:Zc) (h':Zk):Prop :=
 ∃ (i:Nat) (v4 v5 v6 v7 v8:Value),e=[tv,.pointer (some ⟨b,0,none⟩),.pointer (some ⟨rb,0,none⟩),.int .i64 i,v4,v5,v6,v7,v8]/\i<=s.n/\Wq 0 cs=Wq i (cs.drop i)/\h'=h0
theorem Zqz (T:Zz5 Y) {ins outs:Int} {s:Sl} {cs:Zb} (r:Yf h s cs) {R:Ze} (hr:∀ h' v,Ext h h'->FWr h.size h' (Uo ins outs cs) v->R v h') :
  Zv Y 32 [Zcc ins outs s] h R:=by
 refine .of_has T.Check rfl ?_;simp [Y32,Xn.wp,Zcc];refine Zn ?_;intro b h1 g1 B1 e1;simp;refine Zn ?_;intro Z h2 g2 B2 e2;have B1':=B1.ext e2;have X:=e1.trans e2;have z1:=e1.size;have z2:=e2.size;have B2lt:=B2.lt;have r2:=r.ext X;have hl:=r.len;have J:∀ {a e:Int} {K:Ze},Uo ins outs cs=Wc a e->(∀ h' v (hx:FWr h.size h' (Uo ins outs cs) v),Ext h h'->Xa h' Z #[.slice none 0 0,.int .i64 0]->Z<h2.size ->
   FWr h2.size h' (Uo ins outs cs) v->K v h')->Zv Y 50 [.string Z7c,.int .i64 a,.int .i64 e] h2 K:=by
  intro a e K I hk;refine U8 T.At ?_;intro h' v e3 D;have D:FWr h2.size h' (Uo ins outs cs) v:=by rw [I];exact D
  exact hk h' v (D.mono (by omega)) (X.trans e3) (B2.ext e3) B2lt D
 have H:∀ {h':Zk} {v:Value} {K:Ze},Ext h h'->Xa h' Z #[.slice none 0 0,.int .i64 0]->FWr h2.size h' (Uo ins outs cs) v->(∀ h4 U,v = .agg U->Xa h4 Z U->U.size=2->R v h4->K undef h4) ->
   Ef.wp h' K (.store 2) [.pointer (some ⟨Z,0,none⟩),v]:=by
  intro h' v K e3 B3 D hk;obtain ⟨U,rfl⟩:=D.here.shape;refine Zr B3 rfl rfl (by simp) ?_;intro h4 B4 m4;exact hk h4 _ rfl B4 rfl (hr h4 _ (Mod.ext e3 m4 (fun j hj=>by omega)) ((D.step m4 (fun j hj=>by omega)).mono (by omega)))
 by_cases c1:ins<0
 ·have I:Uo ins outs cs=Wc 0 1:=by simp [Uo,Wo,c1,Wc]
  simp [B1'.hc,c1];refine J I ?_;intro h' v _ e3 B3 _ D;simp;refine H e3 B3 D ?_;rintro h4 U rfl B4 hs M;simp;exact Xc rfl B4 hs M
 by_cases V:16<ins
 ·have I:Uo ins outs cs=Wc 0 1:=by simp [Uo,Wo,V,Wc]
  simp [B1'.hc,c1,V];refine J I ?_;intro h' v _ e3 B3 _ D;simp;refine H e3 B3 D ?_;rintro h4 U rfl B4 hs M;simp;exact Xc rfl B4 hs M
 by_cases c3:outs<0
 ·have I:Uo ins outs cs=Wc 1 1:=by simp [Uo,Wo,c1,V,c3,Wc]
  simp [B1'.hc,c1,V,c3];refine J I ?_;intro h' v _ e3 B3 _ D;simp;refine H e3 B3 D ?_;rintro h4 U rfl B4 hs M;simp;exact Xc rfl B4 hs M
 by_cases c4:16<outs
 ·have I:Uo ins outs cs=Wc 1 1:=by simp [Uo,Wo,c1,V,c4,Wc]
  simp [B1'.hc,c1,V,c3,c4];refine J I ?_;intro h' v _ e3 B3 _ D;simp;refine H e3 B3 D ?_;rintro h4 U rfl B4 hs M;simp;exact Xc rfl B4 hs M
 have aa:Wo ins outs=Qa:=by simp [Wo,c1,V,c3,c4]
 obtain ⟨m1,m2,m3⟩:=Zha (a:=ins) (b:=outs) (by omega) (by omega);by_cases c5:(s.n:Int)=ins * outs
 ·have I:Uo ins outs cs=match Wq 0 cs with | some i=>Wc (3+i) 8 | none=>Qa:=by
   simp only [Uo,aa,hl,c5,Qa];simp
   rfl
  simp [B1'.hc,c1,V,c3,c4,m1,c5];refine Zs (Xbh s cs (.agg #[.int .i64 ins,.int .i64 outs,s.v]) b Z ins outs h2) (fun e _=>s.n-Zy e 3) ⟨0,_,_,_,_,_,rfl,by omega,by simp,rfl⟩ ?_;rintro e h3 ⟨i,v4,v5,v6,v7,v8,rfl,hi,G,rfl⟩;by_cases ac:i<s.n
  ·have O:(i:Int)<s.n:=by omega
   have w1:=Zj (i:=i) (by omega);have w3:IntKind.i64.wrap (3+(i:Int))=3+(i:Int):=Zo (by omega);rw [Zgp (by omega)] at G;simp [B1'.hc,O,Zm r2.ok,r2.at ac];refine Zbi T.Weight ?_
   cases ab:Yu (Zl cs i) with
   | true =>
    rw [ab] at G;simp [w1];exact ⟨⟨i+1,_,_,_,_,_,rfl,by omega,by simpa using G,rfl⟩,by simp [Zy];omega⟩
   | false =>
    rw [ab] at G;simp at G;rw [G] at I;simp [w3];refine J I ?_;intro h' v _ e3 B3 _ D;simp;refine H e3 B3 D ?_;rintro h4 U rfl B4 hs M;simp;exact Xc rfl B4 hs M
  have O:¬ (i:Int)<s.n:=by omega
  rw [Xfh (by omega)] at G;simp only [Wq] at G;rw [G] at I;simp [B1'.hc,O];refine Zr B2 rfl rfl (by simp) ?_;intro h4 B4 m4;simp;refine Xc rfl B4 rfl (hr h4 _ (Mod.ext X m4 (fun j hj=>by omega)) ?_);rw [I];exact FWr.ok
 have I:Uo ins outs cs=Wc 2 9:=by
  simp only [Uo,aa,hl,Qa];simp [c5]
 simp [B1'.hc,c1,V,c3,c4,m1,c5];refine J I ?_;intro h' v _ e3 B3 _ D;simp;refine H e3 B3 D ?_;rintro h4 U rfl B4 hs M;simp;exact Xc rfl B4 hs M
def Z8c (s t:Sl) (a b:Zb) (h:Zk) (e:Zc) (h':Zk):Prop :=
 ∃ (i:Nat) (v4 v5 v6:Value),e=[s.v,t.v,.bool false,.int .i64 i,v4,v5,v6]/\i<=s.n/\(∀ j,j<i->Zl a j=Zl b j)/\h'=h
theorem Zia (HE:Y.Has 57 Y57) {s t:Sl} {a b:Zb} (I:Yf h s a) (J:Yf h t b) (V:s.n<=4611686018427387904) {R:Ze} (H:R (.bool (decide (a=b))) h) :
  Zv Y 57 [s.v,t.v] h R:=by
 refine .of_has HE rfl ?_;have X:=I.len;have lb:=J.len;by_cases Z:s.n=t.n
 ·have M:(s.n:Int)=t.n:=by omega
  simp [Y57,Xn.wp,Z];refine Zs (Z8c s t a b h) (fun e _=>s.n-Zy e 3) ⟨0,_,_,_,rfl,by omega,fun j U=>by omega,rfl⟩ ?_;rintro e h' ⟨i,v4,v5,v6,rfl,hi,D,rfl⟩;by_cases O:i<s.n
  ·have r:(i:Int)<s.n:=by omega
   have G:(i:Int)<t.n:=by omega
   have w1:=Zj (i:=i) (by omega);by_cases hc:Zl a i=Zl b i
   ·simp [r,G,Zm I.ok,Zm J.ok,I.at O,J.at (i:=i) (by omega),hc,w1];refine ⟨⟨i+1,_,_,_,rfl,by omega,fun j U=>?_,rfl⟩,by simp [Zy];omega⟩;rcases Nat.lt_succ_iff_lt_or_eq.1 U with g | rfl
    ·exact D j g
    exact hc
   have:decide (a=b)=false:=by
    rw [decide_eq_false_iff_not];intro e;exact hc (by rw [e])
   rw [this] at H;simp [r,G,Zm I.ok,Zm J.ok,I.at O,J.at (i:=i) (by omega),hc,H]
  have r:¬ (i:Int)<s.n:=by omega
  have:decide (a=b)=true:=by
   rw [decide_eq_true_iff];exact Z4d (by omega) fun j U=>D j (by omega)
  rw [this] at H;simp [r,H]
 have:decide (a=b)=false:=by
  rw [decide_eq_false_iff_not];intro e;rw [e] at X;omega
 rw [this] at H;have M:¬ (s.n:Int)=t.n:=by omega
 simp [Y57,Xn.wp,M,H]
theorem Zsy (T:Zod Y) {ins outs D r:Int} {s t:Sl} {a b:Zb} (M:Yf h s a) (O:Yf h t b) (J:s.n<=1000000)
  {R:Ze} (H:∀ h',Ext h h'->R (.bool (decide (ins=D/\outs=r/\a=b))) h'):Zv Y 37 [Zcc ins outs s,Zcc D r t] h R:=by
 refine .of_has T.SameT rfl ?_;simp [Y37,Xn.wp,Zcc];refine Zn ?_;intro V h1 X B1 U;simp;refine Zn ?_;intro Z h2 g2 B2 e2;have B1':=B1.ext e2;have G:=U.trans e2;by_cases c1:ins=D
 ·by_cases I:outs=r
  ·simp [B1'.hc,B2.hc,c1,I];refine Zia T.SameC (M.ext G) (O.ext G) (by omega) ?_;have:decide (ins=D/\outs=r/\a=b)=decide (a=b):=by simp [c1,I]
   rw [this] at H;simp;exact H _ G
  have:decide (ins=D/\outs=r/\a=b)=false:=by simp [I]
  rw [this] at H;simp [B1'.hc,B2.hc,c1,I];exact H _ G
 have:decide (ins=D/\outs=r/\a=b)=false:=by simp [c1]
 rw [this] at H;simp [B1'.hc,B2.hc,c1];exact H _ G
end
end Go.Rm


namespace Go.Rm
section
variable {Y:Sys} {h:Zk}
theorem Xd {K:Ze} {v:Value} {n:Nat} {vs:Array Value} (H:v.cells.size=n) (hs:vs.size=n) (h1:∀ v∈vs.toList,v.oneCell'=true)
  (I:∀ (b:Nat) (r:Zk),h.size<=b->Xa r b v.cells->Ext h r->(∀ K2:Ze,(∀ D,Xa D b vs->Ext h D->K2 undef D)->Ef.wp r K2 (.store n) [.pointer (some ⟨b,0,none⟩),.agg vs]) ->
   K (.pointer (some ⟨b,0,none⟩)) r):Ef.wp h K .new [v]:=by
 refine Zn ?_;intro b r g2 B2 e2;refine I b r g2 B2 e2 ?_;intro K2 G;refine Zr B2 hs H h1 ?_;intro D B3 J;exact G D B3 (Mod.ext e2 J (fun j M=>by omega))
theorem Z4v (HO:Y.Has 44 Y44) {ins outs:Int} {s:Sl} {R:Ze} (D:∀ h',Ext h h'->R (Zcc ins outs s) h'):Zv Y 44 [Zcc ins outs s] h R:=by
 refine .of_has HO rfl ?_;simp [Y44,Xn.wp,Zcc];refine Zn ?_;intro b h1 I B1 r;simp;refine Zn ?_;intro J M g2 B2 e2;have B1':=B1.ext e2;have O:=r.size;simp [B1'.hc];refine Zr B2 rfl rfl (by simp) ?_;intro G B5 H;simp;exact Xc rfl B5 rfl (D G (Mod.ext (r.trans e2) H (fun j U=>by omega)))
end
end Go.Rm
