import Derived.Test.YtmpamfkkaakbfaaGreatDoorT03
import Derived.Test.YtmpamfkkaakbfaaGreatDoorT07
/- Parts EngV -/
set_option linter.unusedSimpArgs false
set_option linter.unusedVariables false
namespace Go.Rm
section
variable {Y:Sys} {h h':Za}
@[simp] theorem Z7m {k:IntKind} {n:Int}:(Value.int k n).cells=#[.int k n]:=rfl
@[simp] theorem Z6y {b:Bool}:(Value.bool b).cells=#[.bool b]:=rfl
@[simp] theorem Z37 {b:ByteArray}:(Value.string b).cells=#[.string b]:=rfl
@[simp] theorem Z9a {b:Option Addr}:(Value.pointer b).cells=#[.pointer b]:=rfl
@[simp] theorem Z5a {b:Option Addr} {n c:Nat}:(Value.slice b n c).cells=#[.slice b n c]:=rfl
@[simp] theorem Z5k {t:TypeId} {v:Value}:(Value.iface t v).cells=#[.iface t v]:=rfl
@[simp] theorem Zzp:(Value.nilIface).cells=#[.nilIface]:=rfl
@[simp] theorem Zf4 {c:Array Value}:(Value.agg c).cells=c:=rfl
theorem Zcx {v:Value} (hv:v.oneCell'=true):v.cells=#[v]:=by cases v <;> first | rfl | (cases hv)
@[simp] theorem Z8h {zero:Array Value} {r:List (Nat × Nat)}:Yg.sem Y h (.build zero r []) []=some (.agg zero):=rfl
theorem Zde {r D a b:Value} (G:a.oneCell'=true) (hb:b.oneCell'=true) :
  Yg.sem Y h (.build #[r,D] [(0,1),(1,1)] [0,1]) [a,b]=some (.agg #[a,b]):=by
 simp [Yg.sem,Instr.fill,Zcx G,Zcx hb]
theorem Zbe {r D G a b c:Value} (H:a.oneCell'=true) (hb:b.oneCell'=true) (hc:c.oneCell'=true) :
  Yg.sem Y h (.build #[r,D,G] [(0,1),(1,1),(2,1)] [0,1,2]) [a,b,c]=some (.agg #[a,b,c]):=by
 simp [Yg.sem,Instr.fill,Zcx H,Zcx hb,Zcx hc]
@[simp] theorem Zzs {r D G:Value} {p:ByteArray} {k:IntKind} {a:Int} {t:TypeId} {v:Value}:Yg.sem Y h (.build #[r,D,G] [(0,1),(1,1),(2,1)] [0,1,2]) [.string p,.int k a,.iface t v]=some (.agg #[.string p,.int k a,.iface t v]):=Zbe rfl rfl rfl
@[simp] theorem Z2f {r D:Value} {p:ByteArray} {k:IntKind} {a:Int}:Yg.sem Y h (.build #[r,D] [(0,1),(1,1)] [0,1]) [.string p,.int k a]=some (.agg #[.string p,.int k a]):=Zde rfl rfl
@[simp] theorem Zzq {r D:Value} {s:Sl} {k:IntKind} {a:Int}:Yg.sem Y h (.build #[r,D] [(0,1),(1,1)] [0,1]) [s.v,.int k a]=some (.agg #[s.v,.int k a]):=Zde rfl rfl
@[simp] theorem Zyg {r D:Value} {x:Option Addr} {n c:Nat} {k:IntKind} {a:Int}:Yg.sem Y h (.build #[r,D] [(0,1),(1,1)] [0,1]) [.slice x n c,.int k a]=some (.agg #[.slice x n c,.int k a]):=Zde rfl rfl
@[simp] theorem Z39 {r D G:Value} {k j:IntKind} {a b:Int} {s:Sl}:Yg.sem Y h (.build #[r,D,G] [(0,1),(1,1),(2,1)] [0,1,2]) [.int k a,.int j b,s.v]=some (.agg #[.int k a,.int j b,s.v]):=Zbe rfl rfl rfl
@[simp] theorem Z63 {neg:Bool} {s:Sl}:Yg.sem Y h (.eqs neg) [s.v,.slice none 0 0]=some (.bool (if neg then !s.nl else s.nl)):=by
 unfold Sl.v
 cases s.nl <;> cases neg <;> rfl
theorem Zd {K:Value->Za->Prop} {v:Value} (r:∀ (b:Nat) (h':Za),h.size<=b->Ys h' b v.cells->Ext h h'->K (.pointer (some ⟨b,0,none⟩)) h'):Ef.wp h K .new [v] :=
 fun _=>r _ _ (Xd6 _) Ys.new Mod.push
theorem Ys.ext {b:Nat} {c:Array Value} (hb:Ys h b c) (r:Ext h h'):Ys h' b c:=r.blk hb (fun h=>h)
theorem Zi {K:Value->Za->Prop} {b n:Nat} {c vs:Array Value} (hb:Ys h b c) (r:vs.size=n) (hc:c.size=n) (h1:∀ v∈vs.toList,v.oneCell'=true)
  (G:∀ h',Ys h' b vs->Mod (fun j=>j=b) h h'->K undef h'):Ef.wp h K (.store n) [.pointer (some ⟨b,0,none⟩),.agg vs]:=by
 obtain ⟨h',H,D,I,J⟩:=Zeu (o:=0) (vs:=vs.toList) hb (by simp; omega) h1
 refine ⟨r,?_⟩
 simp only [Zf4,H]
 refine G h' ?_ I
 have e:(c.toList.take 0++vs.toList++c.toList.drop (0+vs.toList.length)).toArray=vs:=by
  apply Xed
  simp [r,hc]
 rw [e] at D
 exact D
theorem Zy {b n:Nat} {vs:Array Value} (hb:Ys h b vs) (r:vs.size=n):rd h b 0 n=some vs.toList:=by
 have:=Zal (h:=h) (b:=b) (l:=vs.toList) (o:=0) fun i v D=>by rw [hb.hc]; simpa using D
 rw [<-r]
 simpa using this
theorem Yt {R:Value->Za->Prop} {e:List Value} {i n b:Nat} {vs:Array Value} (r:e.getD i undef = .pointer (some ⟨b,0,none⟩)) (hb:Ys h b vs) (D:vs.size=n) (G:R (.agg vs) h) :
  Q5 [.box i n true] R e h:=by
 unfold Q5
 simp only [Zbr,Res.ev,r,Zy hb D,if_true,Xer]
 simpa using G
theorem Zdb {R:Value->Za->Prop} {e:List Value} {i n b j:Nat} {vs:Array Value} (r:e.getD i undef = .pointer (some ⟨b,0,none⟩)) (hb:Ys h b vs) (D:vs.size=n) (G:R (.tuple #[.agg vs,e.getD j undef]) h) :
  Q5 [.box i n true,.n j] R e h:=by
 unfold Q5
 simp only [Zbr,Res.ev,r,Zy hb D,if_true,Xer]
 simpa using G
structure Zz (h:Za) (s:Sl) (cs:List Int):Prop where
 ok:s.ok
 len:cs.length=s.n
 val:∀ i,i<cs.length->hc h s.b (s.o+i)=some (.int .i64 (Zc cs i))
theorem Zz.ext {s:Sl} {cs:List Int} (r:Zz h s cs) (D:Ext h h'):Zz h' s cs:=⟨r.ok,r.len,fun i G=>D.hc (r.val i G) (fun h=>h)⟩
theorem Zz.mod {S:Nat->Prop} {s:Sl} {cs:List Int} (r:Zz h s cs) (G:Mod S h h') (hs:cs≠[]->¬ S s.b):Zz h' s cs:=⟨r.ok,r.len,fun i D=>G.hc (r.val i D) (hs (by intro e; rw [e] at D; simp at D))⟩
theorem Zz.at {s:Sl} {cs:List Int} {i:Nat} (r:Zz h s cs) (D:i<s.n):hc h s.b (s.o+i)=some (.int .i64 (Zc cs i)):=r.val i (by rw [r.len]; exact D)
def Zh (l:List Int):List Value:=l.map fun (k:Int)=>Value.int .i64 k
theorem Zf3 {l:List Int} {i:Nat} (h:i<l.length):(Zh l)[i]? = some (.int .i64 (Zc l i)):=by
 simp [Zh,Zc,h]
@[simp] theorem Wu {l:List Int}:(Zh l).length=l.length:=by simp [Zh]
theorem X4 {l:List Int} {i:Nat} {k:Int}:(Zh l).set i (.int .i64 k)=Zh (l.set i k):=by simp [Zh,Xfb]
theorem Zc3 {l:List Int}:∀ v∈Zh l,v.oneCell'=true:=by
 intro v hv
 simp only [Zh,Xg0] at hv
 obtain ⟨k,_,rfl⟩:=hv
 rfl
theorem Yb.row64 {s:Sl} {cs:List Int} (o:Yb h 1 s (Zh cs)):Zz h s cs :=
 ⟨o.ok,by have:=o.1; simpa using this,fun i r=>o.cell (Zf3 r)⟩
theorem Z26 {s:Sl} {cs:List Int} (r:Zz h s cs):rd h s.b s.o cs.length=some (Zh cs):=by
 have:=Zal (h:=h) (b:=s.b) (l:=Zh cs) (o:=s.o) fun i v G=>by
  have D:i<cs.length:=by
   have:=(List.getElem?_eq_some_iff.1 G).1
   simpa using this
  rw [Zf3 D] at G
  cases G
  exact r.val i D
 simpa using this
theorem Zcr {n:Nat} {t:TypeId} (r:n<=9223372036854775807):Yb (h.push (.cells (Array.replicate n (.int .i64 0)) t)) 1 (Sl.at h.size n n) (Zh (List.replicate n 0)):=by
 refine ⟨by simp,.inr ⟨rfl,rfl,rfl,Xd6 _,r,_,Ys.new,by simp,by simp [Zh]⟩⟩
theorem Zhk {t:TypeId} {sz:Nat}:Yb (h.push (.cells #[] t)) sz (Sl.at h.size 0 0) []:=by
 refine ⟨by simp,.inr ⟨rfl,rfl,rfl,Xd6 _,by simp,_,Ys.new,by simp,by simp⟩⟩
theorem Zfr {K:Value->Za->Prop} {sz:Nat}:Ef.wp h K (.bslice 0 sz #[] []) [] = ∀ t:TypeId,K (.slice (some ⟨h.size,0,none⟩) 0 0) (h.push (.cells #[] t)):=by
 have e:Xj #[] (0 * sz)=#[]:=Array.eq_empty_of_size_eq_zero (by simp [Xj])
 simp only [Nat.zero_mul] at e
 simp [Ef.wp,e,Instr.fill]
theorem Zbu {s:Sl} {cs:List Int} (r:Zz h s cs):Wq h 1 s.n s.v=some (Zh cs):=by
 have H:=Z26 r
 rw [r.len] at H
 unfold Sl.v
 cases D:s.nl with
 | true =>
  have:cs=[]:=Xe3 (by rw [r.len]; exact (r.ok.nil D).1)
  subst this
  rfl
 | false =>
  cases G:s.sp with
  | none=>simp only [Xeh,if_false,Wq,Xej]; exact H
  | some q =>
   have h0:s.n=0:=by
    have:=r.ok.spot.resolve_left (by rw [G]; simp)
    have:=r.ok.le; omega
   have:cs=[]:=Xe3 (by rw [r.len]; exact h0)
   subst this
   simp [Wq,h0,Zh]
theorem Zc4 {K:Value->Za->Prop} {s:Sl} {cs:List Int} (r:Zz h s cs) (V:s.n<=17592186044416) {h0:Za} {s0:Sl} (o:Yb h 1 s0 []) (hb:s0.nl=true\/h0.size<=s0.b) (G:Ext h0 h)
  (I:∀ (D:Sl) (h':Za),Yb h' 1 D (Zh cs)->(D.nl=true\/h0.size<=D.b)->Ext h0 h'->K D.v h'):Ef.wp h K (.append 1 8 #[.int .i64 0]) [s0.v,s.v]:=by
 have hz:s0.n=0:=by have:=o.1; simpa using this.symm
 refine Vx o (m:=s.n) (nw:=Zh cs) Yq (Zbu r) (by simp [r.len]) Zc3 rfl (by omega) (by omega) ?_
 intro D h' J M O hs'
 refine I D h' (by simpa using J) ?_ ?_
 ·rcases hs' with ⟨H,e2⟩ | ⟨H,e2⟩
  ·rw [H,e2]; exact hb
  ·have:=G.size; exact .inr (by omega)
 ·refine Mod.ext G O ?_
  rintro b ⟨R,U⟩
  rcases hb with hb | hb
  ·rw [R] at hb; cases hb
  ·rw [U]; exact hb
end
end Go.Rm
