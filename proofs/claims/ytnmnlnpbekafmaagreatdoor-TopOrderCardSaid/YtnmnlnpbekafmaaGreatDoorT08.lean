import Derived.Test.YtnmnlnpbekafmaaGreatDoorT03
import Derived.Test.YtnmnlnpbekafmaaGreatDoorT07
/- Parts. -/
set_option linter.unusedSimpArgs false
set_option linter.unusedVariables false
namespace Go.Rm
section
variable {Y:Sys} {h h':Zk}
@[simp] theorem Z73 {k:IntKind} {n:Int}:(Value.int k n).cells=#[.int k n]:=rfl
@[simp] theorem Z7e {b:Bool}:(Value.bool b).cells=#[.bool b]:=rfl
@[simp] theorem Z4l {b:ByteArray}:(Value.string b).cells=#[.string b]:=rfl
@[simp] theorem Z9r {b:Option Addr}:(Value.pointer b).cells=#[.pointer b]:=rfl
@[simp] theorem Z5o {b:Option Addr} {n c:Nat}:(Value.slice b n c).cells=#[.slice b n c]:=rfl
@[simp] theorem Z5z {t:TypeId} {v:Value}:(Value.iface t v).cells=#[.iface t v]:=rfl
@[simp] theorem Zzy:(Value.nilIface).cells=#[.nilIface]:=rfl
@[simp] theorem Zgd {c:Array Value}:(Value.agg c).cells=c:=rfl
theorem Zdd {v:Value} (hv:v.oneCell'=true):v.cells=#[v]:=by cases v <;> first | rfl | (cases hv)
@[simp] theorem Z8x {zero:Array Value} {r:List (Nat × Nat)}:Ys.sem Y h (.build zero r []) []=some (.agg zero):=rfl
theorem Zdv {r D a b:Value} (G:a.oneCell'=true) (hb:b.oneCell'=true) :
  Ys.sem Y h (.build #[r,D] [(0,1),(1,1)] [0,1]) [a,b]=some (.agg #[a,b]):=by
 simp [Ys.sem,Instr.fill,Zdd G,Zdd hb]
theorem Zdn {r D G a b c:Value} (H:a.oneCell'=true) (hb:b.oneCell'=true) (hc:c.oneCell'=true) :
  Ys.sem Y h (.build #[r,D,G] [(0,1),(1,1),(2,1)] [0,1,2]) [a,b,c]=some (.agg #[a,b,c]):=by
 simp [Ys.sem,Instr.fill,Zdd H,Zdd hb,Zdd hc]
@[simp] theorem Zz1 {r D G:Value} {p:ByteArray} {k:IntKind} {a:Int} {t:TypeId} {v:Value}:Ys.sem Y h (.build #[r,D,G] [(0,1),(1,1),(2,1)] [0,1,2]) [.string p,.int k a,.iface t v]=some (.agg #[.string p,.int k a,.iface t v]):=Zdn rfl rfl rfl
@[simp] theorem Z2r {r D:Value} {p:ByteArray} {k:IntKind} {a:Int}:Ys.sem Y h (.build #[r,D] [(0,1),(1,1)] [0,1]) [.string p,.int k a]=some (.agg #[.string p,.int k a]):=Zdv rfl rfl
@[simp] theorem Zzz {r D:Value} {s:Sl} {k:IntKind} {a:Int}:Ys.sem Y h (.build #[r,D] [(0,1),(1,1)] [0,1]) [s.v,.int k a]=some (.agg #[s.v,.int k a]):=Zdv rfl rfl
@[simp] theorem Zyp {r D:Value} {x:Option Addr} {n c:Nat} {k:IntKind} {a:Int}:Ys.sem Y h (.build #[r,D] [(0,1),(1,1)] [0,1]) [.slice x n c,.int k a]=some (.agg #[.slice x n c,.int k a]):=Zdv rfl rfl
@[simp] theorem Z4n {r D G:Value} {k j:IntKind} {a b:Int} {s:Sl}:Ys.sem Y h (.build #[r,D,G] [(0,1),(1,1),(2,1)] [0,1,2]) [.int k a,.int j b,s.v]=some (.agg #[.int k a,.int j b,s.v]):=Zdn rfl rfl rfl
@[simp] theorem Z7j {neg:Bool} {s:Sl}:Ys.sem Y h (.eqs neg) [s.v,.slice none 0 0]=some (.bool (if neg then !s.nl else s.nl)):=by
 unfold Sl.v
 cases s.nl <;> cases neg <;> rfl
theorem Zn {K:Ze} {v:Value} (r:∀ (b:Nat) (h':Zk),h.size<=b->Xa h' b v.cells->Ext h h'->K (.pointer (some ⟨b,0,none⟩)) h'):Ef.wp h K .new [v] :=
 fun _=>r _ _ (Xel _) Xa.new Mod.push
theorem Xa.ext {b:Nat} {c:Array Value} (hb:Xa h b c) (r:Ext h h'):Xa h' b c:=r.blk hb (fun h=>h)
theorem Zr {K:Ze} {b n:Nat} {c vs:Array Value} (hb:Xa h b c) (r:vs.size=n) (hc:c.size=n) (h1:∀ v∈vs.toList,v.oneCell'=true)
  (G:∀ h',Xa h' b vs->Mod (fun j=>j=b) h h'->K undef h'):Ef.wp h K (.store n) [.pointer (some ⟨b,0,none⟩),.agg vs]:=by
 obtain ⟨h',H,D,I,J⟩:=Ze3 (o:=0) (vs:=vs.toList) hb (by simp;omega) h1;refine ⟨r,?_⟩;simp only [Zgd,H];refine G h' ?_ I;have e:(c.toList.take 0++vs.toList++c.toList.drop (0+vs.toList.length)).toArray=vs:=by
  apply Xes;simp [r,hc]
 rw [e] at D;exact D
theorem Yj {b n:Nat} {vs:Array Value} (hb:Xa h b vs) (r:vs.size=n):rd h b 0 n=some vs.toList:=by
 have:=Zad (h:=h) (b:=b) (l:=vs.toList) (o:=0) fun i v D=>by rw [hb.hc];simpa using D
 rw [<-r];simpa using this
theorem Xc {R:Ze} {e:Zc} {i n b:Nat} {vs:Array Value} (r:e.getD i undef = .pointer (some ⟨b,0,none⟩)) (hb:Xa h b vs) (D:vs.size=n) (G:R (.agg vs) h) :
  Q6 [.box i n true] R e h:=by
 unfold Q6;simp only [Zb8,Res.ev,r,Yj hb D,if_true,Xe6];simpa using G
theorem Zds {R:Ze} {e:Zc} {i n b j:Nat} {vs:Array Value} (r:e.getD i undef = .pointer (some ⟨b,0,none⟩)) (hb:Xa h b vs) (D:vs.size=n) (G:R (.tuple #[.agg vs,e.getD j undef]) h) :
  Q6 [.box i n true,.n j] R e h:=by
 unfold Q6;simp only [Zb8,Res.ev,r,Yj hb D,if_true,Xe6];simpa using G
structure Yf (h:Zk) (s:Sl) (cs:Zb):Prop where
 ok:s.ok
 len:cs.length=s.n
 val:∀ i,i<cs.length->hc h s.b (s.o+i)=some (.int .i64 (Zl cs i))
theorem Yf.ext {s:Sl} {cs:Zb} (r:Yf h s cs) (D:Ext h h'):Yf h' s cs:=⟨r.ok,r.len,fun i G=>D.hc (r.val i G) (fun h=>h)⟩
theorem Yf.mod {S:Zf} {s:Sl} {cs:Zb} (r:Yf h s cs) (G:Mod S h h') (hs:cs≠[]->¬ S s.b):Yf h' s cs:=⟨r.ok,r.len,fun i D=>G.hc (r.val i D) (hs (by intro e;rw [e] at D;simp at D))⟩
theorem Yf.at {s:Sl} {cs:Zb} {i:Nat} (r:Yf h s cs) (D:i<s.n):hc h s.b (s.o+i)=some (.int .i64 (Zl cs i)):=r.val i (by rw [r.len];exact D)
def Zt (l:Zb):Zc:=l.map fun (k:Int)=>Value.int .i64 k
theorem Zgb {l:Zb} {i:Nat} (h:i<l.length):(Zt l)[i]? = some (.int .i64 (Zl l i)):=by
 simp [Zt,Zl,h]
@[simp] theorem Vr {l:Zb}:(Zt l).length=l.length:=by simp [Zt]
theorem V8 {l:Zb} {i:Nat} {k:Int}:(Zt l).set i (.int .i64 k)=Zt (l.set i k):=by simp [Zt,Xfn]
theorem Zbt {l:Zb}:∀ v∈Zt l,v.oneCell'=true:=by
 intro v hv;simp only [Zt,Xhf] at hv;obtain ⟨k,_,rfl⟩:=hv
 rfl
theorem Yl.row64 {s:Sl} {cs:Zb} (o:Yl h 1 s (Zt cs)):Yf h s cs :=
 ⟨o.ok,by have:=o.1;simpa using this,fun i r=>o.cell (Zgb r)⟩
theorem Z3j {s:Sl} {cs:Zb} (r:Yf h s cs):rd h s.b s.o cs.length=some (Zt cs):=by
 have:=Zad (h:=h) (b:=s.b) (l:=Zt cs) (o:=s.o) fun i v G=>by
  have D:i<cs.length:=by
   have:=(List.getElem?_eq_some_iff.1 G).1;simpa using this
  rw [Zgb D] at G
  cases G
  exact r.val i D
 simpa using this
theorem Zc6 {n:Nat} {t:TypeId} (r:n<=9223372036854775807):Yl (h.push (.cells (Array.replicate n (.int .i64 0)) t)) 1 (Sl.at h.size n n) (Zt (List.replicate n 0)):=by
 refine ⟨by simp,.inr ⟨rfl,rfl,rfl,Xel _,r,_,Xa.new,by simp,by simp [Zt]⟩⟩
theorem Zhu {t:TypeId} {sz:Nat}:Yl (h.push (.cells #[] t)) sz (Sl.at h.size 0 0) []:=by
 refine ⟨by simp,.inr ⟨rfl,rfl,rfl,Xel _,by simp,_,Xa.new,by simp,by simp⟩⟩
theorem Zf2 {K:Ze} {sz:Nat}:Ef.wp h K (.bslice 0 sz #[] []) [] = ∀ t:TypeId,K (.slice (some ⟨h.size,0,none⟩) 0 0) (h.push (.cells #[] t)):=by
 have e:Xt #[] (0 * sz)=#[]:=Array.eq_empty_of_size_eq_zero (by simp [Xt]);simp only [Nat.zero_mul] at e;simp [Ef.wp,e,Instr.fill]
theorem Zau {s:Sl} {cs:Zb} (r:Yf h s cs):Wv h 1 s.n s.v=some (Zt cs):=by
 have H:=Z3j r;rw [r.len] at H;unfold Sl.v
 cases D:s.nl with
 | true =>
  have:cs=[]:=Xfb (by rw [r.len];exact (r.ok.nil D).1);subst this
  rfl
 | false =>
  cases G:s.sp with
  | none=>simp only [Xez,if_false,Wv,Xe1];exact H
  | some q =>
   have h0:s.n=0:=by
    have:=r.ok.spot.resolve_left (by rw [G];simp);have:=r.ok.le;omega
   have:cs=[]:=Xfb (by rw [r.len];exact h0);subst this;simp [Wv,h0,Zt]
theorem Zdk {K:Ze} {s:Sl} {cs:Zb} (r:Yf h s cs) (V:s.n<=17592186044416) {h0:Zk} {s0:Sl} (o:Yl h 1 s0 []) (hb:s0.nl=true\/h0.size<=s0.b) (G:Ext h0 h)
  (I:∀ (D:Sl) (h':Zk),Yl h' 1 D (Zt cs)->(D.nl=true\/h0.size<=D.b)->Ext h0 h'->K D.v h'):Ef.wp h K (.append 1 8 #[.int .i64 0]) [s0.v,s.v]:=by
 have hz:s0.n=0:=by have:=o.1;simpa using this.symm
 refine Vp o (m:=s.n) (nw:=Zt cs) Yy (Zau r) (by simp [r.len]) Zbt rfl (by omega) (by omega) ?_;intro D h' J M O hs';refine I D h' (by simpa using J) ?_ ?_
 ·rcases hs' with ⟨H,e2⟩ | ⟨H,e2⟩
  ·rw [H,e2];exact hb
  have:=G.size;exact .inr (by omega)
 refine Mod.ext G O ?_;rintro b ⟨R,U⟩;rcases hb with hb | hb
 ·rw [R] at hb;cases hb
 rw [U];exact hb
end
end Go.Rm
