import Derived.Test.YtnmnlnpbekafmaaGreatDoorT22
/- Parts. -/
set_option linter.unusedSimpArgs false
set_option linter.unusedVariables false
namespace Go.Rm
theorem Zo0 {l:Zb} {p:Int->Bool} (h:Zbz l):Zbz (l.filter p):=by
 have hp:l.Pairwise (· < ·):=by
  rw [Xg2];intro i j G D r;have:=h i j r D;simpa [Zl,G,D] using this
 have:=hp.filter p;intro i j r D;rw [Xg2] at this;have:=this i j (by omega) D r;simpa [Zl,D,show i<(l.filter p).length by omega] using this
theorem Zta {p:Xe->Bool}:∀ {l:List Xe} {k:Nat},(Uc p k l).Pairwise (· < ·):=by
 intro l
 induction l with
 | nil=>intro k;simp [Uc]
 | cons x r G =>
  intro k;have e:Uc p k (x::r)=(if p x then [(k:Int)] else [])++Uc p (k+1) r:=by simp only [Uc];split <;> simp_all
  rw [e,List.pairwise_append];refine ⟨by split <;> simp,G,fun a D b hb=>?_⟩;obtain ⟨i,h1,H,I⟩:=Zr1.1 hb
  split at D
  ·simp at D;omega
  simp at D
theorem Z0v {l:Zb} (h:l.Pairwise (· < ·)):Zbz l:=by
 intro i j r D;rw [Xg2] at h;have:=h i j (by omega) D r;simpa [Zl,D,show i<l.length by omega] using this
theorem Zoz {N:Zq} {L:Za} {l:Int}:Zbz (Uq N L l):=Z0v Zta
theorem Wa {N:Zq} {L:Za} {k c:Nat} {x:Bool}:Zbz (Zw N L k x c):=Zo0 Zoz
theorem Zmr {N:Zq} {L:Za} (D:Xf N.vs.length L) (G:Ym N) {k c:Nat} (H:k<L.length) {x:Bool} {a:Nat}:(a:Int)∈Zw N L k x c ↔
  a<N.as.length/\Zl (Zz L k) (Zp N.as a).a.toNat≠Zl (Zz L k) (Zp N.as a).b.toNat/\Zl (Zz L k) (if x then (Zp N.as a).a.toNat else (Zp N.as a).b.toNat)=(c:Int):=by
 unfold Zw Zcg;rw [Xf3,Zge];have I:lvl L ((k:Int)+1)=Zz L k:=by
  unfold lvl Zf7;rw [if_pos (by simp;omega)]
  congr 1
  omega
 rw [I];have U:=(Xx D H).1;by_cases r:a<N.as.length
 ·have hv:Ye N.as.length (a:Int)=true:=by simp [Ye];omega
  obtain ⟨J,M⟩:=G.arcs a r;simp [Ye] at J M;have O:(Zp N.as a).a.toNat<(Zz L k).length:=by omega
  have R:(Zp N.as a).b.toNat<(Zz L k).length:=by omega
  rw [hv];simp [Za8,r,O,R]
 have hv:Ye N.as.length (a:Int)=false:=by simp [Ye];omega
 rw [hv];simp [r]
def Zcw (h:Zk) (M:Nat) (l:List (Int × Value)):Prop:=∃ es clock,h[M]? = some (.map es clock)/\es.toList.map (fun e=>(e.key,e.val))=l.map fun p=>(Value.int .i64 p.1,p.2)
def Zax (l:List (Int × Value)) (x:Int):Option Value:=(l.find? fun p=>p.1 == x).map (·.2)
theorem Zhp {x:Int}:∀ {r:List MapEntry} {l:List (Int × Value)} {n:Nat},r.map (fun e=>(e.key,e.val))=l.map (fun p=>(Value.int .i64 p.1,p.2)) ->
  (∃ j v,Vx none (.int .i64 x) r n=some (some (j,v))/\Zax l x=some v)\/(Vx none (.int .i64 x) r n=some none/\Zax l x=none):=by
 intro r
 induction r with
 | nil =>
  intro l n h;have:l=[]:=by simpa using h.symm
  subst this;exact .inr ⟨rfl,rfl⟩
 | cons e r D =>
  intro l n h
  cases l with
  | nil=>simp at h
  | cons d l =>
   simp only [Xfu,Xg7,Prod.mk.injEq] at h;obtain ⟨⟨h0,h1⟩,G⟩:=h;unfold Vx;rw [h0];by_cases q:x=d.1
   ·subst q;refine .inl ⟨n,e.val,by simp [Zb2],by simp [Zax,h1]⟩
   have q':(x == d.1)=false:=by simpa using q
   have H:(d.1 == x)=false:=by simpa using fun e=>q e.symm
   have I:Zax (d::l) x=Zax l x:=by simp [Zax,H]
   rw [I];rcases D (n:=n+1) G with ⟨j,v,f,hv⟩ | ⟨f,hv⟩
   ·exact .inl ⟨j,v,by simp [Zb2,q',f],hv⟩
   exact .inr ⟨by simp [Zb2,q',f],hv⟩
section
variable {Y:Sys} {h h':Zk}
theorem Zcw.lt {l:List (Int × Value)} {M:Nat} (m:Zcw h M l):M<h.size:=by
 obtain ⟨D,r,hb,_⟩:=m;exact (Array.getElem?_eq_some_iff.1 hb).1
theorem Zcw.mod {S:Zf} {l:List (Int × Value)} {M:Nat} (a:Zcw h M l) (m:Mod S h h') (hs:¬ S M):Zcw h' M l:=by
 have:=a.lt;obtain ⟨D,r,hb,G⟩:=a;exact ⟨D,r,by rw [m.get M this hs];exact hb,G⟩
theorem Zcw.ext {l:List (Int × Value)} {M:Nat} (a:Zcw h M l) (e:Ext h h'):Zcw h' M l:=a.mod e fun h=>h
theorem Zh3 {x:Int}:Zas none (.int .i64 x)=true:=rfl
theorem Zmd {l:List (Int × Value)} {M:Nat} (a:Zcw h M l) {x:Int} {z:Value}:Ys.sem Y h (.lookup none true z) [.map (some M),.int .i64 x]=some (.tuple #[(Zax l x).getD z,.bool (Zax l x).isSome]):=by
 obtain ⟨D,r,hb,G⟩:=a;have H:Wh h (some M)=some D.toList:=by simp [Wh,hb]
 show Zd2 h none true z (some M) (.int .i64 x)=_;unfold Zd2;rw [if_pos Zh3,H];rcases Zhp (x:=x) (n:=0) G with ⟨j,v,f,hv⟩ | ⟨f,hv⟩
 ·simp [f,hv]
 simp [f,hv]
theorem Ztj {l:List (Int × Value)} {M:Nat} (a:Zcw h M l) {x:Int} {z:Value}:Ys.sem Y h (.lookup none false z) [.map (some M),.int .i64 x]=some ((Zax l x).getD z):=by
 obtain ⟨D,r,hb,G⟩:=a;have H:Wh h (some M)=some D.toList:=by simp [Wh,hb]
 show Zd2 h none false z (some M) (.int .i64 x)=_;unfold Zd2;rw [if_pos Zh3,H];rcases Zhp (x:=x) (n:=0) G with ⟨j,v,f,hv⟩ | ⟨f,hv⟩
 ·simp [f,hv]
 simp [f,hv]
theorem Zld {K:Ze} {l:List (Int × Value)} {M:Nat} {x:Int} {v:Value} (a:Zcw h M l) (H:Zax l x=none) (I:∀ h',Zcw h' M (l++[(x,v)])->Mod (fun j=>j=M) h h'->K undef h') :
  Ef.wp h K (.mupd none) [.map (some M),.int .i64 x,v]:=by
 have J:=a.lt;obtain ⟨G,r,hb,D⟩:=a;have hf:Vx none (.int .i64 x) G.toList 0=some none:=by
  rcases Zhp (x:=x) (n:=0) D with ⟨j,v,f,hv⟩ | ⟨f,_⟩
  ·rw [H] at hv;cases hv
  exact f
 simp only [Ef.wp,hb,Zh3,hf,true_and];refine I _ ⟨G.push ⟨.int .i64 x,v,r⟩,r+1,by simp [J],?_⟩ ⟨by simp,fun b O hs=>?_⟩
 ·simp [D]
 simp [Ne.symm hs]
theorem Zmv {K:Ze} (r:∀ M h',h.size<=M->Zcw h' M []->Ext h h'->K (.map (some M)) h'):Ef.wp h K .mkmap []:=by
 show K _ _;exact r _ _ (Xel _) ⟨#[],0,by simp,rfl⟩ Mod.push
end
end Go.Rm
