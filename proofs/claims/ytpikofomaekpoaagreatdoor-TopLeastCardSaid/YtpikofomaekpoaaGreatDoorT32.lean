import Derived.Test.YtpikofomaekpoaaGreatDoorT21
/- Parts. -/
set_option linter.unusedSimpArgs false
set_option linter.unusedVariables false
namespace Go.Rm
theorem Zp7 {l:Zb} {p:Int->Bool} (h:Zcb l):Zcb (l.filter p):=by
 have hp:l.Pairwise (· < ·):=by
  rw [Xif];intro i j G D r;have:=h i j r D;simpa [Zl,G,D] using this
 have:=hp.filter p;intro i j r D;rw [Xif] at this;have:=this i j (by omega) D r;simpa [Zl,D,show i<(l.filter p).length by omega] using this
theorem Zum {p:Xe->Bool}:∀ {l:List Xe} {k:Nat},(Ud p k l).Pairwise (· < ·):=by
 intro l
 induction l with
 | nil=>intro k;simp [Ud]
 | cons x r ih =>
  intro k;have e:Ud p k (x::r)=(if p x then [(k:Int)] else [])++Ud p (k+1) r:=by simp only [Ud];split <;> simp_all
  rw [e,List.pairwise_append];refine ⟨by split <;> simp,ih,fun a D b hb=>?_⟩;obtain ⟨i,h1,G,H⟩:=Ztf.1 hb
  split at D
  ·simp at D;omega
  simp at D
theorem Z18 {l:Zb} (h:l.Pairwise (· < ·)):Zcb l:=by
 intro i j r D;rw [Xif] at h;have:=h i j (by omega) D r;simpa [Zl,D,show i<l.length by omega] using this
theorem Zp6 {N:Zr} {L:Za} {l:Int}:Zcb (Uv N L l):=Z18 Zum
theorem Xw {N:Zr} {L:Za} {k c:Nat} {x:Bool}:Zcb (Zx N L k x c):=Zp7 Zp6
theorem Znr {N:Zr} {L:Za} (D:Yv N.vs.length L) (G:Yl N) {k c:Nat} (H:k<L.length) {x:Bool} {a:Nat}:(a:Int)∈Zx N L k x c ↔
  a<N.as.length/\Zl (Ya L k) (Zp N.as a).a.toNat≠Zl (Ya L k) (Zp N.as a).b.toNat/\Zl (Ya L k) (if x then (Zp N.as a).a.toNat else (Zp N.as a).b.toNat)=(c:Int):=by
 unfold Zx Zcr;rw [Xhi,Zg7];have I:lvl L ((k:Int)+1)=Ya L k:=by
  unfold lvl Zg1;rw [if_pos (by simp;omega)]
  congr 1
  omega
 rw [I];have U:=(Xs D H).1;by_cases r:a<N.as.length
 ·have hv:Yf N.as.length (a:Int)=true:=by simp [Yf];omega
  obtain ⟨J,M⟩:=G.arcs a r;simp [Yf] at J M;have O:(Zp N.as a).a.toNat<(Ya L k).length:=by omega
  have R:(Zp N.as a).b.toNat<(Ya L k).length:=by omega
  rw [hv];simp [Zbg,r,O,R]
 have hv:Yf N.as.length (a:Int)=false:=by simp [Yf];omega
 rw [hv];simp [r]
def Zc7 (h:Zk) (M:Nat) (l:List (Int × Value)):Prop:=∃ es clock,h[M]? = some (.map es clock)/\es.toList.map (fun e=>(e.key,e.val))=l.map fun p=>(Value.int .i64 p.1,p.2)
def Za6 (l:List (Int × Value)) (x:Int):Option Value:=(l.find? fun p=>p.1 == x).map (·.2)
theorem Zii {x:Int}:∀ {r:List MapEntry} {l:List (Int × Value)} {n:Nat},r.map (fun e=>(e.key,e.val))=l.map (fun p=>(Value.int .i64 p.1,p.2)) ->
  (∃ j v,Ue none (.int .i64 x) r n=some (some (j,v))/\Za6 l x=some v)\/(Ue none (.int .i64 x) r n=some none/\Za6 l x=none):=by
 intro r
 induction r with
 | nil =>
  intro l n h;have:l=[]:=by simpa using h.symm
  subst this;exact .inr ⟨rfl,rfl⟩
 | cons e r ih =>
  intro l n h
  cases l with
  | nil=>simp at h
  | cons d l =>
   simp only [Xha,Xik,Prod.mk.injEq] at h;obtain ⟨⟨h0,h1⟩,D⟩:=h;unfold Ue;rw [h0];by_cases q:x=d.1
   ·subst q;refine .inl ⟨n,e.val,by simp [Zcd],by simp [Za6,h1]⟩
   have q':(x == d.1)=false:=by simpa using q
   have G:(d.1 == x)=false:=by simpa using fun e=>q e.symm
   have H:Za6 (d::l) x=Za6 l x:=by simp [Za6,G]
   rw [H];rcases ih (n:=n+1) D with ⟨j,v,f,hv⟩ | ⟨f,hv⟩
   ·exact .inl ⟨j,v,by simp [Zcd,q',f],hv⟩
   exact .inr ⟨by simp [Zcd,q',f],hv⟩
section
variable {Y:Sys} {h h':Zk}
theorem Zc7.lt {l:List (Int × Value)} {M:Nat} (m:Zc7 h M l):M<h.size:=by
 obtain ⟨D,r,hb,_⟩:=m;exact (Array.getElem?_eq_some_iff.1 hb).1
theorem Zc7.mod {S:Zf} {l:List (Int × Value)} {M:Nat} (a:Zc7 h M l) (m:Mod S h h') (hs:¬ S M):Zc7 h' M l:=by
 have:=a.lt;obtain ⟨D,r,hb,G⟩:=a;exact ⟨D,r,by rw [m.get M this hs];exact hb,G⟩
theorem Zc7.ext {l:List (Int × Value)} {M:Nat} (a:Zc7 h M l) (e:Ext h h'):Zc7 h' M l:=a.mod e fun h=>h
theorem Ziz {x:Int}:Za1 none (.int .i64 x)=true:=rfl
theorem Znd {l:List (Int × Value)} {M:Nat} (a:Zc7 h M l) {x:Int} {z:Value}:Yo.sem Y h (.lookup none true z) [.map (some M),.int .i64 x]=some (.tuple #[(Za6 l x).getD z,.bool (Za6 l x).isSome]):=by
 obtain ⟨D,r,hb,G⟩:=a;have H:Wm h (some M)=some D.toList:=by simp [Wm,hb]
 show Zed h none true z (some M) (.int .i64 x)=_;unfold Zed;rw [if_pos Ziz,H];rcases Zii (x:=x) (n:=0) G with ⟨j,v,f,hv⟩ | ⟨f,hv⟩
 ·simp [f,hv]
 simp [f,hv]
theorem Zux {l:List (Int × Value)} {M:Nat} (a:Zc7 h M l) {x:Int} {z:Value}:Yo.sem Y h (.lookup none false z) [.map (some M),.int .i64 x]=some ((Za6 l x).getD z):=by
 obtain ⟨D,r,hb,G⟩:=a;have H:Wm h (some M)=some D.toList:=by simp [Wm,hb]
 show Zed h none false z (some M) (.int .i64 x)=_;unfold Zed;rw [if_pos Ziz,H];rcases Zii (x:=x) (n:=0) G with ⟨j,v,f,hv⟩ | ⟨f,hv⟩
 ·simp [f,hv]
 simp [f,hv]
theorem Zmg {K:Ze} {l:List (Int × Value)} {M:Nat} {x:Int} {v:Value} (a:Zc7 h M l) (H:Za6 l x=none) (I:∀ h',Zc7 h' M (l++[(x,v)])->Mod (fun j=>j=M) h h'->K undef h') :
  Ef.wp h K (.mupd none) [.map (some M),.int .i64 x,v]:=by
 have J:=a.lt;obtain ⟨G,r,hb,D⟩:=a;have hf:Ue none (.int .i64 x) G.toList 0=some none:=by
  rcases Zii (x:=x) (n:=0) D with ⟨j,v,f,hv⟩ | ⟨f,_⟩
  ·rw [H] at hv;cases hv
  exact f
 simp only [Ef.wp,hb,Ziz,hf,true_and];refine I _ ⟨G.push ⟨.int .i64 x,v,r⟩,r+1,by simp [J],?_⟩ ⟨by simp,fun b O hs=>?_⟩
 ·simp [D]
 simp [Ne.symm hs]
theorem Znv {K:Ze} (r:∀ M h',h.size<=M->Zc7 h' M []->Ext h h'->K (.map (some M)) h'):Ef.wp h K .mkmap []:=by
 show K _ _;exact r _ _ (Xfy _) ⟨#[],0,by simp,rfl⟩ Mod.push
end
end Go.Rm
