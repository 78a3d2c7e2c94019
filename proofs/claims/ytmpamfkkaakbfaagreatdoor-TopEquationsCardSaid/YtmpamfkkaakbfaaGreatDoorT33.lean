import Derived.Test.YtmpamfkkaakbfaaGreatDoorT22
import Derived.Test.YtmpamfkkaakbfaaGreatDoorT12
/- Parts RGate12 RMap -/
set_option linter.unusedSimpArgs false
set_option linter.unusedVariables false
namespace Go.Rm
theorem Zol {l:List Int} {p:Int->Bool} (h:Zbf l):Zbf (l.filter p):=by
 have hp:l.Pairwise (· < ·):=by
  rw [Xgm]
  intro i j G D r
  have:=h i j r D
  simpa [Zc,G,D] using this
 have:=hp.filter p
 intro i j r D
 rw [Xgm] at this
 have:=this i j (by omega) D r
 simpa [Zc,D,show i<(l.filter p).length by omega] using this
theorem Zs0 {p:Yp->Bool}:∀ {l:List Yp} {k:Nat},(Vl p k l).Pairwise (· < ·):=by
 intro l
 induction l with
 | nil=>intro k; simp [Vl]
 | cons x r G =>
  intro k
  have e:Vl p k (x::r)=(if p x then [(k:Int)] else [])++Vl p (k+1) r:=by simp only [Vl]; split <;> simp_all
  rw [e,List.pairwise_append]
  refine ⟨by split <;> simp,G,fun a D b hb=>?_⟩
  obtain ⟨i,h1,H,I⟩:=Zrt.1 hb
  split at D
  ·simp at D; omega
  ·simp at D
theorem Z0j {l:List Int} (h:l.Pairwise (· < ·)):Zbf l:=by
 intro i j r D
 rw [Xgm] at h
 have:=h i j (by omega) D r
 simpa [Zc,D,show i<l.length by omega] using this
theorem Zok {N:Zg} {L:List (List Int)} {l:Int}:Zbf (Uf N L l):=Z0j Zs0
theorem Xc {N:Zg} {L:List (List Int)} {k c:Nat} {x:Bool}:Zbf (Zn N L k x c):=Zol Zok
theorem Zmd {N:Zg} {L:List (List Int)} (D:Yx N.vs.length L) (G:Yd N) {k c:Nat} (H:k<L.length) {x:Bool} {a:Nat}:(a:Int)∈Zn N L k x c ↔
  a<N.as.length/\Zc (Zq L k) (Zf N.as a).a.toNat≠Zc (Zq L k) (Zf N.as a).b.toNat/\Zc (Zq L k) (if x then (Zf N.as a).a.toNat else (Zf N.as a).b.toNat)=(c:Int):=by
 unfold Zn Zbz
 rw [Xfo,Zf5]
 have I:lvl L ((k:Int)+1)=Zq L k:=by
  unfold lvl Zfz
  rw [if_pos (by simp; omega)]
  congr 1
  omega
 rw [I]
 have U:=(Xi D H).1
 by_cases r:a<N.as.length
 ·have hv:Zt N.as.length (a:Int)=true:=by simp [Zt]; omega
  obtain ⟨J,M⟩:=G.arcs a r
  simp [Zt] at J M
  have O:(Zf N.as a).a.toNat<(Zq L k).length:=by omega
  have R:(Zf N.as a).b.toNat<(Zq L k).length:=by omega
  rw [hv]
  simp [Zar,r,O,R]
 ·have hv:Zt N.as.length (a:Int)=false:=by simp [Zt]; omega
  rw [hv]
  simp [r]
def Zcf (h:Za) (M:Nat) (l:List (Int × Value)):Prop:=∃ es clock,h[M]? = some (.map es clock)/\es.toList.map (fun e=>(e.key,e.val))=l.map fun p=>(Value.int .i64 p.1,p.2)
def Zag (l:List (Int × Value)) (x:Int):Option Value:=(l.find? fun p=>p.1 == x).map (·.2)
theorem Zhf {x:Int}:∀ {r:List MapEntry} {l:List (Int × Value)} {n:Nat},r.map (fun e=>(e.key,e.val))=l.map (fun p=>(Value.int .i64 p.1,p.2)) ->
  (∃ j v,Vm none (.int .i64 x) r n=some (some (j,v))/\Zag l x=some v)\/(Vm none (.int .i64 x) r n=some none/\Zag l x=none):=by
 intro r
 induction r with
 | nil =>
  intro l n h
  have:l=[]:=by simpa using h.symm
  subst this
  exact .inr ⟨rfl,rfl⟩
 | cons e r D =>
  intro l n h
  cases l with
  | nil=>simp at h
  | cons d l =>
   simp only [Xfi,Xgs,Prod.mk.injEq] at h
   obtain ⟨⟨h0,h1⟩,G⟩:=h
   unfold Vm
   rw [h0]
   by_cases q:x=d.1
   ·subst q
    refine .inl ⟨n,e.val,by simp [Zbk],by simp [Zag,h1]⟩
   ·have q':(x == d.1)=false:=by simpa using q
    have H:(d.1 == x)=false:=by simpa using fun e=>q e.symm
    have I:Zag (d::l) x=Zag l x:=by simp [Zag,Xhd,H]
    rw [I]
    rcases D (n:=n+1) G with ⟨j,v,f,hv⟩ | ⟨f,hv⟩
    ·exact .inl ⟨j,v,by simp [Zbk,q',f],hv⟩
    ·exact .inr ⟨by simp [Zbk,q',f],hv⟩
section
variable {Y:Sys} {h h':Za}
theorem Zcf.lt {l:List (Int × Value)} {M:Nat} (m:Zcf h M l):M<h.size:=by
 obtain ⟨D,r,hb,_⟩:=m
 exact (Array.getElem?_eq_some_iff.1 hb).1
theorem Zcf.mod {S:Nat->Prop} {l:List (Int × Value)} {M:Nat} (a:Zcf h M l) (m:Mod S h h') (hs:¬ S M):Zcf h' M l:=by
 have:=a.lt
 obtain ⟨D,r,hb,G⟩:=a
 exact ⟨D,r,by rw [m.get M this hs]; exact hb,G⟩
theorem Zcf.ext {l:List (Int × Value)} {M:Nat} (a:Zcf h M l) (e:Ext h h'):Zcf h' M l:=a.mod e fun h=>h
theorem Zhr {x:Int}:Zab none (.int .i64 x)=true:=rfl
theorem Zlz {l:List (Int × Value)} {M:Nat} (a:Zcf h M l) {x:Int} {z:Value}:Yg.sem Y h (.lookup none true z) [.map (some M),.int .i64 x]=some (.tuple #[(Zag l x).getD z,.bool (Zag l x).isSome]):=by
 obtain ⟨D,r,hb,G⟩:=a
 have H:Xz h (some M)=some D.toList:=by simp [Xz,hb]
 show Zdm h none true z (some M) (.int .i64 x)=_
 unfold Zdm
 rw [if_pos Zhr,H]
 rcases Zhf (x:=x) (n:=0) G with ⟨j,v,f,hv⟩ | ⟨f,hv⟩
 ·simp [f,hv]
 ·simp [f,hv]
theorem Zs9 {l:List (Int × Value)} {M:Nat} (a:Zcf h M l) {x:Int} {z:Value}:Yg.sem Y h (.lookup none false z) [.map (some M),.int .i64 x]=some ((Zag l x).getD z):=by
 obtain ⟨D,r,hb,G⟩:=a
 have H:Xz h (some M)=some D.toList:=by simp [Xz,hb]
 show Zdm h none false z (some M) (.int .i64 x)=_
 unfold Zdm
 rw [if_pos Zhr,H]
 rcases Zhf (x:=x) (n:=0) G with ⟨j,v,f,hv⟩ | ⟨f,hv⟩
 ·simp [f,hv]
 ·simp [f,hv]
theorem Zk2 {K:Value->Za->Prop} {l:List (Int × Value)} {M:Nat} {x:Int} {v:Value} (a:Zcf h M l) (H:Zag l x=none) (I:∀ h',Zcf h' M (l++[(x,v)])->Mod (fun j=>j=M) h h'->K undef h') :
  Ef.wp h K (.mupd none) [.map (some M),.int .i64 x,v]:=by
 have J:=a.lt
 obtain ⟨G,r,hb,D⟩:=a
 have hf:Vm none (.int .i64 x) G.toList 0=some none:=by
  rcases Zhf (x:=x) (n:=0) D with ⟨j,v,f,hv⟩ | ⟨f,_⟩
  ·rw [H] at hv; cases hv
  ·exact f
 simp only [Ef.wp,hb,Zhr,hf,true_and]
 refine I _ ⟨G.push ⟨.int .i64 x,v,r⟩,r+1,by simp [J],?_⟩ ⟨by simp,fun b O hs=>?_⟩
 ·simp [D]
 ·simp [Ne.symm hs]
theorem Zmh {K:Value->Za->Prop} (r:∀ M h',h.size<=M->Zcf h' M []->Ext h h'->K (.map (some M)) h'):Ef.wp h K .mkmap []:=by
 show K _ _
 exact r _ _ (Xd6 _) ⟨#[],0,by simp,rfl⟩ Mod.push
end
end Go.Rm
