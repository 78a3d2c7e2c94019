import Derived.Test.YtmpamfkkaakbfaaGreatDoorT37
/- Parts RMap2 -/
set_option linter.unusedSimpArgs false
set_option linter.unusedVariables false
namespace Go.Rm
def Ze7 (x:Nat × Nat):Value:=.agg #[.int .i64 x.1,.int .i64 x.2]
def Zlc (h:Za) (M:Nat) (l:List ((Nat × Nat) × Value)):Prop:=∃ es clock,h[M]? = some (.map es clock)/\es.toList.map (fun e=>(e.key,e.val))=l.map fun p=>(Ze7 p.1,p.2)
def Zdo (l:List ((Nat × Nat) × Value)) (x:Nat × Nat):Option Value:=(l.find? fun p=>p.1 == x).map (·.2)
theorem Z4h {c d:Nat × Nat}:Zbk (some 2) (Ze7 c) (Ze7 d)=some (d == c):=by
 obtain ⟨r,D⟩:=c
 obtain ⟨G,H⟩:=d
 simp [Ze7,Zbk,Qf]
 rw [Xf5]
 simp
 omega
theorem Zvo {c:Nat × Nat}:Zab (some 2) (Ze7 c)=true:=by simp [Ze7,Zab,Znp]
theorem Zvj {x:Nat × Nat}:∀ {r:List MapEntry} {l:List ((Nat × Nat) × Value)} {n:Nat},r.map (fun e=>(e.key,e.val))=l.map (fun p=>(Ze7 p.1,p.2)) ->
  (∃ j v,Vm (some 2) (Ze7 x) r n=some (some (j,v))/\Zdo l x=some v)\/(Vm (some 2) (Ze7 x) r n=some none/\Zdo l x=none):=by
 intro r
 induction r with
 | nil =>
  intro l n h
  have:l=[]:=by simpa using h.symm
  subst this
  exact .inr ⟨rfl,rfl⟩
 | cons e r D =>
  intro l n h
  cases l with
  | nil=>simp at h
  | cons d l =>
   simp only [Xfi,Xgs,Prod.mk.injEq] at h
   obtain ⟨⟨h0,h1⟩,G⟩:=h
   unfold Vm
   rw [h0,Z4h]
   cases q:d.1 == x with
   | true=>exact .inl ⟨n,e.val,rfl,by simp [Zdo,Xhd,q,h1]⟩
   | false =>
    have H:Zdo (d::l) x=Zdo l x:=by simp [Zdo,Xhd,q]
    rw [H]
    rcases D (n:=n+1) G with ⟨j,v,f,hv⟩ | ⟨f,hv⟩
    ·exact .inl ⟨j,v,f,hv⟩
    ·exact .inr ⟨f,hv⟩
theorem Zx2 {l:List ((Nat × Nat) × Value)} {x:Nat × Nat} {v:Value} (h:Zdo l x=some v):(x,v)∈l:=by
 unfold Zdo at h
 rw [Xd7] at h
 obtain ⟨p,h1,D⟩:=h
 have r:=Xg9 h1
 have h4:=Xg8 h1
 simp at r
 obtain ⟨a,b⟩:=p
 simp at D r
 subst D r
 exact h4
section
variable {Y:Sys} {h h':Za}
theorem Zlc.lt {l:List ((Nat × Nat) × Value)} {M:Nat} (m:Zlc h M l):M<h.size:=by
 obtain ⟨D,r,hb,_⟩:=m
 exact (Array.getElem?_eq_some_iff.1 hb).1
theorem Zlc.mod {S:Nat->Prop} {l:List ((Nat × Nat) × Value)} {M:Nat} (a:Zlc h M l) (m:Mod S h h') (hs:¬ S M):Zlc h' M l:=by
 have:=a.lt
 obtain ⟨D,r,hb,G⟩:=a
 exact ⟨D,r,by rw [m.get M this hs]; exact hb,G⟩
theorem Zze {l:List ((Nat × Nat) × Value)} {M:Nat} (a:Zlc h M l) {x:Nat × Nat} {z:Value}:Yg.sem Y h (.lookup (some 2) true z) [.map (some M),Ze7 x]=some (.tuple #[(Zdo l x).getD z,.bool (Zdo l x).isSome]):=by
 obtain ⟨D,r,hb,G⟩:=a
 have H:Xz h (some M)=some D.toList:=by simp [Xz,hb]
 show Zdm h (some 2) true z (some M) (Ze7 x)=_
 unfold Zdm
 rw [if_pos Zvo,H]
 rcases Zvj (x:=x) (n:=0) G with ⟨j,v,f,hv⟩ | ⟨f,hv⟩
 ·simp [f,hv]
 ·simp [f,hv]
theorem Z2h {K:Value->Za->Prop} {l:List ((Nat × Nat) × Value)} {M:Nat} {x:Nat × Nat} {v:Value} (a:Zlc h M l) (H:Zdo l x=none) (I:∀ h',Zlc h' M (l++[(x,v)])->Mod (fun j=>j=M) h h'->K undef h') :
  Ef.wp h K (.mupd (some 2)) [.map (some M),Ze7 x,v]:=by
 have J:=a.lt
 obtain ⟨G,r,hb,D⟩:=a
 have hf:Vm (some 2) (Ze7 x) G.toList 0=some none:=by
  rcases Zvj (x:=x) (n:=0) D with ⟨j,v,f,hv⟩ | ⟨f,_⟩
  ·rw [H] at hv; cases hv
  ·exact f
 simp only [Ef.wp,hb,Zvo,hf,true_and]
 refine I _ ⟨G.push ⟨Ze7 x,v,r⟩,r+1,by simp [J],?_⟩ ⟨by simp,fun b O hs=>?_⟩
 ·simp [D]
 ·simp [Ne.symm hs]
theorem Zy8 {K:Value->Za->Prop} (r:∀ M h',h.size<=M->Zlc h' M []->Ext h h'->K (.map (some M)) h'):Ef.wp h K .mkmap []:=by
 show K _ _
 exact r _ _ (Xd6 _) ⟨#[],0,by simp,rfl⟩ Mod.push
structure GtE (h:Za) (W:Nat->Prop) (N:Zg) (L:List (List Int)) (x:Nat × Nat) (v:Value):Prop where
 ex:∃ a b:Sl,v = .agg #[a.v,b.v]/\Zz h a (Zn N L (x.1-1) false x.2)/\Zz h b (Zn N L (x.1-1) true x.2)/\(Zn N L (x.1-1) false x.2≠[]->¬ W a.b)/\(Zn N L (x.1-1) true x.2≠[]->¬ W b.b)
structure GtH (h:Za) (M:Nat) (W:Nat->Prop) (N:Zg) (L:List (List Int)):Prop where
 ex:∃ l,Zlc h M l/\∀ p,p∈l->GtE h W N L p.1 p.2
 wM:W M
theorem GtE.mod {W S:Nat->Prop} {N:Zg} {L:List (List Int)} {x:Nat × Nat} {v:Value} (g:GtE h W N L x v) (m:Mod S h h') (hs:∀ b,S b->W b\/h.size<=b):GtE h' W N L x v:=by
 obtain ⟨a,b,e,D,G,H,I⟩:=g.ex
 refine ⟨a,b,e,D.mod m (fun r hb=>?_),G.mod m (fun r hb=>?_),H,I⟩
 ·rcases hs _ hb with q | q
  ·exact H r q
  ·have:=Qg D r; omega
 ·rcases hs _ hb with q | q
  ·exact I r q
  ·have:=Qg G r; omega
theorem GtE.grow {W W':Nat->Prop} {N:Zg} {L:List (List Int)} {x:Nat × Nat} {v:Value} (g:GtE h W N L x v) (hs:∀ b,W' b->W b\/h.size<=b):GtE h W' N L x v:=by
 obtain ⟨a,b,e,D,G,H,I⟩:=g.ex
 refine ⟨a,b,e,D,G,fun r hb=>?_,fun r hb=>?_⟩
 ·rcases hs _ hb with q | q
  ·exact H r q
  ·have:=Qg D r; omega
 ·rcases hs _ hb with q | q
  ·exact I r q
  ·have:=Qg G r; omega
theorem GtH.mod {W S:Nat->Prop} {N:Zg} {L:List (List Int)} {M:Nat} (g:GtH h M W N L) (m:Mod S h h') (hs:∀ b,S b->(W b\/h.size<=b)/\b≠M):GtH h' M W N L:=by
 obtain ⟨l,r,D⟩:=g.ex
 exact ⟨⟨l,r.mod m (fun h=>(hs _ h).2 rfl),fun p hp=>(D p hp).mod m (fun b hb=>(hs b hb).1)⟩,g.wM⟩
theorem GtH.grow {W W':Nat->Prop} {N:Zg} {L:List (List Int)} {M:Nat} (g:GtH h M W N L) (hs:∀ b,W' b->W b\/h.size<=b) (r:W' M):GtH h M W' N L:=by
 obtain ⟨l,D,G⟩:=g.ex
 exact ⟨⟨l,D,fun p hp=>(G p hp).grow hs⟩,r⟩
theorem GtH.both {W W' S:Nat->Prop} {N:Zg} {L:List (List Int)} {M:Nat} (g:GtH h M W N L) (m:Mod S h h') (D:∀ b,S b->(W b\/h.size<=b)/\b≠M) (hs:∀ b,W' b->W b\/h.size<=b) (O:W' M):GtH h' M W' N L:=by
 obtain ⟨l,R,U⟩:=g.ex
 refine ⟨⟨l,R.mod m (fun h=>(D _ h).2 rfl),fun p hp=>?_⟩,O⟩
 obtain ⟨a,b,e,G,H,I,J⟩:=(U p hp).ex
 refine ⟨a,b,e,G.mod m (fun r hb=>?_),H.mod m (fun r hb=>?_),fun r hb=>?_,fun r hb=>?_⟩
 ·rcases (D _ hb).1 with q | q
  ·exact I r q
  ·have:=Qg G r; omega
 ·rcases (D _ hb).1 with q | q
  ·exact J r q
  ·have:=Qg H r; omega
 ·rcases hs _ hb with q | q
  ·exact I r q
  ·have:=Qg G r; omega
 ·rcases hs _ hb with q | q
  ·exact J r q
  ·have:=Qg H r; omega
end
end Go.Rm
