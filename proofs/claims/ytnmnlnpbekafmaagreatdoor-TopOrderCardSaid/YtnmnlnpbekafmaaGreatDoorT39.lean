import Derived.Test.YtnmnlnpbekafmaaGreatDoorT38
/- Parts. -/
set_option linter.unusedSimpArgs false
set_option linter.unusedVariables false
namespace Go.Rm
def Zfi (x:Nat × Nat):Value:=.agg #[.int .i64 x.1,.int .i64 x.2]
def Zlq (h:Zk) (M:Nat) (l:List ((Nat × Nat) × Value)):Prop:=∃ es clock,h[M]? = some (.map es clock)/\es.toList.map (fun e=>(e.key,e.val))=l.map fun p=>(Zfi p.1,p.2)
def Zd5 (l:List ((Nat × Nat) × Value)) (x:Nat × Nat):Option Value:=(l.find? fun p=>p.1 == x).map (·.2)
theorem Z4w {c d:Nat × Nat}:Zb2 (some 2) (Zfi c) (Zfi d)=some (d == c):=by
 obtain ⟨r,D⟩:=c;obtain ⟨G,H⟩:=d;simp [Zfi,Zb2,Qc];rw [Xgc];simp;omega
theorem Zvx {c:Nat × Nat}:Zas (some 2) (Zfi c)=true:=by simp [Zfi,Zas,Zn3]
theorem Zvt {x:Nat × Nat}:∀ {r:List MapEntry} {l:List ((Nat × Nat) × Value)} {n:Nat},r.map (fun e=>(e.key,e.val))=l.map (fun p=>(Zfi p.1,p.2)) ->
  (∃ j v,Vx (some 2) (Zfi x) r n=some (some (j,v))/\Zd5 l x=some v)\/(Vx (some 2) (Zfi x) r n=some none/\Zd5 l x=none):=by
 intro r
 induction r with
 | nil =>
  intro l n h;have:l=[]:=by simpa using h.symm
  subst this;exact .inr ⟨rfl,rfl⟩
 | cons e r D =>
  intro l n h
  cases l with
  | nil=>simp at h
  | cons d l =>
   simp only [Xfu,Xg7,Prod.mk.injEq] at h;obtain ⟨⟨h0,h1⟩,G⟩:=h;unfold Vx;rw [h0,Z4w]
   cases q:d.1 == x with
   | true=>exact .inl ⟨n,e.val,rfl,by simp [Zd5,q,h1]⟩
   | false =>
    have H:Zd5 (d::l) x=Zd5 l x:=by simp [Zd5,q]
    rw [H];rcases D (n:=n+1) G with ⟨j,v,f,hv⟩ | ⟨f,hv⟩
    ·exact .inl ⟨j,v,f,hv⟩
    exact .inr ⟨f,hv⟩
theorem Zya {l:List ((Nat × Nat) × Value)} {x:Nat × Nat} {v:Value} (h:Zd5 l x=some v):(x,v)∈l:=by
 unfold Zd5 at h;rw [Xem] at h;obtain ⟨p,h1,D⟩:=h;have r:=Xhn h1;have h4:=Xhm h1;simp at r;obtain ⟨a,b⟩:=p;simp at D r;subst D r;exact h4
section
variable {Y:Sys} {h h':Zk}
theorem Zlq.lt {l:List ((Nat × Nat) × Value)} {M:Nat} (m:Zlq h M l):M<h.size:=by
 obtain ⟨D,r,hb,_⟩:=m;exact (Array.getElem?_eq_some_iff.1 hb).1
theorem Zlq.mod {S:Zf} {l:List ((Nat × Nat) × Value)} {M:Nat} (a:Zlq h M l) (m:Mod S h h') (hs:¬ S M):Zlq h' M l:=by
 have:=a.lt;obtain ⟨D,r,hb,G⟩:=a;exact ⟨D,r,by rw [m.get M this hs];exact hb,G⟩
theorem Zzo {l:List ((Nat × Nat) × Value)} {M:Nat} (a:Zlq h M l) {x:Nat × Nat} {z:Value}:Ys.sem Y h (.lookup (some 2) true z) [.map (some M),Zfi x]=some (.tuple #[(Zd5 l x).getD z,.bool (Zd5 l x).isSome]):=by
 obtain ⟨D,r,hb,G⟩:=a;have H:Wh h (some M)=some D.toList:=by simp [Wh,hb]
 show Zd2 h (some 2) true z (some M) (Zfi x)=_;unfold Zd2;rw [if_pos Zvx,H];rcases Zvt (x:=x) (n:=0) G with ⟨j,v,f,hv⟩ | ⟨f,hv⟩
 ·simp [f,hv]
 simp [f,hv]
theorem Z2t {K:Ze} {l:List ((Nat × Nat) × Value)} {M:Nat} {x:Nat × Nat} {v:Value} (a:Zlq h M l) (H:Zd5 l x=none) (I:∀ h',Zlq h' M (l++[(x,v)])->Mod (fun j=>j=M) h h'->K undef h') :
  Ef.wp h K (.mupd (some 2)) [.map (some M),Zfi x,v]:=by
 have J:=a.lt;obtain ⟨G,r,hb,D⟩:=a;have hf:Vx (some 2) (Zfi x) G.toList 0=some none:=by
  rcases Zvt (x:=x) (n:=0) D with ⟨j,v,f,hv⟩ | ⟨f,_⟩
  ·rw [H] at hv;cases hv
  exact f
 simp only [Ef.wp,hb,Zvx,hf,true_and];refine I _ ⟨G.push ⟨Zfi x,v,r⟩,r+1,by simp [J],?_⟩ ⟨by simp,fun b O hs=>?_⟩
 ·simp [D]
 simp [Ne.symm hs]
theorem Zzi {K:Ze} (r:∀ M h',h.size<=M->Zlq h' M []->Ext h h'->K (.map (some M)) h'):Ef.wp h K .mkmap []:=by
 show K _ _;exact r _ _ (Xel _) ⟨#[],0,by simp,rfl⟩ Mod.push
structure GtE (h:Zk) (W:Zf) (N:Zq) (L:Za) (x:Nat × Nat) (v:Value):Prop where
 ex:∃ a b:Sl,v = .agg #[a.v,b.v]/\Yf h a (Zw N L (x.1-1) false x.2)/\Yf h b (Zw N L (x.1-1) true x.2)/\(Zw N L (x.1-1) false x.2≠[]->¬ W a.b)/\(Zw N L (x.1-1) true x.2≠[]->¬ W b.b)
structure GtH (h:Zk) (M:Nat) (W:Zf) (N:Zq) (L:Za):Prop where
 ex:∃ l,Zlq h M l/\∀ p,p∈l->GtE h W N L p.1 p.2
 wM:W M
theorem GtE.mod {W S:Zf} {N:Zq} {L:Za} {x:Nat × Nat} {v:Value} (g:GtE h W N L x v) (m:Mod S h h') (hs:∀ b,S b->W b\/h.size<=b):GtE h' W N L x v:=by
 obtain ⟨a,b,e,D,G,H,I⟩:=g.ex;refine ⟨a,b,e,D.mod m (fun r hb=>?_),G.mod m (fun r hb=>?_),H,I⟩
 ·rcases hs _ hb with q | q
  ·exact H r q
  have:=Qq D r;omega
 rcases hs _ hb with q | q
 ·exact I r q
 have:=Qq G r;omega
theorem GtE.grow {W W':Zf} {N:Zq} {L:Za} {x:Nat × Nat} {v:Value} (g:GtE h W N L x v) (hs:∀ b,W' b->W b\/h.size<=b):GtE h W' N L x v:=by
 obtain ⟨a,b,e,D,G,H,I⟩:=g.ex;refine ⟨a,b,e,D,G,fun r hb=>?_,fun r hb=>?_⟩
 ·rcases hs _ hb with q | q
  ·exact H r q
  have:=Qq D r;omega
 rcases hs _ hb with q | q
 ·exact I r q
 have:=Qq G r;omega
theorem GtH.mod {W S:Zf} {N:Zq} {L:Za} {M:Nat} (g:GtH h M W N L) (m:Mod S h h') (hs:∀ b,S b->(W b\/h.size<=b)/\b≠M):GtH h' M W N L:=by
 obtain ⟨l,r,D⟩:=g.ex;exact ⟨⟨l,r.mod m (fun h=>(hs _ h).2 rfl),fun p hp=>(D p hp).mod m (fun b hb=>(hs b hb).1)⟩,g.wM⟩
theorem GtH.grow {W W':Zf} {N:Zq} {L:Za} {M:Nat} (g:GtH h M W N L) (hs:∀ b,W' b->W b\/h.size<=b) (r:W' M):GtH h M W' N L:=by
 obtain ⟨l,D,G⟩:=g.ex;exact ⟨⟨l,D,fun p hp=>(G p hp).grow hs⟩,r⟩
theorem GtH.both {W W' S:Zf} {N:Zq} {L:Za} {M:Nat} (g:GtH h M W N L) (m:Mod S h h') (D:∀ b,S b->(W b\/h.size<=b)/\b≠M) (hs:∀ b,W' b->W b\/h.size<=b) (O:W' M):GtH h' M W' N L:=by
 obtain ⟨l,R,U⟩:=g.ex;refine ⟨⟨l,R.mod m (fun h=>(D _ h).2 rfl),fun p hp=>?_⟩,O⟩;obtain ⟨a,b,e,G,H,I,J⟩:=(U p hp).ex;refine ⟨a,b,e,G.mod m (fun r hb=>?_),H.mod m (fun r hb=>?_),fun r hb=>?_,fun r hb=>?_⟩
 ·rcases (D _ hb).1 with q | q
  ·exact I r q
  have:=Qq G r;omega
 ·rcases (D _ hb).1 with q | q
  ·exact J r q
  have:=Qq H r;omega
 ·rcases hs _ hb with q | q
  ·exact I r q
  have:=Qq G r;omega
 rcases hs _ hb with q | q
 ·exact J r q
 have:=Qq H r;omega
end
end Go.Rm
