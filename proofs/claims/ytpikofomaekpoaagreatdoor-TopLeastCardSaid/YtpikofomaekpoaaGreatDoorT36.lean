import Derived.Test.YtpikofomaekpoaaGreatDoorT35
/- Parts. -/
set_option linter.all false
namespace Go.Rm
def Zeo (x:Nat × Nat):Value:=.agg #[.int .i64 x.1,.int .i64 x.2]
def Zjx (h:Zk) (M:Nat) (l:List ((Nat × Nat) × Value)):Prop:=∃ es clock,h[M]? = some (.map es clock)/\es.toList.map (fun e=>(e.key,e.val))=l.map fun p=>(Zeo p.1,p.2)
def Zdi (l:List ((Nat × Nat) × Value)) (x:Nat × Nat):Option Value:=(l.find? fun p=>p.1 == x).map (·.2)
def Z59 {c d:Nat × Nat}:Zcd (some 2) (Zeo c) (Zeo d)=some (d == c):=by
 obtain ⟨r,D⟩:=c;obtain ⟨G,H⟩:=d;simp [Zeo,Zcd,Qv];rw [Xhz];simp;omega
def Zxg {c:Nat × Nat}:Za1 (some 2) (Zeo c)=true:=by simp [Zeo,Za1,Zpc]
def Zxb {x:Nat × Nat}:∀ {r:List MapEntry} {l:List ((Nat × Nat) × Value)} {n:Nat},r.map (fun e=>(e.key,e.val))=l.map (fun p=>(Zeo p.1,p.2)) ->
  (∃ j v,Ue (some 2) (Zeo x) r n=some (some (j,v))/\Zdi l x=some v)\/(Ue (some 2) (Zeo x) r n=some none/\Zdi l x=none):=by
 intro r
 induction r with
 | nil =>
  intro l n h;have:l=[]:=by simpa using h.symm
  subst this;exact .inr ⟨rfl,rfl⟩
 | cons e r ih =>
  intro l n h
  cases l with
  | nil=>simp at h
  | cons d l =>
   simp only [Xha,Xik,Prod.mk.injEq] at h;obtain ⟨⟨h0,h1⟩,D⟩:=h;unfold Ue;rw [h0,Z59]
   cases q:d.1 == x with
   | true=>exact .inl ⟨n,e.val,rfl,by simp [Zdi,q,h1]⟩
   | false =>
    have G:Zdi (d::l) x=Zdi l x:=by simp [Zdi,q]
    rw [G];rcases ih (n:=n+1) D with ⟨j,v,f,hv⟩ | ⟨f,hv⟩
    ·exact .inl ⟨j,v,f,hv⟩
    exact .inr ⟨f,hv⟩
def Zn2 {l:List ((Nat × Nat) × Value)} {x:Nat × Nat} {v:Value} (h:Zdi l x=some v):(x,v)∈l:=by
 unfold Zdi at h;rw [Xfz] at h;obtain ⟨p,h1,D⟩:=h;have r:=Xi2 h1;have h4:=Xi1 h1;simp at r;obtain ⟨a,b⟩:=p;simp at D r;subst D r;exact h4
section
variable {Y:Sys} {h h':Zk}
def Zjx.lt {l:List ((Nat × Nat) × Value)} {M:Nat} (m:Zjx h M l):M<h.size:=by
 obtain ⟨D,r,hb,_⟩:=m;exact (Array.getElem?_eq_some_iff.1 hb).1
def Zjx.mod {S:Zf} {l:List ((Nat × Nat) × Value)} {M:Nat} (a:Zjx h M l) (m:Mod S h h') (hs:¬ S M):Zjx h' M l:=by
 have:=a.lt;obtain ⟨D,r,hb,G⟩:=a;exact ⟨D,r,by rw [m.get M this hs];exact hb,G⟩
def Zoq {l:List ((Nat × Nat) × Value)} {M:Nat} (a:Zjx h M l) {x:Nat × Nat} {z:Value}:Yo.sem Y h (.lookup (some 2) true z) [.map (some M),Zeo x]=some (.tuple #[(Zdi l x).getD z,.bool (Zdi l x).isSome]):=by
 obtain ⟨D,r,hb,G⟩:=a;have H:Wm h (some M)=some D.toList:=by simp [Wm,hb]
 show Zed h (some 2) true z (some M) (Zeo x)=_;unfold Zed;rw [if_pos Zxg,H];rcases Zxb (x:=x) (n:=0) G with ⟨j,v,f,hv⟩ | ⟨f,hv⟩
 ·simp [f,hv]
 simp [f,hv]
def Ztc {K:Ze} {l:List ((Nat × Nat) × Value)} {M:Nat} {x:Nat × Nat} {v:Value} (a:Zjx h M l) (H:Zdi l x=none) (I:∀ h',Zjx h' M (l++[(x,v)])->Mod (fun j=>j=M) h h'->K undef h') :
  Ef.wp h K (.mupd (some 2)) [.map (some M),Zeo x,v]:=by
 have J:=a.lt;obtain ⟨G,r,hb,D⟩:=a;have hf:Ue (some 2) (Zeo x) G.toList 0=some none:=by
  rcases Zxb (x:=x) (n:=0) D with ⟨j,v,f,hv⟩ | ⟨f,_⟩
  ·rw [H] at hv;cases hv
  exact f
 simp only [Ef.wp,hb,Zxg,hf,true_and];refine I _ ⟨G.push ⟨Zeo x,v,r⟩,r+1,by simp [J],?_⟩ ⟨by simp,fun b O hs=>?_⟩
 ·simp [D]
 simp [Ne.symm hs]
def Zoo {K:Ze} (r:∀ M h',h.size<=M->Zjx h' M []->Ext h h'->K (.map (some M)) h'):Ef.wp h K .mkmap []:=by
 show K _ _;exact r _ _ (Xfy _) ⟨#[],0,by simp,rfl⟩ Mod.push
structure GtE (h:Zk) (W:Zf) (N:Zr) (L:Za) (x:Nat × Nat) (v:Value):Prop where
 ex:∃ a b:Sl,v = .agg #[a.v,b.v]/\Yd h a (Zx N L (x.1-1) false x.2)/\Yd h b (Zx N L (x.1-1) true x.2)/\(Zx N L (x.1-1) false x.2≠[]->¬ W a.b)/\(Zx N L (x.1-1) true x.2≠[]->¬ W b.b)
structure GtH (h:Zk) (M:Nat) (W:Zf) (N:Zr) (L:Za):Prop where
 ex:∃ l,Zjx h M l/\∀ p,p∈l->GtE h W N L p.1 p.2
 wM:W M
def GtE.mod {W S:Zf} {N:Zr} {L:Za} {x:Nat × Nat} {v:Value} (g:GtE h W N L x v) (m:Mod S h h') (hs:∀ b,S b->W b\/h.size<=b):GtE h' W N L x v:=by
 obtain ⟨a,b,e,D,G,H,I⟩:=g.ex;refine ⟨a,b,e,D.mod m (fun r hb=>?_),G.mod m (fun r hb=>?_),H,I⟩
 ·rcases hs _ hb with q | q
  ·exact H r q
  have:=Vj D r;omega
 rcases hs _ hb with q | q
 ·exact I r q
 have:=Vj G r;omega
def GtE.grow {W W':Zf} {N:Zr} {L:Za} {x:Nat × Nat} {v:Value} (g:GtE h W N L x v) (hs:∀ b,W' b->W b\/h.size<=b):GtE h W' N L x v:=by
 obtain ⟨a,b,e,D,G,H,I⟩:=g.ex;refine ⟨a,b,e,D,G,fun r hb=>?_,fun r hb=>?_⟩
 ·rcases hs _ hb with q | q
  ·exact H r q
  have:=Vj D r;omega
 rcases hs _ hb with q | q
 ·exact I r q
 have:=Vj G r;omega
def GtH.mod {W S:Zf} {N:Zr} {L:Za} {M:Nat} (g:GtH h M W N L) (m:Mod S h h') (hs:∀ b,S b->(W b\/h.size<=b)/\b≠M):GtH h' M W N L:=by
 obtain ⟨l,r,D⟩:=g.ex;exact ⟨⟨l,r.mod m (fun h=>(hs _ h).2 rfl),fun p hp=>(D p hp).mod m (fun b hb=>(hs b hb).1)⟩,g.wM⟩
def GtH.grow {W W':Zf} {N:Zr} {L:Za} {M:Nat} (g:GtH h M W N L) (hs:∀ b,W' b->W b\/h.size<=b) (r:W' M):GtH h M W' N L:=by
 obtain ⟨l,D,G⟩:=g.ex;exact ⟨⟨l,D,fun p hp=>(G p hp).grow hs⟩,r⟩
def GtH.both {W W' S:Zf} {N:Zr} {L:Za} {M:Nat} (g:GtH h M W N L) (m:Mod S h h') (D:∀ b,S b->(W b\/h.size<=b)/\b≠M) (hs:∀ b,W' b->W b\/h.size<=b) (O:W' M):GtH h' M W' N L:=by
 obtain ⟨l,R,U⟩:=g.ex;refine ⟨⟨l,R.mod m (fun h=>(D _ h).2 rfl),fun p hp=>?_⟩,O⟩;obtain ⟨a,b,e,G,H,I,J⟩:=(U p hp).ex;refine ⟨a,b,e,G.mod m (fun r hb=>?_),H.mod m (fun r hb=>?_),fun r hb=>?_,fun r hb=>?_⟩
 ·rcases (D _ hb).1 with q | q
  ·exact I r q
  have:=Vj G r;omega
 ·rcases (D _ hb).1 with q | q
  ·exact J r q
  have:=Vj H r;omega
 ·rcases hs _ hb with q | q
  ·exact I r q
  have:=Vj G r;omega
 rcases hs _ hb with q | q
 ·exact J r q
 have:=Vj H r;omega
end
end Go.Rm
