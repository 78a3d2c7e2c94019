import Derived.Test.YtpikofomaekpoaaGreatDoorT27
import Derived.Test.YtpikofomaekpoaaGreatDoorT22
/- Parts. -/
set_option linter.unusedSimpArgs false
set_option linter.unusedVariables false
namespace Go.Rm
inductive Xg (I:Nat->Int->Prop) (E:Nat->Nat->Int->Prop):Nat->Int->Prop
 | init {b:Nat} {c:Int}:I b c->Xg I E b c
 | step {a b:Nat} {c w:Int}:Xg I E a c->E a b w->Xg I E b (c+w)
structure X9 (I:Nat->Int->Prop) (E:Nat->Nat->Int->Prop) (b:Nat) (d:Int):Prop where
 le:d<=1152921504606846976
 all:∀ c,Xg I E b c->d<=c
 is:d=1152921504606846976\/Xg I E b d
theorem X9.uniq {I:Nat->Int->Prop} {E:Nat->Nat->Int->Prop} {b:Nat} {d r:Int} (h:X9 I E b d) (h':X9 I E b r):d=r:=by
 have D:=h.le;have G:=h'.le;rcases h.is with e | e <;> rcases h'.is with e' | e'
 ·omega
 ·have:=h.all _ e';omega
 ·have:=h'.all _ e;omega
 have:=h.all _ e';have:=h'.all _ e;omega
def RxW (ord:Zd) (cost:Nat->Int) (A:Vk) (b:Nat) (x:Int):Prop:=(b∈ord/\cost b<=x)\/∃ c,A b=some c/\c<=x
def X4 (f:Nat->Int) (k:Nat) (x:Int):Nat->Int:=fun j=>if j=k then x else f j
section
variable {n:Nat} {I:Nat->Int->Prop} {E:Nat->Nat->Int->Prop} {ord:Zd} {cost:Nat->Int} {A:Vk} {pI pI':Zf} {pE pE':Nat->Zf}
theorem Zb5 {l:Zd}:∀ {n:Nat},l.Nodup->(∀ a,a∈l->a<n)->l.length<=n:=by
 intro n
 induction n generalizing l with
 | zero =>
  intro _ lt
  cases l with
  | nil=>simp
  | cons x r=>exact absurd (lt x (by simp)) (by omega)
 | succ n ih =>
  intro D lt;have h1:=ih (l:=l.erase n) (D.erase n) (fun a G=>by
   have H:=(D.mem_erase_iff).1 G;have:=lt a H.2;omega)
  have J:l.length<=(l.erase n).length+1:=by
   rw [List.length_erase]
   split <;> omega
  omega
end
structure Zik (n:Nat) (I:Nat->Int->Prop) (E:Nat->Nat->Int->Prop):Prop where
 i0:∀ b c,I b c->b<n/\0<=c
 e0:∀ a b w,E a b w->b<n/\0<=w
structure Zbr (n:Nat) (I:Nat->Int->Prop) (E:Nat->Nat->Int->Prop) (ord:Zd) (cost:Nat->Int) (A:Vk) (pI:Zf) (pE:Nat->Nat->Int->Prop):Prop where
 nd:ord.Nodup
 lt:∀ a,a∈ord->a<n
 off:∀ a,a∈ord->A a=none
 wS:∀ a,a∈ord->cost a=1152921504606846976\/Xg I E a (cost a)
 wA:∀ b c,b<n->A b=some c->c=1152921504606846976\/Xg I E b c
 bS:∀ a,a∈ord->0<=cost a/\cost a<=1152921504606846976
 bA:∀ b c,b<n->A b=some c->0<=c/\c<=1152921504606846976
 le:∀ a,a∈ord->∀ b c,b<n->A b=some c->cost a<=c
 st:∀ b c,I b c->pI b\/1152921504606846976<=c\/RxW ord cost A b c
 rx:∀ a,a∈ord->∀ b w,E a b w->pE a b w\/1152921504606846976<=cost a+w\/RxW ord cost A b (cost a+w)
section
variable {n:Nat} {I:Nat->Int->Prop} {E:Nat->Nat->Int->Prop} {ord:Zd} {cost:Nat->Int} {A:Vk} {pI pI':Zf} {pE pE':Nat->Nat->Int->Prop}
theorem Zbr.start (r:∀ b c,I b c->pI b):Zbr n I E [] cost (fun _=>none) pI pE :=
 ⟨List.nodup_nil,fun a h=>by simp at h,fun a h=>by simp at h,fun a h=>by simp at h,fun b c _ h=>by simp at h,fun a h=>by simp at h,fun b c _ h=>by simp at h,fun a h=>by simp at h,fun b c h=>.inl (r b c h),fun a h=>by simp at h⟩
theorem Zbr.less (d:Zbr n I E ord cost A pI pE) (D:∀ b c,I b c->pI b->pI' b\/1152921504606846976<=c\/RxW ord cost A b c) (G:∀ a,a∈ord->∀ b w,E a b w->pE a b w->pE' a b w\/1152921504606846976<=cost a+w\/RxW ord cost A b (cost a+w)):Zbr n I E ord cost A pI' pE' :=
 ⟨d.nd,d.lt,d.off,d.wS,d.wA,d.bS,d.bA,d.le,fun b c h=>(d.st b c h).elim (D b c h) .inr,fun a r b w h=>(d.rx a r b w h).elim (G a r b w h) .inr⟩
theorem Zbr.pop (d:Zbr n I E ord cost A (fun _=>False) (fun _ _ _=>False)) {k:Nat} {c:Int} (m:Zti n A k c) :
  k ∉ ord/\Zbr n I E (ord++[k]) (X4 cost k c) (Zfi A k) (fun _=>False) (fun a _ _=>a=k)/\(∀ a,a∈ord++[k]->X4 cost k c a<=c)/\(0<=c/\c<=1152921504606846976)/\(∀ b x,b<n->Zfi A k b=some x->c<=x):=by
 obtain ⟨V,J,M⟩:=m;have X:k ∉ ord:=fun h=>by rw [d.off k h] at J;cases J
 have hc:∀ a,a∈ord->X4 cost k c a=cost a:=fun a D=>by
  unfold X4;rw [if_neg (fun e=>X (by rw [<-e];exact D))]
 have H:X4 cost k c k=c:=by simp [X4]
 have ba:=d.bA k c V J;have r:∀ a,a∈ord++[k]->a∈ord\/a=k:=fun a D=>by simpa using D
 have G:∀ b x,Zfi A k b=some x->b≠k/\A b=some x:=fun b x h=>by
  unfold Zfi at h;by_cases e:b=k
  ·rw [if_pos e] at h;cases h
  rw [if_neg e] at h;exact ⟨e,h⟩
 have O:∀ b x,b<n->A b=some x->c<=x:=fun b x hb h=>by
  rcases M b x hb h with h | h <;> omega
 have Z:∀ b x,RxW ord cost A b x->RxW (ord++[k]) (X4 cost k c) (Zfi A k) b x:=by
  rintro b x (⟨h1,R⟩ | ⟨y,h1,R⟩)
  ·exact .inl ⟨by simp [h1],by rw [hc b h1];exact R⟩
  by_cases e:b=k
  ·subst e;rw [J] at h1
   cases h1
   exact .inl ⟨by simp,by rw [H];exact R⟩
  exact .inr ⟨y,by unfold Zfi;rw [if_neg e];exact h1,R⟩
 have U:∀ a,a∈ord++[k]->X4 cost k c a<=c:=fun a D=>by
  rcases r a D with h | h
  ·rw [hc a h];exact d.le a h k c V J
  subst h;rw [H];exact Xht _
 refine ⟨X,⟨?_,?_,?_,?_,?_,?_,?_,?_,?_,?_⟩,U,?_,?_⟩
 ·rw [List.nodup_append];exact ⟨d.nd,by simp,fun a D b hb=>by simp at hb;subst hb;exact fun e=>X (by rw [<-e];exact D)⟩
 ·intro a D;rcases r a D with h | h
  ·exact d.lt a h
  omega
 ·intro a D;unfold Zfi;rcases r a D with h | h
  ·split
   ·rfl
   exact d.off a h
  rw [if_pos h]
 ·intro a D;rcases r a D with h | h
  ·rw [hc a h];exact d.wS a h
  subst h;rw [H];exact d.wA a c V J
 ·intro b x hb h;exact d.wA b x hb (G b x h).2
 ·intro a D;rcases r a D with h | h
  ·rw [hc a h];exact d.bS a h
  subst h;rw [H];exact ba
 ·intro b x hb h;exact d.bA b x hb (G b x h).2
 ·intro a D b x hb h;have h1:=U a D;have R:=O b x hb (G b x h).2;omega
 ·intro b x h;exact .inr (((d.st b x h).resolve_left id).imp id (Z b x))
 ·intro a D b w h;rcases r a D with h1 | h1
  ·right;rw [hc a h1];exact ((d.rx a h1 b w h).resolve_left id).imp id (Z b _)
  exact .inl h1
 ·exact ba
 intro b x hb h;exact O b x hb (G b x h).2
theorem Zbr.put (d:Zbr n I E ord cost A pI pE) {b:Nat} {x:Int} (hb:b<n) (O:b ∉ ord) (R:x=1152921504606846976\/Xg I E b x) (hx:0<=x/\x<=1152921504606846976) (H:∀ a,a∈ord->cost a<=x) :
  Zbr n I E ord cost (Zbq n A b x) pI pE/\RxW ord cost (Zbq n A b x) b x:=by
 have key:Zpl n b=true:=by simp [Zpl];omega
 have e:(b:Int).toNat=b:=by simp
 by_cases hp:Zem n A b x=true
 ·have r:Zbq n A b x=fun j=>if j=b then some x else A j:=by unfold Zbq;rw [if_pos hp,e]
  have M:∀ y z,RxW ord cost A y z->RxW ord cost (Zbq n A b x) y z:=by
   rintro y z (h | ⟨u,h1,U⟩)
   ·exact .inl h
   right;rw [r];by_cases D:y=b
   ·subst D;refine ⟨x,by simp,?_⟩;unfold Zem at hp;rw [key,e,h1] at hp;simp at hp;omega
   exact ⟨u,by simp [D];exact h1,U⟩
  refine ⟨⟨d.nd,d.lt,?_,d.wS,?_,d.bS,?_,?_,fun y z h=>(d.st y z h).imp id (.imp id (M y z)),fun a G y w h=>(d.rx a G y w h).imp id (.imp id (M y _))⟩,.inr ⟨x,by rw [r];simp,Xht _⟩⟩
  ·intro a G;rw [r];have:a≠b:=fun e=>O (e ▸ G);simp [this];exact d.off a G
  ·intro y c hy h;rw [r] at h;by_cases D:y=b
   ·simp [D] at h;subst h D;exact R
   simp [D] at h;exact d.wA y c hy h
  ·intro y c hy h;rw [r] at h;by_cases D:y=b
   ·simp [D] at h;subst h;exact hx
   simp [D] at h;exact d.bA y c hy h
  intro a G y c hy h;rw [r] at h;by_cases D:y=b
  ·simp [D] at h;subst h;exact H a G
  simp [D] at h;exact d.le a G y c hy h
 have r:Zbq n A b x=A:=by unfold Zbq;rw [if_neg hp]
 rw [r];refine ⟨d,?_⟩;unfold Zem at hp;rw [key,e] at hp
 cases J:A b with
 | none=>rw [J] at hp;simp at hp
 | some u =>
  rw [J] at hp;simp at hp;exact .inr ⟨u,J,by omega⟩
theorem Zbr.walk (C:Zik n I E) (d:Zbr n I E ord cost A (fun _=>False) (fun _ _ _=>False)) {b:Nat} {c:Int} (w:Xg I E b c):1152921504606846976<=c\/(b∈ord/\cost b<=c)\/∃ k x,k<n/\A k=some x/\x<=c:=by
 have r:∀ b c,b<n->RxW ord cost A b c->(b∈ord/\cost b<=c)\/∃ k x,k<n/\A k=some x/\x<=c:=fun b c hb h=>h.elim .inl (fun ⟨x,h1,D⟩=>.inr ⟨b,x,hb,h1,D⟩)
 induction w with
 | init h=>exact ((d.st _ _ h).resolve_left id).imp id (r _ _ (C.i0 _ _ h).1)
 | step w h ih =>
  have H:=C.e0 _ _ _ h;rcases ih with h0 | ⟨h1,D⟩ | ⟨k,x,h1,D,M⟩
  ·exact .inl (by omega)
  ·rcases (d.rx _ h1 _ _ h).resolve_left id with g | g
   ·exact .inl (by omega)
   rcases r _ _ H.1 g with ⟨G,g2⟩ | ⟨k,x,J,G,g2⟩
   ·exact .inr (.inl ⟨G,by omega⟩)
   exact .inr (.inr ⟨k,x,J,G,by omega⟩)
  exact .inr (.inr ⟨k,x,h1,D,by omega⟩)
theorem Zbr.popped (C:Zik n I E) (d:Zbr n I E ord cost A (fun _=>False) (fun _ _ _=>False)) {k:Nat} {c:Int} (m:Zti n A k c):X9 I E k c:=by
 obtain ⟨G,D,r⟩:=m;refine ⟨(d.bA k c G D).2,fun c' w=>?_,d.wA k c G D⟩;have:=(d.bA k c G D).2;rcases d.walk C w with h | ⟨h1,_⟩ | ⟨j,x,h1,H,J⟩
 ·omega
 ·have:=d.off k h1;rw [D] at this;cases this
 rcases r j x h1 H with h | h <;> omega
theorem Zbr.least (C:Zik n I E) (d:Zbr n I E ord cost A (fun _=>False) (fun _ _ _=>False)) (h0:∀ k,k<n->A k=none) {b:Nat} (hb:b<n):X9 I E b (if b∈ord then cost b else 1152921504606846976):=by
 have r:∀ c,Xg I E b c->1152921504606846976<=c\/b∈ord/\cost b<=c:=fun c w=>by
  rcases d.walk C w with h | h | ⟨k,x,h1,D,_⟩
  ·exact .inl h
  ·exact .inr h
  rw [h0 k h1] at D;cases D
 by_cases h:b∈ord
 ·rw [if_pos h];have:=(d.bS b h).2;exact ⟨this,fun c w=>(r c w).elim (fun g=>by omega) And.right,d.wS b h⟩
 rw [if_neg h];exact ⟨Xht _,fun c w=>(r c w).elim id (fun g=>absurd g.1 h),.inl rfl⟩
end
theorem Zz6:∀ {cs:Zb} {k p:Nat},Wu k cs=none->p<cs.length->Yt (Zl cs p)=true:=by
 intro cs
 induction cs with
 | nil=>intro k p _ hp;simp at hp
 | cons x r ih =>
  intro k p h hp;rw [Wu] at h
  split at h
  ·rename_i hx
   cases p with
   | zero=>simpa [Zl] using hx
   | succ p =>
    have:=ih h (by simpa using hp);simpa [Zl] using this
  cases h
theorem Xau {ins outs:Int} {cs:Zb} (h:(Us ins outs cs).2=0):∀ j,j<cs.length->Yt (Zl cs j)=true:=by
 unfold Us at h
 split at h
 ·rename_i c;exact absurd h c
 split at h
 ·cases h
 ·split at h
  ·simp [Wd] at h
  rename_i hb;exact fun j r=>Zz6 hb r
theorem Zhj {c:Int} (h:Yt c=true):c=1152921504606846976\/(0<=c/\c<=2147483648):=by
 unfold Yt at h;simp at h;omega
theorem Zys {ins outs i k:Int} {cs:Zb} (h:(Us ins outs cs).2=0):atV ins outs cs i k=1152921504606846976\/(0<=atV ins outs cs i k/\atV ins outs cs i k<=2147483648):=by
 unfold atV
 split
 ·exact .inl rfl
 split
 ·rename_i c1 r;have h0:0<=i * outs:=Xiu (by omega) (by omega);exact Zhj (Xau h _ (by omega))
 exact .inl rfl
theorem Wq {N:Zr} (r:Yl N) {a b:Int}:Yr N a b=1152921504606846976\/(0<=Yr N a b/\Yr N a b<=2147483648):=by
 unfold Yr
 split
 ·exact .inl rfl
 unfold Ze8;simp only
 split
 ·exact .inl rfl
 split
 ·exact .inl rfl
 rename_i c;have:Yf N.ts.length (Zp N.vs (Zp N.as a.toNat).b.toNat).c=true:=by simpa using c
 simp [Yf] at this;exact Zys (r.tab _ (by omega))
theorem Ve {N:Zr} (r:Yl N) {a:Int}:Zu N a=1152921504606846976\/(0<=Zu N a/\Zu N a<=2147483648):=by
 unfold Zu
 split
 ·rename_i c;simp [Yf] at c;exact Zhj (r.w _ (by omega))
 exact .inl rfl
theorem Zlt {N:Zr} {a b:Int} (h:Yr N a b≠1152921504606846976):Yf N.as.length a=true/\Yf N.as.length b=true/\(Zp N.as a.toNat).b=(Zp N.as b.toNat).a/\Yf N.vs.length (Zp N.as a.toNat).b=true:=by
 unfold Yr at h
 split at h
 ·exact absurd rfl h
 rename_i c;unfold Ze8 at h;simp only at h
 split at h
 ·exact absurd rfl h
 rename_i d;refine ⟨?_,?_,?_,?_⟩
 ·cases e:Yf N.as.length a with
  | true=>rfl
  | false=>exact absurd (.inl e) c
 ·cases e:Yf N.as.length b with
  | true=>rfl
  | false=>exact absurd (.inr e) c
 ·exact Xgq fun e=>d (.inl e)
 cases e:Yf N.vs.length (Zp N.as a.toNat).b with
 | true=>rfl
 | false=>exact absurd (.inr e) d
def EdW (N:Zr) (a b:Nat) (w:Int):Prop:=Yr N a b≠1152921504606846976/\Zu N b≠1152921504606846976/\w=Yr N a b+Zu N b
def Zf7 (N:Zr) (s:Int) (b:Nat) (c:Int):Prop:=(b:Int)=s/\c=0/\Zu N s≠1152921504606846976
theorem Uw {N:Zr} {a:Int} (h:Zu N a≠1152921504606846976):∃ k:Nat,a=k/\k<N.as.length:=by
 unfold Zu at h
 split at h
 ·rename_i c;simp [Yf] at c;exact ⟨a.toNat,by omega,by omega⟩
 exact absurd rfl h
theorem Z3f {p:Xe->Bool} {a:Int}:∀ {l:List Xe} {k:Nat},a∈Ud p k l↔∃ i,i<l.length/\a=((k+i:Nat):Int)/\p (Zp l i)=true:=by
 intro l
 induction l with
 | nil=>intro k;simp [Ud]
 | cons t r ih =>
  intro k;have e:Ud p k (t::r)=(if p t then [(k:Int)] else [])++Ud p (k+1) r:=by simp only [Ud];split <;> simp_all
  rw [e,List.mem_append,ih];constructor
  ·rintro (h | ⟨i,h1,G,D⟩)
   ·split at h
    ·rename_i c;simp at h;exact ⟨0,by simp,by omega,by simpa [Zp] using c⟩
    simp at h
   exact ⟨i+1,by simpa using h1,by omega,by simpa [Zp] using D⟩
  rintro ⟨i,h1,G,D⟩
  cases i with
  | zero =>
   left;have:p t=true:=by simpa [Zp] using D
   simp [this];omega
  | succ i=>exact .inr ⟨i,by simpa using h1,by omega,by simpa [Zp] using D⟩
theorem Zri {as:List Xe} {v a:Int}:a∈Qd as v↔∃ i:Nat,i<as.length/\a=i/\(Zp as i).a=v:=by
 unfold Qd;rw [Z3f];simp
theorem Z7p {N:Zr} {a b:Nat} (h:Yr N a b≠1152921504606846976):Yf N.vs.length (Zp N.as a).b=true/\(b:Int)∈Qd N.as (Zp N.as a).b:=by
 obtain ⟨h1,r,D,h4⟩:=Zlt h;simp [Yf] at r;refine ⟨by simpa using h4,Zri.2 ⟨b,by omega,rfl,?_⟩⟩;simpa using D.symm
end Go.Rm
