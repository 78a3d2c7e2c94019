import Derived.Test.YtmpamfkkaakbfaaGreatDoorT16
/- Parts RGraph RLaw3g -/
set_option linter.unusedSimpArgs false
set_option linter.unusedVariables false
namespace Go.Rm
section
variable {Y:Sys} {h:Za}
theorem Zqm (HC:Y.Has 216 Y216) {s:Sl} {l:List Yp} (r:Z4 h s l) (I:s.n<=1000000) {R:Value->Za->Prop}
  (J:∀ h' G,Ext h h'->Yb h' 3 G (Zs (l.map Xm))->(G.nl=false->h.size<=G.b)->R G.v h'):Zm Y 216 [s.v] h R:=by
 have M:=r.len
 refine .of_has HC rfl ?_
 cases D:s.nl with
 | true =>
  have:l=[]:=Xe3 (by rw [r.len]; exact (r.ok.nil D).1)
  subst this
  simp [Y216,Xa.wp,D]
  exact J h Sl.nil (Mod.refl h) Yb.nil (fun h=>(by cases h))
 | false =>
  simp [Y216,Xa.wp,D]
  refine Yj ?_
  intro b h1 X o1 H
  simp
  refine Yh o1 Yq (Yl (r.ext H)) (by rw [Zx,Xea,M]) Yk rfl (by omega) (by omega) ?_
  intro G O o2 n2 e2 U V
  simp
  have:=H.size
  exact J O G (H.trans e2) o2 (fun _=>by omega)
theorem Zp1 (HC:Y.Has 217 Y217) {s:Sl} {l:List Yp} (r:Z4 h s l) (I:s.n<=1000000) {R:Value->Za->Prop}
  (J:∀ h' G,Ext h h'->Yb h' 3 G (Zs (l.map Xm))->(G.nl=false->h.size<=G.b)->R G.v h'):Zm Y 217 [s.v] h R:=by
 have M:=r.len
 refine .of_has HC rfl ?_
 cases D:s.nl with
 | true =>
  have:l=[]:=Xe3 (by rw [r.len]; exact (r.ok.nil D).1)
  subst this
  simp [Y217,Xa.wp,D]
  exact J h Sl.nil (Mod.refl h) Yb.nil (fun h=>(by cases h))
 | false =>
  simp [Y217,Xa.wp,D]
  refine Yj ?_
  intro b h1 X o1 H
  simp
  refine Yh o1 Yq (Yl (r.ext H)) (by rw [Zx,Xea,M]) Yk rfl (by omega) (by omega) ?_
  intro G O o2 n2 e2 U V
  simp
  have:=H.size
  exact J O G (H.trans e2) o2 (fun _=>by omega)
theorem Zig (HC:Y.Has 245 Y245) {s:Sl} {l:List Int} (r:Zz h s l) (I:s.n<=17592186044416) {R:Value->Za->Prop}
  (J:∀ h' G,Ext h h'->Yb h' 1 G (Zh l)->(G.nl=false->h.size<=G.b)->R G.v h'):Zm Y 245 [s.v] h R:=by
 have M:=r.len
 refine .of_has HC rfl ?_
 cases D:s.nl with
 | true =>
  have:l=[]:=Xe3 (by rw [r.len]; exact (r.ok.nil D).1)
  subst this
  simp [Y245,Xa.wp,D]
  exact J h Sl.nil (Mod.refl h) Yb.nil (fun h=>(by cases h))
 | false =>
  simp [Y245,Xa.wp,D]
  refine Yj ?_
  intro b h1 X o1 H
  simp
  refine Yh o1 Yq (Zbu (r.ext H)) (by rw [Wu,M,Xej]) Zc3 rfl (by omega) (by omega) ?_
  intro G O o2 n2 e2 U V
  simp
  have:=H.size
  exact J O G (H.trans e2) o2 (fun _=>by omega)
theorem Wz {K:Value->Za->Prop} {n sz bytes:Nat} {zero:Array Value} {m:Int} (H:n<=1000000) (r:bytes<=1000) (D:m=n)
  (G:∀ (b:Nat) (h':Za),h.size<=b->Yb h' sz (Sl.at b n n) (Xj zero (n * sz)).toList->Ext h h'->b<h'.size->K (.slice (some ⟨b,0,none⟩) n n) h') :
  Ef.wp h K (.mkslice sz bytes zero) [.int .i64 m,.int .i64 m]:=by
 subst D
 rw [Wx]
 refine ⟨by omega,by omega,by omega,?_,fun t=>?_⟩
 ·have:(bytes:Int) * n<=1000 * 1000000:=Int.mul_le_mul (by omega) (by omega) (by omega) (by omega)
  omega
 ·simp only [Xd9]
  refine G h.size _ (Xd6 _) ?_ Mod.push (by simp)
  exact ⟨by simp [Xj],.inr ⟨rfl,rfl,rfl,Xd6 _,by simp; omega,_,Ys.new,by simp [Xj],by
   rw [Xef]
   simp [Xj]⟩⟩
theorem Vy {v:Value} {n:Nat}:(Xj #[v] (n * 1)).toList=List.replicate n v:=by
 rw [Xej,Vp]
 simp
theorem Zcs {v:Value} {n:Nat}:(Xj #[v,v] (n * 2)).toList=List.replicate (n * 2) v:=by
 apply Xem (by simp [Xj])
 intro i h1 r
 simp only [Xj,Xgp,Xev,List.getElem_replicate]
 have:((Array.range (n * 2)).toList[i]'(by simpa [Xj] using h1)) % (#[v,v]:Array Value).size<2:=by
  exact Nat.mod_lt _ (by simp)
 generalize ((Array.range (n * 2)).toList[i]'(by simpa [Xj] using h1)) % (#[v,v]:Array Value).size=k at this
 match k,this with
 | 0,_=>rfl
 | 1,_=>rfl
theorem Zyp {n:Nat}:(Xj #[.int .i64 0,.int .i64 0,.slice none 0 0] (n * 3)).toList=Zs ((List.replicate n ((⟨0,0,[]⟩:Tab),Sl.nil)).map Qy):=by
 apply Xem (by rw [Zx]; simp [Xj])
 intro i h1 H
 have J:i<n * 3:=by simpa [Xj] using h1
 have r:=Zfo (l:=(List.replicate n ((⟨0,0,[]⟩:Tab),Sl.nil)).map Qy) (i:=i / 3) (by simp; omega)
 simp only [Xev,List.getElem_replicate,Qy] at r
 obtain ⟨D,G,g2⟩:=r
 have e:(Xj #[.int .i64 0,.int .i64 0,.slice none 0 0] (n * 3)).toList[i]=(#[.int .i64 0,.int .i64 0,.slice none 0 0]:Array Value)[i % 3]! := by
  simp [Xj]
 rw [e]
 have e2:(Zs ((List.replicate n ((⟨0,0,[]⟩:Tab),Sl.nil)).map Qy))[i]? = some (Zs ((List.replicate n ((⟨0,0,[]⟩:Tab),Sl.nil)).map Qy))[i]:=Xfe H
 have I:i % 3=0\/i % 3=1\/i % 3=2:=by omega
 rcases I with m | m | m
 ·have q:i=i / 3 * 3:=by omega
  rw [<-q,e2] at D
  rw [m]
  simpa using D.symm
 ·have q:i=i / 3 * 3+1:=by omega
  rw [<-q,e2] at G
  rw [m]
  simpa using G.symm
 ·have q:i=i / 3 * 3+2:=by omega
  rw [<-q,e2] at g2
  rw [m]
  simpa [Sl.nil_v] using g2.symm
end
end Go.Rm
namespace Go.Rm
theorem Zet {l:List Yp} {v i:Nat} {t:Yp} (hv:v<l.length):Zf (l.set v t) i=if i=v then t else Zf l i:=by
 unfold Zf
 simp only [Xee,Xfs]
 by_cases c:v=i
 ·subst c; simp [hv]
 ·have:¬ i=v:=fun e=>c e.symm
  simp [c,this]
theorem Zgz {l:List Tab} {v i:Nat} {t:Tab} (hv:v<l.length):Zp (l.set v t) i=if i=v then t else Zp l i:=by
 unfold Zp
 simp only [Xee,Xfs]
 by_cases c:v=i
 ·subst c; simp [hv]
 ·have:¬ i=v:=fun e=>c e.symm
  simp [c,this]
section bent
variable {N:Zg} (ok:Yd N)
include ok
omit ok in
theorem Zye {p:ByteArray} {k:Int} {w:Wr} (h:w.2≠0):(Wi p k w).2≠0:=by
 unfold Wi
 rw [if_neg h]
 exact h
end bent
theorem Zi3 {l:List (Value × Value × Value)}:∀ {i:Nat} {x:Value},i<l.length ->
  (Zs l).set (i * 3) x=Zs (l.set i (x,(l.getD i (undef,undef,undef)).2.1,(l.getD i (undef,undef,undef)).2.2)) /\
  (Zs l).set (i * 3+1) x=Zs (l.set i ((l.getD i (undef,undef,undef)).1,x,(l.getD i (undef,undef,undef)).2.2)) /\
  (Zs l).set (i * 3+2) x=Zs (l.set i ((l.getD i (undef,undef,undef)).1,(l.getD i (undef,undef,undef)).2.1,x)):=by
 induction l with
 | nil=>intro i x D; simp at D
 | cons t r G =>
  intro i x D
  have e:Zs (t::r)=t.1::t.2.1::t.2.2::Zs r:=rfl
  rw [e]
  cases i with
  | zero=>exact ⟨rfl,rfl,rfl⟩
  | succ i =>
   obtain ⟨h0,h1,H⟩:=G (i:=i) (x:=x) (by simpa using D)
   have I:(i+1) * 3=i * 3+1+1+1:=by omega
   have J:(i+1) * 3+1=i * 3+1+1+1+1:=by omega
   have M:(i+1) * 3+2=i * 3+2+1+1+1:=by omega
   rw [J,M,I]
   simp only [Xg4,h0,h1,H]
   exact ⟨rfl,rfl,rfl⟩
theorem Zwt {l:List Yp} {i:Nat} {x:Int} (r:i<l.length) :
  (Zs (l.map Xm)).set (i * 3) (.int .i64 x)=Zs ((l.set i ⟨x,(Zf l i).b,(Zf l i).c⟩).map Xm) /\
  (Zs (l.map Xm)).set (i * 3+1) (.int .i64 x)=Zs ((l.set i ⟨(Zf l i).a,x,(Zf l i).c⟩).map Xm) /\
  (Zs (l.map Xm)).set (i * 3+2) (.int .i64 x)=Zs ((l.set i ⟨(Zf l i).a,(Zf l i).b,x⟩).map Xm):=by
 have h:=Zi3 (l:=l.map Xm) (i:=i) (x:=.int .i64 x) (by simpa using r)
 have e:(l.map Xm).getD i (undef,undef,undef)=Xm (Zf l i):=by
  rw [Wj r]
  simp [r]
 rw [e] at h
 simp only [Xfb]
 exact h
end Go.Rm
