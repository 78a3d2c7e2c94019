import Derived.Test.YtpikofomaekpoaaGreatDoorT13
/- Parts. -/
set_option linter.unusedSimpArgs false
set_option linter.unusedVariables false
namespace Go.Rm
def Zpu (N:Zr):Bool:=Zf1 N && decide ((Uc N).2=0)
section
variable {Y:Sys} {h:Zk}
theorem Ym.setN {sz:Nat} {s:Sl} {cells:Zc} (G:Ym h sz s cells) {i:Nat} {v:Value} (I:i<cells.length):Ym (Vd h s.b (s.o+i) v) sz s (cells.set i v):=by
 refine ⟨by simp [G.1],?_⟩;rcases G.2 with ⟨_,rfl⟩ | ⟨h1,H,r,J,h4,D,hb,M,O⟩
 ·simp at I
 refine .inr ⟨h1,H,r,J,h4,D.setIfInBounds (s.o+i) v,hb.set,by simp [M],?_⟩;rw [H,Xgl,Xip,<-O,List.take_set]
theorem stN {K:Ze} {sz:Nat} {s:Sl} {cells:Zc} (o:Ym h sz s cells) {k:Nat} {v:Value} (D:k<cells.length)
  (G:∀ h',Ym h' sz s (cells.set k v)->Mod (fun j=>j=s.b) h h'->K undef h'):Xt h s.b (s.o+k) v K:=by
 have h1:=o.setN (v:=v) D;obtain ⟨H,hb,r,I⟩:=o.blk D;rw [Xt.open];refine ⟨?_,hb.hfz,G _ h1 (Mod.set rfl)⟩;rw [hb.hc];simp [r]
end
end Go.Rm

namespace Go.Rm
theorem Zou {l:Zb} {k i:Nat} (r:i<k):Zl (l.take k) i=Zl l i:=by
 simp only [Zl,Xf5,Xg7,r,if_true]
theorem Zrb {N:Zr} {l:Zb} {k:Nat}:∀ {i:Nat},i<=k->Vy N (l.take k) i=Vy N l i:=by
 intro i
 induction i with
 | zero=>intro _;rfl
 | succ i ih =>
  intro r;rw [Vy,Vy]
  split
  ·rfl
  rw [ih (by omega),Zou (by omega),Zou (by omega)]
theorem Zng {as:List Xe} {v:Nat}:(Zfh as v).length=Qs as v:=by rw [Zfh,Q8,Qs]
theorem Zkk {as:List Xe} {v:Nat}:(Qd as v).length=Wz as v:=by rw [Qd,Q8,Wz]
def Stmt.rest:Stmt->Stmt
 | .seq _ b=>b
 | s=>s
section
variable {Y:Sys} {h:Zk}
theorem Ym.ext' {h h':Zk} {sz:Nat} {s:Sl} {cells:Zc} (o:Ym h sz s cells) (e:Ext h h'):Ym h' sz s cells:=o.mod e (fun _ h=>h)
theorem stB {K:Ze} {B o:Nat} {cs:Array Value} {v:Value} (hb:Xb h B cs) (r:o<cs.size) (D:∀ h',Xb h' B (cs.setIfInBounds o v)->Mod (fun j=>j=B) h h'->K undef h'):Xt h B o v K:=by
 rw [Xt.open];refine ⟨?_,hb.hfz,D _ hb.set (Mod.set rfl)⟩;rw [hb.hc];simp [r]
@[simp] theorem Z6a {K:Ze} {b o:Nat} {a:Option Addr} {n c:Nat}:Ef.wp h K (.store 1) [.pointer (some ⟨b,o,none⟩),.slice a n c]=Xt h b o (.slice a n c) K:=Qh rfl
end
end Go.Rm
