import Derived.Test.YtmpamfkkaakbfaaGreatDoorT14
/- Parts RLaw3 RLaw3b RLaw3c RLaw3d RLaw3e RLaw3f -/
set_option linter.unusedSimpArgs false
set_option linter.unusedVariables false
namespace Go.Rm
def Zn8 (N:Zg):Bool:=Ze9 N && decide ((Vk N).2=0)
section
variable {Y:Sys} {h:Za}
theorem Yb.setN {sz:Nat} {s:Sl} {cells:List Value} (G:Yb h sz s cells) {i:Nat} {v:Value} (I:i<cells.length):Yb (Wm h s.b (s.o+i) v) sz s (cells.set i v):=by
 refine ⟨by simp [G.1],?_⟩
 rcases G.2 with ⟨_,rfl⟩ | ⟨h1,H,r,J,h4,D,hb,M,O⟩
 ·simp at I
 ·refine .inr ⟨h1,H,r,J,h4,D.setIfInBounds (s.o+i) v,hb.set,by simp [M],?_⟩
  rw [H,Xes,Xgx,<-O,List.take_set]
theorem stN {K:Value->Za->Prop} {sz:Nat} {s:Sl} {cells:List Value} (o:Yb h sz s cells) {k:Nat} {v:Value} (D:k<cells.length)
  (G:∀ h',Yb h' sz s (cells.set k v)->Mod (fun j=>j=s.b) h h'->K undef h'):Xg h s.b (s.o+k) v K:=by
 have h1:=o.setN (v:=v) D
 obtain ⟨H,hb,r,I⟩:=o.blk D
 rw [Xg.open]
 refine ⟨?_,hb.hfz,G _ h1 (Mod.set rfl)⟩
 rw [hb.hc]
 simp [r]
end
end Go.Rm

namespace Go.Rm
theorem Zl2 {as:List Yp} {v:Nat}:(Zep as v).length=Qc as v:=by rw [Zep,W8,Qc]
theorem Zjc {as:List Yp} {v:Nat}:(Uw as v).length=Wk as v:=by rw [Uw,W8,Wk]
def Stmt.rest:Stmt->Stmt
 | .seq _ b=>b
 | s=>s
section
variable {Y:Sys} {h:Za}
theorem Yb.ext' {h h':Za} {sz:Nat} {s:Sl} {cells:List Value} (o:Yb h sz s cells) (e:Ext h h'):Yb h' sz s cells:=o.mod e (fun _ h=>h)
theorem stB {K:Value->Za->Prop} {B o:Nat} {cs:Array Value} {v:Value} (hb:Ys h B cs) (r:o<cs.size) (D:∀ h',Ys h' B (cs.setIfInBounds o v)->Mod (fun j=>j=B) h h'->K undef h'):Xg h B o v K:=by
 rw [Xg.open]
 refine ⟨?_,hb.hfz,D _ hb.set (Mod.set rfl)⟩
 rw [hb.hc]
 simp [r]
@[simp] theorem Z4i {K:Value->Za->Prop} {b o:Nat} {a:Option Addr} {n c:Nat}:Ef.wp h K (.store 1) [.pointer (some ⟨b,o,none⟩),.slice a n c]=Xg h b o (.slice a n c) K:=Us rfl
end
end Go.Rm
