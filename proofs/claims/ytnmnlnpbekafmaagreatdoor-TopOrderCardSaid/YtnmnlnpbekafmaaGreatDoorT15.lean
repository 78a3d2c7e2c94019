import Derived.Test.YtnmnlnpbekafmaaGreatDoorT14
/- Parts. -/
set_option linter.unusedSimpArgs false
set_option linter.unusedVariables false
namespace Go.Rm
def Zon (N:Zq):Bool:=Zfk N && decide ((Vw N).2=0)
section
variable {Y:Sys} {h:Zk}
theorem Yl.setN {sz:Nat} {s:Sl} {cells:Zc} (G:Yl h sz s cells) {i:Nat} {v:Value} (I:i<cells.length):Yl (Wy h s.b (s.o+i) v) sz s (cells.set i v):=by
 refine ⟨by simp [G.1],?_⟩;rcases G.2 with ⟨_,rfl⟩ | ⟨h1,H,r,J,h4,D,hb,M,O⟩
 ·simp at I
 refine .inr ⟨h1,H,r,J,h4,D.setIfInBounds (s.o+i) v,hb.set,by simp [M],?_⟩;rw [H,Xfg,Xhc,<-O,List.take_set]
theorem stN {K:Ze} {sz:Nat} {s:Sl} {cells:Zc} (o:Yl h sz s cells) {k:Nat} {v:Value} (D:k<cells.length)
  (G:∀ h',Yl h' sz s (cells.set k v)->Mod (fun j=>j=s.b) h h'->K undef h'):Xo h s.b (s.o+k) v K:=by
 have h1:=o.setN (v:=v) D;obtain ⟨H,hb,r,I⟩:=o.blk D;rw [Xo.open];refine ⟨?_,hb.hfz,G _ h1 (Mod.set rfl)⟩;rw [hb.hc];simp [r]
end
end Go.Rm

namespace Go.Rm
theorem Zmf {as:List Xe} {v:Nat}:(Zzv as v).length=Qn as v:=by rw [Zzv,Zc3,Qn]
theorem Zjl {as:List Xe} {v:Nat}:(Zbb as v).length=Wz as v:=by rw [Zbb,Zc3,Wz]
def Stmt.rest:Stmt->Stmt
 | .seq _ b=>b
 | s=>s
section
variable {Y:Sys} {h:Zk}
theorem Yl.ext' {h h':Zk} {sz:Nat} {s:Sl} {cells:Zc} (o:Yl h sz s cells) (e:Ext h h'):Yl h' sz s cells:=o.mod e (fun _ h=>h)
theorem stB {K:Ze} {B o:Nat} {cs:Array Value} {v:Value} (hb:Xa h B cs) (r:o<cs.size) (D:∀ h',Xa h' B (cs.setIfInBounds o v)->Mod (fun j=>j=B) h h'->K undef h'):Xo h B o v K:=by
 rw [Xo.open];refine ⟨?_,hb.hfz,D _ hb.set (Mod.set rfl)⟩;rw [hb.hc];simp [r]
@[simp] theorem Z4x {K:Ze} {b o:Nat} {a:Option Addr} {n c:Nat}:Ef.wp h K (.store 1) [.pointer (some ⟨b,o,none⟩),.slice a n c]=Xo h b o (.slice a n c) K:=Qb rfl
end
end Go.Rm
