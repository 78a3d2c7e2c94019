import Derived.Test.YtnmnlnpbekafmaaGreatDoorT20
/- Parts. -/
set_option linter.unusedSimpArgs false
set_option linter.unusedVariables false
namespace Go.Rm
structure Ed where
 u:Nat
 v:Nat
 x:Int
deriving DecidableEq
def bI (b:Bool):Int:=if b then 1 else 0
def Zyo:List Ed->Nat->Int
 | [],_=>0
 | e::r,w=>(if e.u=w then e.x else 0)-(if e.v=w then e.x else 0)+Zyo r w
def Xc5 (L:List Ed) (a b:Nat):Prop:=a≠b/\∃ e∈L,(e.u=a/\e.v=b/\e.x≠1)\/(e.v=a/\e.u=b/\e.x≠-1)
inductive Reach (L:List Ed) (A:Zf):Zf
 | start {v:Nat}:A v->Reach L A v
 | step {v w:Nat}:Reach L A v->Xc5 L v w->Reach L A w
end Go.Rm

namespace Go.Rm
def Zee (l:List Bool) (i:Nat):Bool:=l.getD i false
section
variable {Y:Sys} {h h':Zk}
theorem Zkp {K:Ze} {n:Nat} {m:Int} (G:n<=1000000) (r:m=n) (D:∀ (b:Nat) (h':Zk),h.size<=b->Yl h' 1 (Sl.at b n n) (List.replicate n (.bool false))->Ext h h'->b<h'.size->K (.slice (some ⟨b,0,none⟩) n n) h') :
  Ef.wp h K (.mkslice 1 1 #[.bool false]) [.int .i64 m,.int .i64 m]:=by
 subst r;rw [Vi];refine ⟨by omega,by omega,by omega,by omega,fun t=>?_⟩;simp only [Xeo,Xe1,Ua];refine D h.size _ (Xel _) ⟨by simp,.inr ⟨rfl,rfl,rfl,Xel _,by simp;omega,_,Xa.new,by simp,by simp⟩⟩ Mod.push (by simp)
theorem Zlt {K:Ze} {b n m k:Nat} {cells:Zc} {v:Value} (o:Yl h 1 (Sl.at b n m) cells) (r:k<cells.length)
  (D:∀ h',Yl h' 1 (Sl.at b n m) (cells.set k v)->Mod (fun j=>j=b) h h'->K undef h'):Xo h b k v K:=by
 have:=stN (v:=v) (K:=K) o r D;simpa using this
theorem Vu {b n m v sz:Nat} (r:m<=9223372036854775807) (hv:v<n) (D:n<=m):Ys.sem Y h (.idxa sz) [.slice (some ⟨b,0,none⟩) n m,.int .i64 v]=some (.pointer (some ⟨b,v * sz,none⟩)):=by
 have:=Zm (Y:=Y) (h:=h) (s:=Sl.at b n m) (sz:=sz) (k:=.i64) (i:=v) ⟨fun h=>(by cases h),(by simp;omega),.inl rfl⟩ (by omega) (by simp;omega);simpa using this
theorem Mod.toExtF {p:Nat} {h0 h h':Zk} (x:Ext h0 h) (m:Mod (fun j=>j=p) h h') (hp:h0.size<=p):Ext h0 h':=Mod.ext x m (fun j r=>by omega)
def Vl (l:List Bool):Zc:=l.map fun x=>Value.bool x
theorem Zf5 {l:List Bool}:(Vl l).length=l.length:=by simp [Vl]
end
end Go.Rm
