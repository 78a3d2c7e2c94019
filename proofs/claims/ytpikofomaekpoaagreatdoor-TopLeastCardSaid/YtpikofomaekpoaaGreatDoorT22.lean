import Derived.Test.YtpikofomaekpoaaGreatDoorT21
/- Parts. -/
set_option linter.unusedSimpArgs false
set_option linter.unusedVariables false
namespace Go.Rm
section
variable {Y:Sys} {h h':Zk}
theorem Zho {s:Sl} {N:Zr} {L:Za} (g:Ziu h s N L) {i:Nat} (r:i<s.n):∃ u:Sl,(∀ h',Ext h h'->hc h' s.b (s.o+i)=some u.v)/\Ze9 h u (Yi L i) (Zx N L i):=by
 obtain ⟨u,a,b⟩:=g.val i (by rw [g.len];exact r);exact ⟨u,fun g e=>e.hc a (fun h=>h),b⟩
theorem Zk7 {u:Sl} {n:Nat} {D:Bool->Nat->Zb} (g:Ze9 h u n D) {c:Nat} (hc':c<n):∃ a b:Sl,(∀ h',Ext h h'->hc h' u.b (u.o+c * 2)=some a.v/\hc h' u.b (u.o+c * 2+1)=some b.v/\rd h' u.b (u.o+c * 2) 2=some [a.v,b.v])/\Yd h a (D false c)/\Yd h b (D true c):=by
 obtain ⟨a,G,M⟩:=g.val false c hc';obtain ⟨b,H,O⟩:=g.val true c hc';simp [b2n] at G H;refine ⟨a,b,fun h' e=>?_,M,O⟩;have I:=e.hc G (fun h=>h);have J:=e.hc H (fun h=>h);refine ⟨I,J,Zba (l:=[a.v,b.v]) (fun j v r=>?_)⟩
 match j with
 | 0=>simp at r;subst r;exact I
 | 1=>simp at r;subst r;exact J
 | j+2=>simp at r
end
end Go.Rm


namespace Go.Rm
structure Yz where
 kd:Int
 a:Int
 i:Int
 o:Int
 w:Int
def Zqn (t:Yz):Value:=.agg #[.int .i64 t.kd,.int .i64 t.a,.int .i64 t.i,.int .i64 t.o,.int .i64 t.w]
section
variable {Y:Sys} {h:Zk}
def Yp (l:List Yz) (i:Nat):Yz:=l.getD i ⟨0,0,0,0,0⟩
structure Zcm (h:Zk) (s:Sl) (l:List Yz):Prop where
 ok:s.ok
 len:l.length=s.n
 val:∀ i,i<l.length->rd h s.b (s.o+i * 5) 5=some [.int .i64 (Yp l i).kd,.int .i64 (Yp l i).a,.int .i64 (Yp l i).i,.int .i64 (Yp l i).o,.int .i64 (Yp l i).w]
end
end Go.Rm
