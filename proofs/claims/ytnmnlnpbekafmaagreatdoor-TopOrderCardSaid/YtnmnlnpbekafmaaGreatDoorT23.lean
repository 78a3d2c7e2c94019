import Derived.Test.YtnmnlnpbekafmaaGreatDoorT22
/- Parts. -/
set_option linter.unusedSimpArgs false
set_option linter.unusedVariables false
namespace Go.Rm
section
variable {Y:Sys} {h h':Zk}
theorem Zgz {s:Sl} {N:Zq} {L:Za} (g:Zhz h s N L) {i:Nat} (r:i<s.n):∃ u:Sl,(∀ h',Ext h h'->hc h' s.b (s.o+i)=some u.v)/\Zeu h u (Yh L i) (Zw N L i):=by
 obtain ⟨u,a,b⟩:=g.val i (by rw [g.len];exact r);exact ⟨u,fun g e=>e.hc a (fun h=>h),b⟩
theorem Zj4 {u:Sl} {n:Nat} {D:Bool->Nat->Zb} (g:Zeu h u n D) {c:Nat} (hc':c<n):∃ a b:Sl,(∀ h',Ext h h'->hc h' u.b (u.o+c * 2)=some a.v/\hc h' u.b (u.o+c * 2+1)=some b.v/\rd h' u.b (u.o+c * 2) 2=some [a.v,b.v])/\Yf h a (D false c)/\Yf h b (D true c):=by
 obtain ⟨a,G,M⟩:=g.val false c hc';obtain ⟨b,H,O⟩:=g.val true c hc';simp [b2n] at G H;refine ⟨a,b,fun h' e=>?_,M,O⟩;have I:=e.hc G (fun h=>h);have J:=e.hc H (fun h=>h);refine ⟨I,J,Zad (l:=[a.v,b.v]) (fun j v r=>?_)⟩
 match j with
 | 0=>simp at r;subst r;exact I
 | 1=>simp at r;subst r;exact J
 | j+2=>simp at r
end
end Go.Rm


namespace Go.Rm
structure Yt where
 kd:Int
 a:Int
 i:Int
 o:Int
 w:Int
def Zpf (t:Yt):Value:=.agg #[.int .i64 t.kd,.int .i64 t.a,.int .i64 t.i,.int .i64 t.o,.int .i64 t.w]
section
variable {Y:Sys} {h:Zk}
def Yn (l:List Yt) (i:Nat):Yt:=l.getD i ⟨0,0,0,0,0⟩
structure U9 (h:Zk) (s:Sl) (l:List Yt):Prop where
 ok:s.ok
 len:l.length=s.n
 val:∀ i,i<l.length->rd h s.b (s.o+i * 5) 5=some [.int .i64 (Yn l i).kd,.int .i64 (Yn l i).a,.int .i64 (Yn l i).i,.int .i64 (Yn l i).o,.int .i64 (Yn l i).w]
end
end Go.Rm
