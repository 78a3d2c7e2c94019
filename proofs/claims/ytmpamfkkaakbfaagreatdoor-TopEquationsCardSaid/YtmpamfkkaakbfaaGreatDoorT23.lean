import Derived.Test.YtmpamfkkaakbfaaGreatDoorT22
import Derived.Test.YtmpamfkkaakbfaaGreatDoorT19
/- Parts RLaw16 RLaw16b RLaw16c RGraph7 RLaw6 -/
set_option linter.unusedSimpArgs false
set_option linter.unusedVariables false
namespace Go.Rm
section
variable {Y:Sys} {h h':Za}
theorem Zgo {s:Sl} {N:Zg} {L:List (List Int)} (g:Zho h s N L) {i:Nat} (r:i<s.n):∃ u:Sl,(∀ h',Ext h h'->hc h' s.b (s.o+i)=some u.v)/\Zeh h u (Zw L i) (Zn N L i):=by
 obtain ⟨u,a,b⟩:=g.val i (by rw [g.len]; exact r)
 exact ⟨u,fun g e=>e.hc a (fun h=>h),b⟩
theorem Zjv {u:Sl} {n:Nat} {D:Bool->Nat->List Int} (g:Zeh h u n D) {c:Nat} (hc':c<n):∃ a b:Sl,(∀ h',Ext h h'->hc h' u.b (u.o+c * 2)=some a.v/\hc h' u.b (u.o+c * 2+1)=some b.v/\rd h' u.b (u.o+c * 2) 2=some [a.v,b.v])/\Zz h a (D false c)/\Zz h b (D true c):=by
 obtain ⟨a,G,M⟩:=g.val false c hc'
 obtain ⟨b,H,O⟩:=g.val true c hc'
 simp [b2n] at G H
 refine ⟨a,b,fun h' e=>?_,M,O⟩
 have I:=e.hc G (fun h=>h)
 have J:=e.hc H (fun h=>h)
 refine ⟨I,J,Zal (l:=[a.v,b.v]) (fun j v r=>?_)⟩
 match j with
 | 0=>simp at r; subst r; exact I
 | 1=>simp at r; subst r; exact J
 | j+2=>simp at r
end
end Go.Rm


namespace Go.Rm
structure Ym where
 kd:Int
 a:Int
 i:Int
 o:Int
 w:Int
def Zo0 (t:Ym):Value:=.agg #[.int .i64 t.kd,.int .i64 t.a,.int .i64 t.i,.int .i64 t.o,.int .i64 t.w]
section
variable {Y:Sys} {h:Za}
def Yf (l:List Ym) (i:Nat):Ym:=l.getD i ⟨0,0,0,0,0⟩
structure Zbt (h:Za) (s:Sl) (l:List Ym):Prop where
 ok:s.ok
 len:l.length=s.n
 val:∀ i,i<l.length->rd h s.b (s.o+i * 5) 5=some [.int .i64 (Yf l i).kd,.int .i64 (Yf l i).a,.int .i64 (Yf l i).i,.int .i64 (Yf l i).o,.int .i64 (Yf l i).w]
theorem Xao {b o n:Nat} {l:List Value} (r:Rm.rd h b o (n+1)=some l):b<h.size:=by
 rcases Xd8 b h.size with q | q
 ·exact q
 ·simp [Rm.rd,Rm.hc,Xfw q] at r
end
end Go.Rm
