import Derived.Test.YtnmnlnpbekafmaaGreatDoorT42
/- Parts. -/
set_option linter.unusedSimpArgs false
set_option linter.unusedVariables false
namespace Go.Rm
open Go.ChangeShapes Go.WideShapes Go.Deep
section
variable {H:Type} {enc:TypeId × Value->H} {P:Program} {W:World} {base:Nat}
instance:Inhabited Yt:=⟨⟨0,0,0,0,0⟩⟩
theorem Z4s {h:Zk} {b o:Nat} {a c d e f:Value} (hf:∀ j,j<5->hc h b (o+j)=[a,c,d,e,f][j]?):rd h b o 5=some [a,c,d,e,f]:=by
 refine Zad (l:=[a,c,d,e,f]) (fun j v D=>?_);have r:j<5:=(List.getElem?_eq_some_iff.1 D).1;rw [hf j r];exact D
theorem Read.acts {t e x y:TypeId} {r:Array Field} {v:Value} (h:Read enc P W base t [v]) (ht:P.underlying t=some (.slice e)) (D:P.underlying e=some (.struct r)) (O:P.cellsOf e=5)
  (h0:Vy r 0=some (0,x)) (h1:Vy r 1=some (1,x)) (V:Vy r 2=some (2,x)) (X:Vy r 3=some (3,x)) (h4:Vy r 4=some (4,y)) (M:P.underlying x=some (.int .i64)) (Z:P.underlying y=some (.int .i64))
  (cx:P.cellsOf x=1) (cy:P.cellsOf y=1):∃ (s:Sl) (l:List Yt),v=s.v/\U9 W.heap s l:=by
 obtain ⟨s,e1,ok,_,hx⟩:=h.slice ht O (by omega);obtain ⟨f,hf⟩:=choose_lt (α:=Yt) (n:=s.n) (p:=fun i (n:Yt)=>∀ j,j<5->hc W.heap s.b (s.o+i * 5+j)=[Value.int .i64 n.kd,.int .i64 n.a,.int .i64 n.i,.int .i64 n.o,.int .i64 n.w][j]?) (fun i R=>by
  obtain ⟨aa,hl,G,I⟩:=hx i R;obtain ⟨a,ha,_⟩:=I.gint D h0 M cx;obtain ⟨b,hb,_⟩:=I.gint D h1 M cx;obtain ⟨c,hc,_⟩:=I.gint D V M cx;obtain ⟨d,hd,_⟩:=I.gint D X M cx;obtain ⟨g,hg,_⟩:=I.gint D h4 Z cy;refine ⟨⟨a,b,c,d,g⟩,fun j U=>?_⟩;rw [G j U]
  match j,U with
  | 0,_=>exact ha
  | 1,_=>exact hb
  | 2,_=>exact hc
  | 3,_=>exact hd
  | 4,_=>exact hg)
 refine ⟨s,(List.range s.n).map f,by simpa using e1,ok,by simp,fun i R=>?_⟩;have J:i<s.n:=by simpa using R
 have g:Yn ((List.range s.n).map f) i=f i:=by simp [Yn,J]
 rw [g];exact Z4s (hf i J)
theorem Zbu.actss {r t e x y:TypeId} {D:Array Field} {v:Value} (h:Zbu enc P W r v) (J:P.underlying r=some (.slice t)) (X:P.cellsOf t=1) (ht:P.underlying t=some (.slice e)) (Z:P.underlying e=some (.struct D)) (M:P.cellsOf e=5)
  (h0:Vy D 0=some (0,x)) (h1:Vy D 1=some (1,x)) (h2:Vy D 2=some (2,x)) (h3:Vy D 3=some (3,x)) (h4:Vy D 4=some (4,y)) (ux:P.underlying x=some (.int .i64)) (uy:P.underlying y=some (.int .i64))
  (cx:P.cellsOf x=1) (cy:P.cellsOf y=1):∃ (s:Sl) (ls:List (List Yt)),v=s.v/\Zfx W.heap s ls/\ls.length<=maxLen:=by
 obtain ⟨s,e1,V,hm,hx⟩:=(h.slice J).slice J X (by omega);obtain ⟨f,hf⟩:=choose_lt (α:=List Yt) (n:=s.n) (p:=fun k (n:List Yt)=>∃ u:Sl,hc W.heap s.b (s.o+k)=some u.v/\U9 W.heap u n) (fun k O=>by
  obtain ⟨R,hl,G,J⟩:=hx k O;have U:=G 0 (by omega)
  match R,hl with
  | [x'],_ =>
   obtain ⟨u,l,rfl,hu⟩:=J.acts ht Z M h0 h1 h2 h3 h4 ux uy cx cy;exact ⟨l,u,by simpa using U,hu⟩)
 refine ⟨s,(List.range s.n).map f,by simpa using e1,⟨V,by simp,fun k O=>?_⟩,by simpa using Xfc V.le hm⟩;have I:k<s.n:=by simpa using O
 have g:Zd6 ((List.range s.n).map f) k=f k:=by simp [Zd6,I]
 rw [g];exact hf k I
end
end Go.Rm
namespace Go.Rm
open Go.ChangeShapes Go.WideShapes Go.Deep
section
variable {H:Type} {enc:TypeId × Value->H} {P:Program} {W:World} {base:Nat}
theorem Zbu.agg {t:TypeId} {D:Array Field} {v:Value} (h:Zbu enc P W t v) (ht:P.underlying t=some (.struct D)):∃ cs,v = .agg cs/\Read enc P W 0 t cs.toList:=by
 have r:=h.2.1;simp only [ht] at r;obtain ⟨cs,rfl⟩:=r;exact ⟨cs,rfl,h.1⟩
theorem Read.rows {t e i:TypeId} {v:Value} (h:Read enc P W base t [v]) (ht:P.underlying t=some (.slice e)) (M:P.underlying e=some (.slice i)) (O:P.underlying i=some (.int .i64)) (ce:P.cellsOf e=1) (R:P.cellsOf i=1) :
  ∃ (s:Sl) (L:Za),v=s.v/\Qw W.heap s L/\s.n<=maxLen:=by
 obtain ⟨s,U,J,V,hx⟩:=h.slice ht ce (by omega);obtain ⟨f,hf⟩:=choose_lt (α:=Zb) (n:=s.n) (p:=fun k (n:Zb)=>∃ u:Sl,hc W.heap s.b (s.o+k)=some u.v/\Yf W.heap u n) (fun k G=>by
  obtain ⟨I,X,r,Z⟩:=hx k G;have h0:=r 0 (by omega)
  match I,X with
  | [x],_ =>
   obtain ⟨u,cs,rfl,hu,_⟩:=Z.costs M O R;exact ⟨cs,u,by simpa using h0,hu⟩)
 refine ⟨s,(List.range s.n).map f,by simpa using U,⟨J,by simp,fun k G=>?_⟩,Xfc J.le V⟩;have D:k<s.n:=by simpa using G
 have g:Zz ((List.range s.n).map f) k=f k:=by simp [Zz,D]
 rw [g];exact hf k D
theorem Zbu.part {t r e i:TypeId} {I:Array Field} {v:Value} (h:Zbu enc P W t v) (ht:P.underlying t=some (.struct I)) (O:P.cellsOf t=1) (h0:Vy I 0=some (0,r)) (J:P.underlying r=some (.slice e)) (R:P.cellsOf r=1)
  (U:P.underlying e=some (.slice i)) (V:P.underlying i=some (.int .i64)) (ce:P.cellsOf e=1) (X:P.cellsOf i=1) :
  ∃ (s:Sl) (L:Za),v=U5 s/\Qw W.heap s L/\s.n<=maxLen:=by
 obtain ⟨cs,rfl,D⟩:=h.agg ht;have M:=(D.struct ht).1;rw [O] at M;obtain ⟨x,hx,G⟩:=D.gslice ht h0 J R;obtain ⟨s,L,rfl,Z,q2⟩:=G.rows J U V ce X;refine ⟨s,L,?_,Z,q2⟩;unfold U5
 congr 1
 apply Xes
 match aa:cs.toList,M,hx with
 | [y],_,hx=>simp at hx;rw [hx]
end
end Go.Rm
