import Derived.Test.YtmpamfkkaakbfaaGreatDoorT19
import Derived.Test.YtmpamfkkaakbfaaGreatDoorT42
import Derived.Test.YtmpamfkkaakbfaaGreatDoorT20
/- Parts RArg6 RArg3 -/
set_option linter.unusedSimpArgs false
set_option linter.unusedVariables false
namespace Go.Rm
open Go.ChangeShapes Go.WideShapes Go.Deep
section
variable {H:Type} {enc:TypeId × Value->H} {P:Program} {W:World} {base:Nat}
instance:Inhabited Ym:=⟨⟨0,0,0,0,0⟩⟩
theorem Z4e {h:Za} {b o:Nat} {a c d e f:Value} (hf:∀ j,j<5->hc h b (o+j)=[a,c,d,e,f][j]?):rd h b o 5=some [a,c,d,e,f]:=by
 refine Zal (l:=[a,c,d,e,f]) (fun j v D=>?_)
 have r:j<5:=(List.getElem?_eq_some_iff.1 D).1
 rw [hf j r]
 exact D
theorem Read.acts {t e x y:TypeId} {r:Array Field} {v:Value} (h:Read enc P W base t [v]) (ht:P.underlying t=some (.slice e)) (D:P.underlying e=some (.struct r)) (O:P.cellsOf e=5)
  (h0:Vn r 0=some (0,x)) (h1:Vn r 1=some (1,x)) (V:Vn r 2=some (2,x)) (X:Vn r 3=some (3,x)) (h4:Vn r 4=some (4,y)) (M:P.underlying x=some (.int .i64)) (Z:P.underlying y=some (.int .i64))
  (cx:P.cellsOf x=1) (cy:P.cellsOf y=1):∃ (s:Sl) (l:List Ym),v=s.v/\Zbt W.heap s l:=by
 obtain ⟨s,e1,ok,_,hx⟩:=h.slice ht O (by omega)
 obtain ⟨f,hf⟩:=choose_lt (α:=Ym) (n:=s.n) (p:=fun i (n:Ym)=>∀ j,j<5->hc W.heap s.b (s.o+i * 5+j)=[Value.int .i64 n.kd,.int .i64 n.a,.int .i64 n.i,.int .i64 n.o,.int .i64 n.w][j]?) (fun i R=>by
  obtain ⟨aa,hl,G,I⟩:=hx i R
  obtain ⟨a,ha,_⟩:=I.gint D h0 M cx
  obtain ⟨b,hb,_⟩:=I.gint D h1 M cx
  obtain ⟨c,hc,_⟩:=I.gint D V M cx
  obtain ⟨d,hd,_⟩:=I.gint D X M cx
  obtain ⟨g,hg,_⟩:=I.gint D h4 Z cy
  refine ⟨⟨a,b,c,d,g⟩,fun j U=>?_⟩
  rw [G j U]
  match j,U with
  | 0,_=>exact ha
  | 1,_=>exact hb
  | 2,_=>exact hc
  | 3,_=>exact hd
  | 4,_=>exact hg)
 refine ⟨s,(List.range s.n).map f,by simpa using e1,ok,by simp,fun i R=>?_⟩
 have J:i<s.n:=by simpa using R
 have g:Yf ((List.range s.n).map f) i=f i:=by simp [Yf,J]
 rw [g]
 exact Z4e (hf i J)
theorem Zcn.actss {r t e x y:TypeId} {D:Array Field} {v:Value} (h:Zcn enc P W r v) (J:P.underlying r=some (.slice t)) (X:P.cellsOf t=1) (ht:P.underlying t=some (.slice e)) (Z:P.underlying e=some (.struct D)) (M:P.cellsOf e=5)
  (h0:Vn D 0=some (0,x)) (h1:Vn D 1=some (1,x)) (h2:Vn D 2=some (2,x)) (h3:Vn D 3=some (3,x)) (h4:Vn D 4=some (4,y)) (ux:P.underlying x=some (.int .i64)) (uy:P.underlying y=some (.int .i64))
  (cx:P.cellsOf x=1) (cy:P.cellsOf y=1):∃ (s:Sl) (ls:List (List Ym)),v=s.v/\Zp0 W.heap s ls/\ls.length<=maxLen:=by
 obtain ⟨s,e1,V,hm,hx⟩:=(h.slice J).slice J X (by omega)
 obtain ⟨f,hf⟩:=choose_lt (α:=List Ym) (n:=s.n) (p:=fun k (n:List Ym)=>∃ u:Sl,hc W.heap s.b (s.o+k)=some u.v/\Zbt W.heap u n) (fun k O=>by
  obtain ⟨R,hl,G,J⟩:=hx k O
  have U:=G 0 (by omega)
  match R,hl with
  | [x'],_ =>
   obtain ⟨u,l,rfl,hu⟩:=J.acts ht Z M h0 h1 h2 h3 h4 ux uy cx cy
   exact ⟨l,u,by simpa using U,hu⟩)
 refine ⟨s,(List.range s.n).map f,by simpa using e1,⟨V,by simp,fun k O=>?_⟩,by simpa using Xew V.le hm⟩
 have I:k<s.n:=by simpa using O
 have g:Zaf ((List.range s.n).map f) k=f k:=by simp [Zaf,I]
 rw [g]
 exact hf k I
end
end Go.Rm
namespace Go.Rm
open Go.ChangeShapes Go.WideShapes Go.Deep
section
variable {H:Type} {enc:TypeId × Value->H} {P:Program} {W:World} {base:Nat}
theorem Zcn.agg {t:TypeId} {D:Array Field} {v:Value} (h:Zcn enc P W t v) (ht:P.underlying t=some (.struct D)):∃ cs,v = .agg cs/\Read enc P W 0 t cs.toList:=by
 have r:=h.2.1
 simp only [ht] at r
 obtain ⟨cs,rfl⟩:=r
 exact ⟨cs,rfl,h.1⟩
theorem Read.rows {t e i:TypeId} {v:Value} (h:Read enc P W base t [v]) (ht:P.underlying t=some (.slice e)) (M:P.underlying e=some (.slice i)) (O:P.underlying i=some (.int .i64)) (ce:P.cellsOf e=1) (R:P.cellsOf i=1) :
  ∃ (s:Sl) (L:List (List Int)),v=s.v/\Ql W.heap s L/\s.n<=maxLen:=by
 obtain ⟨s,U,J,V,hx⟩:=h.slice ht ce (by omega)
 obtain ⟨f,hf⟩:=choose_lt (α:=List Int) (n:=s.n) (p:=fun k (n:List Int)=>∃ u:Sl,hc W.heap s.b (s.o+k)=some u.v/\Zz W.heap u n) (fun k G=>by
  obtain ⟨I,X,r,Z⟩:=hx k G
  have h0:=r 0 (by omega)
  match I,X with
  | [x],_ =>
   obtain ⟨u,cs,rfl,hu,_⟩:=Z.costs M O R
   exact ⟨cs,u,by simpa using h0,hu⟩)
 refine ⟨s,(List.range s.n).map f,by simpa using U,⟨J,by simp,fun k G=>?_⟩,Xew J.le V⟩
 have D:k<s.n:=by simpa using G
 have g:Zq ((List.range s.n).map f) k=f k:=by simp [Zq,D]
 rw [g]
 exact hf k D
theorem Zcn.part {t r e i:TypeId} {I:Array Field} {v:Value} (h:Zcn enc P W t v) (ht:P.underlying t=some (.struct I)) (O:P.cellsOf t=1) (h0:Vn I 0=some (0,r)) (J:P.underlying r=some (.slice e)) (R:P.cellsOf r=1)
  (U:P.underlying e=some (.slice i)) (V:P.underlying i=some (.int .i64)) (ce:P.cellsOf e=1) (X:P.cellsOf i=1) :
  ∃ (s:Sl) (L:List (List Int)),v=X0 s/\Ql W.heap s L/\s.n<=maxLen:=by
 obtain ⟨cs,rfl,D⟩:=h.agg ht
 have M:=(D.struct ht).1
 rw [O] at M
 obtain ⟨x,hx,G⟩:=D.gslice ht h0 J R
 obtain ⟨s,L,rfl,Z,q2⟩:=G.rows J U V ce X
 refine ⟨s,L,?_,Z,q2⟩
 unfold X0
 congr 1
 apply Xed
 match aa:cs.toList,M,hx with
 | [y],_,hx=>simp at hx; rw [hx]
end
end Go.Rm
