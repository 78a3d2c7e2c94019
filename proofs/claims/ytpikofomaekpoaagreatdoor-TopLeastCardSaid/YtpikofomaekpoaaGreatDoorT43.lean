import Derived.Test.YtpikofomaekpoaaGreatDoorT42
/- Parts. -/
set_option linter.all false
namespace Go.Rm
open Go.ChangeShapes Go.WideShapes Go.Deep
section
variable {H:Type} {enc:TypeId × Value->H} {P:Program} {W:World} {base:Nat}
instance:Inhabited Yz:=⟨⟨0,0,0,0,0⟩⟩
def Z56 {h:Zk} {b o:Nat} {a c d e f:Value} (hf:∀ j,j<5->hc h b (o+j)=[a,c,d,e,f][j]?):rd h b o 5=some [a,c,d,e,f]:=by
 refine Zba (l:=[a,c,d,e,f]) (fun j v D=>?_);have r:j<5:=(List.getElem?_eq_some_iff.1 D).1;rw [hf j r];exact D
def Read.acts {t e x y:TypeId} {r:Array Field} {v:Value} (h:Read enc P W base t [v]) (ht:P.underlying t=some (.slice e)) (D:P.underlying e=some (.struct r)) (O:P.cellsOf e=5)
  (h0:Uf r 0=some (0,x)) (h1:Uf r 1=some (1,x)) (V:Uf r 2=some (2,x)) (X:Uf r 3=some (3,x)) (h4:Uf r 4=some (4,y)) (M:P.underlying x=some (.int .i64)) (Z:P.underlying y=some (.int .i64))
  (cx:P.cellsOf x=1) (cy:P.cellsOf y=1):∃ (s:Sl) (l:List Yz),v=s.v/\Zcm W.heap s l:=by
 obtain ⟨s,e1,ok,_,hx⟩:=h.slice ht O (by omega);obtain ⟨f,hf⟩:=choose_lt (α:=Yz) (n:=s.n) (p:=fun i (n:Yz)=>∀ j,j<5->hc W.heap s.b (s.o+i * 5+j)=[Value.int .i64 n.kd,.int .i64 n.a,.int .i64 n.i,.int .i64 n.o,.int .i64 n.w][j]?) (fun i R=>by
  obtain ⟨aa,hl,G,I⟩:=hx i R;obtain ⟨a,ha,_⟩:=I.gint D h0 M cx;obtain ⟨b,hb,_⟩:=I.gint D h1 M cx;obtain ⟨c,hc,_⟩:=I.gint D V M cx;obtain ⟨d,hd,_⟩:=I.gint D X M cx;obtain ⟨g,hg,_⟩:=I.gint D h4 Z cy;refine ⟨⟨a,b,c,d,g⟩,fun j U=>?_⟩;rw [G j U]
  match j,U with
  | 0,_=>exact ha
  | 1,_=>exact hb
  | 2,_=>exact hc
  | 3,_=>exact hd
  | 4,_=>exact hg)
 refine ⟨s,(List.range s.n).map f,by simpa using e1,ok,by simp,fun i R=>?_⟩;have J:i<s.n:=by simpa using R
 have g:Yp ((List.range s.n).map f) i=f i:=by simp [Yp,J]
 rw [g];exact Z56 (hf i J)
def Zb7.actss {r t e x y:TypeId} {D:Array Field} {v:Value} (h:Zb7 enc P W r v) (J:P.underlying r=some (.slice t)) (X:P.cellsOf t=1) (ht:P.underlying t=some (.slice e)) (Z:P.underlying e=some (.struct D)) (M:P.cellsOf e=5)
  (h0:Uf D 0=some (0,x)) (h1:Uf D 1=some (1,x)) (h2:Uf D 2=some (2,x)) (h3:Uf D 3=some (3,x)) (h4:Uf D 4=some (4,y)) (ux:P.underlying x=some (.int .i64)) (uy:P.underlying y=some (.int .i64))
  (cx:P.cellsOf x=1) (cy:P.cellsOf y=1):∃ (s:Sl) (ls:List (List Yz)),v=s.v/\Zrl W.heap s ls/\ls.length<=maxLen:=by
 obtain ⟨s,e1,V,hm,hx⟩:=(h.slice J).slice J X (by omega);obtain ⟨f,hf⟩:=choose_lt (α:=List Yz) (n:=s.n) (p:=fun k (n:List Yz)=>∃ u:Sl,hc W.heap s.b (s.o+k)=some u.v/\Zcm W.heap u n) (fun k O=>by
  obtain ⟨R,hl,G,J⟩:=hx k O;have U:=G 0 (by omega)
  match R,hl with
  | [x'],_ =>
   obtain ⟨u,l,rfl,hu⟩:=J.acts ht Z M h0 h1 h2 h3 h4 ux uy cx cy;exact ⟨l,u,by simpa using U,hu⟩)
 refine ⟨s,(List.range s.n).map f,by simpa using e1,⟨V,by simp,fun k O=>?_⟩,by simpa using Xgk V.le hm⟩;have I:k<s.n:=by simpa using O
 have g:Za5 ((List.range s.n).map f) k=f k:=by simp [Za5,I]
 rw [g];exact hf k I
end
end Go.Rm
namespace Go.Rm
open Go.ChangeShapes Go.WideShapes Go.Deep
section
variable {H:Type} {enc:TypeId × Value->H} {P:Program} {W:World} {base:Nat}
def Zb7.agg {t:TypeId} {D:Array Field} {v:Value} (h:Zb7 enc P W t v) (ht:P.underlying t=some (.struct D)):∃ cs,v = .agg cs/\Read enc P W 0 t cs.toList:=by
 have r:=h.2.1;simp only [ht] at r;obtain ⟨cs,rfl⟩:=r;exact ⟨cs,rfl,h.1⟩
def Read.rows {t e i:TypeId} {v:Value} (h:Read enc P W base t [v]) (ht:P.underlying t=some (.slice e)) (M:P.underlying e=some (.slice i)) (O:P.underlying i=some (.int .i64)) (ce:P.cellsOf e=1) (R:P.cellsOf i=1) :
  ∃ (s:Sl) (L:Za),v=s.v/\Qn W.heap s L/\s.n<=maxLen:=by
 obtain ⟨s,U,J,V,hx⟩:=h.slice ht ce (by omega);obtain ⟨f,hf⟩:=choose_lt (α:=Zb) (n:=s.n) (p:=fun k (n:Zb)=>∃ u:Sl,hc W.heap s.b (s.o+k)=some u.v/\Yd W.heap u n) (fun k G=>by
  obtain ⟨I,X,r,Z⟩:=hx k G;have h0:=r 0 (by omega)
  match I,X with
  | [x],_ =>
   obtain ⟨u,cs,rfl,hu,_⟩:=Z.costs M O R;exact ⟨cs,u,by simpa using h0,hu⟩)
 refine ⟨s,(List.range s.n).map f,by simpa using U,⟨J,by simp,fun k G=>?_⟩,Xgk J.le V⟩;have D:k<s.n:=by simpa using G
 have g:Ya ((List.range s.n).map f) k=f k:=by simp [Ya,D]
 rw [g];exact hf k D
def Zb7.part {t r e i:TypeId} {I:Array Field} {v:Value} (h:Zb7 enc P W t v) (ht:P.underlying t=some (.struct I)) (O:P.cellsOf t=1) (h0:Uf I 0=some (0,r)) (J:P.underlying r=some (.slice e)) (R:P.cellsOf r=1)
  (U:P.underlying e=some (.slice i)) (V:P.underlying i=some (.int .i64)) (ce:P.cellsOf e=1) (X:P.cellsOf i=1) :
  ∃ (s:Sl) (L:Za),v=Q1 s/\Qn W.heap s L/\s.n<=maxLen:=by
 obtain ⟨cs,rfl,D⟩:=h.agg ht;have M:=(D.struct ht).1;rw [O] at M;obtain ⟨x,hx,G⟩:=D.gslice ht h0 J R;obtain ⟨s,L,rfl,Z,q2⟩:=G.rows J U V ce X;refine ⟨s,L,?_,Z,q2⟩;unfold Q1
 congr 1
 apply Xf6
 match aa:cs.toList,M,hx with
 | [y],_,hx=>simp at hx;rw [hx]
end
end Go.Rm
