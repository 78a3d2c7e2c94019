import Derived.Test.YtpikofomaekpoaaGreatDoorT17
/- Parts. -/
set_option linter.unusedSimpArgs false
set_option linter.unusedVariables false
namespace Go.Rm
open Go.ChangeShapes Go.WideShapes Go.Deep
instance:Inhabited Xe:=⟨⟨0,0,0⟩⟩
instance:Inhabited Tab:=⟨⟨0,0,[]⟩⟩
def Uf (fs:Array Field) (i:Nat):Option (Nat × TypeId):=(fs[i]?).map fun f=>(f.offset,f.type)
structure Z15 (P:Program) where
 net:TypeId
 verts:TypeId
 arcs:TypeId
 types:TypeId
 vert:TypeId
 arc:TypeId
 tab:TypeId
 int:TypeId
 i64:TypeId
 costs:TypeId
 Zz8:Array Field
 vertF:Array Field
 arcF:Array Field
 tabF:Array Field
 u_net:P.underlying net=some (.struct Zz8)
 u_vert:P.underlying vert=some (.struct vertF)
 u_arc:P.underlying arc=some (.struct arcF)
 u_tab:P.underlying tab=some (.struct tabF)
 u_verts:P.underlying verts=some (.slice vert)
 u_arcs:P.underlying arcs=some (.slice arc)
 u_types:P.underlying types=some (.slice tab)
 u_costs:P.underlying costs=some (.slice i64)
 u_int:P.underlying int=some (.int .i64)
 u_i64:P.underlying i64=some (.int .i64)
 c_net:P.cellsOf net=3
 c_vert:P.cellsOf vert=3
 c_arc:P.cellsOf arc=3
 c_tab:P.cellsOf tab=3
 c_verts:P.cellsOf verts=1
 c_arcs:P.cellsOf arcs=1
 c_types:P.cellsOf types=1
 c_costs:P.cellsOf costs=1
 c_int:P.cellsOf int=1
 c_i64:P.cellsOf i64=1
 n0:Uf Zz8 0=some (0,verts)
 n1:Uf Zz8 1=some (1,arcs)
 n2:Uf Zz8 2=some (2,types)
 v0:Uf vertF 0=some (0,int)
 v1:Uf vertF 1=some (1,int)
 v2:Uf vertF 2=some (2,int)
 a0:Uf arcF 0=some (0,int)
 a1:Uf arcF 1=some (1,int)
 a2:Uf arcF 2=some (2,i64)
 t0:Uf tabF 0=some (0,int)
 t1:Uf tabF 1=some (1,int)
 t2:Uf tabF 2=some (2,costs)
section
variable {H:Type} {enc:TypeId × Value->H} {P:Program} {W:World} {base:Nat}
theorem Zki {r:Array Field} {i o:Nat} {t:TypeId} (h:Uf r i=some (o,t)):∃ f,r[i]? = some f/\f.offset=o/\f.type=t:=by
 unfold Uf at h
 cases hf:r[i]? with
 | none=>rw [hf] at h;cases h
 | some f =>
  rw [hf] at h;simp only [Xii,Xgr,Prod.mk.injEq] at h;exact ⟨f,rfl,h.1,h.2⟩
theorem Read.gint {t u:TypeId} {r:Array Field} {cs:Zc} {i o:Nat} {k:IntKind} (h:Read enc P W base t cs) (ht:P.underlying t=some (.struct r)) (hf:Uf r i=some (o,u)) (D:P.underlying u=some (.int k)) (hc:P.cellsOf u=1) :
  ∃ n,cs[o]? = some (.int k n)/\k.min<=n/\n<=k.max:=by
 obtain ⟨f,h1,G,I⟩:=Zki hf;subst G;subst I;exact h.fint ht h1 D hc
theorem Read.gslice {t u e:TypeId} {r:Array Field} {cs:Zc} {i o:Nat} (h:Read enc P W base t cs) (ht:P.underlying t=some (.struct r)) (hf:Uf r i=some (o,u)) (D:P.underlying u=some (.slice e)) (hc:P.cellsOf u=1) :
  ∃ v,cs[o]? = some v/\Read enc P W base u [v]:=by
 obtain ⟨f,h1,G,I⟩:=Zki hf;subst G;subst I;exact h.fslice ht h1 D hc
theorem Z7h {s:Sl} {n:Nat} (G:s.ok) (I:n=s.n) {f:Nat->Xe} (hf:∀ i,i<s.n->∀ j,j<3->hc W.heap s.b (s.o+i * 3+j)=[Value.int .i64 (f i).a,.int .i64 (f i).b,.int .i64 (f i).c][j]?) :
  Z6 W.heap s ((List.range n).map f):=by
 subst I;have g:∀ i,i<s.n->Zp ((List.range s.n).map f) i=f i:=fun i D=>by simp [Zp,D]
 refine ⟨G,by simp,fun i D=>?_,fun i D=>?_,fun i D=>?_⟩
 all_goals
  have r:i<s.n:=by simpa using D
  rw [g i r]
 ·have:=hf i r 0 (by omega);simpa using this
 ·have:=hf i r 1 (by omega);simpa using this
 have:=hf i r 2 (by omega);simpa using this
theorem Read.tris {t e x y z:TypeId} {D:Array Field} {v:Value} (h:Read enc P W base t [v]) (ht:P.underlying t=some (.slice e)) (G:P.underlying e=some (.struct D)) (I:P.cellsOf e=3)
  (h0:Uf D 0=some (0,x)) (h1:Uf D 1=some (1,y)) (O:Uf D 2=some (2,z)) (R:P.underlying x=some (.int .i64)) (U:P.underlying y=some (.int .i64)) (V:P.underlying z=some (.int .i64))
  (cx:P.cellsOf x=1) (X:P.cellsOf y=1) (Z:P.cellsOf z=1):∃ (s:Sl) (l:List Xe),v=s.v/\Z6 W.heap s l:=by
 obtain ⟨s,e1,ok,_,hx⟩:=h.slice ht I (by omega);obtain ⟨f,hf⟩:=choose_lt (α:=Xe) (n:=s.n) (p:=fun i (n:Xe)=>∀ j,j<3->hc W.heap s.b (s.o+i * 3+j)=[Value.int .i64 n.a,.int .i64 n.b,.int .i64 n.c][j]?) (fun i hi=>by
  obtain ⟨aa,hl,r,J⟩:=hx i hi;obtain ⟨a,ha,_⟩:=J.gint G h0 R cx;obtain ⟨b,hb,_⟩:=J.gint G h1 U X;obtain ⟨c,hc,_⟩:=J.gint G O V Z;refine ⟨⟨a,b,c⟩,fun j M=>?_⟩;rw [r j M]
  match j,M with
  | 0,_=>exact ha
  | 1,_=>exact hb
  | 2,_=>exact hc)
 exact ⟨s,_,by simpa using e1,Z7h ok rfl hf⟩
theorem Read.costs {t e:TypeId} {v:Value} (h:Read enc P W base t [v]) (ht:P.underlying t=some (.slice e)) (I:P.underlying e=some (.int .i64)) (D:P.cellsOf e=1):∃ (s:Sl) (cs:Zb),v=s.v/\Yd W.heap s cs/\∀ x∈cs,IntKind.i64.min<=x/\x<=IntKind.i64.max:=by
 obtain ⟨s,f,J,_,hs,hf⟩:=h.ints ht I D;refine ⟨s,(List.range s.n).map f,by simpa using J,⟨hs.ok,by simp,fun i G=>?_⟩,fun x hx=>?_⟩
 ·have r:i<s.n:=by simpa using G
  rw [hs.val i r];simp [Zl,r]
 simp only [Xis,Xix] at hx;obtain ⟨i,G,rfl⟩:=hx;exact hf i G
theorem Read.tabs (T:Z15 P) {v:Value} (h:Read enc P W base T.types [v]):∃ (s:Sl) (l:List Tab),v=s.v/\Zli W.heap s l:=by
 obtain ⟨s,M,O,_,hx⟩:=h.slice T.u_types T.c_tab (by omega);obtain ⟨f,hf⟩:=choose_lt (α:=Tab) (n:=s.n) (p:=fun i (n:Tab)=>∃ u:Sl,hc W.heap s.b (s.o+i * 3)=some (.int .i64 n.i)/\hc W.heap s.b (s.o+i * 3+1)=some (.int .i64 n.o)/\hc W.heap s.b (s.o+i * 3+2)=some u.v/\Yd W.heap u n.cs) (fun i G=>by
  obtain ⟨R,X,r,I⟩:=hx i G;obtain ⟨a,U,_⟩:=I.gint T.u_tab T.t0 T.u_int T.c_int;obtain ⟨b,hb,_⟩:=I.gint T.u_tab T.t1 T.u_int T.c_int;obtain ⟨w,V,J⟩:=I.gslice T.u_tab T.t2 T.u_costs T.c_costs;obtain ⟨u,cs,rfl,hu,_⟩:=J.costs T.u_costs T.u_i64 T.c_i64;exact ⟨⟨a,b,cs⟩,u,by rw [<-U,<-r 0 (by omega)];rfl,by rw [<-hb,<-r 1 (by omega)],by rw [<-V,<-r 2 (by omega)],hu⟩)
 refine ⟨s,(List.range s.n).map f,by simpa using M,O,by simp,fun i G=>?_⟩;have D:i<s.n:=by simpa using G
 have g:Zz ((List.range s.n).map f) i=f i:=by simp [Zz,D]
 rw [g];exact hf i D
theorem Read.net (T:Z15 P) {cs:Array Value} (I:Read enc P W base T.net cs.toList) (J:cs.size=3):∃ (r D G:Sl) (N:Zr),Value.agg cs=Yy r D G/\Ut W.heap r D G N:=by
 obtain ⟨Z,M,h1⟩:=I.gslice T.u_net T.n0 T.u_verts T.c_verts;obtain ⟨v2,e2,O⟩:=I.gslice T.u_net T.n1 T.u_arcs T.c_arcs;obtain ⟨v3,e3,R⟩:=I.gslice T.u_net T.n2 T.u_types T.c_types;obtain ⟨r,lv,rfl,U⟩:=h1.tris T.u_verts T.u_vert T.c_vert T.v0 T.v1 T.v2 T.u_int T.u_int T.u_int T.c_int T.c_int T.c_int;obtain ⟨D,V,rfl,X⟩:=O.tris T.u_arcs T.u_arc T.c_arc T.a0 T.a1 T.a2 T.u_int T.u_int T.u_i64 T.c_int T.c_int T.c_i64;obtain ⟨G,lt,rfl,rt⟩:=R.tabs T;refine ⟨r,D,G,⟨lv,V,lt⟩,?_,U,X,rt⟩;unfold Yy
 congr 1
 apply Xf6;apply Xia;intro k
 match k with
 | 0=>exact M
 | 1=>exact e2
 | 2=>exact e3
 | k+3 =>
  rw [Xgn (by simp;omega),Xgn (by simp)]
theorem Zb7.net (T:Z15 P) {v:Value} (h:Zb7 enc P W T.net v):∃ (D G I:Sl) (N:Zr),v=Yy D G I/\Ut W.heap D G I N:=by
 obtain ⟨cs,rfl,r,J⟩:=h.1.agg T.u_net (by rw [T.c_net];decide);rw [T.c_net] at r;exact Read.net T J r
theorem Zb7.costs {t e:TypeId} {v:Value} (h:Zb7 enc P W t v) (ht:P.underlying t=some (.slice e)) (D:P.underlying e=some (.int .i64)) (r:P.cellsOf e=1):∃ (s:Sl) (cs:Zb),v=s.v/\Yd W.heap s cs/\∀ x∈cs,IntKind.i64.min<=x/\x<=IntKind.i64.max :=
 (h.slice ht).costs ht D r
end
end Go.Rm


