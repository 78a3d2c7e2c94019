import Derived.Test.YtnmnlnpbekafmaaGreatDoorT18
/- Parts. -/
set_option linter.unusedSimpArgs false
set_option linter.unusedVariables false
namespace Go.Rm
open Go.ChangeShapes Go.WideShapes Go.Deep
instance:Inhabited Xe:=⟨⟨0,0,0⟩⟩
instance:Inhabited Tab:=⟨⟨0,0,[]⟩⟩
def Vy (fs:Array Field) (i:Nat):Option (Nat × TypeId):=(fs[i]?).map fun f=>(f.offset,f.type)
structure Z0r (P:Program) where
 net:TypeId
 verts:TypeId
 arcs:TypeId
 types:TypeId
 vert:TypeId
 arc:TypeId
 tab:TypeId
 int:TypeId
 i64:TypeId
 costs:TypeId
 Zyo:Array Field
 vertF:Array Field
 arcF:Array Field
 tabF:Array Field
 u_net:P.underlying net=some (.struct Zyo)
 u_vert:P.underlying vert=some (.struct vertF)
 u_arc:P.underlying arc=some (.struct arcF)
 u_tab:P.underlying tab=some (.struct tabF)
 u_verts:P.underlying verts=some (.slice vert)
 u_arcs:P.underlying arcs=some (.slice arc)
 u_types:P.underlying types=some (.slice tab)
 u_costs:P.underlying costs=some (.slice i64)
 u_int:P.underlying int=some (.int .i64)
 u_i64:P.underlying i64=some (.int .i64)
 c_net:P.cellsOf net=3
 c_vert:P.cellsOf vert=3
 c_arc:P.cellsOf arc=3
 c_tab:P.cellsOf tab=3
 c_verts:P.cellsOf verts=1
 c_arcs:P.cellsOf arcs=1
 c_types:P.cellsOf types=1
 c_costs:P.cellsOf costs=1
 c_int:P.cellsOf int=1
 c_i64:P.cellsOf i64=1
 n0:Vy Zyo 0=some (0,verts)
 n1:Vy Zyo 1=some (1,arcs)
 n2:Vy Zyo 2=some (2,types)
 v0:Vy vertF 0=some (0,int)
 v1:Vy vertF 1=some (1,int)
 v2:Vy vertF 2=some (2,int)
 a0:Vy arcF 0=some (0,int)
 a1:Vy arcF 1=some (1,int)
 a2:Vy arcF 2=some (2,i64)
 t0:Vy tabF 0=some (0,int)
 t1:Vy tabF 1=some (1,int)
 t2:Vy tabF 2=some (2,costs)
section
variable {H:Type} {enc:TypeId × Value->H} {P:Program} {W:World} {base:Nat}
theorem Zjj {r:Array Field} {i o:Nat} {t:TypeId} (h:Vy r i=some (o,t)):∃ f,r[i]? = some f/\f.offset=o/\f.type=t:=by
 unfold Vy at h
 cases hf:r[i]? with
 | none=>rw [hf] at h;cases h
 | some f =>
  rw [hf] at h;simp only [Xg5,Xff,Prod.mk.injEq] at h;exact ⟨f,rfl,h.1,h.2⟩
theorem Read.gint {t u:TypeId} {r:Array Field} {cs:Zc} {i o:Nat} {k:IntKind} (h:Read enc P W base t cs) (ht:P.underlying t=some (.struct r)) (hf:Vy r i=some (o,u)) (D:P.underlying u=some (.int k)) (hc:P.cellsOf u=1) :
  ∃ n,cs[o]? = some (.int k n)/\k.min<=n/\n<=k.max:=by
 obtain ⟨f,h1,G,I⟩:=Zjj hf;subst G;subst I;exact h.fint ht h1 D hc
theorem Read.gslice {t u e:TypeId} {r:Array Field} {cs:Zc} {i o:Nat} (h:Read enc P W base t cs) (ht:P.underlying t=some (.struct r)) (hf:Vy r i=some (o,u)) (D:P.underlying u=some (.slice e)) (hc:P.cellsOf u=1) :
  ∃ v,cs[o]? = some v/\Read enc P W base u [v]:=by
 obtain ⟨f,h1,G,I⟩:=Zjj hf;subst G;subst I;exact h.fslice ht h1 D hc
theorem Z53 {s:Sl} {n:Nat} (G:s.ok) (I:n=s.n) {f:Nat->Xe} (hf:∀ i,i<s.n->∀ j,j<3->hc W.heap s.b (s.o+i * 3+j)=[Value.int .i64 (f i).a,.int .i64 (f i).b,.int .i64 (f i).c][j]?) :
  Zaz W.heap s ((List.range n).map f):=by
 subst I;have g:∀ i,i<s.n->Zp ((List.range s.n).map f) i=f i:=fun i D=>by simp [Zp,D]
 refine ⟨G,by simp,fun i D=>?_,fun i D=>?_,fun i D=>?_⟩
 all_goals
  have r:i<s.n:=by simpa using D
  rw [g i r]
 ·have:=hf i r 0 (by omega);simpa using this
 ·have:=hf i r 1 (by omega);simpa using this
 have:=hf i r 2 (by omega);simpa using this
theorem Read.tris {t e x y z:TypeId} {D:Array Field} {v:Value} (h:Read enc P W base t [v]) (ht:P.underlying t=some (.slice e)) (G:P.underlying e=some (.struct D)) (I:P.cellsOf e=3)
  (h0:Vy D 0=some (0,x)) (h1:Vy D 1=some (1,y)) (O:Vy D 2=some (2,z)) (R:P.underlying x=some (.int .i64)) (U:P.underlying y=some (.int .i64)) (V:P.underlying z=some (.int .i64))
  (cx:P.cellsOf x=1) (X:P.cellsOf y=1) (Z:P.cellsOf z=1):∃ (s:Sl) (l:List Xe),v=s.v/\Zaz W.heap s l:=by
 obtain ⟨s,e1,ok,_,hx⟩:=h.slice ht I (by omega);obtain ⟨f,hf⟩:=choose_lt (α:=Xe) (n:=s.n) (p:=fun i (n:Xe)=>∀ j,j<3->hc W.heap s.b (s.o+i * 3+j)=[Value.int .i64 n.a,.int .i64 n.b,.int .i64 n.c][j]?) (fun i hi=>by
  obtain ⟨aa,hl,r,J⟩:=hx i hi;obtain ⟨a,ha,_⟩:=J.gint G h0 R cx;obtain ⟨b,hb,_⟩:=J.gint G h1 U X;obtain ⟨c,hc,_⟩:=J.gint G O V Z;refine ⟨⟨a,b,c⟩,fun j M=>?_⟩;rw [r j M]
  match j,M with
  | 0,_=>exact ha
  | 1,_=>exact hb
  | 2,_=>exact hc)
 exact ⟨s,_,by simpa using e1,Z53 ok rfl hf⟩
theorem Read.costs {t e:TypeId} {v:Value} (h:Read enc P W base t [v]) (ht:P.underlying t=some (.slice e)) (I:P.underlying e=some (.int .i64)) (D:P.cellsOf e=1):∃ (s:Sl) (cs:Zb),v=s.v/\Yf W.heap s cs/\∀ x∈cs,IntKind.i64.min<=x/\x<=IntKind.i64.max:=by
 obtain ⟨s,f,J,_,hs,hf⟩:=h.ints ht I D;refine ⟨s,(List.range s.n).map f,by simpa using J,⟨hs.ok,by simp,fun i G=>?_⟩,fun x hx=>?_⟩
 ·have r:i<s.n:=by simpa using G
  rw [hs.val i r];simp [Zl,r]
 simp only [Xhf,Xhk] at hx;obtain ⟨i,G,rfl⟩:=hx;exact hf i G
theorem Read.tabs (T:Z0r P) {v:Value} (h:Read enc P W base T.types [v]):∃ (s:Sl) (l:List Tab),v=s.v/\Zix W.heap s l:=by
 obtain ⟨s,M,O,_,hx⟩:=h.slice T.u_types T.c_tab (by omega);obtain ⟨f,hf⟩:=choose_lt (α:=Tab) (n:=s.n) (p:=fun i (n:Tab)=>∃ u:Sl,hc W.heap s.b (s.o+i * 3)=some (.int .i64 n.i)/\hc W.heap s.b (s.o+i * 3+1)=some (.int .i64 n.o)/\hc W.heap s.b (s.o+i * 3+2)=some u.v/\Yf W.heap u n.cs) (fun i G=>by
  obtain ⟨R,X,r,I⟩:=hx i G;obtain ⟨a,U,_⟩:=I.gint T.u_tab T.t0 T.u_int T.c_int;obtain ⟨b,hb,_⟩:=I.gint T.u_tab T.t1 T.u_int T.c_int;obtain ⟨w,V,J⟩:=I.gslice T.u_tab T.t2 T.u_costs T.c_costs;obtain ⟨u,cs,rfl,hu,_⟩:=J.costs T.u_costs T.u_i64 T.c_i64;exact ⟨⟨a,b,cs⟩,u,by rw [<-U,<-r 0 (by omega)];rfl,by rw [<-hb,<-r 1 (by omega)],by rw [<-V,<-r 2 (by omega)],hu⟩)
 refine ⟨s,(List.range s.n).map f,by simpa using M,O,by simp,fun i G=>?_⟩;have D:i<s.n:=by simpa using G
 have g:Zx ((List.range s.n).map f) i=f i:=by simp [Zx,D]
 rw [g];exact hf i D
theorem Read.net (T:Z0r P) {cs:Array Value} (I:Read enc P W base T.net cs.toList) (J:cs.size=3):∃ (r D G:Sl) (N:Zq),Value.agg cs=Yx r D G/\Ul W.heap r D G N:=by
 obtain ⟨v1,M,h1⟩:=I.gslice T.u_net T.n0 T.u_verts T.c_verts;obtain ⟨v2,e2,O⟩:=I.gslice T.u_net T.n1 T.u_arcs T.c_arcs;obtain ⟨v3,e3,R⟩:=I.gslice T.u_net T.n2 T.u_types T.c_types;obtain ⟨r,U,rfl,V⟩:=h1.tris T.u_verts T.u_vert T.c_vert T.v0 T.v1 T.v2 T.u_int T.u_int T.u_int T.c_int T.c_int T.c_int;obtain ⟨D,X,rfl,Z⟩:=O.tris T.u_arcs T.u_arc T.c_arc T.a0 T.a1 T.a2 T.u_int T.u_int T.u_i64 T.c_int T.c_int T.c_i64;obtain ⟨G,lt,rfl,rt⟩:=R.tabs T;refine ⟨r,D,G,⟨U,X,lt⟩,?_,V,Z,rt⟩;unfold Yx
 congr 1
 apply Xes;apply Xgy;intro k
 match k with
 | 0=>exact M
 | 1=>exact e2
 | 2=>exact e3
 | k+3 =>
  rw [Xe8 (by simp;omega),Xe8 (by simp)]
theorem Zbu.net (T:Z0r P) {v:Value} (h:Zbu enc P W T.net v):∃ (D G I:Sl) (N:Zq),v=Yx D G I/\Ul W.heap D G I N:=by
 obtain ⟨cs,rfl,r,J⟩:=h.1.agg T.u_net (by rw [T.c_net];decide);rw [T.c_net] at r;exact Read.net T J r
theorem Zbu.costs {t e:TypeId} {v:Value} (h:Zbu enc P W t v) (ht:P.underlying t=some (.slice e)) (D:P.underlying e=some (.int .i64)) (r:P.cellsOf e=1):∃ (s:Sl) (cs:Zb),v=s.v/\Yf W.heap s cs/\∀ x∈cs,IntKind.i64.min<=x/\x<=IntKind.i64.max :=
 (h.slice ht).costs ht D r
end
section
variable {Y:Sys} {h h':Zk}
theorem Z26 {s:Sl} {cs:Zb} (r:Yf h s cs) (D:cs≠[]):s.b<h.size:=by
 rcases Xen s.b h.size with q | q
 ·exact q
 have:=r.val 0 (List.length_pos_iff.2 D);simp [hc,Xgb q] at this
def Xcx (v0:Value) (B rb M n:Nat) (s1 s2:Sl) (l:List Tab) (hA:Zk) (e:Zc) (h':Zk):Prop :=
 ∃ (i:Nat) (s3:Sl) (P:List (Tab × Sl)) (v4 v5 v7 v8 v9:Value),e=[v0,.pointer (some ⟨B,0,none⟩),.pointer (some ⟨rb,0,none⟩),.pointer (some ⟨M,0,none⟩),v4,v5,.int .i64 i,v7,v8,v9]/\i<=n /\
  Xa h' M #[s1.v,s2.v,s3.v]/\Yl h' 3 s3 (Yb (P.map Qv))/\P.map Prod.fst=l.take i/\(∀ p∈P,Yf h' p.2 p.1.cs/\(p.1.cs≠[]->p.2.b<B))/\(s3.nl=true\/hA.size<=s3.b)/\Mod (fun j=>j=M) hA h'
theorem Z1b (HT3:Y.Has 237 Y237) (HT:Y.Has 44 Y44) {O U V:Sl} {N:Zq} (r:Ul h O U V N) (bv:N.vs.length<=20000) (ba:N.as.length<=20000) (bt:N.ts.length<=20000) (bc:∀ i,i<N.ts.length->(Zx N.ts i).cs.length<=1000000)
  {R:Ze} (hr:∀ h' X s2 s3,Ext h h'->Ul h' X s2 s3 N->R (Yx X s2 s3) h'):Zv Y 237 [Yx O U V] h R:=by
 have lv:=r.rv.len;have la:=r.ra.len;have lt:=r.rt.len;refine .of_has HT3 rfl ?_;simp [Y237,Xn.wp,Yx];refine Zn ?_;intro B h1 g1 B1 e1;simp;refine Zn ?_;intro rb h2 g2 B2 e2;simp;refine Zn ?_;intro M h3 g3 B3 e3;have l1:=B1.lt;have l2:=B2.lt;have l3:=B3.lt;have ah:B≠M:=by omega
 have ai:rb≠M:=by omega
 have x3:=(e1.trans e2).trans e3;have A3:=(B1.ext e2).ext e3;have C3:=B2.ext e3;simp;refine Zs (Xbl (Yx O U V) B rb M O.n N.vs h3) (fun e _=>O.n-Zy e 4) ⟨0,Sl.nil,_,_,_,_,_,rfl,by omega,B3,Yl.nil,.inl rfl,Mod.refl h3⟩ ?_;rintro e h4 ⟨i,X,v5,v6,v7,v8,v9,rfl,hi,B4,o4,ab,m4⟩;have A4:=m4.blk A3 ah;have r4:=r.rv.ext (Mod.ext x3 m4 (fun j H=>by omega));by_cases c:i<O.n
 ·have c':(i:Int)<O.n:=by omega
  have w1:=Zj (i:=i) (by omega);have n4:=o4.n3;have az:X.n=i:=by rw [<-n4];simp;omega
  simp [A4.hc,B4.hc,c',Zm r4.ok,r4.v0 i (by omega),r4.v1 i (by omega),r4.v2 i (by omega),W1,V6];intro t;have e5:Ext h4 (h4.push (.cells #[.int .i64 (Zp N.vs i).a,.int .i64 (Zp N.vs i).b,.int .i64 (Zp N.vs i).c] t)):=Mod.push;have B5:=B4.ext e5;have o5:=o4.mod e5 (fun _ h=>h);simp [B5.hc];refine Vb rfl o5 Xa.new rfl rfl rfl (by omega) (by omega) ?_;intro G h6 o6 m6 I;rw [<-Ze8 (by omega)] at o6;have ae:G.nl=true\/h3.size<=G.b:=by
   have:=m4.size;have:=e5.size;rcases I with ⟨J,Z⟩ | ⟨J,Z⟩
   ·rw [J,Z];exact ab
   exact .inr (by omega)
  have B6:=m6.blk B5 (fun ⟨J,Z⟩=>by have:=ab.resolve_left (by rw [J];simp);omega);simp [Xo.open,B6.hc,B6.hfz,w1];have B7:=B6.set (o:=0) (v:=G.v);have o7:=o6.mod (Mod.set (S:=fun j=>j=M) (h:=h6) (o:=0) (v:=G.v) rfl) (fun hn H=>by have:=ae.resolve_left (by rw [hn];simp);omega);refine ⟨⟨i+1,G,_,_,_,_,_,rfl,by omega,by simpa using B7,o7,ae,?_⟩,by simp [Zy];omega⟩;refine (m4.then ((e5.mono fun _ _ h=>h.elim).trans m6) (fun j H q=>?_)).trans (Mod.set rfl);have:=ab.resolve_left (by rw [q.1];simp);omega
 have c':¬ (i:Int)<O.n:=by omega
 obtain rfl:i=O.n:=by omega
 rw [Xeu (by omega)] at o4;have R4:=o4.row3;have x4:Ext h h4:=Mod.ext x3 m4 (fun j H=>by omega);have C4:=m4.blk C3 ai;have aj:N.vs≠[]->X.b≠M/\X.b<h4.size/\h3.size<=X.b:=fun D=>by
  obtain ⟨ap,hb,_,ak⟩:=o4.blk (i:=0) (by rw [Yg,Xep];have:=List.length_pos_iff.2 D;omega);have:=ab.resolve_left (by rw [ak];simp);exact ⟨by omega,hb.lt,by omega⟩
 have k4:=m4.size;simp [A4.hc];refine Zs (Xbk (Yx O U V) B rb M U.n X N.as h4) (fun e _=>U.n-Zy e 5) ⟨0,Sl.nil,_,_,_,_,_,rfl,by omega,B4,Yl.nil,.inl rfl,Mod.refl h4⟩ ?_;clear r4 c c' hi v5 v6 v7 v8 v9;rintro e h5 ⟨i,s2,v4,v6,v7,v8,v9,rfl,hi,B5,o5,ac,m5⟩;have A5:=m5.blk A4 ah;have r5:=r.ra.ext (Mod.ext x4 m5 (fun j H=>by omega));by_cases c:i<U.n
 ·have c':(i:Int)<U.n:=by omega
  have w1:=Zj (i:=i) (by omega);have n5:=o5.n3;have aA:s2.n=i:=by rw [<-n5];simp;omega
  simp [A5.hc,B5.hc,c',Zm r5.ok,r5.v0 i (by omega),r5.v1 i (by omega),r5.v2 i (by omega),W1,V6];intro t;have e6:Ext h5 (h5.push (.cells #[.int .i64 (Zp N.as i).a,.int .i64 (Zp N.as i).b,.int .i64 (Zp N.as i).c] t)):=Mod.push;have B6:=B5.ext e6;have o6:=o5.mod e6 (fun _ h=>h);simp [B6.hc];refine Vb rfl o6 Xa.new rfl rfl rfl (by omega) (by omega) ?_;intro G h7 o7 m7 aq;rw [<-Ze8 (by omega)] at o7;have af:G.nl=true\/h4.size<=G.b:=by
   have:=m5.size;have:=e6.size;rcases aq with ⟨J,Z⟩ | ⟨J,Z⟩
   ·rw [J,Z];exact ac
   exact .inr (by omega)
  have B7:=m7.blk B6 (fun ⟨J,Z⟩=>by have:=ac.resolve_left (by rw [J];simp);omega);simp [Xo.open,B7.hc,B7.hfz,w1];have B8:=B7.set (o:=1) (v:=G.v);have o8:=o7.mod (Mod.set (S:=fun j=>j=M) (h:=h7) (o:=1) (v:=G.v) rfl) (fun hn H=>by have:=af.resolve_left (by rw [hn];simp);omega);refine ⟨⟨i+1,G,_,_,_,_,_,rfl,by omega,by simpa using B8,o8,af,?_⟩,by simp [Zy];omega⟩;refine (m5.then ((e6.mono fun _ _ h=>h.elim).trans m7) (fun j H q=>?_)).trans (Mod.set rfl);have:=ac.resolve_left (by rw [q.1];simp);omega
 have c':¬ (i:Int)<U.n:=by omega
 obtain rfl:i=U.n:=by omega
 rw [Xeu (by omega)] at o5;have R5:=o5.row3;have R45:=R4.mod m5 (fun D=>(aj D).1);have x5:Ext h h5:=Mod.ext x4 m5 (fun j H=>by omega);have C5:=m5.blk C4 ai;have am:N.as≠[]->s2.b≠M/\s2.b<h5.size/\h4.size<=s2.b:=fun D=>by
  obtain ⟨ap,hb,_,ak⟩:=o5.blk (i:=0) (by rw [Yg,Xep];have:=List.length_pos_iff.2 D;omega);have:=ac.resolve_left (by rw [ak];simp);exact ⟨by omega,hb.lt,by omega⟩
 have k5:=m5.size;simp [A5.hc];refine Zs (Xcx (Yx O U V) B rb M V.n X s2 N.ts h5) (fun e _=>V.n-Zy e 6) ⟨0,Sl.nil,[],_,_,_,_,_,rfl,by omega,B5,Yl.nil,rfl,fun p hp=>by simp at hp,.inl rfl,Mod.refl h5⟩ ?_;clear r5 c c' hi v4 v6 v7 v8 v9;rintro e h6 ⟨i,s3,P,v4,v5,v7,v8,v9,rfl,hi,B6,o6,hP,aa,I,m6⟩;have A6:=m6.blk A5 ah;have x6:Ext h h6:=Mod.ext x5 m6 (fun j H=>by omega);have r6:=r.rt.ext x6;have k6:=m6.size;by_cases c:i<V.n
 ·have c':(i:Int)<V.n:=by omega
  have w1:=Zj (i:=i) (by omega);have n6:=o6.n3;have ar:P.length=i:=by have:=congrArg List.length hP;simp at this;omega
  have aB:s3.n=i:=by rw [<-n6];simpa using ar
  obtain ⟨u',an,aC,ao⟩:=r.rt.rd (i:=i) (by omega);have au:=x6.rd an (fun h=>h);have ru:=ao.ext x6;have al:(Zx N.ts i).cs≠[]->u'.b<B:=fun D=>by have:=Z26 ao D;omega
  simp [A6.hc,B6.hc,c',Zm r6.ok,au];refine Z4v HT ?_;intro h7 e7;have av:=ru.ext e7;have B7:=B6.ext e7;have k7:=e7.size;simp [B7.hc,Zcc,V6];intro t;have e8:Ext h7 (h7.push (.cells #[.int .i64 (Zx N.ts i).i,.int .i64 (Zx N.ts i).o,u'.v] t)):=Mod.push;have k8:=e8.size;have B8:=B7.ext e8;have o8:=(o6.mod e7 (fun _ h=>h)).mod e8 (fun _ h=>h);simp [B8.hc];refine Vb rfl o8 Xa.new rfl rfl (by simp) (by omega) (by omega) ?_;intro G h9 o9 m9 aw;have ax:Yl h9 3 G (Yb ((P++[(Zx N.ts i,u')]).map Qv)):=by simpa [Qv] using o9
  have ag:G.nl=true\/h5.size<=G.b:=by
   rcases aw with ⟨J,Z⟩ | ⟨J,Z⟩
   ·rw [J,Z];exact I
   exact .inr (by omega)
  have B9:=m9.blk B8 (fun ⟨J,Z⟩=>by have:=I.resolve_left (by rw [J];simp);omega);simp [Xo.open,B9.hc,B9.hfz,w1];have B10:=B9.set (o:=2) (v:=G.v);have ad:Mod (fun j=>j=M) h9 (Wy h9 M 2 G.v):=Mod.set rfl;have ay:=ax.mod ad (fun hn H=>by have:=ag.resolve_left (by rw [hn];simp);omega);refine ⟨⟨i+1,G,P++[(Zx N.ts i,u')],_,_,_,_,_,rfl,by omega,by simpa using B10,ay,?_,?_,ag,?_⟩,by simp [Zy];omega⟩
  ·rw [Xe9,hP,Xey (by omega),W5 (by omega)]
   rfl
  ·intro p hp;rcases List.mem_append.1 hp with g | g
   ·obtain ⟨g1,g2⟩:=aa p g;have g3:p.1.cs≠[]->¬ (s3.nl=false/\p.2.b=s3.b):=fun D q=>by have:=g2 D;have:=I.resolve_left (by rw [q.1];simp);have:=q.2;omega
    exact ⟨(((g1.ext e7).ext e8).mod m9 g3).mod ad (fun D H=>by have:=g2 D;omega),g2⟩
   simp only [Xg1] at g;subst g;refine ⟨((av.ext e8).mod m9 (fun D q=>?_)).mod ad (fun D H=>?_),al⟩
   ·have:=al D;have:=I.resolve_left (by rw [q.1];simp);have:=q.2;omega
   have:=al D;omega
  refine (m6.then (((e7.trans e8).mono fun _ _ h=>h.elim).trans m9) (fun j H q=>?_)).trans ad;have:=I.resolve_left (by rw [q.1];simp);omega
 have c':¬ (i:Int)<V.n:=by omega
 obtain rfl:i=V.n:=by omega
 rw [Xeu (by omega)] at hP;have R6:Zix h6 s3 N.ts:=o6.rowT hP (fun p hp=>(aa p hp).1);have hH:Ul h6 X s2 s3 N:=⟨R45.mod m6 (fun D=>(aj D).1),R5.mod m6 (fun D=>(am D).1),R6⟩
 have C6:=m6.blk C5 ai;simp [A6.hc,Yj B6];refine Zr C6 rfl rfl (by simp) ?_;intro h7 B7 m7;simp;refine Xc rfl B7 rfl ?_;have o7:=o6.mod m7 (fun hn H=>by have:=I.resolve_left (by rw [hn];simp);omega);refine hr h7 X s2 s3 (Mod.ext x6 m7 (fun j H=>by omega)) ⟨hH.rv.mod m7 (fun D H=>by have:=aj D;omega),hH.ra.mod m7 (fun D H=>by have:=am D;omega),o7.rowT hP (fun p hp=>?_)⟩;obtain ⟨g1,g2⟩:=aa p hp;exact g1.mod m7 (fun D H=>by have:=g2 D;omega)
end
end Go.Rm

