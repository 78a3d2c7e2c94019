import Derived.Test.YtpikofomaekpoaaGreatDoorT00
/- Parts. -/
set_option linter.unusedSimpArgs false
set_option linter.unusedVariables false
namespace Go.Rm
def Zun (cx:Cx) (Y:Sys) (X2:Array Oper->Option FT):Prop :=
 ∀ (ops:Array Oper) (fl:FT),X2 ops=some fl->∀ (id:Nat) (Q:Exit->Act->World->Prop) (K:Zc->Zk->Prop) (a:Act) (w:World),
  a.defers=[]->a.tmps.size=cx.nt->FT.wp Y (fun e _ h=>K e h) fl (Yh cx.nm a) [] w.heap ->
  (∀ a' w',a'.defers=[]->a'.tmps.size=cx.nt->Same w w'->K (Yh cx.nm a') w'.heap->Q .normal a' w')->(Code.region id ops true).wp cx.P Q a w
section
variable {cx:Cx} {Y:Sys}
structure Good (cx:Cx) (w0:World) (a:Act) (w:World):Prop where
 defers:a.defers=[]
 size:a.tmps.size=cx.nt
 same:Same w0 w
def Xc2 (cx:Cx) (w0:World) (kn:Zc->Zk->Prop) (ke:Nat->Zc->Zk->Prop) (kr:Zc->Zk->Prop):Exit->Act->World->Prop
 | .normal,a,w=>Good cx w0 a w/\kn (Yh cx.nm a) w.heap
 | .exit i,a,w=>Good cx w0 a w/\ke i (Yh cx.nm a) w.heap
 | .ret,a,w=>Good cx w0 a w/\kr (Yh cx.nm a) w.heap
 | _,_,_=>False
theorem Z2f {a:Act} (h1:a.defers=[]) (r:a.tmps.size=cx.nt):St cx Y [] 0 a [] :=
 ⟨h1,r,rfl,fun p hp=>by simp at hp,fun p hp=>by simp at hp⟩
theorem Zd5 {r:Zc->Zk->Prop} {D:Nat->Zc->Zk->Prop} {G:Zc->Zk->Prop} {e:Zc} {h:Zk} (H:Z6i.wp Y r D G e h):False:=H
theorem Zrc (ok:Ok cx Y) (wf:Wf cx) {X2:Array Oper->Option FT} (hD:Zun cx Y X2) (w0:World):∀ {c:Code} {s:Stmt},Zdl cx X2 c=some s ->
  ∀ {D:Zc->Zk->Prop} {G:Nat->Zc->Zk->Prop} {H:Zc->Zk->Prop} {a:Act} {w:World},Good cx w0 a w->s.wp Y D G H (Yh cx.nm a) w.heap ->
  c.wp cx.P (Xc2 cx w0 D G H) a w:=by
 intro c
 induction c with
 | skip=>intro s h D G H a w g r;cases h;exact wp_skip ⟨g,r⟩
 | seq x y J M =>
  intro s h D G H a w g r;simp only [Zdl,Xf8,Xfz] at h;obtain ⟨sx,hx,sy,hy,rfl⟩:=h;refine wp_seq (wp_mono (J hx g r) ?_);intro e a' w' hq
  cases e with
  | normal=>exact M hy hq.1 hq.2
  | exit i=>exact hq
  | ret=>exact hq
  | goto l=>exact hq.elim
  | panic c=>exact hq.elim
  | outgrown=>exact hq.elim
 | region id V R =>
  intro s h D G H a w g r;simp only [Zdl] at h
  split at h
  ·rename_i s' h'
   cases h
   split at h'
   ·rename_i hd;simp only [Xfz] at h';obtain ⟨fl,X,rfl⟩:=h';subst hd;exact hD V fl X id _ D a w g.defers g.size (Zu0 r) fun a' w' h1 Z h3 h4=>⟨⟨h1,Z,Same.trans g.same h3⟩,h4⟩
   rename_i hd;simp only [Xfz] at h';obtain ⟨fl,X,rfl⟩:=h';have hd:R=false:=by simpa using hd
   subst hd;exact wp_region (Zto ok wf X (Z2f g.defers g.size) (Zzl r) fun a' w' h1 Z h3 h4=>⟨⟨h1,Z,Same.trans g.same h3⟩,h4⟩)
  cases h
  exact (Zd5 r).elim
 | cond c x y J M =>
  intro s h D G H a w g r;simp only [Zdl] at h
  split at h
  rotate_left
  ·cases h
   exact (Zd5 r).elim
  rename_i xc hc;simp only [Xf8,Xfz] at h;obtain ⟨sx,hx,sy,hy,rfl⟩:=h;have U:=Zlg ok (Z2f g.defers g.size) hc;simp only [Stmt.wp] at r
  split at r
  ·rename_i b hb;rw [hb] at U;refine wp_cond U.symm ?_
   cases b with
   | true=>exact J hx g r
   | false=>exact M hy g (by simpa using r)
  exact r.elim
 | block id c ih =>
  intro s h D G H a w g r;simp only [Zdl,Xfz] at h;obtain ⟨sc,hc,rfl⟩:=h;refine wp_block (wp_mono (ih hc g r) ?_);intro e a' w' hq
  cases e with
  | normal=>exact hq
  | exit i =>
   obtain ⟨hg,hq⟩:=hq;simp only [Exit.inBlock]
   split at hq
   ·rename_i O;rw [if_pos O];exact ⟨hg,hq⟩
   rename_i O;rw [if_neg O];exact ⟨hg,hq⟩
  | ret=>exact hq
  | goto l=>exact hq.elim
  | panic c=>exact hq.elim
  | outgrown=>exact hq.elim
 | loop c ih =>
  intro s h D G H a w g r;simp only [Zdl,Xfz] at h;obtain ⟨sc,hc,rfl⟩:=h;obtain ⟨I,μ,hI,hs⟩:=r;refine wp_loop (fun a w=>Good cx w0 a w/\I (Yh cx.nm a) w.heap) (fun a w=>μ (Yh cx.nm a) w.heap) ⟨g,hI⟩ ?_;intro a w O;refine wp_mono (ih hc O.1 (hs _ _ O.2)) ?_;intro e a' w' hq
  cases e with
  | normal=>exact ⟨⟨hq.1,hq.2.1⟩,hq.2.2⟩
  | exit i=>exact hq
  | ret=>exact hq
  | goto l=>exact hq.elim
  | panic c=>exact hq.elim
  | outgrown=>exact hq.elim
 | exit id=>intro s h D G H a w g r;cases h;exact wp_exit ⟨g,r⟩
 | ret=>intro s h D G H a w g r;cases h;exact wp_ret ⟨g,r⟩
 | rangeFunc f ps x y J M=>intro s h D G H a w g r;cases h;exact (Zd5 r).elim
 | scope c ih=>intro s h D G H a w g r;cases h;exact (Zd5 r).elim
 | label l=>intro s h D G H a w g r;cases h;exact (Zd5 r).elim
 | goto l=>intro s h D G H a w g r;cases h;exact (Zd5 r).elim
 | refuse y=>intro s h D G H a w g r;cases h;exact (Zd5 r).elim
def Z3p (tmps:Array Value):ResultVar->Sem Value
 | .tmp t=>pure (tmps.getD t undef)
 | .cell b t=>do loadVar t (<-asAddr (tmps.getD b undef))
def Z80:Zc->Value
 | [v]=>v
 | vs=>.tuple vs.toArray
theorem Z71 (Y:Sys) {r:ResultVar} {x:Res} {a:Act} {w:World} {v:Value} (h:Zfs cx r=some x) (hv:x.ev (Yh cx.nm a) w.heap=some v) :
  (Z3p a.tmps r).run cx.P w = .ok v w:=by
 cases r with
 | tmp t =>
  simp only [Zfs,Xfz] at h;obtain ⟨i,H,rfl⟩:=h;simp only [Res.ev,Zdt H,Xgr] at hv;simp only [Z3p,Sem.run_pure,hv]
 | cell b t =>
  simp only [Zfs] at h;have G:∀ (d:TypeDesc) (i n:Nat),cx.P.underlying t=some d->cx.nm.idxOf? b=some i->(Xx d=true->Ux cx t=some n)->Res.ev (Yh cx.nm a) w.heap (.box i n (Xx d))=some v ->
    (do loadVar t (<-asAddr (a.tmps.getD b undef)):Sem Value).run cx.P w = .ok v w:=by
   intro d i n hd H I hv;simp only [Res.ev,Zdt H] at hv
   split at hv
   ·rename_i b' J hp;rw [hp];simp only [asAddr,Sem.run_bind,Sem.run_pure,Result.andThen_ok];refine Zjk (Y:=Y) hd I ?_
    cases D:Xx d with
    | true=>rw [D] at hv;exact hv
    | false=>rw [D] at hv;exact hv
   cases hv
  split at h
  ·rename_i d i hd H
   split at h
   ·rename_i D;simp only [Xfz] at h;obtain ⟨n,I,rfl⟩:=h;exact G d i n hd H (fun _=>I) (by rw [D];exact hv)
   rename_i D;have D:Xx d=false:=by simpa using D
   cases h
   exact G d i 1 hd H (fun h=>by rw [D] at h;cases h) (by rw [D];exact hv)
  cases h
theorem Zvx (Y:Sys) {a:Act} {w:World}:∀ {D:List ResultVar} {xs:List Res} {vs:Zc},Ztl (Zfs cx) D=some xs->Zcj (Yh cx.nm a) w.heap xs=some vs ->
  (D.mapM (m:=Sem) (Z3p a.tmps)).run cx.P w = .ok vs w:=by
 intro D
 induction D with
 | nil=>intro xs vs h hv;cases h;cases hv;rfl
 | cons r D ih =>
  intro xs vs h hv;simp only [Ztl,Xf8,Xfz] at h;obtain ⟨x,hx,O,G,rfl⟩:=h;simp only [Zcj,Xf8] at hv;obtain ⟨v,H,J,I,M⟩:=hv
  cases M
  rw [Xhq];simp only [Sem.run_bind,Z71 Y hx H,Result.andThen_ok,ih G I,Sem.run_pure]
theorem Zsr (Y:Sys) {D:Func} {a:Act} {w:World} {xs:List Res} {vs:Zc} (h:Ztl (Zfs cx) D.results.toList=some xs) (hv:Zcj (Yh cx.nm a) w.heap xs=some vs) :
  (results D a.tmps).run cx.P w = .ok (Z80 vs) w:=by
 have G:(D.results.mapM (m:=Sem) (Z3p a.tmps)).run cx.P w = .ok vs.toArray w:=by
  rw [<-Xjd (xs:=D.results),List.mapM_toArray,Sem.run_map,Zvx Y h hv]
  rfl
 have H:results D a.tmps=(do let vs <-D.results.mapM (m:=Sem) (Z3p a.tmps);pure (if h:vs.size=1 then vs[0] else .tuple vs)):=by
  unfold results
  congr 1
 rw [H];simp only [Sem.run_bind,G,Result.andThen_ok,Sem.run_pure]
 congr 1
 match vs,hv,G with
 | [],_,_=>rfl
 | [v],_,_=>rfl
 | v::u::r,_,_=>simp [Z80]
theorem Zsj (ok:Ok cx Y) {X2:Array Oper->Option FT} (hD:Zun cx Y X2) {f:FuncId} {I:Func} {S:Xm} (hf:cx.P.funcs[f]? = some I) (h:Zrd cx X2 I=some S)
  (args:Zc) (hp:Zk) (R:Ze) (hl:args.length=S.np) (hw:S.wp Y args hp R):Zpe cx.P f args hp R:=by
 unfold Zrd at h
 split at h
 case isFalse=>cases h
 rename_i O;obtain ⟨am,X,ae,G,aj⟩:=O
 split at h
 case h_1=>cases h
 rename_i c hb;simp only [Xf8,Xfz] at h;obtain ⟨s,hs,rs,af,rfl⟩:=h;have H:cx.nm.Nodup:=by
  have:∀ l:Zd,Zi6 l=true->l.Nodup:=by
   intro l
   induction l with
   | nil=>intro _;exact List.nodup_nil
   | cons x l ih =>
    intro h;simp only [Zi6,Xf4,Xhg,Xjg,decide_eq_false_iff_not] at h;exact List.nodup_cons.2 ⟨h.1,ih h.2⟩
  exact this _ ae
 have wf:Wf cx:=⟨H,fun s hs=>by simpa using List.all_eq_true.1 X s hs⟩
 intro w ag;subst ag;refine calls_of_wp hf hb ?_;have an:args.length=I.params.size+I.nfree:=hl;generalize ak:I.params.size+I.nfree=J at *
 have ao:args.length<=cx.nt:=by
  rcases Xhj J with h0 | h0
  ·omega
  have Z:J-1∈cx.nm:=by
   have:J-1∈cx.nm.take J:=by rw [G];simp;omega
   exact Xin this
  have:=wf.lt _ Z;omega
 have U:(args.toArray++Array.replicate (I.ntmps-args.toArray.size) undef).size=cx.nt:=by
  simp only [Xio,Array.size_replicate,Xhv];omega
 have aa:Yh cx.nm { tmps:=args.toArray++Array.replicate (I.ntmps-args.toArray.size) undef,defers:=[] }=args++List.replicate (cx.nm.length-J) undef:=by
  have ab:∀ s,(args.toArray++Array.replicate (I.ntmps-args.toArray.size) undef).getD s undef=args.getD s undef:=by
   intro s;rw [Xhn,Xf5];by_cases hs:s<args.length
   ·rw [Xjh (by simpa using hs)];simp
   rw [Array.getElem?_append_right (by simpa using hs),Xgn (by omega)];simp [Array.getElem?_replicate]
   split <;> rfl
  apply Xia;intro i;simp only [Yh,List.getElem?_map,ab];by_cases hi:i<J
  ·have V:cx.nm[i]? = some i:=by
    have:(cx.nm.take J)[i]? = some i:=by rw [G];simp [hi]
    rw [Xg7] at this;simpa [hi] using this
   rw [V,Xgh (by omega)];simp [Xf5,Xg6 (show i<args.length by omega)]
  rw [Xgv (by omega)];by_cases ah:i<cx.nm.length
  ·rw [Xg6 ah];have al:J<=cx.nm[i]:=by
    rcases Xf0 cx.nm[i] J with ac | hge
    ·exfalso;have V:cx.nm[cx.nm[i]]? = some cx.nm[i]:=by
      have:(cx.nm.take J)[cx.nm[i]]? = some cx.nm[i]:=by rw [G];simp [ac]
      rw [Xg7] at this;simpa [ac] using this
     obtain ⟨ap,he⟩:=List.getElem?_eq_some_iff.1 V;have:=(List.getElem_inj H).1 he;omega
    exact hge
   simp only [Xii];rw [Xf5,Xgn (by omega),List.getElem?_replicate];rw [if_pos (by omega)]
   rfl
  rw [Xgn (by omega),Xgn (by simp;omega)]
  rfl
 have ai:s.wp Y (U4 rs R) (fun _ _ _=>False) (U4 rs R) (args++List.replicate (cx.nm.length-J) undef) w.heap:=hw;refine wp_mono (Zrc ok wf hD w hs (a:={ tmps:=args.toArray++Array.replicate (I.ntmps-args.toArray.size) undef,defers:=[] }) ⟨rfl,U,Same.refl w⟩ (by rw [aa];exact ai)) ?_;have ad:∀ a' w',Good cx w a' w'->U4 rs R (Yh cx.nm a') w'.heap->a'.defers=[]/\∃ v,(results I a'.tmps).run cx.P w' = .ok v w'/\Rr R w (.returned v) w':=by
  intro a' w' g M;refine ⟨g.defers,?_⟩;unfold U4 at M
  cases hv:Zcj (Yh cx.nm a') w'.heap rs with
  | none=>rw [hv] at M;exact M.elim
  | some vs =>
   have D:=Zsr Y af hv;rw [hv] at M
   match vs,M,D with
   | [],M,D=>exact ⟨_,D,_,rfl,M,g.same⟩
   | [v],M,D=>exact ⟨_,D,_,rfl,M,g.same⟩
   | v::u::r,M,D=>exact ⟨_,D,_,rfl,M,g.same⟩
 intro e a' w' hq
 cases e with
 | normal=>exact ad a' w' hq.1 hq.2
 | exit i=>exact hq.2.elim
 | ret=>exact ad a' w' hq.1 hq.2
 | goto l=>exact hq.elim
 | panic c=>exact hq.elim
 | outgrown=>exact hq.elim
end
structure FR where
 i:Nat
 g:Option (Wa × Bool)
 io:Yo
 as:List Wa
 x:Wa
 uses:List (Nat × Wa)
structure DS where
 m:SM
 d:Nat
 W:List (Nat × Nat)
 F:List FR
def Zfz:Yo->Bool
 | .load _ _ | .b2s | .lookup _ _ _ | .lenM=>true
 | _=>false
section
variable (cx:Cx)
def Ub (m:SM):List Operand->List (Nat × Wa)
 | []=>[]
 | .tmp s::r =>
  match m.lookup s with
  | some x=>(s,x)::Ub m r
  | none=>Ub m r
 | _::r=>Ub m r
def Qa (ops:Array Oper):Option (Nat × Bool)->List Operand
 | none=>[]
 | some (j,_)=>match (ops[j]?).bind (·.dst) with | some s=>[.tmp s] | none=>[]
def Znu (W:List (Nat × Nat)) (deps:Zd) (us:List (Nat × Wa)):Bool :=
 us.all fun u=>match W.lookup u.1 with | some i=>deps.contains i | none=>false
def Zhp (j:Nat) (f:FR):Bool :=
 f.as.any (Wa.isN j) || f.x.isN j || (match f.g with | some (y,_)=>y.isN j | none=>false) || f.uses.any (fun u=>u.2.isN j)
def Zjr (d:X3):Option Nat :=
 match d with
 | .set j=>some j
 | _=>none
def Zsh (W:List (Nat × Nat)):Option Tmp->Bool
 | some s=>(W.lookup s).isSome
 | none=>false
def Xcl (W:List (Nat × Nat)) (i:Nat):Option Tmp->List (Nat × Nat)
 | some s=>(s,i)::W
 | none=>W
def Z6l (F:List FR):Option Nat->Bool
 | some j=>F.all fun f=>!Zhp j f
 | none=>true
def Zbj (F:List FR):List FI:=(F.filter (fun f=>Zfz f.io)).map fun f=>⟨f.g,.stab f.io f.as f.x⟩
def Za3 (k:Kd) (dst:Option Tmp):Option (Yo × Nat) :=
 match k,dst with
 | .io io,some s=>if s<cx.nt/\cx.nm.idxOf? s=none then some (io,s) else none
 | _,_=>none
def Zhi (o:Oper):Bool :=
 match Zd9 cx o.op with
 | some (k,_)=>(Za3 cx k o.dst).isSome
 | none=>false
def Zp9 (ops:Array Oper) (left:Zd) (i:Nat):Bool :=
 match ops[i]? with
 | some o=>(Uz o).all fun q=>!left.contains q
 | none=>false
def Zl8:List FT->Option FT
 | []=>none
 | [x]=>some x
 | x::r=>(Zl8 r).map fun y=>.alt x y
def Zfu (ops:Array Oper) (bm:Array Nat) (go:Zd->DS->Option FT) (left:Zd) (st:DS) (i:Nat):Option FT :=
 match ops[i]? with
 | none=>none
 | some o =>
  match Zby cx ops st.m o.guard,Zd9 cx o.op with
  | some g,some (k,xs) =>
   match xs.mapM (rsv cx st.m) with
   | none=>none
   | some as =>
    let us:=Ub st.m (Qa ops o.guard++xs)
    if Znu st.W (Uz o) us then
     match Za3 cx k o.dst with
     | some (io,s) =>
      if (st.W.lookup s).isSome then none else
      match Zhd cx o k as with
      | some (_,x)=>go (left.erase i) ⟨(s,x)::st.m,st.d,(s,i)::st.W,⟨i,none,.mv,[x],x,us⟩::st.F⟩
      | none=>(go (left.erase i) ⟨(s,.t st.d)::st.m,st.d+1,(s,i)::st.W,⟨i,g,io,as,.t st.d,us⟩::st.F⟩).map (.cons ⟨g,.op io as .push⟩)
     | none =>
      if Zsh st.W o.dst then none else
      match Zoh cx st.m st.d o.dst with
      | none=>none
      | some (ds,m',d') =>
       match Zp8 ds k as with
       | none=>none
       | some ins =>
        let F':=st.F.filter (fun f=>!(bm.getD i 0).testBit f.i)
        if Z6l F' (Zjr ds) then
         (go (left.erase i) ⟨m',d',Xcl st.W i o.dst,F'⟩).map fun t=>.cons ⟨g,ins⟩ (FT.app (Zbj F') t)
        else none
    else none
  | _,_=>none
def Zb0 (ops:Array Oper) (left:Zd):Option Nat :=
 left.find? fun i=>(match ops[i]? with | some o=>Zhi cx o | none=>false) && Zp9 ops left i
def Zbe (ops:Array Oper) (bm:Array Nat):Nat->Zd->DS->Option FT
 | 0,left,_=>if left.isEmpty then some .nil else none
 | n+1,left,st =>
  if left.isEmpty then some .nil else
  match Zb0 cx ops left with
  | some i=>Zfu cx ops bm (Zbe ops bm n) left st i
  | none=>(Ztl (Zfu cx ops bm (Zbe ops bm n) left st) (left.filter (Zp9 ops left))).bind Zl8
def Z1d (ops:Array Oper) (bm:Array Nat):Bool :=
 (List.range ops.size).all fun c =>
  match ops[c]? with
  | some o=>(Uz o).all (· < c) && (bm.getD c 0 == (Uz o).foldl (fun s j=>s ||| 2 ^ j ||| bm.getD j 0) 0)
  | none=>false
def Z5c (ops:Array Oper):Array Nat :=
 ops.foldl (fun bm o=>bm.push ((Uz o).foldl (fun s j=>s ||| 2 ^ j ||| bm.getD j 0) 0)) #[]
def X2 (ops:Array Oper):Option FT :=
 let bm:=Z5c ops
 if Z1d ops bm then Zbe cx ops bm ops.size (List.range ops.size) ⟨[],0,[],[]⟩ else none
end
def Lst (listed:Array Bool) (i:Nat):Prop:=listed.getD i false=true
theorem Lst.set_self {r:Array Bool} {i:Nat} (h:i<r.size):Lst (r.setIfInBounds i true) i:=by simp [Lst,h]
theorem Lst.set {r:Array Bool} {i j:Nat} (h:Lst r j):Lst (r.setIfInBounds i true) j:=getD_set_true h
theorem Lst.of_set {r:Array Bool} {i j:Nat} (h:Lst (r.setIfInBounds i true) j):j=i\/Lst r j:=by
 by_cases D:i=j
 ·exact .inl D.symm
 right;unfold Lst at *;rwa [getD_set_ne false D] at h
section
variable {cx:Cx} {Y:Sys}
theorem Zj7 {x:Wa} {ds:X3} {e T:Zc} {v:Value} (r:x.lt T.length) (D:∀ j,Zjr ds=some j->x.isN j=false) :
  x.ev Y (ds.e v e) (ds.T v T)=x.ev Y e T:=by
 cases ds with
 | drop=>rfl
 | push=>exact Zhx r
 | set j=>exact Z3q (D j rfl)
theorem Zrw {l:List Wa} {ds:X3} {e T:Zc} {v:Value} (r:∀ x∈l,x.lt T.length) (D:∀ j,Zjr ds=some j->∀ x∈l,x.isN j=false) :
  l.map (Wa.ev Y (ds.e v e) (ds.T v T))=l.map (Wa.ev Y e T) :=
 Xho fun x hx=>Zj7 (r x hx) fun j G=>D j G x hx
def gLt (d:Nat):Option (Wa × Bool)->Prop
 | none=>True
 | some (x,_)=>x.lt d
theorem Z17 {g:Option (Wa × Bool)} {ds:X3} {e T:Zc} {v:Value} (r:gLt T.length g) (D:∀ j,Zjr ds=some j->∀ x w,g=some (x,w)->x.isN j=false) :
  gOk Y (ds.e v e) (ds.T v T) g=gOk Y e T g:=by
 cases g with
 | none=>rfl
 | some G =>
  obtain ⟨x,w⟩:=G;simp only [gOk];rw [Zj7 r fun j H=>D j H x w rfl]
theorem Z4u {io:Yo} {h h':Zk} {xs:Zc} (hd:Zfz io=false):io.sem Y h xs=io.sem Y h' xs:=by
 unfold Yo.sem
 split <;> first | rfl | (simp [Zfz] at hd)
def VF (Y:Sys) (f:FR) (e T:Zc) (h:Zk):Prop :=
 (gOk Y e T f.g=true->f.io.sem Y h (f.as.map (Wa.ev Y e T))=some (f.x.ev Y e T))/\(gOk Y e T f.g=false->f.x.ev Y e T=undef)
def Zts (Y:Sys) (listed:Array Bool) (W:List (Nat × Nat)) (a:Act) (e T:Zc) (u:Nat × Wa):Prop :=
 ∀ i,W.lookup u.1=some i->Lst listed i->a.tmps.getD u.1 undef=u.2.ev Y e T
structure Xbx (cx:Cx) (Y:Sys) (ops:Array Oper) (W:List (Nat × Nat)) (f:FR) (o:Oper) (xs:List Operand) (s:Nat):Prop where
 op:ops[f.i]? = some o
 knd:Zd9 cx o.op=some (.io f.io,xs)
 dst:o.dst=some s
 lt:s<cx.nt
 out:s ∉ cx.nm
 wr:W.lookup s=some f.i
 uses:∀ u∈f.uses,∃ i,W.lookup u.1=some i/\i∈Uz o
 ev:∀ (a:Act) (T:Zc),(∀ u∈f.uses,a.tmps.getD u.1 undef=u.2.ev Y (Yh cx.nm a) T) ->
  xs.map a.eval=f.as.map (Wa.ev Y (Yh cx.nm a) T)/\Region.wanted o (yielded ops a.tmps)=gOk Y (Yh cx.nm a) T f.g
structure Pre (cx:Cx) (Y:Sys) (ops:Array Oper) (bm:Array Nat) (K:Zc->Zk->Prop) (w0:World) (listed:Array Bool) (a:Act) (w:World) (L:Zd) (st:DS) (T:Zc) (r:FT):Prop where
 defers:a.defers=[]
 size:a.tmps.size=cx.nt
 same:Same w0 w
 comp:∃ n,Zbe cx ops bm n L st=some r
 wp:FT.wp Y (fun e _ h=>K e h) r (Yh cx.nm a) T w.heap
 len:T.length=st.d
 ltm:∀ p∈st.m,p.2.lt st.d
 ltF:∀ f∈st.F,f.x.lt st.d/\(∀ y∈f.as,y.lt st.d)/\(∀ u∈f.uses,u.2.lt st.d)/\gLt st.d f.g
 wm:∀ p∈st.m,∃ i,st.W.lookup p.1=some i
 holdm:∀ p∈st.m,Zts Y listed st.W a (Yh cx.nm a) T p
 holdF:∀ f∈st.F,¬ Lst listed f.i->∀ u∈f.uses,Zts Y listed st.W a (Yh cx.nm a) T u
 cons:∀ f∈st.F,(∀ p∈st.m,st.W.lookup p.1=some f.i->p.2=f.x)/\(∀ f'∈st.F,∀ u∈f'.uses,st.W.lookup u.1=some f.i->u.2=f.x)
 vF:∀ f∈st.F,¬ Lst listed f.i->VF Y f (Yh cx.nm a) T w.heap
 link:∀ f∈st.F,∃ o xs s,Xbx cx Y ops st.W f o xs s
 winj:∀ s t i,st.W.lookup s=some i->st.W.lookup t=some i->s=t
 wL:∀ s i,st.W.lookup s=some i->i ∉ L
 fL:∀ f∈st.F,f.i ∉ L
 unl:∀ i∈L,¬ Lst listed i/\i<ops.size
 nd:L.Nodup
 cover:∀ i,i<ops.size->Lst listed i\/i∈L\/∃ f∈st.F,f.i=i
 closed:∀ i o,ops[i]? = some o->Lst listed i->∀ j∈Uz o,Lst listed j
 lsize:listed.size=ops.size
theorem Zl9 {m:SM} {s:Nat} {x:Wa} (h:m.lookup s=some x):(s,x)∈m:=by
 induction m with
 | nil=>cases h
 | cons p m ih =>
  obtain ⟨t,b⟩:=p;simp only [Xil] at h
  split at h
  ·rename_i hb
   cases h
   have:s=t:=by simpa using hb
   subst this;simp
  exact Xgg _ (ih h)
theorem Zly {m:SM}:∀ {xs:List Operand} {u:Nat × Wa},u∈Ub m xs->u∈m:=by
 intro xs
 induction xs with
 | nil=>intro u h;cases h
 | cons x xs ih =>
  intro u h
  cases x with
  | tmp s =>
   simp only [Ub] at h
   split at h
   ·rename_i y hy;rcases List.mem_cons.1 h with rfl | h
    ·exact Zl9 hy
    exact ih h
   exact ih h
  | const v=>exact ih h
  | global g=>exact ih h
  | func f=>exact ih h
theorem Qq {m:SM} {xs r:List Operand} {u:Nat × Wa} (h:u∈Ub m xs\/u∈Ub m r):u∈Ub m (xs++r):=by
 induction xs with
 | nil=>simpa [Ub] using h
 | cons x xs ih =>
  cases x with
  | tmp s =>
   simp only [Ub,Xh5] at h ⊢
   split
   ·rename_i y hy;simp only [hy] at h;rcases h with h | h
    ·rcases List.mem_cons.1 h with rfl | h
     ·simp
     exact Xgg _ (ih (.inl h))
    exact Xgg _ (ih (.inr h))
   rename_i hy;simp only [hy] at h;exact ih h
  | const v=>exact ih h
  | global g=>exact ih h
  | func f=>exact ih h
theorem Zs9 {m:SM} {a:Act} {T:Zc} {x:Operand} {arg:Wa} (H:Ok cx Y) (r:rsv cx m x=some arg)
  (hu:∀ u∈Ub m [x],a.tmps.getD u.1 undef=u.2.ev Y (Yh cx.nm a) T):arg.ev Y (Yh cx.nm a) T=a.eval x:=by
 cases x with
 | tmp s =>
  simp only [rsv] at r
  cases D:m.lookup s with
  | some b =>
   rw [D] at r
   cases r
   exact (hu (s,arg) (by simp [Ub,D])).symm
  | none =>
   rw [D] at r;simp only [Xfz] at r;obtain ⟨i,I,rfl⟩:=r;exact Zdt I
 | const v=>cases r;rfl
 | global g =>
  simp only [rsv,Xfz] at r;obtain ⟨j,G,rfl⟩:=r;simp only [Wa.ev,H.hg _ _ G]
  rfl
 | func f =>
  simp only [rsv,Xfz] at r;obtain ⟨j,G,rfl⟩:=r;simp only [Wa.ev,(H.hf _ _ G).1]
  rfl
theorem Zhk {m:SM} {a:Act} {T:Zc} (G:Ok cx Y):∀ {xs:List Operand} {as:List Wa},xs.mapM (rsv cx m)=some as ->
  (∀ u∈Ub m xs,a.tmps.getD u.1 undef=u.2.ev Y (Yh cx.nm a) T)->xs.map a.eval=as.map (Wa.ev Y (Yh cx.nm a) T):=by
 intro xs
 induction xs with
 | nil=>intro as h _;simp at h;subst h;rfl
 | cons x xs ih =>
  intro as h hu;simp only [Xhq,Xh8,Xf8] at h;obtain ⟨b,hb,J,D,H⟩:=h
  cases H
  have h1:=Zs9 (T:=T) (a:=a) G hb fun u r=>hu u (Qq (xs:=[x]) (.inl r));have I:=ih D fun u r=>hu u (Qq (xs:=[x]) (.inr r));simp [h1,I]
theorem Zlr {r:Array Oper} {m:SM} {a:Act} {T:Zc} {o:Oper} {g:Option (Wa × Bool)} (J:Ok cx Y) (h:Zby cx r m o.guard=some g)
  (hu:∀ u∈Ub m (Qa r o.guard),a.tmps.getD u.1 undef=u.2.ev Y (Yh cx.nm a) T) :
  Region.wanted o (yielded r a.tmps)=gOk Y (Yh cx.nm a) T g:=by
 unfold Region.wanted
 cases H:o.guard with
 | none=>rw [H] at h;cases h;rfl
 | some M =>
  obtain ⟨j,I⟩:=M;rw [H] at h hu;simp only [Zby,Xf8,Xfz] at h;obtain ⟨s,⟨O,D,hs⟩,x,hx,rfl⟩:=h;simp only [Qa,D,Xgj,hs] at hu;have G:=Zs9 J hx hu;simp only [gOk,G,Act.eval,yielded,D,Xgj,hs];rw [Xhn]
  cases ht:a.tmps[s]? with
  | none=>simp [gdB,undef]
  | some v =>
   simp only [Xh9]
   cases v <;> simp [gdB]
theorem Z3j {m:SM} {d:Nat} {x:Operand} {arg:Wa} (G:∀ p∈m,p.2.lt d) (r:rsv cx m x=some arg):arg.lt d:=by
 cases x with
 | tmp s =>
  simp only [rsv] at r
  cases D:m.lookup s with
  | some b=>rw [D] at r;cases r;exact G _ (Zl9 D)
  | none =>
   rw [D] at r;simp only [Xfz] at r;obtain ⟨i,_,rfl⟩:=r
   trivial
 | const v=>cases r;trivial
 | global g=>simp only [rsv,Xfz] at r;obtain ⟨i,_,rfl⟩:=r;trivial
 | func g=>simp only [rsv,Xfz] at r;obtain ⟨i,_,rfl⟩:=r;trivial
theorem Zg9 {m:SM} {d:Nat} (D:∀ p∈m,p.2.lt d):∀ {xs:List Operand} {as:List Wa},xs.mapM (rsv cx m)=some as->∀ y∈as,y.lt d:=by
 intro xs
 induction xs with
 | nil=>intro as h;simp at h;subst h;simp
 | cons x xs ih =>
  intro as h;simp only [Xhq,Xh8,Xf8] at h;obtain ⟨b,hb,H,r,G⟩:=h
  cases G
  intro y hy;rcases List.mem_cons.1 hy with rfl | hy
  ·exact Z3j D hb
  exact ih r y hy
theorem Ztr {r:Array Oper} {m:SM} {d:Nat} {gd:Option (Nat × Bool)} {g:Option (Wa × Bool)} (G:∀ p∈m,p.2.lt d) (h:Zby cx r m gd=some g):gLt d g:=by
 cases gd with
 | none=>cases h;trivial
 | some H =>
  obtain ⟨j,D⟩:=H;simp only [Zby,Xf8,Xfz] at h;obtain ⟨s,_,x,hx,rfl⟩:=h;exact Z3j G hx
end
section
variable {cx:Cx} {Y:Sys} {ops:Array Oper} {bm:Array Nat} {K:Zc->Zk->Prop} {w0:World} {listed:Array Bool} {a:Act} {w:World}
theorem Zm8 {k:Kd} {r:Option Tmp} {io:Yo} {s:Nat} (h:Za3 cx k r=some (io,s)):k = .io io/\r=some s/\s<cx.nt/\s ∉ cx.nm:=by
 unfold Za3 at h
 split at h
 ·split at h
  ·rename_i hc
   cases h
   exact ⟨rfl,rfl,hc.1,List.idxOf?_eq_none_iff.1 hc.2⟩
  cases h
 cases h
theorem Xl {s t i:Nat} {W:List (Nat × Nat)} (h:t≠s):((s,i)::W).lookup t=W.lookup t:=by
 simp only [Xil];have:(t == s)=false:=by simpa using h
 rw [this]
theorem Wo {s i:Nat} {W:List (Nat × Nat)}:((s,i)::W).lookup s=some i:=by simp
theorem Zr8 {i:Nat} {L:Zd} {D:DS} {T:Zc} {fl:FT} (P:Pre cx Y ops bm K w0 listed a w L D T fl) (R:i∈L)
  {o:Oper} {g:Option (Wa × Bool)} {io:Yo} {xs:List Operand} {as:List Wa} {s:Nat} {x:Wa} {d':Nat} {T':Zc} {ac:FT} {gf:Option (Wa × Bool)} (ok:Ok cx Y)
  (ho:ops[i]? = some o) (hg:Zby cx ops D.m o.guard=some g) (hk:Zd9 cx o.op=some (.io io,xs)) (ai:xs.mapM (rsv cx D.m)=some as)
  (ap:Znu D.W (Uz o) (Ub D.m (Qa ops o.guard++xs))=true) (hd:o.dst=some s) (hs:s<cx.nt) (aj:s ∉ cx.nm) (O:(D.W.lookup s).isSome=false) (aq:gf=g)
  (ad:∃ n,Zbe cx ops bm n (L.erase i) ⟨(s,x)::D.m,d',(s,i)::D.W,⟨i,gf,io,as,x,Ub D.m (Qa ops o.guard++xs)⟩::D.F⟩=some ac)
  (hw:FT.wp Y (fun e _ h=>K e h) ac (Yh cx.nm a) T' w.heap) (ak:T'.length=d') (hx:x.lt d')
  (hT:(T'=T/\d'=D.d)\/(∃ v,T'=T++[v]/\d'=D.d+1))
  (hv:VF Y ⟨i,gf,io,as,x,Ub D.m (Qa ops o.guard++xs)⟩ (Yh cx.nm a) T' w.heap) :
  Pre cx Y ops bm K w0 listed a w (L.erase i) ⟨(s,x)::D.m,d',(s,i)::D.W,⟨i,gf,io,as,x,Ub D.m (Qa ops o.guard++xs)⟩::D.F⟩ T' ac:=by
 subst aq;have ae:D.W.lookup s=none:=by
  cases h:D.W.lookup s with
  | none=>rfl
  | some j=>rw [h] at O;cases O
 have G:∀ t j,D.W.lookup t=some j->t≠s:=by
  intro t j h e;subst e;rw [ae] at h;cases h
 have U:∀ y:Wa,y.lt D.d->y.ev Y (Yh cx.nm a) T'=y.ev Y (Yh cx.nm a) T:=by
  intro y hy;rcases hT with ⟨rfl,_⟩ | ⟨v,rfl,_⟩
  ·rfl
  exact Zhx (by rw [P.len];exact hy)
 have J:∀ y:Wa,y.lt D.d->y.lt d':=by
  intro y hy;rcases hT with ⟨_,rfl⟩ | ⟨v,_,rfl⟩
  ·exact hy
  exact Wa.lt_succ hy
 have ab:∀ g:Option (Wa × Bool),gLt D.d g->gLt d' g:=by
  intro g hg
  cases g with
  | none=>trivial
  | some xw=>exact J _ hg
 have ar:¬ Lst listed i:=(P.unl i R).1;have af:i ∉ L.erase i/\(L.erase i).Nodup:=⟨P.nd.not_mem_erase,P.nd.erase i⟩
 have V:∀ j,j∈L.erase i->j∈L:=fun j r=>List.mem_of_mem_erase r;have X:∀ p:Nat × Wa,p.2.lt D.d->(∃ j,D.W.lookup p.1=some j)->Zts Y listed D.W a (Yh cx.nm a) T p->Zts Y listed ((s,i)::D.W) a (Yh cx.nm a) T' p:=by
  intro p hp ⟨j,r⟩ h q hq hl;rw [Xl (G _ _ r)] at hq;rw [U _ hp];exact h q hq hl
 have H:∀ u∈Ub D.m (Qa ops o.guard++xs),u∈D.m:=fun u hu=>Zly hu;have I:∀ u∈Ub D.m (Qa ops o.guard++xs),∃ j,D.W.lookup u.1=some j/\j∈Uz o:=by
  intro u hu;have:=List.all_eq_true.1 ap u hu
  cases h:D.W.lookup u.1 with
  | none=>rw [h] at this;cases this
  | some j=>rw [h] at this;exact ⟨j,rfl,by simpa using this⟩
 refine ⟨P.defers,P.size,P.same,ad,hw,ak,?_,?_,?_,?_,?_,?_,?_,?_,?_,?_,?_,?_,af.2,?_,P.closed,P.lsize⟩
 ·
  intro p hp;rcases List.mem_cons.1 hp with rfl | hp
  ·exact hx
  exact J _ (P.ltm p hp)
 ·
  intro f hf;rcases List.mem_cons.1 hf with rfl | hf
  ·exact ⟨hx,fun y hy=>J _ (Zg9 P.ltm ai y hy),fun u hu=>J _ (P.ltm u (H u hu)),ab _ (Ztr P.ltm hg)⟩
  obtain ⟨h1,Z,h3,h4⟩:=P.ltF f hf;exact ⟨J _ h1,fun y hy=>J _ (Z y hy),fun u hu=>J _ (h3 u hu),ab _ h4⟩
 ·
  intro p hp;rcases List.mem_cons.1 hp with rfl | hp
  ·exact ⟨i,Wo⟩
  obtain ⟨j,r⟩:=P.wm p hp;exact ⟨j,by rw [Xl (G _ _ r)];exact r⟩
 ·
  intro p hp;rcases List.mem_cons.1 hp with rfl | hp
  ·intro q hq hl;rw [Wo] at hq
   cases hq
   exact absurd hl ar
  exact X p (P.ltm p hp) (P.wm p hp) (P.holdm p hp)
 ·
  intro f hf hl;rcases List.mem_cons.1 hf with rfl | hf
  ·intro u hu;exact X u (P.ltm u (H u hu)) (P.wm u (H u hu)) (P.holdm u (H u hu))
  intro u hu;obtain ⟨o',aa,s',M⟩:=P.link f hf;obtain ⟨j,r,_⟩:=M.uses u hu;exact X u ((P.ltF f hf).2.2.1 u hu) ⟨j,r⟩ (P.holdF f hf hl u hu)
 ·
  intro f hf;have al:∀ t,D.W.lookup t≠some i:=fun t h=>P.wL t i h R;rcases List.mem_cons.1 hf with rfl | hf
  ·refine ⟨?_,?_⟩
   ·intro p hp hq;rcases List.mem_cons.1 hp with rfl | hp
    ·rfl
    obtain ⟨j,r⟩:=P.wm p hp;rw [Xl (G _ _ r)] at hq;exact absurd hq (al _)
   intro f' hf' u hu hq;have au:∃ j,D.W.lookup u.1=some j:=by
    rcases List.mem_cons.1 hf' with rfl | hf'
    ·obtain ⟨j,r,_⟩:=I u hu;exact ⟨j,r⟩
    obtain ⟨o',aa,s',M⟩:=P.link f' hf';obtain ⟨j,r,_⟩:=M.uses u hu;exact ⟨j,r⟩
   obtain ⟨j,r⟩:=au;rw [Xl (G _ _ r)] at hq;exact absurd hq (al _)
  obtain ⟨c1,c2⟩:=P.cons f hf;have av:f.i≠i:=fun e=>P.fL f hf (by rw [e];exact R);refine ⟨?_,?_⟩
  ·intro p hp hq;rcases List.mem_cons.1 hp with rfl | hp
   ·rw [Wo] at hq;cases hq;exact absurd rfl av
   obtain ⟨j,r⟩:=P.wm p hp;rw [Xl (G _ _ r)] at hq;exact c1 p hp hq
  intro f' hf' u hu hq;rcases List.mem_cons.1 hf' with rfl | hf'
  ·obtain ⟨j,r,_⟩:=I u hu;rw [Xl (G _ _ r)] at hq;exact c1 u (H u hu) hq
  obtain ⟨o',aa,s',M⟩:=P.link f' hf';obtain ⟨j,r,_⟩:=M.uses u hu;rw [Xl (G _ _ r)] at hq;exact c2 f' hf' u hu hq
 ·
  intro f hf hl;rcases List.mem_cons.1 hf with rfl | hf
  ·exact hv
  obtain ⟨h1,Z,h3,h4⟩:=P.ltF f hf;obtain ⟨v1,v2⟩:=P.vF f hf hl;have am:gOk Y (Yh cx.nm a) T' f.g=gOk Y (Yh cx.nm a) T f.g:=by
   cases aw:f.g with
   | none=>rfl
   | some xw =>
    obtain ⟨y,b⟩:=xw;rw [aw] at h4;simp only [gOk];rw [U y h4]
  have an:f.as.map (Wa.ev Y (Yh cx.nm a) T')=f.as.map (Wa.ev Y (Yh cx.nm a) T):=Xho fun y hy=>U y (Z y hy);exact ⟨fun hb=>by rw [an,U _ h1];exact v1 (by rw [<-am];exact hb),fun hb=>by rw [U _ h1];exact v2 (by rw [<-am];exact hb)⟩
 ·
  intro f hf;rcases List.mem_cons.1 hf with rfl | hf
  ·refine ⟨o,xs,s,ho,hk,hd,hs,aj,Wo,?_,?_⟩
   ·intro u hu;obtain ⟨j,r,ag⟩:=I u hu;exact ⟨j,by rw [Xl (G _ _ r)];exact r,ag⟩
   intro a' T'' hu;exact ⟨Zhk ok ai fun u ah=>hu u (Qq (.inr ah)),Zlr ok hg fun u ah=>hu u (Qq (.inl ah))⟩
  obtain ⟨o',aa,s',M⟩:=P.link f hf;refine ⟨o',aa,s',M.op,M.knd,M.dst,M.lt,M.out,by rw [Xl (G _ _ M.wr)];exact M.wr,?_,M.ev⟩;intro u hu;obtain ⟨j,r,ag⟩:=M.uses u hu;exact ⟨j,by rw [Xl (G _ _ r)];exact r,ag⟩
 ·
  intro t u j ht hu;by_cases h1:t=s
  ·subst h1;rw [Wo] at ht
   cases ht
   by_cases Z:u=t
   ·exact Z.symm
   rw [Xl Z] at hu;exact absurd R (P.wL u i hu)
  rw [Xl h1] at ht;by_cases Z:u=s
  ·subst Z;rw [Wo] at hu
   cases hu
   exact absurd R (P.wL t i ht)
  rw [Xl Z] at hu;exact P.winj t u j ht hu
 ·
  intro t j h;by_cases ht:t=s
  ·subst ht;rw [Wo] at h;cases h;exact af.1
  rw [Xl ht] at h;exact fun r=>P.wL t j h (V _ r)
 ·
  intro f hf;rcases List.mem_cons.1 hf with rfl | hf
  ·exact af.1
  exact fun r=>P.fL f hf (V _ r)
 ·
  exact fun j r=>P.unl j (V _ r)
 
 intro j r;rcases P.cover j r with h | h | ⟨f,hf,h⟩
 ·exact .inl h
 ·by_cases ao:j=i
  ·subst ao;exact .inr (.inr ⟨_,Xhw,rfl⟩)
  exact .inr (.inl ((Xji ao).2 h))
 exact .inr (.inr ⟨f,Xgg _ hf,h⟩)
theorem Z4b {i:Nat} {L:Zd} {R:DS} {T:Zc} {fl:FT} {n:Nat} (ok:Ok cx Y) (P:Pre cx Y ops bm K w0 listed a w L R T fl) (V:i∈L)
  (hc:Zfu cx ops bm (Zbe cx ops bm n) L R i=some fl)
  {o:Oper} {k:Kd} {xs:List Operand} {X:Yo × Nat} (ho:ops[i]? = some o) (hk:Zd9 cx o.op=some (k,xs)) (hf:Za3 cx k o.dst=some X) :
  ∃ U T' D,Pre cx Y ops bm K w0 listed a w (L.erase i) U T' D:=by
 obtain ⟨io,s⟩:=X;obtain ⟨rfl,hd,hs,O⟩:=Zm8 hf;simp only [Zfu,ho,hk] at hc
 split at hc
 case h_2=>cases hc
 rename_i g k' ah hg ae
 cases ae
 split at hc
 ·cases hc
 rename_i as I
 split at hc
 case isFalse=>cases hc
 rename_i Z;simp only [hf] at hc
 split at hc
 ·cases hc
 rename_i r;have r:(R.W.lookup s).isSome=false:=(Xij _).mp r
 split at hc
 ·rename_i s' x G;have ag:=G;unfold Zhd at G
  split at G
  case h_2=>cases G
  rename_i y ai aa M aj
  split at G
  case isFalse=>cases G
  cases G
  cases io with
  | mv =>
   match as,M,I with
   | [z],M,I =>
    cases M
    rw [aa] at hg
    cases hg
    have ab:x.lt R.d:=Zg9 P.ltm I x (by simp);exact ⟨_,T,fl,Zr8 P V (gf:=none) (g:=none) ok ho (by rw [aa];rfl) hk I Z hd hs O r rfl ⟨n,hc⟩ P.wp P.len ab (.inl ⟨rfl,rfl⟩) ⟨fun _=>rfl,fun h=>by cases h⟩⟩
  | _=>simp [Z7s] at M
 simp only [Xfz] at hc;obtain ⟨D,hc,af⟩:=hc;have H:=P.wp;rw [<-af] at H;have H:FI.wp Y ⟨g,.op io as .push⟩ (FT.wp Y (fun e _ h=>K e h) D) (Yh cx.nm a) T w.heap:=H;have J:∀ v:Value,Wa.ev Y (Yh cx.nm a) (T++[v]) (.t R.d)=v:=by
  intro v;simp only [Wa.ev,<-P.len];simp
 have ac:∀ v:Value,as.map (Wa.ev Y (Yh cx.nm a) (T++[v]))=as.map (Wa.ev Y (Yh cx.nm a) T):=fun v =>
  Xho fun y hy=>Zhx (by rw [P.len];exact Zg9 P.ltm I y hy)
 have ad:∀ v:Value,gOk Y (Yh cx.nm a) (T++[v]) g=gOk Y (Yh cx.nm a) T g:=by
  intro v;have:=Ztr P.ltm hg
  cases g with
  | none=>rfl
  | some xw =>
   obtain ⟨y,b⟩:=xw;simp only [gOk];rw [Zhx (by rw [P.len];exact this)]
 have go:∀ v:Value,FT.wp Y (fun e _ h=>K e h) D (Yh cx.nm a) (T++[v]) w.heap ->
   (gOk Y (Yh cx.nm a) T g=true->io.sem Y w.heap (as.map (Wa.ev Y (Yh cx.nm a) T))=some v)->(gOk Y (Yh cx.nm a) T g=false->v=undef) ->
   ∃ U T' D,Pre cx Y ops bm K w0 listed a w (L.erase i) U T' D:=by
  intro v H h1 h2;refine ⟨_,T++[v],D,Zr8 P V (gf:=g) ok ho hg hk I Z hd hs O r rfl ⟨n,hc⟩ H (by simp [P.len]) (Xim _) (.inr ⟨v,rfl,rfl⟩) ⟨?_,?_⟩⟩
  ·intro hb;show io.sem Y w.heap (as.map (Wa.ev Y (Yh cx.nm a) (T++[v])))=some (Wa.ev Y (Yh cx.nm a) (T++[v]) (.t R.d));rw [J,ac];exact h1 (by rw [<-ad v];exact hb)
  intro hb;show Wa.ev Y (Yh cx.nm a) (T++[v]) (.t R.d)=undef;rw [J];exact h2 (by rw [<-ad v];exact hb)
 cases g with
 | none =>
  obtain ⟨v,hv,H⟩:=Zit (k:=fun v=>FT.wp Y (fun e _ h=>K e h) D (Yh cx.nm a) (T++[v]) w.heap) H;exact go v H (fun _=>hv) (fun h=>by cases h)
 | some xw =>
  obtain ⟨y,b⟩:=xw;simp only [FI.wp] at H
  split at H
  ·rename_i hb;obtain ⟨v,hv,H⟩:=Zit (k:=fun v=>FT.wp Y (fun e _ h=>K e h) D (Yh cx.nm a) (T++[v]) w.heap) H;exact go v H (fun _=>hv) (fun h=>by simp only [gOk] at h;rw [hb] at h;cases h)
  rename_i hb;exact go undef H (fun h=>absurd h hb) (fun _=>rfl)
theorem Zrk {o:Oper} (h:Zhi cx o=true):∃ k xs r,Zd9 cx o.op=some (k,xs)/\Za3 cx k o.dst=some r:=by
 unfold Zhi at h
 split at h
 ·rename_i k xs D;obtain ⟨r,G⟩:=Option.isSome_iff_exists.1 h;exact ⟨k,xs,r,D,G⟩
 cases h
theorem adv (X:Ok cx Y):∀ (n:Nat) {L:Zd} {O:DS} {T:Zc} {R:FT},L.length<=n->Pre cx Y ops bm K w0 listed a w L O T R ->
  ∃ L' I T' J,Pre cx Y ops bm K w0 listed a w L' I T' J/\Zb0 cx ops L'=none:=by
 intro n
 induction n with
 | zero =>
  intro L O T R V P;have:L=[]:=Xgw (Nat.le_zero.1 V);subst this;exact ⟨_,_,_,_,P,rfl⟩
 | succ n ih =>
  intro L O T R V P
  cases H:Zb0 cx ops L with
  | none=>exact ⟨_,_,_,_,P,H⟩
  | some i =>
   have D:=H;unfold Zb0 at D;have G:=Xi1 D;have hp:=Xi2 D;simp only [Xf4] at hp
   cases U:ops[i]? with
   | none=>rw [U] at hp;simp at hp
   | some o =>
    rw [U] at hp;obtain ⟨k,xs,Z,hk,hf⟩:=Zrk hp.1;obtain ⟨q,hc⟩:=P.comp;have M:L.isEmpty=false:=by cases L with | nil=>cases G | cons x r=>rfl
    cases q with
    | zero=>simp [Zbe,M] at hc
    | succ q =>
     simp only [Zbe,M,H,Xga,if_false] at hc;obtain ⟨I,T',J,P'⟩:=Z4b X P G hc U hk hf;refine ih ?_ P';rw [List.length_erase_of_mem G];have:0<L.length:=Xjj G;omega
theorem Ztp {o:Oper} (h:∀ e∈o.after,Region.binds .any e=true->listed.getD e.on false=true):∀ j∈Uz o,Lst listed j:=by
 intro j D;simp only [Uz,List.mem_filterMap] at D;obtain ⟨e,G,hb⟩:=D
 split at hb
 ·rename_i r
  cases hb
  exact h e (by simpa using G) r
 cases hb
theorem Zv9 (ok:Ok cx Y) {L:Zd} {M:DS} {T:Zc} {fl:FT} {f:FR} {o:Oper} {Q:Exit->Act->World->Prop} {Kw:Act->World->Prop}
  (P:Pre cx Y ops bm K w0 listed a w L M T fl) (hf:f∈M.F) (hl:¬ Lst listed f.i) (ho:ops[f.i]? = some o) (hd:∀ j∈Uz o,Lst listed j)
  (hn:∀ a',Pre cx Y ops bm K w0 (listed.setIfInBounds f.i true) a' w L M T fl->Kw a' w):wpOp cx.P ops Q f.i Kw a w:=by
 obtain ⟨Z,xs,s,D⟩:=P.link f hf;have:Z=o:=by have:=D.op;rw [ho] at this;cases this;rfl
 subst this;have R:∀ u∈f.uses,a.tmps.getD u.1 undef=u.2.ev Y (Yh cx.nm a) T:=by
  intro u hu;obtain ⟨j,I,ab⟩:=D.uses u hu;exact P.holdF f hf hl u hu j I (hd j ab)
 obtain ⟨ac,G⟩:=D.ev a T R;obtain ⟨v1,v2⟩:=P.vF f hf hl;have ad:f.i<listed.size:=by
  rw [P.lsize];exact (Array.getElem?_eq_some_iff.1 ho).1
 have hs':s<a.tmps.size:=by rw [P.size];exact D.lt
 have r:Yh cx.nm (a.put Z.dst (f.x.ev Y (Yh cx.nm a) T))=Yh cx.nm a:=by rw [D.dst];exact Zaz D.out
 have U:(a.put Z.dst (f.x.ev Y (Yh cx.nm a) T)).tmps.getD s undef=f.x.ev Y (Yh cx.nm a) T:=by rw [D.dst];exact W1 hs'
 have aa:∀ t,t≠s->(a.put Z.dst (f.x.ev Y (Yh cx.nm a) T)).tmps.getD t undef=a.tmps.getD t undef:=by intro t ht;rw [D.dst];exact Z1 ht
 have key:Pre cx Y ops bm K w0 (listed.setIfInBounds f.i true) (a.put Z.dst (f.x.ev Y (Yh cx.nm a) T)) w L M T fl:=by
  have H:∀ u:Nat × Wa,(M.W.lookup u.1=some f.i->u.2=f.x)->Zts Y listed M.W a (Yh cx.nm a) T u ->
    Zts Y (listed.setIfInBounds f.i true) M.W (a.put Z.dst (f.x.ev Y (Yh cx.nm a) T)) (Yh cx.nm a) T u:=by
   intro u hc h j I hlj;by_cases J:u.1=s
   ·have:M.W.lookup u.1=some f.i:=by rw [J];exact D.wr
    rw [hc this,J];exact U
   rw [aa _ J];rcases hlj.of_set with rfl | hlj
   ·exact absurd (P.winj _ _ _ I D.wr) J
   exact h j I hlj
  obtain ⟨c1,c2⟩:=P.cons f hf;refine ⟨by rw [Zb9];exact P.defers,by rw [Zeu];exact P.size,P.same,P.comp,by rw [r];exact P.wp,P.len,P.ltm,P.ltF,P.wm,?_,?_,P.cons,?_,P.link,P.winj,P.wL,P.fL,?_,P.nd,?_,?_,by simp [P.lsize]⟩
  ·intro p hp;rw [r];exact H p (c1 p hp) (P.holdm p hp)
  ·intro f' hf' V u hu;rw [r];exact H u (c2 f' hf' u hu) (P.holdF f' hf' (fun h=>V h.set) u hu)
  ·intro f' hf' V;rw [r];exact P.vF f' hf' (fun h=>V h.set)
  ·intro j I;refine ⟨fun h=>?_,(P.unl j I).2⟩;rcases h.of_set with rfl | h
   ·exact P.fL f hf I
   exact (P.unl j I).1 h
  ·intro j I;rcases P.cover j I with h | h | h
   ·exact .inl h.set
   ·exact .inr (.inl h)
   exact .inr (.inr h)
  intro j oj X hlj q hq;rcases hlj.of_set with rfl | hlj
  ·rw [ho] at X
   cases X
   exact (hd q hq).set
  exact (P.closed j oj X hlj q hq).set
 unfold wpOp;simp only [ho]
 split
 ·rename_i hw;rw [G] at hw;left;unfold Oper.wp;have O:=v1 hw;rw [<-ac] at O;rw [Zo8 ok (fun _=>rfl) D.knd O];exact hn _ key
 rename_i hw;rw [G] at hw;have:=v2 (by simpa using hw);rw [this] at key;exact hn _ key
theorem Zvi {bm:Array Nat} {i:Nat}:∀ {l:Zd} {s:Nat},(l.foldl (fun s j=>s ||| 2 ^ j ||| bm.getD j 0) s).testBit i=true ->
  s.testBit i=true\/∃ j∈l,i=j\/(bm.getD j 0).testBit i=true:=by
 intro l
 induction l with
 | nil=>intro s h;exact .inl h
 | cons j l ih =>
  intro s h;simp only [Xh7] at h;rcases ih h with h | ⟨q,hq,h⟩
  ·simp only [Nat.testBit_or,Nat.testBit_two_pow,Xi0,decide_eq_true_eq] at h;rcases h with (h | h) | h
   ·exact .inl h
   ·exact .inr ⟨j,by simp,.inl h.symm⟩
   exact .inr ⟨j,by simp,.inr h⟩
  exact .inr ⟨q,Xgg _ hq,h⟩
theorem Zte (hb:Z1d ops bm=true) {c:Nat} {o:Oper} (r:ops[c]? = some o) :
  (∀ j∈Uz o,j<c)/\bm.getD c 0=(Uz o).foldl (fun s j=>s ||| 2 ^ j ||| bm.getD j 0) 0:=by
 have hc:c<ops.size:=(Array.getElem?_eq_some_iff.1 r).1;have:=List.all_eq_true.1 hb c (List.mem_range.2 hc);simp only [r,Xf4,Xhl,decide_eq_true_eq,beq_iff_eq] at this;exact this
theorem Zvm (hb:Z1d ops bm=true) (D:∀ i o,ops[i]? = some o->Lst listed i->∀ j∈Uz o,Lst listed j) (G:listed.size=ops.size) :
  ∀ (n c:Nat) (o:Oper),c<n->ops[c]? = some o->(∀ j∈Uz o,Lst listed j)->∀ i,(bm.getD c 0).testBit i=true->Lst listed i:=by
 intro n
 induction n with
 | zero=>intro c o h;omega
 | succ n ih =>
  intro c o hc R hd i O;obtain ⟨H,I⟩:=Zte hb R;rw [I] at O;rcases Zvi O with h | ⟨j,J,h | h⟩
  ·simp at h
  ·rw [h];exact hd j J
  have hlj:=hd j J;have M:j<ops.size:=by
   rw [<-G];rcases Xf0 j listed.size with h' | h'
   ·exact h'
   unfold Lst at hlj;simp [Xhx h'] at hlj
  have r:ops[j]? = some ops[j]:=Xg0 M;exact ih j ops[j] (by have:=H j J;omega) r (D j _ r hlj) i h
theorem Zsk:∀ {F:List FR} {K:W5} {e T:Zc} {h:Zk},FL.wp Y K (Zbj F) e T h ->
  (∀ f∈F,Zfz f.io=true->gOk Y e T f.g=true->f.io.sem Y h (f.as.map (Wa.ev Y e T))=some (f.x.ev Y e T))/\K e T h:=by
 intro F
 induction F with
 | nil=>intro K e T h r;exact ⟨fun f hf=>(by cases hf),r⟩
 | cons f F ih =>
  intro K e T h r
  cases hd:Zfz f.io with
  | false =>
   have:Zbj (f::F)=Zbj F:=by simp [Zbj,hd]
   rw [this] at r;obtain ⟨h1,H⟩:=ih r;refine ⟨fun I hf' D G=>?_,H⟩;rcases List.mem_cons.1 hf' with rfl | hf'
   ·rw [hd] at D;cases D
   exact h1 I hf' D G
  | true =>
   have:Zbj (f::F)=⟨f.g,.stab f.io f.as f.x⟩::Zbj F:=by simp [Zbj,hd]
   rw [this] at r;have r:FI.wp Y ⟨f.g,.stab f.io f.as f.x⟩ (FL.wp Y K (Zbj F)) e T h:=r;have:(gOk Y e T f.g=true->f.io.sem Y h (f.as.map (Wa.ev Y e T))=some (f.x.ev Y e T))/\FL.wp Y K (Zbj F) e T h:=by
    cases G:f.g with
    | none =>
     rw [G] at r;exact ⟨fun _=>r.1,r.2⟩
    | some J =>
     obtain ⟨x,b⟩:=J;rw [G] at r;simp only [FI.wp] at r
     split at r
     ·exact ⟨fun _=>r.1,r.2⟩
     rename_i hb;exact ⟨fun h=>absurd h hb,r⟩
   obtain ⟨h0,r⟩:=this;obtain ⟨h1,H⟩:=ih r;refine ⟨fun I hf' D G=>?_,H⟩;rcases List.mem_cons.1 hf' with rfl | hf'
   ·exact h0 G
   exact h1 I hf' D G
theorem Z9e {K:W5} {t:FT}:∀ {l:List FI} {e T:Zc} {h:Zk},FT.wp Y K (FT.app l t) e T h=FL.wp Y (FT.wp Y K t) l e T h:=by
 intro l
 induction l with
 | nil=>intros;rfl
 | cons x l ih =>
  intro e T h;simp only [FT.app,FT.wp,FL.wp];rw [show FT.wp Y K (FT.app l t)=FL.wp Y (FT.wp Y K t) l from funext fun e=>funext fun T=>funext fun h=>ih]
theorem Z5j {α β:Type} {f:α->Option β}:∀ {l:List α} {r:List β},Ztl f l=some r->∀ x∈l,∃ y∈r,f x=some y:=by
 intro l
 induction l with
 | nil=>intro r _ x hx;cases hx
 | cons a l ih =>
  intro r h x hx;simp only [Ztl,Xf8,Xfz] at h;obtain ⟨y,hy,H,D,rfl⟩:=h;rcases List.mem_cons.1 hx with rfl | hx
  ·exact ⟨y,by simp,hy⟩
  obtain ⟨z,hz,G⟩:=ih D x hx;exact ⟨z,Xgg _ hz,G⟩
theorem Zu3 {K:W5} {e T:Zc} {h:Zk}:∀ {ts:List FT} {r:FT},Zl8 ts=some r->FT.wp Y K r e T h->∀ t∈ts,FT.wp Y K t e T h:=by
 intro ts
 induction ts with
 | nil=>intro r D;cases D
 | cons x ts ih =>
  intro r D G t ht
  cases ts with
  | nil =>
   cases D
   rcases List.mem_cons.1 ht with rfl | ht
   ·exact G
   cases ht
  | cons y ts =>
   simp only [Zl8,Xfz] at D;obtain ⟨z,hz,rfl⟩:=D;rcases List.mem_cons.1 ht with rfl | ht
   ·exact G.1
   exact ih (by simpa only [Zl8,Xfz] using hz) G.2 t ht
theorem Z67 {m m':SM} {d H:Nat} {a:Act} {T:Zc} {r:Option Tmp} {ds:X3} (M:Wf cx) (I:a.tmps.size=cx.nt) (D:T.length=d) (h:Zoh cx m d r=some (ds,m',H)) (v:Value) :
  Yh cx.nm (a.put r v)=ds.e v (Yh cx.nm a)/\(ds.T v T).length=H/\d<=H /\
  (∀ p∈m',(p∈m/\(∀ s,r=some s->p.1≠s)/\(∀ j,Zjr ds=some j->p.2.isN j=false))\/(∃ s,r=some s/\ds = .push/\p=(s,.t d)/\s<cx.nt)):=by
 cases r with
 | none=>cases h;exact ⟨rfl,D,Xfy _,fun p hp=>.inl ⟨hp,fun s hs=>(by cases hs),fun j G=>(by cases G)⟩⟩
 | some s =>
  simp only [Zoh] at h
  split at h
  ·rename_i hs;have hs':s<a.tmps.size:=by rw [I];exact hs
   split at h
   ·rename_i i J
    cases h
    refine ⟨Zhr M hs' J,D,Xfy _,?_⟩;intro p hp;simp only [Xhi,Xf4,Xhg,bne_iff_ne,ne_eq] at hp;refine .inl ⟨hp.1,?_,?_⟩
    ·intro t ht;cases ht;exact hp.2.2
    intro j G;cases G;exact hp.2.1
   rename_i J
   cases h
   refine ⟨Zaz (List.idxOf?_eq_none_iff.1 J),by simp [X3.T,D],Nat.le_succ _,?_⟩;intro p hp;rcases List.mem_cons.1 hp with rfl | hp
   ·exact .inr ⟨s,rfl,rfl,rfl,hs⟩
   simp only [Xhi,bne_iff_ne,ne_eq] at hp;refine .inl ⟨hp.1,?_,fun j G=>by cases G⟩;intro t ht;cases ht;exact hp.2
  cases h
theorem Ztv {a:Act} {r:Option Tmp} {v:Value} {t:Nat} (h:∀ s,r=some s->t≠s):(a.put r v).tmps.getD t undef=a.tmps.getD t undef:=by
 cases r with
 | none=>rfl
 | some s=>exact Z1 (h s rfl)
theorem Zgb {α:Type} {l:List α} {p:α->Bool} (h:l.any p=false):∀ x∈l,p x=false:=by
 intro x hx
 cases hp:p x with
 | false=>rfl
 | true=>rw [List.any_eq_true.2 ⟨x,hx,hp⟩] at h;cases h
theorem Z35 (ok:Ok cx Y) (wf:Wf cx) (hb:Z1d ops bm=true) {i:Nat} {L:Zd} {O:DS} {T:Zc} {fl:FT} {o:Oper} {Q:Exit->Act->World->Prop} {Kw:Act->World->Prop}
  (P:Pre cx Y ops bm K w0 listed a w L O T fl) (X:i∈L) (he:Zb0 cx ops L=none) (ho:ops[i]? = some o) (hd:∀ j∈Uz o,Lst listed j)
  (hn:∀ a' w' aQ T' aR,Pre cx Y ops bm K w0 (listed.setIfInBounds i true) a' w' (L.erase i) aQ T' aR->Kw a' w'):wpOp cx.P ops Q i Kw a w:=by
 have af:Zp9 ops L i=true:=by
  simp only [Zp9,ho,Xhl,Xhg,Xjg,decide_eq_false_iff_not];intro q hq aS;exact (P.unl q aS).1 (hd q hq)
 have an:Zhi cx o=false:=by
  unfold Zb0 at he;have:=List.find?_eq_none.1 he i X;simp only [ho,af,Bool.and_true] at this;exact (Xij _).mp this
 obtain ⟨n,ag⟩:=P.comp;have ab:L.isEmpty=false:=by cases L with | nil=>cases X | cons x r=>rfl
 have aD:∃ n t,Zfu cx ops bm (Zbe cx ops bm n) L O i=some t/\FT.wp Y (fun e _ h=>K e h) t (Yh cx.nm a) T w.heap:=by
  cases n with
  | zero=>simp [Zbe,ab] at ag
  | succ n =>
   simp only [Zbe,ab,he,Xga,if_false,Xf8] at ag;obtain ⟨ts,aT,aE⟩:=ag;obtain ⟨t,ht,aU⟩:=Z5j aT i (List.mem_filter.2 ⟨X,af⟩);exact ⟨n,t,aU,Zu3 aE P.wp t ht⟩
 obtain ⟨n,t,hc,aV⟩:=aD;simp only [Zfu,ho] at hc
 split at hc
 case h_2=>cases hc
 rename_i g k xs hg hk
 split at hc
 ·cases hc
 rename_i as aW
 split at hc
 case isFalse=>cases hc
 rename_i aX;have aY:Za3 cx k o.dst=none:=by
  unfold Zhi at an;rw [hk] at an
  cases h:Za3 cx k o.dst with
  | none=>rfl
  | some x=>simp only [h] at an;cases an
 simp only [aY] at hc
 split at hc
 ·cases hc
 rename_i V
 split at hc
 ·cases hc
 rename_i ds m' d' aZ
 split at hc
 ·cases hc
 rename_i ins R
 split at hc
 case isFalse=>cases hc
 rename_i ah;simp only [Xfz] at hc;obtain ⟨J,av,rfl⟩:=hc;have ai:∀ u∈Ub O.m (Qa ops o.guard++xs),∃ j,O.W.lookup u.1=some j/\j∈Uz o:=by
  intro u hu;have:=List.all_eq_true.1 aX u hu
  cases h:O.W.lookup u.1 with
  | none=>rw [h] at this;cases this
  | some j=>rw [h] at this;exact ⟨j,rfl,by simpa using this⟩
 have aj:∀ u∈Ub O.m (Qa ops o.guard++xs),a.tmps.getD u.1 undef=u.2.ev Y (Yh cx.nm a) T:=by
  intro u hu;obtain ⟨j,H,aw⟩:=ai u hu;exact P.holdm u (Zly hu) j H (hd j aw)
 have ax:=Zhk (T:=T) (a:=a) ok aW fun u hu=>aj u (Qq (.inr hu));have ay:=Zlr (T:=T) (a:=a) ok hg fun u hu=>aj u (Qq (.inl hu));have a0:=P.unl i X;have az:i ∉ L.erase i/\(L.erase i).Nodup:=⟨P.nd.not_mem_erase,P.nd.erase i⟩
 have ad:∀ j,j∈L.erase i->j∈L:=fun j H=>List.mem_of_mem_erase H;have a1:i<listed.size:=by rw [P.lsize];exact a0.2
 have a2:∀ s,o.dst=some s->O.W.lookup s=none:=by
  intro s hs;rw [hs] at V
  cases h:O.W.lookup s with
  | none=>rfl
  | some j=>simp only [Zsh,h] at V;simp at V
 generalize aF:O.F.filter (fun f=>!(bm.getD i 0).testBit f.i)=F' at *
 have D:∀ f∈F',f∈O.F/\(bm.getD i 0).testBit f.i=false:=by
  intro f hf;rw [<-aF] at hf;obtain ⟨h1,h2⟩:=List.mem_filter.1 hf;exact ⟨h1,by simpa only [Xhg] using h2⟩
 have ao:∀ f∈O.F,f∈F'\/Lst listed f.i:=by
  intro f hf
  cases ht:(bm.getD i 0).testBit f.i with
  | true=>exact .inr (Zvm hb P.closed P.lsize (i+1) i o (Xim i) ho hd f.i ht)
  | false=>left;rw [<-aF];exact List.mem_filter.2 ⟨hf,by rw [ht];rfl⟩
 have aG:∀ f∈F',∀ j,Zjr ds=some j->Zhp j f=false:=by
  intro f hf j H;rw [H] at ah;have:=List.all_eq_true.1 (show F'.all (fun f=>!Zhp j f)=true from ah) f hf;simpa using this
 generalize aH:Xcl O.W i o.dst=W' at *
 have G:∀ t,(∀ s,o.dst=some s->t≠s)->W'.lookup t=O.W.lookup t:=by
  intro t ht;rw [<-aH]
  cases ak:o.dst with
  | none=>rfl
  | some s=>exact Xl (ht s ak)
 have M:∀ s,o.dst=some s->W'.lookup s=some i:=by
  intro s hs;rw [<-aH,hs];exact Wo
 have Z:∀ t j,O.W.lookup t=some j->∀ s,o.dst=some s->t≠s:=by
  intro t j h s hs e;rw [e,a2 s hs] at h;cases h
 have key:∀ (v:Value) (w':World),Same w w'->FL.wp Y (FT.wp Y (fun e _ h=>K e h) J) (Zbj F') (ds.e v (Yh cx.nm a)) (ds.T v T) w'.heap ->
   Pre cx Y ops bm K w0 (listed.setIfInBounds i true) (a.put o.dst v) w' (L.erase i) ⟨m',d',W',F'⟩ (ds.T v T) J:=by
  intro v w' aA hw;obtain ⟨al,aq,a3,ap⟩:=Z67 wf P.size P.len aZ v;obtain ⟨hst,hw⟩:=Zsk hw;have am:∀ y:Wa,y.lt O.d->y.lt d':=by
   intro y hy
   cases y with
   | t j=>exact Xib hy a3
   | _=>trivial
  have aI:∀ g:Option (Wa × Bool),gLt O.d g->gLt d' g:=by
   intro g hg
   cases g with
   | none=>trivial
   | some xw=>exact am _ hg
  have I:∀ f∈F',∀ j,Zjr ds=some j->f.x.isN j=false/\(∀ y∈f.as,y.isN j=false)/\(∀ u∈f.uses,u.2.isN j=false)/\(∀ x b,f.g=some (x,b)->x.isN j=false):=by
   intro f hf j H;have:=aG f hf j H;simp only [Zhp,Bool.or_eq_false_iff] at this;obtain ⟨⟨⟨h1,h2⟩,h3⟩,h4⟩:=this;refine ⟨h2,Zgb h1,Zgb h4,?_⟩;intro x b a4;rw [a4] at h3;exact h3
  have U:∀ f∈F',∃ o xs s,Xbx cx Y ops O.W f o xs s:=fun f hf=>P.link f (D f hf).1;have ae:∀ f∈F',∀ u∈f.uses,∃ j,O.W.lookup u.1=some j:=by
   intro f hf u hu;obtain ⟨o',aJ,s',lk⟩:=U f hf;obtain ⟨j,H,_⟩:=lk.uses u hu;exact ⟨j,H⟩
  have ar:∀ u:Nat × Wa,u.2.lt O.d->(∃ j,O.W.lookup u.1=some j)->(∀ j,Zjr ds=some j->u.2.isN j=false)->Zts Y listed O.W a (Yh cx.nm a) T u ->
    Zts Y (listed.setIfInBounds i true) W' (a.put o.dst v) (Yh cx.nm (a.put o.dst v)) (ds.T v T) u:=by
   intro u a5 ⟨j,H⟩ Vd h q hq hlq;have ab:=Z _ _ H;rw [G _ ab] at hq;rw [Ztv ab,al,Zj7 (by rw [P.len];exact a5) Vd];rcases hlq.of_set with rfl | hlq
   ·exact absurd X (P.wL _ _ hq)
   exact h q hq hlq
  refine ⟨by rw [Zb9];exact P.defers,by rw [Zeu];exact P.size,Same.trans P.same aA,⟨n,av⟩,by rw [al];exact hw,aq,?_,?_,?_,?_,?_,?_,?_,?_,?_,?_,?_,?_,az.2,?_,?_,by simp [P.lsize]⟩
  ·
   intro p hp;rcases ap p hp with ⟨h,_⟩ | ⟨s,_,ac,rfl,_⟩
   ·exact am _ (P.ltm p h)
   subst ac;have:(T++[v]).length=d':=aq;simp only [Xf9,Xg5,Xhy,P.len] at this;show O.d<d';omega
  ·
   intro f hf;obtain ⟨h1,h2,h3,h4⟩:=P.ltF f (D f hf).1;exact ⟨am _ h1,fun y hy=>am _ (h2 y hy),fun u hu=>am _ (h3 u hu),aI _ h4⟩
  ·
   intro p hp;rcases ap p hp with ⟨h,_⟩ | ⟨s,hs,_,rfl,_⟩
   ·obtain ⟨j,H⟩:=P.wm p h;exact ⟨j,by rw [G _ (Z _ _ H)];exact H⟩
   exact ⟨i,M s hs⟩
  ·
   intro p hp;rcases ap p hp with ⟨h,_,Vd⟩ | ⟨s,hs,ac,rfl,aK⟩
   ·exact ar p (P.ltm p h) (P.wm p h) Vd (P.holdm p h)
   intro q hq hlq;subst ac;rw [hs];simp only [Wa.ev,X3.T];rw [W1 (by rw [P.size];exact aK)];simp [<-P.len]
  ·
   intro f hf hl u hu;obtain ⟨h1,h2,h3,h4⟩:=P.ltF f (D f hf).1;exact ar u (h3 u hu) (ae f hf u hu) (fun j H=>(I f hf j H).2.2.1 u hu) (P.holdF f (D f hf).1 (fun h=>hl h.set) u hu)
  ·
   intro f hf;obtain ⟨c1,c2⟩:=P.cons f (D f hf).1;have a6:f.i≠i:=fun e=>P.fL f (D f hf).1 (by rw [e];exact X);refine ⟨?_,?_⟩
   ·intro p hp hq;rcases ap p hp with ⟨h,ab,_⟩ | ⟨s,hs,_,rfl,_⟩
    ·rw [G _ ab] at hq;exact c1 p h hq
    rw [M s hs] at hq;cases hq;exact absurd rfl a6
   intro f' hf' u hu hq;obtain ⟨j,H⟩:=ae f' hf' u hu;rw [G _ (Z _ _ H)] at hq;exact c2 f' (D f' hf').1 u hu hq
  ·
   intro f hf hl;obtain ⟨h1,h2,h3,h4⟩:=P.ltF f (D f hf).1;obtain ⟨v1,v2⟩:=P.vF f (D f hf).1 (fun h=>hl h.set);have hx:=Zj7 (Y:=Y) (x:=f.x) (ds:=ds) (e:=Yh cx.nm a) (T:=T) (v:=v) (by rw [P.len];exact h1) (fun j H=>(I f hf j H).1);have aL:=Z17 (Y:=Y) (g:=f.g) (ds:=ds) (e:=Yh cx.nm a) (T:=T) (v:=v) (by rw [P.len];exact h4) (fun j H=>(I f hf j H).2.2.2);have aM:=Zrw (Y:=Y) (l:=f.as) (ds:=ds) (e:=Yh cx.nm a) (T:=T) (v:=v) (by rw [P.len];exact h2) (fun j H=>(I f hf j H).2.1);rw [al];refine ⟨fun aa=>?_,fun aa=>?_⟩
   ·cases aN:Zfz f.io with
    | true=>exact hst f hf aN aa
    | false =>
     rw [aM,hx,Z4u (h':=w.heap) aN];exact v1 (by rw [<-aL];exact aa)
   ·rw [hx];exact v2 (by rw [<-aL];exact aa)
  ·
   intro f hf;obtain ⟨o',aJ,s',lk⟩:=U f hf;refine ⟨o',aJ,s',lk.op,lk.knd,lk.dst,lk.lt,lk.out,by rw [G _ (Z _ _ lk.wr)];exact lk.wr,?_,lk.ev⟩;intro u hu;obtain ⟨j,H,aw⟩:=lk.uses u hu;exact ⟨j,by rw [G _ (Z _ _ H)];exact H,aw⟩
  ·
   intro t u j ht hu;by_cases h1:∃ s,o.dst=some s/\t=s
   ·obtain ⟨s,hs,rfl⟩:=h1;rw [M _ hs] at ht
    cases ht
    by_cases h2:u=t
    ·exact h2.symm
    rw [G u (fun s' hs'=>by rw [hs] at hs';cases hs';exact h2)] at hu;exact absurd X (P.wL u _ hu)
   have a7:∀ s,o.dst=some s->t≠s:=fun s hs e=>h1 ⟨s,hs,e⟩;rw [G t a7] at ht;by_cases h2:∃ s,o.dst=some s/\u=s
   ·obtain ⟨s,hs,rfl⟩:=h2;rw [M _ hs] at hu
    cases hu
    exact absurd X (P.wL t _ ht)
   rw [G u (fun s hs e=>h2 ⟨s,hs,e⟩)] at hu;exact P.winj t u j ht hu
  ·
   intro t j h;by_cases h1:∃ s,o.dst=some s/\t=s
   ·obtain ⟨s,hs,rfl⟩:=h1;rw [M _ hs] at h
    cases h
    exact az.1
   rw [G t (fun s hs e=>h1 ⟨s,hs,e⟩)] at h;exact fun H=>P.wL t j h (ad _ H)
  ·
   exact fun f hf H=>P.fL f (D f hf).1 (ad _ H)
  ·
   intro j H;refine ⟨fun h=>?_,(P.unl j (ad _ H)).2⟩;rcases h.of_set with rfl | h
   ·exact az.1 H
   exact (P.unl j (ad _ H)).1 h
  ·
   intro j H;rcases P.cover j H with h | h | ⟨f,hf,rfl⟩
   ·exact .inl h.set
   ·by_cases aO:j=i
    ·subst aO;exact .inl (Lst.set_self a1)
    exact .inr (.inl ((Xji aO).2 h))
   rcases ao f hf with h | h
   ·exact .inr (.inr ⟨f,h,rfl⟩)
   exact .inl h.set
  
  intro j oj aB hlj q hq;rcases hlj.of_set with rfl | hlj
  ·rw [ho] at aB
   cases aB
   exact (hd q hq).set
  exact (P.closed j oj aB hlj q hq).set
 have hw:FI.wp Y ⟨g,ins⟩ (FL.wp Y (FT.wp Y (fun e _ h=>K e h) J) (Zbj F')) (Yh cx.nm a) T w.heap:=by
  have hw:FI.wp Y ⟨g,ins⟩ (FT.wp Y (fun e _ h=>K e h) (FT.app (Zbj F') J)) (Yh cx.nm a) T w.heap:=aV;rwa [show FT.wp Y (fun e _ h=>K e h) (FT.app (Zbj F') J)=FL.wp Y (FT.wp Y (fun e _ h=>K e h) J) (Zbj F') from funext fun e=>funext fun T=>funext fun h=>Z9e] at hw
 have ak:ins.dst=ds:=by
  cases k with
  | io io=>cases R;rfl
  | ef f=>cases R;rfl
  | call f=>cases R;rfl
  | callv=>cases as with
   | nil=>cases R
   | cons y r=>cases R;rfl
 have aP:ins.wp Y (FL.wp Y (FT.wp Y (fun e _ h=>K e h) J) (Zbj F')) (Yh cx.nm a) T w.heap->o.wp cx.P a w Kw Q:=by
  intro hw;refine Zjm ok hk ax.symm R hw fun v w' hs hk=>?_;exact hn _ _ _ _ _ (key v w' hs hk)
 unfold wpOp;simp only [ho];rw [ay]
 cases g with
 | none =>
  simp only [gOk,if_true];exact .inl (aP hw)
 | some xw =>
  obtain ⟨x,au⟩:=xw;simp only [FI.wp] at hw
  split at hw
  ·rename_i aC;have aa:gOk Y (Yh cx.nm a) T (some (x,au))=true:=aC;rw [if_pos aa];exact .inl (aP hw)
  rename_i aC;have aa:¬ (gOk Y (Yh cx.nm a) T (some (x,au))=true):=aC;rw [if_neg aa];rw [ak] at hw;exact hn _ _ _ _ _ (key undef w (Same.refl w) hw)
def Zfe (n:Nat) (listed:Array Bool):Nat:=(List.range n).countP fun i=>!listed.getD i false
theorem Zp3 {n:Nat} {listed:Array Bool} {i:Nat} (I:i<n) (U:listed.size=n) (V:¬ Lst listed i):Zfe n (listed.setIfInBounds i true)+1=Zfe n listed:=by
 have M:∀ (l:Zd),l.Nodup->(i∈l->l.countP (fun j=>!(listed.setIfInBounds i true).getD j false)+1=l.countP (fun j=>!listed.getD j false)) /\
   (i ∉ l->l.countP (fun j=>!(listed.setIfInBounds i true).getD j false)=l.countP (fun j=>!listed.getD j false)):=by
  intro l
  induction l with
  | nil=>intro _;exact ⟨fun h=>(by cases h),fun _=>rfl⟩
  | cons x l ih =>
   intro G;obtain ⟨hx,G⟩:=List.nodup_cons.1 G;obtain ⟨O,J⟩:=ih G;have H:(listed.setIfInBounds i true).getD i false=true:=Lst.set_self (by omega);have D:listed.getD i false=false:=(Xij _).mp V;refine ⟨fun I=>?_,fun I=>?_⟩
   ·simp only [Xi3];by_cases r:x=i
    ·subst r;rw [J hx,H,D]
     rfl
    have R:i∈l:=by
     rcases List.mem_cons.1 I with h | h
     ·exact absurd h.symm r
     exact h
    rw [getD_set_ne false (fun e=>r e.symm)];have:=O R;omega
   have r:x≠i:=fun e=>I (by rw [e];simp);simp only [Xi3];rw [J (fun h=>I (Xgg _ h)),getD_set_ne false (fun e=>r e.symm)]
 exact (M _ List.nodup_range).1 (List.mem_range.2 I)
theorem Zjw {n:Nat} {listed:Array Bool} (h:Zfe n listed=0):∀ i,i<n->Lst listed i:=by
 intro i r;have:=List.countP_eq_zero.1 h i (List.mem_range.2 r);simpa [Lst] using this
theorem Zxm {L:Zd} {H:DS} {T:Zc} {D:FT} (P:Pre cx Y ops bm K w0 listed a w L H T D) (h:∀ i,i<ops.size->Lst listed i):K (Yh cx.nm a) w.heap:=by
 cases L with
 | nil =>
  obtain ⟨n,hc⟩:=P.comp;have hf:D = .nil:=by cases n <;> simp [Zbe] at hc <;> exact hc.symm
  have G:=P.wp;rw [hf] at G;exact G
 | cons i r=>exact absurd (h i (P.unl i (by simp)).2) (P.unl i (by simp)).1
theorem Zo6 (hb:Z1d ops bm=true) (I:listed.size=ops.size) (h:Region.ready .any ops listed=[]):∀ i,i<ops.size->Lst listed i:=by
 intro i
 induction i using Nat.strongRecOn with
 | _ i ih =>
  intro J;by_cases G:Lst listed i
  ·exact G
  exfalso;have H:ops[i]? = some ops[i]:=Xg0 J;have r:=(Zte hb H).1;have:i∈Region.ready .any ops listed:=by
   rw [mem_ready];refine ⟨?_,ops[i],H,?_⟩
   ·have:listed.getD i false=false:=(Xij _).mp G;rw [Xhn] at this ⊢;rw [Xg0 (by omega)] at this ⊢;exact this
   intro e M D;have hd:e.on∈Uz ops[i]:=by
    simp only [Uz,List.mem_filterMap];exact ⟨e,by simpa using M,by rw [if_pos D]⟩
   have:=r _ hd;exact ih _ this (by omega)
  rw [h] at this
  cases this
theorem Z0a (R:Ok cx Y) (wf:Wf cx) (hb:Z1d ops bm=true) {Q:Exit->Act->World->Prop}
  (Z:∀ a' w',a'.defers=[]->a'.tmps.size=cx.nt->Same w0 w'->K (Yh cx.nm a') w'.heap->Q .normal a' w') :
  ∀ (r:Nat) {listed:Array Bool} {a:Act} {w:World} {L:Zd} {U:DS} {T:Zc} {V:FT},Zfe ops.size listed<=r ->
   Pre cx Y ops bm K w0 listed a w L U T V->wpAny cx.P .any ops Q r listed a w:=by
 intro r
 induction r with
 | zero =>
  intro listed a w L U T V hf P;have G:=Zjw (Nat.le_zero.1 hf);refine ⟨?_,Z a w P.defers P.size P.same (Zxm P G)⟩;apply List.eq_nil_iff_forall_not_mem.2;intro i X;obtain ⟨h0,o,J,_⟩:=mem_ready.1 X;have D:=(Array.getElem?_eq_some_iff.1 J).1;have:=G i D;unfold Lst at this;rw [Xhn,Xg0 (by rw [P.lsize];exact D)] at this h0;simp only [Xh9] at this h0;rw [this] at h0
  cases h0
 | succ r ih =>
  intro listed a w L U T V hf P;refine ⟨fun hr=>Z a w P.defers P.size P.same (Zxm P (Zo6 hb P.lsize hr)),?_⟩;intro i X;obtain ⟨h0,o,J,H⟩:=mem_ready.1 X;have hd:=Ztp H;have D:=(Array.getElem?_eq_some_iff.1 J).1;have I:¬ Lst listed i:=by
   intro M;unfold Lst at M;rw [Xhn,Xg0 (by rw [P.lsize];exact D)] at M h0;simp only [Xh9] at M h0;rw [M] at h0
   cases h0
  have O:=Zp3 D P.lsize I;obtain ⟨L',ac,T',ad,P',he⟩:=adv R L.length (Xfy _) P;rcases P'.cover i D with h | h | ⟨f,hf',rfl⟩
  ·exact absurd h I
  ·exact Z35 R wf hb P' h he J hd fun a' w' aa T'' ab P''=>ih (by omega) P''
  exact Zv9 R P' hf' I J hd fun a' P''=>ih (by omega) P''
theorem Z9k (I:Ok cx Y) (J:Wf cx):Zun cx Y (X2 cx):=by
 intro ops M hc id Q K a w G D O R;simp only [X2] at hc
 split at hc
 case isFalse=>cases hc
 rename_i hb;refine wp_region_any I.mixed ?_;have r:∀ i,¬ Lst (Array.replicate ops.size false) i:=by
  intro i h;unfold Lst at h;rw [Xhn,Array.getElem?_replicate] at h
  split at h <;> simp at h
 have P:Pre cx Y ops (Z5c ops) K w (Array.replicate ops.size false) a { w with drawn:=w.drawn+1 } (List.range ops.size) ⟨[],0,[],[]⟩ [] M:=by
  refine ⟨G,D,⟨rfl,rfl,rfl⟩,⟨_,hc⟩,O,rfl,?_,?_,?_,?_,?_,?_,?_,?_,?_,?_,?_,?_,List.nodup_range,?_,?_,by simp⟩
  all_goals first
   | (intro p hp;cases hp;done)
   | skip
  ·intro s t i h;cases h
  ·intro s i h;cases h
  ·exact fun i H=>⟨r i,List.mem_range.1 H⟩
  ·exact fun i H=>.inr (.inl (List.mem_range.2 H))
  exact fun i o _ h=>absurd h (r i)
 refine Z0a I J hb (w0:=w) R ops.size ?_ P;unfold Zfe;exact Xgk List.countP_le_length (by simp)
theorem Zvw (H:Ok cx Y) {f:FuncId} {I:Func} {S:Xm} (hf:cx.P.funcs[f]? = some I) (h:Zrd cx (X2 cx) I=some S)
  (args:Zc) (hp:Zk) (R:Ze) (J:args.length=S.np) (M:S.wp Y args hp R):Zpe cx.P f args hp R:=by
 have O:Wf cx:=by
  unfold Zrd at h
  split at h
  case isFalse=>cases h
  rename_i r;obtain ⟨_,D,G,_⟩:=r;refine ⟨?_,fun s hs=>by simpa using List.all_eq_true.1 D s hs⟩;have:∀ l:Zd,Zi6 l=true->l.Nodup:=by
   intro l
   induction l with
   | nil=>intro _;exact List.nodup_nil
   | cons x l ih =>
    intro h;simp only [Zi6,Xf4,Xhg,Xjg,decide_eq_false_iff_not] at h;exact List.nodup_cons.2 ⟨h.1,ih h.2⟩
  exact this _ G
 exact Zsj H (Z9k H O) hf h args hp R J M
end
def Operand.slot:Operand->Zd
 | .tmp s=>[s]
 | _=>[]
def Zr3 (ops:Array Oper):Zd :=
 (ops.foldl (fun (acc:Zd × Zd) o =>
  let rs:=o.op.operands.toList.flatMap Operand.slot
  let new:=rs.filter fun s=>!acc.1.contains s
  ((match o.dst with | some d=>d::acc.1 | none=>acc.1),new++acc.2)) ([],[])).2
def Zm3 (ops:Array Oper):Zd :=
 ops.toList.flatMap fun o=>match o.op,o.dst with | .assign _,some d=>[d] | _,_=>[]
def Zaq:Code->Zd
 | .seq a b=>Zaq a++Zaq b
 | .region _ ops _=>Zr3 ops++Zm3 ops
 | .cond c a b=>Operand.slot c++Zaq a++Zaq b
 | .block _ s=>Zaq s
 | .loop s=>Zaq s
 | _=>[]
def Znq (x:Nat):Zd->Zd
 | []=>[x]
 | y::r=>if x<y then x::y::r else if x=y then y::r else y::Znq x r
def Z65 (fn:Func):Zd :=
 let np:=fn.params.size+fn.nfree
 let rs:=fn.results.toList.map fun r=>match r with | .tmp t=>t | .cell a _=>a
 let cs:=match fn.body with | some c=>Zaq c | none=>[]
 List.range np++((rs++cs).filter (fun s=>np<=s)).foldl (fun l x=>Znq x l) []
structure Zal where
 P:Program
 fns:List (Nat × Nat)
 tps:List (Nat × Nat)
 gs:List (Nat × Nat)
def rev (l:List (Nat × Nat)) (f:Nat):Option Nat:=(l.find? (fun p=>p.2 == f)).map (·.1)
def Zal.cx (s:Zal) (fn:Func):Cx:=⟨s.P,rev s.fns,rev s.tps,rev s.gs,Z65 fn,fn.ntmps⟩
def Zal.comp (s:Zal) (fn:Func):Option Xm:=Zrd (s.cx fn) (X2 (s.cx fn)) fn
def Zqp (l:List (Nat × Nat)):Bool:=l.all fun p=>l.lookup p.1 == some p.2
def Zme (P:Program) (f:Nat):Bool :=
 match P.funcs[f]? with
 | some fn => !(fn.name == "runtime.NumGoroutine") && fn.body.isSome
 | none=>false
def Zal.ok (s:Zal):Bool:=Zqp s.fns && Zqp s.tps && Zqp s.gs && s.fns.all (fun p=>Zme s.P p.2) && s.P.follows .mixedOrders
theorem Z0q {P:Program} {f:FuncId} {xs:Zc} {h:Zk} {R R':Ze} (hc:Zpe P f xs h R) (r:∀ v h',R v h'->R' v h'):Zpe P f xs h R' :=
 fun w D=>(hc w D).mono fun _ _ ⟨v,G,H,hs⟩=>⟨v,G,r _ _ H,hs⟩
def Zal.sys (s:Zal):Sys where
 fid j:=(s.fns.lookup j).getD 0
 tid j:=(s.tps.lookup j).getD 0
 gid j:=(s.gs.lookup j).getD 0
 C:=Zpe s.P
 mono:=Z0q
 able f:=f∈s.fns.map (·.2)
theorem Zud {l:List (Nat × Nat)} (h:Zqp l=true) {f j:Nat} (r:rev l f=some j):l.lookup j=some f/\f∈l.map (·.2):=by
 simp only [rev,Xfz] at r;obtain ⟨p,hp,rfl⟩:=r;have hf:p.2=f:=by simpa using Xi2 hp
 have D:=Xi1 hp;have:=List.all_eq_true.1 h p D;refine ⟨?_,?_⟩
 ·rw [<-hf];simpa using this
 rw [<-hf];exact List.mem_map_of_mem D
theorem Zpz {P : Program} {f : Nat} (h : Zme P f = true) : ∃ fn, P.funcs[f]? = some fn ∧ (fn.name == "runtime.NumGoroutine") = false ∧ fn.body.isNone = false := by
 unfold Zme at h
 split at h
 ·rename_i fn hf;simp only [Xf4,Xhg] at h;refine ⟨fn,hf,h.1,?_⟩
  cases hb:fn.body with
  | none=>rw [hb] at h;simp at h
  | some c=>rfl
 cases h
theorem Zal.good {s:Zal} (h:s.ok=true) (fn:Func):Ok (s.cx fn) s.sys:=by
 simp only [Zal.ok,Xf4] at h;obtain ⟨⟨⟨⟨h1,h2⟩,h3⟩,h4⟩,h5⟩:=h;have hcall : ∀ f, f ∈ s.fns.map (·.2) → ∃ fn, s.P.funcs[f]? = some fn ∧ (fn.name == "runtime.NumGoroutine") = false ∧ fn.body.isNone = false := by
  intro f hf;obtain ⟨p,hp,rfl⟩:=List.mem_map.1 hf;exact Zpz (List.all_eq_true.1 h4 p hp)
 refine ⟨rfl,?_,?_,?_,h5,?_⟩
 ·intro f j hr;obtain ⟨g1,g2⟩:=Zud h1 hr;exact ⟨by simp [Zal.sys,g1],hcall f g2⟩
 ·intro t j hr;simp [Zal.sys,(Zud h2 hr).1]
 ·intro t j hr;simp [Zal.sys,(Zud h3 hr).1]
 exact fun f hf=>hcall f hf
theorem Zmz {l:List (Nat × Nat)} {j f:Nat} (h:l.lookup j=some f):f∈l.map (·.2):=by
 induction l with
 | nil=>cases h
 | cons p l ih =>
  obtain ⟨a,b⟩:=p;simp only [Xil] at h
  split at h
  ·cases h;simp
  ·exact Xgg _ (ih h)
theorem Zal.has {s:Zal} (h:s.ok=true) {j f:Nat} {D:Func} {S:Xm} (G:s.fns.lookup j=some f) (hf:s.P.funcs[f]? = some D) (hc:s.comp D=some S):s.sys.Has j S:=by
 have r:s.sys.fid j=f:=by simp [Zal.sys,G]
 refine ⟨?_,?_⟩
 ·rw [r];exact Zmz G
 intro args hp R H I;rw [r];exact Zvw (s.good h D) hf hc args hp R H I
end Go.Rm
